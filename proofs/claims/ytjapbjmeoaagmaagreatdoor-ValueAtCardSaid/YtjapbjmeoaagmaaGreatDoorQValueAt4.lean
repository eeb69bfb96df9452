/- Several texts of this proof in one. -/
import Derived.Test.YtjapbjmeoaagmaaGreatDoorQValueAt3
import Derived.Test.YtjapbjmeoaagmaaGreatDoorQValueAt1
import Derived.Test.YtjapbjmeoaagmaaGreatDoorQValueAt2
import Derived.Test.YtjapbjmeoaagmaaGreatDoorEValueAtPaR
import Derived.Test.YtjapbjmeoaagmaaGreatDoorEValueAtStr
import Derived.Deep.OwnRows
import Derived.Test.YtjapbjmeoaagmaaGreatDoorEValueAtGrowT
import Derived.Test.YtjapbjmeoaagmaaGreatDoorEValueAtGrowW
import Derived.IntWalk
import Derived.Deep.DeepCutAuto
import Derived.Test.YtjapbjmeoaagmaaGreatDoorRows
import Derived.SizedLaws
import Derived.LaidMore
import Derived.MakeChecks
import Derived.Lib.LaidTab
import Derived.Stop.LaidErr
import Derived.Lib.SmallJoins
import Derived.JoinedOf
import Derived.Test.YtjapbjmeoaagmaaGreatDoorChecked
import Derived.Test.YtjapbjmeoaagmaaGreatDoorEValueAtSh
import Derived.Test.YtjapbjmeoaagmaaGreatDoorEValueAtSi
set_option linter.unusedVariables false
set_option linter.unusedSimpArgs false
set_option maxRecDepth 100000
section
set_option maxRecDepth 100000
namespace Go.Proofs.YtjapbjmeoaagmaaGreatDoor
open Go.RowKit Go.Mem Orange
set_option maxHeartbeats 6400000 in
theorem few_step (N : Nat) (ih : ∀ (t : Tree) (A : Nat → Prop) (c : Array Value) (deep : Nat) (left : Int) (w : World), SizeOf.sizeOf t < N → okT t → -140737488355328 ≤ left → left ≤ 1000000 → deep ≤ 1000 → TV w A t c →
 Calls Tryz.prog 43 #[.agg c, .int .i64 left, .int .i64 (deep : Nat)] w (fun e w' => e = .returned (.int .i64 (fewT deep left t)) ∧ Ext w w')) :
 ∀ (t : Tree) (A : Nat → Prop) (c : Array Value) (deep : Nat) (left : Int) (w : World), SizeOf.sizeOf t < N + 1 → okT t → -140737488355328 ≤ left → left ≤ 1000000 → deep ≤ 1000 → TV w A t c →
 Calls Tryz.prog 43 #[.agg c, .int .i64 left, .int .i64 (deep : Nat)] w (fun e w' => e = .returned (.int .i64 (fewT deep left t)) ∧ Ext w w')
 | .mk k b d s l m, A, c, deep, left, w, hN, hok, hl0, hl1, hdp, ht => by
   have IH := Hd ih; clear ih; cases ht with
   | mk htl hrl htm hrm =>
   rename_i vL vM cl cm
   obtain ⟨_, a1, p1, rfl, hp1, hq1, _⟩ := id hrl; obtain ⟨_, a2, p2, rfl, hp2, hq2, _⟩ := id hrm; obtain ⟨R, hR⟩ := Ex (fewT deep left (.mk k b d s l m)); rw [hR]; rw [fewT] at hR; have HR := Hd hR; rw [okT] at hok; obtain ⟨_, _, hdl, hsl, hll, hml, hokl, hokm⟩ := hok
   have HOK := Hd (show d.digits.length ≤ 140737488355328 ∧ s.length ≤ 140737488355328 ∧ l.length ≤ 140737488355328 ∧ m.length ≤ 140737488355328 ∧ okL l ∧ okM m from ⟨hdl, hsl, hll, hml, hokl, hokm⟩); have hv0 := VAt.new w (cellsV k b d s (.slice a1 l.length p1) (.slice a2 m.length p2))
   have hx0 : Ext w (w.alloc (.cells (cellsV k b d s (.slice a1 l.length p1) (.slice a2 m.length p2)) 27)) := (ext_refl w).alloc (Nat.le_refl _) _; have HSU : Hid (SizeOf.sizeOf l < N ∧ SizeOf.sizeOf m < N) := Hd (by
    simp only [Tree.mk.sizeOf_spec] at hN; omega)
   clear hR hN hokl hokm; simp only [cellsV] at hv0 hx0 ⊢; go_enter Tryz.func43, Tryz.ntmps43
   go_upto_region 1 with fail; generalize w.alloc (.cells #[.int .i64 k, .bool b, .bool d.neg, .string ⟨d.digits.toArray⟩, .int .i64 d.exp, .string ⟨s.toArray⟩, .slice a1 l.length p1, .slice a2 m.length p2] 27) = w1 at *; obtain ⟨S, hS⟩ := Ex w.heap.size; rw [hS] at hv0 ⊢; have HC := Hd hv0; have HE := Hd hx0
   have HTL := Hd (htl.keep (A' := fun _ => True) hx0.size (fun g _ hlt => ⟨trivial, hx0.block g hlt⟩)); have HRL := Hd (hrl.keep (A' := fun _ => True) hx0.size (fun g _ hlt => ⟨trivial, hx0.block g hlt⟩)); have HTM := Hd (htm.keep (A' := fun _ => True) hx0.size (fun g _ hlt => ⟨trivial, hx0.block g hlt⟩))
   have HRM := Hd (hrm.keep (A' := fun _ => True) hx0.size (fun g _ hlt => ⟨trivial, hx0.block g hlt⟩)); clear hv0 hx0 htl hrl htm hrm hS; by_cases hd : 150 < deep
   · have hdi : (150 : Int) < deep := by omega
     have HF : Hid (R = -1) := Hd (by rw [← HR.out, if_pos hd]); go_wp2_with fail; go_ret; exact ⟨ret_int HF.out.symm, HE.out⟩
   have hdi : ¬ (150 : Int) < deep := by omega
   have HR2 : Hid (fewM (deep + 1) (fewL (deep + 1) (left - 1 - s.length - d.digits.length) l) m = R) := Hd (by rw [← HR.out, if_neg hd]); clear hd HR; obtain ⟨L1, hL1⟩ := Ex (left - 1); obtain ⟨L2, hL2⟩ := Ex (L1 - s.length); obtain ⟨L3, hL3⟩ := Ex (L2 - d.digits.length); have HR3 : Hid (fewM (deep + 1) (fewL (deep + 1) L3 l) m = R) := Hd (by rw [← HR2.out, hL1, hL2, hL3])
   have e1 : IntKind.i64.wrap (left - 1) = L1 := by rw [IntWalk.i64_in _ (by omega)]; exact hL1
   have e2 : IntKind.i64.wrap (L1 - s.length) = L2 := by rw [IntWalk.i64_in _ (by omega)]; exact hL2
   have e3 : IntKind.i64.wrap (L2 - d.digits.length) = L3 := by rw [IntWalk.i64_in _ (by omega)]; exact hL3
   have HL3 : Hid (-600000000000000 ≤ L3 ∧ L3 ≤ 1000000) := Hd (by omega); clear HR2 hL1 hL2 hL3; obtain ⟨c0, c1, c2, c3, c4, c5, c6, c7⟩ := HC.out.c8; go_wp2_with fail; clear c0 c1 c2 c3 c4 c5 c6 c7 e1 e2 e3; go_loopw [1, 7] (fun lv iv wr => ∃ i : Nat, lv = .int .i64 (fewL (deep + 1) L3 (l.take i)) ∧ iv = .int .i64 i ∧ i ≤ l.length ∧ Ext w1 wr) (fun _ iv _ => 9223372036854775808 - (intOf iv).toNat)
   case atStart => exact ⟨0, by rw [List.take_zero, fewL], rfl, by omega, ext_refl _⟩
   case round =>
    obtain ⟨i, rfl, rfl, hi, hE⟩ := hrel; have HX := Hd hE; clear hE; obtain ⟨X, hX⟩ := Ex (fewL (deep + 1) L3 (l.take i)); have HXX := Hd hX; have hXb := fewL_bd (l.take i) (deep + 1) L3 ((okL_iff _).2 (fun p hp => (okL_iff l).1 HOK.out.2.2.2.2.1 p (List.mem_of_mem_take hp))) HL3.out.1; rw [hX] at hXb ⊢; have HXB : Hid (-600000000000000 ≤ X ∧ X ≤ 1000000) := Hd (by have := HL3.out.2; omega); clear hX
    have hcr := HC.out.ext HX.out; have HCR := Hd hcr; clear hcr; have c6 := HCR.out.cell 6; simp at c6; by_cases hlt : i < l.length
    · have hlti : (i : Int) < l.length := by omega
      have hi0 : (0 : Int) ≤ i := by omega
      by_cases hX0 : 0 ≤ X
      · obtain ⟨g, o, xk, xb, xd, xs, xa1, xn1, xc1, xa2, xn2, xc2, rfl, htx, hcell⟩ := row_elem HRL.out HTL.out rfl i hlt; obtain ⟨x0, x1, x2, x3, x4, x5, x6, x7⟩ := hcell wr (fun g _ hg => HX.out.block g hg); have HTX := Hd (htx.keep (w' := wr) (A' := fun _ => True) HX.out.size (fun g _ hlt => ⟨trivial, HX.out.block g hlt⟩)); have HOX := Hd ((okL_iff l).1 HOK.out.2.2.2.2.1 l[i] (List.getElem_mem hlt))
        have HTK : Hid (fewL (deep + 1) L3 (l.take (i + 1)) = fewT (deep + 1) X l[i]) := Hd (by rw [fewL_take _ _ _ i hlt, HXX.out, if_pos hX0]); have HSI := Hd (mem_sizeL l i hlt HSU.out.1); clear htx hcell; generalize l[i] = x at *; have hxb := HXB.out.2; have e8 : IntKind.i64.wrap ((deep : Int) + 1) = ((deep + 1 : Nat) : Int) := by rw [IntWalk.i64_in _ (by omega)]; omega
        have e9 : IntKind.i64.wrap ((i : Int) + 1) = ((i + 1 : Nat) : Int) := by rw [IntWalk.i64_in _ (by omega)]; omega
        go_wp2_with fail; refine (IH.out x _ _ (deep + 1) X wr HSI.out HOX.out (by omega) (by omega) (by omega) HTX.out).mono ?_; rintro e w4 ⟨rfl, hw4⟩; have HE4 := Hd (ext_trans HX.out hw4); clear hw4 c6 x0 x1 x2 x3 x4 x5 x6 x7; go_wp2_with fail; go_roundw
        case rel => exact ⟨i + 1, by rw [HTK.out], by go_num, by omega, HE4.out⟩
        case measure => simp [intOf]; omega
      · have HXL : Hid (fewL (deep + 1) L3 l = X) := Hd (by rw [fewL_stop _ _ _ i (by rw [HXX.out]; omega), HXX.out]); go_wp2_with fail; clear c6; go_loopw [1, 8] (fun lv iv wx => ∃ i : Nat, lv = .int .i64 (fewM (deep + 1) X (m.take i)) ∧ iv = .int .i64 i ∧ i ≤ m.length ∧ Ext wr wx) (fun _ iv _ => 9223372036854775808 - (intOf iv).toNat)
        case atStart => exact ⟨0, by rw [List.take_zero, fewM], rfl, by omega, ext_refl _⟩
        case round =>
         obtain ⟨i, rfl, rfl, hi, hE⟩ := hrel; have HY := Hd hE; clear hE; obtain ⟨Y, hY⟩ := Ex (fewM (deep + 1) X (m.take i)); have HYY := Hd hY; have hYb := fewM_bd (m.take i) (deep + 1) X ((okM_iff _).2 (fun p hp => (okM_iff m).1 HOK.out.2.2.2.2.2 p (List.mem_of_mem_take hp))) HXB.out.1; have hxb := HXB.out.2; rw [hY] at hYb ⊢; clear hY; have hcr := HC.out.ext (ext_trans HX.out HY.out)
         have HCR := Hd hcr; clear hcr; have c7 := HCR.out.cell 7; simp at c7; by_cases hlt : i < m.length
         · have hlti : (i : Int) < m.length := by omega
           have hi0 : (0 : Int) ≤ i := by omega
           by_cases hY0 : 0 ≤ Y
           · obtain ⟨g, o, xk, xb, xd, xs, xa1, xn1, xc1, xa2, xn2, xc2, rfl, htx, hcell⟩ := mem_elem HRM.out HTM.out rfl i hlt; have HTX := Hd htx; have HXC := Hd hcell; have hokx := (okM_iff m).1 HOK.out.2.2.2.2.2 m[i] (List.getElem_mem hlt); have HTK : Hid (fewM (deep + 1) X (m.take (i + 1)) = fewT (deep + 1) (Y - m[i].1.length) m[i].2) := Hd (by rw [fewM_take _ _ _ i hlt, HYY.out, if_pos hY0])
             have HSI := Hd (mem_size m i hlt HSU.out.2); have hYX : Hid (fewM (deep + 1) X m = fewM (deep + 1) X m) := Hd rfl
             have HIH : Hid (∀ w', Ext wr w' → Calls Tryz.prog 43 #[.agg (cellsV xk xb xd xs (.slice xa1 xn1 xc1) (.slice xa2 xn2 xc2)), .int .i64 (Y - m[i].1.length), .int .i64 (deep + 1 : Nat)] w' (fun e w'' => e = .returned (.int .i64 (fewT (deep + 1) (Y - m[i].1.length) m[i].2)) ∧ Ext w' w'')) := Hd (fun w' hw =>
              IH.out m[i].2 (fun _ => True) _ (deep + 1) (Y - m[i].1.length) w' (mem_size m i hlt HSU.out.2) hokx.2 (by have := hokx.1; omega) (by omega) (by omega) (HTX.out.keep (ext_trans (ext_trans HX.out HY.out) hw).size (fun g _ hlt => ⟨trivial, (ext_trans (ext_trans HX.out HY.out) hw).block g hlt⟩)))
             obtain ⟨ky, hky⟩ := Ex (m[i].1); have HFX : Hid (∀ w', Ext wr w' → w'.cell? ⟨g, o + i * 9, none⟩ = some (.string ⟨ky.toArray⟩) ∧ w'.cell? ⟨g, o + i * 9 + 1, none⟩ = some (.int .i64 xk) ∧ w'.cell? ⟨g, o + i * 9 + 2, none⟩ = some (.bool xb) ∧ w'.cell? ⟨g, o + i * 9 + 3, none⟩ = some (.bool xd.neg) ∧ w'.cell? ⟨g, o + i * 9 + 4, none⟩ = some (.string ⟨xd.digits.toArray⟩) ∧
              w'.cell? ⟨g, o + i * 9 + 5, none⟩ = some (.int .i64 xd.exp) ∧ w'.cell? ⟨g, o + i * 9 + 6, none⟩ = some (.string ⟨xs.toArray⟩) ∧ w'.cell? ⟨g, o + i * 9 + 7, none⟩ = some (.slice xa1 xn1 xc1) ∧ w'.cell? ⟨g, o + i * 9 + 8, none⟩ = some (.slice xa2 xn2 xc2) ∧ w'.cell? ⟨S, 7, none⟩ = some (.slice (some ⟨g, o, none⟩) m.length p2)) := Hd (fun w' hw => by
              obtain ⟨x0, x1, x2, x3, x4, x5, x6, x7, x8⟩ := hcell w' (fun g _ hg => (ext_trans (ext_trans HX.out HY.out) hw).block g hg); have c7 := (HCR.out.ext hw).cell 7; simp at c7; rw [hky] at x0; exact ⟨x0, x1, x2, x3, x4, x5, x6, x7, x8, c7⟩)
             obtain ⟨Z, hZ⟩ := Ex (fewT (deep + 1) (Y - m[i].1.length) m[i].2); obtain ⟨V, hV⟩ := Ex (Y - (ky.length : Int)); have hih := HIH.out; have htk := HTK.out; rw [hZ] at hih htk; rw [hky, hV] at hih; replace HIH := Hd hih; replace HTK := Hd htk; have hkl : ky.length ≤ 140737488355328 := by rw [← hky]; exact hokx.1
             clear hih htk hZ hky htx hcell hokx HTX HXC hYX; have e7 : IntKind.i64.wrap (Y - (ky.length : Int)) = V := by rw [IntWalk.i64_in _ (by omega)]; exact hV
             have e6 : IntKind.i64.wrap V = V := IntWalk.i64_in _ (by omega); have e8 : IntKind.i64.wrap ((deep : Int) + 1) = ((deep + 1 : Nat) : Int) := by rw [IntWalk.i64_in _ (by omega)]; omega
             have e9 : IntKind.i64.wrap ((i : Int) + 1) = ((i + 1 : Nat) : Int) := by rw [IntWalk.i64_in _ (by omega)]; omega
             go_upto_region 11 with fail; clear c7; refine Grow.wp_region_litW (G := Ext) (B := fun w' => Ext wr w') (anc := fun _ => []) (I := fun j => if j = 17 then some (Grow.Spec.val Ext (.int .i64 Z)) else none) (by kernel_rfl) (by kernel_rfl) (by kernel_rfl) ?_ ?_ ?_
             · exact fun w w' h hg => ext_trans h hg
             · exact (ext_refl _).drew
             repeat
              (refine Grow.Wk.step (fun K hK => ?_)
               first
               | (refine Grow.step_read (by rfl) (by rfl) ext_refl ?_
                  apply Exists.intro; refine ⟨fun w hB hF => ?_, ?_⟩
                  · obtain ⟨x0, x1, x2, x3, x4, x5, x6, x7, x8, c7⟩ := HFX.out _ hB; go_simp; try exact rfl
                  go_simp; refine hK _ _ ?_; clear hK K)
               | (refine Grow.step_off (by rfl) ?_
                  go_simp; refine hK _ _ ?_; clear hK K))
             refine Grow.Wk.step (fun K hK => ?_); refine Grow.step_rel (by rfl) (by rfl) (fun w' hB hF => ?_) (fun v hv => ?_)
             · go_simp; refine Grow.relUpon_enter ((HIH.out w' hB).mono ?_); rintro e w'' ⟨rfl, hw''⟩; exact ⟨_, rfl, hw'', rfl, trivial⟩
             obtain rfl : v = _ := hv; go_simp; refine hK _ _ ?_; clear hK K; repeat
              (refine Grow.Wk.step (fun K hK => ?_)
               first
               | (refine Grow.step_read (by rfl) (by rfl) ext_refl ?_
                  apply Exists.intro; refine ⟨fun w hB hF => ?_, ?_⟩
                  · skip
                    go_simp; try exact rfl
                  go_simp; refine hK _ _ ?_; clear hK K)
               | (refine Grow.step_off (by rfl) ?_
                  go_simp; refine hK _ _ ?_; clear hK K))
             refine Grow.Wk.nil ?_; intro w4 hB hF; clear hF; have HE4 := Hd (ext_trans HY.out hB); clear hB; go_wp2_with fail; go_roundw
             case rel => exact ⟨i + 1, by rw [HTK.out], by go_num, by omega, HE4.out⟩
             case measure => simp [intOf]; omega
           · have HF : Hid (Y = R) := Hd (by rw [← HR3.out, HXL.out, fewM_stop _ _ _ i (by rw [HYY.out]; omega), HYY.out]); have HEE := Hd (ext_trans HE.out (ext_trans HX.out HY.out)); go_wp2_with fail; go_ret; exact ⟨ret_int HF.out, HEE.out⟩
         · obtain rfl : i = m.length := by omega
           have hnlt : ¬ ((m.length : Int) < (m.length : Int)) := by omega
           have HF : Hid (Y = R) := Hd (by rw [← HR3.out, HXL.out, ← HYY.out, List.take_length]); have HEE := Hd (ext_trans HE.out (ext_trans HX.out HY.out)); go_wp2_with fail; go_ret; exact ⟨ret_int HF.out, HEE.out⟩
    · obtain rfl : i = l.length := by omega
      have hnlt : ¬ ((l.length : Int) < (l.length : Int)) := by omega
      have HXL : Hid (fewL (deep + 1) L3 l = X) := Hd (by rw [← HXX.out, List.take_length]); go_wp2_with fail; clear c6; go_loopw [1, 8] (fun lv iv wx => ∃ i : Nat, lv = .int .i64 (fewM (deep + 1) X (m.take i)) ∧ iv = .int .i64 i ∧ i ≤ m.length ∧ Ext wr wx) (fun _ iv _ => 9223372036854775808 - (intOf iv).toNat)
      case atStart => exact ⟨0, by rw [List.take_zero, fewM], rfl, by omega, ext_refl _⟩
      case round =>
       obtain ⟨i, rfl, rfl, hi, hE⟩ := hrel; have HY := Hd hE; clear hE; obtain ⟨Y, hY⟩ := Ex (fewM (deep + 1) X (m.take i)); have HYY := Hd hY; have hYb := fewM_bd (m.take i) (deep + 1) X ((okM_iff _).2 (fun p hp => (okM_iff m).1 HOK.out.2.2.2.2.2 p (List.mem_of_mem_take hp))) HXB.out.1; have hxb := HXB.out.2; rw [hY] at hYb ⊢; clear hY; have hcr := HC.out.ext (ext_trans HX.out HY.out)
       have HCR := Hd hcr; clear hcr; have c7 := HCR.out.cell 7; simp at c7; by_cases hlt : i < m.length
       · have hlti : (i : Int) < m.length := by omega
         have hi0 : (0 : Int) ≤ i := by omega
         by_cases hY0 : 0 ≤ Y
         · obtain ⟨g, o, xk, xb, xd, xs, xa1, xn1, xc1, xa2, xn2, xc2, rfl, htx, hcell⟩ := mem_elem HRM.out HTM.out rfl i hlt; have HTX := Hd htx; have HXC := Hd hcell; have hokx := (okM_iff m).1 HOK.out.2.2.2.2.2 m[i] (List.getElem_mem hlt); have HTK : Hid (fewM (deep + 1) X (m.take (i + 1)) = fewT (deep + 1) (Y - m[i].1.length) m[i].2) := Hd (by rw [fewM_take _ _ _ i hlt, HYY.out, if_pos hY0])
           have HSI := Hd (mem_size m i hlt HSU.out.2); have hYX : Hid (fewM (deep + 1) X m = fewM (deep + 1) X m) := Hd rfl
           have HIH : Hid (∀ w', Ext wr w' → Calls Tryz.prog 43 #[.agg (cellsV xk xb xd xs (.slice xa1 xn1 xc1) (.slice xa2 xn2 xc2)), .int .i64 (Y - m[i].1.length), .int .i64 (deep + 1 : Nat)] w' (fun e w'' => e = .returned (.int .i64 (fewT (deep + 1) (Y - m[i].1.length) m[i].2)) ∧ Ext w' w'')) := Hd (fun w' hw =>
            IH.out m[i].2 (fun _ => True) _ (deep + 1) (Y - m[i].1.length) w' (mem_size m i hlt HSU.out.2) hokx.2 (by have := hokx.1; omega) (by omega) (by omega) (HTX.out.keep (ext_trans (ext_trans HX.out HY.out) hw).size (fun g _ hlt => ⟨trivial, (ext_trans (ext_trans HX.out HY.out) hw).block g hlt⟩)))
           obtain ⟨ky, hky⟩ := Ex (m[i].1); have HFX : Hid (∀ w', Ext wr w' → w'.cell? ⟨g, o + i * 9, none⟩ = some (.string ⟨ky.toArray⟩) ∧ w'.cell? ⟨g, o + i * 9 + 1, none⟩ = some (.int .i64 xk) ∧ w'.cell? ⟨g, o + i * 9 + 2, none⟩ = some (.bool xb) ∧ w'.cell? ⟨g, o + i * 9 + 3, none⟩ = some (.bool xd.neg) ∧ w'.cell? ⟨g, o + i * 9 + 4, none⟩ = some (.string ⟨xd.digits.toArray⟩) ∧
            w'.cell? ⟨g, o + i * 9 + 5, none⟩ = some (.int .i64 xd.exp) ∧ w'.cell? ⟨g, o + i * 9 + 6, none⟩ = some (.string ⟨xs.toArray⟩) ∧ w'.cell? ⟨g, o + i * 9 + 7, none⟩ = some (.slice xa1 xn1 xc1) ∧ w'.cell? ⟨g, o + i * 9 + 8, none⟩ = some (.slice xa2 xn2 xc2) ∧ w'.cell? ⟨S, 7, none⟩ = some (.slice (some ⟨g, o, none⟩) m.length p2)) := Hd (fun w' hw => by
            obtain ⟨x0, x1, x2, x3, x4, x5, x6, x7, x8⟩ := hcell w' (fun g _ hg => (ext_trans (ext_trans HX.out HY.out) hw).block g hg); have c7 := (HCR.out.ext hw).cell 7; simp at c7; rw [hky] at x0; exact ⟨x0, x1, x2, x3, x4, x5, x6, x7, x8, c7⟩)
           obtain ⟨Z, hZ⟩ := Ex (fewT (deep + 1) (Y - m[i].1.length) m[i].2); obtain ⟨V, hV⟩ := Ex (Y - (ky.length : Int)); have hih := HIH.out; have htk := HTK.out; rw [hZ] at hih htk; rw [hky, hV] at hih; replace HIH := Hd hih; replace HTK := Hd htk; have hkl : ky.length ≤ 140737488355328 := by rw [← hky]; exact hokx.1
           clear hih htk hZ hky htx hcell hokx HTX HXC hYX; have e7 : IntKind.i64.wrap (Y - (ky.length : Int)) = V := by rw [IntWalk.i64_in _ (by omega)]; exact hV
           have e6 : IntKind.i64.wrap V = V := IntWalk.i64_in _ (by omega); have e8 : IntKind.i64.wrap ((deep : Int) + 1) = ((deep + 1 : Nat) : Int) := by rw [IntWalk.i64_in _ (by omega)]; omega
           have e9 : IntKind.i64.wrap ((i : Int) + 1) = ((i + 1 : Nat) : Int) := by rw [IntWalk.i64_in _ (by omega)]; omega
           go_upto_region 11 with fail; clear c7; refine Grow.wp_region_litW (G := Ext) (B := fun w' => Ext wr w') (anc := fun _ => []) (I := fun j => if j = 17 then some (Grow.Spec.val Ext (.int .i64 Z)) else none) (by kernel_rfl) (by kernel_rfl) (by kernel_rfl) ?_ ?_ ?_
           · exact fun w w' h hg => ext_trans h hg
           · exact (ext_refl _).drew
           repeat
            (refine Grow.Wk.step (fun K hK => ?_)
             first
             | (refine Grow.step_read (by rfl) (by rfl) ext_refl ?_
                apply Exists.intro; refine ⟨fun w hB hF => ?_, ?_⟩
                · obtain ⟨x0, x1, x2, x3, x4, x5, x6, x7, x8, c7⟩ := HFX.out _ hB; go_simp; try exact rfl
                go_simp; refine hK _ _ ?_; clear hK K)
             | (refine Grow.step_off (by rfl) ?_
                go_simp; refine hK _ _ ?_; clear hK K))
           refine Grow.Wk.step (fun K hK => ?_); refine Grow.step_rel (by rfl) (by rfl) (fun w' hB hF => ?_) (fun v hv => ?_)
           · go_simp; refine Grow.relUpon_enter ((HIH.out w' hB).mono ?_); rintro e w'' ⟨rfl, hw''⟩; exact ⟨_, rfl, hw'', rfl, trivial⟩
           obtain rfl : v = _ := hv; go_simp; refine hK _ _ ?_; clear hK K; repeat
            (refine Grow.Wk.step (fun K hK => ?_)
             first
             | (refine Grow.step_read (by rfl) (by rfl) ext_refl ?_
                apply Exists.intro; refine ⟨fun w hB hF => ?_, ?_⟩
                · skip
                  go_simp; try exact rfl
                go_simp; refine hK _ _ ?_; clear hK K)
             | (refine Grow.step_off (by rfl) ?_
                go_simp; refine hK _ _ ?_; clear hK K))
           refine Grow.Wk.nil ?_; intro w4 hB hF; clear hF; have HE4 := Hd (ext_trans HY.out hB); clear hB; go_wp2_with fail; go_roundw
           case rel => exact ⟨i + 1, by rw [HTK.out], by go_num, by omega, HE4.out⟩
           case measure => simp [intOf]; omega
         · have HF : Hid (Y = R) := Hd (by rw [← HR3.out, HXL.out, fewM_stop _ _ _ i (by rw [HYY.out]; omega), HYY.out]); have HEE := Hd (ext_trans HE.out (ext_trans HX.out HY.out)); go_wp2_with fail; go_ret; exact ⟨ret_int HF.out, HEE.out⟩
       · obtain rfl : i = m.length := by omega
         have hnlt : ¬ ((m.length : Int) < (m.length : Int)) := by omega
         have HF : Hid (Y = R) := Hd (by rw [← HR3.out, HXL.out, ← HYY.out, List.take_length]); have HEE := Hd (ext_trans HE.out (ext_trans HX.out HY.out)); go_wp2_with fail; go_ret; exact ⟨ret_int HF.out, HEE.out⟩
theorem few_any (t : Tree) (A : Nat → Prop) (c : Array Value) (left : Int) (w : World) (hok : okT t) (h0 : 0 ≤ left) (h1 : left ≤ 1000000) (h : TV w A t c) :
 Calls Tryz.prog 15 #[.agg c, .int .i64 left] w (fun e w' => e = .returned (.bool (decide (0 ≤ fewT 0 left t))) ∧ Ext w w') := by
 have key : ∀ N : Nat, ∀ (t : Tree) (A : Nat → Prop) (c : Array Value) (deep : Nat) (left : Int) (w : World), SizeOf.sizeOf t < N → okT t → -140737488355328 ≤ left → left ≤ 1000000 → deep ≤ 1000 → TV w A t c →
  Calls Tryz.prog 43 #[.agg c, .int .i64 left, .int .i64 (deep : Nat)] w (fun e w' => e = .returned (.int .i64 (fewT deep left t)) ∧ Ext w w') := by
  intro N; induction N with
  | zero => intro t A c deep left w h; omega
  | succ N ih => exact few_step N ih
 obtain ⟨k, b, d, s, la, ln, lc, ma, mn, mc, rfl⟩ := h.eight; have hv := VAt.new w (cellsV k b d s (.slice la ln lc) (.slice ma mn mc)); have hx : Ext w (w.alloc (.cells (cellsV k b d s (.slice la ln lc) (.slice ma mn mc)) 27)) := (ext_refl w).alloc (Nat.le_refl _) _; simp only [cellsV] at hv hx ⊢; go_enter Tryz.func15, Tryz.ntmps15
 go_upto_region 1 with fail; generalize w.alloc (.cells #[.int .i64 k, .bool b, .bool d.neg, .string ⟨d.digits.toArray⟩, .int .i64 d.exp, .string ⟨s.toArray⟩, .slice la ln lc, .slice ma mn mc] 27) = w1 at *; have HT := Hd (h.keep (w' := w1) (A' := fun _ => True) hx.size (fun g _ hlt => ⟨trivial, hx.block g hlt⟩)); obtain ⟨S, hS⟩ := Ex w.heap.size; rw [hS] at hv ⊢
 obtain ⟨c0, c1, c2, c3, c4, c5, c6, c7⟩ := hv.c8; have HE := Hd hx; clear h hx hS hv; go_wp2_with fail; refine (key _ t _ _ 0 left w1 (Nat.lt_succ_self _) hok (by omega) h1 (by omega) HT.out).mono ?_; rintro e w2 ⟨rfl, hw2⟩; have HE2 := Hd (ext_trans HE.out hw2); clear hw2; go_wp2_with fail; go_ret; exact ⟨ret_bool (by simp), HE2.out⟩
end Go.Proofs.YtjapbjmeoaagmaaGreatDoor
end

section
set_option maxRecDepth 100000
namespace Orange
def lookP : List UInt8 → List UInt8 × Nat × Bool
 | 92 :: 34 :: _ => ([34], 2, true)
 | 92 :: 92 :: _ => ([92, 92], 2, true)
 | 39 :: _ => ([92, 39], 1, true)
 | _ => ([], 0, false)
end Orange
namespace Go.Proofs.YtjapbjmeoaagmaaGreatDoor
open Go.RowKit Go.Mem Orange
theorem ext1 (c : UInt8) (r : List UInt8) : (⟨(c :: r).toArray⟩ : ByteArray).extract 1 (r.length + 1) = ⟨r.toArray⟩ := by
 apply ByteArray.ext
 apply Array.toList_inj.1
 simp [ByteArray.data_extract, Array.toList_extract, List.extract_eq_take_drop]
set_option maxHeartbeats 3200000 in
theorem look_39a (g tb : Nat)  (w : World) (hT : Trie w g tb) :
 Calls Tryz.prog 268 #[.pointer (some ⟨g, 0, none⟩), .string ⟨(39 :: ([] : List UInt8)).toArray⟩, .bool false] w (fun e w' => e = .returned (.tuple #[.string ⟨#[92, 39]⟩, .int .i64 1, .bool true]) ∧ Ext w w') := by
 have hp := hT.gb.prio; have hs := hT.gb.siz; have ht := hT.gb.tab; have hem : ByteArray.empty = (⟨#[]⟩ : ByteArray) := rfl; have hm : w.cell? ⟨g, 45, none⟩ = some (.int .u8 1) := hT.gb.map 39 (by omega); have t1 : w.cell? ⟨tb, 1, none⟩ = some (.pointer (some ⟨tb + 5, 0, none⟩)) := hT.b0.cell 1; have n1 : w.cell? ⟨tb + 5, 1, none⟩ = some (.int .i64 2) := hT.b5.cell 1
 have n0 : w.cell? ⟨tb + 5, 0, none⟩ = some (.string ⟨#[92, 39]⟩) := hT.b5.cell 0; have n2 : w.cell? ⟨tb + 5, 2, none⟩ = some (.string ⟨#[]⟩) := hT.b5.cell 2; have n4 : w.cell? ⟨tb + 5, 4, none⟩ = some (.slice none 0 0) := hT.b5.cell 4; have ng : ¬ tb + 5 = g := by have := hT.lt; omega
 have e0 : ∀ h, ((⟨(39 :: ([] : List UInt8)).toArray⟩ : ByteArray)[0]'h).toNat = 39 := fun _ => rfl; have x0 : (⟨(39 :: ([] : List UInt8)).toArray⟩ : ByteArray).extract 1 1 = ⟨(([] : List UInt8)).toArray⟩ := ext1 39 ([] : List UInt8); clear hT; go_enter Tryz.func268, Tryz.ntmps268
 go_wp2_with fail; refine wp_loop_rounds 2 ?_; rw [rounds_succ]; go_wp2_with fail; go_region
 go_wp2_with fail; rw [rounds_succ]; go_wp2_with fail; go_ret3; exact ⟨rfl, by first | exact ext_refl w | exact (ext_refl w).drew | exact (ext_refl w).drew.drew⟩
set_option maxHeartbeats 3200000 in
theorem look_39b (g tb : Nat) (d : UInt8) (r : List UInt8) (w : World) (hT : Trie w g tb) :
 Calls Tryz.prog 268 #[.pointer (some ⟨g, 0, none⟩), .string ⟨(39 :: d :: r).toArray⟩, .bool false] w (fun e w' => e = .returned (.tuple #[.string ⟨#[92, 39]⟩, .int .i64 1, .bool true]) ∧ Ext w w') := by
 have hp := hT.gb.prio; have hs := hT.gb.siz; have ht := hT.gb.tab; have hem : ByteArray.empty = (⟨#[]⟩ : ByteArray) := rfl; have hm : w.cell? ⟨g, 45, none⟩ = some (.int .u8 1) := hT.gb.map 39 (by omega); have t1 : w.cell? ⟨tb, 1, none⟩ = some (.pointer (some ⟨tb + 5, 0, none⟩)) := hT.b0.cell 1; have n1 : w.cell? ⟨tb + 5, 1, none⟩ = some (.int .i64 2) := hT.b5.cell 1
 have n0 : w.cell? ⟨tb + 5, 0, none⟩ = some (.string ⟨#[92, 39]⟩) := hT.b5.cell 0; have n2 : w.cell? ⟨tb + 5, 2, none⟩ = some (.string ⟨#[]⟩) := hT.b5.cell 2; have n4 : w.cell? ⟨tb + 5, 4, none⟩ = some (.slice none 0 0) := hT.b5.cell 4; have ng : ¬ tb + 5 = g := by have := hT.lt; omega
 have e0 : ∀ h, ((⟨(39 :: (d :: r)).toArray⟩ : ByteArray)[0]'h).toNat = 39 := fun _ => rfl; have x0 : (⟨(39 :: (d :: r)).toArray⟩ : ByteArray).extract 1 (r.length + 1 + 1) = ⟨((d :: r)).toArray⟩ := ext1 39 (d :: r); have l0 : (0 : Int) < (r.length + 1 : Nat) + 1 := by omega
 clear hT; go_enter Tryz.func268, Tryz.ntmps268
 go_wp2_with fail; refine wp_loop_rounds 2 ?_; rw [rounds_succ]; go_wp2_with fail; go_region
 go_wp2_with fail; rw [rounds_succ]; go_wp2_with fail; go_ret3; exact ⟨rfl, by first | exact ext_refl w | exact (ext_refl w).drew | exact (ext_refl w).drew.drew⟩
set_option maxHeartbeats 3200000 in
theorem look_92a (g tb : Nat)  (w : World) (hT : Trie w g tb) :
 Calls Tryz.prog 268 #[.pointer (some ⟨g, 0, none⟩), .string ⟨(92 :: ([] : List UInt8)).toArray⟩, .bool false] w (fun e w' => e = .returned (.tuple #[.string ⟨#[]⟩, .int .i64 0, .bool false]) ∧ Ext w w') := by
 have hp := hT.gb.prio; have hs := hT.gb.siz; have ht := hT.gb.tab; have hem : ByteArray.empty = (⟨#[]⟩ : ByteArray) := rfl; have hm : w.cell? ⟨g, 98, none⟩ = some (.int .u8 2) := hT.gb.map 92 (by omega); have t2 : w.cell? ⟨tb, 2, none⟩ = some (.pointer (some ⟨tb + 1, 0, none⟩)) := hT.b0.cell 2; have a1 : w.cell? ⟨tb + 1, 1, none⟩ = some (.int .i64 0) := hT.b1.cell 1
 have a0 : w.cell? ⟨tb + 1, 0, none⟩ = some (.string ⟨#[]⟩) := hT.b1.cell 0; have a2 : w.cell? ⟨tb + 1, 2, none⟩ = some (.string ⟨#[]⟩) := hT.b1.cell 2; have a4 : w.cell? ⟨tb + 1, 4, none⟩ = some (.slice (some ⟨tb + 4, 0, none⟩) 3 3) := hT.b1.cell 4; have ag : ¬ tb + 1 = g := by have := hT.lt; omega
 have e0 : ∀ h, ((⟨(92 :: ([] : List UInt8)).toArray⟩ : ByteArray)[0]'h).toNat = 92 := fun _ => rfl; have x0 : (⟨(92 :: ([] : List UInt8)).toArray⟩ : ByteArray).extract 1 1 = ⟨(([] : List UInt8)).toArray⟩ := ext1 92 ([] : List UInt8); clear hT; go_enter Tryz.func268, Tryz.ntmps268
 go_wp2_with fail; refine wp_loop_rounds 2 ?_; rw [rounds_succ]; go_wp2_with fail; go_region
 go_wp2_with fail; rw [rounds_succ]; go_wp2_with fail; go_ret3; exact ⟨rfl, by first | exact ext_refl w | exact (ext_refl w).drew | exact (ext_refl w).drew.drew⟩
set_option maxHeartbeats 3200000 in
theorem look_92_34a (g tb : Nat)  (w : World) (hT : Trie w g tb) :
 Calls Tryz.prog 268 #[.pointer (some ⟨g, 0, none⟩), .string ⟨(92 :: 34 :: ([] : List UInt8)).toArray⟩, .bool false] w (fun e w' => e = .returned (.tuple #[.string ⟨#[34]⟩, .int .i64 2, .bool true]) ∧ Ext w w') := by
 have hp := hT.gb.prio; have hs := hT.gb.siz; have ht := hT.gb.tab; have hem : ByteArray.empty = (⟨#[]⟩ : ByteArray) := rfl; have hm : w.cell? ⟨g, 98, none⟩ = some (.int .u8 2) := hT.gb.map 92 (by omega); have t2 : w.cell? ⟨tb, 2, none⟩ = some (.pointer (some ⟨tb + 1, 0, none⟩)) := hT.b0.cell 2; have a1 : w.cell? ⟨tb + 1, 1, none⟩ = some (.int .i64 0) := hT.b1.cell 1
 have a0 : w.cell? ⟨tb + 1, 0, none⟩ = some (.string ⟨#[]⟩) := hT.b1.cell 0; have a2 : w.cell? ⟨tb + 1, 2, none⟩ = some (.string ⟨#[]⟩) := hT.b1.cell 2; have a4 : w.cell? ⟨tb + 1, 4, none⟩ = some (.slice (some ⟨tb + 4, 0, none⟩) 3 3) := hT.b1.cell 4; have ag : ¬ tb + 1 = g := by have := hT.lt; omega
 have hm2 : w.cell? ⟨g, 40, none⟩ = some (.int .u8 0) := hT.gb.map 34 (by omega); have u : w.cell? ⟨tb + 4, 0, none⟩ = some (.pointer (some ⟨tb + 2, 0, none⟩)) := hT.b4.cell 0; have n1 : w.cell? ⟨tb + 2, 1, none⟩ = some (.int .i64 6) := hT.b2.cell 1; have n0 : w.cell? ⟨tb + 2, 0, none⟩ = some (.string ⟨#[34]⟩) := hT.b2.cell 0
 have n2 : w.cell? ⟨tb + 2, 2, none⟩ = some (.string ⟨#[]⟩) := hT.b2.cell 2; have n4 : w.cell? ⟨tb + 2, 4, none⟩ = some (.slice none 0 0) := hT.b2.cell 4; have ng : ¬ tb + 2 = g := by have := hT.lt; omega
 have e0 : ∀ h, ((⟨(92 :: (34 :: ([] : List UInt8))).toArray⟩ : ByteArray)[0]'h).toNat = 92 := fun _ => rfl; have x0 : (⟨(92 :: (34 :: ([] : List UInt8))).toArray⟩ : ByteArray).extract 1 2 = ⟨((34 :: ([] : List UInt8))).toArray⟩ := ext1 92 (34 :: ([] : List UInt8)); have e1 : ∀ h, ((⟨(34 :: ([] : List UInt8)).toArray⟩ : ByteArray)[0]'h).toNat = 34 := fun _ => rfl
 have x1 : (⟨(34 :: ([] : List UInt8)).toArray⟩ : ByteArray).extract 1 1 = ⟨(([] : List UInt8)).toArray⟩ := ext1 34 ([] : List UInt8); clear hT; go_enter Tryz.func268, Tryz.ntmps268
 go_wp2_with fail; refine wp_loop_rounds 3 ?_; rw [rounds_succ]; go_wp2_with fail; go_region
 go_wp2_with fail; rw [rounds_succ]; go_wp2_with fail; go_region
 go_wp2_with fail; rw [rounds_succ]; go_wp2_with fail; go_ret3; exact ⟨rfl, by first | exact ext_refl w | exact (ext_refl w).drew | exact (ext_refl w).drew.drew⟩
set_option maxHeartbeats 3200000 in
theorem look_92_34b (g tb : Nat) (d : UInt8) (r : List UInt8) (w : World) (hT : Trie w g tb) :
 Calls Tryz.prog 268 #[.pointer (some ⟨g, 0, none⟩), .string ⟨(92 :: 34 :: (d :: r)).toArray⟩, .bool false] w (fun e w' => e = .returned (.tuple #[.string ⟨#[34]⟩, .int .i64 2, .bool true]) ∧ Ext w w') := by
 have hp := hT.gb.prio; have hs := hT.gb.siz; have ht := hT.gb.tab; have hem : ByteArray.empty = (⟨#[]⟩ : ByteArray) := rfl; have hm : w.cell? ⟨g, 98, none⟩ = some (.int .u8 2) := hT.gb.map 92 (by omega); have t2 : w.cell? ⟨tb, 2, none⟩ = some (.pointer (some ⟨tb + 1, 0, none⟩)) := hT.b0.cell 2; have a1 : w.cell? ⟨tb + 1, 1, none⟩ = some (.int .i64 0) := hT.b1.cell 1
 have a0 : w.cell? ⟨tb + 1, 0, none⟩ = some (.string ⟨#[]⟩) := hT.b1.cell 0; have a2 : w.cell? ⟨tb + 1, 2, none⟩ = some (.string ⟨#[]⟩) := hT.b1.cell 2; have a4 : w.cell? ⟨tb + 1, 4, none⟩ = some (.slice (some ⟨tb + 4, 0, none⟩) 3 3) := hT.b1.cell 4; have ag : ¬ tb + 1 = g := by have := hT.lt; omega
 have hm2 : w.cell? ⟨g, 40, none⟩ = some (.int .u8 0) := hT.gb.map 34 (by omega); have u : w.cell? ⟨tb + 4, 0, none⟩ = some (.pointer (some ⟨tb + 2, 0, none⟩)) := hT.b4.cell 0; have n1 : w.cell? ⟨tb + 2, 1, none⟩ = some (.int .i64 6) := hT.b2.cell 1; have n0 : w.cell? ⟨tb + 2, 0, none⟩ = some (.string ⟨#[34]⟩) := hT.b2.cell 0
 have n2 : w.cell? ⟨tb + 2, 2, none⟩ = some (.string ⟨#[]⟩) := hT.b2.cell 2; have n4 : w.cell? ⟨tb + 2, 4, none⟩ = some (.slice none 0 0) := hT.b2.cell 4; have ng : ¬ tb + 2 = g := by have := hT.lt; omega
 have e0 : ∀ h, ((⟨(92 :: (34 :: (d :: r))).toArray⟩ : ByteArray)[0]'h).toNat = 92 := fun _ => rfl; have x0 : (⟨(92 :: (34 :: (d :: r))).toArray⟩ : ByteArray).extract 1 (r.length + 1 + 1 + 1) = ⟨((34 :: (d :: r))).toArray⟩ := ext1 92 (34 :: (d :: r)); have l0 : (0 : Int) < (r.length + 1 + 1 : Nat) + 1 := by omega
 have e1 : ∀ h, ((⟨(34 :: (d :: r)).toArray⟩ : ByteArray)[0]'h).toNat = 34 := fun _ => rfl; have x1 : (⟨(34 :: (d :: r)).toArray⟩ : ByteArray).extract 1 (r.length + 1 + 1) = ⟨((d :: r)).toArray⟩ := ext1 34 (d :: r); have l1 : (0 : Int) < (r.length + 1 : Nat) + 1 := by omega
 clear hT; go_enter Tryz.func268, Tryz.ntmps268
 go_wp2_with fail; refine wp_loop_rounds 3 ?_; rw [rounds_succ]; go_wp2_with fail; go_region
 go_wp2_with fail; rw [rounds_succ]; go_wp2_with fail; go_region
 go_wp2_with fail; rw [rounds_succ]; go_wp2_with fail; go_ret3; exact ⟨rfl, by first | exact ext_refl w | exact (ext_refl w).drew | exact (ext_refl w).drew.drew⟩
set_option maxHeartbeats 3200000 in
theorem look_92_92a (g tb : Nat)  (w : World) (hT : Trie w g tb) :
 Calls Tryz.prog 268 #[.pointer (some ⟨g, 0, none⟩), .string ⟨(92 :: 92 :: ([] : List UInt8)).toArray⟩, .bool false] w (fun e w' => e = .returned (.tuple #[.string ⟨#[92, 92]⟩, .int .i64 2, .bool true]) ∧ Ext w w') := by
 have hp := hT.gb.prio; have hs := hT.gb.siz; have ht := hT.gb.tab; have hem : ByteArray.empty = (⟨#[]⟩ : ByteArray) := rfl; have hm : w.cell? ⟨g, 98, none⟩ = some (.int .u8 2) := hT.gb.map 92 (by omega); have t2 : w.cell? ⟨tb, 2, none⟩ = some (.pointer (some ⟨tb + 1, 0, none⟩)) := hT.b0.cell 2; have a1 : w.cell? ⟨tb + 1, 1, none⟩ = some (.int .i64 0) := hT.b1.cell 1
 have a0 : w.cell? ⟨tb + 1, 0, none⟩ = some (.string ⟨#[]⟩) := hT.b1.cell 0; have a2 : w.cell? ⟨tb + 1, 2, none⟩ = some (.string ⟨#[]⟩) := hT.b1.cell 2; have a4 : w.cell? ⟨tb + 1, 4, none⟩ = some (.slice (some ⟨tb + 4, 0, none⟩) 3 3) := hT.b1.cell 4; have ag : ¬ tb + 1 = g := by have := hT.lt; omega
 have u : w.cell? ⟨tb + 4, 2, none⟩ = some (.pointer (some ⟨tb + 3, 0, none⟩)) := hT.b4.cell 2; have n1 : w.cell? ⟨tb + 3, 1, none⟩ = some (.int .i64 4) := hT.b3.cell 1; have n0 : w.cell? ⟨tb + 3, 0, none⟩ = some (.string ⟨#[92, 92]⟩) := hT.b3.cell 0; have n2 : w.cell? ⟨tb + 3, 2, none⟩ = some (.string ⟨#[]⟩) := hT.b3.cell 2
 have n4 : w.cell? ⟨tb + 3, 4, none⟩ = some (.slice none 0 0) := hT.b3.cell 4; have ng : ¬ tb + 3 = g := by have := hT.lt; omega
 have e0 : ∀ h, ((⟨(92 :: (92 :: ([] : List UInt8))).toArray⟩ : ByteArray)[0]'h).toNat = 92 := fun _ => rfl; have x0 : (⟨(92 :: (92 :: ([] : List UInt8))).toArray⟩ : ByteArray).extract 1 2 = ⟨((92 :: ([] : List UInt8))).toArray⟩ := ext1 92 (92 :: ([] : List UInt8)); have e1 : ∀ h, ((⟨(92 :: ([] : List UInt8)).toArray⟩ : ByteArray)[0]'h).toNat = 92 := fun _ => rfl
 have x1 : (⟨(92 :: ([] : List UInt8)).toArray⟩ : ByteArray).extract 1 1 = ⟨(([] : List UInt8)).toArray⟩ := ext1 92 ([] : List UInt8); clear hT; go_enter Tryz.func268, Tryz.ntmps268
 go_wp2_with fail; refine wp_loop_rounds 3 ?_; rw [rounds_succ]; go_wp2_with fail; go_region
 go_wp2_with fail; rw [rounds_succ]; go_wp2_with fail; go_region
 go_wp2_with fail; rw [rounds_succ]; go_wp2_with fail; go_ret3; exact ⟨rfl, by first | exact ext_refl w | exact (ext_refl w).drew | exact (ext_refl w).drew.drew⟩
set_option maxHeartbeats 3200000 in
theorem look_92_92b (g tb : Nat) (d : UInt8) (r : List UInt8) (w : World) (hT : Trie w g tb) :
 Calls Tryz.prog 268 #[.pointer (some ⟨g, 0, none⟩), .string ⟨(92 :: 92 :: (d :: r)).toArray⟩, .bool false] w (fun e w' => e = .returned (.tuple #[.string ⟨#[92, 92]⟩, .int .i64 2, .bool true]) ∧ Ext w w') := by
 have hp := hT.gb.prio; have hs := hT.gb.siz; have ht := hT.gb.tab; have hem : ByteArray.empty = (⟨#[]⟩ : ByteArray) := rfl; have hm : w.cell? ⟨g, 98, none⟩ = some (.int .u8 2) := hT.gb.map 92 (by omega); have t2 : w.cell? ⟨tb, 2, none⟩ = some (.pointer (some ⟨tb + 1, 0, none⟩)) := hT.b0.cell 2; have a1 : w.cell? ⟨tb + 1, 1, none⟩ = some (.int .i64 0) := hT.b1.cell 1
 have a0 : w.cell? ⟨tb + 1, 0, none⟩ = some (.string ⟨#[]⟩) := hT.b1.cell 0; have a2 : w.cell? ⟨tb + 1, 2, none⟩ = some (.string ⟨#[]⟩) := hT.b1.cell 2; have a4 : w.cell? ⟨tb + 1, 4, none⟩ = some (.slice (some ⟨tb + 4, 0, none⟩) 3 3) := hT.b1.cell 4; have ag : ¬ tb + 1 = g := by have := hT.lt; omega
 have u : w.cell? ⟨tb + 4, 2, none⟩ = some (.pointer (some ⟨tb + 3, 0, none⟩)) := hT.b4.cell 2; have n1 : w.cell? ⟨tb + 3, 1, none⟩ = some (.int .i64 4) := hT.b3.cell 1; have n0 : w.cell? ⟨tb + 3, 0, none⟩ = some (.string ⟨#[92, 92]⟩) := hT.b3.cell 0; have n2 : w.cell? ⟨tb + 3, 2, none⟩ = some (.string ⟨#[]⟩) := hT.b3.cell 2
 have n4 : w.cell? ⟨tb + 3, 4, none⟩ = some (.slice none 0 0) := hT.b3.cell 4; have ng : ¬ tb + 3 = g := by have := hT.lt; omega
 have e0 : ∀ h, ((⟨(92 :: (92 :: (d :: r))).toArray⟩ : ByteArray)[0]'h).toNat = 92 := fun _ => rfl; have x0 : (⟨(92 :: (92 :: (d :: r))).toArray⟩ : ByteArray).extract 1 (r.length + 1 + 1 + 1) = ⟨((92 :: (d :: r))).toArray⟩ := ext1 92 (92 :: (d :: r)); have l0 : (0 : Int) < (r.length + 1 + 1 : Nat) + 1 := by omega
 have e1 : ∀ h, ((⟨(92 :: (d :: r)).toArray⟩ : ByteArray)[0]'h).toNat = 92 := fun _ => rfl; have x1 : (⟨(92 :: (d :: r)).toArray⟩ : ByteArray).extract 1 (r.length + 1 + 1) = ⟨((d :: r)).toArray⟩ := ext1 92 (d :: r); have l1 : (0 : Int) < (r.length + 1 : Nat) + 1 := by omega
 clear hT; go_enter Tryz.func268, Tryz.ntmps268
 go_wp2_with fail; refine wp_loop_rounds 3 ?_; rw [rounds_succ]; go_wp2_with fail; go_region
 go_wp2_with fail; rw [rounds_succ]; go_wp2_with fail; go_region
 go_wp2_with fail; rw [rounds_succ]; go_wp2_with fail; go_ret3; exact ⟨rfl, by first | exact ext_refl w | exact (ext_refl w).drew | exact (ext_refl w).drew.drew⟩
set_option maxHeartbeats 3200000 in
theorem look_92_39 (g tb : Nat) (r : List UInt8) (w : World) (hT : Trie w g tb) :
 Calls Tryz.prog 268 #[.pointer (some ⟨g, 0, none⟩), .string ⟨(92 :: 39 :: r).toArray⟩, .bool false] w (fun e w' => e = .returned (.tuple #[.string ⟨#[]⟩, .int .i64 0, .bool false]) ∧ Ext w w') := by
 have hp := hT.gb.prio; have hs := hT.gb.siz; have ht := hT.gb.tab; have hem : ByteArray.empty = (⟨#[]⟩ : ByteArray) := rfl; have hm : w.cell? ⟨g, 98, none⟩ = some (.int .u8 2) := hT.gb.map 92 (by omega); have t2 : w.cell? ⟨tb, 2, none⟩ = some (.pointer (some ⟨tb + 1, 0, none⟩)) := hT.b0.cell 2; have a1 : w.cell? ⟨tb + 1, 1, none⟩ = some (.int .i64 0) := hT.b1.cell 1
 have a0 : w.cell? ⟨tb + 1, 0, none⟩ = some (.string ⟨#[]⟩) := hT.b1.cell 0; have a2 : w.cell? ⟨tb + 1, 2, none⟩ = some (.string ⟨#[]⟩) := hT.b1.cell 2; have a4 : w.cell? ⟨tb + 1, 4, none⟩ = some (.slice (some ⟨tb + 4, 0, none⟩) 3 3) := hT.b1.cell 4; have ag : ¬ tb + 1 = g := by have := hT.lt; omega
 have hm2 : w.cell? ⟨g, 45, none⟩ = some (.int .u8 1) := hT.gb.map 39 (by omega); have u : w.cell? ⟨tb + 4, 1, none⟩ = some (.pointer none) := hT.b4.cell 1; have e0 : ∀ h, ((⟨(92 :: (39 :: r)).toArray⟩ : ByteArray)[0]'h).toNat = 92 := fun _ => rfl; have x0 : (⟨(92 :: (39 :: r)).toArray⟩ : ByteArray).extract 1 (r.length + 1 + 1) = ⟨((39 :: r)).toArray⟩ := ext1 92 (39 :: r)
 have l0 : (0 : Int) < (r.length + 1 : Nat) + 1 := by omega
 have e1 : ∀ h, ((⟨(39 :: r).toArray⟩ : ByteArray)[0]'h).toNat = 39 := fun _ => rfl; have x1 : (⟨(39 :: r).toArray⟩ : ByteArray).extract 1 (r.length + 1) = ⟨(r).toArray⟩ := ext1 39 r; have l1 : (0 : Int) < (r.length : Nat) + 1 := by omega
 clear hT; go_enter Tryz.func268, Tryz.ntmps268
 go_wp2_with fail; refine wp_loop_rounds 3 ?_; rw [rounds_succ]; go_wp2_with fail; go_region
 go_wp2_with fail; rw [rounds_succ]; go_wp2_with fail; go_region
 go_wp2_with fail; rw [rounds_succ]; go_wp2_with fail; go_ret3; exact ⟨rfl, by first | exact ext_refl w | exact (ext_refl w).drew | exact (ext_refl w).drew.drew⟩
set_option maxHeartbeats 3200000 in
theorem look_92_o (g tb : Nat) (d : UInt8) (r : List UInt8) (hd : mapv d.toNat = 3) (w : World) (hT : Trie w g tb) :
 Calls Tryz.prog 268 #[.pointer (some ⟨g, 0, none⟩), .string ⟨(92 :: d :: r).toArray⟩, .bool false] w (fun e w' => e = .returned (.tuple #[.string ⟨#[]⟩, .int .i64 0, .bool false]) ∧ Ext w w') := by
 have hp := hT.gb.prio; have hs := hT.gb.siz; have ht := hT.gb.tab; have hem : ByteArray.empty = (⟨#[]⟩ : ByteArray) := rfl; have hm : w.cell? ⟨g, 98, none⟩ = some (.int .u8 2) := hT.gb.map 92 (by omega); have t2 : w.cell? ⟨tb, 2, none⟩ = some (.pointer (some ⟨tb + 1, 0, none⟩)) := hT.b0.cell 2; have a1 : w.cell? ⟨tb + 1, 1, none⟩ = some (.int .i64 0) := hT.b1.cell 1
 have a0 : w.cell? ⟨tb + 1, 0, none⟩ = some (.string ⟨#[]⟩) := hT.b1.cell 0; have a2 : w.cell? ⟨tb + 1, 2, none⟩ = some (.string ⟨#[]⟩) := hT.b1.cell 2; have a4 : w.cell? ⟨tb + 1, 4, none⟩ = some (.slice (some ⟨tb + 4, 0, none⟩) 3 3) := hT.b1.cell 4; have ag : ¬ tb + 1 = g := by have := hT.lt; omega
 have hm2 : w.cell? ⟨g, 6 + d.toNat, none⟩ = some (.int .u8 3) := by have := hT.gb.map d.toNat d.toNat_lt; rwa [hd] at this
 have e0 : ∀ h, ((⟨(92 :: (d :: r)).toArray⟩ : ByteArray)[0]'h).toNat = 92 := fun _ => rfl; have x0 : (⟨(92 :: (d :: r)).toArray⟩ : ByteArray).extract 1 (r.length + 1 + 1) = ⟨((d :: r)).toArray⟩ := ext1 92 (d :: r); have l0 : (0 : Int) < (r.length + 1 : Nat) + 1 := by omega
 have e1 : ∀ h, ((⟨(d :: r).toArray⟩ : ByteArray)[0]'h).toNat = d.toNat := fun _ => rfl; have x1 : (⟨(d :: r).toArray⟩ : ByteArray).extract 1 (r.length + 1) = ⟨(r).toArray⟩ := ext1 d r; have l1 : (0 : Int) < (r.length : Nat) + 1 := by omega
 have hd0 := d.toNat_lt; clear hd; clear hT; go_enter Tryz.func268, Tryz.ntmps268
 go_wp2_with fail; refine wp_loop_rounds 2 ?_; rw [rounds_succ]; go_wp2_with fail; go_region
 go_wp2_with fail; rw [rounds_succ]; go_wp2_with fail; go_region
 go_wp2_with fail; go_ret3; exact ⟨rfl, by first | exact ext_refl w | exact (ext_refl w).drew | exact (ext_refl w).drew.drew⟩
set_option maxHeartbeats 3200000 in
theorem look_34 (g tb : Nat) (r : List UInt8) (w : World) (hT : Trie w g tb) :
 Calls Tryz.prog 268 #[.pointer (some ⟨g, 0, none⟩), .string ⟨(34 :: r).toArray⟩, .bool false] w (fun e w' => e = .returned (.tuple #[.string ⟨#[]⟩, .int .i64 0, .bool false]) ∧ Ext w w') := by
 have hp := hT.gb.prio; have hs := hT.gb.siz; have ht := hT.gb.tab; have hem : ByteArray.empty = (⟨#[]⟩ : ByteArray) := rfl; have hm : w.cell? ⟨g, 40, none⟩ = some (.int .u8 0) := hT.gb.map 34 (by omega); have t0 : w.cell? ⟨tb, 0, none⟩ = some (.pointer none) := hT.b0.cell 0; have e0 : ∀ h, ((⟨(34 :: r).toArray⟩ : ByteArray)[0]'h).toNat = 34 := fun _ => rfl
 have x0 : (⟨(34 :: r).toArray⟩ : ByteArray).extract 1 (r.length + 1) = ⟨(r).toArray⟩ := ext1 34 r; have l0 : (0 : Int) < (r.length : Nat) + 1 := by omega
 clear hT; go_enter Tryz.func268, Tryz.ntmps268
 go_wp2_with fail; refine wp_loop_rounds 2 ?_; rw [rounds_succ]; go_wp2_with fail; go_region
 go_wp2_with fail; rw [rounds_succ]; go_wp2_with fail; go_ret3; exact ⟨rfl, by first | exact ext_refl w | exact (ext_refl w).drew | exact (ext_refl w).drew.drew⟩
set_option maxHeartbeats 3200000 in
theorem look_o (g tb : Nat) (d : UInt8) (r : List UInt8) (hd : mapv d.toNat = 3) (w : World) (hT : Trie w g tb) :
 Calls Tryz.prog 268 #[.pointer (some ⟨g, 0, none⟩), .string ⟨(d :: r).toArray⟩, .bool false] w (fun e w' => e = .returned (.tuple #[.string ⟨#[]⟩, .int .i64 0, .bool false]) ∧ Ext w w') := by
 have hp := hT.gb.prio; have hs := hT.gb.siz; have ht := hT.gb.tab; have hem : ByteArray.empty = (⟨#[]⟩ : ByteArray) := rfl; have hm : w.cell? ⟨g, 6 + d.toNat, none⟩ = some (.int .u8 3) := by have := hT.gb.map d.toNat d.toNat_lt; rwa [hd] at this
 have e0 : ∀ h, ((⟨(d :: r).toArray⟩ : ByteArray)[0]'h).toNat = d.toNat := fun _ => rfl; have x0 : (⟨(d :: r).toArray⟩ : ByteArray).extract 1 (r.length + 1) = ⟨(r).toArray⟩ := ext1 d r; have l0 : (0 : Int) < (r.length : Nat) + 1 := by omega
 have hd0 := d.toNat_lt; clear hd; clear hT; go_enter Tryz.func268, Tryz.ntmps268
 go_wp2_with fail; refine wp_loop_rounds 1 ?_; rw [rounds_succ]; go_wp2_with fail; go_region
 go_wp2_with fail; go_ret3; exact ⟨rfl, by first | exact ext_refl w | exact (ext_refl w).drew | exact (ext_refl w).drew.drew⟩
end Go.Proofs.YtjapbjmeoaagmaaGreatDoor
end

section
set_option maxRecDepth 100000
namespace Orange
def replP : List UInt8 → List UInt8
 | 92 :: 34 :: r => 34 :: replP r
 | 92 :: 92 :: r => 92 :: 92 :: replP r
 | 39 :: r => 92 :: 39 :: replP r
 | c :: r => c :: replP r
 | [] => []
theorem lookP_o {d : UInt8} (r : List UInt8) (h1 : d ≠ 39) (h2 : d ≠ 92) : lookP (d :: r) = ([], 0, false) := by
 unfold lookP; split <;> simp_all
theorem lookP_92o {d : UInt8} (r : List UInt8) (h1 : d ≠ 34) (h2 : d ≠ 92) : lookP (92 :: d :: r) = ([], 0, false) := by
 unfold lookP; split <;> simp_all
theorem replP_o {d : UInt8} (r : List UInt8) (h1 : d ≠ 39) (h2 : d ≠ 92) : replP (d :: r) = d :: replP r := by
 rw [replP] <;> simp_all
theorem replP_92o {d : UInt8} (r : List UInt8) (h1 : d ≠ 34) (h2 : d ≠ 92) : replP (92 :: d :: r) = 92 :: replP (d :: r) := by
 rw [replP] <;> simp_all
theorem mapv_o {d : UInt8} (h1 : d ≠ 34) (h2 : d ≠ 39) (h3 : d ≠ 92) : mapv d.toNat = 3 := by
 unfold mapv; have e : ∀ n : UInt8, d ≠ n → d.toNat ≠ n.toNat := fun n h e => h (UInt8.toNat.inj e); rw [if_neg (show d.toNat ≠ 34 from e 34 h1), if_neg (show d.toNat ≠ 39 from e 39 h2), if_neg (show d.toNat ≠ 92 from e 92 h3)]
end Orange
namespace Go.Proofs.YtjapbjmeoaagmaaGreatDoor
open Go.RowKit Go.Mem Orange
theorem look_all (g tb : Nat) (s : List UInt8) (w : World) (hT : Trie w g tb) :
 Calls Tryz.prog 268 #[.pointer (some ⟨g, 0, none⟩), .string ⟨s.toArray⟩, .bool false] w (fun e w' => e = .returned (.tuple #[.string ⟨(lookP s).1.toArray⟩, .int .i64 ((lookP s).2.1 : Nat), .bool (lookP s).2.2]) ∧ Ext w w') := by
 cases s with
 | nil => exact look_end g tb w hT
 | cons d r =>
   by_cases h0 : d = 92
   · subst h0; cases r with
     | nil => exact look_92a g tb w hT
     | cons d r =>
       by_cases h1 : d = 34
       · subst h1; cases r with
         | nil => exact look_92_34a g tb w hT
         | cons x r => exact look_92_34b g tb x r w hT
       · by_cases h2 : d = 92
         · subst h2; cases r with
           | nil => exact look_92_92a g tb w hT
           | cons x r => exact look_92_92b g tb x r w hT
         · rw [lookP_92o r h1 h2]; by_cases h3 : d = 39
           · subst h3; exact look_92_39 g tb r w hT
           · exact look_92_o g tb d r (mapv_o h1 h3 h2) w hT
   · by_cases h1 : d = 39
     · subst h1; cases r with
       | nil => exact look_39a g tb w hT
       | cons x r => exact look_39b g tb x r w hT
     · rw [lookP_o r h1 h0]; by_cases h2 : d = 34
       · subst h2; exact look_34 g tb r w hT
       · exact look_o g tb d r (mapv_o h2 h1 h0) w hT
theorem repl_hit {s : List UInt8} (h : (lookP s).2.2 = true) : 0 < (lookP s).2.1 ∧ (lookP s).2.1 ≤ s.length ∧ replP s = (lookP s).1 ++ replP (s.drop (lookP s).2.1) ∧ (lookP s).1.length ≤ 2 := by
 unfold lookP at h ⊢; split at h <;> simp_all [replP]
theorem repl_miss {c : UInt8} {r : List UInt8} (h : (lookP (c :: r)).2.2 = false) : replP (c :: r) = c :: replP r := by
 by_cases h0 : c = 92
 · subst h0; cases r with
   | nil => simp [replP]
   | cons d r =>
     by_cases h1 : d = 34
     · subst h1; cases h
     · by_cases h2 : d = 92
       · subst h2; cases h
       · exact replP_92o r h1 h2
 · by_cases h1 : c = 39
   · subst h1; cases h
   · exact replP_o r h1 h0
theorem OwnB.setOther {w : World} {base : Nat} {e : TypeId} {v : Value} {l : List UInt8} (h : OwnB w base e v l) {a : Addr} (ha : v.ownBlock ≠ some a.block) (u : Value) : OwnB (w.setCell a u) base e v l := by
 obtain ⟨h1, h2⟩ := h; refine ⟨h1, ?_⟩; rcases h2 with h2 | ⟨g, cap, cur, rfl, hg, hh, r⟩
 · exact Or.inl h2
 · exact Or.inr ⟨g, cap, cur, rfl, hg, by rw [Below.heap_setCell _ _ _ _ (fun e => ha (by rw [← e]; rfl))]; exact hh, r⟩
section
variable {P : Program} (w : World)
theorem wpList_append_own {ops : Array Oper} {rest : List Oper} {o : Oper} {a : Act} {Q : Exit → Act → World → Prop} (hgd : Region.wanted o (yielded ops a.tmps) = true) (s xo : Operand) (t tx : TypeId)
 (ho : o.op = .call { callee := .builtin .append, args := #[s, xo], argTypes := #[t, tx] })
 (base : Nat) (e : TypeId) (i : TypeInfo) (z : Value) (size bytes : Nat) (ht : P.underlying t = some (.slice e)) (hi : P.info? e = some i) (hz : i.zero = some z)
 (hsize : i.size = size) (hby : i.bytes = bytes) (hzs : z.cells.size = size) (hsz : 0 < size)
 (v : Value) (n : Nat) (xs : List Value) (hs : a.eval s = v) (hown : w.ownsRow base e size v n xs)
 (x : Value) (m : Nat) (news : List Value) (hx : a.eval xo = x) (hsrc : Src P size tx x m news w)
 (h63 : n + m ≤ maxLen) (hbytes : (n + m) * bytes ≤ 140737488355328) (hbase : base ≤ w.heap.size)
 (h : ∀ v' w', w'.ownsRow base e size v' (n + m) (xs ++ news) → w.grownBy w' v.ownBlock → (v'.ownBlock = v.ownBlock ∨ v'.ownBlock = some w.heap.size) → wpList P ops Q rest (a.put o.dst v') w') : wpList P ops Q (o :: rest) a w := by
 obtain ⟨v', w', hr, h2, h3, h4⟩ := Go.Mem.run_append_own (P := P) w base t tx o.type e i z size bytes ht hi hz hsize hby hzs hsz v n xs hown x m news hsrc h63 hbytes hbase; unfold wpList; rw [if_pos hgd]; refine .inl ?_; unfold Oper.wp execOp; simp only [ho, resolve, invoke, builtin, Sem.run_bind, Sem.run_pure, Result.andThen_ok, List.map_toArray, List.map_cons, List.map_nil, hs, hx, hr]
 exact h v' w' h2 h3 h4
end
def Buf (w : World) (base q : Nat) (l : List UInt8) : Prop := ∃ v, w.heap[q]? = some (.cells #[v] 289 (0, 0)) ∧ base ≤ q ∧ v.ownBlock ≠ some q ∧ OwnB w base 5 v l
theorem Buf.ext {w w' : World} {base q : Nat} {l : List UInt8} (h : Buf w base q l) (hx : Ext w w') : Buf w' base q l := by
 obtain ⟨v, h1, h2, h3, h4⟩ := h; exact ⟨v, by rw [hx.block q (Array.getElem?_eq_some_iff.1 h1).1]; exact h1, h2, h3, h4.ext hx⟩
set_option maxHeartbeats 1600000 in
theorem aws_any (base q : Nat) (l : List UInt8) (s : ByteArray) (w : World) (h : Buf w base q l) (hl : l.length + s.size ≤ 140737488355328) (hbase : base ≤ w.heap.size) :
 Calls Tryz.prog 282 #[.pointer (some ⟨q, 0, none⟩), .string s] w fun e w' => e = .returned (.tuple #[.int .i64 s.size, .nilIface]) ∧ Buf w' base q (l ++ s.data.toList) ∧ Below base w w' := by
 obtain ⟨v, hq, hqb, hqn, hown⟩ := h; obtain ⟨i0, hi, hz0, hz1, hz2⟩ := info_parts info8; have hsl : s.data.toList.length = s.size := Array.length_toList; have hcl : Go.byteCells s = cells8 s.data.toList := rfl; have c0 : w.cell? ⟨q, 0, none⟩ = some v := by rw [cell_of_cells hq]; rfl
 have hqlt : q < w.heap.size := (Array.getElem?_eq_some_iff.1 hq).1; have HSL := Hd hsl; have HCL := Hd hcl; have HQ := Hd hq; have HQN := Hd hqn; clear hsl hcl hq hqn; go_enter Tryz.func282, Tryz.ntmps282
 go_wp2_with (first
  | (at_builtin; refine wpList_append_own _ rfl _ _ 289 9 rfl base 5 i0 (.int .u8 0) 1 1 Tryz.underlying289 hi hz0 hz1 hz2 rfl (by decide) v _ _ rfl hown _ s.size _ rfl (Src.ofString _ Tryz.underlying9 s) (by simp only [maxLen]; omega) (by omega) hbase ?_; intro v5 w5 hown5 hgr5 hob5; have hown6 : OwnB w5 base 5 v5 (l ++ s.data.toList) := (by unfold OwnB; rw [cells8_append, List.length_append, HSL.out, ← HCL.out]; exact hown5); have HOB : Hid (v5.ownBlock ≠ some q) := Hd (by rcases hob5 with e | e; (rw [e]; exact HQN.out); (rw [e]; simp; omega)); clear hob5; obtain ⟨a5, c5, rfl⟩ := own8_shape hown6; have h5 : w5.heap[q]? = some (.cells #[v] 289 (0, 0)) := (by rw [hgr5.block q hqlt (fun e => HQN.out e.symm)]; exact HQ.out); have hc5 : w5.cell? ⟨q, 0, none⟩ = some v := (by rw [cell_of_cells h5]; rfl); have hf5 : w5.frozen? ⟨q, 0, none⟩ = false := free_of_cells h5; have H5 := Hd h5; clear h5)
  | fail)
 go_ret2; refine ⟨rfl, ⟨_, ?_, hqb, HOB.out, OwnB.setOther hown6 HOB.out _⟩, Below.setCell (p := ⟨q, 0, none⟩) (Below.ofGrown hgr5 hown hbase) hqb _⟩; rw [heap_setCell_same _ H5.out]; simp
theorem ext_drop (s : List UInt8) (i : Nat) (h : i ≤ s.length) : (⟨s.toArray⟩ : ByteArray).extract i s.length = ⟨(s.drop i).toArray⟩ := by
 apply ByteArray.ext
 apply Array.toList_inj.1
 simp [ByteArray.data_extract, Array.toList_extract, List.extract_eq_take_drop]
 exact List.take_of_length_le (by simp)
theorem ext_mid (s : List UInt8) (a b : Nat) (h : a ≤ b) (hb : b ≤ s.length) : (⟨s.toArray⟩ : ByteArray).extract a b = ⟨((s.take b).drop a).toArray⟩ := by
 apply ByteArray.ext
 apply Array.toList_inj.1
 simp [ByteArray.data_extract, Array.toList_extract, List.extract_eq_take_drop, List.drop_take]
theorem inv_next {s out : List UInt8} {L i : Nat} (h : i < s.length) (hL : L ≤ i) (hi : replP s = out ++ (s.take i).drop L ++ replP (s.drop i)) (hm : replP (s.drop i) = s[i] :: replP (s.drop (i + 1))) : replP s = out ++ (s.take (i + 1)).drop L ++ replP (s.drop (i + 1)) := by
 rw [hi, hm, List.take_add_one, List.getElem?_eq_getElem h, Option.toList_some, List.drop_append_of_le_length (by rw [List.length_take]; omega)]; simp
theorem inv_hit {s out v : List UInt8} {L i k : Nat} (hi : replP s = out ++ (s.take i).drop L ++ replP (s.drop i)) (hm : replP (s.drop i) = v ++ replP ((s.drop i).drop k)) : replP s = (out ++ (s.take i).drop L ++ v) ++ (s.take (i + k)).drop (i + k) ++ replP (s.drop (i + k)) := by
 have h0 : (s.take (i + k)).drop (i + k) = [] := List.drop_eq_nil_of_le (by rw [List.length_take]; omega); rw [hi, hm, List.drop_drop, h0]; simp
set_option maxHeartbeats 6400000 in
theorem gwrite_any (g tb base q : Nat) (s : List UInt8) (hs : s.length ≤ 1000000) (w : World) (hT : ∀ w', Below base w w' → Trie w' g tb) (hB : Buf w base q []) (hbase : base ≤ w.heap.size) :
 Calls Tryz.prog 266 #[.pointer (some ⟨g, 0, none⟩), .iface 290 (.pointer (some ⟨q, 0, none⟩)), .string ⟨s.toArray⟩] w (fun e w' => (∃ v, e = .returned v) ∧ Buf w' base q (replP s) ∧ Below base w w') := by
 have HT := Hd hT; have HB := Hd hB; clear hT hB; have hem : ByteArray.empty = (⟨#[]⟩ : ByteArray) := rfl; go_enter Tryz.func266, Tryz.ntmps266
 go_wp2_with fail; refine (gsw_any q _).mono ?_; rintro e w0 ⟨rfl, rfl⟩; go_wp2_with fail
 go_loopw [6, 7, 9, 10, 11, 12, 13, 14, 15, 16] (fun nv ev lv _ pv iv _ _ _ _ wr => ∃ (n : Int) (L i : Nat) (out : List UInt8), nv = .int .i64 n ∧ ev = .nilIface ∧ lv = .int .i64 L ∧ pv = .bool false ∧ iv = .int .i64 i ∧ L ≤ i ∧ L ≤ s.length ∧ i ≤ s.length + 1 ∧ Buf wr base q out ∧ out.length ≤ 2 * L ∧ Below base w0 wr ∧ base ≤ wr.heap.size ∧ ((i ≤ s.length ∧ replP s = out ++ (s.take i).drop L ++ replP (s.drop i)) ∨ (i = s.length + 1 ∧ replP s = out ++ s.drop L))) (fun _ _ _ _ _ iv _ _ _ _ _ => 9000000 - (intOf iv).toNat)
 case atStart => exact ⟨0, 0, 0, [], rfl, rfl, rfl, rfl, rfl, by omega, by omega, by omega, HB.out, by simp, Below.refl _ _, hbase, .inl ⟨by omega, by simp⟩⟩
 case round =>
  obtain ⟨n, L, i, out, rfl, rfl, rfl, rfl, rfl, hLi, hL, hi, hbuf, hol, hk, hbs, hinv⟩ := hrel; have HBU := Hd hbuf; have HK := Hd hk; have HTR := Hd (HT.out wr hk); clear hbuf hk HB; have hp := HTR.out.gb.prio; have hz := HTR.out.gb.siz; by_cases hgo : i ≤ s.length
  · have hgi : (i : Int) ≤ s.length := by omega
    have hi0 : (0 : Int) ≤ i := by omega
    have HINV : Hid (replP s = out ++ (s.take i).drop L ++ replP (s.drop i)) := Hd (by rcases hinv with h | h; exact h.2; omega); clear hinv; by_cases hend : i = s.length
    · subst hend; have ex : (⟨s.toArray⟩ : ByteArray).extract s.length s.length = ⟨#[]⟩ := by
       have := ext_drop s s.length (Nat.le_refl _); rw [List.drop_length] at this; exact this
      have HI2 : Hid (replP s = out ++ s.drop L) := Hd (by
       have := HINV.out; rw [List.take_length, List.drop_length] at this; simpa [replP] using this)
      have e1 : IntKind.i64.wrap ((s.length : Int) + 1) = ((s.length + 1 : Nat) : Int) := by rw [IntWalk.i64_in _ (by omega)]; omega
      have HLK := Hd (look_all g tb [] wr HTR.out); have hlk : lookP [] = ([], 0, false) := by simp [lookP]
      rw [hlk] at HLK; clear hlk; go_wp2_with fail; refine (HLK.out).mono ?_; rintro e w2 ⟨rfl, hx⟩; have HB2 := Hd (HBU.out.ext hx); have HK2 := Hd (HK.out.trans ((hx.mono hbs))); have hs2 := hx.size; clear hx hp hz HLK ex; go_wp2_with fail
      refine ⟨⟨n, L, s.length + 1, out, rfl, rfl, rfl, rfl, by go_num, by omega, by omega, by omega, HB2.out, hol, HK2.out, by omega, .inr ⟨rfl, HI2.out⟩⟩, by simp [intOf]; omega⟩
    · have hlt : i < s.length := by omega
      have hlti : (i : Int) < s.length := by omega
      have hnei : ((i : Int) != (s.length : Int)) = true := by simp; omega
      have hg := sx_get s i hlt; have HDR := Hd (List.drop_eq_getElem_cons hlt); have HNX := Hd (fun hm => inv_next (out := out) hlt hLi HINV.out hm); have ex : (⟨s.toArray⟩ : ByteArray).extract i s.length = ⟨(s.drop i).toArray⟩ := ext_drop s i (by omega); have e1 : IntKind.i64.wrap ((i : Int) + 1) = ((i + 1 : Nat) : Int) := by rw [IntWalk.i64_in _ (by omega)]; omega
      obtain ⟨c, hc⟩ := Ex (s[i]); rw [hc] at hg HDR HNX; clear hc; have hc8 := c.toNat_lt; have hm := HTR.out.gb.map c.toNat hc8; have ht := HTR.out.gb.tab; by_cases h3 : mapv c.toNat = 3
      · have hm3 : replP (s.drop i) = c :: replP (s.drop (i + 1)) := by
         rw [HDR.out]; exact replP_o _ (fun e => by subst e; exact absurd h3 (by decide)) (fun e => by subst e; exact absurd h3 (by decide))
        have HN2 := Hd (HNX.out hm3); rw [h3] at hm; clear hm3 h3 HNX HDR HINV; go_wp2_with fail; go_region
        go_wp2_with fail; refine ⟨⟨n, L, i + 1, out, rfl, rfl, rfl, rfl, by go_num, by omega, by omega, by omega, HBU.out.ext (ext_refl _).drew, hol, HK.out.trans ((Below.refl _ _).drew), by simpa using hbs, .inl ⟨by omega, HN2.out⟩⟩, by simp [intOf]; omega⟩
      · by_cases h34 : c = 34
        · subst h34; have hm3 : replP (s.drop i) = 34 :: replP (s.drop (i + 1)) := by
           rw [HDR.out]; exact replP_o _ (by decide) (by decide)
          have HN2 := Hd (HNX.out hm3); have t0 : wr.cell? ⟨tb, 0, none⟩ = some (.pointer none) := HTR.out.b0.cell 0; have hm4 : wr.cell? ⟨g, 40, none⟩ = some (.int .u8 0) := hm; have hg4 : ((⟨s.toArray⟩ : ByteArray)[i]'(by show i < s.toArray.size; simpa using hlt)).toNat = 34 := by rw [hg]; rfl
          clear hm3 h3 HNX HDR HINV hm hg; go_wp2_with fail; go_region
          go_wp2_with fail; refine ⟨⟨n, L, i + 1, out, rfl, rfl, rfl, rfl, by go_num, by omega, by omega, by omega, HBU.out.ext (ext_refl _).drew, hol, HK.out.trans ((Below.refl _ _).drew), by simpa using hbs, .inl ⟨by omega, HN2.out⟩⟩, by simp [intOf]; omega⟩
        · obtain ⟨m, p, hmm, hm3, tm⟩ : ∃ (m p : Nat), mapv c.toNat = m ∧ m < 3 ∧ wr.cell? ⟨tb, m, none⟩ = some (.pointer (some ⟨p, 0, none⟩)) := by
           by_cases h39 : c = 39
           · subst h39; exact ⟨1, tb + 5, by decide, by omega, HTR.out.b0.cell 1⟩
           · by_cases h92 : c = 92
             · subst h92; exact ⟨2, tb + 1, by decide, by omega, HTR.out.b0.cell 2⟩
             · exact absurd (mapv_o h34 h39 h92) h3
          rw [hmm] at hm; have hmi : (m : Int) < 3 := by omega
          have hmne : ((m : Int) == 3) = false := by simp; omega
          have hm0 : (0 : Int) ≤ m := by omega
          have HLK := Hd (look_all g tb (s.drop i) wr.drew HTR.out.drew); have HMISS : Hid ((lookP (s.drop i)).2.2 = false → replP s = out ++ (s.take (i + 1)).drop L ++ replP (s.drop (i + 1))) := Hd (fun h => by
           rw [HDR.out] at h; refine HNX.out ?_; rw [HDR.out]; exact repl_miss h)
          have HHIT : Hid ((lookP (s.drop i)).2.2 = true → 0 < (lookP (s.drop i)).2.1 ∧ (lookP (s.drop i)).2.1 ≤ s.length - i ∧ (lookP (s.drop i)).1.length ≤ 2 ∧ replP s = (out ++ (s.take i).drop L ++ (lookP (s.drop i)).1) ++ (s.take (i + (lookP (s.drop i)).2.1)).drop (i + (lookP (s.drop i)).2.1) ++ replP (s.drop (i + (lookP (s.drop i)).2.1))) := Hd (fun h => by
           obtain ⟨a1, a2, a3, a4⟩ := repl_hit h; exact ⟨a1, by simpa using a2, a4, inv_hit HINV.out a3⟩)
          generalize lookP (s.drop i) = lp at *; obtain ⟨LV, LK, LF⟩ := lp; simp only at HLK HMISS HHIT; clear HINV HNX HDR hmm h3 h34; go_wp2_with fail; go_region
          go_wp2_with fail; refine (HLK.out).mono ?_; rintro e w2 ⟨rfl, hx⟩; have HB2 := Hd (HBU.out.ext (ext_trans (ext_refl wr).drew hx)); have HK2 := Hd (HK.out.trans (((ext_trans (ext_refl wr).drew hx).mono hbs))); have hs2 := hx.size; clear hx hp hz HLK ex hm ht tm hg; cases LF with
          | false =>
            have HN2 := Hd (HMISS.out rfl); clear HMISS HHIT; go_wp2_with fail; refine ⟨⟨n, L, i + 1, out, rfl, rfl, rfl, rfl, by go_num, by omega, by omega, by omega, HB2.out, hol, HK2.out, by simp at hs2; omega, .inl ⟨by omega, HN2.out⟩⟩, by simp [intOf]; omega⟩
          | true =>
            obtain ⟨a1, a2, a3, a4⟩ := HHIT.out rfl; have HN2 := Hd a4; clear HMISS HHIT a4; have hmf : ∀ (fn : Fn) (first cap : Array Value) (w : World), (Instr.makeFunc fn first cap).run Tryz.prog w = .ok (.func fn first cap) w := fun _ _ _ _ => rfl; have hna : ∀ w : World, (nilAhead 403 290 (.pointer (some ⟨q, 0, none⟩)) "WriteString").run Tryz.prog w = .ok (some false) w := fun w => by kernel_rfl
            have hme : ∀ w : World, (method 403 290 (.pointer (some ⟨q, 0, none⟩)) "WriteString").run Tryz.prog w = .ok (282, .pointer (some ⟨q, 0, none⟩)) w := fun w => by kernel_rfl
            have ey : (⟨s.toArray⟩ : ByteArray).extract L i = ⟨((s.take i).drop L).toArray⟩ := ext_mid s L i hLi (by omega); have hml : ((s.take i).drop L).length ≤ i - L := by rw [List.length_drop, List.length_take]; omega
            obtain ⟨MD, hMD⟩ : ∃ x, (s.take i).drop L = x := ⟨_, rfl⟩
            rw [hMD] at ey hml HN2; clear hMD; have hLi' : (L : Int) ≤ i := by omega
            have hL0 : (0 : Int) ≤ L := by omega
            have e5 : IntKind.i64.wrap ((i : Int) + (LK : Nat)) = ((i + LK : Nat) : Int) := by rw [IntWalk.i64_in _ (by omega)]; omega
            have HC1 := Hd (aws_any base q out ⟨MD.toArray⟩ w2.drew (HB2.out.ext (ext_refl w2).drew) (by simp [ByteArray.size]; omega) (by simp at hs2 ⊢; omega)); go_wp2_with fail; go_region_with (go_at_call 282; go_loud (refine HC1.out.mono ?_; rintro e w3 ⟨rfl, hb3, hk3⟩))
            all_goals go_wp2_with fail
            all_goals
             have hs3 := hk3.size; refine (aws_any base q _ ⟨LV.toArray⟩ w3 hb3 (by simp [ByteArray.size]; omega) (by simp at hs2 hs3; omega)).mono ?_; rintro e w4 ⟨rfl, hb4, hk4⟩; have hs4 := hk4.size; have HB4 : Hid (Buf w4 base q (out ++ MD ++ LV)) := Hd (by simpa using hb4); have HK4 := Hd ((HK2.out.trans ((Below.refl _ _).drew)).trans (hk3.trans hk4)); clear hb3 hb4 hk3 hk4 hna hme hmf HC1 ey
             go_wp2_with fail; have hk0 : ((LK : Int) == 0) = false := by simp; omega
             refine ⟨⟨_, i + LK, i + LK, out ++ MD ++ LV, rfl, rfl, by go_num, by rw [hk0], by go_num, by omega, by omega, by omega, HB4.out, by simp; omega, HK4.out, by simp at hs2 hs3; omega, .inl ⟨by omega, HN2.out⟩⟩, by simp [intOf]; omega⟩
  · obtain rfl : i = s.length + 1 := by omega
    have HINV : Hid (replP s = out ++ s.drop L) := Hd (by rcases hinv with h | h; omega; exact h.2); clear hinv; by_cases hLe : L = s.length
    · subst hLe; have hr : replP s = out := by rw [HINV.out, List.drop_length, List.append_nil]
      rw [← hr] at HBU; clear hr; go_wp2_with fail; go_ret2; exact ⟨⟨_, rfl⟩, HBU.out, HK.out⟩
    · have hne : ((L : Int) != (s.length : Int)) = true := by simp; omega
      have ex2 : (⟨s.toArray⟩ : ByteArray).extract L s.length = ⟨(s.drop L).toArray⟩ := ext_drop s L hL; have hmf : ∀ (fn : Fn) (first cap : Array Value) (w : World), (Instr.makeFunc fn first cap).run Tryz.prog w = .ok (.func fn first cap) w := fun _ _ _ _ => rfl
      have hna : ∀ w : World, (nilAhead 403 290 (.pointer (some ⟨q, 0, none⟩)) "WriteString").run Tryz.prog w = .ok (some false) w := fun w => by kernel_rfl
      have hme : ∀ w : World, (method 403 290 (.pointer (some ⟨q, 0, none⟩)) "WriteString").run Tryz.prog w = .ok (282, .pointer (some ⟨q, 0, none⟩)) w := fun w => by kernel_rfl
      have hdl : (s.drop L).length ≤ 1000000 := by rw [List.length_drop]; omega
      obtain ⟨MD, hMD⟩ : ∃ x, s.drop L = x := ⟨_, rfl⟩
      rw [hMD] at ex2 hdl HINV; clear hMD; have hLl : (L : Int) ≤ s.length := by omega
      have hL0 : (0 : Int) ≤ L := by omega
      have HC1 := Hd (aws_any base q out ⟨MD.toArray⟩ wr.drew (HBU.out.ext (ext_refl wr).drew) (by simp [ByteArray.size]; omega) (by simpa using hbs)); go_wp2_with fail; go_region_with (go_at_call 282; go_loud (refine HC1.out.mono ?_; rintro e w3 ⟨rfl, hb3, hk3⟩))
      all_goals go_wp2_with fail
      all_goals (go_ret2; exact ⟨⟨_, rfl⟩, by rw [HINV.out]; simpa using hb3, (HK.out.trans ((Below.refl _ _).drew)).trans hk3⟩)
end Go.Proofs.YtjapbjmeoaagmaaGreatDoor
end

section
set_option maxRecDepth 100000
namespace Orange
def nameC (c : UInt8) : List UInt8 := if c = 39 then [92, 39] else if c = 34 then [34] else quoC c
theorem replP_quoC (c : UInt8) (r : List UInt8) : replP (quoC c ++ r) = nameC c ++ replP r := by
 unfold nameC; by_cases h39 : c = 39
 · subst h39; rw [if_pos rfl]; have : quoC 39 = [39] := by decide
   rw [this]; simp [replP]
 rw [if_neg h39]; by_cases h34 : c = 34
 · subst h34; rw [if_pos rfl]; have : quoC 34 = [92, 34] := by decide
   rw [this]; simp [replP]
 rw [if_neg h34]; by_cases h92 : c = 92
 · subst h92; have : quoC 92 = [92, 92] := by decide
   rw [this]; simp [replP]
 have two : ∀ d : UInt8, d ≠ 34 → d ≠ 92 → d ≠ 39 → replP ([92, d] ++ r) = [92, d] ++ replP r := by
  intro d h1 h2 h3; show replP (92 :: d :: r) = 92 :: d :: replP r; rw [replP_92o r h1 h2, replP_o r h3 h2]
 unfold quoC; rw [if_neg (by simp [h34, h92])]; split
 · exact two _ (by decide) (by decide) (by decide)
 split
 · exact two _ (by decide) (by decide) (by decide)
 split
 · exact two _ (by decide) (by decide) (by decide)
 split
 · exact two _ (by decide) (by decide) (by decide)
 split
 · exact two _ (by decide) (by decide) (by decide)
 split
 · have hx : ∀ n, n < 16 → hexs[n]?.getD 0 ≠ 39 ∧ hexs[n]?.getD 0 ≠ 92 := by decide
   have h1 := hx (c.toNat / 16) (by omega); have h2 := hx (c.toNat % 16) (by omega); show replP (92 :: 117 :: 48 :: 48 :: _ :: _ :: r) = 92 :: 117 :: 48 :: 48 :: _ :: _ :: replP r; rw [replP_92o _ (by decide) (by decide), replP_o _ (by decide) (by decide), replP_o _ (by decide) (by decide), replP_o _ (by decide) (by decide), replP_o _ h1.1 h1.2, replP_o _ h2.1 h2.2]
 · show replP (c :: r) = c :: replP r; exact replP_o r h39 h92
def nameP (s : List UInt8) : List UInt8 := s.flatMap nameC
theorem replP_quoL : ∀ s : List UInt8, replP (quoL s) = nameP s
 | [] => by simp [quoL, nameP, replP]
 | c :: s => by
   have h := replP_quoL s; unfold nameP at h ⊢; rw [List.flatMap_cons, ← h, ← replP_quoC]; rfl
theorem nameC_len (c : UInt8) : (nameC c).length ≤ 6 := by
 unfold nameC; split
 · simp
 split
 · simp
 have h := quoL_len [c]; simpa [quoL] using h
theorem nameP_len (s : List UInt8) : (nameP s).length ≤ 6 * s.length := by
 induction s with
 | nil => simp [nameP]
 | cons c s ih =>
   have := nameC_len c; unfold nameP at ih ⊢; rw [List.flatMap_cons, List.length_append, List.length_cons]; omega
theorem replP_len (s : List UInt8) : (replP s).length ≤ 2 * s.length := by
 fun_induction replP s <;> simp_all <;> omega
end Orange
end

section
set_option maxRecDepth 100000
namespace Go.Proofs.YtjapbjmeoaagmaaGreatDoor
open Go.RowKit Go.Mem Orange
set_option maxHeartbeats 1600000 in
theorem grep_any (g tb : Nat) (s : List UInt8) (hs : s.length ≤ 1000000) (w : World) (hT : Trie w g tb) :
 Calls Tryz.prog 265 #[.pointer (some ⟨g, 0, none⟩), .string ⟨s.toArray⟩] w (fun e w' => e = .returned (.string ⟨(replP s).toArray⟩) ∧ Ext w w') := by
 obtain ⟨i0, hi, hz0, hz1, hz2⟩ := info_parts info8; have hmk : ∀ w : World, (Instr.makeSlice 289 (.int .i64 0) (.int .i64 (s.length : Int))).run Tryz.prog w = .ok (.slice (some ⟨w.heap.size, 0, none⟩) 0 s.length) (w.alloc (.cells (madeCells #[.int .u8 0] s.length) 5)) := fun w => by
  have h := run_make (P := Tryz.prog) w 289 5 i0 (.int .u8 0) Tryz.underlying289 hi hz0 .i64 .i64 0 (s.length : Int) (by omega) (by omega) (by rw [hz2]; omega) (by omega); simp only [Int.toNat_natCast, Int.toNat_zero, hz1, Nat.mul_one] at h; exact h
 have HT := Hd hT; obtain ⟨B, hB⟩ := Ex w.heap.size; obtain ⟨n, hn⟩ := Ex s.length; have hx1 : Ext w ((w.alloc (.cells (madeCells #[.int .u8 0] n) 5)).alloc (.cells #[.slice (some ⟨B, 0, none⟩) 0 n] 289)) := ((ext_refl w).alloc (Nat.le_refl _) _).alloc (by simp) _
 have hbuf : Buf ((w.alloc (.cells (madeCells #[.int .u8 0] n) 5)).alloc (.cells #[.slice (some ⟨B, 0, none⟩) 0 n] 289)) B (B + 1) [] := by
  have h1 := heap_alloc_new (w.alloc (.cells (madeCells #[.int .u8 0] n) 5)) (.cells #[.slice (some ⟨B, 0, none⟩) 0 n] 289); have h2 := heap_alloc_old (w.alloc (.cells (madeCells #[.int .u8 0] n) 5)) (.cells #[.slice (some ⟨B, 0, none⟩) 0 n] 289) (by simp [hB] : B < _); have h3 := heap_alloc_new w (.cells (madeCells #[.int .u8 0] n) 5); rw [hB] at h3; rw [h3] at h2
  have h4 : (w.alloc (.cells (madeCells #[.int .u8 0] n) 5)).heap.size = B + 1 := by simp [hB]
  rw [h4] at h1; refine ⟨_, h1, by omega, by simp [Value.ownBlock], rfl, .inr ⟨B, n, _, rfl, Nat.le_refl _, h2, Nat.zero_le _, by simp only [maxLen]; omega, by rw [size_madeCells]; simp, by simp [cells8]⟩⟩
 have hsz : ((w.alloc (.cells (madeCells #[.int .u8 0] n) 5)).alloc (.cells #[.slice (some ⟨B, 0, none⟩) 0 n] 289)).heap.size = B + 2 := by simp [hB]
 have HX1 := Hd hx1; have HBUF := Hd hbuf; have HSZ := Hd hsz; have HB := Hd hB; rw [hn] at hmk; have HN := Hd hn; clear hT hx1 hbuf hsz hi hz0 hz1 hz2; go_enter Tryz.func265, Tryz.ntmps265
 clear hB; go_wp2_with fail; rw [HB.out]; refine (gwrite_any g tb B (B + 1) s hs _ (fun w' hb => HT.out.ext (HX1.out.trans (hb.mono (by rw [HB.out]; exact Nat.le_refl _)))) HBUF.out (by rw [HSZ.out]; omega)).mono ?_; rintro e w2 ⟨⟨v, rfl⟩, ⟨vb, hq, -, -, hown⟩, hbl⟩; have HX2 : Hid (Ext w w2) := Hd (HX1.out.trans (hbl.mono (by rw [HB.out]; exact Nat.le_refl _))); have hrl := replP_len s
 have hbs := hown.bytes (by omega); obtain ⟨a5, c5, rfl⟩ := own8_shape hown; have c0 : w2.cell? ⟨B + 1, 0, none⟩ = some (.slice a5 (replP s).length c5) := by rw [cell_of_cells hq]; rfl
 have hcv := run_string_of_bytes (P := Tryz.prog) w2 hbs 289 9 5 Tryz.underlying289 Tryz.underlying5 Tryz.underlying9; clear hq hown hbl hbs hrl HT HX1 HBUF HSZ; go_wp2_with fail; go_ret; exact ⟨rfl, HX2.out⟩
set_option maxHeartbeats 1600000 in
theorem rep_any (b rb rc B : Nat) (s : List UInt8) (hs : s.length ≤ 1000000) (w : World) (hBb : B ≤ b) (hbr : ¬ rb = b) (cs : Array Value) (hcs : ∀ j, j < 6 → cs[j]? = keys6[j]?) (hK : Blk w rb cs) (hB : Blk w b (repV 0 0 .nilIface (.slice (some ⟨rb, 0, none⟩) 6 rc))) :
 Calls Tryz.prog 88 #[.pointer (some ⟨b, 0, none⟩), .string ⟨s.toArray⟩] w (fun e w' => e = .returned (.string ⟨(replP s).toArray⟩) ∧ Below B w w') := by
 have hmf : ∀ (fn : Fn) (first cap : Array Value) (w : World), (Instr.makeFunc fn first cap).run Tryz.prog w = .ok (.func fn first cap) w := fun _ _ _ _ => rfl; have hme : ∀ (g : Nat) (w : World), (method 403 208 (.pointer (some ⟨g, 0, none⟩)) "Replace").run Tryz.prog w = .ok (265, .pointer (some ⟨g, 0, none⟩)) w := fun g w => by kernel_rfl
 have hlt := hB.lt; have HC := Hd (rdo_any b rb rc w B hBb hbr cs hcs hK hB); clear hK hB hcs; go_enter Tryz.func88, Tryz.ntmps88
 go_wp2_with fail; refine (HC.out).mono ?_; rintro e w1 ⟨rfl, hb, g, tb, c3, ht⟩; have HB := Hd hb; have HG := Hd (grep_any g tb s hs w1 ht); clear hb ht HC; go_wp2_with fail; refine (HG.out).mono ?_; rintro e w2 ⟨rfl, hx⟩; have HE := Hd (HB.out.trans (hx.mono (by have := HB.out.size; omega))); clear hx; go_wp2_with fail; go_ret; exact ⟨rfl, HE.out⟩
set_option maxHeartbeats 1600000 in
theorem name_any (s : List UInt8) (hs : s.length ≤ 100000) (w : World) : Calls Tryz.prog 64 #[.string ⟨s.toArray⟩] w (fun e w' => e = .returned (.string ⟨(nameP s).toArray⟩) ∧ Ext w w') := by
 have hq : quote s = 34 :: (quoL s ++ [34]) := rfl; have hcall := quote_any ⟨s.toArray⟩ w (by show s.toArray.size ≤ _; simp; omega); rw [show (⟨s.toArray⟩ : ByteArray).data.toList = s by simp, hq] at hcall; have hl := quoL_len s; have HRP := Hd (replP_quoL s); obtain ⟨L, hL⟩ := Ex (quoL s); rw [hL] at hcall hl HRP; have HQ := Hd hcall
 have esl : (⟨(34 :: (L ++ [34])).toArray⟩ : ByteArray).extract 1 (L.length + 1) = ⟨L.toArray⟩ := by
  apply ByteArray.ext
  apply Array.toList_inj.1
  simp [ByteArray.data_extract, Array.toList_extract, List.extract_eq_take_drop]
 obtain ⟨Q, hQ⟩ : ∃ Q : ByteArray, (⟨(34 :: (L ++ [34])).toArray⟩ : ByteArray) = Q := ⟨_, rfl⟩
 have hqs : Q.size = L.length + 2 := by rw [← hQ, ← ByteArray.size_data]; simp
 rw [hQ] at HQ esl; rw [← HRP.out]; have HLL : Hid (L.length ≤ 1000000) := Hd (by omega); clear hcall hq hQ hL HRP; obtain ⟨m, hm⟩ := Ex L.length; rw [hm] at esl hqs; have hm3 : m ≤ 1000001 := by have := HLL.out; omega
 have em : IntKind.i64.wrap ((Q.size : Int) - 1) = ((m + 1 : Nat) : Int) := by rw [hqs, IntWalk.i64_in _ (by omega)]; omega
 have em1 : IntKind.i64.wrap ((m : Int) + 2 - 1) = (m : Int) + 1 := by rw [IntWalk.i64_in _ (by omega)]; omega
 have em2 : IntKind.i64.wrap ((m : Int) + 1) = (m : Int) + 1 := by rw [IntWalk.i64_in _ (by omega)]
 have em3 : ((m : Int) + 1).toNat = m + 1 := by omega
 have em4 : (1 : Int) ≤ (m : Int) + 1 := by omega
 have em5 : (m : Int) + 1 ≤ (m : Int) + 2 := by omega
 have em6 : (0 : Int) ≤ (m : Int) + 1 := by omega
 clear hl hm; go_enter Tryz.func64, Tryz.ntmps64
 go_wp2_with fail; refine (HQ.out).mono ?_; rintro e w1 ⟨rfl, hx⟩; have HX := Hd hx; clear hx HQ; go_wp2_with fail; have v2 : IntKind.i64.wrap 2 = 2 := by decide
 go_region_with (first
  | (go_at_call 87; go_loud (refine (newrep_any _ _ (by first | exact Blk.new rfl _ _ | exact (Blk.new rfl _ _).drew | exact Blk.new (by simp) _ _)).mono ?_; rintro e wn ⟨b, rb', rc, rfl, hx2, hlt, hne, ⟨cs, hcs, hK⟩, hB⟩))
  | (go_at_call 88; go_loud (refine (rep_any b rb' rc w1.heap.size L HLL.out _ (by simp at hlt ⊢; omega) hne cs hcs (by first | exact hK | exact hK.drew) (by first | exact hB | exact hB.drew)).mono ?_; rintro e w' ⟨rfl, hb3⟩)))
 all_goals go_wp2_with fail
 all_goals
  go_ret; refine ⟨rfl, HX.out.trans (Below.mono (B := w1.heap.size) ?_ HX.out.size)⟩; first
   | exact (((ext_refl w1).alloc (Nat.le_refl _) _).trans (hx2.mono (by simp))).trans hb3
   | exact ((((ext_refl w1).alloc (Nat.le_refl _) _).drew).trans (hx2.mono (by simp))).trans hb3
   | exact ((((ext_refl w1).drew.alloc (Nat.le_refl _) _)).trans (hx2.mono (by simp))).trans hb3
   | exact ((((ext_refl w1).alloc (Nat.le_refl _) _)).trans (hx2.mono (by simp))).trans (hb3.drew)
theorem dcat_toList (a b : List UInt8) : ByteArray.mk a.toArray ++ ByteArray.mk b.toArray = ByteArray.mk (a ++ b).toArray := by
 apply ByteArray.ext; simp [ByteArray.data_append]
theorem dig_at : ∀ n : Nat, n < 10 → (ByteArray.mk #[48, 49, 50, 51, 52, 53, 54, 55, 56, 57]).extract n (n + 1) = ByteArray.mk [dgt n].toArray := by
 intro n hn; have : ∀ k : Fin 10, (ByteArray.mk #[48, 49, 50, 51, 52, 53, 54, 55, 56, 57]).extract k.1 (k.1 + 1) = ByteArray.mk [dgt k.1].toArray := by decide +kernel
 exact this ⟨n, hn⟩
set_option maxHeartbeats 1600000 in
theorem digits_step (N : Nat) (ih : ∀ (n : Nat) (w : World), n < N → n ≤ 9223372036854775807 → Calls Tryz.prog 67 #[.int .i64 n] w fun e w' => e = .returned (.string ⟨(decD n).toArray⟩) ∧ Ext w w') :
 ∀ (n : Nat) (w : World), n < N + 1 → n ≤ 9223372036854775807 → Calls Tryz.prog 67 #[.int .i64 n] w fun e w' => e = .returned (.string ⟨(decD n).toArray⟩) ∧ Ext w w' := by
 intro n w hN hn; have IH := Hd ih; clear ih; by_cases h10 : n < 10
 · have hi : (n : Int) < 10 := by omega
   have e1 : decD n = [dgt n] := by
    have : ∀ k : Fin 10, decD k.1 = [dgt k.1] := by
     intro k; unfold decD; split
     · rename_i h; rw [h]; rfl
     · rename_i h; rw [digs_pos h, Nat.div_eq_of_lt k.2, digs_zero, Nat.mod_eq_of_lt k.2]; rfl
    exact this ⟨n, h10⟩
   have hx := dig_at n h10; have e9 : IntKind.i64.wrap ((n : Int) + 1) = ((n + 1 : Nat) : Int) := by rw [IntWalk.i64_in _ (by omega)]; omega
   rw [e1]; have hn1 : (n : Int) + 1 ≤ 10 := by omega
   have hn0 : (0 : Int) ≤ n := by omega
   have hmx : max (n : Int) 0 = n := by omega
   clear e1 IH hN; go_enter Tryz.func67, Tryz.ntmps67
   go_wp2_with fail; go_ret; exact ⟨rfl, ext_refl _⟩
 · have hi : ¬ (n : Int) < 10 := by omega
   have e1 : decD n = decD (n / 10) ++ [dgt (n % 10)] := by
    unfold decD; rw [if_neg (by omega), if_neg (by omega), digs_pos (by omega)]
   have hx := dig_at (n % 10) (Nat.mod_lt _ (by omega)); have hq : (n : Int).tdiv 10 = ((n / 10 : Nat) : Int) := by rw [Int.tdiv_eq_ediv_of_nonneg (by omega)]; omega
   have hr : (n : Int).tmod 10 = ((n % 10 : Nat) : Int) := by rw [Int.tmod_eq_emod_of_nonneg (by omega)]; omega
   obtain ⟨q, hqq⟩ := Ex (n / 10); obtain ⟨r, hrr⟩ := Ex (n % 10); rw [hqq] at e1 hq; rw [hrr] at e1 hr hx; have hr10 : r < 10 := by omega
   have HIH := Hd (fun w' => IH.out q w' (by omega) (by omega)); have hql : (decD q).length ≤ 1000 := by
    unfold decD; split
    · simp
    · exact Nat.le_trans (digs_len 20 q (by omega)) (by omega)
   have hcat := dcat_toList (decD q) [dgt r]; have w1 : IntKind.i64.wrap (q : Int) = (q : Int) := by rw [IntWalk.i64_in _ (by omega)]
   have w2 : IntKind.i64.wrap (r : Int) = (r : Int) := by rw [IntWalk.i64_in _ (by omega)]
   have e9 : IntKind.i64.wrap ((r : Int) + 1) = ((r + 1 : Nat) : Int) := by rw [IntWalk.i64_in _ (by omega)]; omega
   rw [e1]; have hn1 : (r : Int) + 1 ≤ 10 := by omega
   have hn0 : (0 : Int) ≤ r := by omega
   have hn2 : (0 : Int) ≤ (r : Int) + 1 := by omega
   have hn3 : (r : Int) ≤ (r : Int) + 1 := by omega
   obtain ⟨X, hX⟩ := Ex (decD q); have hih := HIH.out; rw [hX] at hql hcat hih ⊢; replace HIH := Hd hih; have hs : ¬ 9223372036854775807 < X.length + 1 := by omega
   clear e1 IH hN hX hqq hrr hih; go_enter Tryz.func67, Tryz.ntmps67
   go_upto_region 3 with fail; refine Grow.wp_region_litW (G := Ext) (B := fun w' => Ext w w') (anc := fun _ => []) (I := fun j => if j = 2 then some (Grow.Spec.val Ext (.string ⟨X.toArray⟩)) else none) (by kernel_rfl) (by kernel_rfl) (by kernel_rfl) ?_ ?_ ?_
   · exact fun w w' h hg => ext_trans h hg
   · exact (ext_refl _).drew
   repeat
    (refine Grow.Wk.step (fun K hK => ?_)
     first
     | (refine Grow.step_read (by rfl) (by rfl) (fun w => ext_refl w) ?_
        apply Exists.intro; refine ⟨fun w hB hF => ?_, ?_⟩
        · skip
          go_simp; try exact rfl
        go_simp; refine hK _ _ ?_; clear hK K)
     | (refine Grow.step_off (by rfl) ?_
        go_simp; refine hK _ _ ?_; clear hK K))
   refine Grow.Wk.step (fun K hK => ?_); refine Grow.step_rel (by rfl) (by rfl) (fun w' hB hF => ?_) (fun v hv => ?_)
   · go_simp; refine Grow.relUpon_enter ((HIH.out w').mono ?_); rintro e w'' ⟨rfl, hw''⟩; exact ⟨_, rfl, hw'', rfl, trivial⟩
   obtain rfl : v = _ := hv; go_simp; refine hK _ _ ?_; clear hK K; repeat
    (refine Grow.Wk.step (fun K hK => ?_)
     first
     | (refine Grow.step_read (by rfl) (by rfl) (fun w => ext_refl w) ?_
        apply Exists.intro; refine ⟨fun w hB hF => ?_, ?_⟩
        · skip
          go_simp; try exact rfl
        go_simp; refine hK _ _ ?_; clear hK K)
     | (refine Grow.step_off (by rfl) ?_
        go_simp; refine hK _ _ ?_; clear hK K))
   refine Grow.Wk.nil ?_; intro wv hB hF; replace hB : Ext w wv := hB; clear hF; go_wp2_with fail; go_ret; exact ⟨rfl, hB⟩
theorem digitsN_any (n : Nat) (w : World) (hn : n ≤ 9223372036854775807) : Calls Tryz.prog 67 #[.int .i64 n] w fun e w' => e = .returned (.string ⟨(decD n).toArray⟩) ∧ Ext w w' := by
 have key : ∀ N : Nat, ∀ (n : Nat) (w : World), n < N → n ≤ 9223372036854775807 → Calls Tryz.prog 67 #[.int .i64 n] w fun e w' => e = .returned (.string ⟨(decD n).toArray⟩) ∧ Ext w w' := by
  intro N; induction N with
  | zero => intro n w h; omega
  | succ N ih => exact digits_step N ih
 exact key _ n w (Nat.lt_succ_self _) hn
set_option maxHeartbeats 1600000 in
theorem digits_any (n : Int) (w : World) (h0 : -9223372036854775808 ≤ n) (h1 : n ≤ 9223372036854775807) : Calls Tryz.prog 67 #[.int .i64 n] w fun e w' => e = .returned (.string ⟨(itoaP (max n 0)).toArray⟩) ∧ Ext w w' := by
 by_cases hn : n < 0
 · have e1 : itoaP (max n 0) = [48] := by rw [show max n 0 = 0 by omega]; rfl
   have hi : n < 10 := by omega
   have hmx : max n 0 = 0 := by omega
   have hx := dig_at 0 (by omega); rw [e1]; clear e1 hn h0 h1; go_enter Tryz.func67, Tryz.ntmps67
   go_wp2_with fail; go_ret; exact ⟨rfl, ext_refl _⟩
 · obtain ⟨m, rfl⟩ : ∃ m : Nat, n = m := ⟨n.toNat, by omega⟩
   have e1 : itoaP (max (m : Int) 0) = decD m := by
    rw [show max (m : Int) 0 = m by omega]; unfold itoaP; rw [if_neg (by omega)]; rfl
   rw [e1]; exact digitsN_any m w (by omega)
end Go.Proofs.YtjapbjmeoaagmaaGreatDoor
end

section
set_option maxRecDepth 100000
namespace Orange
def kind (x : UInt8) : Nat := if 240 ≤ x.toNat then 4 else if 224 ≤ x.toNat then 3 else if 192 ≤ x.toNat then 2 else 1
end Orange
end

section
set_option maxRecDepth 100000
namespace Go.Proofs.YtjapbjmeoaagmaaGreatDoor
open Go.RowKit Go.Mem Orange
theorem ba_append (a b : ByteArray) : (a ++ b).data.toList = a.data.toList ++ b.data.toList := by simp
theorem ba_one (s : ByteArray) (i : Nat) (h : i < s.size) : (s.extract i (i + 1)).data.toList = [s[i]] := by
 have h1 : (s.extract i (i + 1)).data.toList = (s.data.toList.drop i).take 1 := by simp [ByteArray.data_extract, Array.toList_extract]
 rw [h1, List.drop_eq_getElem_cons (by simpa using h)]; simp; rfl
theorem ba_ext {a b : ByteArray} (h : a.data.toList = b.data.toList) : a = b := by
 cases a; cases b; congr 1; exact Array.toList_inj.1 h
theorem ba_hex (n : Nat) (h : n < 16) : ((ByteArray.mk #[48, 49, 50, 51, 52, 53, 54, 55, 56, 57, 97, 98, 99, 100, 101, 102]).extract n (n + 1)).data.toList = [hexs[n]?.getD 0] := by
 rw [ba_one (ByteArray.mk #[48, 49, 50, 51, 52, 53, 54, 55, 56, 57, 97, 98, 99, 100, 101, 102]) n h, hexget n h]
set_option maxHeartbeats 3200000 in
set_option maxRecDepth 100000 in
theorem refquote_any (s : ByteArray) (w : World) (hl : s.size ≤ 1000000000) :
 Calls Tryz.prog 68 #[.string s] w fun e w' => e = .returned (.string ⟨(quote s.data.toList).toArray⟩) ∧ Ext w w' := by
 go_enter Tryz.func68, Tryz.ntmps68
 go_wp2_with fail; go_loopw [3, 5] (fun v iv wr => ∃ (i n : Nat) (out : ByteArray), i ≤ s.size ∧ iv = .int .i64 i ∧ v = .string out ∧ wr = w.drewN n ∧ out.data.toList = 34 :: quoL (s.data.toList.take i)) (fun _ iv _ => s.size - (intOf iv).toNat)
 case atStart => exact ⟨0, 0, _, by omega, rfl, rfl, rfl, rfl⟩
 case round =>
  obtain ⟨i, n, out, hi, rfl, rfl, rfl, ho⟩ := hrel; have hob : out.size ≤ 10000000000 := by
   have h1 := quoL_len (s.data.toList.take i); have h2 := congrArg List.length ho; rw [Array.length_toList] at h2; have h3 : (s.data.toList.take i).length ≤ i := List.length_take_le _ _; simp only [List.length_cons] at h2; show out.data.size ≤ _; omega
  have HO := Hd ho; clear ho; by_cases hlt : i < s.size
  · obtain ⟨c, hc⟩ := Ex (s[i]); have hq := quoL_snoc s i hlt c hc; have hb1 := ba_one s i hlt; rw [hc] at hb1; have hc8 : c.toNat < 256 := c.toNat_lt; have hmn : min (i + 1) s.size - i = 1 := by omega
    have HQ := Hd hq; have HB := Hd hb1; clear hq hb1; by_cases h34 : c.toNat = 34
    · have hcc : Hid (c = 34) := Hd (UInt8.toNat_inj.1 h34); have hqc : Hid (quoC c = [92, c]) := Hd (by rw [hcc.out]; rfl); go_wp2_with fail; go_roundw
      case rel => exact ⟨i + 1, _, _, by omega, by go_num, rfl, rfl, by simp only [ba_append, HO.out, HQ.out, hqc.out, HB.out]; simp⟩
      case measure => simp [intOf]; omega
    · have g34 : c ≠ 34 := fun e => h34 (by rw [e]; rfl); have q34 : ((c.toNat : Int) == 34) = false := by simp; omega
      by_cases h92 : c.toNat = 92
      · have hcc : Hid (c = 92) := Hd (UInt8.toNat_inj.1 h92); have hqc : Hid (quoC c = [92, c]) := Hd (by rw [hcc.out]; rfl); go_wp2_with fail; go_roundw
        case rel => exact ⟨i + 1, _, _, by omega, by go_num, rfl, rfl, by simp only [ba_append, HO.out, HQ.out, hqc.out, HB.out]; simp⟩
        case measure => simp [intOf]; omega
      · have g92 : c ≠ 92 := fun e => h92 (by rw [e]; rfl); have q92 : ((c.toNat : Int) == 92) = false := by simp; omega
        by_cases h8 : c.toNat = 8
        · have hcc : Hid (c = 8) := Hd (UInt8.toNat_inj.1 h8); have hqc : Hid (quoC c = [92, 98]) := Hd (by rw [hcc.out]; rfl); go_wp2_with fail; go_roundw
          case rel => exact ⟨i + 1, _, _, by omega, by go_num, rfl, rfl, by simp only [ba_append, HO.out, HQ.out, hqc.out]; simp⟩
          case measure => simp [intOf]; omega
        · have g8 : c ≠ 8 := fun e => h8 (by rw [e]; rfl); have q8 : ((c.toNat : Int) == 8) = false := by simp; omega
          by_cases h9 : c.toNat = 9
          · have hcc : Hid (c = 9) := Hd (UInt8.toNat_inj.1 h9); have hqc : Hid (quoC c = [92, 116]) := Hd (by rw [hcc.out]; rfl); go_wp2_with fail; go_roundw
            case rel => exact ⟨i + 1, _, _, by omega, by go_num, rfl, rfl, by simp only [ba_append, HO.out, HQ.out, hqc.out]; simp⟩
            case measure => simp [intOf]; omega
          · have g9 : c ≠ 9 := fun e => h9 (by rw [e]; rfl); have q9 : ((c.toNat : Int) == 9) = false := by simp; omega
            by_cases h10 : c.toNat = 10
            · have hcc : Hid (c = 10) := Hd (UInt8.toNat_inj.1 h10); have hqc : Hid (quoC c = [92, 110]) := Hd (by rw [hcc.out]; rfl); go_wp2_with fail; go_roundw
              case rel => exact ⟨i + 1, _, _, by omega, by go_num, rfl, rfl, by simp only [ba_append, HO.out, HQ.out, hqc.out]; simp⟩
              case measure => simp [intOf]; omega
            · have g10 : c ≠ 10 := fun e => h10 (by rw [e]; rfl); have q10 : ((c.toNat : Int) == 10) = false := by simp; omega
              by_cases h12 : c.toNat = 12
              · have hcc : Hid (c = 12) := Hd (UInt8.toNat_inj.1 h12); have hqc : Hid (quoC c = [92, 102]) := Hd (by rw [hcc.out]; rfl); go_wp2_with fail; go_roundw
                case rel => exact ⟨i + 1, _, _, by omega, by go_num, rfl, rfl, by simp only [ba_append, HO.out, HQ.out, hqc.out]; simp⟩
                case measure => simp [intOf]; omega
              · have g12 : c ≠ 12 := fun e => h12 (by rw [e]; rfl); have q12 : ((c.toNat : Int) == 12) = false := by simp; omega
                by_cases h13 : c.toNat = 13
                · have hcc : Hid (c = 13) := Hd (UInt8.toNat_inj.1 h13); have hqc : Hid (quoC c = [92, 114]) := Hd (by rw [hcc.out]; rfl); go_wp2_with fail; go_roundw
                  case rel => exact ⟨i + 1, _, _, by omega, by go_num, rfl, rfl, by simp only [ba_append, HO.out, HQ.out, hqc.out]; simp⟩
                  case measure => simp [intOf]; omega
                · have g13 : c ≠ 13 := fun e => h13 (by rw [e]; rfl); have q13 : ((c.toNat : Int) == 13) = false := by simp; omega
                  by_cases h32 : c.toNat < 32
                  · have hqc : Hid (quoC c = [92, 117, 48, 48, hexs[c.toNat / 16]?.getD 0, hexs[c.toNat % 16]?.getD 0]) := Hd (by simp only [quoC, g34, g92, g8, g9, g10, g12, g13, or_self, if_false]; rw [if_pos h32]); clear g34 g92 g8 g9 g10 g12 g13; have hx1 := ba_hex (c.toNat / 16) (by omega); have hx2 := ba_hex (c.toNat % 16) (by omega); have HX1 := Hd hx1; have HX2 := Hd hx2; clear hx1 hx2
                    have e1 : IntKind.u8.wrap ((c.toNat : Int) / 16 + 1) = (c.toNat : Int) / 16 + 1 := IntWalk.u8_in _ (by omega); have e2 : IntKind.u8.wrap ((c.toNat : Int) % 16 + 1) = (c.toNat : Int) % 16 + 1 := IntWalk.u8_in _ (by omega); have e3 : ((c.toNat : Int) / 16).toNat = c.toNat / 16 := by omega
                    have e4 : ((c.toNat : Int) % 16).toNat = c.toNat % 16 := by omega
                    have e5 : ((c.toNat : Int) / 16 + 1).toNat = c.toNat / 16 + 1 := by omega
                    have e6 : ((c.toNat : Int) % 16 + 1).toNat = c.toNat % 16 + 1 := by omega
                    have m1 : min (c.toNat / 16 + 1) 16 - c.toNat / 16 = 1 := by omega
                    have m2 : min (c.toNat % 16 + 1) 16 - c.toNat % 16 = 1 := by omega
                    go_wp2_with fail; go_quiet (fail)
                    clear e1 e2 e3 e4 e5 e6 m1 m2; go_wp2_with fail; go_roundw
                    case rel => exact ⟨i + 1, _, _, by omega, by go_num, rfl, rfl, by simp only [ba_append, HO.out, HQ.out, hqc.out, HX1.out, HX2.out]; simp⟩
                    case measure => simp [intOf]; omega
                  · have hqc : Hid (quoC c = [c]) := Hd (by simp only [quoC, g34, g92, g8, g9, g10, g12, g13, or_self, if_false]; rw [if_neg h32]); clear g34 g92 g8 g9 g10 g12 g13; go_wp2_with fail; go_roundw
                    case rel => exact ⟨i + 1, _, _, by omega, by go_num, rfl, rfl, by simp only [ba_append, HO.out, HQ.out, hqc.out, HB.out]; simp⟩
                    case measure => simp [intOf]; omega
  · obtain rfl : i = s.size := by omega
    go_wp2_with fail; go_ret; refine ⟨ret_eq (congrArg Value.string (ba_ext ?_)), below_drewN (ext_refl w) _⟩; have := HO.out; rw [List.take_of_length_le (by rw [Array.length_toList]; exact Nat.le_refl _)] at this; rw [ba_append, this]; simp [quote]
end Go.Proofs.YtjapbjmeoaagmaaGreatDoor
end

section
set_option maxRecDepth 100000
namespace Orange
def placeQ (l : List PStep) : List UInt8 := placeTx (fun s => nameP s.name) l
theorem quoteQ (c : UInt8) : ∃ (Q Y : ByteArray) (m : Nat), Q = ⟨(quote [c]).toArray⟩ ∧ Q.size = m + 2 ∧ Q.extract 1 (m + 1) = Y ∧ Y.data.toList = quoC c ∧ m ≤ 6 ∧ Y.size = m := by
 have hl : (quoC c).length ≤ 6 := quoC_len c; have hq : quote [c] = 34 :: (quoC c ++ [34]) := by simp [quote, quoL]
 refine ⟨_, _, (quoC c).length, rfl, ?_, rfl, ?_, hl, ?_⟩
 · rw [hq, ← ByteArray.size_data]; simp
 · rw [hq]; simp [ByteArray.data_extract, Array.toList_extract, List.extract_eq_take_drop]
 · rw [hq, ← ByteArray.size_data]; simp [ByteArray.data_extract]
theorem bsz1 (a : UInt8) : (ByteArray.mk #[a]).size = 1 := rfl
theorem bsz2 (a b : UInt8) : (ByteArray.mk #[a, b]).size = 2 := rfl
theorem bszN (l : List UInt8) : (ByteArray.mk l.toArray).size = l.length := by rw [← ByteArray.size_data]; simp
theorem nameP_take (s : List UInt8) (k : Nat) (h : k < s.length) (c : UInt8) (hc : s[k] = c) : nameP (s.take (k + 1)) = nameP (s.take k) ++ nameC c := by
 unfold nameP; rw [List.take_add_one, List.getElem?_eq_getElem h, hc, Option.toList_some, List.flatMap_append]; simp
theorem one_ext (s : List UInt8) (k : Nat) (h : k < s.length) (c : UInt8) (hc : s[k] = c) : (⟨s.toArray⟩ : ByteArray).extract k (k + 1) = ⟨#[c]⟩ := by
 apply ByteArray.ext
 apply Array.toList_inj.1
 simp only [ByteArray.data_extract, Array.toList_extract, List.extract_eq_take_drop]; rw [show k + 1 - k = 1 by omega, List.drop_eq_getElem_cons h, hc]; simp
end Orange
namespace Go.Proofs.YtjapbjmeoaagmaaGreatDoor
open Go.RowKit Go.Mem Orange
set_option maxHeartbeats 6400000 in
theorem rplace_any (A : Nat → Prop) (v : Value) (l : List PStep) (w : World) (hl : PlAt w A v l) (hlen : l.length ≤ 100) (hnl : ∀ s ∈ l, s.name.length ≤ 100) :
 Calls Tryz.prog 31 #[v] w (fun e w' => e = .returned (.string ⟨(placeQ l).toArray⟩) ∧ Ext w w') := by
 obtain ⟨_, va, vc, rfl, hvn, hvm, -⟩ := id hl.1; have HL := Hd hl; have HNL := Hd hnl; clear hl hnl; go_enter Tryz.func31, Tryz.ntmps31
 go_wp2_with fail; go_loopw [3, 4] (fun ov iv wr => ∃ (i : Nat) (out : ByteArray), ov = .string out ∧ iv = .int .i64 i ∧ i ≤ l.length ∧ Hid (out.data.toList = placeQ (l.take i)) ∧ out.size ≤ 1 + i * 1000 ∧ Ext w wr) (fun _ iv _ => 10000 - (intOf iv).toNat)
 case atStart => exact ⟨0, _, rfl, rfl, Nat.zero_le _, Hd rfl, by decide, ext_refl _⟩
 case round =>
  obtain ⟨i, out, rfl, rfl, hi, HO, hos, hx⟩ := hrel; have HX := Hd hx; clear hx; by_cases hlt : i < l.length
  · have hlti : (i : Int) < l.length := by omega
    have hi0 : (0 : Int) ≤ i := by omega
    have e9 : IntKind.i64.wrap ((i : Int) + 1) = ((i + 1 : Nat) : Int) := by rw [IntWalk.i64_in _ (by omega)]; omega
    obtain ⟨g, o, rfl, hgA, hel⟩ := HL.out.elem i hlt; obtain ⟨c0, c1, c2⟩ := hel wr (fun g hg hlt => HX.out.block g hlt); have HPT := Hd (placeTx_take (fun s => nameP s.name) l i hlt); have hps := HL.out.2 l[i] (List.getElem_mem hlt); have hsn := HNL.out l[i] (List.getElem_mem hlt); clear hel; generalize l[i] = s at *; obtain ⟨sn, sp, sb⟩ := s; simp only at c0 c1 c2 hps hsn; cases sb with
    | false =>
      have hst : stepTx (fun s => nameP s.name) ⟨sn, sp, false⟩ = [91] ++ itoaP (max sp 0) ++ [93] := by unfold stepTx; rw [if_neg (by simp)]
      have hpt := HPT.out; rw [hst] at hpt; have hil := itoaP_len (n := max sp 0) (by omega) (by have := hps.2; omega); have hdg := digits_any sp wr (by have := hps.1; omega) (by have := hps.2; omega); obtain ⟨N, hN⟩ := Ex (itoaP (max sp 0)); rw [hN] at hdg hpt hil; replace HPT := Hd hpt; have HDG := Hd hdg; clear hdg hpt hst hN; have n1 : ¬ 9223372036854775807 < out.size + 1 := by omega
      have n2 : ¬ 9223372036854775807 < out.size + 1 + N.length := by omega
      have n3 : ¬ 9223372036854775807 < out.size + 1 + N.length + 1 := by omega
      go_wp2_with fail; refine (HDG.out).mono ?_; rintro e w1 ⟨rfl, hx1⟩; have HX1 := Hd (ext_trans HX.out hx1); clear hx1 HDG c0 c1 c2; go_wp2_with fail; go_roundw
      case rel => exact ⟨i + 1, _, rfl, by go_num, by omega, Hd (by unfold placeQ; rw [HPT.out]; simp only [ba_append, HO.out, placeQ]; simp), by simp only [ByteArray.size_append, bsz1, bsz2, bszN, List.length_cons, List.length_nil]; omega, HX1.out⟩
      case measure => simp [intOf]; omega
    | true =>
      have hst : stepTx (fun s => nameP s.name) ⟨sn, sp, true⟩ = [91, 39] ++ nameP sn ++ [39, 93] := by unfold stepTx; rw [if_pos rfl]
      have hpt := HPT.out; rw [hst] at hpt; replace HPT := Hd hpt; clear hpt hst; have n1 : ¬ 9223372036854775807 < out.size + 2 := by omega
      have HX0 := HX; go_wp2_with fail; clear c0 c1 c2; go_loopw [3, 6] (fun ov kv wx => ∃ (k : Nat) (ou : ByteArray), ov = .string ou ∧ kv = .int .i64 k ∧ k ≤ sn.length ∧ Hid (ou.data.toList = placeQ (l.take i) ++ [91, 39] ++ nameP (sn.take k)) ∧ ou.size ≤ out.size + 2 + k * 6 ∧ Ext wr wx) (fun _ kv _ => 1000 - (intOf kv).toNat)
      case atStart => exact ⟨0, _, rfl, rfl, Nat.zero_le _, Hd (by simp only [ba_append, HO.out]; simp [nameP]), by simp only [ByteArray.size_append, bsz2]; omega, ext_refl _⟩
      case round =>
       obtain ⟨k, ou, rfl, rfl, hk, HU, hus, hxx⟩ := hrel; have HXX := Hd hxx; clear hxx n1; by_cases hkl : k < sn.length
       · have hklt : (k : Int) < sn.length := by omega
         have hk0 : (0 : Int) ≤ k := by omega
         have e8 : IntKind.i64.wrap ((k : Int) + 1) = ((k + 1 : Nat) : Int) := by rw [IntWalk.i64_in _ (by omega)]; omega
         have hg := sx_get sn k hkl; obtain ⟨c, hc⟩ := Ex (sn[k]); have HNT := Hd (nameP_take sn k hkl c hc); have hox := one_ext sn k hkl c hc; rw [hc] at hg; clear hc; have n2 : ¬ 9223372036854775807 < ou.size + 2 := by omega
         have n3 : ¬ 9223372036854775807 < ou.size + 1 := by omega
         by_cases h39 : c = 39
         · subst h39; have hcn : nameC 39 = [92, 39] := by decide
           rw [hcn] at HNT; clear hox hcn; go_wp2_with fail; go_roundw
           case rel => exact ⟨k + 1, _, rfl, by go_num, by omega, Hd (by rw [HNT.out]; simp only [ba_append, HU.out]; simp), by simp only [ByteArray.size_append, bsz1, bsz2, bszN, List.length_cons, List.length_nil]; omega, HXX.out⟩
           case measure => simp [intOf]; omega
         · have b39 := b_ne c 39 39 rfl h39; by_cases h34 : c = 34
           · subst h34; have hcn : nameC 34 = [34] := by decide
             rw [hcn] at HNT; clear hox hcn h39 b39; go_wp2_with fail; go_roundw
             case rel => exact ⟨k + 1, _, rfl, by go_num, by omega, Hd (by rw [HNT.out]; simp only [ba_append, HU.out]; simp), by simp only [ByteArray.size_append, bsz1, bsz2, bszN, List.length_cons, List.length_nil]; omega, HXX.out⟩
             case measure => simp [intOf]; omega
           · have b34 := b_ne c 34 34 rfl h34; have hcn : nameC c = quoC c := by unfold nameC; rw [if_neg h39, if_neg h34]
             obtain ⟨Q, Y, m, hQ, hqs, hqe, hY, hm6, hYs⟩ := quoteQ c; have hcall := refquote_any ⟨#[c]⟩ wr (by show 1 ≤ 1000000000; omega); rw [show (⟨#[c]⟩ : ByteArray).data.toList = [c] from rfl, ← hQ] at hcall; have HC := Hd hcall; have HYY := Hd hY; rw [hcn] at HNT; have em : IntKind.i64.wrap ((Q.size : Int) - 1) = ((m + 1 : Nat) : Int) := by rw [hqs, IntWalk.i64_in _ (by omega)]; omega
             have n4 : ¬ 9223372036854775807 < ou.size + m := by omega
             clear hcall hQ hY hcn h34 h39; go_wp2_with fail; refine (HC.out).mono ?_; rintro e w1 ⟨rfl, hx1⟩; have HX1 := Hd (ext_trans HXX.out hx1); clear hx1 HC; go_wp2_with fail; go_roundw
             case rel => exact ⟨k + 1, _, rfl, by go_num, by omega, Hd (by rw [HNT.out]; simp only [ba_append, HU.out, HYY.out]; simp), by simp only [ByteArray.size_append, bsz1, bsz2, bszN, List.length_cons, List.length_nil]; omega, HX1.out⟩
             case measure => simp [intOf]; omega
       · obtain rfl : k = sn.length := by omega
         have hnn : ¬ (sn.length : Int) < sn.length := by omega
         have n2 : ¬ 9223372036854775807 < ou.size + 2 := by omega
         have HU2 : Hid (ou.data.toList = placeQ (l.take i) ++ [91, 39] ++ nameP sn) := Hd (by have := HU.out; rwa [List.take_length] at this); clear HU; go_wp2_with fail; go_roundw
         case rel => exact ⟨i + 1, _, rfl, by go_num, by omega, Hd (by unfold placeQ; rw [HPT.out]; simp only [ba_append, HU2.out, placeQ]; simp), by simp only [ByteArray.size_append, bsz1, bsz2, bszN, List.length_cons, List.length_nil]; omega, ext_trans HX0.out HXX.out⟩
         case measure => simp [intOf]; omega
  · obtain rfl : i = l.length := by omega
    have hnn : ¬ (l.length : Int) < l.length := by omega
    go_wp2_with fail; go_ret; have ho := HO.out; rw [List.take_length] at ho; have hfin : out = ⟨(placeQ l).toArray⟩ := ba_ext (by rw [ho]); exact ⟨by rw [← hfin]; rfl, HX.out⟩
set_option maxHeartbeats 1600000 in
theorem first_any (key : List UInt8) (v : Value) (m : List Mem1) (cm : List Value) (A : Nat → Prop) (w : World) (hr : RowAt w A 9 v m.length cm) (ht : TM w A m cm) (hml : m.length ≤ 1000000) :
 Calls Tryz.prog 61 #[v, .string ⟨key.toArray⟩] w (fun e w' => e = .returned (.int .i64 (fIdx (hasKey key) m)) ∧ Ext w w') := by
 obtain ⟨_, a, cap, rfl, hcap, hcm, -⟩ := id hr; have HR := Hd hr; have HT := Hd ht; clear hr ht; obtain ⟨R, hR⟩ := Ex (fIdx (hasKey key) m); rw [hR]; have HRR := Hd hR; clear hR; go_enter Tryz.func61, Tryz.ntmps61
 go_wp2_with fail; go_loopw [5] (fun iv wr => ∃ i : Nat, iv = .int .i64 i ∧ i ≤ m.length ∧ (∀ j (hj : j < m.length), j < i → hasKey key m[j] = false) ∧ Ext w wr) (fun iv _ => 2000000 - (intOf iv).toNat)
 case atStart => exact ⟨0, rfl, by omega, fun j _ h => by omega, ext_refl _⟩
 case round =>
  obtain ⟨i, rfl, hi, hall, hE⟩ := hrel; have HA := Hd hall; have HX := Hd hE; clear hall hE; by_cases hlt : i < m.length
  · have hlti : (i : Int) < m.length := by omega
    have hi0 : (0 : Int) ≤ i := by omega
    obtain ⟨g, o, xk, xb, xd, xs, xa1, xn1, xc1, xa2, xn2, xc2, rfl, htx, hcell⟩ := mem_elem HR.out HT.out rfl i hlt; have x0 := (hcell wr (fun g _ hg => HX.out.block g hg)).1; have HHIT : Hid (hasKey key m[i] = true → R = i) := Hd (fun h => by rw [← HRR.out]; exact fIdx_hit hlt (fun j hj => HA.out j (by omega) hj) h)
    have HMISS : Hid (hasKey key m[i] = false → ∀ j (hj : j < m.length), j < i + 1 → hasKey key m[j] = false) := Hd (fun h j hj hji => by
     by_cases e : j = i
     · subst e; exact h
     · exact HA.out j hj (by omega))
    have hkb : hasKey key m[i] = (m[i].1 == key) := rfl; rw [hkb] at HHIT HMISS; obtain ⟨kx, hkx⟩ := Ex (m[i].1); rw [hkx] at x0 HHIT HMISS; have e9 : IntKind.i64.wrap ((i : Int) + 1) = ((i + 1 : Nat) : Int) := by rw [IntWalk.i64_in _ (by omega)]; omega
    obtain ⟨B, hB⟩ := Ex ((kx == key)); rw [hB] at HHIT HMISS; clear htx hcell hkb hkx; cases B with
    | true =>
      have hke : kx = key := by simpa using hB
      have HF := Hd (HHIT.out rfl); subst hke; clear hB HHIT HMISS; go_wp2_with fail; go_ret; exact ⟨by rw [HF.out]; rfl, HX.out⟩
    | false =>
      have hke : ¬ kx = key := by simpa using hB
      have HF := Hd (HMISS.out rfl); clear HHIT HMISS; go_wp2_with fail; exact ⟨⟨i + 1, by go_num, by omega, HF.out, HX.out⟩, by simp [intOf]; omega⟩
  · obtain rfl : i = m.length := by omega
    have HF : Hid (R = -1) := Hd (by rw [← HRR.out]; exact fIdx_none (fun j hj => HA.out j hj hj)); go_wp2_with fail; go_ret; exact ⟨by rw [HF.out]; rfl, HX.out⟩
set_option maxHeartbeats 3200000 in
theorem rget_any (t : Tree) (c : Array Value) (A : Nat → Prop) (key : List UInt8) (w : World) (h : TV w A t c) (hml : t.mems.length ≤ 1000000) :
 Calls Tryz.prog 84 #[.agg c, .string ⟨key.toArray⟩] w (fun e w' => ∃ c', e = .returned (.tuple #[.agg c', .bool (getT t key).isSome]) ∧ TV w' A ((getT t key).getD tNull) c' ∧ Ext w w') := by
 obtain ⟨k, b, d, s, la, ln, lc, ma, mn, mc, rfl⟩ := h.eight; obtain ⟨cl, cm, htl, hrl, htm, hrm, hk, -⟩ := tv_rows h; obtain ⟨tk, tb, tn, ts, L, M⟩ := t; simp only [Tree.list, Tree.mems, Tree.kind] at htl hrl htm hrm hk; subst hk; obtain ⟨R, hR⟩ := Ex (getT (.mk k tb tn ts L M) key); rw [hR]; replace hR : (if k = 5 then findM key M else none) = R := hR; have HR := Hd hR
 obtain ⟨_, a2, c2, ea, hm1, hm2, -⟩ := id hrm; simp only [Value.slice.injEq] at ea; obtain ⟨rfl, rfl, rfl⟩ := ea; have hx0 : Ext w (w.alloc (.cells (cellsV k b d s (.slice la ln lc) (.slice ma M.length mc)) 27)) := (ext_refl w).alloc (Nat.le_refl _) _; have hv0 := VAt.new w (cellsV k b d s (.slice la ln lc) (.slice ma M.length mc))
 have hx1 : Ext (w.alloc (.cells (cellsV k b d s (.slice la ln lc) (.slice ma M.length mc)) 27)) ((w.alloc (.cells (cellsV k b d s (.slice la ln lc) (.slice ma M.length mc)) 27)).alloc (.cells zeroV 27)) := (ext_refl _).alloc (Nat.le_refl _) _; have hv1 := VAt.new (w.alloc (.cells (cellsV k b d s (.slice la ln lc) (.slice ma M.length mc)) 27)) zeroV; replace hv0 := hv0.ext hx1
 rw [show (w.alloc (.cells (cellsV k b d s (.slice la ln lc) (.slice ma M.length mc)) 27)).heap.size = w.heap.size + 1 by simp] at hv1; have hE := ext_trans hx0 hx1; replace hml : M.length ≤ 1000000 := hml; clear hR hx0 hx1 htl hrl h; simp only [cellsV, zeroV, noL, Num.zero] at hv0 hv1 hE ⊢; go_enter Tryz.func84, Tryz.ntmps84
 go_upto_region 1 with fail; generalize (w.alloc (.cells #[.int .i64 k, .bool b, .bool d.neg, .string ⟨d.digits.toArray⟩, .int .i64 d.exp, .string ⟨s.toArray⟩, .slice la ln lc, .slice ma M.length mc] 27)).alloc (.cells #[.int .i64 0, .bool false, .bool false, .string ⟨#[]⟩, .int .i64 0, .string ⟨#[]⟩, .slice none 0 0, .slice none 0 0] 27) = w1 at *; obtain ⟨S, hS⟩ := Ex w.heap.size
 rw [hS] at hv0 hv1 ⊢; have HC := Hd hv0; have HV2 := Hd hv1; have HE := Hd hE; have HS := Hd hS; have HTM := Hd (htm.keep (w' := w1) (A' := fun g => A g ∧ g < S) hE.size (fun g hg hlt => ⟨⟨hg, by omega⟩, hE.block g hlt⟩)); have HRM := Hd (hrm.keep (w' := w1) (A' := fun g => A g ∧ g < S) hE.size (fun g hg hlt => ⟨⟨hg, by omega⟩, hE.block g hlt⟩)); clear hv0 hv1 hE htm hrm hS
 obtain ⟨c0, c1, c2, c3, c4, c5, c6, c7⟩ := HC.out.c8; go_wp2_with fail; refine (first_any key _ M cm _ w1 HRM.out HTM.out (by omega)).mono ?_; rintro e w2 ⟨rfl, hw2⟩; clear c0 c1 c2 c3 c4 c5 c6 c7; replace HC := Hd (HC.out.ext hw2); replace HV2 := Hd (HV2.out.ext hw2); replace HE := Hd (ext_trans HE.out hw2)
 replace HTM := Hd (HTM.out.keep (w' := w2) (A' := fun g => A g ∧ g < S) hw2.size (fun g hg hlt => ⟨hg, hw2.block g hlt⟩)); replace HRM := Hd (HRM.out.keep (w' := w2) (A' := fun g => A g ∧ g < S) hw2.size (fun g hg hlt => ⟨hg, hw2.block g hlt⟩)); clear hw2; obtain ⟨c0, c1, c2, c3, c4, c5, c6, c7⟩ := HC.out.c8; obtain ⟨y0, y1, y2, y3, y4, y5, y6, y7⟩ := HV2.out.c8
 obtain ⟨z0, z1, z2, z3, z4, z5, z6, z7⟩ := HV2.out.f8; by_cases hk5 : k = 5
 · rcases find_idx key M with ⟨hf, hi⟩ | ⟨i, hlt, hi, -, hf, -⟩
   · have HRF : Hid (R = none) := Hd (by rw [← HR.out, if_pos hk5, hf]); have hkb : (k != 5) = false := by simp [hk5]
     rw [hi]; clear hk5 hf hi; go_wp2_with fail; have hV := VAt.store8 HV2.out (.int .i64 0) (.bool false) (.bool false) (.string ⟨#[]⟩) (.int .i64 0) (.string ⟨#[]⟩) (.slice none 0 0) (.slice none 0 0); have HV := Hd hV; obtain ⟨v0, v1, v2, v3, v4, v5, v6, v7⟩ := HV.out.c8
     refine bodyPost_ret (v := .tuple #[.agg #[.int .i64 0, .bool false, .bool false, .string ⟨#[]⟩, .int .i64 0, .string ⟨#[]⟩, .slice none 0 0, .slice none 0 0], .bool false]) (by simp [results, Tryz.results84, go_sem, v0, v1, v2, v3, v4, v5, v6, v7]) rfl ?_; rw [HRF.out]; exact ⟨_, rfl, TV.leaf _ _ 0 false Num.zero [], ext_set8 HE.out (by rw [HS.out]; omega)⟩
   · have HRF : Hid (R = some M[i].2) := Hd (by rw [← HR.out, if_pos hk5, hf]); have hkb : (k != 5) = false := by simp [hk5]
     rw [hi]; obtain ⟨g, o, xk, xb, xd, xs, xa1, xn1, xc1, xa2, xn2, xc2, rfl, htx, hcell⟩ := mem_elem HRM.out HTM.out rfl i hlt; obtain ⟨x0, x1, x2, x3, x4, x5, x6, x7, x8⟩ := hcell w2 (fun g _ hg => rfl); have HTX := Hd htx; have hlti : (i : Int) < M.length := by omega
     have hi0 : (0 : Int) ≤ i := by omega
     clear hk5 hf hi htx hcell; go_wp2_with fail; have hV := VAt.store8 HV2.out (.int .i64 xk) (.bool xb) (.bool xd.neg) (.string ⟨xd.digits.toArray⟩) (.int .i64 xd.exp) (.string ⟨xs.toArray⟩) (.slice xa1 xn1 xc1) (.slice xa2 xn2 xc2); have HV := Hd hV; obtain ⟨v0, v1, v2, v3, v4, v5, v6, v7⟩ := HV.out.c8
     refine bodyPost_ret (v := .tuple #[.agg #[.int .i64 xk, .bool xb, .bool xd.neg, .string ⟨xd.digits.toArray⟩, .int .i64 xd.exp, .string ⟨xs.toArray⟩, .slice xa1 xn1 xc1, .slice xa2 xn2 xc2], .bool true]) (by simp [results, Tryz.results84, go_sem, v0, v1, v2, v3, v4, v5, v6, v7]) rfl ?_; rw [HRF.out]
     exact ⟨_, rfl, HTX.out.keep (by simp [World.setCell]) (fun g hg hlt => ⟨hg.1, heap8 (by have := hg.2; omega)⟩), ext_set8 HE.out (by rw [HS.out]; omega)⟩
 · have HRF : Hid (R = none) := Hd (by rw [← HR.out, if_neg hk5]); have hkb : (k != 5) = true := by simpa using hk5
   clear hk5; go_wp2_with fail; have hV := VAt.store8 HV2.out (.int .i64 0) (.bool false) (.bool false) (.string ⟨#[]⟩) (.int .i64 0) (.string ⟨#[]⟩) (.slice none 0 0) (.slice none 0 0); have HV := Hd hV; obtain ⟨v0, v1, v2, v3, v4, v5, v6, v7⟩ := HV.out.c8
   refine bodyPost_ret (v := .tuple #[.agg #[.int .i64 0, .bool false, .bool false, .string ⟨#[]⟩, .int .i64 0, .string ⟨#[]⟩, .slice none 0 0, .slice none 0 0], .bool false]) (by simp [results, Tryz.results84, go_sem, v0, v1, v2, v3, v4, v5, v6, v7]) rfl ?_; rw [HRF.out]; exact ⟨_, rfl, TV.leaf _ _ 0 false Num.zero [], ext_set8 HE.out (by rw [HS.out]; omega)⟩
set_option maxHeartbeats 3200000 in
theorem rone_any (t : Tree) (c : Array Value) (A : Nat → Prop) (s : PStep) (w : World) (h : TV w A t c) (hs : i64R s.pos) (hml : t.mems.length ≤ 1000000) :
 Calls Tryz.prog 55 #[.agg c, .agg (cellsS s)] w (fun e w' => ∃ c', e = .returned (.tuple #[.agg c', .bool (Orange.stepT t s).isSome]) ∧ TV w' A ((Orange.stepT t s).getD tNull) c' ∧ Ext w w') := by
 obtain ⟨k, b, d, ss, la, ln, lc, ma, mn, mc, rfl⟩ := h.eight; obtain ⟨cl, cm, htl, hrl, htm, hrm, hk, -⟩ := tv_rows h; obtain ⟨_, a1, c1, ea, hl1, hl2, -⟩ := id hrl; simp only [Value.slice.injEq] at ea; obtain ⟨rfl, eln, rfl⟩ := ea; subst eln; obtain ⟨R, hR⟩ := Ex (Orange.stepT t s); rw [hR]; unfold Orange.stepT at hR; rw [← hk] at hR; have HR := Hd hR
 obtain ⟨wA, ewA⟩ : ∃ W, w.alloc (.cells (cellsV k b d ss (.slice la t.list.length lc) (.slice ma mn mc)) 27) = W := ⟨_, rfl⟩
 have nwA : wA.heap[w.heap.size]? = some (.cells (cellsV k b d ss (.slice la t.list.length lc) (.slice ma mn mc)) 27) := by rw [← ewA]; exact heap_alloc_new _ _
 have xwA : Ext w wA := by rw [← ewA]; exact (ext_refl _).alloc (Nat.le_refl _) _
 have swA : wA.heap.size = w.heap.size + 1 := by rw [← ewA]; simp
 obtain ⟨wB, ewB⟩ : ∃ W, wA.alloc (.cells (cellsS s) 46) = W := ⟨_, rfl⟩
 have nwB : wB.heap[wA.heap.size]? = some (.cells (cellsS s) 46) := by rw [← ewB]; exact heap_alloc_new _ _
 have xwB : Ext wA wB := by rw [← ewB]; exact (ext_refl _).alloc (Nat.le_refl _) _
 have swB : wB.heap.size = wA.heap.size + 1 := by rw [← ewB]; simp
 obtain ⟨wC, ewC⟩ : ∃ W, wB.alloc (.cells zeroV 27) = W := ⟨_, rfl⟩
 have nwC : wC.heap[wB.heap.size]? = some (.cells zeroV 27) := by rw [← ewC]; exact heap_alloc_new _ _
 have xwC : Ext wB wC := by rw [← ewC]; exact (ext_refl _).alloc (Nat.le_refl _) _
 have swC : wC.heap.size = wB.heap.size + 1 := by rw [← ewC]; simp
 have HT := Hd (h.keep (w' := wC) (A' := fun g => A g ∧ g < w.heap.size) (ext_trans (ext_trans xwA xwB) xwC).size (fun g hg hlt => ⟨⟨hg, hlt⟩, (ext_trans (ext_trans xwA xwB) xwC).block g hlt⟩)); have HTL := Hd (htl.keep (w' := wC) (A' := fun g => A g ∧ g < w.heap.size) (ext_trans (ext_trans xwA xwB) xwC).size (fun g hg hlt => ⟨⟨hg, hlt⟩, (ext_trans (ext_trans xwA xwB) xwC).block g hlt⟩))
 have HRL := Hd (hrl.keep (w' := wC) (A' := fun g => A g ∧ g < w.heap.size) (ext_trans (ext_trans xwA xwB) xwC).size (fun g hg hlt => ⟨⟨hg, hlt⟩, (ext_trans (ext_trans xwA xwB) xwC).block g hlt⟩)); rw [swA] at nwB; rw [swB, swA] at nwC; have HC : Hid (VAt wC w.heap.size (cellsV k b d ss (.slice la t.list.length lc) (.slice ma mn mc))) := Hd (VAt.ext (VAt.ext nwA xwB) xwC)
 have HSP : Hid (SpAt wC (w.heap.size + 1) s) := Hd (SpAt.ext nwB xwC); have HV2 : Hid (VAt wC (w.heap.size + 1 + 1) zeroV) := Hd nwC; have HE := Hd (ext_trans (ext_trans xwA xwB) xwC); have EA := Hd ewA; have EB := Hd ewB; have EC := Hd ewC; clear hk hR htl hrl htm hrm h nwA nwB nwC xwA xwB xwC swA swB swC ewA ewB ewC; simp only [cellsV, zeroV, noL, Num.zero, cellsS] at HC HV2 HSP EA EB EC HT ⊢
 go_enter Tryz.func55, Tryz.ntmps55
 go_upto_region 1 with fail; rw [EA.out, EB.out, EC.out]; obtain ⟨S, hS⟩ := Ex w.heap.size; rw [hS] at HC HV2 HSP HT HTL HRL ⊢; have HS := Hd hS; clear hS EA EB EC; obtain ⟨c0, c1, c2, c3, c4, c5, c6, c7⟩ := HC.out.c8; obtain ⟨s0, s1, s2⟩ := HSP.out.cell; by_cases hn : s.named = true
 · have HR2 : Hid (getT t s.name = R) := Hd (by rw [← HR.out, if_pos hn]); go_wp2_with fail; refine (rget_any t _ _ s.name wC HT.out hml).mono ?_; rintro e w2 ⟨c', rfl, htv, hw2⟩; rw [HR2.out] at htv ⊢; obtain ⟨yk, yb, yd, ys, ya1, yn1, yc1, ya2, yn2, yc2, rfl⟩ := htv.eight; replace HV2 := Hd (HV2.out.ext hw2); have HE2 := Hd (ext_trans HE.out hw2); have HTV := Hd htv; clear htv hw2
   clear c0 c1 c2 c3 c4 c5 c6 c7; clear s0 s1 s2; obtain ⟨y0, y1, y2, y3, y4, y5, y6, y7⟩ := HV2.out.c8; obtain ⟨z0, z1, z2, z3, z4, z5, z6, z7⟩ := HV2.out.f8; go_wp2_with fail; have hV := VAt.store8 HV2.out (.int .i64 yk) (.bool yb) (.bool yd.neg) (.string ⟨yd.digits.toArray⟩) (.int .i64 yd.exp) (.string ⟨ys.toArray⟩) (.slice ya1 yn1 yc1) (.slice ya2 yn2 yc2); have HV := Hd hV
   obtain ⟨v0, v1, v2, v3, v4, v5, v6, v7⟩ := HV.out.c8; refine bodyPost_ret (v := .tuple #[.agg #[.int .i64 yk, .bool yb, .bool yd.neg, .string ⟨yd.digits.toArray⟩, .int .i64 yd.exp, .string ⟨ys.toArray⟩, .slice ya1 yn1 yc1, .slice ya2 yn2 yc2], .bool R.isSome]) (by simp [results, Tryz.results55, go_sem, v0, v1, v2, v3, v4, v5, v6, v7]) rfl ?_
   exact ⟨_, rfl, HTV.out.keep (by simp [World.setCell]) (fun g hg hlt => ⟨hg.1, heap8 (by have := hg.2; omega)⟩), ext_set8 HE2.out (by rw [HS.out]; omega)⟩
 · replace hn : s.named = false := by simpa using hn
   have HR2 : Hid ((if k = 4 ∧ 0 ≤ s.pos ∧ s.pos < t.list.length then t.list[s.pos.toNat]? else none) = R) := Hd (by rw [← HR.out, hn]; simp); obtain ⟨y0, y1, y2, y3, y4, y5, y6, y7⟩ := HV2.out.c8; obtain ⟨z0, z1, z2, z3, z4, z5, z6, z7⟩ := HV2.out.f8; by_cases hc : k = 4 ∧ 0 ≤ s.pos ∧ s.pos < t.list.length
   · obtain ⟨h1, h2, h3⟩ := hc; obtain ⟨i, hi⟩ : ∃ i : Nat, s.pos = i := ⟨s.pos.toNat, by omega⟩
     have hlt : i < t.list.length := by omega
     have HRF : Hid (R = some t.list[i]) := Hd (by rw [← HR2.out, if_pos ⟨h1, h2, h3⟩, hi]; simp [hlt]); have hkb : (k != 4) = false := by simp [h1]
     rw [hi] at s1; obtain ⟨g, o, xk, xb, xd, xs, xa1, xn1, xc1, xa2, xn2, xc2, rfl, htx, hcell⟩ := row_elem HRL.out HTL.out rfl i hlt; obtain ⟨x0, x1, x2, x3, x4, x5, x6, x7⟩ := hcell wC (fun g _ hg => rfl); have HTX := Hd htx; have hlti : (i : Int) < t.list.length := by omega
     have hi0 : (0 : Int) ≤ i := by omega
     have hni : ¬ (i : Int) ≥ t.list.length := by omega
     have hn0 : ¬ (i : Int) < 0 := by omega
     clear h1 h2 h3 htx hcell hi; go_wp2_with fail; have hV := VAt.store8 HV2.out (.int .i64 xk) (.bool xb) (.bool xd.neg) (.string ⟨xd.digits.toArray⟩) (.int .i64 xd.exp) (.string ⟨xs.toArray⟩) (.slice xa1 xn1 xc1) (.slice xa2 xn2 xc2); have HV := Hd hV; obtain ⟨v0, v1, v2, v3, v4, v5, v6, v7⟩ := HV.out.c8
     refine bodyPost_ret (v := .tuple #[.agg #[.int .i64 xk, .bool xb, .bool xd.neg, .string ⟨xd.digits.toArray⟩, .int .i64 xd.exp, .string ⟨xs.toArray⟩, .slice xa1 xn1 xc1, .slice xa2 xn2 xc2], .bool true]) (by simp [results, Tryz.results55, go_sem, v0, v1, v2, v3, v4, v5, v6, v7]) rfl ?_; rw [HRF.out]
     exact ⟨_, rfl, HTX.out.keep (by simp [World.setCell]) (fun g hg hlt => ⟨hg.1, heap8 (by have := hg.2; omega)⟩), ext_set8 HE.out (by rw [HS.out]; omega)⟩
   · have HRF : Hid (R = none) := Hd (by rw [← HR2.out, if_neg hc]); by_cases h4 : k = 4
     · have hkb : (k != 4) = false := by simp [h4]
       by_cases h5 : s.pos < 0
       · go_wp2_with fail; have hV := VAt.store8 HV2.out (.int .i64 0) (.bool false) (.bool false) (.string ⟨#[]⟩) (.int .i64 0) (.string ⟨#[]⟩) (.slice none 0 0) (.slice none 0 0); have HV := Hd hV; obtain ⟨v0, v1, v2, v3, v4, v5, v6, v7⟩ := HV.out.c8
         refine bodyPost_ret (v := .tuple #[.agg #[.int .i64 0, .bool false, .bool false, .string ⟨#[]⟩, .int .i64 0, .string ⟨#[]⟩, .slice none 0 0, .slice none 0 0], .bool false]) (by simp [results, Tryz.results55, go_sem, v0, v1, v2, v3, v4, v5, v6, v7]) rfl ?_; rw [HRF.out]; exact ⟨_, rfl, TV.leaf _ _ 0 false Num.zero [], ext_set8 HE.out (by rw [HS.out]; omega)⟩
       · have h6 : s.pos ≥ t.list.length := by omega
         clear hc; go_wp2_with fail; have hV := VAt.store8 HV2.out (.int .i64 0) (.bool false) (.bool false) (.string ⟨#[]⟩) (.int .i64 0) (.string ⟨#[]⟩) (.slice none 0 0) (.slice none 0 0); have HV := Hd hV; obtain ⟨v0, v1, v2, v3, v4, v5, v6, v7⟩ := HV.out.c8
         refine bodyPost_ret (v := .tuple #[.agg #[.int .i64 0, .bool false, .bool false, .string ⟨#[]⟩, .int .i64 0, .string ⟨#[]⟩, .slice none 0 0, .slice none 0 0], .bool false]) (by simp [results, Tryz.results55, go_sem, v0, v1, v2, v3, v4, v5, v6, v7]) rfl ?_; rw [HRF.out]; exact ⟨_, rfl, TV.leaf _ _ 0 false Num.zero [], ext_set8 HE.out (by rw [HS.out]; omega)⟩
     · have hkb : (k != 4) = true := by simpa using h4
       clear hc h4; go_wp2_with fail; have hV := VAt.store8 HV2.out (.int .i64 0) (.bool false) (.bool false) (.string ⟨#[]⟩) (.int .i64 0) (.string ⟨#[]⟩) (.slice none 0 0) (.slice none 0 0); have HV := Hd hV; obtain ⟨v0, v1, v2, v3, v4, v5, v6, v7⟩ := HV.out.c8
       refine bodyPost_ret (v := .tuple #[.agg #[.int .i64 0, .bool false, .bool false, .string ⟨#[]⟩, .int .i64 0, .string ⟨#[]⟩, .slice none 0 0, .slice none 0 0], .bool false]) (by simp [results, Tryz.results55, go_sem, v0, v1, v2, v3, v4, v5, v6, v7]) rfl ?_; rw [HRF.out]; exact ⟨_, rfl, TV.leaf _ _ 0 false Num.zero [], ext_set8 HE.out (by rw [HS.out]; omega)⟩
set_option maxHeartbeats 1600000 in
theorem fits_any (k : Int) (b : Bool) (d : Num) (ss : List UInt8) (vL vM : Value) (s : PStep) (w : World) :
 Calls Tryz.prog 56 #[.agg (cellsV k b d ss vL vM), .agg (cellsS s)] w (fun e w' => e = .returned (.bool (decide (k = kindS s))) ∧ Ext w w') := by
 obtain ⟨R, hR⟩ : ∃ R, decide (k = kindS s) = R := ⟨_, rfl⟩
 rw [hR]; have HR := Hd hR; clear hR; obtain ⟨wA, ewA⟩ : ∃ W, w.alloc (.cells (cellsV k b d ss vL vM) 27) = W := ⟨_, rfl⟩
 have nwA : wA.heap[w.heap.size]? = some (.cells (cellsV k b d ss vL vM) 27) := by rw [← ewA]; exact heap_alloc_new _ _
 have xwA : Ext w wA := by rw [← ewA]; exact (ext_refl _).alloc (Nat.le_refl _) _
 have swA : wA.heap.size = w.heap.size + 1 := by rw [← ewA]; simp
 obtain ⟨wB, ewB⟩ : ∃ W, wA.alloc (.cells (cellsS s) 46) = W := ⟨_, rfl⟩
 have nwB : wB.heap[wA.heap.size]? = some (.cells (cellsS s) 46) := by rw [← ewB]; exact heap_alloc_new _ _
 have xwB : Ext wA wB := by rw [← ewB]; exact (ext_refl _).alloc (Nat.le_refl _) _
 have swB : wB.heap.size = wA.heap.size + 1 := by rw [← ewB]; simp
 rw [swA] at nwB; have HC : Hid (VAt wB w.heap.size (cellsV k b d ss vL vM)) := Hd (VAt.ext nwA xwB); have HSP : Hid (SpAt wB (w.heap.size + 1) s) := Hd nwB; have HE := Hd (ext_trans xwA xwB); have EA := Hd ewA; have EB := Hd ewB; clear nwA nwB xwA xwB swA swB ewA ewB; simp only [cellsV, cellsS] at HC EA EB ⊢; go_enter Tryz.func56, Tryz.ntmps56
 go_upto_region 1 with fail; rw [EA.out, EB.out]; have c0 := HC.out.cell 0; simp at c0; obtain ⟨s0, s1, s2⟩ := HSP.out.cell; clear EA EB s0 s1; obtain ⟨sn, sp, sb⟩ := s; simp only at s2; cases sb with
 | true =>
   have HK : Hid (kindS ⟨sn, sp, true⟩ = 5) := Hd rfl; by_cases h5 : k = 5
   · subst h5; go_wp2_with fail; go_ret; exact ⟨by rw [← HR.out, HK.out]; rfl, HE.out⟩
   · have h5' : (k == 5) = false := by simpa using h5
     go_wp2_with fail; go_ret; exact ⟨by rw [← HR.out, HK.out, decide_eq_false h5]; rfl, HE.out⟩
 | false =>
   have HK : Hid (kindS ⟨sn, sp, false⟩ = 4) := Hd rfl; by_cases h5 : k = 4
   · subst h5; go_wp2_with fail; go_ret; exact ⟨by rw [← HR.out, HK.out]; rfl, HE.out⟩
   · have h5' : (k == 4) = false := by simpa using h5
     go_wp2_with fail; go_ret; exact ⟨by rw [← HR.out, HK.out, decide_eq_false h5]; rfl, HE.out⟩
end Go.Proofs.YtjapbjmeoaagmaaGreatDoor
end

section
set_option maxRecDepth 100000
namespace Orange
theorem step_count {t y : Tree} {s : PStep} (h : Orange.stepT t s = some y) (n : Nat) (ht : weightT t ≤ n) : weightT y ≤ n := by
 obtain ⟨k, b, d, ss, l, m⟩ := t; rw [weightT] at ht; unfold Orange.stepT getT at h; split at h
 · split at h
   · have hm := findM_mem h; have : ∀ (m : List Mem1), (s.name, y) ∈ m → weightT y ≤ weightM m := by
      intro m hm; induction m with
      | nil => cases hm
      | cons p m ih =>
        obtain ⟨k', t'⟩ := p; rw [weightM]; rcases List.mem_cons.1 hm with e | hm
        · cases e; omega
        · have := ih hm; omega
     have := this m hm; omega
   · cases h
 · split at h
   · next hc =>
     have hm := List.mem_of_getElem? h; have : ∀ (l : List Tree), y ∈ l → weightT y ≤ weightL l := by
      intro l hm; induction l with
      | nil => cases hm
      | cons p l ih =>
        rw [weightL]; rcases List.mem_cons.1 hm with e | hm
        · subst e; omega
        · have := ih hm; omega
     have := this l hm; omega
   · cases h
end Orange
namespace Go.Proofs.YtjapbjmeoaagmaaGreatDoor
open Go.RowKit Go.Mem Orange
theorem KeptP.toExtA {p : Nat} {w w1 w2 : World} (k : KeptP p w w1) (h : Ext w1 w2) : KeptP p w w2 := Kept.trans k (Kept.ofBelow (h.mono k.size))
theorem mems_len (t : Tree) (n : Nat) (h : weightT t ≤ n) : t.mems.length ≤ n := by
 have h1 := countT_ins t; have h2 := countL_len t.ins; have h3 := ins_len t; have h4 := count_weight t; omega
set_option maxHeartbeats 6400000 in
theorem rat_any (t : Tree) (c : Array Value) (A : Nat → Prop) (v : Value) (l : List PStep) (w : World) (h : TV w A t c) (hl : PlAt w A v l) (hwt : weightT t ≤ 1000000) (hlen : l.length ≤ 1000000) :
 Calls Tryz.prog 26 #[.agg c, v] w (fun e w' => ∃ c', e = .returned (.tuple #[.agg c', .bool (atT t l).isSome]) ∧ TV w' A ((atT t l).getD tNull) c' ∧ Ext w w') := by
 obtain ⟨k, b, d, ss, la, ln, lc, ma, mn, mc, rfl⟩ := h.eight; obtain ⟨_, va, vc, rfl, hvn, hvm, -⟩ := id hl.1; obtain ⟨R, hR⟩ := Ex (atT t l); rw [hR]; have HR := Hd hR; obtain ⟨wA, ewA⟩ : ∃ W, w.alloc (.cells (cellsV k b d ss (.slice la ln lc) (.slice ma mn mc)) 27) = W := ⟨_, rfl⟩
 have nwA : wA.heap[w.heap.size]? = some (.cells (cellsV k b d ss (.slice la ln lc) (.slice ma mn mc)) 27) := by rw [← ewA]; exact heap_alloc_new _ _
 have xwA : Ext w wA := by rw [← ewA]; exact (ext_refl _).alloc (Nat.le_refl _) _
 have swA : wA.heap.size = w.heap.size + 1 := by rw [← ewA]; simp
 obtain ⟨wB, ewB⟩ : ∃ W, wA.alloc (.cells zeroV 27) = W := ⟨_, rfl⟩
 have nwB : wB.heap[wA.heap.size]? = some (.cells zeroV 27) := by rw [← ewB]; exact heap_alloc_new _ _
 have xwB : Ext wA wB := by rw [← ewB]; exact (ext_refl _).alloc (Nat.le_refl _) _
 have swB : wB.heap.size = wA.heap.size + 1 := by rw [← ewB]; simp
 have HE := Hd (ext_trans xwA xwB); have HT := Hd (h.keep (w' := wB) (A' := fun g => A g ∧ g < w.heap.size) HE.out.size (fun g hg hlt => ⟨⟨hg, hlt⟩, HE.out.block g hlt⟩)); have HL := Hd (hl.keep (w' := wB) (A' := fun g => A g ∧ g < w.heap.size) HE.out.size (fun g hg hlt => ⟨⟨hg, hlt⟩, HE.out.block g hlt⟩)); rw [swA] at nwB
 have HC : Hid (VAt wB w.heap.size (cellsV k b d ss (.slice la ln lc) (.slice ma mn mc))) := Hd (VAt.ext nwA xwB); have HV2 : Hid (VAt wB (w.heap.size + 1) zeroV) := Hd nwB; have EA := Hd ewA; have EB := Hd ewB; have HWT := Hd hwt; clear hR h hl nwA nwB xwA xwB swA swB ewA ewB hwt; simp only [cellsV, zeroV, noL, Num.zero] at EA EB ⊢; go_enter Tryz.func26, Tryz.ntmps26
 go_upto_region 1 with fail; rw [EA.out, EB.out]; obtain ⟨S, hS⟩ := Ex w.heap.size; rw [hS] at HC HV2 HT HL ⊢; have HS := Hd hS; clear hS EA EB; go_wp2_with fail
 go_loopw [6] (fun iv wr => ∃ (i : Nat) (x : Tree) (cx : Array Value), iv = .int .i64 i ∧ i ≤ l.length ∧ Hid (VAt wr S cx) ∧ Hid (TV wr (fun g => A g ∧ g < S) x cx) ∧ Hid (KeptP S wB wr) ∧ Hid (weightT x ≤ 1000000) ∧ Hid (atT t (l.take i) = some x)) (fun iv _ => 9223372036854775808 - (intOf iv).toNat)
 case atStart => exact ⟨0, t, _, rfl, Nat.zero_le _, HC, HT, Hd (KeptP.refl _ _), HWT, Hd rfl⟩
 case round =>
  obtain ⟨i, x, cx, rfl, hi, HVX, HTX, HKX, HWX, HATX⟩ := hrel; obtain ⟨xk, xb, xd, xs, xa1, xn1, xc1, xa2, xn2, xc2, rfl⟩ := HTX.out.eight; have HV3 := Hd (HV2.out.kept HKX.out (by omega)); have hSw : S < wr.heap.size := HVX.out.lt; have HEX := Hd (ext_keptP HE.out HKX.out (by rw [HS.out]; exact Nat.le_refl _)); by_cases hlt : i < l.length
  · have HAT := Hd (show atT t (l.take (i + 1)) = Orange.stepT x l[i] by rw [atT_take t l i hlt, HATX.out]; rfl); have hlti : (i : Int) < l.length := by omega
    have hi0 : (0 : Int) ≤ i := by omega
    have e9 : IntKind.i64.wrap ((i : Int) + 1) = ((i + 1 : Nat) : Int) := by rw [IntWalk.i64_in _ (by omega)]; omega
    obtain ⟨g, o, rfl, hgA, hel⟩ := HL.out.elem i hlt; have hpos := HL.out.2 l[i] (List.getElem_mem hlt); have hst := hel wr (fun g hg hlt => by rw [HKX.out.block g hlt (by have := hg.2; omega)]); have hgw : g < wr.heap.size := World.block_lt_of_cell? _ _ hst.1; obtain ⟨s, hs⟩ := Ex (l[i]); have hat := HAT.out; rw [hs] at hst hat hpos; replace HAT := Hd hat; have HPOS := Hd hpos
    obtain ⟨X, hX⟩ := Ex ((Orange.stepT x s).getD tNull); obtain ⟨OK, hOK⟩ := Ex ((Orange.stepT x s).isSome)
    have HCALL : Hid (∀ w', Ext wr w' → Calls Tryz.prog 55 #[.agg #[.int .i64 xk, .bool xb, .bool xd.neg, .string ⟨xd.digits.toArray⟩, .int .i64 xd.exp, .string ⟨xs.toArray⟩, .slice xa1 xn1 xc1, .slice xa2 xn2 xc2], .agg #[.string ⟨s.name.toArray⟩, .int .i64 s.pos, .bool s.named]] w' (fun e w'' => ∃ (zk : Int) (zb : Bool) (zd : Num) (zs : List UInt8) (za1 : Option Addr) (zn1 zc1 : Nat) (za2 : Option Addr) (zn2 zc2 : Nat), e = .returned (.tuple #[.agg #[.int .i64 zk, .bool zb, .bool zd.neg, .string ⟨zd.digits.toArray⟩, .int .i64 zd.exp, .string ⟨zs.toArray⟩, .slice za1 zn1 zc1, .slice za2 zn2 zc2], .bool OK]) ∧ TV w'' (fun g => A g ∧ g < S) X (cellsV zk zb zd zs (.slice za1 zn1 zc1) (.slice za2 zn2 zc2)) ∧ Ext w' w'')) := Hd (fun w' hw => by
     have h1 := rone_any x _ _ s w' (HTX.out.keep (w' := w') (A' := fun g => A g ∧ g < S) hw.size (fun g hg hlt => ⟨hg, hw.block g hlt⟩)) HPOS.out (mems_len x _ HWX.out); rw [hX, hOK] at h1; refine h1.mono ?_; rintro e w'' ⟨c', rfl, htz, hx⟩; obtain ⟨zk, zb, zd, zs, za1, zn1, zc1, za2, zn2, zc2, rfl⟩ := htz.eight; exact ⟨zk, zb, zd, zs, za1, zn1, zc1, za2, zn2, zc2, rfl, htz, hx⟩)
    have HX := Hd hX; have HOK := Hd hOK; have HSTC := Hd hst; clear hat hpos hel hs hX hOK hst hgA; go_upto_region 4 with fail; obtain ⟨W9, hW9⟩ : ∃ W, wr.heap.size = W := ⟨_, rfl⟩
    have HW9 := Hd hW9; clear hW9; go_cut [7, 8] (fun p4 v5 wx => ∃ (q : Nat) (cz : Array Value), p4 = .pointer (some ⟨q, 0, none⟩) ∧ v5 = .bool OK ∧ Ext wr wx ∧ Hid (VAt wx q cz) ∧ Hid (TV wx (fun g => A g ∧ g < S) X cz) ∧ W9 ≤ q)
    case first =>
     have hN : VAt ((wr.alloc (.cells zeroV 27)).drew) wr.heap.size zeroV := (VAt.new wr zeroV).ext (ext_refl _).drew; have HN := Hd hN; clear hN; obtain ⟨y0, y1, y2, y3, y4, y5, y6, y7⟩ := HVX.out.c8; obtain ⟨s0, s1, s2⟩ := HSTC.out
     go_region_with (go_at_call 55; go_loud (refine (HCALL.out _ (by first | exact (ext_refl _).drew | exact ((ext_refl _).drew.alloc (by simp) _) | exact ((ext_refl _).alloc (Nat.le_refl _) _).drew)).mono ?_; rintro e w' ⟨zk, zb, zd, zs, za1, zn1, zc1, za2, zn2, zc2, rfl, htz, hx⟩; have HTZ := Hd htz; clear htz; try (have hz := VAt.ext HN.out hx; simp only [zeroV, noL, Num.zero] at hz; obtain ⟨z0, z1, z2, z3, z4, z5, z6, z7⟩ := hz.c8; have yf := hz.free)))
     all_goals go_wp2_with fail
     all_goals go_meet
     all_goals have hsx := hx.size
     all_goals first
      | exact ⟨_, _, rfl, rfl, (ext_trans (ext_refl wr).drew hx).alloc (by simp at hsx; omega) _, Hd (VAt.new _ _), Hd (HTZ.out.keep (by simp) (fun g hg hlt => ⟨hg, heap_alloc_old _ _ hlt⟩)), by have := HW9.out; simp at hsx; omega⟩
      | exact ⟨_, _, rfl, rfl, ext_set8 (ext_trans ((ext_refl wr).alloc (Nat.le_refl _) _).drew hx) (Nat.le_refl _), Hd (by have h5 := VAt.store8 hz (.int .i64 zk) (.bool zb) (.bool zd.neg) (.string ⟨zd.digits.toArray⟩) (.int .i64 zd.exp) (.string ⟨zs.toArray⟩) (.slice za1 zn1 zc1) (.slice za2 zn2 zc2); exact h5), Hd (HTZ.out.keep (by simp [World.setCell]) (fun g hg hlt => ⟨hg, heap8 (by have := hg.2; omega)⟩)), by have := HW9.out; omega⟩
    case rest =>
     obtain ⟨q, cz, rfl, rfl, hxq, HVQ, HTQ, hqW⟩ := hcut; obtain ⟨zk, zb, zd, zs, za1, zn1, zc1, za2, zn2, zc2, rfl⟩ := HTQ.out.eight; have HVS := Hd (HVX.out.ext hxq); have HV4 := Hd (HV3.out.ext hxq); have HE4 := Hd (ext_trans HEX.out hxq); have HK4 := Hd (KeptP.toExtA HKX.out hxq); have hqS : S < q := by have := HW9.out; omega
     clear hxq HVX HV3 HEX HKX HTX HCALL HSTC HATX; cases OK with
     | false =>
       have HF : Hid (R = none) := Hd (by
        rw [← HR.out]; refine atT_stop (i := i + 1) ?_; rw [HAT.out]; have := HOK.out; cases h : Orange.stepT x s with
        | none => rfl
        | some y => rw [h] at this; cases this)
       have HV2 := HV4; obtain ⟨y0, y1, y2, y3, y4, y5, y6, y7⟩ := HV2.out.c8; obtain ⟨z0, z1, z2, z3, z4, z5, z6, z7⟩ := HV2.out.f8; go_wp2_with fail; have hV := VAt.store8 HV2.out (.int .i64 0) (.bool false) (.bool false) (.string ⟨#[]⟩) (.int .i64 0) (.string ⟨#[]⟩) (.slice none 0 0) (.slice none 0 0); have HV := Hd hV; obtain ⟨v0, v1, v2, v3, v4, v5, v6, v7⟩ := HV.out.c8
       refine bodyPost_ret (v := .tuple #[.agg #[.int .i64 0, .bool false, .bool false, .string ⟨#[]⟩, .int .i64 0, .string ⟨#[]⟩, .slice none 0 0, .slice none 0 0], .bool false]) (by simp [results, Tryz.results26, go_sem, v0, v1, v2, v3, v4, v5, v6, v7]) rfl ?_; rw [HF.out]; exact ⟨_, rfl, TV.leaf _ _ 0 false Num.zero [], ext_set8 HE4.out (by rw [HS.out]; omega)⟩
     | true =>
       have HF : Hid (atT t (l.take (i + 1)) = some X) := Hd (by
        rw [HAT.out]; have h1 := HOK.out; have h2 := HX.out; cases h : Orange.stepT x s with
        | none => rw [h] at h1; cases h1
        | some y => rw [h] at h2; exact congrArg some h2)
       have HWX2 : Hid (weightT X ≤ 1000000) := Hd (by
        have h1 := HOK.out; have h2 := HX.out; cases h : Orange.stepT x s with
        | none => rw [h] at h1; cases h1
        | some y => rw [h] at h2; have h3 : y = X := h2; rw [← h3]; exact step_count h _ HWX.out)
       have hst := VAt.store8 HVS.out (.int .i64 zk) (.bool zb) (.bool zd.neg) (.string ⟨zd.digits.toArray⟩) (.int .i64 zd.exp) (.string ⟨zs.toArray⟩) (.slice za1 zn1 zc1) (.slice za2 zn2 zc2); have HST := Hd hst; clear hst; obtain ⟨y0, y1, y2, y3, y4, y5, y6, y7⟩ := HVQ.out.c8; obtain ⟨c0, c1, c2, c3, c4, c5, c6, c7⟩ := HVS.out.c8; obtain ⟨f0, f1, f2, f3, f4, f5, f6, f7⟩ := HVS.out.f8; go_wp2_with fail
       go_roundw
       case rel =>
        refine ⟨i + 1, X, _, by go_num, by omega, HST, Hd (HTQ.out.keep (by simp [World.setCell]) (fun g hg hlt => ⟨hg, heap8 (by have := hg.2; omega)⟩)), Hd (HK4.out.trans (KeptP.store8 _ _ _ _ _ _ _ _)), HWX2, HF⟩
       case measure => simp [intOf]; omega
  · obtain rfl : i = l.length := by omega
    have hnlt : ¬ ((l.length : Int) < (l.length : Int)) := by omega
    have HF : Hid (R = some x) := Hd (by rw [← HR.out]; have := HATX.out; rwa [List.take_length] at this); have HV2 := HV3; obtain ⟨c0, c1, c2, c3, c4, c5, c6, c7⟩ := HVX.out.c8; obtain ⟨y0, y1, y2, y3, y4, y5, y6, y7⟩ := HV2.out.c8; obtain ⟨z0, z1, z2, z3, z4, z5, z6, z7⟩ := HV2.out.f8; go_wp2_with fail
    have hV := VAt.store8 HV2.out (.int .i64 xk) (.bool xb) (.bool xd.neg) (.string ⟨xd.digits.toArray⟩) (.int .i64 xd.exp) (.string ⟨xs.toArray⟩) (.slice xa1 xn1 xc1) (.slice xa2 xn2 xc2); have HV := Hd hV; obtain ⟨v0, v1, v2, v3, v4, v5, v6, v7⟩ := HV.out.c8
    refine bodyPost_ret (v := .tuple #[.agg #[.int .i64 xk, .bool xb, .bool xd.neg, .string ⟨xd.digits.toArray⟩, .int .i64 xd.exp, .string ⟨xs.toArray⟩, .slice xa1 xn1 xc1, .slice xa2 xn2 xc2], .bool true]) (by simp [results, Tryz.results26, go_sem, v0, v1, v2, v3, v4, v5, v6, v7]) rfl ?_; rw [HF.out]
    exact ⟨_, rfl, HTX.out.keep (by simp [World.setCell]) (fun g hg hlt => ⟨hg.1, heap8 (by have := hg.2; omega)⟩), ext_set8 HEX.out (by rw [HS.out]; omega)⟩
end Go.Proofs.YtjapbjmeoaagmaaGreatDoor
end

section
set_option maxRecDepth 100000
namespace Orange
def layRT (t : Tree) (s : PStep) (x : Tree) : Tree :=
 if s.named = true then (if findM s.name t.mems = none then t.withM (t.mems ++ [(s.name, x)]) else t.withM (setM s.name x t.mems))
 else if s.pos = t.list.length then t.withL (t.list ++ [x]) else t.withL (t.list.set s.pos.toNat x)
end Orange
namespace Go.Proofs.YtjapbjmeoaagmaaGreatDoor
open Go.RowKit Go.Mem Orange
theorem TLc.app {w : World} {A : Nat → Prop} {l l' : List Tree} {ms ms' : List (List Value)} (h : TLc w A l ms) (h' : TLc w A l' ms') : TLc w A (l ++ l') (ms ++ ms') :=
 ⟨by rw [List.length_append, List.length_append, h.1, h'.1], fun i hi hi' => by
   by_cases hl : i < l.length
   · rw [List.getElem_append_left hl, List.getElem_append_left (by rw [← h.1]; exact hl)]; exact h.2 i hl _
   · have e := h.1; rw [List.getElem_append_right (by omega), List.getElem_append_right (by omega)]; rw [List.length_append] at hi hi'; simp only [← e]; exact h'.2 (i - l.length) (by omega) (by omega)⟩
theorem TLc.one {w : World} {A : Nat → Prop} {x : Tree} {c : Array Value} (h : TV w A x c) : TLc w A [x] [c.toList] :=
 ⟨rfl, fun i hi hi' => by
   obtain rfl : i = 0 := by simpa using hi
   exact ⟨c, h, rfl⟩⟩
theorem VAt.low {w w' : World} {B q : Nat} {c : Array Value} (h : VAt w q c) (hb : Below B w w') (hq : q < B) : VAt w' q c := by
 unfold VAt; rw [hb.block q hq]; exact h
set_option maxHeartbeats 12800000 in
theorem rlay_any (t x : Tree) (c cx : Array Value) (A : Nat → Prop) (s : PStep) (w : World) (h : TV w A t c) (hx : TV w A x cx) (hst : (Orange.stepT t s).isSome = true ∨ (s.named = true ∧ findM s.name t.mems = none) ∨ (s.named = false ∧ s.pos = t.list.length)) (hll : t.list.length ≤ 1000000) (hml : t.mems.length ≤ 1000000) :
 Calls Tryz.prog 57 #[.agg c, .agg (cellsS s), .agg cx] w (fun e w' => ∃ c', e = .returned (.agg c') ∧ TV w' (fun g => A g ∨ w.heap.size ≤ g) (layRT t s x) c' ∧ Ext w w') := by
 obtain ⟨k, b, d, ss, la, ln, lc, ma, mn, mc, rfl⟩ := h.eight; obtain ⟨xk, xb, xd, xs, xa1, xn1, xc1, xa2, xn2, xc2, rfl⟩ := hx.eight; obtain ⟨cl, cm, htl, hrl, htm, hrm, hk, hb, hd1, hd2, hd3, hss⟩ := tv_rows h; obtain ⟨_, a1, c1, ea, hl1, hl2, -⟩ := id hrl; simp only [Value.slice.injEq] at ea; obtain ⟨rfl, eln, rfl⟩ := ea; subst eln; obtain ⟨_, a2, c2, ea, hm1, hm2, -⟩ := id hrm
 simp only [Value.slice.injEq] at ea; obtain ⟨rfl, emn, rfl⟩ := ea; subst emn; obtain ⟨wA, ewA⟩ : ∃ W, w.alloc (.cells (cellsV k b d ss (.slice la t.list.length lc) (.slice ma t.mems.length mc)) 27) = W := ⟨_, rfl⟩
 have nwA : wA.heap[w.heap.size]? = some (.cells (cellsV k b d ss (.slice la t.list.length lc) (.slice ma t.mems.length mc)) 27) := by rw [← ewA]; exact heap_alloc_new _ _
 have xwA : Ext w wA := by rw [← ewA]; exact (ext_refl _).alloc (Nat.le_refl _) _
 have swA : wA.heap.size = w.heap.size + 1 := by rw [← ewA]; simp
 obtain ⟨wB, ewB⟩ : ∃ W, wA.alloc (.cells (cellsS s) 46) = W := ⟨_, rfl⟩
 have nwB : wB.heap[wA.heap.size]? = some (.cells (cellsS s) 46) := by rw [← ewB]; exact heap_alloc_new _ _
 have xwB : Ext wA wB := by rw [← ewB]; exact (ext_refl _).alloc (Nat.le_refl _) _
 have swB : wB.heap.size = wA.heap.size + 1 := by rw [← ewB]; simp
 obtain ⟨wC, ewC⟩ : ∃ W, wB.alloc (.cells (cellsV xk xb xd xs (.slice xa1 xn1 xc1) (.slice xa2 xn2 xc2)) 27) = W := ⟨_, rfl⟩
 have nwC : wC.heap[wB.heap.size]? = some (.cells (cellsV xk xb xd xs (.slice xa1 xn1 xc1) (.slice xa2 xn2 xc2)) 27) := by rw [← ewC]; exact heap_alloc_new _ _
 have xwC : Ext wB wC := by rw [← ewC]; exact (ext_refl _).alloc (Nat.le_refl _) _
 have swC : wC.heap.size = wB.heap.size + 1 := by rw [← ewC]; simp
 obtain ⟨wD, ewD⟩ : ∃ W, wC.alloc (.cells zeroV 27) = W := ⟨_, rfl⟩
 have nwD : wD.heap[wC.heap.size]? = some (.cells zeroV 27) := by rw [← ewD]; exact heap_alloc_new _ _
 have xwD : Ext wC wD := by rw [← ewD]; exact (ext_refl _).alloc (Nat.le_refl _) _
 have swD : wD.heap.size = wC.heap.size + 1 := by rw [← ewD]; simp
 have hE := ext_trans (ext_trans (ext_trans xwA xwB) xwC) xwD; have HTL := Hd (htl.keep (w' := wD) (A' := fun g => A g ∧ g < w.heap.size) hE.size (fun g hg hlt => ⟨⟨hg, hlt⟩, hE.block g hlt⟩)); have HRL := Hd (hrl.keep (w' := wD) (A' := fun g => A g ∧ g < w.heap.size) hE.size (fun g hg hlt => ⟨⟨hg, hlt⟩, hE.block g hlt⟩))
 have HTM := Hd (htm.keep (w' := wD) (A' := fun g => A g ∧ g < w.heap.size) hE.size (fun g hg hlt => ⟨⟨hg, hlt⟩, hE.block g hlt⟩)); have HRM := Hd (hrm.keep (w' := wD) (A' := fun g => A g ∧ g < w.heap.size) hE.size (fun g hg hlt => ⟨⟨hg, hlt⟩, hE.block g hlt⟩)); have HTX := Hd (hx.keep (w' := wD) (A' := fun g => A g ∧ g < w.heap.size) hE.size (fun g hg hlt => ⟨⟨hg, hlt⟩, hE.block g hlt⟩))
 rw [swA] at nwB; rw [swB, swA] at nwC; rw [swC, swB, swA] at nwD; have HC : Hid (VAt wD w.heap.size (cellsV k b d ss (.slice la t.list.length lc) (.slice ma t.mems.length mc))) := Hd (VAt.ext (VAt.ext (VAt.ext nwA xwB) xwC) xwD); have HSP : Hid (SpAt wD (w.heap.size + 1) s) := Hd (SpAt.ext (SpAt.ext nwB xwC) xwD)
 have HX : Hid (VAt wD (w.heap.size + 1 + 1) (cellsV xk xb xd xs (.slice xa1 xn1 xc1) (.slice xa2 xn2 xc2))) := Hd (VAt.ext nwC xwD); have HV2 : Hid (VAt wD (w.heap.size + 1 + 1 + 1) zeroV) := Hd nwD; have HE := Hd hE; have HTK : Hid (k = t.kind ∧ b = t.bit ∧ d.neg = t.num.neg ∧ d.digits = t.num.digits ∧ d.exp = t.num.exp ∧ ss = t.str) := Hd ⟨hk, hb, hd1, hd2, hd3, hss⟩; have EA := Hd ewA
 have EB := Hd ewB; have EC := Hd ewC; have ED := Hd ewD; have HST := Hd hst; clear hk hb hd1 hd2 hd3 hss hst htl hrl htm hrm h hx hE nwA nwB nwC nwD xwA xwB xwC xwD swA swB swC swD ewA ewB ewC ewD; obtain ⟨L, hL⟩ := Ex t.list; obtain ⟨M, hM⟩ := Ex t.mems; rw [hL] at HTL HRL HC EA hl1 hll ⊢; rw [hM] at HTM HRM HC EA hm1 hml ⊢; have HL := Hd hL; have HM := Hd hM; clear hL hM
 simp only [cellsV, zeroV, noL, Num.zero, cellsS] at HC HV2 HSP HX EA EB EC ED ⊢; go_enter Tryz.func57, Tryz.ntmps57
 go_upto_region 1 with fail; rw [EA.out, EB.out, EC.out, ED.out]; obtain ⟨S, hS⟩ := Ex w.heap.size; rw [hS] at HC HV2 HSP HX HTM HRM HTL HRL HTX ⊢; have HS := Hd hS; clear hS EA EB EC ED; obtain ⟨c0, c1, c2, c3, c4, c5, c6, c7⟩ := HC.out.c8; obtain ⟨s0, s1, s2⟩ := HSP.out.cell; by_cases hn : s.named = true
 · skip
   obtain ⟨ms, rfl, htc⟩ := TMc.of HTM.out; have HTC := Hd htc; clear htc; have hxo : Ext wD (wD.alloc (.cells #[] 43)) := (ext_refl wD).alloc (Nat.le_refl _) _; have hown0 : (wD.alloc (.cells #[] 43)).ownsRow wD.heap.size 43 9 (.slice (some ⟨wD.heap.size, 0, none⟩) 0 0) 0 [] :=
    ⟨rfl, .inr ⟨wD.heap.size, 0, #[], rfl, Nat.le_refl _, heap_alloc_new _ _, Nat.le_refl _, by simp only [maxLen]; omega, rfl, rfl⟩⟩
   have hsrc := (HRM.out.keep (A' := fun _ => True) hxo.size (fun g _ hlt => ⟨trivial, hxo.block g hlt⟩)).src (P := Tryz.prog) (tx := 25) (e' := 43) (by kernel_rfl) (by decide) (TM.one HTM.out); have b7 := (HC.out.ext hxo).cell 7; simp at b7; go_upto_region 3 with (first
    | (at_builtin; refine wpList_append_src _ rfl _ _ 25 25 rfl wD.heap.size 43 _ _ 9 128 (by kernel_rfl) (by rfl) (by rfl) (by rfl) (by kernel_rfl) (by rfl) (by decide) _ 0 [] rfl hown0 _ M.length _ rfl hsrc (by simp only [maxLen]; omega) (by omega) hxo.size ?_; intro v' w2 ho' hg)
    | fail)
   have hw2 : Ext wD w2 := hxo.trans (Below.ofGrown hg hown0 hxo.size); simp only [Nat.zero_add, List.nil_append] at ho'; obtain ⟨ov, oc, rfl⟩ := ownsRow_shape ho'; have HOWN := Hd ho'; obtain ⟨P0, hP0⟩ := Ex wD.heap.size; have HSP0 : Hid (S + 1 + 1 + 1 < P0) := Hd (by rw [← hP0]; exact HV2.out.lt); rw [hP0] at HOWN; have HP2 : Hid (P0 ≤ w2.heap.size) := Hd (by rw [← hP0]; exact hw2.size)
   clear c0 c1 c2 c3 c4 c5 c6 c7; clear b7 s0 s1 s2 hg hown0 hsrc hxo ho' hP0; replace HC := Hd (HC.out.ext hw2); replace HSP := Hd (HSP.out.ext hw2); replace HX := Hd (HX.out.ext hw2); replace HV2 := Hd (HV2.out.ext hw2); replace HE := Hd (ext_trans HE.out hw2); replace HTC := Hd (HTC.out.keep (w' := w2) (A' := fun g => A g ∧ g < S) hw2.size (fun g hg hlt => ⟨hg, hw2.block g hlt⟩))
   replace HTX := Hd (HTX.out.keep (w' := w2) (A' := fun g => A g ∧ g < S) hw2.size (fun g hg hlt => ⟨hg, hw2.block g hlt⟩)); replace HTL := Hd (HTL.out.keep (w' := w2) (A' := fun g => A g ∧ g < S) hw2.size (fun g hg hlt => ⟨hg, hw2.block g hlt⟩)); replace HRL := Hd (HRL.out.keep (w' := w2) (A' := fun g => A g ∧ g < S) hw2.size (fun g hg hlt => ⟨hg, hw2.block g hlt⟩)); clear hw2 HTM HRM
   obtain ⟨s0, s1, s2⟩ := HSP.out.cell; have HROWA : Hid (RowAt w2 (fun g => P0 ≤ g) 9 (.slice ov M.length oc) M.length ms.flatten) := Hd (RowAt.own HOWN.out (by decide) (fun g _ hg _ => hg))
   have HFI := Hd (first_any s.name _ M ms.flatten (fun _ => True) w2 (HROWA.out.keep (Nat.le_refl _) (fun g _ _ => ⟨trivial, rfl⟩)) ((HTC.out.keep (A' := fun _ => True) (Nat.le_refl _) (fun g _ _ => ⟨trivial, rfl⟩)).tm) hml); go_wp2_with fail; refine (HFI.out).mono ?_; rintro e w3 ⟨rfl, hw3⟩; clear HFI HROWA s0 s1 s2; replace HOWN := Hd (ownsRow_ext HOWN.out hw3)
   replace HP2 : Hid (P0 ≤ w3.heap.size) := Hd (by have := HP2.out; have := hw3.size; omega); replace HC := Hd (HC.out.ext hw3); replace HSP := Hd (HSP.out.ext hw3); replace HX := Hd (HX.out.ext hw3); replace HV2 := Hd (HV2.out.ext hw3); replace HE := Hd (ext_trans HE.out hw3); replace HTC := Hd (HTC.out.keep (w' := w3) (A' := fun g => A g ∧ g < S) hw3.size (fun g hg hlt => ⟨hg, hw3.block g hlt⟩))
   replace HTX := Hd (HTX.out.keep (w' := w3) (A' := fun g => A g ∧ g < S) hw3.size (fun g hg hlt => ⟨hg, hw3.block g hlt⟩)); replace HTL := Hd (HTL.out.keep (w' := w3) (A' := fun g => A g ∧ g < S) hw3.size (fun g hg hlt => ⟨hg, hw3.block g hlt⟩)); replace HRL := Hd (HRL.out.keep (w' := w3) (A' := fun g => A g ∧ g < S) hw3.size (fun g hg hlt => ⟨hg, hw3.block g hlt⟩)); clear hw3
   obtain ⟨s0, s1, s2⟩ := HSP.out.cell; go_upto_if 21 with fail
   go_cut [7, 8] (fun mv kv wx => ∃ (M' : List Mem1) (ms' : List (List Value)) (i g cap : Nat), mv = .slice (some ⟨g, 0, none⟩) M'.length cap ∧ kv = .int .i64 i ∧ i < M'.length ∧ M'.length ≤ 1000001 ∧ Hid (∃ h : i < M'.length, M'[i].1 = s.name ∧ layRT t s x = t.withM (M'.set i (s.name, x))) ∧ P0 ≤ g ∧ Hid (RowC wx g 9 43 cap ms') ∧ Hid (TMc wx (fun g => A g ∧ g < S) M' ms') ∧ Below P0 w3 wx)
   case first =>
    rcases find_idx s.name M with ⟨hf, hi⟩ | ⟨i, hlt, hi, hk, hf, hse, -⟩
    · have HLR : Hid (layRT t s x = t.withM (M ++ [(s.name, x)])) := Hd (by unfold layRT; rw [if_pos hn, HM.out, if_pos hf]); rw [hi]; clear hi hf; have HTN : Hid (TMc w3 (fun g => A g ∧ g < S) (M ++ [(s.name, tNull)]) (ms ++ [.string ⟨s.name.toArray⟩ :: zeroV.toList])) := Hd (TMc.app HTC.out (TMc.one (TV.leaf _ _ 0 false Num.zero [])))
      have hxn : Ext w3 (w3.alloc (.cells #[.string ⟨s.name.toArray⟩, .int .i64 0, .bool false, .bool false, .string ⟨#[]⟩, .int .i64 0, .string ⟨#[]⟩, .slice none 0 0, .slice none 0 0] 43)) := (ext_refl w3).alloc (Nat.le_refl _) _
      have hnew : (w3.alloc (.cells #[.string ⟨s.name.toArray⟩, .int .i64 0, .bool false, .bool false, .string ⟨#[]⟩, .int .i64 0, .string ⟨#[]⟩, .slice none 0 0, .slice none 0 0] 43)).heap[w3.heap.size]? = some (.cells #[.string ⟨s.name.toArray⟩, .int .i64 0, .bool false, .bool false, .string ⟨#[]⟩, .int .i64 0, .string ⟨#[]⟩, .slice none 0 0, .slice none 0 0] 43 (0, 0)) := heap_alloc_new _ _
      have hown1 := ownsRow_ext HOWN.out hxn; have hp2 : P0 ≤ (w3.alloc (.cells #[.string ⟨s.name.toArray⟩, .int .i64 0, .bool false, .bool false, .string ⟨#[]⟩, .int .i64 0, .string ⟨#[]⟩, .slice none 0 0, .slice none 0 0] 43)).heap.size := by have := HP2.out; simp; omega
      have e9 : IntKind.i64.wrap ((M.length : Int) + 1 - 1) = (M.length : Int) := by rw [IntWalk.i64_in _ (by omega)]; omega
      go_upto_region 6 with (first
       | (at_builtin; refine wpList_append_src _ rfl _ _ 25 25 rfl P0 43 _ _ 9 128 (by kernel_rfl) (by rfl) (by rfl) (by rfl) (by kernel_rfl) (by rfl) (by decide) _ M.length _ rfl hown1 _ 1 _ rfl (src_one (e' := 43) (by kernel_rfl) hnew rfl (by intro u hu; simp at hu; rcases hu with rfl | rfl | rfl | rfl | rfl | rfl | rfl | rfl | rfl <;> rfl)) (by simp only [maxLen]; omega) (by omega) hp2 ?_; intro v' w4 hown4 hgr)
       | fail)
      have hb4 : Below P0 w3 w4 := (hxn.mono HP2.out).trans (Below.ofGrown hgr hown1 hp2); obtain ⟨g, cap, rfl, hgP, hrow⟩ := RowC.ofOwn (ms := ms ++ [.string ⟨s.name.toArray⟩ :: zeroV.toList]) (by simpa [zeroV, Num.zero, noL] using hown4) HTN.out.nine (by rw [← HTN.out.1]; simp) (by omega); have HROW := Hd hrow; have HB4 := Hd hb4
      replace HTN := Hd (HTN.out.keep (w' := w4) (A' := fun g => A g ∧ g < S) hb4.size (fun g hg hlt => ⟨hg, hb4.block g (by have := hg.2; have := HSP0.out; omega)⟩)); clear hxn hnew hown1 hp2 hown4 hgr hrow hb4 s0 s1 s2; go_wp2_with fail; go_meet
      exact ⟨M ++ [(s.name, tNull)], _, M.length, g, cap, by simp, by first | rfl | (rw [e9]), by simp, by simp; omega, Hd ⟨by simp, by simp, by rw [HLR.out]; simp⟩, hgP, HROW, HTN, HB4.out⟩
    · have HLR : Hid (∃ h : i < M.length, M[i].1 = s.name ∧ layRT t s x = t.withM (M.set i (s.name, x))) := Hd ⟨hlt, hk, by unfold layRT; rw [if_pos hn, HM.out, if_neg (by rw [hf]; simp), hse]⟩; rw [hi]; have hni : ¬ (i : Int) < 0 := by omega
      obtain ⟨g, cap, hog, hgP, hrow⟩ := RowC.ofOwn HOWN.out HTC.out.nine HTC.out.1.symm (by omega); simp only [Value.slice.injEq] at hog; obtain ⟨rfl, -, rfl⟩ := hog; have HROW := Hd hrow; clear hi hk hf hse hrow s0 s1 s2; go_wp2_with fail; go_meet; exact ⟨M, _, i, g, oc, rfl, rfl, hlt, by omega, HLR, hgP, HROW, HTC, Below.refl _ _⟩
   case rest =>
    obtain ⟨M', ms', i, g, cap, rfl, rfl, hlt, hml', HI, hgP, HROW, HTC', hb⟩ := hcut; clear HOWN HTC s0 s1 s2; replace HC := Hd (HC.out.low hb (by have := HSP0.out; omega)); replace HV2 := Hd (HV2.out.low hb (by have := HSP0.out; omega)); replace HX := Hd (HX.out.low hb (by have := HSP0.out; omega)); replace HE := Hd (HE.out.trans (hb.mono (by have := HSP0.out; have := HS.out; omega)))
    replace HTX := Hd (HTX.out.keep (w' := wc) (A' := fun g => A g ∧ g < S) hb.size (fun g hg hlt => ⟨hg, hb.block g (by have := hg.2; have := HSP0.out; omega)⟩)); replace HTL := Hd (HTL.out.keep (w' := wc) (A' := fun g => A g ∧ g < S) hb.size (fun g hg hlt => ⟨hg, hb.block g (by have := hg.2; have := HSP0.out; omega)⟩))
    replace HRL := Hd (HRL.out.keep (w' := wc) (A' := fun g => A g ∧ g < S) hb.size (fun g hg hlt => ⟨hg, hb.block g (by have := hg.2; have := HSP0.out; omega)⟩)); clear hb HP2; have him : i < ms'.length := by rw [← HTC'.out.1]; exact hlt
    obtain ⟨oc, htv0, hoc⟩ := HTC'.out.2 i hlt him; have q0 := HROW.out.cell him (j := 1) (by omega); have q1 := HROW.out.cell him (j := 2) (by omega); have q2 := HROW.out.cell him (j := 3) (by omega); have q3 := HROW.out.cell him (j := 4) (by omega); have q4 := HROW.out.cell him (j := 5) (by omega); have q5 := HROW.out.cell him (j := 6) (by omega); have q6 := HROW.out.cell him (j := 7) (by omega)
    have q7 := HROW.out.cell him (j := 8) (by omega); have fr := HROW.out.free; obtain ⟨zk, zb, zd, zs, za1, zn1, zc1, za2, zn2, zc2, rfl⟩ := htv0.eight; simp [hoc] at q0 q1 q2 q3 q4 q5 q6 q7
    have hst := HROW.out.store him 1 9 (cellsV xk xb xd xs (.slice xa1 xn1 xc1) (.slice xa2 xn2 xc2)).toList rfl (by omega); rw [hoc] at hst; have HST2 := Hd hst; have HKS := Hd (KeptP.storeL (q := g) (w := wc) (cellsV xk xb xd xs (.slice xa1 xn1 xc1) (.slice xa2 xn2 xc2)).toList (i * 9 + 1)); clear hst hoc htv0 HROW; have hlti : (i : Int) < M'.length := by omega
    have hi0 : (0 : Int) ≤ i := by omega
    obtain ⟨x0, x1, x2, x3, x4, x5, x6, x7⟩ := HX.out.c8; go_upto_region 8 with fail
    obtain ⟨w4, hw4⟩ := Ex (((((((((wc.setCell ⟨g, i * 9 + 1, none⟩ (.int .i64 xk)).setCell ⟨g, i * 9 + 2, none⟩ (.bool xb)).setCell ⟨g, i * 9 + 3, none⟩ (.bool xd.neg)).setCell ⟨g, i * 9 + 4, none⟩ (.string ⟨xd.digits.toArray⟩)).setCell ⟨g, i * 9 + 5, none⟩ (.int .i64 xd.exp)).setCell ⟨g, i * 9 + 6, none⟩ (.string ⟨xs.toArray⟩)).setCell ⟨g, i * 9 + 7, none⟩ (.slice xa1 xn1 xc1)).setCell ⟨g, i * 9 + 8, none⟩ (.slice xa2 xn2 xc2)))
    have hk4 : KeptP g wc w4 := by rw [← hw4]; exact HKS.out
    obtain ⟨hlt3, hkey, hlr⟩ := HI.out; have HLR := Hd hlr; have hst2 := HST2.out; rw [hkey] at hst2; have hrow4 : RowC w4 g 9 43 cap (ms'.set i (.string ⟨s.name.toArray⟩ :: (cellsV xk xb xd xs (.slice xa1 xn1 xc1) (.slice xa2 xn2 xc2)).toList)) := by rw [← hw4]; exact hst2
    rw [hw4]; clear hw4 HKS HST2 hst2 fr q0 q1 q2 q3 q4 q5 q6 q7 HI hkey hlr hlt3; clear x0 x1 x2 x3 x4 x5 x6 x7; replace HC := Hd (HC.out.kept hk4 (by have := HSP0.out; omega)); replace HV2 := Hd (HV2.out.kept hk4 (by have := HSP0.out; omega)); replace HE := Hd (ext_keptP HE.out hk4 (by have := HSP0.out; have := HS.out; omega))
    replace HTC' := Hd (HTC'.out.keep (w' := w4) (A' := fun g => A g ∧ g < S) hk4.size (fun g hg hlt => ⟨hg, hk4.block g hlt (by have := hg.2; have := HSP0.out; omega)⟩)); replace HTX := Hd (HTX.out.keep (w' := w4) (A' := fun g => A g ∧ g < S) hk4.size (fun g hg hlt => ⟨hg, hk4.block g hlt (by have := hg.2; have := HSP0.out; omega)⟩))
    replace HTL := Hd (HTL.out.keep (w' := w4) (A' := fun g => A g ∧ g < S) hk4.size (fun g hg hlt => ⟨hg, hk4.block g hlt (by have := hg.2; have := HSP0.out; omega)⟩)); replace HRL := Hd (HRL.out.keep (w' := w4) (A' := fun g => A g ∧ g < S) hk4.size (fun g hg hlt => ⟨hg, hk4.block g hlt (by have := hg.2; have := HSP0.out; omega)⟩))
    have HFIN : Hid (TV w4 (fun g => (A g ∧ g < S) ∨ S + 1 + 1 + 1 < g) (layRT t s x) (cellsV k b d ss (.slice la L.length lc) (.slice (some ⟨g, 0, none⟩) M'.length cap))) := Hd (by
     rw [HLR.out]; refine tv_withM HTK.out HL.out (HTL.out.keep (Nat.le_refl _) (fun g hg _ => ⟨.inl hg, rfl⟩)) (HRL.out.keep (Nat.le_refl _) (fun g hg _ => ⟨.inl hg, rfl⟩)) (TMc.tm (TMc.set (HTC'.out.keep (Nat.le_refl _) (fun g hg _ => ⟨.inl hg, rfl⟩)) i (HTX.out.keep (Nat.le_refl _) (fun g hg _ => ⟨.inl hg, rfl⟩)))) ?_; rw [List.length_set]
     exact RowC.row hrow4 (.inr (by have := HSP0.out; omega)) (by rw [List.length_set]; exact HTC'.out.1.symm))
    clear hk4 hrow4 HX HSP HTL HRL HTC' HTX HLR; obtain ⟨c0, c1, c2, c3, c4, c5, c6, c7⟩ := HC.out.c8; obtain ⟨f0, f1, f2, f3, f4, f5, f6, f7⟩ := HC.out.f8; go_upto_region 9 with fail; obtain ⟨wr, hwr⟩ := Ex (w4.setCell ⟨S, 7, none⟩ (.slice (some ⟨g, 0, none⟩) M'.length cap)); have hk : KeptP S w4 wr := by rw [← hwr]; exact KeptP.set _
    replace HC : Hid (VAt wr S (cellsV k b d ss (.slice la L.length lc) (.slice (some ⟨g, 0, none⟩) M'.length cap))) := Hd (by rw [← hwr]; exact HC.out.set1 7 _); replace HV2 := Hd (HV2.out.kept hk (by omega)); replace HE := Hd (ext_keptP HE.out hk (by rw [HS.out]; exact Nat.le_refl _))
    replace HFIN := Hd (HFIN.out.keep (w' := wr) (A' := fun g => (A g ∧ g < S) ∨ S + 1 + 1 + 1 < g) hk.size (fun g hg hlt => ⟨hg, hk.block g hlt (by rcases hg with hg | hg; have := hg.2; omega; omega)⟩)); rw [hwr]; clear hwr hk; clear c0 c1 c2 c3 c4 c5 c6 c7 f0 f1 f2 f3 f4 f5 f6 f7; obtain ⟨c0, c1, c2, c3, c4, c5, c6, c7⟩ := HC.out.c8; obtain ⟨y0, y1, y2, y3, y4, y5, y6, y7⟩ := HV2.out.c8
    obtain ⟨z0, z1, z2, z3, z4, z5, z6, z7⟩ := HV2.out.f8; go_wp2_with fail; have hV := VAt.store8 HV2.out (.int .i64 k) (.bool b) (.bool d.neg) (.string ⟨d.digits.toArray⟩) (.int .i64 d.exp) (.string ⟨ss.toArray⟩) (.slice la L.length lc) (.slice (some ⟨g, 0, none⟩) M'.length cap); have HV := Hd hV; obtain ⟨v0, v1, v2, v3, v4, v5, v6, v7⟩ := HV.out.c8
    refine bodyPost_ret (v := .agg #[.int .i64 k, .bool b, .bool d.neg, .string ⟨d.digits.toArray⟩, .int .i64 d.exp, .string ⟨ss.toArray⟩, .slice la L.length lc, .slice (some ⟨g, 0, none⟩) M'.length cap]) (by simp [results, Tryz.results57, go_sem, v0, v1, v2, v3, v4, v5, v6, v7]) rfl ?_
    exact ⟨_, rfl, HFIN.out.keep (by simp [World.setCell]) (fun g hg hlt => ⟨by rcases hg with hg | hg; exact .inl hg.1; exact .inr (by rw [HS.out]; omega), heap8 (by rcases hg with hg | hg; have := hg.2; omega; omega)⟩), ext_set8 HE.out (by rw [HS.out]; omega)⟩
 · skip
   replace hn : s.named = false := by simpa using hn
   obtain ⟨ms, rfl, htc⟩ := TLc.of HTL.out; have HTC := Hd htc; clear htc; have hxo : Ext wD (wD.alloc (.cells #[] 27)) := (ext_refl wD).alloc (Nat.le_refl _) _; have hown0 : (wD.alloc (.cells #[] 27)).ownsRow wD.heap.size 27 8 (.slice (some ⟨wD.heap.size, 0, none⟩) 0 0) 0 [] :=
    ⟨rfl, .inr ⟨wD.heap.size, 0, #[], rfl, Nat.le_refl _, heap_alloc_new _ _, Nat.le_refl _, by simp only [maxLen]; omega, rfl, rfl⟩⟩
   have hsrc := (HRL.out.keep (A' := fun _ => True) hxo.size (fun g _ hlt => ⟨trivial, hxo.block g hlt⟩)).src (P := Tryz.prog) (tx := 24) (e' := 27) (by kernel_rfl) (by decide) (TL.one HTL.out); have b7 := (HC.out.ext hxo).cell 6; simp at b7; go_upto_region 11 with (first
    | (at_builtin; refine wpList_append_src _ rfl _ _ 24 24 rfl wD.heap.size 27 _ _ 8 112 (by kernel_rfl) (by rfl) (by rfl) (by rfl) (by kernel_rfl) (by rfl) (by decide) _ 0 [] rfl hown0 _ L.length _ rfl hsrc (by simp only [maxLen]; omega) (by omega) hxo.size ?_; intro v' w2 ho' hg)
    | fail)
   have hw2 : Ext wD w2 := hxo.trans (Below.ofGrown hg hown0 hxo.size); simp only [Nat.zero_add, List.nil_append] at ho'; obtain ⟨ov, oc, rfl⟩ := ownsRow_shape ho'; have HOWN := Hd ho'; obtain ⟨P0, hP0⟩ := Ex wD.heap.size; have HSP0 : Hid (S + 1 + 1 + 1 < P0) := Hd (by rw [← hP0]; exact HV2.out.lt); rw [hP0] at HOWN; have HP2 : Hid (P0 ≤ w2.heap.size) := Hd (by rw [← hP0]; exact hw2.size)
   clear c0 c1 c2 c3 c4 c5 c6 c7; clear b7 s0 s1 s2 hg hown0 hsrc hxo ho' hP0; replace HC := Hd (HC.out.ext hw2); replace HSP := Hd (HSP.out.ext hw2); replace HX := Hd (HX.out.ext hw2); replace HV2 := Hd (HV2.out.ext hw2); replace HE := Hd (ext_trans HE.out hw2); replace HTC := Hd (HTC.out.keep (w' := w2) (A' := fun g => A g ∧ g < S) hw2.size (fun g hg hlt => ⟨hg, hw2.block g hlt⟩))
   replace HTX := Hd (HTX.out.keep (w' := w2) (A' := fun g => A g ∧ g < S) hw2.size (fun g hg hlt => ⟨hg, hw2.block g hlt⟩)); replace HTM := Hd (HTM.out.keep (w' := w2) (A' := fun g => A g ∧ g < S) hw2.size (fun g hg hlt => ⟨hg, hw2.block g hlt⟩)); replace HRM := Hd (HRM.out.keep (w' := w2) (A' := fun g => A g ∧ g < S) hw2.size (fun g hg hlt => ⟨hg, hw2.block g hlt⟩)); clear hw2 HTL HRL
   obtain ⟨s0, s1, s2⟩ := HSP.out.cell; have HOWN0 := HOWN; obtain ⟨BQ, hBQ⟩ : ∃ b, (s.pos == (L.length : Int)) = b := ⟨_, rfl⟩
   go_upto_if 47 with fail
   have HBQ := Hd hBQ; clear hBQ; go_cut [9] (fun mv wx => ∃ (M' : List Tree) (ms' : List (List Value)) (i g cap : Nat), mv = .slice (some ⟨g, 0, none⟩) M'.length cap ∧ s.pos = i ∧ i < M'.length ∧ M'.length ≤ 1000001 ∧ Hid (layRT t s x = t.withL (M'.set i x)) ∧ P0 ≤ g ∧ Hid (RowC wx g 8 27 cap ms') ∧ Hid (TLc wx (fun g => A g ∧ g < S) M' ms') ∧ Below P0 w2 wx)
   case first =>
    cases BQ with
    | true =>
      have hpl : s.pos = L.length := by simpa using HBQ.out
      have HLR : Hid (layRT t s x = t.withL (L ++ [x])) := Hd (by unfold layRT; rw [if_neg (by rw [hn]; decide), HL.out, if_pos hpl]); have HTN : Hid (TLc w2 (fun g => A g ∧ g < S) (L ++ [x]) (ms ++ [(cellsV xk xb xd xs (.slice xa1 xn1 xc1) (.slice xa2 xn2 xc2)).toList])) := Hd (TLc.app HTC.out (TLc.one HTX.out)); have HPL := Hd hpl; clear hpl s1
      have hxn : Ext w2 (w2.alloc (.cells #[.int .i64 xk, .bool xb, .bool xd.neg, .string ⟨xd.digits.toArray⟩, .int .i64 xd.exp, .string ⟨xs.toArray⟩, .slice xa1 xn1 xc1, .slice xa2 xn2 xc2] 27)) := (ext_refl w2).alloc (Nat.le_refl _) _
      have hnew : (w2.alloc (.cells #[.int .i64 xk, .bool xb, .bool xd.neg, .string ⟨xd.digits.toArray⟩, .int .i64 xd.exp, .string ⟨xs.toArray⟩, .slice xa1 xn1 xc1, .slice xa2 xn2 xc2] 27)).heap[w2.heap.size]? = some (.cells #[.int .i64 xk, .bool xb, .bool xd.neg, .string ⟨xd.digits.toArray⟩, .int .i64 xd.exp, .string ⟨xs.toArray⟩, .slice xa1 xn1 xc1, .slice xa2 xn2 xc2] 27 (0, 0)) := heap_alloc_new _ _
      have hown1 := ownsRow_ext HOWN.out hxn; have hp2 : P0 ≤ (w2.alloc (.cells #[.int .i64 xk, .bool xb, .bool xd.neg, .string ⟨xd.digits.toArray⟩, .int .i64 xd.exp, .string ⟨xs.toArray⟩, .slice xa1 xn1 xc1, .slice xa2 xn2 xc2] 27)).heap.size := by have := HP2.out; simp; omega
      have HXE := Hd (HX.out.ext hxn); obtain ⟨x0, x1, x2, x3, x4, x5, x6, x7⟩ := HX.out.c8; go_wp2_with (first
       | (at_builtin; refine wpList_append_src _ rfl _ _ 24 24 rfl P0 27 _ _ 8 112 (by kernel_rfl) (by rfl) (by rfl) (by rfl) (by kernel_rfl) (by rfl) (by decide) _ L.length _ rfl hown1 _ 1 _ rfl (src_one (e' := 27) (by kernel_rfl) hnew rfl (by intro u hu; simp at hu; rcases hu with rfl | rfl | rfl | rfl | rfl | rfl | rfl | rfl <;> rfl)) (by simp only [maxLen]; omega) (by omega) hp2 ?_; intro v' w4 hown4 hgr; obtain ⟨ov2, oc2, rfl⟩ := ownsRow_shape hown4)
       | fail)
      go_meet; have hb4 : Below P0 w2 w4 := (hxn.mono HP2.out).trans (Below.ofGrown hgr hown1 hp2); obtain ⟨g, cap, hog, hgP, hrow⟩ := RowC.ofOwn (ms := ms ++ [(cellsV xk xb xd xs (.slice xa1 xn1 xc1) (.slice xa2 xn2 xc2)).toList]) (by simpa using hown4) HTN.out.eight (by rw [← HTN.out.1]; simp) (by omega); simp only [Value.slice.injEq] at hog; obtain ⟨rfl, -, rfl⟩ := hog
      exact ⟨L ++ [x], _, L.length, g, _, by simp, HPL.out, by simp, by simp; omega, Hd (by rw [HLR.out]; simp), hgP, Hd hrow, Hd (HTN.out.keep hb4.size (fun g hg hlt => ⟨hg, hb4.block g (by have := hg.2; have := HSP0.out; omega)⟩)), hb4⟩
    | false =>
      have hpl : ¬ s.pos = L.length := by simpa using HBQ.out
      obtain ⟨i, hlt, hpi⟩ : ∃ i : Nat, i < L.length ∧ s.pos = i := by
       rcases HST.out with h | h | h
       · unfold Orange.stepT at h; rw [hn, if_neg (by simp), HL.out] at h; by_cases hc : t.kind = 4 ∧ 0 ≤ s.pos ∧ s.pos < L.length
         · exact ⟨s.pos.toNat, by omega, by omega⟩
         · rw [if_neg hc] at h; cases h
       · rw [hn] at h; cases h.1
       · rw [HL.out] at h; exact absurd h.2 hpl
      have HLR : Hid (layRT t s x = t.withL (L.set i x)) := Hd (by unfold layRT; rw [if_neg (by rw [hn]; decide), HL.out, if_neg hpl, hpi]; simp); have HPI := Hd hpi; obtain ⟨g, cap, hog, hgP, hrow⟩ := RowC.ofOwn HOWN.out HTC.out.eight HTC.out.1.symm (by omega); simp only [Value.slice.injEq] at hog; obtain ⟨rfl, -, rfl⟩ := hog; have HROW := Hd hrow; clear hpl hpi hrow; go_wp2_with fail; go_meet
      exact ⟨L, _, i, g, oc, rfl, HPI.out, hlt, by omega, HLR, hgP, HROW, HTC, Below.refl _ _⟩
   case rest =>
    obtain ⟨M', ms', i, g, cap, rfl, hpi, hlt, hml', HI, hgP, HROW, HTC', hb⟩ := hcut; clear HOWN HTC s0 s1 s2; replace HC := Hd (HC.out.low hb (by have := HSP0.out; omega)); replace HV2 := Hd (HV2.out.low hb (by have := HSP0.out; omega)); replace HX := Hd (HX.out.low hb (by have := HSP0.out; omega)); replace HE := Hd (HE.out.trans (hb.mono (by have := HSP0.out; have := HS.out; omega)))
    replace HTX := Hd (HTX.out.keep (w' := wc) (A' := fun g => A g ∧ g < S) hb.size (fun g hg hlt => ⟨hg, hb.block g (by have := hg.2; have := HSP0.out; omega)⟩)); replace HTM := Hd (HTM.out.keep (w' := wc) (A' := fun g => A g ∧ g < S) hb.size (fun g hg hlt => ⟨hg, hb.block g (by have := hg.2; have := HSP0.out; omega)⟩))
    replace HRM := Hd (HRM.out.keep (w' := wc) (A' := fun g => A g ∧ g < S) hb.size (fun g hg hlt => ⟨hg, hb.block g (by have := hg.2; have := HSP0.out; omega)⟩)); replace HSP : Hid (SpAt wc (S + 1) s) := Hd (by unfold SpAt; rw [hb.block _ (by have := HSP0.out; omega)]; exact HSP.out); obtain ⟨s0, s1, s2⟩ := HSP.out.cell; rw [hpi] at s1; clear hpi; clear hb HP2
    have him : i < ms'.length := by rw [← HTC'.out.1]; exact hlt
    obtain ⟨oc, htv0, hoc⟩ := HTC'.out.2 i hlt him; have q0 := HROW.out.cell him (j := 0) (by omega); have q1 := HROW.out.cell him (j := 1) (by omega); have q2 := HROW.out.cell him (j := 2) (by omega); have q3 := HROW.out.cell him (j := 3) (by omega); have q4 := HROW.out.cell him (j := 4) (by omega); have q5 := HROW.out.cell him (j := 5) (by omega); have q6 := HROW.out.cell him (j := 6) (by omega)
    have q7 := HROW.out.cell him (j := 7) (by omega); have fr := HROW.out.free; obtain ⟨zk, zb, zd, zs, za1, zn1, zc1, za2, zn2, zc2, rfl⟩ := htv0.eight; simp [hoc] at q0 q1 q2 q3 q4 q5 q6 q7
    have hst := HROW.out.store him 0 8 (cellsV xk xb xd xs (.slice xa1 xn1 xc1) (.slice xa2 xn2 xc2)).toList rfl (by omega); rw [hoc] at hst; have HST2 := Hd hst; have HKS := Hd (KeptP.storeL (q := g) (w := wc) (cellsV xk xb xd xs (.slice xa1 xn1 xc1) (.slice xa2 xn2 xc2)).toList (i * 8 + 0)); clear hst hoc htv0 HROW; have hlti : (i : Int) < M'.length := by omega
    have hi0 : (0 : Int) ≤ i := by omega
    obtain ⟨x0, x1, x2, x3, x4, x5, x6, x7⟩ := HX.out.c8; go_upto_region 14 with fail
    obtain ⟨w4, hw4⟩ := Ex (((((((((wc.setCell ⟨g, i * 8, none⟩ (.int .i64 xk)).setCell ⟨g, i * 8 + 1, none⟩ (.bool xb)).setCell ⟨g, i * 8 + 2, none⟩ (.bool xd.neg)).setCell ⟨g, i * 8 + 3, none⟩ (.string ⟨xd.digits.toArray⟩)).setCell ⟨g, i * 8 + 4, none⟩ (.int .i64 xd.exp)).setCell ⟨g, i * 8 + 5, none⟩ (.string ⟨xs.toArray⟩)).setCell ⟨g, i * 8 + 6, none⟩ (.slice xa1 xn1 xc1)).setCell ⟨g, i * 8 + 7, none⟩ (.slice xa2 xn2 xc2)))
    have hk4 : KeptP g wc w4 := by rw [← hw4]; exact HKS.out
    have HLR := HI; have hst2 := HST2.out; have hrow4 : RowC w4 g 8 27 cap (ms'.set i ((cellsV xk xb xd xs (.slice xa1 xn1 xc1) (.slice xa2 xn2 xc2)).toList)) := by rw [← hw4]; exact hst2
    rw [hw4]; clear hw4 HKS HST2 hst2 fr q0 q1 q2 q3 q4 q5 q6 q7 HI s0 s1 s2; clear x0 x1 x2 x3 x4 x5 x6 x7; replace HC := Hd (HC.out.kept hk4 (by have := HSP0.out; omega)); replace HV2 := Hd (HV2.out.kept hk4 (by have := HSP0.out; omega)); replace HE := Hd (ext_keptP HE.out hk4 (by have := HSP0.out; have := HS.out; omega))
    replace HTC' := Hd (HTC'.out.keep (w' := w4) (A' := fun g => A g ∧ g < S) hk4.size (fun g hg hlt => ⟨hg, hk4.block g hlt (by have := hg.2; have := HSP0.out; omega)⟩)); replace HTX := Hd (HTX.out.keep (w' := w4) (A' := fun g => A g ∧ g < S) hk4.size (fun g hg hlt => ⟨hg, hk4.block g hlt (by have := hg.2; have := HSP0.out; omega)⟩))
    replace HTM := Hd (HTM.out.keep (w' := w4) (A' := fun g => A g ∧ g < S) hk4.size (fun g hg hlt => ⟨hg, hk4.block g hlt (by have := hg.2; have := HSP0.out; omega)⟩)); replace HRM := Hd (HRM.out.keep (w' := w4) (A' := fun g => A g ∧ g < S) hk4.size (fun g hg hlt => ⟨hg, hk4.block g hlt (by have := hg.2; have := HSP0.out; omega)⟩))
    have HFIN : Hid (TV w4 (fun g => (A g ∧ g < S) ∨ S + 1 + 1 + 1 < g) (layRT t s x) (cellsV k b d ss (.slice (some ⟨g, 0, none⟩) M'.length cap) (.slice ma M.length mc))) := Hd (by
     rw [HLR.out]; refine tv_withL HTK.out HM.out (TLc.tl (TLc.set (HTC'.out.keep (Nat.le_refl _) (fun g hg _ => ⟨.inl hg, rfl⟩)) i (HTX.out.keep (Nat.le_refl _) (fun g hg _ => ⟨.inl hg, rfl⟩)))) ?_ (HTM.out.keep (Nat.le_refl _) (fun g hg _ => ⟨.inl hg, rfl⟩)) (HRM.out.keep (Nat.le_refl _) (fun g hg _ => ⟨.inl hg, rfl⟩)); rw [List.length_set]
     exact RowC.row hrow4 (.inr (by have := HSP0.out; omega)) (by rw [List.length_set]; exact HTC'.out.1.symm))
    clear hk4 hrow4 HX HSP HTM HRM HTC' HTX HLR; obtain ⟨c0, c1, c2, c3, c4, c5, c6, c7⟩ := HC.out.c8; obtain ⟨f0, f1, f2, f3, f4, f5, f6, f7⟩ := HC.out.f8; go_upto_region 15 with fail; obtain ⟨wr, hwr⟩ := Ex (w4.setCell ⟨S, 6, none⟩ (.slice (some ⟨g, 0, none⟩) M'.length cap)); have hk : KeptP S w4 wr := by rw [← hwr]; exact KeptP.set _
    replace HC : Hid (VAt wr S (cellsV k b d ss (.slice (some ⟨g, 0, none⟩) M'.length cap) (.slice ma M.length mc))) := Hd (by rw [← hwr]; exact HC.out.set1 6 _); replace HV2 := Hd (HV2.out.kept hk (by omega)); replace HE := Hd (ext_keptP HE.out hk (by rw [HS.out]; exact Nat.le_refl _))
    replace HFIN := Hd (HFIN.out.keep (w' := wr) (A' := fun g => (A g ∧ g < S) ∨ S + 1 + 1 + 1 < g) hk.size (fun g hg hlt => ⟨hg, hk.block g hlt (by rcases hg with hg | hg; have := hg.2; omega; omega)⟩)); rw [hwr]; clear hwr hk; clear c0 c1 c2 c3 c4 c5 c6 c7 f0 f1 f2 f3 f4 f5 f6 f7; obtain ⟨c0, c1, c2, c3, c4, c5, c6, c7⟩ := HC.out.c8; obtain ⟨y0, y1, y2, y3, y4, y5, y6, y7⟩ := HV2.out.c8
    obtain ⟨z0, z1, z2, z3, z4, z5, z6, z7⟩ := HV2.out.f8; go_wp2_with fail; have hV := VAt.store8 HV2.out (.int .i64 k) (.bool b) (.bool d.neg) (.string ⟨d.digits.toArray⟩) (.int .i64 d.exp) (.string ⟨ss.toArray⟩) (.slice (some ⟨g, 0, none⟩) M'.length cap) (.slice ma M.length mc); have HV := Hd hV; obtain ⟨v0, v1, v2, v3, v4, v5, v6, v7⟩ := HV.out.c8
    refine bodyPost_ret (v := .agg #[.int .i64 k, .bool b, .bool d.neg, .string ⟨d.digits.toArray⟩, .int .i64 d.exp, .string ⟨ss.toArray⟩, .slice (some ⟨g, 0, none⟩) M'.length cap, .slice ma M.length mc]) (by simp [results, Tryz.results57, go_sem, v0, v1, v2, v3, v4, v5, v6, v7]) rfl ?_
    exact ⟨_, rfl, HFIN.out.keep (by simp [World.setCell]) (fun g hg hlt => ⟨by rcases hg with hg | hg; exact .inl hg.1; exact .inr (by rw [HS.out]; omega), heap8 (by rcases hg with hg | hg; have := hg.2; omega; omega)⟩), ext_set8 HE.out (by rw [HS.out]; omega)⟩
end Go.Proofs.YtjapbjmeoaagmaaGreatDoor
end

section
set_option maxRecDepth 100000
namespace Orange
theorem findM_of_step {t : Tree} {s : PStep} (hn : s.named = true) (hk : t.kind = kindS s) : Orange.stepT t s = findM s.name t.mems := by
 unfold Orange.stepT getT; rw [if_pos hn, if_pos (by rw [hk]; unfold kindS; rw [if_pos hn])]
theorem pos_of_step {t : Tree} {s : PStep} (hn : s.named = false) {y : Tree} (h : Orange.stepT t s = some y) : s.pos ≠ t.list.length := by
 unfold Orange.stepT at h; rw [if_neg (by rw [hn]; decide)] at h; split at h
 · omega
 · cases h
theorem layRT_some {t : Tree} {s : PStep} {y : Tree} (hk : t.kind = kindS s) (h : Orange.stepT t s = some y) (x : Tree) : layRT t s x = layT t s x := by
 unfold layRT layT; by_cases hn : s.named = true
 · rw [if_pos hn, if_pos hn]; rw [findM_of_step hn hk] at h; rw [if_neg (by rw [h]; simp)]
 · rw [if_neg hn, if_neg hn, if_neg (pos_of_step (by simpa using hn) h)]
theorem layRT_none {t : Tree} {s : PStep} (hk : t.kind = kindS s) (h : Orange.stepT t s = none) (hp : s.named = false → s.pos = t.list.length) (x : Tree) : putF x t s false = (layRT t s x, 0) := by
 unfold layRT putF; rw [if_neg (by decide)]; by_cases hn : s.named = true
 · rw [findM_of_step hn hk] at h; rw [if_pos hn, if_pos hn, if_pos h]
 · have := hp (by simpa using hn); rw [if_neg hn, if_neg hn, if_pos this, if_pos this]
theorem putF_far {t : Tree} {s : PStep} (hn : s.named = false) (hp : s.pos ≠ t.list.length) (x : Tree) : putF x t s false = (tNull, 6) := by
 unfold putF; rw [if_neg (by decide), if_neg (by rw [hn]; decide), if_neg hp]
theorem putT_nil (t x : Tree) : putT t [] x = (x, 0) := by simp [putT]
theorem putT_cons (t x : Tree) (s : PStep) (l : List PStep) : putT t (s :: l) x = changeT (putF x) t (s :: l) := by unfold putT; rw [if_neg (by simp)]
theorem changeT_1 (f : Tree → PStep → Bool → Tree × Int) (t : Tree) (s : PStep) : changeT f t [s] = if t.kind ≠ kindS s then (tNull, 8) else f t s (Orange.stepT t s).isSome := by rw [changeT]
theorem changeT_2 (f : Tree → PStep → Bool → Tree × Int) (t : Tree) (s r : PStep) (l : List PStep) : changeT f t (s :: r :: l) = if t.kind ≠ kindS s then (tNull, 8) else match Orange.stepT t s with
 | none => (tNull, 6)
 | some x => if (changeT f x (r :: l)).2 ≠ 0 then (tNull, (changeT f x (r :: l)).2) else (layT t s (changeT f x (r :: l)).1, 0) := by
 rw [changeT]; cases Orange.stepT t s <;> rfl
theorem putT_kind {t x : Tree} {s : PStep} {l : List PStep} (hk : t.kind ≠ kindS s) : putT t (s :: l) x = (tNull, 8) := by
 rw [putT_cons]; cases l with
 | nil => rw [changeT_1, if_pos hk]
 | cons r l => rw [changeT_2, if_pos hk]
theorem putT_some {t x y : Tree} {s : PStep} {l : List PStep} (hk : t.kind = kindS s) (h : Orange.stepT t s = some y) : putT t (s :: l) x = if (putT y l x).2 ≠ 0 then (tNull, (putT y l x).2) else (layRT t s (putT y l x).1, 0) := by
 rw [layRT_some hk h, putT_cons]; cases l with
 | nil =>
   rw [putT_nil, changeT_1, if_neg (by simp [hk]), h]; simp [putF]
 | cons r l => rw [putT_cons, changeT_2, if_neg (by simp [hk]), h]
theorem putT_stop {t x : Tree} {s : PStep} {l : List PStep} (hk : t.kind = kindS s) (h : Orange.stepT t s = none) (hl : l ≠ [] ∨ (s.named = false ∧ s.pos ≠ t.list.length)) : putT t (s :: l) x = (tNull, 6) := by
 rw [putT_cons]; cases l with
 | nil =>
   rcases hl with hl | hl
   · exact absurd rfl hl
   · rw [changeT_1, if_neg (by simp [hk]), h]; exact putF_far hl.1 hl.2 x
 | cons r l => rw [changeT_2, if_neg (by simp [hk]), h]
theorem putT_new {t x : Tree} {s : PStep} (hk : t.kind = kindS s) (h : Orange.stepT t s = none) (hp : s.named = false → s.pos = t.list.length) : putT t [s] x = (layRT t s x, 0) := by
 rw [putT_cons, changeT_1, if_neg (by simp [hk]), h]; exact layRT_none hk h hp x
theorem putT_on {t x : Tree} {s : PStep} {l : List PStep} (hk : t.kind = kindS s) (hst : ¬ ((Orange.stepT t s).isSome = false ∧ (l ≠ [] ∨ (s.named = false ∧ s.pos ≠ t.list.length)))) :
 putT t (s :: l) x = (if (putT ((Orange.stepT t s).getD tNull) l x).2 ≠ 0 then (tNull, (putT ((Orange.stepT t s).getD tNull) l x).2) else (layRT t s (putT ((Orange.stepT t s).getD tNull) l x).1, 0)) ∧
  ((Orange.stepT t s).isSome = true ∨ (s.named = true ∧ findM s.name t.mems = none) ∨ (s.named = false ∧ s.pos = t.list.length)) := by
 cases h : Orange.stepT t s with
 | some y => exact ⟨putT_some hk h, .inl rfl⟩
 | none =>
   rw [h] at hst; have hl : l = [] := Classical.byContradiction fun e => hst ⟨rfl, .inl e⟩; have hp : s.named = false → s.pos = t.list.length := fun e => Classical.byContradiction fun e' => hst ⟨rfl, .inr ⟨e, e'⟩⟩; subst hl; refine ⟨?_, ?_⟩
   · rw [Option.getD_none, putT_nil, if_neg (by simp)]; exact putT_new hk h hp
   · cases hn : s.named with
     | true => exact .inr (.inl ⟨rfl, by rw [← findM_of_step hn hk]; exact h⟩)
     | false => exact .inr (.inr ⟨rfl, hp hn⟩)
end Orange
namespace Go.Proofs.YtjapbjmeoaagmaaGreatDoor
open Go.RowKit Go.Mem Orange
theorem pl_tail {w : World} {A : Nat → Prop} {g o n vc : Nat} {s : PStep} {l : List PStep} (h : PlAt w A (.slice (some ⟨g, o, none⟩) n vc) (s :: l)) : PlAt w A (.slice (some ⟨g, o + 3, none⟩) l.length (vc - 1)) l := by
 obtain ⟨⟨h0, a, c, e, h1, h2, h3⟩, h4⟩ := h; simp only [Value.slice.injEq] at e; obtain ⟨rfl, -, rfl⟩ := e; obtain ⟨g', o', e, hA, hg, hc⟩ := h3 (by simp); simp only [Option.some.injEq, Addr.mk.injEq] at e; obtain ⟨rfl, rfl, -⟩ := e; refine ⟨⟨?_, _, _, rfl, ?_, by omega, fun _ => ⟨g, o + 3, rfl, hA, hg, fun i hi => ?_⟩⟩, fun x hx => h4 x (List.mem_cons_of_mem _ hx)⟩
 · rw [List.flatMap_cons, List.length_append] at h0; simp only [List.length_cons] at h0 ⊢; simp at h0 ⊢; omega
 · simp only [List.length_cons] at h1; omega
 · have hi2 : i + 3 < ((s :: l).flatMap fun s => (cellsS s).toList).length := by
    rw [List.flatMap_cons, List.length_append]; simp at hi ⊢; omega
   have := hc (i + 3) hi2; rw [show o + 3 + i = o + (i + 3) by omega, this]; congr 1
theorem pl_none {w : World} {A : Nat → Prop} {a : Option Addr} {s : PStep} {n : Nat} {l : List PStep} (h : PlAt w A (.slice a n 1) (s :: l)) (a' : Option Addr) : l = [] ∧ PlAt w A (.slice a' 0 0) [] := by
 obtain ⟨⟨h0, a1, c1, e, h1, h2, h3⟩, h4⟩ := h; simp only [Value.slice.injEq, List.length_cons] at e h1; refine ⟨List.eq_nil_of_length_eq_zero (by omega), ⟨rfl, _, _, rfl, Nat.le_refl _, by omega, fun hp => absurd hp (by simp)⟩, fun s hs => by cases hs⟩
set_option maxHeartbeats 12800000 in
theorem rput_step (t x : Tree) (c cx : Array Value) (A : Nat → Prop) (v : Value) (l : List PStep) (w : World) (h : TV w A t c) (hl : PlAt w A v l) (hx : TV w A x cx) (hwt : weightT t ≤ 1000000)
 (ih : ∀ s l', l = s :: l' → ∀ (t x : Tree) (c cx : Array Value) (A : Nat → Prop) (v : Value) (w : World), TV w A t c → PlAt w A v l' → TV w A x cx → weightT t ≤ 1000000 →
   Calls Tryz.prog 27 #[.agg c, v, .agg cx] w (fun e w' => ∃ c', e = .returned (.tuple #[.agg c', .int .i64 (putT t l' x).2]) ∧ TV w' (fun g => A g ∨ w.heap.size ≤ g) (putT t l' x).1 c' ∧ Ext w w')) :
 Calls Tryz.prog 27 #[.agg c, v, .agg cx] w (fun e w' => ∃ c', e = .returned (.tuple #[.agg c', .int .i64 (putT t l x).2]) ∧ TV w' (fun g => A g ∨ w.heap.size ≤ g) (putT t l x).1 c' ∧ Ext w w') := by
 have IH := Hd ih; clear ih; obtain ⟨R, hR⟩ := Ex (putT t l x); rw [hR]; have HR := Hd hR; clear hR; obtain ⟨k, b, d, ss, la, ln, lc, ma, mn, mc, rfl⟩ := h.eight; obtain ⟨xk, xb, xd, xs, xa1, xn1, xc1, xa2, xn2, xc2, rfl⟩ := hx.eight; obtain ⟨cl, cm, htl, hrl, htm, hrm, hk, -⟩ := tv_rows h; obtain ⟨_, a1, c1, ea, hl1, hl2, -⟩ := id hrl; simp only [Value.slice.injEq] at ea
 obtain ⟨rfl, eln, rfl⟩ := ea; subst eln; obtain ⟨_, va, vc, rfl, hvn, hvm, -⟩ := id hl.1; obtain ⟨wA, ewA⟩ : ∃ W, w.alloc (.cells (cellsV k b d ss (.slice la t.list.length lc) (.slice ma mn mc)) 27) = W := ⟨_, rfl⟩
 have nwA : wA.heap[w.heap.size]? = some (.cells (cellsV k b d ss (.slice la t.list.length lc) (.slice ma mn mc)) 27) := by rw [← ewA]; exact heap_alloc_new _ _
 have xwA : Ext w wA := by rw [← ewA]; exact (ext_refl _).alloc (Nat.le_refl _) _
 have swA : wA.heap.size = w.heap.size + 1 := by rw [← ewA]; simp
 obtain ⟨wB, ewB⟩ : ∃ W, wA.alloc (.cells (cellsV xk xb xd xs (.slice xa1 xn1 xc1) (.slice xa2 xn2 xc2)) 27) = W := ⟨_, rfl⟩
 have nwB : wB.heap[wA.heap.size]? = some (.cells (cellsV xk xb xd xs (.slice xa1 xn1 xc1) (.slice xa2 xn2 xc2)) 27) := by rw [← ewB]; exact heap_alloc_new _ _
 have xwB : Ext wA wB := by rw [← ewB]; exact (ext_refl _).alloc (Nat.le_refl _) _
 have swB : wB.heap.size = wA.heap.size + 1 := by rw [← ewB]; simp
 obtain ⟨wr, ewr⟩ : ∃ W, wB.alloc (.cells zeroV 27) = W := ⟨_, rfl⟩
 have nwr : wr.heap[wB.heap.size]? = some (.cells zeroV 27) := by rw [← ewr]; exact heap_alloc_new _ _
 have xwr : Ext wB wr := by rw [← ewr]; exact (ext_refl _).alloc (Nat.le_refl _) _
 have swr : wr.heap.size = wB.heap.size + 1 := by rw [← ewr]; simp
 have hE := ext_trans (ext_trans xwA xwB) xwr; have HT := Hd (h.keep (w' := wr) (A' := fun g => A g ∧ g < w.heap.size) hE.size (fun g hg hlt => ⟨⟨hg, hlt⟩, hE.block g hlt⟩)); have HL := Hd (hl.keep (w' := wr) (A' := fun g => A g ∧ g < w.heap.size) hE.size (fun g hg hlt => ⟨⟨hg, hlt⟩, hE.block g hlt⟩))
 have HTX := Hd (hx.keep (w' := wr) (A' := fun g => A g ∧ g < w.heap.size) hE.size (fun g hg hlt => ⟨⟨hg, hlt⟩, hE.block g hlt⟩)); rw [swA] at nwB; rw [swB, swA] at nwr; have HC : Hid (VAt wr w.heap.size (cellsV k b d ss (.slice la t.list.length lc) (.slice ma mn mc))) := Hd (VAt.ext (VAt.ext nwA xwB) xwr)
 have HX : Hid (VAt wr (w.heap.size + 1) (cellsV xk xb xd xs (.slice xa1 xn1 xc1) (.slice xa2 xn2 xc2))) := Hd (VAt.ext nwB xwr); have HV2 : Hid (VAt wr (w.heap.size + 1 + 1) zeroV) := Hd nwr; have HE := Hd hE; have HWT := Hd hwt; have HK := Hd hk; have EA := Hd ewA; have EB := Hd ewB; have EC := Hd ewr; have hlen : t.list.length ≤ 1000000 ∧ t.mems.length ≤ 1000000 := by
  have h1 := countT_ins t; have h2 := countL_len t.ins; have h3 := ins_len t; have h4 := count_weight t; exact ⟨by omega, by omega⟩
 have HLEN := Hd hlen; clear h hx hl hE nwA nwB nwr xwA xwB xwr swA swB swr ewA ewB ewr hwt hk htl hrl htm hrm hlen hl1 hl2; simp only [cellsV, zeroV, noL, Num.zero] at HC HV2 HX EA EB EC ⊢; go_enter Tryz.func27, Tryz.ntmps27
 go_upto_region 1 with fail; rw [EA.out, EB.out, EC.out]; obtain ⟨S, hS⟩ := Ex w.heap.size; rw [hS] at HC HV2 HX HT HL HTX ⊢; have HS := Hd hS; clear hS EA EB EC; cases l with
 | nil =>
   replace HR : Hid (R = (x, 0)) := Hd (by rw [← HR.out]; unfold putT; rw [if_pos rfl]); clear IH; obtain ⟨x0, x1, x2, x3, x4, x5, x6, x7⟩ := HX.out.c8; obtain ⟨y0, y1, y2, y3, y4, y5, y6, y7⟩ := HV2.out.c8; obtain ⟨z0, z1, z2, z3, z4, z5, z6, z7⟩ := HV2.out.f8; go_wp2_with fail
   have hV := VAt.store8 HV2.out (.int .i64 xk) (.bool xb) (.bool xd.neg) (.string ⟨xd.digits.toArray⟩) (.int .i64 xd.exp) (.string ⟨xs.toArray⟩) (.slice xa1 xn1 xc1) (.slice xa2 xn2 xc2); have HV := Hd hV; obtain ⟨v0, v1, v2, v3, v4, v5, v6, v7⟩ := HV.out.c8
   refine bodyPost_ret (v := .tuple #[.agg #[.int .i64 xk, .bool xb, .bool xd.neg, .string ⟨xd.digits.toArray⟩, .int .i64 xd.exp, .string ⟨xs.toArray⟩, .slice xa1 xn1 xc1, .slice xa2 xn2 xc2], .int .i64 0]) (by simp [results, Tryz.results27, go_sem, v0, v1, v2, v3, v4, v5, v6, v7]) rfl ?_; rw [HR.out]
   exact ⟨_, rfl, HTX.out.keep (by simp [World.setCell]) (fun g hg hlt => ⟨.inl hg.1, heap8 (by have := hg.2; omega)⟩), ext_set8 HE.out (by rw [HS.out]; omega)⟩
 | cons s l =>
   have hl0 : ((l.length : Int) + 1 == 0) = false := by simp; omega
   obtain ⟨g, o, rfl, hgA, hel⟩ := HL.out.elem 0 (by simp); obtain ⟨s0, s1, s2⟩ := hel wr (fun g _ hlt => rfl); simp only [List.getElem_cons_zero, Nat.zero_mul, Nat.add_zero] at s0 s1 s2; have HPOS := Hd (HL.out.2 s List.mem_cons_self); have hl00 : (0 : Int) < (l.length : Int) + 1 := by omega
   obtain ⟨wC, ewC⟩ : ∃ W, wr.alloc (.cells (cellsS s) 46) = W := ⟨_, rfl⟩
   have nwC : wC.heap[wr.heap.size]? = some (.cells (cellsS s) 46) := by rw [← ewC]; exact heap_alloc_new _ _
   have xwC : Ext wr wC := by rw [← ewC]; exact (ext_refl _).alloc (Nat.le_refl _) _
   have swC : wC.heap.size = wr.heap.size + 1 := by rw [← ewC]; simp
   have HCC := Hd (HC.out.ext xwC); have HSP : Hid (SpAt wC wr.heap.size s) := Hd nwC; have HE2 := Hd (ext_trans HE.out xwC); have HX2 := Hd (HX.out.ext xwC); have HV22 := Hd (HV2.out.ext xwC); have HT2 := Hd (HT.out.keep (w' := wC) (A' := fun g => A g ∧ g < S) xwC.size (fun g hg hlt => ⟨hg, xwC.block g hlt⟩))
   have HTX2 := Hd (HTX.out.keep (w' := wC) (A' := fun g => A g ∧ g < S) xwC.size (fun g hg hlt => ⟨hg, xwC.block g hlt⟩)); have HL2 := Hd (HL.out.keep (w' := wC) (A' := fun g => A g ∧ g < S) xwC.size (fun g hg hlt => ⟨hg, xwC.block g hlt⟩)); have EC := Hd ewC; have hSW : S + 1 + 1 < wr.heap.size := HV2.out.lt; simp only [cellsS] at EC; clear nwC xwC swC ewC hel; go_upto_region 4 with fail
   rw [EC.out]; obtain ⟨P, hP⟩ := Ex wr.heap.size; rw [hP] at HSP hSW ⊢; clear HC HX HV2 HT HTX HL HE EC s0 s1 s2 hP hgA; have HFT := Hd (fits_any k b d ss (.slice la t.list.length lc) (.slice ma mn mc) s wC); obtain ⟨BF, hBF⟩ : ∃ BF, decide (k = kindS s) = BF := ⟨_, rfl⟩
   rw [hBF] at HFT; have HBF := Hd hBF; clear hBF; obtain ⟨c0, c1, c2, c3, c4, c5, c6, c7⟩ := HCC.out.c8; obtain ⟨s0, s1, s2⟩ := HSP.out.cell; go_wp2_with fail; refine (HFT.out).mono ?_; rintro e wD ⟨rfl, hxD⟩; clear c0 c1 c2 c3 c4 c5 c6 c7; clear HFT s0 s1 s2; replace HCC := Hd (HCC.out.ext hxD); replace HX2 := Hd (HX2.out.ext hxD); replace HV22 := Hd (HV22.out.ext hxD)
   replace HSP := Hd (HSP.out.ext hxD); replace HE2 := Hd (ext_trans HE2.out hxD); replace HT2 := Hd (HT2.out.keep (w' := wD) (A' := fun g => A g ∧ g < S) hxD.size (fun g hg hlt => ⟨hg, hxD.block g hlt⟩)); replace HTX2 := Hd (HTX2.out.keep (w' := wD) (A' := fun g => A g ∧ g < S) hxD.size (fun g hg hlt => ⟨hg, hxD.block g hlt⟩))
   replace HL2 := Hd (HL2.out.keep (w' := wD) (A' := fun g => A g ∧ g < S) hxD.size (fun g hg hlt => ⟨hg, hxD.block g hlt⟩)); clear hxD; cases BF with
   | false =>
     replace HR : Hid (R = (tNull, 8)) := Hd (by rw [← HR.out]; exact putT_kind (by have := of_decide_eq_false HBF.out; rw [HK.out] at this; exact this)); clear IH; obtain ⟨y0, y1, y2, y3, y4, y5, y6, y7⟩ := HV22.out.c8; obtain ⟨z0, z1, z2, z3, z4, z5, z6, z7⟩ := HV22.out.f8; go_wp2_with fail
     have hV := VAt.store8 HV22.out (.int .i64 0) (.bool false) (.bool false) (.string ⟨#[]⟩) (.int .i64 0) (.string ⟨#[]⟩) (.slice none 0 0) (.slice none 0 0); have HV := Hd hV; obtain ⟨v0, v1, v2, v3, v4, v5, v6, v7⟩ := HV.out.c8
     refine bodyPost_ret (v := .tuple #[.agg #[.int .i64 0, .bool false, .bool false, .string ⟨#[]⟩, .int .i64 0, .string ⟨#[]⟩, .slice none 0 0, .slice none 0 0], .int .i64 8]) (by simp [results, Tryz.results27, go_sem, v0, v1, v2, v3, v4, v5, v6, v7]) rfl ?_; rw [HR.out]; exact ⟨_, rfl, TV.leaf _ _ 0 false Num.zero [], ext_set8 HE2.out (by rw [HS.out]; omega)⟩
   | true =>
     have HKS : Hid (t.kind = kindS s) := Hd (by have := of_decide_eq_true HBF.out; rw [HK.out] at this; exact this); have HON := Hd (rone_any t _ _ s wD HT2.out HPOS.out HLEN.out.2); obtain ⟨X, hX⟩ := Ex ((Orange.stepT t s).getD tNull); obtain ⟨OK, hOK⟩ := Ex ((Orange.stepT t s).isSome); rw [hX, hOK] at HON; have HX3 := Hd hX; have HOK := Hd hOK; clear hX hOK
     obtain ⟨c0, c1, c2, c3, c4, c5, c6, c7⟩ := HCC.out.c8; obtain ⟨s0, s1, s2⟩ := HSP.out.cell; go_wp2_with fail; refine (HON.out).mono ?_; rintro e wE ⟨c', rfl, htv, hxE⟩; obtain ⟨yk, yb, yd, ys, ya1, yn1, yc1, ya2, yn2, yc2, rfl⟩ := htv.eight; have HTV := Hd htv; clear c0 c1 c2 c3 c4 c5 c6 c7; clear HON s0 s1 s2 htv; replace HCC := Hd (HCC.out.ext hxE); replace HX2 := Hd (HX2.out.ext hxE)
     replace HV22 := Hd (HV22.out.ext hxE); replace HSP := Hd (HSP.out.ext hxE); replace HE2 := Hd (ext_trans HE2.out hxE); replace HT2 := Hd (HT2.out.keep (w' := wE) (A' := fun g => A g ∧ g < S) hxE.size (fun g hg hlt => ⟨hg, hxE.block g hlt⟩)); replace HTX2 := Hd (HTX2.out.keep (w' := wE) (A' := fun g => A g ∧ g < S) hxE.size (fun g hg hlt => ⟨hg, hxE.block g hlt⟩))
     replace HL2 := Hd (HL2.out.keep (w' := wE) (A' := fun g => A g ∧ g < S) hxE.size (fun g hg hlt => ⟨hg, hxE.block g hlt⟩)); clear hxE; obtain ⟨wF, ewF⟩ : ∃ W, wE.alloc (.cells (cellsV yk yb yd ys (.slice ya1 yn1 yc1) (.slice ya2 yn2 yc2)) 27) = W := ⟨_, rfl⟩
     have nwF : wF.heap[wE.heap.size]? = some (.cells (cellsV yk yb yd ys (.slice ya1 yn1 yc1) (.slice ya2 yn2 yc2)) 27) := by rw [← ewF]; exact heap_alloc_new _ _
     have xwF : Ext wE wF := by rw [← ewF]; exact (ext_refl _).alloc (Nat.le_refl _) _
     have swF : wF.heap.size = wE.heap.size + 1 := by rw [← ewF]; simp
     have HY : Hid (VAt wF wE.heap.size (cellsV yk yb yd ys (.slice ya1 yn1 yc1) (.slice ya2 yn2 yc2))) := Hd nwF; have EF := Hd ewF; have hPQ : P < wE.heap.size := (Array.getElem?_eq_some_iff.1 HSP.out).1; replace HCC := Hd (HCC.out.ext xwF); replace HX2 := Hd (HX2.out.ext xwF); replace HV22 := Hd (HV22.out.ext xwF); replace HSP := Hd (HSP.out.ext xwF); replace HE2 := Hd (ext_trans HE2.out xwF)
     replace HT2 := Hd (HT2.out.keep (w' := wF) (A' := fun g => A g ∧ g < S) xwF.size (fun g hg hlt => ⟨hg, xwF.block g hlt⟩)); replace HTX2 := Hd (HTX2.out.keep (w' := wF) (A' := fun g => A g ∧ g < S) xwF.size (fun g hg hlt => ⟨hg, xwF.block g hlt⟩)); replace HL2 := Hd (HL2.out.keep (w' := wF) (A' := fun g => A g ∧ g < S) xwF.size (fun g hg hlt => ⟨hg, xwF.block g hlt⟩))
     replace HTV := Hd (HTV.out.keep (w' := wF) (A' := fun g => A g ∧ g < S) xwF.size (fun g hg hlt => ⟨hg, xwF.block g hlt⟩)); clear xwF nwF swF ewF; simp only [cellsV] at EF; go_upto_region 7 with fail; rw [EF.out]; obtain ⟨Q, hQ⟩ := Ex wE.heap.size; rw [hQ] at HY hPQ ⊢; clear hQ EF; obtain ⟨BST, hBST⟩ : ∃ b, decide (OK = false ∧ (l ≠ [] ∨ (s.named = false ∧ s.pos ≠ t.list.length))) = b := ⟨_, rfl⟩
     have HBST := Hd hBST; clear hBST; have c6 := HCC.out.cell 6; simp at c6; obtain ⟨s0, s1, s2⟩ := HSP.out.cell; go_cut [50] (fun v wx => v = .bool BST ∧ wx = wF)
     case first =>
      cases OK with
      | true =>
        go_wp2_with fail; go_meet; exact ⟨congrArg Value.bool (by rw [← HBST.out, decide_eq_false (by simp)]), rfl⟩
      | false =>
        by_cases hl1 : l = []
        · subst hl1; cases hn : s.named with
          | true =>
            rw [hn] at s2; go_wp2_with fail; go_meet; exact ⟨congrArg Value.bool (by rw [← HBST.out, decide_eq_false (by simp [hn])]), rfl⟩
          | false =>
            rw [hn] at s2; obtain ⟨BQ, hBQ⟩ : ∃ b, (s.pos != (t.list.length : Int)) = b := ⟨_, rfl⟩
            cases BQ with
            | true =>
              go_wp2_with fail; go_meet; exact ⟨congrArg Value.bool (by rw [← HBST.out, decide_eq_true (by simpa [hn] using hBQ)]), rfl⟩
            | false =>
              go_wp2_with fail; go_meet; exact ⟨congrArg Value.bool (by rw [← HBST.out, decide_eq_false (by simpa [hn] using hBQ)]), rfl⟩
        · have hll : 0 < l.length := List.length_pos_iff.2 hl1; have hlg : (1 : Int) < (l.length : Int) + 1 := by omega
          have HB1 : Hid (true = BST) := Hd (by rw [← HBST.out, decide_eq_true (by simp [hl1])]); clear hl1; go_wp2_with fail; go_meet; exact ⟨congrArg Value.bool HB1.out, rfl⟩
     case rest =>
      obtain ⟨rfl, hwc⟩ := hcut; rw [hwc]; clear c6 s0 s1 s2 hwc; cases BST with
      | true =>
        have hst := of_decide_eq_true HBST.out; replace HR : Hid (R = (tNull, 6)) := Hd (by
         rw [← HR.out]; refine putT_stop HKS.out ?_ hst.2; have := HOK.out; rw [hst.1] at this; cases h : Orange.stepT t s with
         | none => rfl
         | some y => rw [h] at this; cases this)
        clear IH hst; obtain ⟨y0, y1, y2, y3, y4, y5, y6, y7⟩ := HV22.out.c8; obtain ⟨z0, z1, z2, z3, z4, z5, z6, z7⟩ := HV22.out.f8; go_wp2_with fail; have hV := VAt.store8 HV22.out (.int .i64 0) (.bool false) (.bool false) (.string ⟨#[]⟩) (.int .i64 0) (.string ⟨#[]⟩) (.slice none 0 0) (.slice none 0 0); have HV := Hd hV; obtain ⟨v0, v1, v2, v3, v4, v5, v6, v7⟩ := HV.out.c8
        refine bodyPost_ret (v := .tuple #[.agg #[.int .i64 0, .bool false, .bool false, .string ⟨#[]⟩, .int .i64 0, .string ⟨#[]⟩, .slice none 0 0, .slice none 0 0], .int .i64 6]) (by simp [results, Tryz.results27, go_sem, v0, v1, v2, v3, v4, v5, v6, v7]) rfl ?_; rw [HR.out]; exact ⟨_, rfl, TV.leaf _ _ 0 false Num.zero [], ext_set8 HE2.out (by rw [HS.out]; omega)⟩
      | false =>
        have hst := of_decide_eq_false HBST.out; rw [← HOK.out] at hst; have hon := putT_on (x := x) HKS.out hst; rw [HX3.out] at hon; obtain ⟨hre, hly⟩ := hon; obtain ⟨Z, hZ⟩ := Ex ((putT X l x).1); obtain ⟨ER, hER⟩ := Ex ((putT X l x).2); rw [hZ, hER] at hre; have HRE : Hid (R = if ER ≠ 0 then (tNull, ER) else (layRT t s Z, 0)) := Hd (by rw [← HR.out]; exact hre); have HLY := Hd hly; have HZ := Hd hZ
        have HER := Hd hER; clear hst hre hly hZ hER; go_upto_region 9 with fail; obtain ⟨W9, hW9⟩ : ∃ W, wF.heap.size = W := ⟨_, rfl⟩
        have hQW : Q < W9 := by rw [← hW9]; exact HY.out.lt
        have HW9 := Hd hW9; clear hW9; have hwX : Hid (weightT X ≤ 1000000) := Hd (by
         have h1 := HWT.out; rw [← HX3.out]; cases h : Orange.stepT t s with
         | none => show weightT tNull ≤ _; decide
         | some y => exact Nat.le_trans (step_weight h) h1)
        go_cut [11, 12] (fun p4 v5 wx => ∃ (q : Nat) (cz : Array Value), p4 = .pointer (some ⟨q, 0, none⟩) ∧ v5 = .int .i64 ER ∧ Ext wF wx ∧ Hid (VAt wx q cz) ∧ Hid (TV wx (fun g => (A g ∧ g < S) ∨ W9 ≤ g) Z cz) ∧ W9 ≤ q)
        case first =>
         have HC : Hid (∀ v', (∀ w', Ext wF w' → PlAt w' (fun g => A g ∧ g < S) v' l) → ∀ w', Ext wF w' → Calls Tryz.prog 27 #[.agg #[.int .i64 yk, .bool yb, .bool yd.neg, .string ⟨yd.digits.toArray⟩, .int .i64 yd.exp, .string ⟨ys.toArray⟩, .slice ya1 yn1 yc1, .slice ya2 yn2 yc2], v', .agg #[.int .i64 xk, .bool xb, .bool xd.neg, .string ⟨xd.digits.toArray⟩, .int .i64 xd.exp, .string ⟨xs.toArray⟩, .slice xa1 xn1 xc1, .slice xa2 xn2 xc2]] w' (fun e w'' => ∃ (zk : Int) (zb : Bool) (zd : Num) (zs : List UInt8) (za1 : Option Addr) (zn1 zc1 : Nat) (za2 : Option Addr) (zn2 zc2 : Nat), e = .returned (.tuple #[.agg #[.int .i64 zk, .bool zb, .bool zd.neg, .string ⟨zd.digits.toArray⟩, .int .i64 zd.exp, .string ⟨zs.toArray⟩, .slice za1 zn1 zc1, .slice za2 zn2 zc2], .int .i64 ER]) ∧ TV w'' (fun g => (A g ∧ g < S) ∨ w'.heap.size ≤ g) Z (cellsV zk zb zd zs (.slice za1 zn1 zc1) (.slice za2 zn2 zc2)) ∧ Ext w' w'')) := Hd (fun v' hv w' hw => by
          have h1 := IH.out s l rfl X x _ _ (fun g => A g ∧ g < S) v' w' (HTV.out.keep hw.size (fun g hg hlt => ⟨hg, hw.block g hlt⟩)) (hv w' hw) (HTX2.out.keep hw.size (fun g hg hlt => ⟨hg, hw.block g hlt⟩)) hwX.out; rw [HZ.out, HER.out] at h1; refine h1.mono ?_; rintro e w'' ⟨c', rfl, htz, hx⟩; obtain ⟨zk, zb, zd, zs, za1, zn1, zc1, za2, zn2, zc2, rfl⟩ := htz.eight
          exact ⟨zk, zb, zd, zs, za1, zn1, zc1, za2, zn2, zc2, rfl, htz, hx⟩)
         obtain ⟨VT, hVT, HCV⟩ : ∃ VT, VT = (if vc = 1 then .slice (some ⟨g, o, none⟩) l.length 0 else .slice (some ⟨g, o + 3, none⟩) l.length (vc - 1) : Value) ∧ Hid (∀ w', Ext wF w' → PlAt w' (fun g => A g ∧ g < S) VT l) := by
          refine ⟨_, rfl, Hd (fun w' hw => ?_)⟩; have h1 := HL2.out.keep (w' := w') (A' := fun g => A g ∧ g < S) hw.size (fun g hg hlt => ⟨hg, hw.block g hlt⟩); by_cases hvc : vc = 1
          · rw [if_pos hvc]; subst hvc; obtain ⟨h2, h3⟩ := pl_none h1 (some ⟨g, o, none⟩); subst h2; exact h3
          · rw [if_neg hvc]; exact pl_tail h1
         have HCC2 := Hd (HC.out VT HCV.out); clear HC HCV; have hN : VAt ((wF.alloc (.cells zeroV 27)).drew) wF.heap.size zeroV := (VAt.new wF zeroV).ext (ext_refl _).drew; have HN := Hd hN; clear hN; have hs1 : (1 : Int) ≤ (l.length : Int) + 1 := by omega
         have hql : Q < wF.heap.size := HY.out.lt; have hqx : S + 1 < wF.heap.size := HX2.out.lt; obtain ⟨y0, y1, y2, y3, y4, y5, y6, y7⟩ := HY.out.c8; obtain ⟨x0, x1, x2, x3, x4, x5, x6, x7⟩ := HX2.out.c8; by_cases hvc : vc = 1
         · subst hvc; rw [if_pos rfl] at hVT; subst hVT
           go_region_with (go_at_call 27; go_loud (refine (HCC2.out _ (by first | exact (ext_refl _).drew | exact ((ext_refl _).drew.alloc (by simp) _) | exact ((ext_refl _).alloc (Nat.le_refl _) _).drew)).mono ?_; rintro e w' ⟨zk, zb, zd, zs, za1, zn1, zc1, za2, zn2, zc2, rfl, htz, hx⟩; have HTZ := Hd htz; clear htz; try (have hz := VAt.ext HN.out hx; simp only [zeroV, noL, Num.zero] at hz; obtain ⟨z0, z1, z2, z3, z4, z5, z6, z7⟩ := hz.c8; have y := hz.free)))
           all_goals go_wp2_with fail
           all_goals go_meet
           all_goals have hsx := hx.size
           all_goals first
            | exact ⟨_, _, rfl, rfl, (ext_trans (ext_refl wF).drew hx).alloc (by simp at hsx; omega) _, Hd (VAt.new _ _), Hd (HTZ.out.keep (by simp) (fun g hg hlt => ⟨by rcases hg with hg | hg; exact .inl hg; exact .inr (by have := HW9.out; simp at hg; omega), heap_alloc_old _ _ hlt⟩)), by have := HW9.out; simp at hsx; omega⟩
            | exact ⟨_, _, rfl, rfl, ext_set8 (ext_trans ((ext_refl wF).alloc (Nat.le_refl _) _).drew hx) (Nat.le_refl _), Hd (by have h5 := VAt.store8 hz (.int .i64 zk) (.bool zb) (.bool zd.neg) (.string ⟨zd.digits.toArray⟩) (.int .i64 zd.exp) (.string ⟨zs.toArray⟩) (.slice za1 zn1 zc1) (.slice za2 zn2 zc2); exact h5), Hd (HTZ.out.keep (by simp [World.setCell]) (fun g hg hlt => ⟨by rcases hg with hg | hg; exact .inl hg; exact .inr (by have := HW9.out; simp at hg; omega), heap8 (by have := HW9.out; rcases hg with hg | hg; have := hg.2; omega; simp at hg; omega)⟩)), by have := HW9.out; omega⟩
         · rw [if_neg hvc] at hVT; subst hVT
           go_region_with (go_at_call 27; go_loud (refine (HCC2.out _ (by first | exact (ext_refl _).drew | exact ((ext_refl _).drew.alloc (by simp) _) | exact ((ext_refl _).alloc (Nat.le_refl _) _).drew)).mono ?_; rintro e w' ⟨zk, zb, zd, zs, za1, zn1, zc1, za2, zn2, zc2, rfl, htz, hx⟩; have HTZ := Hd htz; clear htz; try (have hz := VAt.ext HN.out hx; simp only [zeroV, noL, Num.zero] at hz; obtain ⟨z0, z1, z2, z3, z4, z5, z6, z7⟩ := hz.c8; have y := hz.free)))
           all_goals go_wp2_with fail
           all_goals go_meet
           all_goals have hsx := hx.size
           all_goals first
            | exact ⟨_, _, rfl, rfl, (ext_trans (ext_refl wF).drew hx).alloc (by simp at hsx; omega) _, Hd (VAt.new _ _), Hd (HTZ.out.keep (by simp) (fun g hg hlt => ⟨by rcases hg with hg | hg; exact .inl hg; exact .inr (by have := HW9.out; simp at hg; omega), heap_alloc_old _ _ hlt⟩)), by have := HW9.out; simp at hsx; omega⟩
            | exact ⟨_, _, rfl, rfl, ext_set8 (ext_trans ((ext_refl wF).alloc (Nat.le_refl _) _).drew hx) (Nat.le_refl _), Hd (by have h5 := VAt.store8 hz (.int .i64 zk) (.bool zb) (.bool zd.neg) (.string ⟨zd.digits.toArray⟩) (.int .i64 zd.exp) (.string ⟨zs.toArray⟩) (.slice za1 zn1 zc1) (.slice za2 zn2 zc2); exact h5), Hd (HTZ.out.keep (by simp [World.setCell]) (fun g hg hlt => ⟨by rcases hg with hg | hg; exact .inl hg; exact .inr (by have := HW9.out; simp at hg; omega), heap8 (by have := HW9.out; rcases hg with hg | hg; have := hg.2; omega; simp at hg; omega)⟩)), by have := HW9.out; omega⟩
        case rest =>
         obtain ⟨q, cz, rfl, rfl, hxq, HVQ, HTQ, hqW⟩ := hcut; obtain ⟨zk, zb, zd, zs, za1, zn1, zc1, za2, zn2, zc2, rfl⟩ := HTQ.out.eight; replace HCC := Hd (HCC.out.ext hxq); replace HX2 := Hd (HX2.out.ext hxq); replace HV22 := Hd (HV22.out.ext hxq); replace HSP := Hd (HSP.out.ext hxq); replace HE2 := Hd (ext_trans HE2.out hxq)
         replace HT2 := Hd (HT2.out.keep (w' := wc) (A' := fun g => A g ∧ g < S) hxq.size (fun g hg hlt => ⟨hg, hxq.block g hlt⟩)); replace HTX2 := Hd (HTX2.out.keep (w' := wc) (A' := fun g => A g ∧ g < S) hxq.size (fun g hg hlt => ⟨hg, hxq.block g hlt⟩)); replace HL2 := Hd (HL2.out.keep (w' := wc) (A' := fun g => A g ∧ g < S) hxq.size (fun g hg hlt => ⟨hg, hxq.block g hlt⟩)); clear hxq HTV HY IH hwX
         by_cases hz : ER = 0
         · subst hz; replace HRE : Hid (R = (layRT t s Z, 0)) := Hd (by rw [HRE.out, if_neg (by simp)]); have HLAY := Hd (rlay_any t Z _ _ (fun g => (A g ∧ g < S) ∨ W9 ≤ g) s wc (HT2.out.keep (Nat.le_refl _) (fun g hg _ => ⟨.inl hg, rfl⟩)) HTQ.out HLY.out HLEN.out.1 HLEN.out.2); obtain ⟨c0, c1, c2, c3, c4, c5, c6, c7⟩ := HCC.out.c8; obtain ⟨s0, s1, s2⟩ := HSP.out.cell
           obtain ⟨x0, x1, x2, x3, x4, x5, x6, x7⟩ := HVQ.out.c8; go_wp2_with fail; refine (HLAY.out).mono ?_; rintro e w5 ⟨c', rfl, htv, hx5⟩; obtain ⟨uk, ub, ud, us, ua1, un1, uc1, ua2, un2, uc2, rfl⟩ := htv.eight; have HT5 := Hd htv; have HV5 := Hd (HV22.out.ext hx5); have HP5 := Hd HV22.out.lt; replace HE2 := Hd (ext_trans HE2.out hx5); clear htv hx5 HLAY s0 s1 s2
           clear c0 c1 c2 c3 c4 c5 c6 c7 x0 x1 x2 x3 x4 x5 x6 x7; obtain ⟨y0, y1, y2, y3, y4, y5, y6, y7⟩ := HV5.out.c8; obtain ⟨z0, z1, z2, z3, z4, z5, z6, z7⟩ := HV5.out.f8; go_wp2_with fail; have hV := VAt.store8 HV5.out (.int .i64 uk) (.bool ub) (.bool ud.neg) (.string ⟨ud.digits.toArray⟩) (.int .i64 ud.exp) (.string ⟨us.toArray⟩) (.slice ua1 un1 uc1) (.slice ua2 un2 uc2); have HV := Hd hV
           obtain ⟨v0, v1, v2, v3, v4, v5, v6, v7⟩ := HV.out.c8; refine bodyPost_ret (v := .tuple #[.agg #[.int .i64 uk, .bool ub, .bool ud.neg, .string ⟨ud.digits.toArray⟩, .int .i64 ud.exp, .string ⟨us.toArray⟩, .slice ua1 un1 uc1, .slice ua2 un2 uc2], .int .i64 0]) (by simp [results, Tryz.results27, go_sem, v0, v1, v2, v3, v4, v5, v6, v7]) rfl ?_; rw [HRE.out]
           exact ⟨_, rfl, HT5.out.keep (by simp [World.setCell]) (fun g hg hlt => ⟨by have := HP5.out; have := HS.out; rcases hg with (hg | hg) | hg; exact .inl hg.1; exact .inr (by omega); exact .inr (by omega), heap8 (by have := HP5.out; rcases hg with (hg | hg) | hg; have := hg.2; omega; omega; omega)⟩), ext_set8 HE2.out (by rw [HS.out]; omega)⟩
         · replace HRE : Hid (R = (tNull, ER)) := Hd (by rw [HRE.out, if_pos hz]); have hzb : (ER != 0) = true := by simpa using hz
           clear hz; obtain ⟨y0, y1, y2, y3, y4, y5, y6, y7⟩ := HV22.out.c8; obtain ⟨z0, z1, z2, z3, z4, z5, z6, z7⟩ := HV22.out.f8; go_wp2_with fail; have hV := VAt.store8 HV22.out (.int .i64 0) (.bool false) (.bool false) (.string ⟨#[]⟩) (.int .i64 0) (.string ⟨#[]⟩) (.slice none 0 0) (.slice none 0 0); have HV := Hd hV; obtain ⟨v0, v1, v2, v3, v4, v5, v6, v7⟩ := HV.out.c8
           refine bodyPost_ret (v := .tuple #[.agg #[.int .i64 0, .bool false, .bool false, .string ⟨#[]⟩, .int .i64 0, .string ⟨#[]⟩, .slice none 0 0, .slice none 0 0], .int .i64 ER]) (by simp [results, Tryz.results27, go_sem, v0, v1, v2, v3, v4, v5, v6, v7]) rfl ?_; rw [HRE.out]; exact ⟨_, rfl, TV.leaf _ _ 0 false Num.zero [], ext_set8 HE2.out (by rw [HS.out]; omega)⟩
theorem rput_any : ∀ (l : List PStep) (t x : Tree) (c cx : Array Value) (A : Nat → Prop) (v : Value) (w : World), TV w A t c → PlAt w A v l → TV w A x cx → weightT t ≤ 1000000 →
 Calls Tryz.prog 27 #[.agg c, v, .agg cx] w (fun e w' => ∃ c', e = .returned (.tuple #[.agg c', .int .i64 (putT t l x).2]) ∧ TV w' (fun g => A g ∨ w.heap.size ≤ g) (putT t l x).1 c' ∧ Ext w w') := by
 intro l; induction l with
 | nil => intro t x c cx A v w h1 h2 h3 h4; exact rput_step t x c cx A v [] w h1 h2 h3 h4 (fun s l' e => by cases e)
 | cons s l ih =>
   intro t x c cx A v w h1 h2 h3 h4; refine rput_step t x c cx A v (s :: l) w h1 h2 h3 h4 (fun s' l' e => ?_); obtain ⟨rfl, rfl⟩ := List.cons.inj e; exact ih
end Go.Proofs.YtjapbjmeoaagmaaGreatDoor
end

section
set_option maxRecDepth 100000
namespace Orange
theorem dropT_nil (t : Tree) : dropT t [] = (tNull, 1) := by simp [dropT]
theorem dropT_cons (t : Tree) (s : PStep) (l : List PStep) : dropT t (s :: l) = changeT dropF t (s :: l) := by unfold dropT; rw [if_neg (by simp)]
theorem dropT_kind {t : Tree} {s : PStep} {l : List PStep} (hk : t.kind ≠ kindS s) : dropT t (s :: l) = (tNull, 8) := by
 rw [dropT_cons]; cases l with
 | nil => rw [changeT_1, if_pos hk]
 | cons r l => rw [changeT_2, if_pos hk]
theorem dropT_none {t : Tree} {s : PStep} {l : List PStep} (hk : t.kind = kindS s) (h : Orange.stepT t s = none) : dropT t (s :: l) = (tNull, 6) := by
 rw [dropT_cons]; cases l with
 | nil => rw [changeT_1, if_neg (by simp [hk]), h]; rfl
 | cons r l => rw [changeT_2, if_neg (by simp [hk]), h]
theorem dropT_deep {t y : Tree} {s : PStep} {l : List PStep} (hk : t.kind = kindS s) (h : Orange.stepT t s = some y) (hl : l ≠ []) : dropT t (s :: l) = if (dropT y l).2 ≠ 0 then (tNull, (dropT y l).2) else (layRT t s (dropT y l).1, 0) := by
 cases l with
 | nil => exact absurd rfl hl
 | cons r l => rw [layRT_some hk h, dropT_cons, dropT_cons, changeT_2, if_neg (by simp [hk]), h]
theorem dropT_last {t y : Tree} {s : PStep} (hk : t.kind = kindS s) (h : Orange.stepT t s = some y) : dropT t [s] = (if s.named = true then t.withM (dropM s.name t.mems) else t.withL (t.list.eraseIdx s.pos.toNat), 0) := by
 rw [dropT_cons, changeT_1, if_neg (by simp [hk]), h]; unfold dropF; rw [if_neg (by simp)]; split <;> rfl
end Orange
namespace Go.Mem
open Go.RowKit
section
variable {P : Program} (w : World)
theorem run_append_zero (base : Nat) (t tx ty e : TypeId) (i : TypeInfo) (z : Value) (size bytes : Nat) (ht : P.underlying t = some (.slice e)) (hi : P.info? e = some i) (hz : i.zero = some z)
 (hsize : i.size = size) (hby : i.bytes = bytes) (hzs : z.cells.size = size) (hsz : 0 < size) (g : Nat) (hg : w.heap[g]? = some (.cells #[] e (0, 0))) (hbg : base ≤ g)
 (x : Value) (m : Nat) (news : List Value) (hs : Src P size tx x m news w)
 (h63 : m ≤ maxLen) (hbytes : m * bytes ≤ 140737488355328) (hbase : base ≤ w.heap.size) :
 ∃ v' w', (Builtin.append_ #[t, tx] ty #[.slice (some ⟨g, 0, none⟩) 0 0, x]).run P w = .ok v' w' ∧ w'.ownsRow base e size v' m news ∧ Ext w w' := by
 subst hsize; subst hby; have hl := hs.newsLen; have hsmall : m ≤ 9223372036854775807 := by simp only [maxLen] at h63; omega
 by_cases hm : m = 0
 · subst hm; have hn : news = [] := List.eq_nil_of_length_eq_zero (by simpa using hl); subst hn; refine ⟨.slice (some ⟨g, 0, none⟩) 0 0, w, ?_, ⟨by simp, .inr ⟨g, 0, #[], rfl, hbg, hg, Nat.le_refl _, by simp only [maxLen]; omega, by simp, by simp⟩⟩, ext_refl _⟩
   rcases hs.kind with ⟨e', hk⟩ | hk <;> simp [Builtin.append_, run_underlying ht, run_underlying hk, sizeOf, typeInfo, hi, hs.len, hs.cells, storeCells]
 · have hr := run_append_grow_src (P := P) w t tx ty e i z ht hi hz (some ⟨g, 0, none⟩) 0 0 [] (run_firstCells_some w.drew i.size 0 ⟨g, 0, none⟩ 0 0 [] (by simp) (by simp)) x m news hs (by omega) (by omega) (growslice_fits (by omega) (by simpa using hbytes)); refine ⟨_, _, hr, ?_, ((ext_refl w).drew).alloc (Nat.le_refl _) _⟩; have hge := grownCap_ge w (0 + m) 0 e
   have hcm : grownCap w (0 + m) 0 e ≤ maxLen := grownCap_le_maxLen w (0 + m) 0 e (by omega); refine ⟨hl, .inr ⟨w.heap.size, _, _, by simp, hbase, heap_alloc_new w.drew _, by omega, hcm, ?_, ?_⟩⟩
   · simp only [Array.size_append, List.size_toArray, size_zeroCells, hzs, List.nil_append, hl, ← Nat.add_mul]; congr 1
     omega
   · simp only [Array.toList_append, List.nil_append]; rw [← hl]; exact List.take_left
end
end Go.Mem
namespace Go.Proofs.YtjapbjmeoaagmaaGreatDoor
open Go.RowKit Go.Mem Orange
theorem relUpon_append0 {P : Program} {E : List PanicEntry → World → Prop} {S : Value → Prop} {R : Value → World → Prop} {w : World} {o : Oper} {a : Act} (s xo : Operand) (t tx : TypeId)
 (ho : o.op = .call { callee := .builtin .append, args := #[s, xo], argTypes := #[t, tx] })
 (base : Nat) (e : TypeId) (i : TypeInfo) (z : Value) (size bytes : Nat) (ht : P.underlying t = some (.slice e)) (hi : P.info? e = some i) (hz : i.zero = some z)
 (hsize : i.size = size) (hby : i.bytes = bytes) (hzs : z.cells.size = size) (hsz : 0 < size) (g : Nat) (hg : w.heap[g]? = some (.cells #[] e (0, 0))) (hbg : base ≤ g)
 (hs : a.eval s = .slice (some ⟨g, 0, none⟩) 0 0)
 (x : Value) (m : Nat) (news : List Value) (hx : a.eval xo = x) (hsrc : Src P size tx x m news w)
 (h63 : m ≤ maxLen) (hbytes : m * bytes ≤ 140737488355328) (hbase : base ≤ w.heap.size)
 (h : ∀ v' w', w'.ownsRow base e size v' m news → Ext w w' → S v' ∧ R v' w') : GrowS.relUpon P Ext E S R w ((execOp a.eval o).run P w) := by
 obtain ⟨v', w', hr, h2, h3⟩ := run_append_zero (P := P) w base t tx o.type e i z size bytes ht hi hz hsize hby hzs hsz g hg hbg x m news hsrc h63 hbytes hbase; unfold execOp; simp only [ho, resolve, invoke, builtin, Sem.run_bind, Sem.run_pure, Result.andThen_ok, List.map_toArray, List.map_cons, List.map_nil, hs, hx, hr]; exact ⟨h3, (h v' w' h2 h3).1, (h v' w' h2 h3).2⟩
theorem TLc.take {w : World} {A : Nat → Prop} {l : List Tree} {ms : List (List Value)} (h : TLc w A l ms) (k : Nat) : TLc w A (l.take k) (ms.take k) :=
 ⟨by rw [List.length_take, List.length_take, h.1], fun i hi hi' => by
   rw [List.getElem_take, List.getElem_take]; rw [List.length_take] at hi hi'; exact h.2 i (by omega) (by omega)⟩
theorem TLc.drop {w : World} {A : Nat → Prop} {l : List Tree} {ms : List (List Value)} (h : TLc w A l ms) (k : Nat) : TLc w A (l.drop k) (ms.drop k) :=
 ⟨by rw [List.length_drop, List.length_drop, h.1], fun i hi hi' => by
   rw [List.getElem_drop, List.getElem_drop]; rw [List.length_drop] at hi hi'; exact h.2 (k + i) (by omega) (by omega)⟩
def specNo (e : TypeId) (B : Nat) : GrowS.Spec (fun _ => Ext) :=
 ⟨fun v => ∃ g, v = .slice (some ⟨g, 0, none⟩) 0 0, fun v w => ∃ g, v = .slice (some ⟨g, 0, none⟩) 0 0 ∧ B ≤ g ∧ w.heap[g]? = some (.cells #[] e (0, 0)), ⟨_, 0, rfl⟩, fun i v w w' ⟨g, e1, hb, h⟩ hg => ⟨g, e1, hb, by rw [hg.block g (Array.getElem?_eq_some_iff.1 h).1]; exact h⟩⟩
set_option maxHeartbeats 12800000 in
theorem rdrop_step (t : Tree) (c : Array Value) (A : Nat → Prop) (v : Value) (l : List PStep) (w : World) (h : TV w A t c) (hl : PlAt w A v l) (hwt : weightT t ≤ 1000000)
 (ih : ∀ s l', l = s :: l' → ∀ (t : Tree) (c : Array Value) (A : Nat → Prop) (v : Value) (w : World), TV w A t c → PlAt w A v l' → weightT t ≤ 1000000 →
   Calls Tryz.prog 29 #[.agg c, v] w (fun e w' => ∃ c', e = .returned (.tuple #[.agg c', .int .i64 (dropT t l').2]) ∧ TV w' (fun g => A g ∨ w.heap.size ≤ g) (dropT t l').1 c' ∧ Ext w w')) :
 Calls Tryz.prog 29 #[.agg c, v] w (fun e w' => ∃ c', e = .returned (.tuple #[.agg c', .int .i64 (dropT t l).2]) ∧ TV w' (fun g => A g ∨ w.heap.size ≤ g) (dropT t l).1 c' ∧ Ext w w') := by
 have IH := Hd ih; clear ih; obtain ⟨R, hR⟩ := Ex (dropT t l); rw [hR]; have HR := Hd hR; clear hR; obtain ⟨k, b, d, ss, la, ln, lc, ma, mn, mc, rfl⟩ := h.eight; obtain ⟨cl, cm, htl, hrl, htm, hrm, hk, -⟩ := tv_rows h; obtain ⟨_, a1, c1, ea, hl1, hl2, -⟩ := id hrl; simp only [Value.slice.injEq] at ea; obtain ⟨rfl, eln, rfl⟩ := ea; subst eln; obtain ⟨_, va, vc, rfl, hvn, hvm, -⟩ := id hl.1
 obtain ⟨wA, ewA⟩ : ∃ W, w.alloc (.cells (cellsV k b d ss (.slice la t.list.length lc) (.slice ma mn mc)) 27) = W := ⟨_, rfl⟩
 have nwA : wA.heap[w.heap.size]? = some (.cells (cellsV k b d ss (.slice la t.list.length lc) (.slice ma mn mc)) 27) := by rw [← ewA]; exact heap_alloc_new _ _
 have xwA : Ext w wA := by rw [← ewA]; exact (ext_refl _).alloc (Nat.le_refl _) _
 have swA : wA.heap.size = w.heap.size + 1 := by rw [← ewA]; simp
 obtain ⟨wr, ewr⟩ : ∃ W, wA.alloc (.cells zeroV 27) = W := ⟨_, rfl⟩
 have nwr : wr.heap[wA.heap.size]? = some (.cells zeroV 27) := by rw [← ewr]; exact heap_alloc_new _ _
 have xwr : Ext wA wr := by rw [← ewr]; exact (ext_refl _).alloc (Nat.le_refl _) _
 have swr : wr.heap.size = wA.heap.size + 1 := by rw [← ewr]; simp
 have hE := ext_trans xwA xwr; have HT := Hd (h.keep (w' := wr) (A' := fun g => A g ∧ g < w.heap.size) hE.size (fun g hg hlt => ⟨⟨hg, hlt⟩, hE.block g hlt⟩)); have HL := Hd (hl.keep (w' := wr) (A' := fun g => A g ∧ g < w.heap.size) hE.size (fun g hg hlt => ⟨⟨hg, hlt⟩, hE.block g hlt⟩)); rw [swA] at nwr
 have HC : Hid (VAt wr w.heap.size (cellsV k b d ss (.slice la t.list.length lc) (.slice ma mn mc))) := Hd (VAt.ext nwA xwr); have HV2 : Hid (VAt wr (w.heap.size + 1) zeroV) := Hd nwr; have HE := Hd hE; have HWT := Hd hwt; have HK := Hd hk; have EA := Hd ewA; have EC := Hd ewr; have hlen : t.list.length ≤ 1000000 ∧ t.mems.length ≤ 1000000 := by
  have h1 := countT_ins t; have h2 := countL_len t.ins; have h3 := ins_len t; have h4 := count_weight t; exact ⟨by omega, by omega⟩
 have HLEN := Hd hlen; clear h hl hE nwA nwr xwA xwr swA swr ewA ewr hwt hk htl hrl htm hrm hlen hl1 hl2; simp only [cellsV, zeroV, noL, Num.zero] at HC HV2 EA EC ⊢; go_enter Tryz.func29, Tryz.ntmps29
 go_upto_region 1 with fail; rw [EA.out, EC.out]; obtain ⟨S, hS⟩ := Ex w.heap.size; rw [hS] at HC HV2 HT HL ⊢; have HS := Hd hS; clear hS EA EC; cases l with
 | nil =>
   replace HR : Hid (R = (tNull, 1)) := Hd (by rw [← HR.out]; exact dropT_nil t); clear IH; obtain ⟨y0, y1, y2, y3, y4, y5, y6, y7⟩ := HV2.out.c8; obtain ⟨z0, z1, z2, z3, z4, z5, z6, z7⟩ := HV2.out.f8; go_wp2_with fail; have hV := VAt.store8 HV2.out (.int .i64 0) (.bool false) (.bool false) (.string ⟨#[]⟩) (.int .i64 0) (.string ⟨#[]⟩) (.slice none 0 0) (.slice none 0 0); have HV := Hd hV
   obtain ⟨v0, v1, v2, v3, v4, v5, v6, v7⟩ := HV.out.c8; refine bodyPost_ret (v := .tuple #[.agg #[.int .i64 0, .bool false, .bool false, .string ⟨#[]⟩, .int .i64 0, .string ⟨#[]⟩, .slice none 0 0, .slice none 0 0], .int .i64 1]) (by simp [results, Tryz.results29, go_sem, v0, v1, v2, v3, v4, v5, v6, v7]) rfl ?_; rw [HR.out]
   exact ⟨_, rfl, TV.leaf _ _ 0 false Num.zero [], ext_set8 HE.out (by rw [HS.out]; omega)⟩
 | cons s l =>
   have hl0 : ((l.length : Int) + 1 == 0) = false := by simp; omega
   obtain ⟨g, o, rfl, hgA, hel⟩ := HL.out.elem 0 (by simp); obtain ⟨s0, s1, s2⟩ := hel wr (fun g _ hlt => rfl); simp only [List.getElem_cons_zero, Nat.zero_mul, Nat.add_zero] at s0 s1 s2; have HPOS := Hd (HL.out.2 s List.mem_cons_self); have hl00 : (0 : Int) < (l.length : Int) + 1 := by omega
   obtain ⟨wC, ewC⟩ : ∃ W, wr.alloc (.cells (cellsS s) 46) = W := ⟨_, rfl⟩
   have nwC : wC.heap[wr.heap.size]? = some (.cells (cellsS s) 46) := by rw [← ewC]; exact heap_alloc_new _ _
   have xwC : Ext wr wC := by rw [← ewC]; exact (ext_refl _).alloc (Nat.le_refl _) _
   have swC : wC.heap.size = wr.heap.size + 1 := by rw [← ewC]; simp
   have HCC := Hd (HC.out.ext xwC); have HSP : Hid (SpAt wC wr.heap.size s) := Hd nwC; have HE2 := Hd (ext_trans HE.out xwC); have HV22 := Hd (HV2.out.ext xwC); have HT2 := Hd (HT.out.keep (w' := wC) (A' := fun g => A g ∧ g < S) xwC.size (fun g hg hlt => ⟨hg, xwC.block g hlt⟩)); have HL2 := Hd (HL.out.keep (w' := wC) (A' := fun g => A g ∧ g < S) xwC.size (fun g hg hlt => ⟨hg, xwC.block g hlt⟩))
   have EC := Hd ewC; have hSW : S + 1 < wr.heap.size := HV2.out.lt; simp only [cellsS] at EC; clear nwC xwC swC ewC hel; go_upto_region 4 with fail; rw [EC.out]; obtain ⟨P, hP⟩ := Ex wr.heap.size; rw [hP] at HSP hSW ⊢; clear HC HV2 HT HL HE EC s0 s1 s2 hP hgA; have HFT := Hd (fits_any k b d ss (.slice la t.list.length lc) (.slice ma mn mc) s wC)
   obtain ⟨BF, hBF⟩ : ∃ BF, decide (k = kindS s) = BF := ⟨_, rfl⟩
   rw [hBF] at HFT; have HBF := Hd hBF; clear hBF; obtain ⟨c0, c1, c2, c3, c4, c5, c6, c7⟩ := HCC.out.c8; obtain ⟨s0, s1, s2⟩ := HSP.out.cell; go_wp2_with fail; refine (HFT.out).mono ?_; rintro e wD ⟨rfl, hxD⟩; clear c0 c1 c2 c3 c4 c5 c6 c7; clear HFT s0 s1 s2; replace HCC := Hd (HCC.out.ext hxD); replace HV22 := Hd (HV22.out.ext hxD); replace HSP := Hd (HSP.out.ext hxD)
   replace HE2 := Hd (ext_trans HE2.out hxD); replace HT2 := Hd (HT2.out.keep (w' := wD) (A' := fun g => A g ∧ g < S) hxD.size (fun g hg hlt => ⟨hg, hxD.block g hlt⟩)); replace HL2 := Hd (HL2.out.keep (w' := wD) (A' := fun g => A g ∧ g < S) hxD.size (fun g hg hlt => ⟨hg, hxD.block g hlt⟩)); clear hxD; cases BF with
   | false =>
     replace HR : Hid (R = (tNull, 8)) := Hd (by rw [← HR.out]; exact dropT_kind (by have := of_decide_eq_false HBF.out; rw [HK.out] at this; exact this)); clear IH; obtain ⟨y0, y1, y2, y3, y4, y5, y6, y7⟩ := HV22.out.c8; obtain ⟨z0, z1, z2, z3, z4, z5, z6, z7⟩ := HV22.out.f8; go_wp2_with fail
     have hV := VAt.store8 HV22.out (.int .i64 0) (.bool false) (.bool false) (.string ⟨#[]⟩) (.int .i64 0) (.string ⟨#[]⟩) (.slice none 0 0) (.slice none 0 0); have HV := Hd hV; obtain ⟨v0, v1, v2, v3, v4, v5, v6, v7⟩ := HV.out.c8
     refine bodyPost_ret (v := .tuple #[.agg #[.int .i64 0, .bool false, .bool false, .string ⟨#[]⟩, .int .i64 0, .string ⟨#[]⟩, .slice none 0 0, .slice none 0 0], .int .i64 8]) (by simp [results, Tryz.results29, go_sem, v0, v1, v2, v3, v4, v5, v6, v7]) rfl ?_; rw [HR.out]; exact ⟨_, rfl, TV.leaf _ _ 0 false Num.zero [], ext_set8 HE2.out (by rw [HS.out]; omega)⟩
   | true =>
     have HKS : Hid (t.kind = kindS s) := Hd (by have := of_decide_eq_true HBF.out; rw [HK.out] at this; exact this); have HON := Hd (rone_any t _ _ s wD HT2.out HPOS.out HLEN.out.2); obtain ⟨X, hX⟩ := Ex ((Orange.stepT t s).getD tNull); obtain ⟨OK, hOK⟩ := Ex ((Orange.stepT t s).isSome); rw [hX, hOK] at HON; have HX3 := Hd hX; have HOK := Hd hOK; clear hX hOK
     obtain ⟨c0, c1, c2, c3, c4, c5, c6, c7⟩ := HCC.out.c8; obtain ⟨s0, s1, s2⟩ := HSP.out.cell; go_wp2_with fail; refine (HON.out).mono ?_; rintro e wE ⟨c', rfl, htv, hxE⟩; obtain ⟨yk, yb, yd, ys, ya1, yn1, yc1, ya2, yn2, yc2, rfl⟩ := htv.eight; have HTV := Hd htv; clear c0 c1 c2 c3 c4 c5 c6 c7; clear HON s0 s1 s2 htv; replace HCC := Hd (HCC.out.ext hxE); replace HV22 := Hd (HV22.out.ext hxE)
     replace HSP := Hd (HSP.out.ext hxE); replace HE2 := Hd (ext_trans HE2.out hxE); replace HT2 := Hd (HT2.out.keep (w' := wE) (A' := fun g => A g ∧ g < S) hxE.size (fun g hg hlt => ⟨hg, hxE.block g hlt⟩)); replace HL2 := Hd (HL2.out.keep (w' := wE) (A' := fun g => A g ∧ g < S) hxE.size (fun g hg hlt => ⟨hg, hxE.block g hlt⟩)); clear hxE
     obtain ⟨wF, ewF⟩ : ∃ W, wE.alloc (.cells (cellsV yk yb yd ys (.slice ya1 yn1 yc1) (.slice ya2 yn2 yc2)) 27) = W := ⟨_, rfl⟩
     have nwF : wF.heap[wE.heap.size]? = some (.cells (cellsV yk yb yd ys (.slice ya1 yn1 yc1) (.slice ya2 yn2 yc2)) 27) := by rw [← ewF]; exact heap_alloc_new _ _
     have xwF : Ext wE wF := by rw [← ewF]; exact (ext_refl _).alloc (Nat.le_refl _) _
     have swF : wF.heap.size = wE.heap.size + 1 := by rw [← ewF]; simp
     have HY : Hid (VAt wF wE.heap.size (cellsV yk yb yd ys (.slice ya1 yn1 yc1) (.slice ya2 yn2 yc2))) := Hd nwF; have EF := Hd ewF; have hPQ : P < wE.heap.size := (Array.getElem?_eq_some_iff.1 HSP.out).1; replace HCC := Hd (HCC.out.ext xwF); replace HV22 := Hd (HV22.out.ext xwF); replace HSP := Hd (HSP.out.ext xwF); replace HE2 := Hd (ext_trans HE2.out xwF)
     replace HT2 := Hd (HT2.out.keep (w' := wF) (A' := fun g => A g ∧ g < S) xwF.size (fun g hg hlt => ⟨hg, xwF.block g hlt⟩)); replace HL2 := Hd (HL2.out.keep (w' := wF) (A' := fun g => A g ∧ g < S) xwF.size (fun g hg hlt => ⟨hg, xwF.block g hlt⟩)); replace HTV := Hd (HTV.out.keep (w' := wF) (A' := fun g => A g ∧ g < S) xwF.size (fun g hg hlt => ⟨hg, xwF.block g hlt⟩)); clear xwF nwF swF ewF
     simp only [cellsV] at EF; go_upto_region 7 with fail; rw [EF.out]; obtain ⟨Q, hQ⟩ := Ex wE.heap.size; rw [hQ] at HY hPQ ⊢; clear hQ EF; cases OK with
     | false =>
       replace HR : Hid (R = (tNull, 6)) := Hd (by
        rw [← HR.out]; refine dropT_none HKS.out ?_; have := HOK.out; cases h : Orange.stepT t s with
        | none => rfl
        | some y => rw [h] at this; cases this)
       clear IH; obtain ⟨y0, y1, y2, y3, y4, y5, y6, y7⟩ := HV22.out.c8; obtain ⟨z0, z1, z2, z3, z4, z5, z6, z7⟩ := HV22.out.f8; go_wp2_with fail; have hV := VAt.store8 HV22.out (.int .i64 0) (.bool false) (.bool false) (.string ⟨#[]⟩) (.int .i64 0) (.string ⟨#[]⟩) (.slice none 0 0) (.slice none 0 0); have HV := Hd hV; obtain ⟨v0, v1, v2, v3, v4, v5, v6, v7⟩ := HV.out.c8
       refine bodyPost_ret (v := .tuple #[.agg #[.int .i64 0, .bool false, .bool false, .string ⟨#[]⟩, .int .i64 0, .string ⟨#[]⟩, .slice none 0 0, .slice none 0 0], .int .i64 6]) (by simp [results, Tryz.results29, go_sem, v0, v1, v2, v3, v4, v5, v6, v7]) rfl ?_; rw [HR.out]; exact ⟨_, rfl, TV.leaf _ _ 0 false Num.zero [], ext_set8 HE2.out (by rw [HS.out]; omega)⟩
     | true =>
       have HST : Hid (Orange.stepT t s = some X) := Hd (by
        have h1 := HOK.out; have h2 := HX3.out; cases h : Orange.stepT t s with
        | none => rw [h] at h1; cases h1
        | some y => rw [h] at h2; exact congrArg some h2)
       by_cases hl1 : l = []
       · subst hl1; have HRL := Hd (dropT_last HKS.out HST.out); have HRR : Hid (R = (if s.named = true then t.withM (dropM s.name t.mems) else t.withL (t.list.eraseIdx s.pos.toNat), 0)) := Hd (by rw [← HR.out]; exact HRL.out); clear IH HRL; skip
         obtain ⟨cl, cm, htl, hrl, htm, hrm, hkk⟩ := tv_rows HT2.out; obtain ⟨_, a2, c2, ea, hm1, hm2, -⟩ := id hrm; simp only [Value.slice.injEq] at ea; obtain ⟨rfl, emn, rfl⟩ := ea; subst emn; obtain ⟨_, a1, c1, ea, hl1, hl2, -⟩ := id hrl; simp only [Value.slice.injEq] at ea; obtain ⟨rfl, -, rfl⟩ := ea; have HTL := Hd htl; have HRL := Hd hrl; have HTM := Hd htm; have HRM := Hd hrm; have HTK := Hd hkk
         obtain ⟨hll, hml⟩ := HLEN.out; clear htl hrl htm hrm hkk HLEN HT2; obtain ⟨L, hL⟩ := Ex t.list; obtain ⟨M, hM⟩ := Ex t.mems; rw [hL] at HTL HRL HCC hl1 hll; rw [hM] at HTM HRM HCC hm1 hml; have HL := Hd hL; have HM := Hd hM; clear hL hM; clear HTV HY HX3 HOK HBF HPOS HL2; by_cases hn : s.named = true
         · have HRN : Hid (R = (t.withM (dropM s.name M), 0)) := Hd (by rw [HRR.out, if_pos hn, HM.out]); have hst := HST.out; rw [findM_of_step hn HKS.out, HM.out] at hst; obtain ⟨i, hlt, HI⟩ : ∃ i, ∃ h : i < M.length, Hid (fIdx (hasKey s.name) M = i ∧ dropM s.name M = M.take i ++ M.drop (i + 1)) := by
            rcases find_idx s.name M with ⟨hf, hi⟩ | ⟨i, hlt, hi, hk, hf, hse, hd⟩
            · rw [hf] at hst; cases hst
            · exact ⟨i, hlt, Hd ⟨hi, by rw [hd, List.eraseIdx_eq_take_drop_succ]⟩⟩
           have HFI := Hd (first_any s.name _ M cm _ wF HRM.out HTM.out hml); rw [HI.out.1] at HFI; clear hst HRR HST HKS; obtain ⟨c0, c1, c2, c3, c4, c5, c6, c7⟩ := HCC.out.c8; obtain ⟨s0, s1, s2⟩ := HSP.out.cell; go_wp2_with fail; refine (HFI.out).mono ?_; rintro e w5 ⟨rfl, hx5⟩; clear c0 c1 c2 c3 c4 c5 c6 c7; clear HFI s0 s1 s2; replace HCC := Hd (HCC.out.ext hx5); replace HV22 := Hd (HV22.out.ext hx5)
           replace HSP := Hd (HSP.out.ext hx5); replace HE2 := Hd (ext_trans HE2.out hx5); replace HTL := Hd (HTL.out.keep (w' := w5) (A' := fun g => A g ∧ g < S) hx5.size (fun g hg hlt => ⟨hg, hx5.block g hlt⟩)); replace HRL := Hd (HRL.out.keep (w' := w5) (A' := fun g => A g ∧ g < S) hx5.size (fun g hg hlt => ⟨hg, hx5.block g hlt⟩))
           replace HTM := Hd (HTM.out.keep (w' := w5) (A' := fun g => A g ∧ g < S) hx5.size (fun g hg hlt => ⟨hg, hx5.block g hlt⟩)); replace HRM := Hd (HRM.out.keep (w' := w5) (A' := fun g => A g ∧ g < S) hx5.size (fun g hg hlt => ⟨hg, hx5.block g hlt⟩)); clear hx5; go_upto_region 16 with fail; obtain ⟨gm, om, rfl⟩ : ∃ gm om, ma = some ⟨gm, om, none⟩ := by
            obtain ⟨_, a', c', e, -, -, h3⟩ := id HRM.out; simp only [Value.slice.injEq] at e; obtain ⟨rfl, -, -⟩ := e; obtain ⟨gm, om, e, -⟩ := h3 (by omega); exact ⟨gm, om, e⟩
           obtain ⟨ms, rfl, htc⟩ := TMc.of HTM.out; have HTC := Hd htc; clear htc; have HMS : Hid (ms.length = M.length) := Hd HTC.out.1.symm; have HCUT := Hd (flat_cut HTC.out.nine (k := i) (by rw [HMS.out]; omega)); have HCUT2 := Hd (flat_cut HTC.out.nine (k := i + 1) (by rw [HMS.out]; omega)); have HTAKE := Hd (RowAt.take HRM.out (k := i) (by omega))
           have HDROP := Hd (RowAt.drop HRM.out (k := i + 1) (a' := if mc = i + 1 then some ⟨gm, om, none⟩ else some ⟨gm, om + (i + 1) * 9, none⟩) (by omega) (fun g o e hk => by
            simp only [Option.some.injEq, Addr.mk.injEq, and_true] at e; obtain ⟨rfl, rfl⟩ := e; rw [if_neg (by omega)]))
           have hlti : (i : Int) ≤ mc := by omega
           have hi0 : (0 : Int) ≤ i := by omega
           have hlt1 : (i : Int) + 1 ≤ M.length := by omega
           have hlt2 : (M.length : Int) ≤ mc := by omega
           have hlt3 : i + 1 ≤ M.length := by omega
           have hlt4 : i ≤ mc := by omega
           have em1 : IntKind.i64.wrap ((i : Int) + 1) = (i : Int) + 1 := IntWalk.i64_in _ (by omega); have em3 : ((i : Int) + 1).toNat = i + 1 := by omega
           have hP0 : S + 1 < w5.heap.size := HV22.out.lt; obtain ⟨P0, hP⟩ := Ex w5.heap.size; rw [hP] at hP0; have HP0 := Hd hP; clear hP; refine GrowS.wp_region_restTA (G := fun _ => Ext) (B := fun _ w' => Ext w5 w') (E := fun _ _ => False) (anc := fun j => if j = 5 then [0] else []) (Inv := fun _ w' => Ext w5 w')
            (I := fun j _ => if j = 0 then some (specNo 43 P0) else if j = 5 then some (specRow 43 9 i (ms.flatten.take (i * 9)) P0) else none)
            11 (fun j => ([[], [], [1], [], [1, 2, 3], [0, 1, 2, 3, 4], [], [6], [], [8], [6, 7, 8, 9], [0, 1, 2, 3, 4, 5, 6, 7, 8, 9, 10], [0, 1, 2, 3, 4, 5, 6, 7, 8, 9, 10], [0, 1, 2, 3, 4, 5, 6, 7, 8, 9, 10]] : List (List Nat)).getD j []) #[true, true, true, true, true, true, true, true, true, true, true, false, false, false] (fun _ _ _ _ _ _ _ _ _ _ => rfl) (by kernel_rfl) (by kernel_rfl) (by kernel_rfl) (GrowS.inv_const fun _ _ h hg => ext_trans h hg) ?_ ?_ ?_
           · exact fun _ _ _ _ h => h.elim
           · exact (ext_refl _).drew
           refine GrowS.Wk.out ?_; simp only [List.take_succ_cons, List.take_zero, List.drop_succ_cons, List.drop_zero]; refine GrowS.Wk.step (fun K hK => ?_); refine GrowS.step_rel (by rfl) (by rfl) (fun w' hB hF => ?_) (fun v hv => ?_)
           · replace hB : Ext w5 w' := hB; go_simp; exact GrowS.relUpon_value ((ext_refl w').alloc (Nat.le_refl _) _) ⟨_, rfl⟩ ⟨_, rfl, by rw [← HP0.out]; exact hB.size, heap_alloc_new _ _⟩
           obtain ⟨g0, rfl⟩ := hv; go_simp; refine hK _ _ ?_; clear hK K; repeat
            (refine GrowS.Wk.step (fun K hK => ?_)
             first
             | (refine GrowS.step_read (by rfl) (by rfl) (fun w => ext_refl w) ?_
                apply Exists.intro; refine ⟨fun w hB hF => ?_, ?_⟩
                · replace hB : Ext w5 w := hB; have HCW := HCC.out.ext hB; have c7 := HCW.cell 7; simp at c7; obtain ⟨s0, s1, s2⟩ := (HSP.out.ext hB).cell; go_simp; try exact rfl
                go_simp; refine hK _ _ ?_; clear hK K)
             | (refine GrowS.step_off (by rfl) ?_
                go_simp; refine hK _ _ ?_; clear hK K))
           refine GrowS.Wk.step (fun K hK => ?_); refine GrowS.step_rel (by rfl) (by rfl) (fun w' hB hF => ?_) (fun v hv => ?_)
           · replace hB : Ext w5 w' := hB; obtain ⟨g1, eg, hbg, hg1⟩ := hF 0 (by simp); simp only [Value.slice.injEq, Option.some.injEq, Addr.mk.injEq, and_true] at eg; subst eg
             exact relUpon_append0 _ _ _ _ rfl P0 43 _ _ 9 128 (by kernel_rfl) (by rfl) (by rfl) (by rfl) (by kernel_rfl) (by rfl) (by decide) g0 hg1 hbg (by rfl) (.slice (some ⟨gm, om, none⟩) i mc) i (ms.flatten.take (i * 9)) (by rfl) ((HTAKE.out.keep (w' := w') (A' := fun _ => True) hB.size (fun g _ hlt => ⟨trivial, hB.block g hlt⟩)).src (P := Tryz.prog) (tx := 25) (e' := 43) (by kernel_rfl) (by decide) (fun u hu => TM.one HTM.out u (List.mem_of_mem_take hu))) (by simp only [maxLen]; omega) (by omega) (by rw [← HP0.out]; exact hB.size)
              (fun v' w'' h1 h2 => ⟨by obtain ⟨a, c, rfl⟩ := ownsRow_shape h1; exact ⟨a, c, rfl⟩, h1⟩)
           obtain ⟨ov, oc, rfl⟩ := hv; go_simp; refine hK _ _ ?_; clear hK K; repeat
            (refine GrowS.Wk.step (fun K hK => ?_)
             first
             | (refine GrowS.step_read (by rfl) (by rfl) (fun w => ext_refl w) ?_
                apply Exists.intro; refine ⟨fun w hB hF => ?_, ?_⟩
                · replace hB : Ext w5 w := hB; have HCW := HCC.out.ext hB; have c7 := HCW.cell 7; simp at c7; obtain ⟨s0, s1, s2⟩ := (HSP.out.ext hB).cell; go_simp; try exact rfl
                go_simp; refine hK _ _ ?_; clear hK K)
             | (refine GrowS.step_off (by rfl) ?_
                go_simp; refine hK _ _ ?_; clear hK K))
           refine GrowS.Wk.nil ?_; intro w3 hB hF; replace hB : Ext w5 w3 := hB; have hown : w3.ownsRow P0 43 9 (.slice ov i oc) i (ms.flatten.take (i * 9)) := hF 5; clear hF
           have hsrc := (HDROP.out.keep (w' := w3) (A' := fun _ => True) hB.size (fun g _ hlt => ⟨trivial, hB.block g hlt⟩)).src (P := Tryz.prog) (tx := 25) (e' := 43) (by kernel_rfl) (by decide) (fun u hu => TM.one HTM.out u (List.mem_of_mem_drop hu)); show wpAny _ _ _ _ (2 + 1) _ _ _; refine wpAny_one 11 (by kernel_rfl) ?_
           refine wpOp_append rfl (by rfl) _ _ _ _ rfl P0 43 _ _ 9 128 (by kernel_rfl) (by rfl) (by rfl) (by rfl) (by kernel_rfl) (by rfl) (by decide) _ i _ (by rfl) hown _ (M.length - (i + 1)) _ (by rfl) hsrc (by simp only [maxLen]; omega) (by omega) (by rw [← HP0.out]; exact hB.size) ?_; intro v' w4 hown4 hgr hor; have hb4 : Below P0 w3 w4 := Below.ofGrown hgr hown (by rw [← HP0.out]; exact hB.size)
           have HXQ : Hid (Ext w5 w4) := Hd (by rw [← HP0.out] at hb4; exact hB.trans hb4); obtain ⟨v9, c9, rfl⟩ := ownsRow_shape hown4; have HNR := Hd (RowAt.own (A := fun g => (A g ∧ g < S) ∨ P0 ≤ g) hown4 (by decide) (fun g _ hg _ => .inr hg)); have HV4 := Hd (HCC.out.ext HXQ.out); have f7 := HV4.out.free 7; have q7 := HV4.out.cell 7; simp at q7; clear hown hown4 hgr hor hb4 hsrc hB
           refine wpAny_one 12 (by kernel_rfl) ?_; refine wpOp_now rfl (by rfl) ?_; unfold Oper.wp; go_simp; refine wpAny_one 13 (by kernel_rfl) ?_; refine wpOp_now rfl (by rfl) ?_; unfold Oper.wp; go_simp; show wpAny _ _ _ _ 0 _ _ _; refine ⟨by decide +kernel, ?_⟩
           have hkq : ∀ g, (A g ∧ g < S) → g < w5.heap.size → ((A g ∧ g < S) ∨ P0 ≤ g) ∧ w4.heap[g]? = w5.heap[g]? := fun g hg hlt => ⟨.inl hg, HXQ.out.block g hlt⟩; have HTW : Hid (TM w4 (fun g => (A g ∧ g < S) ∨ P0 ≤ g) (M.take i ++ M.drop (i + 1)) (ms.flatten.take (i * 9) ++ ms.flatten.drop ((i + 1) * 9))) := Hd (by
            rw [← HCUT.out.1, ← HCUT2.out.2, ← List.flatten_append]; exact TMc.tm (TMc.app (TMc.take (HTC.out.keep HXQ.out.size hkq) i) (TMc.drop (HTC.out.keep HXQ.out.size hkq) (i + 1))))
           have HTN : Hid (TV w4 (fun g => (A g ∧ g < S) ∨ P0 ≤ g) (t.withM (M.take i ++ M.drop (i + 1))) (cellsV k b d ss (.slice la L.length lc) (.slice v9 (i + (M.length - (i + 1))) c9))) := Hd (by
            refine tv_withM HTK.out HL.out (HTL.out.keep HXQ.out.size hkq) (HRL.out.keep HXQ.out.size hkq) HTW.out ?_; rw [List.length_append, List.length_take, List.length_drop, Nat.min_eq_left (by omega)]; exact HNR.out)
           have HVN : Hid (VAt (w4.setCell ⟨S, 7, none⟩ (.slice v9 (i + (M.length - (i + 1))) c9)) S #[.int .i64 k, .bool b, .bool d.neg, .string ⟨d.digits.toArray⟩, .int .i64 d.exp, .string ⟨ss.toArray⟩, .slice la L.length lc, .slice v9 (i + (M.length - (i + 1))) c9]) := Hd (HV4.out.set1 7 (.slice v9 (i + (M.length - (i + 1))) c9))
           have HV9 := Hd ((HV22.out.ext HXQ.out).oth (p := S) (i := 7) (u := .slice v9 (i + (M.length - (i + 1))) c9) (by omega)); have HE9 : Hid (Ext w (w4.setCell ⟨S, 7, none⟩ (.slice v9 (i + (M.length - (i + 1))) c9))) := Hd (ext_keptP (ext_trans HE2.out HXQ.out) (KeptP.set _) (by rw [HS.out]; exact Nat.le_refl _)); clear hkq q7 f7
           generalize hw5 : w4.setCell ⟨S, 7, none⟩ (.slice v9 (i + (M.length - (i + 1))) c9) = w6 at *; have HTF : Hid (TV w6 (fun g => (A g ∧ g < S) ∨ P0 ≤ g) (t.withM (M.take i ++ M.drop (i + 1))) (cellsV k b d ss (.slice la L.length lc) (.slice v9 (i + (M.length - (i + 1))) c9))) := Hd (by
            rw [← hw5]; exact HTN.out.keep (by simp [World.setCell]) (fun g hg hlt => ⟨hg, Below.heap_setCell _ _ _ _ (show g ≠ S by rcases hg with hg | hg; have := hg.2; omega; omega)⟩))
           clear hw5 HTN HTW HCUT HCUT2 HTAKE HDROP HMS HTC em1 em3; obtain ⟨c0, c1, c2, c3, c4, c5, c6, c7⟩ := HVN.out.c8; obtain ⟨y0, y1, y2, y3, y4, y5, y6, y7⟩ := HV9.out.c8; obtain ⟨z0, z1, z2, z3, z4, z5, z6, z7⟩ := HV9.out.f8; go_wp2_with fail; all_goals
            have hV := VAt.store8 HV9.out (.int .i64 k) (.bool b) (.bool d.neg) (.string ⟨d.digits.toArray⟩) (.int .i64 d.exp) (.string ⟨ss.toArray⟩) (.slice la L.length lc) (.slice v9 (i + (M.length - (i + 1))) c9); have HV := Hd hV; obtain ⟨v0, v1, v2, v3, v4, v5, v6, v7⟩ := HV.out.c8
            refine bodyPost_ret (v := .tuple #[.agg #[.int .i64 k, .bool b, .bool d.neg, .string ⟨d.digits.toArray⟩, .int .i64 d.exp, .string ⟨ss.toArray⟩, .slice la L.length lc, .slice v9 (i + (M.length - (i + 1))) c9], .int .i64 0]) (by simp [results, Tryz.results29, go_sem, v0, v1, v2, v3, v4, v5, v6, v7]) rfl ?_; rw [HRN.out, HI.out.2]
            exact ⟨_, rfl, HTF.out.keep (by simp [World.setCell]) (fun g hg hlt => ⟨by rcases hg with hg | hg; exact .inl hg.1; exact .inr (by have := HS.out; omega), heap8 (by rcases hg with hg | hg; have := hg.2; omega; omega)⟩), ext_set8 HE9.out (by rw [HS.out]; omega)⟩
         · replace hn : s.named = false := by simpa using hn
           have HRN : Hid (R = (t.withL (L.eraseIdx s.pos.toNat), 0)) := Hd (by rw [HRR.out, if_neg (by rw [hn]; decide), HL.out]); obtain ⟨i, hlt, HI⟩ : ∃ i, ∃ h : i < L.length, Hid (s.pos = (i : Nat) ∧ L.eraseIdx s.pos.toNat = L.take i ++ L.drop (i + 1)) := by
            have h1 := HST.out; unfold Orange.stepT at h1; rw [hn, if_neg (by simp), HL.out] at h1; by_cases hc : t.kind = 4 ∧ 0 ≤ s.pos ∧ s.pos < L.length
            · refine ⟨s.pos.toNat, by omega, Hd ⟨by omega, by rw [List.eraseIdx_eq_take_drop_succ]⟩⟩
            · rw [if_neg hc] at h1; cases h1
           clear HRR HST HKS; obtain ⟨s0, s1, s2⟩ := HSP.out.cell; go_upto_region 18 with fail; clear s0 s1 s2; obtain ⟨gm, om, rfl⟩ : ∃ gm om, la = some ⟨gm, om, none⟩ := by
            obtain ⟨_, a', c', e, -, -, h3⟩ := id HRL.out; simp only [Value.slice.injEq] at e; obtain ⟨rfl, -, -⟩ := e; obtain ⟨gm, om, e, -⟩ := h3 (by omega); exact ⟨gm, om, e⟩
           obtain ⟨ms, rfl, htc⟩ := TLc.of HTL.out; have HTC := Hd htc; clear htc; have HMS : Hid (ms.length = L.length) := Hd HTC.out.1.symm; have HCUT := Hd (flat_cut HTC.out.eight (k := i) (by rw [HMS.out]; omega)); have HCUT2 := Hd (flat_cut HTC.out.eight (k := i + 1) (by rw [HMS.out]; omega)); have HTAKE := Hd (RowAt.take HRL.out (k := i) (by omega))
           have HDROP := Hd (RowAt.drop HRL.out (k := i + 1) (a' := if lc = i + 1 then some ⟨gm, om, none⟩ else some ⟨gm, om + (i + 1) * 8, none⟩) (by omega) (fun g o e hk => by
            simp only [Option.some.injEq, Addr.mk.injEq, and_true] at e; obtain ⟨rfl, rfl⟩ := e; rw [if_neg (by omega)]))
           have hlti : (i : Int) ≤ lc := by omega
           have hi0 : (0 : Int) ≤ i := by omega
           have hlt1 : (i : Int) + 1 ≤ L.length := by omega
           have hlt2 : (L.length : Int) ≤ lc := by omega
           have hlt3 : i + 1 ≤ L.length := by omega
           have hlt4 : i ≤ lc := by omega
           have em1 : IntKind.i64.wrap ((i : Int) + 1) = (i : Int) + 1 := IntWalk.i64_in _ (by omega); have em3 : ((i : Int) + 1).toNat = i + 1 := by omega
           have hP0 : S + 1 < wF.heap.size := HV22.out.lt; obtain ⟨P0, hP⟩ := Ex wF.heap.size; rw [hP] at hP0; have HP0 := Hd hP; clear hP; refine GrowS.wp_region_restTA (G := fun _ => Ext) (B := fun _ w' => Ext wF w') (E := fun _ _ => False) (anc := fun j => if j = 6 then [0] else []) (Inv := fun _ w' => Ext wF w')
            (I := fun j _ => if j = 0 then some (specNo 27 P0) else if j = 6 then some (specRow 27 8 i (ms.flatten.take (i * 8)) P0) else none)
            13 (fun j => ([[], [], [1], [], [3], [1, 2, 3, 4], [0, 1, 2, 3, 4, 5], [], [7], [], [9], [9, 10], [7, 8, 9, 10, 11], [0, 1, 2, 3, 4, 5, 6, 7, 8, 9, 10, 11, 12], [0, 1, 2, 3, 4, 5, 6, 7, 8, 9, 10, 11, 12], [0, 1, 2, 3, 4, 5, 6, 7, 8, 9, 10, 11, 12]] : List (List Nat)).getD j []) #[true, true, true, true, true, true, true, true, true, true, true, true, true, false, false, false] (fun _ _ _ _ _ _ _ _ _ _ => rfl) (by kernel_rfl) (by kernel_rfl) (by kernel_rfl) (GrowS.inv_const fun _ _ h hg => ext_trans h hg) ?_ ?_ ?_
           · exact fun _ _ _ _ h => h.elim
           · exact (ext_refl _).drew
           refine GrowS.Wk.out ?_; simp only [List.take_succ_cons, List.take_zero, List.drop_succ_cons, List.drop_zero]; refine GrowS.Wk.step (fun K hK => ?_); refine GrowS.step_rel (by rfl) (by rfl) (fun w' hB hF => ?_) (fun v hv => ?_)
           · replace hB : Ext wF w' := hB; go_simp; exact GrowS.relUpon_value ((ext_refl w').alloc (Nat.le_refl _) _) ⟨_, rfl⟩ ⟨_, rfl, by rw [← HP0.out]; exact hB.size, heap_alloc_new _ _⟩
           obtain ⟨g0, rfl⟩ := hv; go_simp; refine hK _ _ ?_; clear hK K; repeat
            (refine GrowS.Wk.step (fun K hK => ?_)
             first
             | (refine GrowS.step_read (by rfl) (by rfl) (fun w => ext_refl w) ?_
                apply Exists.intro; refine ⟨fun w hB hF => ?_, ?_⟩
                · replace hB : Ext wF w := hB; have HCW := HCC.out.ext hB; have c7 := HCW.cell 6; simp at c7; obtain ⟨s0, s1, s2⟩ := (HSP.out.ext hB).cell; rw [HI.out.1] at s1; go_simp; try exact rfl
                go_simp; refine hK _ _ ?_; clear hK K)
             | (refine GrowS.step_off (by rfl) ?_
                go_simp; refine hK _ _ ?_; clear hK K))
           refine GrowS.Wk.step (fun K hK => ?_); refine GrowS.step_rel (by rfl) (by rfl) (fun w' hB hF => ?_) (fun v hv => ?_)
           · replace hB : Ext wF w' := hB; obtain ⟨g1, eg, hbg, hg1⟩ := hF 0 (by simp); simp only [Value.slice.injEq, Option.some.injEq, Addr.mk.injEq, and_true] at eg; subst eg
             exact relUpon_append0 _ _ _ _ rfl P0 27 _ _ 8 112 (by kernel_rfl) (by rfl) (by rfl) (by rfl) (by kernel_rfl) (by rfl) (by decide) g0 hg1 hbg (by rfl) (.slice (some ⟨gm, om, none⟩) i lc) i (ms.flatten.take (i * 8)) (by rfl) ((HTAKE.out.keep (w' := w') (A' := fun _ => True) hB.size (fun g _ hlt => ⟨trivial, hB.block g hlt⟩)).src (P := Tryz.prog) (tx := 24) (e' := 27) (by kernel_rfl) (by decide) (fun u hu => TL.one HTL.out u (List.mem_of_mem_take hu))) (by simp only [maxLen]; omega) (by omega) (by rw [← HP0.out]; exact hB.size)
              (fun v' w'' h1 h2 => ⟨by obtain ⟨a, c, rfl⟩ := ownsRow_shape h1; exact ⟨a, c, rfl⟩, h1⟩)
           obtain ⟨ov, oc, rfl⟩ := hv; go_simp; refine hK _ _ ?_; clear hK K; repeat
            (refine GrowS.Wk.step (fun K hK => ?_)
             first
             | (refine GrowS.step_read (by rfl) (by rfl) (fun w => ext_refl w) ?_
                apply Exists.intro; refine ⟨fun w hB hF => ?_, ?_⟩
                · replace hB : Ext wF w := hB; have HCW := HCC.out.ext hB; have c7 := HCW.cell 6; simp at c7; obtain ⟨s0, s1, s2⟩ := (HSP.out.ext hB).cell; rw [HI.out.1] at s1; go_simp; try exact rfl
                go_simp; refine hK _ _ ?_; clear hK K)
             | (refine GrowS.step_off (by rfl) ?_
                go_simp; refine hK _ _ ?_; clear hK K))
           refine GrowS.Wk.nil ?_; intro w3 hB hF; replace hB : Ext wF w3 := hB; have hown : w3.ownsRow P0 27 8 (.slice ov i oc) i (ms.flatten.take (i * 8)) := hF 6; clear hF
           have hsrc := (HDROP.out.keep (w' := w3) (A' := fun _ => True) hB.size (fun g _ hlt => ⟨trivial, hB.block g hlt⟩)).src (P := Tryz.prog) (tx := 24) (e' := 27) (by kernel_rfl) (by decide) (fun u hu => TL.one HTL.out u (List.mem_of_mem_drop hu)); show wpAny _ _ _ _ (2 + 1) _ _ _; refine wpAny_one 13 (by kernel_rfl) ?_
           refine wpOp_append rfl (by rfl) _ _ _ _ rfl P0 27 _ _ 8 112 (by kernel_rfl) (by rfl) (by rfl) (by rfl) (by kernel_rfl) (by rfl) (by decide) _ i _ (by rfl) hown _ (L.length - (i + 1)) _ (by rfl) hsrc (by simp only [maxLen]; omega) (by omega) (by rw [← HP0.out]; exact hB.size) ?_; intro v' w4 hown4 hgr hor; have hb4 : Below P0 w3 w4 := Below.ofGrown hgr hown (by rw [← HP0.out]; exact hB.size)
           have HXQ : Hid (Ext wF w4) := Hd (by rw [← HP0.out] at hb4; exact hB.trans hb4); obtain ⟨v9, c9, rfl⟩ := ownsRow_shape hown4; have HNR := Hd (RowAt.own (A := fun g => (A g ∧ g < S) ∨ P0 ≤ g) hown4 (by decide) (fun g _ hg _ => .inr hg)); have HV4 := Hd (HCC.out.ext HXQ.out); have f7 := HV4.out.free 6; have q7 := HV4.out.cell 6; simp at q7; clear hown hown4 hgr hor hb4 hsrc hB
           refine wpAny_one 14 (by kernel_rfl) ?_; refine wpOp_now rfl (by rfl) ?_; unfold Oper.wp; go_simp; refine wpAny_one 15 (by kernel_rfl) ?_; refine wpOp_now rfl (by rfl) ?_; unfold Oper.wp; go_simp; show wpAny _ _ _ _ 0 _ _ _; refine ⟨by decide +kernel, ?_⟩
           have hkq : ∀ g, (A g ∧ g < S) → g < wF.heap.size → ((A g ∧ g < S) ∨ P0 ≤ g) ∧ w4.heap[g]? = wF.heap[g]? := fun g hg hlt => ⟨.inl hg, HXQ.out.block g hlt⟩; have HTW : Hid (TL w4 (fun g => (A g ∧ g < S) ∨ P0 ≤ g) (L.take i ++ L.drop (i + 1)) (ms.flatten.take (i * 8) ++ ms.flatten.drop ((i + 1) * 8))) := Hd (by
            rw [← HCUT.out.1, ← HCUT2.out.2, ← List.flatten_append]; exact TLc.tl (TLc.app (TLc.take (HTC.out.keep HXQ.out.size hkq) i) (TLc.drop (HTC.out.keep HXQ.out.size hkq) (i + 1))))
           have HTN : Hid (TV w4 (fun g => (A g ∧ g < S) ∨ P0 ≤ g) (t.withL (L.take i ++ L.drop (i + 1))) (cellsV k b d ss (.slice v9 (i + (L.length - (i + 1))) c9) (.slice ma M.length mc))) := Hd (by
            refine tv_withL HTK.out HM.out HTW.out ?_ (HTM.out.keep HXQ.out.size hkq) (HRM.out.keep HXQ.out.size hkq); rw [List.length_append, List.length_take, List.length_drop, Nat.min_eq_left (by omega)]; exact HNR.out)
           have HVN : Hid (VAt (w4.setCell ⟨S, 6, none⟩ (.slice v9 (i + (L.length - (i + 1))) c9)) S #[.int .i64 k, .bool b, .bool d.neg, .string ⟨d.digits.toArray⟩, .int .i64 d.exp, .string ⟨ss.toArray⟩, .slice v9 (i + (L.length - (i + 1))) c9, .slice ma M.length mc]) := Hd (HV4.out.set1 6 (.slice v9 (i + (L.length - (i + 1))) c9))
           have HV9 := Hd ((HV22.out.ext HXQ.out).oth (p := S) (i := 6) (u := .slice v9 (i + (L.length - (i + 1))) c9) (by omega)); have HE9 : Hid (Ext w (w4.setCell ⟨S, 6, none⟩ (.slice v9 (i + (L.length - (i + 1))) c9))) := Hd (ext_keptP (ext_trans HE2.out HXQ.out) (KeptP.set _) (by rw [HS.out]; exact Nat.le_refl _)); clear hkq q7 f7
           generalize hw5 : w4.setCell ⟨S, 6, none⟩ (.slice v9 (i + (L.length - (i + 1))) c9) = w6 at *; have HTF : Hid (TV w6 (fun g => (A g ∧ g < S) ∨ P0 ≤ g) (t.withL (L.take i ++ L.drop (i + 1))) (cellsV k b d ss (.slice v9 (i + (L.length - (i + 1))) c9) (.slice ma M.length mc))) := Hd (by
            rw [← hw5]; exact HTN.out.keep (by simp [World.setCell]) (fun g hg hlt => ⟨hg, Below.heap_setCell _ _ _ _ (show g ≠ S by rcases hg with hg | hg; have := hg.2; omega; omega)⟩))
           clear hw5 HTN HTW HCUT HCUT2 HTAKE HDROP HMS HTC em1 em3; obtain ⟨c0, c1, c2, c3, c4, c5, c6, c7⟩ := HVN.out.c8; obtain ⟨y0, y1, y2, y3, y4, y5, y6, y7⟩ := HV9.out.c8; obtain ⟨z0, z1, z2, z3, z4, z5, z6, z7⟩ := HV9.out.f8; go_wp2_with fail; all_goals
            have hV := VAt.store8 HV9.out (.int .i64 k) (.bool b) (.bool d.neg) (.string ⟨d.digits.toArray⟩) (.int .i64 d.exp) (.string ⟨ss.toArray⟩) (.slice v9 (i + (L.length - (i + 1))) c9) (.slice ma M.length mc); have HV := Hd hV; obtain ⟨v0, v1, v2, v3, v4, v5, v6, v7⟩ := HV.out.c8
            refine bodyPost_ret (v := .tuple #[.agg #[.int .i64 k, .bool b, .bool d.neg, .string ⟨d.digits.toArray⟩, .int .i64 d.exp, .string ⟨ss.toArray⟩, .slice v9 (i + (L.length - (i + 1))) c9, .slice ma M.length mc], .int .i64 0]) (by simp [results, Tryz.results29, go_sem, v0, v1, v2, v3, v4, v5, v6, v7]) rfl ?_; rw [HRN.out, HI.out.2]
            exact ⟨_, rfl, HTF.out.keep (by simp [World.setCell]) (fun g hg hlt => ⟨by rcases hg with hg | hg; exact .inl hg.1; exact .inr (by have := HS.out; omega), heap8 (by rcases hg with hg | hg; have := hg.2; omega; omega)⟩), ext_set8 HE9.out (by rw [HS.out]; omega)⟩
       · have hll : 0 < l.length := List.length_pos_iff.2 hl1; have hlg : (1 : Int) < (l.length : Int) + 1 := by omega
         have hre := dropT_deep HKS.out HST.out hl1; obtain ⟨Z, hZ⟩ := Ex ((dropT X l).1); obtain ⟨ER, hER⟩ := Ex ((dropT X l).2); rw [hZ, hER] at hre; have HRE : Hid (R = if ER ≠ 0 then (tNull, ER) else (layRT t s Z, 0)) := Hd (by rw [← HR.out]; exact hre)
         have HLY : Hid ((Orange.stepT t s).isSome = true ∨ (s.named = true ∧ findM s.name t.mems = none) ∨ (s.named = false ∧ s.pos = t.list.length)) := Hd (.inl (by rw [HST.out]; rfl)); have HZ := Hd hZ; have HER := Hd hER; clear hre hZ hER hl1 hll; go_upto_region 10 with fail; obtain ⟨W9, hW9⟩ : ∃ W, wF.heap.size = W := ⟨_, rfl⟩
         have hQW : Q < W9 := by rw [← hW9]; exact HY.out.lt
         have HW9 := Hd hW9; clear hW9; have hwX : Hid (weightT X ≤ 1000000) := Hd (by
          have h1 := HWT.out; rw [← HX3.out]; cases h : Orange.stepT t s with
          | none => show weightT tNull ≤ _; decide
          | some y => exact Nat.le_trans (step_weight h) h1)
         go_cut [9, 10] (fun p4 v5 wx => ∃ (q : Nat) (cz : Array Value), p4 = .pointer (some ⟨q, 0, none⟩) ∧ v5 = .int .i64 ER ∧ Ext wF wx ∧ Hid (VAt wx q cz) ∧ Hid (TV wx (fun g => (A g ∧ g < S) ∨ W9 ≤ g) Z cz) ∧ W9 ≤ q)
         case first =>
          have HC : Hid (∀ v', (∀ w', Ext wF w' → PlAt w' (fun g => A g ∧ g < S) v' l) → ∀ w', Ext wF w' → Calls Tryz.prog 29 #[.agg #[.int .i64 yk, .bool yb, .bool yd.neg, .string ⟨yd.digits.toArray⟩, .int .i64 yd.exp, .string ⟨ys.toArray⟩, .slice ya1 yn1 yc1, .slice ya2 yn2 yc2], v'] w' (fun e w'' => ∃ (zk : Int) (zb : Bool) (zd : Num) (zs : List UInt8) (za1 : Option Addr) (zn1 zc1 : Nat) (za2 : Option Addr) (zn2 zc2 : Nat), e = .returned (.tuple #[.agg #[.int .i64 zk, .bool zb, .bool zd.neg, .string ⟨zd.digits.toArray⟩, .int .i64 zd.exp, .string ⟨zs.toArray⟩, .slice za1 zn1 zc1, .slice za2 zn2 zc2], .int .i64 ER]) ∧ TV w'' (fun g => (A g ∧ g < S) ∨ w'.heap.size ≤ g) Z (cellsV zk zb zd zs (.slice za1 zn1 zc1) (.slice za2 zn2 zc2)) ∧ Ext w' w'')) := Hd (fun v' hv w' hw => by
           have h1 := IH.out s l rfl X _ (fun g => A g ∧ g < S) v' w' (HTV.out.keep hw.size (fun g hg hlt => ⟨hg, hw.block g hlt⟩)) (hv w' hw) hwX.out; rw [HZ.out, HER.out] at h1; refine h1.mono ?_; rintro e w'' ⟨c', rfl, htz, hx⟩; obtain ⟨zk, zb, zd, zs, za1, zn1, zc1, za2, zn2, zc2, rfl⟩ := htz.eight; exact ⟨zk, zb, zd, zs, za1, zn1, zc1, za2, zn2, zc2, rfl, htz, hx⟩)
          obtain ⟨VT, hVT, HCV⟩ : ∃ VT, VT = (if vc = 1 then .slice (some ⟨g, o, none⟩) l.length 0 else .slice (some ⟨g, o + 3, none⟩) l.length (vc - 1) : Value) ∧ Hid (∀ w', Ext wF w' → PlAt w' (fun g => A g ∧ g < S) VT l) := by
           refine ⟨_, rfl, Hd (fun w' hw => ?_)⟩; have h1 := HL2.out.keep (w' := w') (A' := fun g => A g ∧ g < S) hw.size (fun g hg hlt => ⟨hg, hw.block g hlt⟩); by_cases hvc : vc = 1
           · rw [if_pos hvc]; subst hvc; obtain ⟨h2, h3⟩ := pl_none h1 (some ⟨g, o, none⟩); subst h2; exact h3
           · rw [if_neg hvc]; exact pl_tail h1
          have HCC2 := Hd (HC.out VT HCV.out); clear HC HCV; have hN : VAt ((wF.alloc (.cells zeroV 27)).drew) wF.heap.size zeroV := (VAt.new wF zeroV).ext (ext_refl _).drew; have HN := Hd hN; clear hN; have hs1 : (1 : Int) ≤ (l.length : Int) + 1 := by omega
          have hql : Q < wF.heap.size := HY.out.lt; obtain ⟨y0, y1, y2, y3, y4, y5, y6, y7⟩ := HY.out.c8; by_cases hvc : vc = 1
          · subst hvc; rw [if_pos rfl] at hVT; subst hVT
            go_region_with (go_at_call 29; go_loud (refine (HCC2.out _ (by first | exact (ext_refl _).drew | exact ((ext_refl _).drew.alloc (by simp) _) | exact ((ext_refl _).alloc (Nat.le_refl _) _).drew)).mono ?_; rintro e w' ⟨zk, zb, zd, zs, za1, zn1, zc1, za2, zn2, zc2, rfl, htz, hx⟩; have HTZ := Hd htz; clear htz; try (have hz := VAt.ext HN.out hx; simp only [zeroV, noL, Num.zero] at hz; obtain ⟨z0, z1, z2, z3, z4, z5, z6, z7⟩ := hz.c8; have y := hz.free)))
            all_goals go_wp2_with fail
            all_goals go_meet
            all_goals have hsx := hx.size
            all_goals first
             | exact ⟨_, _, rfl, rfl, (ext_trans (ext_refl wF).drew hx).alloc (by simp at hsx; omega) _, Hd (VAt.new _ _), Hd (HTZ.out.keep (by simp) (fun g hg hlt => ⟨by rcases hg with hg | hg; exact .inl hg; exact .inr (by have := HW9.out; simp at hg; omega), heap_alloc_old _ _ hlt⟩)), by have := HW9.out; simp at hsx; omega⟩
             | exact ⟨_, _, rfl, rfl, ext_set8 (ext_trans ((ext_refl wF).alloc (Nat.le_refl _) _).drew hx) (Nat.le_refl _), Hd (by have h5 := VAt.store8 hz (.int .i64 zk) (.bool zb) (.bool zd.neg) (.string ⟨zd.digits.toArray⟩) (.int .i64 zd.exp) (.string ⟨zs.toArray⟩) (.slice za1 zn1 zc1) (.slice za2 zn2 zc2); exact h5), Hd (HTZ.out.keep (by simp [World.setCell]) (fun g hg hlt => ⟨by rcases hg with hg | hg; exact .inl hg; exact .inr (by have := HW9.out; simp at hg; omega), heap8 (by have := HW9.out; rcases hg with hg | hg; have := hg.2; omega; simp at hg; omega)⟩)), by have := HW9.out; omega⟩
          · rw [if_neg hvc] at hVT; subst hVT
            go_region_with (go_at_call 29; go_loud (refine (HCC2.out _ (by first | exact (ext_refl _).drew | exact ((ext_refl _).drew.alloc (by simp) _) | exact ((ext_refl _).alloc (Nat.le_refl _) _).drew)).mono ?_; rintro e w' ⟨zk, zb, zd, zs, za1, zn1, zc1, za2, zn2, zc2, rfl, htz, hx⟩; have HTZ := Hd htz; clear htz; try (have hz := VAt.ext HN.out hx; simp only [zeroV, noL, Num.zero] at hz; obtain ⟨z0, z1, z2, z3, z4, z5, z6, z7⟩ := hz.c8; have y := hz.free)))
            all_goals go_wp2_with fail
            all_goals go_meet
            all_goals have hsx := hx.size
            all_goals first
             | exact ⟨_, _, rfl, rfl, (ext_trans (ext_refl wF).drew hx).alloc (by simp at hsx; omega) _, Hd (VAt.new _ _), Hd (HTZ.out.keep (by simp) (fun g hg hlt => ⟨by rcases hg with hg | hg; exact .inl hg; exact .inr (by have := HW9.out; simp at hg; omega), heap_alloc_old _ _ hlt⟩)), by have := HW9.out; simp at hsx; omega⟩
             | exact ⟨_, _, rfl, rfl, ext_set8 (ext_trans ((ext_refl wF).alloc (Nat.le_refl _) _).drew hx) (Nat.le_refl _), Hd (by have h5 := VAt.store8 hz (.int .i64 zk) (.bool zb) (.bool zd.neg) (.string ⟨zd.digits.toArray⟩) (.int .i64 zd.exp) (.string ⟨zs.toArray⟩) (.slice za1 zn1 zc1) (.slice za2 zn2 zc2); exact h5), Hd (HTZ.out.keep (by simp [World.setCell]) (fun g hg hlt => ⟨by rcases hg with hg | hg; exact .inl hg; exact .inr (by have := HW9.out; simp at hg; omega), heap8 (by have := HW9.out; rcases hg with hg | hg; have := hg.2; omega; simp at hg; omega)⟩)), by have := HW9.out; omega⟩
         case rest =>
          obtain ⟨q, cz, rfl, rfl, hxq, HVQ, HTQ, hqW⟩ := hcut; obtain ⟨zk, zb, zd, zs, za1, zn1, zc1, za2, zn2, zc2, rfl⟩ := HTQ.out.eight; replace HCC := Hd (HCC.out.ext hxq); replace HV22 := Hd (HV22.out.ext hxq); replace HSP := Hd (HSP.out.ext hxq); replace HE2 := Hd (ext_trans HE2.out hxq)
          replace HT2 := Hd (HT2.out.keep (w' := wc) (A' := fun g => A g ∧ g < S) hxq.size (fun g hg hlt => ⟨hg, hxq.block g hlt⟩)); replace HL2 := Hd (HL2.out.keep (w' := wc) (A' := fun g => A g ∧ g < S) hxq.size (fun g hg hlt => ⟨hg, hxq.block g hlt⟩)); clear hxq HTV HY IH hwX; by_cases hz : ER = 0
          · subst hz; replace HRE : Hid (R = (layRT t s Z, 0)) := Hd (by rw [HRE.out, if_neg (by simp)]); have HLAY := Hd (rlay_any t Z _ _ (fun g => (A g ∧ g < S) ∨ W9 ≤ g) s wc (HT2.out.keep (Nat.le_refl _) (fun g hg _ => ⟨.inl hg, rfl⟩)) HTQ.out HLY.out HLEN.out.1 HLEN.out.2); obtain ⟨c0, c1, c2, c3, c4, c5, c6, c7⟩ := HCC.out.c8; obtain ⟨s0, s1, s2⟩ := HSP.out.cell
            obtain ⟨x0, x1, x2, x3, x4, x5, x6, x7⟩ := HVQ.out.c8; go_wp2_with fail; refine (HLAY.out).mono ?_; rintro e w5 ⟨c', rfl, htv, hx5⟩; obtain ⟨uk, ub, ud, us, ua1, un1, uc1, ua2, un2, uc2, rfl⟩ := htv.eight; have HT5 := Hd htv; have HV5 := Hd (HV22.out.ext hx5); have HP5 := Hd HV22.out.lt; replace HE2 := Hd (ext_trans HE2.out hx5); clear htv hx5 HLAY s0 s1 s2
            clear c0 c1 c2 c3 c4 c5 c6 c7 x0 x1 x2 x3 x4 x5 x6 x7; obtain ⟨y0, y1, y2, y3, y4, y5, y6, y7⟩ := HV5.out.c8; obtain ⟨z0, z1, z2, z3, z4, z5, z6, z7⟩ := HV5.out.f8; go_wp2_with fail; have hV := VAt.store8 HV5.out (.int .i64 uk) (.bool ub) (.bool ud.neg) (.string ⟨ud.digits.toArray⟩) (.int .i64 ud.exp) (.string ⟨us.toArray⟩) (.slice ua1 un1 uc1) (.slice ua2 un2 uc2); have HV := Hd hV
            obtain ⟨v0, v1, v2, v3, v4, v5, v6, v7⟩ := HV.out.c8; refine bodyPost_ret (v := .tuple #[.agg #[.int .i64 uk, .bool ub, .bool ud.neg, .string ⟨ud.digits.toArray⟩, .int .i64 ud.exp, .string ⟨us.toArray⟩, .slice ua1 un1 uc1, .slice ua2 un2 uc2], .int .i64 0]) (by simp [results, Tryz.results29, go_sem, v0, v1, v2, v3, v4, v5, v6, v7]) rfl ?_; rw [HRE.out]
            exact ⟨_, rfl, HT5.out.keep (by simp [World.setCell]) (fun g hg hlt => ⟨by have := HP5.out; have := HS.out; rcases hg with (hg | hg) | hg; exact .inl hg.1; exact .inr (by omega); exact .inr (by omega), heap8 (by have := HP5.out; rcases hg with (hg | hg) | hg; have := hg.2; omega; omega; omega)⟩), ext_set8 HE2.out (by rw [HS.out]; omega)⟩
          · replace HRE : Hid (R = (tNull, ER)) := Hd (by rw [HRE.out, if_pos hz]); have hzb : (ER != 0) = true := by simpa using hz
            clear hz; obtain ⟨y0, y1, y2, y3, y4, y5, y6, y7⟩ := HV22.out.c8; obtain ⟨z0, z1, z2, z3, z4, z5, z6, z7⟩ := HV22.out.f8; go_wp2_with fail; have hV := VAt.store8 HV22.out (.int .i64 0) (.bool false) (.bool false) (.string ⟨#[]⟩) (.int .i64 0) (.string ⟨#[]⟩) (.slice none 0 0) (.slice none 0 0); have HV := Hd hV; obtain ⟨v0, v1, v2, v3, v4, v5, v6, v7⟩ := HV.out.c8
            refine bodyPost_ret (v := .tuple #[.agg #[.int .i64 0, .bool false, .bool false, .string ⟨#[]⟩, .int .i64 0, .string ⟨#[]⟩, .slice none 0 0, .slice none 0 0], .int .i64 ER]) (by simp [results, Tryz.results29, go_sem, v0, v1, v2, v3, v4, v5, v6, v7]) rfl ?_; rw [HRE.out]; exact ⟨_, rfl, TV.leaf _ _ 0 false Num.zero [], ext_set8 HE2.out (by rw [HS.out]; omega)⟩
theorem rdrop_any : ∀ (l : List PStep) (t : Tree) (c : Array Value) (A : Nat → Prop) (v : Value) (w : World), TV w A t c → PlAt w A v l → weightT t ≤ 1000000 →
 Calls Tryz.prog 29 #[.agg c, v] w (fun e w' => ∃ c', e = .returned (.tuple #[.agg c', .int .i64 (dropT t l).2]) ∧ TV w' (fun g => A g ∨ w.heap.size ≤ g) (dropT t l).1 c' ∧ Ext w w') := by
 intro l; induction l with
 | nil => intro t c A v w h1 h2 h4; exact rdrop_step t c A v [] w h1 h2 h4 (fun s l' e => by cases e)
 | cons s l ih =>
   intro t c A v w h1 h2 h4; refine rdrop_step t c A v (s :: l) w h1 h2 h4 (fun s' l' e => ?_); obtain ⟨rfl, rfl⟩ := List.cons.inj e; exact ih
end Go.Proofs.YtjapbjmeoaagmaaGreatDoor
end

section
set_option maxRecDepth 100000
namespace Go.Proofs.YtjapbjmeoaagmaaGreatDoor
open Go.RowKit Go.Mem
theorem tab_of {W : World} (h : laidMetH Tryz.prog Rows.printBackRow.laid W) : Tab W := by
 rw [MakeChecks.laidMetH_plain _ _ _ (by kernel_rfl)] at h
 have h' : laidMet Tryz.prog (("math/bits.deBruijn32tab", Rows.laid_math_bits_deBruijn32tab) :: ("math/bits.deBruijn64tab", Rows.laid_math_bits_deBruijn64tab) :: ("internal/strconv.uint64pow10", Lib.tabData .u64 Lib.pow10Tab) :: [("unicode/utf8.acceptRanges", Rows.laid_unicode_utf8_acceptRanges), ("unicode/utf8.first", Rows.laid_unicode_utf8_first)]) W := h
 exact Lib.tabIs_of_head (g := 0) (t := 219) (n := 20) (by kernel_rfl) (by kernel_rfl) (by kernel_rfl) Tryz.underlying178 (by kernel_rfl) (by kernel_rfl) (laidMet.tail (laidMet.tail h'))
end Go.Proofs.YtjapbjmeoaagmaaGreatDoor
end

section
set_option maxRecDepth 100000
namespace Go
theorem grown_add (P : Program) : ∀ (n m : Nat) (s : List TypeId), P.grown (n + m) s = P.grown m (P.grown n s)
 | 0, m, s => by rw [Nat.zero_add]; rfl
 | n + 1, m, s => by
   rw [show n + 1 + m = (n + m) + 1 by omega]; show P.grown (n + m) (P.grow s) = P.grown m (P.grown n (P.grow s)); exact grown_add P n m _
theorem grown_fix (P : Program) {s : List TypeId} (h : P.grow s = s) : ∀ m, P.grown m s = s
 | 0 => rfl
 | m + 1 => by
   show P.grown m (P.grow s) = s; rw [h]; exact grown_fix P h m
theorem book_of {P : Program} {t : TypeId} {L : List TypeId} (n : Nat) (h1 : P.grown n [t] = L) (h2 : P.grow L = L) (hn : n ≤ P.types.size) : P.book t = L := by
 unfold Program.book; obtain ⟨m, hm⟩ : ∃ m, P.types.size = n + m := ⟨P.types.size - n, by omega⟩
 rw [hm, grown_add, h1, grown_fix P h2]
theorem joined_of {P : Program} {f : FuncId} {fn : Func} {s : ChangeSpec} {c : OpenClaim}
 (k1 : (c.wf (OpenSpec.ofChange s) && laidOutB P && mapsRowed P) = true) (k4 : fn.params.all (P.readableRec ·) = true)
 (k5 : (namedTie P c.named s.vars && (c.stops == []) && (P.stops == []) && (c.knobs == []) && (P.stopKnobs == []) && (c.inPlace == P.inPlace f) && (c.unfollowed == P.unfollowed f) && (c.recurses == P.recurses f) && (c.named == P.varsNamed f)) = true)
 (k6 : (c.maps == (fn.params.toList ++ s.plain.varTypes P).any (P.mapsRec ·)) = true) (k7 : (c.ifaces == (fn.params.toList ++ s.plain.varTypes P).any (P.ifacesRec ·)) = true) (k8 : (c.mapsOut == P.mapsAmong fn.resultTypes.toList) = true)
 (k9 : (c.loops == (fn.params.toList ++ s.plain.varTypes P).any (P.loopsFrom ·)) = true) (k10 : (c.wideKeys == (fn.params.toList ++ s.plain.varTypes P ++ fn.resultTypes.toList).any (P.wideKeysFrom ·)) = true)
 (k11 : (s.vars.all (P.varReadable ·) && fn.resultTypes.all (fun t => P.readableRec t && decide (t < P.types.size)) && (c.ifacesOut == fn.resultTypes.toList.any (P.ifacesRec ·)) && (c.loopsOut == fn.resultTypes.toList.any (P.loopsFrom ·)) && (c.plainKeys == P.plainKeys) && c.shortTexts.isNone && P.stopsHeard && P.mayEnter && (c.lifted == P.liftsFinal) && (P.make == some c.make) && (c.kinds == (if c.domain.isEmpty then [] else fn.params.toList.map fun t => match P.underlying t with | some (.int k) => some k | _ => none)) && (c.pinned == c.pinnedBy)) = true)
 (k12 : (c.veiled == (fn.params.toList ++ s.plain.varTypes P ++ fn.resultTypes.toList).any (P.veiledRec ·)) = true) (k13 : c.veiledFits P fn.params.toList (fn.params.toList ++ s.plain.varTypes P ++ fn.resultTypes.toList) = true) : joinedFacts P f fn s c = true := by
 simp only [Bool.and_eq_true] at k1 k5 k11; simp only [joinedFacts, Bool.and_eq_true]; obtain ⟨⟨a1, a2⟩, a3⟩ := k1; obtain ⟨⟨⟨⟨⟨⟨⟨⟨b1, b2⟩, b3⟩, b4⟩, b5⟩, b6⟩, b7⟩, b8⟩, b9⟩ := k5; obtain ⟨⟨⟨⟨⟨⟨⟨⟨⟨⟨⟨c1, c2⟩, c3⟩, c4⟩, c5⟩, c6⟩, c7⟩, c8⟩, c9⟩, c10⟩, c11⟩, c12⟩ := k11; refine ⟨⟨?_, k12⟩, k13⟩
 simp only [a1, a2, a3, k4, b1, b2, b3, b4, b5, b6, b7, b8, b9, k6, k7, k8, k9, k10, c1, c2, c3, c4, c5, c6, c7, c8, c9, c10, c12, and_self]; exact ⟨⟨trivial, c11⟩, trivial⟩
theorem veiledFits_of {P : Program} {c : OpenClaim} {ps ts : List TypeId} (hs : c.start = .entering) (h1 : ts.all (P.veiledOwn ·) = true) (h2 : (c.laid.filterMap fun x => (P.globalNamed x.1).bind fun g => (P.globals[g]?).map (·.type)).all (P.veiledOwn ·) = true) : c.veiledFits P ps ts = true := by
 unfold OpenClaim.veiledFits; rw [hs]; simp only [List.all_append, h1, h2, Bool.and_self, Bool.true_or, Bool.and_true]
end Go
namespace Go.Proofs.YtjapbjmeoaagmaaGreatDoor
open Go
theorem bookV : Tryz.prog.book 27 = [27, 3, 4, 23, 9, 24, 25, 43] := book_of 2 (by kernel_rfl) (by kernel_rfl) (by decide +kernel)
theorem bookL : Tryz.prog.book 24 = [24, 27, 3, 4, 23, 9, 25, 43] := book_of 3 (by kernel_rfl) (by kernel_rfl) (by decide +kernel)
theorem readV : Tryz.prog.readableRec 27 = true := by unfold Program.readableRec; rw [bookV]; kernel_rfl
theorem mapsV : Tryz.prog.mapsRec 27 = false := by unfold Program.mapsRec; rw [bookV]; kernel_rfl
theorem ifacesV : Tryz.prog.ifacesRec 27 = false := by unfold Program.ifacesRec; rw [bookV]; kernel_rfl
theorem wideV : Tryz.prog.wideKeysFrom 27 = false := by unfold Program.wideKeysFrom; rw [bookV]; kernel_rfl
theorem veiledV : Tryz.prog.veiledRec 27 = false := by unfold Program.veiledRec; rw [bookV]; kernel_rfl
theorem ownV : Tryz.prog.veiledOwn 27 = true := by unfold Program.veiledOwn; rw [veiledV]; rfl
theorem loopsV : Tryz.prog.loopsFrom 27 = true := by
 unfold Program.loopsFrom; rw [bookV]; refine List.any_eq_true.2 ⟨27, List.mem_cons_self, List.any_eq_true.2 ⟨24, ?_, ?_⟩⟩
 · rw [show Tryz.prog.partsOf 27 = [3, 4, 23, 9, 24, 25] by kernel_rfl]; decide +kernel
 · rw [bookL]; decide +kernel
end Go.Proofs.YtjapbjmeoaagmaaGreatDoor
end
