/- Several texts of this proof in one. -/
import Derived.Test.YtjapbjmeoaagmaaGreatDoorQValueSD3
import Derived.Test.YtjapbjmeoaagmaaGreatDoorQValueSD1
import Derived.Test.YtjapbjmeoaagmaaGreatDoorRows
import Derived.SizedLaws
import Derived.LaidMore
import Derived.MakeChecks
import Derived.Lib.LaidTab
import Derived.Stop.LaidErr
import Derived.Lib.SmallJoins
import Derived.JoinedOf
import Derived.Test.YtjapbjmeoaagmaaGreatDoorChecked
import Derived.Test.YtjapbjmeoaagmaaGreatDoorQValueSD2
import Derived.Deep.DeepAppendRoom
import Derived.Laws.IdiomCopy
import Derived.Test.YtjapbjmeoaagmaaGreatDoorEValueSDSh
import Derived.Test.YtjapbjmeoaagmaaGreatDoorEValueSDSi
set_option linter.unusedVariables false
set_option linter.unusedSimpArgs false
set_option maxRecDepth 100000
section
set_option maxRecDepth 100000
namespace Go.Proofs.YtjapbjmeoaagmaaGreatDoor
open Go.RowKit Go.Mem Orange
set_option maxHeartbeats 6400000 in
theorem few_step (N : Nat) (ih : ∀ (t : Tree) (A : Nat → Prop) (c : Array Value) (deep : Nat) (left : Int) (w : World), SizeOf.sizeOf t < N → okT t → -140737488355328 ≤ left → left ≤ 1000000 → deep ≤ 1000 → TV w A t c →
 Calls Tryz.prog 43 #[.agg c, .int .i64 left, .int .i64 (deep : Nat)] w (fun e w' => e = .returned (.int .i64 (fewT deep left t)) ∧ Ext w w')) :
 ∀ (t : Tree) (A : Nat → Prop) (c : Array Value) (deep : Nat) (left : Int) (w : World), SizeOf.sizeOf t < N + 1 → okT t → -140737488355328 ≤ left → left ≤ 1000000 → deep ≤ 1000 → TV w A t c →
 Calls Tryz.prog 43 #[.agg c, .int .i64 left, .int .i64 (deep : Nat)] w (fun e w' => e = .returned (.int .i64 (fewT deep left t)) ∧ Ext w w')
 | .mk k b d s l m, A, c, deep, left, w, hN, hok, hl0, hl1, hdp, ht => by
   have IH := Hd ih; clear ih; cases ht with
   | mk htl hrl htm hrm =>
   rename_i vL vM cl cm
   obtain ⟨_, a1, p1, rfl, hp1, hq1, _⟩ := id hrl; obtain ⟨_, a2, p2, rfl, hp2, hq2, _⟩ := id hrm; obtain ⟨R, hR⟩ := Ex (fewT deep left (.mk k b d s l m)); rw [hR]; rw [fewT] at hR; have HR := Hd hR; rw [okT] at hok; obtain ⟨_, _, hdl, hsl, hll, hml, hokl, hokm⟩ := hok
   have HOK := Hd (show d.digits.length ≤ 140737488355328 ∧ s.length ≤ 140737488355328 ∧ l.length ≤ 140737488355328 ∧ m.length ≤ 140737488355328 ∧ okL l ∧ okM m from ⟨hdl, hsl, hll, hml, hokl, hokm⟩); have hv0 := VAt.new w (cellsV k b d s (.slice a1 l.length p1) (.slice a2 m.length p2))
   have hx0 : Ext w (w.alloc (.cells (cellsV k b d s (.slice a1 l.length p1) (.slice a2 m.length p2)) 27)) := (ext_refl w).alloc (Nat.le_refl _) _; have HSU : Hid (SizeOf.sizeOf l < N ∧ SizeOf.sizeOf m < N) := Hd (by
    simp only [Tree.mk.sizeOf_spec] at hN; omega)
   clear hR hN hokl hokm; simp only [cellsV] at hv0 hx0 ⊢; go_enter Tryz.func43, Tryz.ntmps43
   go_upto_region 1 with fail; generalize w.alloc (.cells #[.int .i64 k, .bool b, .bool d.neg, .string ⟨d.digits.toArray⟩, .int .i64 d.exp, .string ⟨s.toArray⟩, .slice a1 l.length p1, .slice a2 m.length p2] 27) = w1 at *; obtain ⟨S, hS⟩ := Ex w.heap.size; rw [hS] at hv0 ⊢; have HC := Hd hv0; have HE := Hd hx0
   have HTL := Hd (htl.keep (A' := fun _ => True) hx0.size (fun g _ hlt => ⟨trivial, hx0.block g hlt⟩)); have HRL := Hd (hrl.keep (A' := fun _ => True) hx0.size (fun g _ hlt => ⟨trivial, hx0.block g hlt⟩)); have HTM := Hd (htm.keep (A' := fun _ => True) hx0.size (fun g _ hlt => ⟨trivial, hx0.block g hlt⟩))
   have HRM := Hd (hrm.keep (A' := fun _ => True) hx0.size (fun g _ hlt => ⟨trivial, hx0.block g hlt⟩)); clear hv0 hx0 htl hrl htm hrm hS; by_cases hd : 150 < deep
   · have hdi : (150 : Int) < deep := by omega
     have HF : Hid (R = -1) := Hd (by rw [← HR.out, if_pos hd]); go_wp2_with fail; go_ret; exact ⟨ret_int HF.out.symm, HE.out⟩
   have hdi : ¬ (150 : Int) < deep := by omega
   have HR2 : Hid (fewM (deep + 1) (fewL (deep + 1) (left - 1 - s.length - d.digits.length) l) m = R) := Hd (by rw [← HR.out, if_neg hd]); clear hd HR; obtain ⟨L1, hL1⟩ := Ex (left - 1); obtain ⟨L2, hL2⟩ := Ex (L1 - s.length); obtain ⟨L3, hL3⟩ := Ex (L2 - d.digits.length); have HR3 : Hid (fewM (deep + 1) (fewL (deep + 1) L3 l) m = R) := Hd (by rw [← HR2.out, hL1, hL2, hL3])
   have e1 : IntKind.i64.wrap (left - 1) = L1 := by rw [IntWalk.i64_in _ (by omega)]; exact hL1
   have e2 : IntKind.i64.wrap (L1 - s.length) = L2 := by rw [IntWalk.i64_in _ (by omega)]; exact hL2
   have e3 : IntKind.i64.wrap (L2 - d.digits.length) = L3 := by rw [IntWalk.i64_in _ (by omega)]; exact hL3
   have HL3 : Hid (-600000000000000 ≤ L3 ∧ L3 ≤ 1000000) := Hd (by omega); clear HR2 hL1 hL2 hL3; obtain ⟨c0, c1, c2, c3, c4, c5, c6, c7⟩ := HC.out.c8; go_wp2_with fail; clear c0 c1 c2 c3 c4 c5 c6 c7 e1 e2 e3; go_loopw [1, 7] (fun lv iv wr => ∃ i : Nat, lv = .int .i64 (fewL (deep + 1) L3 (l.take i)) ∧ iv = .int .i64 i ∧ i ≤ l.length ∧ Ext w1 wr) (fun _ iv _ => 9223372036854775808 - (intOf iv).toNat)
   case atStart => exact ⟨0, by rw [List.take_zero, fewL], rfl, by omega, ext_refl _⟩
   case round =>
    obtain ⟨i, rfl, rfl, hi, hE⟩ := hrel; have HX := Hd hE; clear hE; obtain ⟨X, hX⟩ := Ex (fewL (deep + 1) L3 (l.take i)); have HXX := Hd hX; have hXb := fewL_bd (l.take i) (deep + 1) L3 ((okL_iff _).2 (fun p hp => (okL_iff l).1 HOK.out.2.2.2.2.1 p (List.mem_of_mem_take hp))) HL3.out.1; rw [hX] at hXb ⊢; have HXB : Hid (-600000000000000 ≤ X ∧ X ≤ 1000000) := Hd (by have := HL3.out.2; omega); clear hX
    have hcr := HC.out.ext HX.out; have HCR := Hd hcr; clear hcr; have c6 := HCR.out.cell 6; simp at c6; by_cases hlt : i < l.length
    · have hlti : (i : Int) < l.length := by omega
      have hi0 : (0 : Int) ≤ i := by omega
      by_cases hX0 : 0 ≤ X
      · obtain ⟨g, o, xk, xb, xd, xs, xa1, xn1, xc1, xa2, xn2, xc2, rfl, htx, hcell⟩ := row_elem HRL.out HTL.out rfl i hlt; obtain ⟨x0, x1, x2, x3, x4, x5, x6, x7⟩ := hcell wr (fun g _ hg => HX.out.block g hg); have HTX := Hd (htx.keep (w' := wr) (A' := fun _ => True) HX.out.size (fun g _ hlt => ⟨trivial, HX.out.block g hlt⟩)); have HOX := Hd ((okL_iff l).1 HOK.out.2.2.2.2.1 l[i] (List.getElem_mem hlt))
        have HTK : Hid (fewL (deep + 1) L3 (l.take (i + 1)) = fewT (deep + 1) X l[i]) := Hd (by rw [fewL_take _ _ _ i hlt, HXX.out, if_pos hX0]); have HSI := Hd (mem_sizeL l i hlt HSU.out.1); clear htx hcell; generalize l[i] = x at *; have hxb := HXB.out.2; have e8 : IntKind.i64.wrap ((deep : Int) + 1) = ((deep + 1 : Nat) : Int) := by rw [IntWalk.i64_in _ (by omega)]; omega
        have e9 : IntKind.i64.wrap ((i : Int) + 1) = ((i + 1 : Nat) : Int) := by rw [IntWalk.i64_in _ (by omega)]; omega
        go_wp2_with fail; refine (IH.out x _ _ (deep + 1) X wr HSI.out HOX.out (by omega) (by omega) (by omega) HTX.out).mono ?_; rintro e w4 ⟨rfl, hw4⟩; have HE4 := Hd (ext_trans HX.out hw4); clear hw4 c6 x0 x1 x2 x3 x4 x5 x6 x7; go_wp2_with fail; go_roundw
        case rel => exact ⟨i + 1, by rw [HTK.out], by go_num, by omega, HE4.out⟩
        case measure => simp [intOf]; omega
      · have HXL : Hid (fewL (deep + 1) L3 l = X) := Hd (by rw [fewL_stop _ _ _ i (by rw [HXX.out]; omega), HXX.out]); go_wp2_with fail; clear c6; go_loopw [1, 8] (fun lv iv wx => ∃ i : Nat, lv = .int .i64 (fewM (deep + 1) X (m.take i)) ∧ iv = .int .i64 i ∧ i ≤ m.length ∧ Ext wr wx) (fun _ iv _ => 9223372036854775808 - (intOf iv).toNat)
        case atStart => exact ⟨0, by rw [List.take_zero, fewM], rfl, by omega, ext_refl _⟩
        case round =>
         obtain ⟨i, rfl, rfl, hi, hE⟩ := hrel; have HY := Hd hE; clear hE; obtain ⟨Y, hY⟩ := Ex (fewM (deep + 1) X (m.take i)); have HYY := Hd hY; have hYb := fewM_bd (m.take i) (deep + 1) X ((okM_iff _).2 (fun p hp => (okM_iff m).1 HOK.out.2.2.2.2.2 p (List.mem_of_mem_take hp))) HXB.out.1; have hxb := HXB.out.2; rw [hY] at hYb ⊢; clear hY; have hcr := HC.out.ext (ext_trans HX.out HY.out)
         have HCR := Hd hcr; clear hcr; have c7 := HCR.out.cell 7; simp at c7; by_cases hlt : i < m.length
         · have hlti : (i : Int) < m.length := by omega
           have hi0 : (0 : Int) ≤ i := by omega
           by_cases hY0 : 0 ≤ Y
           · obtain ⟨g, o, xk, xb, xd, xs, xa1, xn1, xc1, xa2, xn2, xc2, rfl, htx, hcell⟩ := mem_elem HRM.out HTM.out rfl i hlt; have HTX := Hd htx; have HXC := Hd hcell; have hokx := (okM_iff m).1 HOK.out.2.2.2.2.2 m[i] (List.getElem_mem hlt); have HTK : Hid (fewM (deep + 1) X (m.take (i + 1)) = fewT (deep + 1) (Y - m[i].1.length) m[i].2) := Hd (by rw [fewM_take _ _ _ i hlt, HYY.out, if_pos hY0])
             have HSI := Hd (mem_size m i hlt HSU.out.2); have hYX : Hid (fewM (deep + 1) X m = fewM (deep + 1) X m) := Hd rfl
             have HIH : Hid (∀ w', Ext wr w' → Calls Tryz.prog 43 #[.agg (cellsV xk xb xd xs (.slice xa1 xn1 xc1) (.slice xa2 xn2 xc2)), .int .i64 (Y - m[i].1.length), .int .i64 (deep + 1 : Nat)] w' (fun e w'' => e = .returned (.int .i64 (fewT (deep + 1) (Y - m[i].1.length) m[i].2)) ∧ Ext w' w'')) := Hd (fun w' hw =>
              IH.out m[i].2 (fun _ => True) _ (deep + 1) (Y - m[i].1.length) w' (mem_size m i hlt HSU.out.2) hokx.2 (by have := hokx.1; omega) (by omega) (by omega) (HTX.out.keep (ext_trans (ext_trans HX.out HY.out) hw).size (fun g _ hlt => ⟨trivial, (ext_trans (ext_trans HX.out HY.out) hw).block g hlt⟩)))
             obtain ⟨ky, hky⟩ := Ex (m[i].1); have HFX : Hid (∀ w', Ext wr w' → w'.cell? ⟨g, o + i * 9, none⟩ = some (.string ⟨ky.toArray⟩) ∧ w'.cell? ⟨g, o + i * 9 + 1, none⟩ = some (.int .i64 xk) ∧ w'.cell? ⟨g, o + i * 9 + 2, none⟩ = some (.bool xb) ∧ w'.cell? ⟨g, o + i * 9 + 3, none⟩ = some (.bool xd.neg) ∧ w'.cell? ⟨g, o + i * 9 + 4, none⟩ = some (.string ⟨xd.digits.toArray⟩) ∧
              w'.cell? ⟨g, o + i * 9 + 5, none⟩ = some (.int .i64 xd.exp) ∧ w'.cell? ⟨g, o + i * 9 + 6, none⟩ = some (.string ⟨xs.toArray⟩) ∧ w'.cell? ⟨g, o + i * 9 + 7, none⟩ = some (.slice xa1 xn1 xc1) ∧ w'.cell? ⟨g, o + i * 9 + 8, none⟩ = some (.slice xa2 xn2 xc2) ∧ w'.cell? ⟨S, 7, none⟩ = some (.slice (some ⟨g, o, none⟩) m.length p2)) := Hd (fun w' hw => by
              obtain ⟨x0, x1, x2, x3, x4, x5, x6, x7, x8⟩ := hcell w' (fun g _ hg => (ext_trans (ext_trans HX.out HY.out) hw).block g hg); have c7 := (HCR.out.ext hw).cell 7; simp at c7; rw [hky] at x0; exact ⟨x0, x1, x2, x3, x4, x5, x6, x7, x8, c7⟩)
             obtain ⟨Z, hZ⟩ := Ex (fewT (deep + 1) (Y - m[i].1.length) m[i].2); obtain ⟨V, hV⟩ := Ex (Y - (ky.length : Int)); have hih := HIH.out; have htk := HTK.out; rw [hZ] at hih htk; rw [hky, hV] at hih; replace HIH := Hd hih; replace HTK := Hd htk; have hkl : ky.length ≤ 140737488355328 := by rw [← hky]; exact hokx.1
             clear hih htk hZ hky htx hcell hokx HTX HXC hYX; have e7 : IntKind.i64.wrap (Y - (ky.length : Int)) = V := by rw [IntWalk.i64_in _ (by omega)]; exact hV
             have e6 : IntKind.i64.wrap V = V := IntWalk.i64_in _ (by omega); have e8 : IntKind.i64.wrap ((deep : Int) + 1) = ((deep + 1 : Nat) : Int) := by rw [IntWalk.i64_in _ (by omega)]; omega
             have e9 : IntKind.i64.wrap ((i : Int) + 1) = ((i + 1 : Nat) : Int) := by rw [IntWalk.i64_in _ (by omega)]; omega
             go_upto_region 11 with fail; clear c7; refine Grow.wp_region_litW (G := Ext) (B := fun w' => Ext wr w') (anc := fun _ => []) (I := fun j => if j = 17 then some (Grow.Spec.val Ext (.int .i64 Z)) else none) (by kernel_rfl) (by kernel_rfl) (by kernel_rfl) ?_ ?_ ?_
             · exact fun w w' h hg => ext_trans h hg
             · exact (ext_refl _).drew
             repeat
              (refine Grow.Wk.step (fun K hK => ?_)
               first
               | (refine Grow.step_read (by rfl) (by rfl) ext_refl ?_
                  apply Exists.intro; refine ⟨fun w hB hF => ?_, ?_⟩
                  · obtain ⟨x0, x1, x2, x3, x4, x5, x6, x7, x8, c7⟩ := HFX.out _ hB; go_simp; try exact rfl
                  go_simp; refine hK _ _ ?_; clear hK K)
               | (refine Grow.step_off (by rfl) ?_
                  go_simp; refine hK _ _ ?_; clear hK K))
             refine Grow.Wk.step (fun K hK => ?_); refine Grow.step_rel (by rfl) (by rfl) (fun w' hB hF => ?_) (fun v hv => ?_)
             · go_simp; refine Grow.relUpon_enter ((HIH.out w' hB).mono ?_); rintro e w'' ⟨rfl, hw''⟩; exact ⟨_, rfl, hw'', rfl, trivial⟩
             obtain rfl : v = _ := hv; go_simp; refine hK _ _ ?_; clear hK K; repeat
              (refine Grow.Wk.step (fun K hK => ?_)
               first
               | (refine Grow.step_read (by rfl) (by rfl) ext_refl ?_
                  apply Exists.intro; refine ⟨fun w hB hF => ?_, ?_⟩
                  · skip
                    go_simp; try exact rfl
                  go_simp; refine hK _ _ ?_; clear hK K)
               | (refine Grow.step_off (by rfl) ?_
                  go_simp; refine hK _ _ ?_; clear hK K))
             refine Grow.Wk.nil ?_; intro w4 hB hF; clear hF; have HE4 := Hd (ext_trans HY.out hB); clear hB; go_wp2_with fail; go_roundw
             case rel => exact ⟨i + 1, by rw [HTK.out], by go_num, by omega, HE4.out⟩
             case measure => simp [intOf]; omega
           · have HF : Hid (Y = R) := Hd (by rw [← HR3.out, HXL.out, fewM_stop _ _ _ i (by rw [HYY.out]; omega), HYY.out]); have HEE := Hd (ext_trans HE.out (ext_trans HX.out HY.out)); go_wp2_with fail; go_ret; exact ⟨ret_int HF.out, HEE.out⟩
         · obtain rfl : i = m.length := by omega
           have hnlt : ¬ ((m.length : Int) < (m.length : Int)) := by omega
           have HF : Hid (Y = R) := Hd (by rw [← HR3.out, HXL.out, ← HYY.out, List.take_length]); have HEE := Hd (ext_trans HE.out (ext_trans HX.out HY.out)); go_wp2_with fail; go_ret; exact ⟨ret_int HF.out, HEE.out⟩
    · obtain rfl : i = l.length := by omega
      have hnlt : ¬ ((l.length : Int) < (l.length : Int)) := by omega
      have HXL : Hid (fewL (deep + 1) L3 l = X) := Hd (by rw [← HXX.out, List.take_length]); go_wp2_with fail; clear c6; go_loopw [1, 8] (fun lv iv wx => ∃ i : Nat, lv = .int .i64 (fewM (deep + 1) X (m.take i)) ∧ iv = .int .i64 i ∧ i ≤ m.length ∧ Ext wr wx) (fun _ iv _ => 9223372036854775808 - (intOf iv).toNat)
      case atStart => exact ⟨0, by rw [List.take_zero, fewM], rfl, by omega, ext_refl _⟩
      case round =>
       obtain ⟨i, rfl, rfl, hi, hE⟩ := hrel; have HY := Hd hE; clear hE; obtain ⟨Y, hY⟩ := Ex (fewM (deep + 1) X (m.take i)); have HYY := Hd hY; have hYb := fewM_bd (m.take i) (deep + 1) X ((okM_iff _).2 (fun p hp => (okM_iff m).1 HOK.out.2.2.2.2.2 p (List.mem_of_mem_take hp))) HXB.out.1; have hxb := HXB.out.2; rw [hY] at hYb ⊢; clear hY; have hcr := HC.out.ext (ext_trans HX.out HY.out)
       have HCR := Hd hcr; clear hcr; have c7 := HCR.out.cell 7; simp at c7; by_cases hlt : i < m.length
       · have hlti : (i : Int) < m.length := by omega
         have hi0 : (0 : Int) ≤ i := by omega
         by_cases hY0 : 0 ≤ Y
         · obtain ⟨g, o, xk, xb, xd, xs, xa1, xn1, xc1, xa2, xn2, xc2, rfl, htx, hcell⟩ := mem_elem HRM.out HTM.out rfl i hlt; have HTX := Hd htx; have HXC := Hd hcell; have hokx := (okM_iff m).1 HOK.out.2.2.2.2.2 m[i] (List.getElem_mem hlt); have HTK : Hid (fewM (deep + 1) X (m.take (i + 1)) = fewT (deep + 1) (Y - m[i].1.length) m[i].2) := Hd (by rw [fewM_take _ _ _ i hlt, HYY.out, if_pos hY0])
           have HSI := Hd (mem_size m i hlt HSU.out.2); have hYX : Hid (fewM (deep + 1) X m = fewM (deep + 1) X m) := Hd rfl
           have HIH : Hid (∀ w', Ext wr w' → Calls Tryz.prog 43 #[.agg (cellsV xk xb xd xs (.slice xa1 xn1 xc1) (.slice xa2 xn2 xc2)), .int .i64 (Y - m[i].1.length), .int .i64 (deep + 1 : Nat)] w' (fun e w'' => e = .returned (.int .i64 (fewT (deep + 1) (Y - m[i].1.length) m[i].2)) ∧ Ext w' w'')) := Hd (fun w' hw =>
            IH.out m[i].2 (fun _ => True) _ (deep + 1) (Y - m[i].1.length) w' (mem_size m i hlt HSU.out.2) hokx.2 (by have := hokx.1; omega) (by omega) (by omega) (HTX.out.keep (ext_trans (ext_trans HX.out HY.out) hw).size (fun g _ hlt => ⟨trivial, (ext_trans (ext_trans HX.out HY.out) hw).block g hlt⟩)))
           obtain ⟨ky, hky⟩ := Ex (m[i].1); have HFX : Hid (∀ w', Ext wr w' → w'.cell? ⟨g, o + i * 9, none⟩ = some (.string ⟨ky.toArray⟩) ∧ w'.cell? ⟨g, o + i * 9 + 1, none⟩ = some (.int .i64 xk) ∧ w'.cell? ⟨g, o + i * 9 + 2, none⟩ = some (.bool xb) ∧ w'.cell? ⟨g, o + i * 9 + 3, none⟩ = some (.bool xd.neg) ∧ w'.cell? ⟨g, o + i * 9 + 4, none⟩ = some (.string ⟨xd.digits.toArray⟩) ∧
            w'.cell? ⟨g, o + i * 9 + 5, none⟩ = some (.int .i64 xd.exp) ∧ w'.cell? ⟨g, o + i * 9 + 6, none⟩ = some (.string ⟨xs.toArray⟩) ∧ w'.cell? ⟨g, o + i * 9 + 7, none⟩ = some (.slice xa1 xn1 xc1) ∧ w'.cell? ⟨g, o + i * 9 + 8, none⟩ = some (.slice xa2 xn2 xc2) ∧ w'.cell? ⟨S, 7, none⟩ = some (.slice (some ⟨g, o, none⟩) m.length p2)) := Hd (fun w' hw => by
            obtain ⟨x0, x1, x2, x3, x4, x5, x6, x7, x8⟩ := hcell w' (fun g _ hg => (ext_trans (ext_trans HX.out HY.out) hw).block g hg); have c7 := (HCR.out.ext hw).cell 7; simp at c7; rw [hky] at x0; exact ⟨x0, x1, x2, x3, x4, x5, x6, x7, x8, c7⟩)
           obtain ⟨Z, hZ⟩ := Ex (fewT (deep + 1) (Y - m[i].1.length) m[i].2); obtain ⟨V, hV⟩ := Ex (Y - (ky.length : Int)); have hih := HIH.out; have htk := HTK.out; rw [hZ] at hih htk; rw [hky, hV] at hih; replace HIH := Hd hih; replace HTK := Hd htk; have hkl : ky.length ≤ 140737488355328 := by rw [← hky]; exact hokx.1
           clear hih htk hZ hky htx hcell hokx HTX HXC hYX; have e7 : IntKind.i64.wrap (Y - (ky.length : Int)) = V := by rw [IntWalk.i64_in _ (by omega)]; exact hV
           have e6 : IntKind.i64.wrap V = V := IntWalk.i64_in _ (by omega); have e8 : IntKind.i64.wrap ((deep : Int) + 1) = ((deep + 1 : Nat) : Int) := by rw [IntWalk.i64_in _ (by omega)]; omega
           have e9 : IntKind.i64.wrap ((i : Int) + 1) = ((i + 1 : Nat) : Int) := by rw [IntWalk.i64_in _ (by omega)]; omega
           go_upto_region 11 with fail; clear c7; refine Grow.wp_region_litW (G := Ext) (B := fun w' => Ext wr w') (anc := fun _ => []) (I := fun j => if j = 17 then some (Grow.Spec.val Ext (.int .i64 Z)) else none) (by kernel_rfl) (by kernel_rfl) (by kernel_rfl) ?_ ?_ ?_
           · exact fun w w' h hg => ext_trans h hg
           · exact (ext_refl _).drew
           repeat
            (refine Grow.Wk.step (fun K hK => ?_)
             first
             | (refine Grow.step_read (by rfl) (by rfl) ext_refl ?_
                apply Exists.intro; refine ⟨fun w hB hF => ?_, ?_⟩
                · obtain ⟨x0, x1, x2, x3, x4, x5, x6, x7, x8, c7⟩ := HFX.out _ hB; go_simp; try exact rfl
                go_simp; refine hK _ _ ?_; clear hK K)
             | (refine Grow.step_off (by rfl) ?_
                go_simp; refine hK _ _ ?_; clear hK K))
           refine Grow.Wk.step (fun K hK => ?_); refine Grow.step_rel (by rfl) (by rfl) (fun w' hB hF => ?_) (fun v hv => ?_)
           · go_simp; refine Grow.relUpon_enter ((HIH.out w' hB).mono ?_); rintro e w'' ⟨rfl, hw''⟩; exact ⟨_, rfl, hw'', rfl, trivial⟩
           obtain rfl : v = _ := hv; go_simp; refine hK _ _ ?_; clear hK K; repeat
            (refine Grow.Wk.step (fun K hK => ?_)
             first
             | (refine Grow.step_read (by rfl) (by rfl) ext_refl ?_
                apply Exists.intro; refine ⟨fun w hB hF => ?_, ?_⟩
                · skip
                  go_simp; try exact rfl
                go_simp; refine hK _ _ ?_; clear hK K)
             | (refine Grow.step_off (by rfl) ?_
                go_simp; refine hK _ _ ?_; clear hK K))
           refine Grow.Wk.nil ?_; intro w4 hB hF; clear hF; have HE4 := Hd (ext_trans HY.out hB); clear hB; go_wp2_with fail; go_roundw
           case rel => exact ⟨i + 1, by rw [HTK.out], by go_num, by omega, HE4.out⟩
           case measure => simp [intOf]; omega
         · have HF : Hid (Y = R) := Hd (by rw [← HR3.out, HXL.out, fewM_stop _ _ _ i (by rw [HYY.out]; omega), HYY.out]); have HEE := Hd (ext_trans HE.out (ext_trans HX.out HY.out)); go_wp2_with fail; go_ret; exact ⟨ret_int HF.out, HEE.out⟩
       · obtain rfl : i = m.length := by omega
         have hnlt : ¬ ((m.length : Int) < (m.length : Int)) := by omega
         have HF : Hid (Y = R) := Hd (by rw [← HR3.out, HXL.out, ← HYY.out, List.take_length]); have HEE := Hd (ext_trans HE.out (ext_trans HX.out HY.out)); go_wp2_with fail; go_ret; exact ⟨ret_int HF.out, HEE.out⟩
theorem few_any (t : Tree) (A : Nat → Prop) (c : Array Value) (left : Int) (w : World) (hok : okT t) (h0 : 0 ≤ left) (h1 : left ≤ 1000000) (h : TV w A t c) :
 Calls Tryz.prog 15 #[.agg c, .int .i64 left] w (fun e w' => e = .returned (.bool (decide (0 ≤ fewT 0 left t))) ∧ Ext w w') := by
 have key : ∀ N : Nat, ∀ (t : Tree) (A : Nat → Prop) (c : Array Value) (deep : Nat) (left : Int) (w : World), SizeOf.sizeOf t < N → okT t → -140737488355328 ≤ left → left ≤ 1000000 → deep ≤ 1000 → TV w A t c →
  Calls Tryz.prog 43 #[.agg c, .int .i64 left, .int .i64 (deep : Nat)] w (fun e w' => e = .returned (.int .i64 (fewT deep left t)) ∧ Ext w w') := by
  intro N; induction N with
  | zero => intro t A c deep left w h; omega
  | succ N ih => exact few_step N ih
 obtain ⟨k, b, d, s, la, ln, lc, ma, mn, mc, rfl⟩ := h.eight; have hv := VAt.new w (cellsV k b d s (.slice la ln lc) (.slice ma mn mc)); have hx : Ext w (w.alloc (.cells (cellsV k b d s (.slice la ln lc) (.slice ma mn mc)) 27)) := (ext_refl w).alloc (Nat.le_refl _) _; simp only [cellsV] at hv hx ⊢; go_enter Tryz.func15, Tryz.ntmps15
 go_upto_region 1 with fail; generalize w.alloc (.cells #[.int .i64 k, .bool b, .bool d.neg, .string ⟨d.digits.toArray⟩, .int .i64 d.exp, .string ⟨s.toArray⟩, .slice la ln lc, .slice ma mn mc] 27) = w1 at *; have HT := Hd (h.keep (w' := w1) (A' := fun _ => True) hx.size (fun g _ hlt => ⟨trivial, hx.block g hlt⟩)); obtain ⟨S, hS⟩ := Ex w.heap.size; rw [hS] at hv ⊢
 obtain ⟨c0, c1, c2, c3, c4, c5, c6, c7⟩ := hv.c8; have HE := Hd hx; clear h hx hS hv; go_wp2_with fail; refine (key _ t _ _ 0 left w1 (Nat.lt_succ_self _) hok (by omega) h1 (by omega) HT.out).mono ?_; rintro e w2 ⟨rfl, hw2⟩; have HE2 := Hd (ext_trans HE.out hw2); clear hw2; go_wp2_with fail; go_ret; exact ⟨ret_bool (by simp), HE2.out⟩
end Go.Proofs.YtjapbjmeoaagmaaGreatDoor
end

section
set_option maxRecDepth 100000
namespace Go.Proofs.YtjapbjmeoaagmaaGreatDoor
open Go.RowKit Go.Mem
theorem tab_of {W : World} (h : laidMetH Tryz.prog Rows.printBackRow.laid W) : Tab W := by
 rw [MakeChecks.laidMetH_plain _ _ _ (by kernel_rfl)] at h
 have h' : laidMet Tryz.prog (("math/bits.deBruijn32tab", Rows.laid_math_bits_deBruijn32tab) :: ("math/bits.deBruijn64tab", Rows.laid_math_bits_deBruijn64tab) :: ("internal/strconv.uint64pow10", Lib.tabData .u64 Lib.pow10Tab) :: [("unicode/utf8.acceptRanges", Rows.laid_unicode_utf8_acceptRanges), ("unicode/utf8.first", Rows.laid_unicode_utf8_first)]) W := h
 exact Lib.tabIs_of_head (g := 0) (t := 219) (n := 20) (by kernel_rfl) (by kernel_rfl) (by kernel_rfl) Tryz.underlying178 (by kernel_rfl) (by kernel_rfl) (laidMet.tail (laidMet.tail h'))
end Go.Proofs.YtjapbjmeoaagmaaGreatDoor
end

section
set_option maxRecDepth 100000
namespace Go
theorem grown_add (P : Program) : ∀ (n m : Nat) (s : List TypeId), P.grown (n + m) s = P.grown m (P.grown n s)
 | 0, m, s => by rw [Nat.zero_add]; rfl
 | n + 1, m, s => by
   rw [show n + 1 + m = (n + m) + 1 by omega]; show P.grown (n + m) (P.grow s) = P.grown m (P.grown n (P.grow s)); exact grown_add P n m _
theorem grown_fix (P : Program) {s : List TypeId} (h : P.grow s = s) : ∀ m, P.grown m s = s
 | 0 => rfl
 | m + 1 => by
   show P.grown m (P.grow s) = s; rw [h]; exact grown_fix P h m
theorem book_of {P : Program} {t : TypeId} {L : List TypeId} (n : Nat) (h1 : P.grown n [t] = L) (h2 : P.grow L = L) (hn : n ≤ P.types.size) : P.book t = L := by
 unfold Program.book; obtain ⟨m, hm⟩ : ∃ m, P.types.size = n + m := ⟨P.types.size - n, by omega⟩
 rw [hm, grown_add, h1, grown_fix P h2]
theorem joined_of {P : Program} {f : FuncId} {fn : Func} {s : ChangeSpec} {c : OpenClaim}
 (k1 : (c.wf (OpenSpec.ofChange s) && laidOutB P && mapsRowed P) = true) (k4 : fn.params.all (P.readableRec ·) = true)
 (k5 : (namedTie P c.named s.vars && (c.stops == []) && (P.stops == []) && (c.knobs == []) && (P.stopKnobs == []) && (c.inPlace == P.inPlace f) && (c.unfollowed == P.unfollowed f) && (c.recurses == P.recurses f) && (c.named == P.varsNamed f)) = true)
 (k6 : (c.maps == (fn.params.toList ++ s.plain.varTypes P).any (P.mapsRec ·)) = true) (k7 : (c.ifaces == (fn.params.toList ++ s.plain.varTypes P).any (P.ifacesRec ·)) = true) (k8 : (c.mapsOut == P.mapsAmong fn.resultTypes.toList) = true)
 (k9 : (c.loops == (fn.params.toList ++ s.plain.varTypes P).any (P.loopsFrom ·)) = true) (k10 : (c.wideKeys == (fn.params.toList ++ s.plain.varTypes P ++ fn.resultTypes.toList).any (P.wideKeysFrom ·)) = true)
 (k11 : (s.vars.all (P.varReadable ·) && fn.resultTypes.all (fun t => P.readableRec t && decide (t < P.types.size)) && (c.ifacesOut == fn.resultTypes.toList.any (P.ifacesRec ·)) && (c.loopsOut == fn.resultTypes.toList.any (P.loopsFrom ·)) && (c.plainKeys == P.plainKeys) && c.shortTexts.isNone && P.stopsHeard && P.mayEnter && (c.lifted == P.liftsFinal) && (P.make == some c.make) && (c.kinds == (if c.domain.isEmpty then [] else fn.params.toList.map fun t => match P.underlying t with | some (.int k) => some k | _ => none)) && (c.pinned == c.pinnedBy)) = true)
 (k12 : (c.veiled == (fn.params.toList ++ s.plain.varTypes P ++ fn.resultTypes.toList).any (P.veiledRec ·)) = true) (k13 : c.veiledFits P fn.params.toList (fn.params.toList ++ s.plain.varTypes P ++ fn.resultTypes.toList) = true) : joinedFacts P f fn s c = true := by
 simp only [Bool.and_eq_true] at k1 k5 k11; simp only [joinedFacts, Bool.and_eq_true]; obtain ⟨⟨a1, a2⟩, a3⟩ := k1; obtain ⟨⟨⟨⟨⟨⟨⟨⟨b1, b2⟩, b3⟩, b4⟩, b5⟩, b6⟩, b7⟩, b8⟩, b9⟩ := k5; obtain ⟨⟨⟨⟨⟨⟨⟨⟨⟨⟨⟨c1, c2⟩, c3⟩, c4⟩, c5⟩, c6⟩, c7⟩, c8⟩, c9⟩, c10⟩, c11⟩, c12⟩ := k11; refine ⟨⟨?_, k12⟩, k13⟩
 simp only [a1, a2, a3, k4, b1, b2, b3, b4, b5, b6, b7, b8, b9, k6, k7, k8, k9, k10, c1, c2, c3, c4, c5, c6, c7, c8, c9, c10, c12, and_self]; exact ⟨⟨trivial, c11⟩, trivial⟩
theorem veiledFits_of {P : Program} {c : OpenClaim} {ps ts : List TypeId} (hs : c.start = .entering) (h1 : ts.all (P.veiledOwn ·) = true) (h2 : (c.laid.filterMap fun x => (P.globalNamed x.1).bind fun g => (P.globals[g]?).map (·.type)).all (P.veiledOwn ·) = true) : c.veiledFits P ps ts = true := by
 unfold OpenClaim.veiledFits; rw [hs]; simp only [List.all_append, h1, h2, Bool.and_self, Bool.true_or, Bool.and_true]
end Go
namespace Go.Proofs.YtjapbjmeoaagmaaGreatDoor
open Go
theorem bookV : Tryz.prog.book 27 = [27, 3, 4, 23, 9, 24, 25, 43] := book_of 2 (by kernel_rfl) (by kernel_rfl) (by decide +kernel)
theorem bookL : Tryz.prog.book 24 = [24, 27, 3, 4, 23, 9, 25, 43] := book_of 3 (by kernel_rfl) (by kernel_rfl) (by decide +kernel)
theorem readV : Tryz.prog.readableRec 27 = true := by unfold Program.readableRec; rw [bookV]; kernel_rfl
theorem mapsV : Tryz.prog.mapsRec 27 = false := by unfold Program.mapsRec; rw [bookV]; kernel_rfl
theorem ifacesV : Tryz.prog.ifacesRec 27 = false := by unfold Program.ifacesRec; rw [bookV]; kernel_rfl
theorem wideV : Tryz.prog.wideKeysFrom 27 = false := by unfold Program.wideKeysFrom; rw [bookV]; kernel_rfl
theorem veiledV : Tryz.prog.veiledRec 27 = false := by unfold Program.veiledRec; rw [bookV]; kernel_rfl
theorem ownV : Tryz.prog.veiledOwn 27 = true := by unfold Program.veiledOwn; rw [veiledV]; rfl
theorem loopsV : Tryz.prog.loopsFrom 27 = true := by
 unfold Program.loopsFrom; rw [bookV]; refine List.any_eq_true.2 ⟨27, List.mem_cons_self, List.any_eq_true.2 ⟨24, ?_, ?_⟩⟩
 · rw [show Tryz.prog.partsOf 27 = [3, 4, 23, 9, 24, 25] by kernel_rfl]; decide +kernel
 · rw [bookL]; decide +kernel
end Go.Proofs.YtjapbjmeoaagmaaGreatDoor
end

section
set_option maxRecDepth 100000
namespace Go.Proofs.YtjapbjmeoaagmaaGreatDoor
open Go.RowKit Go.Mem Orange
theorem zeroCells_one (z : Array Value) : (Builtin.zeroCells z 1).toList = z.toList := by
 unfold Builtin.zeroCells; apply List.ext_getElem
 · simp
 · intro i h1 h2; have h3 : i < z.size := by simpa using h2
   simp [Nat.mod_eq_of_lt h3, h3]
theorem ownsRow_pre {w : World} {base g n k cap z : Nat} {e : TypeId} {cs : List Value} (h : w.ownsRow base e z (.slice (some ⟨g, 0, none⟩) n cap) n cs) (hk : k ≤ n) : w.ownsRow base e z (.slice (some ⟨g, 0, none⟩) k cap) k (cs.take (k * z)) := by
 obtain ⟨h1, h2⟩ := h; obtain ⟨g', cap', cur, e0, hbg, hg, hnc, hcm, hcs, htk⟩ := h2.resolve_left (fun h => by cases h.1); simp only [Value.slice.injEq, Option.some.injEq, Addr.mk.injEq, and_true, true_and] at e0; obtain ⟨rfl, rfl⟩ := e0; have hm : k * z ≤ n * z := Nat.mul_le_mul_right z hk; refine ⟨by rw [List.length_take]; omega, .inr ⟨g, cap, cur, rfl, hbg, hg, by omega, hcm, hcs, ?_⟩⟩
 rw [← htk, List.take_take, Nat.min_eq_left hm]
theorem KeptP.setCells {g : Nat} : ∀ (vs : List Value) (o : Nat) (w : World), KeptP g w (w.setCells g o vs)
 | [], _, w => KeptP.refl _ _
 | v :: vs, o, w => (KeptP.set v).trans (KeptP.setCells vs (o + 1) (w.setCell ⟨g, o, none⟩ v))
theorem KeptP.ofGrown {g : Nat} {w w' : World} (h : w.grownBy w' (some g)) : KeptP g w w' := ⟨h.os, h.tape, h.output, h.size, fun b hb hne => h.block b hb (fun e => hne (by simpa [eq_comm] using e))⟩
theorem delM_clear (w : World) (ty : TypeId) (b o c : Nat) (hc : ∀ j, j < 9 → (w.cell? ⟨b, o + j, none⟩).isSome = true) (hf : ∀ j, j < 9 → w.frozen? ⟨b, o + j, none⟩ = false) :
 (Builtin.clear_ #[25] ty #[.slice (some ⟨b, o, none⟩) 1 c]).run Tryz.prog w = .ok (.tuple #[]) (w.setCells b o [.string ⟨#[]⟩, .int .i64 0, .bool false, .bool false, .string ⟨#[]⟩, .int .i64 0, .string ⟨#[]⟩, .slice none 0 0, .slice none 0 0]) := by
 have hv : ∀ w, (zeroValue 43).run Tryz.prog w = .ok (.agg #[.string ⟨#[]⟩, .int .i64 0, .bool false, .bool false, .string ⟨#[]⟩, .int .i64 0, .string ⟨#[]⟩, .slice none 0 0, .slice none 0 0]) w := fun w => by kernel_rfl
 have hzc : (Builtin.zeroCells (Value.agg #[.string ⟨#[]⟩, .int .i64 0, .bool false, .bool false, .string ⟨#[]⟩, .int .i64 0, .string ⟨#[]⟩, .slice none 0 0, .slice none 0 0]).cells 1).toList = [.string ⟨#[]⟩, .int .i64 0, .bool false, .bool false, .string ⟨#[]⟩, .int .i64 0, .string ⟨#[]⟩, .slice none 0 0, .slice none 0 0] := by rw [zeroCells_one]; kernel_rfl
 have hst := run_storeCells_cells (P := Tryz.prog) b o [.string ⟨#[]⟩, .int .i64 0, .bool false, .bool false, .string ⟨#[]⟩, .int .i64 0, .string ⟨#[]⟩, .slice none 0 0, .slice none 0 0] 0 w (by simpa using hc) (by simpa using hf) (by intro u hu; simp at hu; rcases hu with rfl | rfl | rfl | rfl | rfl | rfl | rfl | rfl | rfl <;> rfl); simp only [Nat.add_zero] at hst
 simp [Builtin.clear_, run_underlying Tryz.underlying25, hv, hzc, hst]
set_option maxHeartbeats 3200000 in
theorem delM_any (base g cap n i : Nat) (cs : List Value) (w : World) (hown : w.ownsRow base 43 9 (.slice (some ⟨g, 0, none⟩) n cap) n cs) (h1 : ∀ u ∈ cs, u.oneCell' = true) (hi : i < n) (hn : n ≤ 1000000) :
 Calls Tryz.prog 59 #[.slice (some ⟨g, 0, none⟩) n cap, .int .i64 i, .int .i64 (i + 1 : Nat)] w (fun e w' => e = .returned (.slice (some ⟨g, 0, none⟩) (n - 1) cap) ∧ RowAt w' (fun b => b = g) 9 (.slice (some ⟨g, 0, none⟩) (n - 1) cap) (n - 1) (cs.take (i * 9) ++ cs.drop ((i + 1) * 9)) ∧ KeptP g w w') := by
 have HO := Hd hown; have H1 := Hd h1; obtain ⟨hcl, hblk⟩ := hown; obtain ⟨g', cap', cur, e0, hbg, hg, hnc, hcm, hcs, htk⟩ := hblk.resolve_left (fun h => by cases h.1); simp only [Value.slice.injEq, Option.some.injEq, Addr.mk.injEq, and_true, true_and] at e0; obtain ⟨rfl, rfl⟩ := e0; have HCUR := Hd hg; have HTK := Hd htk; have hgl := (Array.getElem?_eq_some_iff.1 hg).1; have HGL := Hd hgl
 have HBG := Hd hbg; have HCS := Hd hcs; have HCL := Hd hcl; clear hg htk hgl hbg hcs hcl hblk h1; obtain ⟨m, hm⟩ : ∃ m, n = i + 1 + m := ⟨n - (i + 1), by omega⟩
 have q0 : (0 : Int) ≤ (i : Int) := by omega
 have q1 : (i : Int) ≤ (i : Int) + 1 := by omega
 have q2 : (i : Int) + 1 ≤ (n : Int) := by omega
 have q3 : (n : Int) ≤ (cap : Int) := by omega
 have q4 : (i : Int) ≤ (cap : Int) := by omega
 have q5 : ((i : Int) == (i : Int) + 1) = false := by simp; omega
 have HM := Hd hm; clear hm; go_enter Tryz.func59, Tryz.ntmps59
 go_upto_region 5 with fail; have HNW : Hid (∀ w', Ext w w' → ∀ (a : Addr), (i + 1 < n → a = ⟨g, (i + 1) * 9, none⟩) → ∀ j u, (cs.drop ((i + 1) * 9))[j]? = some u → w'.cell? (a.add j) = some u) := Hd (fun w' hw a ha j u hu => by
  have hj : (i + 1) * 9 + j < cs.length := by
   rw [List.getElem?_drop] at hu; exact (List.getElem?_eq_some_iff.1 hu).1
  have hcl := HCL.out; rw [ha (by omega)]; rw [List.getElem?_drop, ← HTK.out, List.getElem?_take] at hu; split at hu
  · rw [show (⟨g, (i + 1) * 9, none⟩ : Addr).add j = ⟨g, (i + 1) * 9 + j, none⟩ by simp only [Addr.add]; split <;> simp_all]; rw [World.cell?_of_block (w := w) (a := ⟨g, (i + 1) * 9 + j, none⟩) (hw.block g HGL.out), cell_of_cells HCUR.out]; simpa using hu
  · cases hu)
 have HDL : Hid ((cs.drop ((i + 1) * 9)).length = m * 9) := Hd (by rw [List.length_drop, HCL.out, HM.out]; omega); by_cases hc : cap = i + 1
 · subst hc; obtain rfl : n = i + 1 := by omega
   obtain rfl : m = 0 := by have := HM.out; omega
   refine GrowS.wp_region_restTA (G := fun _ => Ext) (B := fun _ w' => Ext w w') (E := fun _ _ => False) (anc := fun _ => []) (Inv := fun _ w' => Ext w w') (I := fun j _ => none)
    6 (fun j => ([[], [], [0, 1], [], [], [3, 4], [0, 1, 2, 3, 4, 5], [0, 1, 2, 3, 4, 5]] : List (List Nat)).getD j []) #[true, true, true, true, true, true, false, false] (fun _ _ _ _ _ _ _ _ _ _ => rfl) (by kernel_rfl) (by kernel_rfl) (by kernel_rfl) (GrowS.inv_const fun _ _ h hg => ext_trans h hg) ?_ ?_ ?_
   · exact fun _ _ _ _ h => h.elim
   · exact (ext_refl _).drew
   refine GrowS.Wk.out ?_; simp only [List.take_succ_cons, List.take_zero, List.drop_succ_cons, List.drop_zero]; repeat
    (refine GrowS.Wk.step (fun K hK => ?_)
     first
     | (refine GrowS.step_read (by rfl) (by rfl) (fun w => ext_refl w) ?_
        apply Exists.intro; refine ⟨fun w hB hF => ?_, ?_⟩
        · skip
          go_simp; try exact rfl
        go_simp; refine hK _ _ ?_; clear hK K)
     | (refine GrowS.step_off (by rfl) ?_
        go_simp; refine hK _ _ ?_; clear hK K))
   refine GrowS.Wk.nil ?_; intro w3 hB hF; replace hB : Ext w w3 := hB; clear hF; show wpAny _ _ _ _ (1 + 1) _ _ _; refine wpAny_one 6 (by kernel_rfl) ?_; refine wpOp_now rfl (by rfl) ?_
   refine wp_append_own_spare w3 _ _ _ rfl base 43 _ 9 (by kernel_rfl) (by rfl) (by rfl) g i (i + 1) (cs.take (i * 9)) rfl (ownsRow_pre (ownsRow_ext HO.out hB) (Nat.le_of_lt hi)) ⟨g, 0, none⟩ 0 (i + 1 - (i + 1)) (cs.drop ((i + 1) * 9)) ?_ HDL.out (HNW.out w3 hB ⟨g, 0, none⟩ (fun h => absurd h (by omega))) (fun u hu => H1.out u (List.mem_of_mem_drop hu)) (by have := HM.out; omega) ?_
   · go_simp; try (have := HM.out; omega)
   intro w4 ho4 hg4; have hnim : (i + 1) - (i) = 1 := by have := HM.out; omega
   have hnec : ¬ i + 1 = i := by have := HM.out; omega
   have r1 : ((i : Nat) : Int) ≤ (((i + 1) : Nat) : Int) := by have := HM.out; omega
   have r2 : (0 : Int) ≤ ((i : Nat) : Int) := by omega
   have HO4 := Hd ho4; have HK4 := Hd ((KeptP.ofExt hB).trans (KeptP.ofGrown hg4)); have HG4 := Hd (Nat.lt_of_lt_of_le HGL.out (Nat.le_trans hB.size hg4.size)); have HCC : Hid (∀ j, j < 9 → (w4.cell? ⟨g, (i) * 9 + j, none⟩).isSome = true ∧ w4.frozen? ⟨g, (i) * 9 + j, none⟩ = false) := Hd (fun j hj => by
    obtain ⟨g', cap', cur4, e0, -, hg, -, -, hcs, -⟩ := ho4.2.resolve_left (fun h => by cases h.1); simp only [Value.slice.injEq, Option.some.injEq, Addr.mk.injEq, and_true, true_and] at e0; obtain ⟨rfl, rfl⟩ := e0; have hm := HM.out; refine ⟨?_, free_of_cells hg⟩; rw [cell_of_cells hg]; have : (i) * 9 + j < cur4.size := by rw [hcs]; omega
    simp [this])
   have HCLR := Hd (fun ty => delM_clear w4 ty g ((i) * 9) (1) (fun j hj => (HCC.out j hj).1) (fun j hj => (HCC.out j hj).2)); clear ho4 hg4 hB; refine wpAny_one 7 (by kernel_rfl) ?_; refine wpOp_now rfl (by rfl) ?_; unfold Oper.wp; go_simp; show wpAny _ _ _ _ 0 _ _ _; refine ⟨by decide +kernel, ?_⟩; have hclr := HCLR.out; go_wp2_with fail; go_ret
   have hnm : (i + 1) - 1 = i := by have := HM.out; omega
   try rw [hnm]
   have HR4 : Hid (RowAt w4 (fun b => b = g) 9 (.slice (some ⟨g, 0, none⟩) (i) (i + 1)) (i) (cs.take (i * 9) ++ cs.drop ((i + 1) * 9))) := Hd (RowAt.own HO4.out (by decide) (fun b e _ _ => by simpa [Value.ownBlock, eq_comm] using e)); refine ⟨rfl, ?_, HK4.out.trans (KeptP.setCells _ _ _)⟩; obtain ⟨h0, a', c', e1, h2, h3, h4⟩ := HR4.out; refine ⟨h0, a', c', e1, h2, h3, fun hp => ?_⟩
   obtain ⟨g2, o2, e2, hA, hlt, hc2⟩ := h4 hp; simp only [Value.slice.injEq] at e1; obtain ⟨rfl, -, rfl⟩ := e1; simp only [Option.some.injEq, Addr.mk.injEq, and_true] at e2; obtain ⟨rfl, rfl⟩ := e2; refine ⟨g, 0, rfl, rfl, Nat.lt_of_lt_of_le hlt (KeptP.setCells (g := g) _ _ w4).size, fun j hj => ?_⟩; rw [World.cell?_setCells_out g _ _ w4 _ (fun _ _ => .inl (by simp only; have := h0; omega))]
   exact hc2 j hj
 · refine GrowS.wp_region_restTA (G := fun _ => Ext) (B := fun _ w' => Ext w w') (E := fun _ _ => False) (anc := fun _ => []) (Inv := fun _ w' => Ext w w') (I := fun j _ => none)
    6 (fun j => ([[], [], [0, 1], [], [], [3, 4], [0, 1, 2, 3, 4, 5], [0, 1, 2, 3, 4, 5]] : List (List Nat)).getD j []) #[true, true, true, true, true, true, false, false] (fun _ _ _ _ _ _ _ _ _ _ => rfl) (by kernel_rfl) (by kernel_rfl) (by kernel_rfl) (GrowS.inv_const fun _ _ h hg => ext_trans h hg) ?_ ?_ ?_
   · exact fun _ _ _ _ h => h.elim
   · exact (ext_refl _).drew
   refine GrowS.Wk.out ?_; simp only [List.take_succ_cons, List.take_zero, List.drop_succ_cons, List.drop_zero]; repeat
    (refine GrowS.Wk.step (fun K hK => ?_)
     first
     | (refine GrowS.step_read (by rfl) (by rfl) (fun w => ext_refl w) ?_
        apply Exists.intro; refine ⟨fun w hB hF => ?_, ?_⟩
        · skip
          go_simp; try exact rfl
        go_simp; refine hK _ _ ?_; clear hK K)
     | (refine GrowS.step_off (by rfl) ?_
        go_simp; refine hK _ _ ?_; clear hK K))
   refine GrowS.Wk.nil ?_; intro w3 hB hF; replace hB : Ext w w3 := hB; clear hF; show wpAny _ _ _ _ (1 + 1) _ _ _; refine wpAny_one 6 (by kernel_rfl) ?_; refine wpOp_now rfl (by rfl) ?_
   refine wp_append_own_spare w3 _ _ _ rfl base 43 _ 9 (by kernel_rfl) (by rfl) (by rfl) g i (cap) (cs.take (i * 9)) rfl (ownsRow_pre (ownsRow_ext HO.out hB) (Nat.le_of_lt hi)) ⟨g, (i + 1) * 9, none⟩ m (cap - (i + 1)) (cs.drop ((i + 1) * 9)) ?_ HDL.out (HNW.out w3 hB ⟨g, (i + 1) * 9, none⟩ (fun _ => rfl)) (fun u hu => H1.out u (List.mem_of_mem_drop hu)) (by have := HM.out; omega) ?_
   · go_simp; try (have := HM.out; omega)
   intro w4 ho4 hg4; have hnim : n - (i + m) = 1 := by have := HM.out; omega
   have hnec : ¬ cap = i + m := by have := HM.out; omega
   have r1 : ((i + m : Nat) : Int) ≤ ((n : Nat) : Int) := by have := HM.out; omega
   have r2 : (0 : Int) ≤ ((i + m : Nat) : Int) := by omega
   have HO4 := Hd ho4; have HK4 := Hd ((KeptP.ofExt hB).trans (KeptP.ofGrown hg4)); have HG4 := Hd (Nat.lt_of_lt_of_le HGL.out (Nat.le_trans hB.size hg4.size)); have HCC : Hid (∀ j, j < 9 → (w4.cell? ⟨g, (i + m) * 9 + j, none⟩).isSome = true ∧ w4.frozen? ⟨g, (i + m) * 9 + j, none⟩ = false) := Hd (fun j hj => by
    obtain ⟨g', cap', cur4, e0, -, hg, -, -, hcs, -⟩ := ho4.2.resolve_left (fun h => by cases h.1); simp only [Value.slice.injEq, Option.some.injEq, Addr.mk.injEq, and_true, true_and] at e0; obtain ⟨rfl, rfl⟩ := e0; have hm := HM.out; refine ⟨?_, free_of_cells hg⟩; rw [cell_of_cells hg]; have : (i + m) * 9 + j < cur4.size := by rw [hcs]; omega
    simp [this])
   have HCLR := Hd (fun ty => delM_clear w4 ty g ((i + m) * 9) (cap - (i + m)) (fun j hj => (HCC.out j hj).1) (fun j hj => (HCC.out j hj).2)); clear ho4 hg4 hB; refine wpAny_one 7 (by kernel_rfl) ?_; refine wpOp_now rfl (by rfl) ?_; unfold Oper.wp; go_simp; show wpAny _ _ _ _ 0 _ _ _; refine ⟨by decide +kernel, ?_⟩; have hclr := HCLR.out; go_wp2_with fail; go_ret
   have hnm : n - 1 = i + m := by have := HM.out; omega
   try rw [hnm]
   have HR4 : Hid (RowAt w4 (fun b => b = g) 9 (.slice (some ⟨g, 0, none⟩) (i + m) (cap)) (i + m) (cs.take (i * 9) ++ cs.drop ((i + 1) * 9))) := Hd (RowAt.own HO4.out (by decide) (fun b e _ _ => by simpa [Value.ownBlock, eq_comm] using e)); refine ⟨rfl, ?_, HK4.out.trans (KeptP.setCells _ _ _)⟩; obtain ⟨h0, a', c', e1, h2, h3, h4⟩ := HR4.out; refine ⟨h0, a', c', e1, h2, h3, fun hp => ?_⟩
   obtain ⟨g2, o2, e2, hA, hlt, hc2⟩ := h4 hp; simp only [Value.slice.injEq] at e1; obtain ⟨rfl, -, rfl⟩ := e1; simp only [Option.some.injEq, Addr.mk.injEq, and_true] at e2; obtain ⟨rfl, rfl⟩ := e2; refine ⟨g, 0, rfl, rfl, Nat.lt_of_lt_of_le hlt (KeptP.setCells (g := g) _ _ w4).size, fun j hj => ?_⟩; rw [World.cell?_setCells_out g _ _ w4 _ (fun _ _ => .inl (by simp only; have := h0; omega))]
   exact hc2 j hj
theorem delL_clear (w : World) (ty : TypeId) (b o c : Nat) (hc : ∀ j, j < 8 → (w.cell? ⟨b, o + j, none⟩).isSome = true) (hf : ∀ j, j < 8 → w.frozen? ⟨b, o + j, none⟩ = false) :
 (Builtin.clear_ #[24] ty #[.slice (some ⟨b, o, none⟩) 1 c]).run Tryz.prog w = .ok (.tuple #[]) (w.setCells b o [.int .i64 0, .bool false, .bool false, .string ⟨#[]⟩, .int .i64 0, .string ⟨#[]⟩, .slice none 0 0, .slice none 0 0]) := by
 have hv : ∀ w, (zeroValue 27).run Tryz.prog w = .ok (.agg #[.int .i64 0, .bool false, .bool false, .string ⟨#[]⟩, .int .i64 0, .string ⟨#[]⟩, .slice none 0 0, .slice none 0 0]) w := fun w => by kernel_rfl
 have hzc : (Builtin.zeroCells (Value.agg #[.int .i64 0, .bool false, .bool false, .string ⟨#[]⟩, .int .i64 0, .string ⟨#[]⟩, .slice none 0 0, .slice none 0 0]).cells 1).toList = [.int .i64 0, .bool false, .bool false, .string ⟨#[]⟩, .int .i64 0, .string ⟨#[]⟩, .slice none 0 0, .slice none 0 0] := by rw [zeroCells_one]; kernel_rfl
 have hst := run_storeCells_cells (P := Tryz.prog) b o [.int .i64 0, .bool false, .bool false, .string ⟨#[]⟩, .int .i64 0, .string ⟨#[]⟩, .slice none 0 0, .slice none 0 0] 0 w (by simpa using hc) (by simpa using hf) (by intro u hu; simp at hu; rcases hu with rfl | rfl | rfl | rfl | rfl | rfl | rfl | rfl <;> rfl); simp only [Nat.add_zero] at hst
 simp [Builtin.clear_, run_underlying Tryz.underlying24, hv, hzc, hst]
set_option maxHeartbeats 3200000 in
theorem delL_any (base g cap n i : Nat) (cs : List Value) (w : World) (hown : w.ownsRow base 27 8 (.slice (some ⟨g, 0, none⟩) n cap) n cs) (h1 : ∀ u ∈ cs, u.oneCell' = true) (hi : i < n) (hn : n ≤ 1000000) :
 Calls Tryz.prog 60 #[.slice (some ⟨g, 0, none⟩) n cap, .int .i64 i, .int .i64 (i + 1 : Nat)] w (fun e w' => e = .returned (.slice (some ⟨g, 0, none⟩) (n - 1) cap) ∧ RowAt w' (fun b => b = g) 8 (.slice (some ⟨g, 0, none⟩) (n - 1) cap) (n - 1) (cs.take (i * 8) ++ cs.drop ((i + 1) * 8)) ∧ KeptP g w w') := by
 have HO := Hd hown; have H1 := Hd h1; obtain ⟨hcl, hblk⟩ := hown; obtain ⟨g', cap', cur, e0, hbg, hg, hnc, hcm, hcs, htk⟩ := hblk.resolve_left (fun h => by cases h.1); simp only [Value.slice.injEq, Option.some.injEq, Addr.mk.injEq, and_true, true_and] at e0; obtain ⟨rfl, rfl⟩ := e0; have HCUR := Hd hg; have HTK := Hd htk; have hgl := (Array.getElem?_eq_some_iff.1 hg).1; have HGL := Hd hgl
 have HBG := Hd hbg; have HCS := Hd hcs; have HCL := Hd hcl; clear hg htk hgl hbg hcs hcl hblk h1; obtain ⟨m, hm⟩ : ∃ m, n = i + 1 + m := ⟨n - (i + 1), by omega⟩
 have q0 : (0 : Int) ≤ (i : Int) := by omega
 have q1 : (i : Int) ≤ (i : Int) + 1 := by omega
 have q2 : (i : Int) + 1 ≤ (n : Int) := by omega
 have q3 : (n : Int) ≤ (cap : Int) := by omega
 have q4 : (i : Int) ≤ (cap : Int) := by omega
 have q5 : ((i : Int) == (i : Int) + 1) = false := by simp; omega
 have HM := Hd hm; clear hm; go_enter Tryz.func60, Tryz.ntmps60
 go_upto_region 5 with fail; have HNW : Hid (∀ w', Ext w w' → ∀ (a : Addr), (i + 1 < n → a = ⟨g, (i + 1) * 8, none⟩) → ∀ j u, (cs.drop ((i + 1) * 8))[j]? = some u → w'.cell? (a.add j) = some u) := Hd (fun w' hw a ha j u hu => by
  have hj : (i + 1) * 8 + j < cs.length := by
   rw [List.getElem?_drop] at hu; exact (List.getElem?_eq_some_iff.1 hu).1
  have hcl := HCL.out; rw [ha (by omega)]; rw [List.getElem?_drop, ← HTK.out, List.getElem?_take] at hu; split at hu
  · rw [show (⟨g, (i + 1) * 8, none⟩ : Addr).add j = ⟨g, (i + 1) * 8 + j, none⟩ by simp only [Addr.add]; split <;> simp_all]; rw [World.cell?_of_block (w := w) (a := ⟨g, (i + 1) * 8 + j, none⟩) (hw.block g HGL.out), cell_of_cells HCUR.out]; simpa using hu
  · cases hu)
 have HDL : Hid ((cs.drop ((i + 1) * 8)).length = m * 8) := Hd (by rw [List.length_drop, HCL.out, HM.out]; omega); by_cases hc : cap = i + 1
 · subst hc; obtain rfl : n = i + 1 := by omega
   obtain rfl : m = 0 := by have := HM.out; omega
   refine GrowS.wp_region_restTA (G := fun _ => Ext) (B := fun _ w' => Ext w w') (E := fun _ _ => False) (anc := fun _ => []) (Inv := fun _ w' => Ext w w') (I := fun j _ => none)
    6 (fun j => ([[], [], [0, 1], [], [], [3, 4], [0, 1, 2, 3, 4, 5], [0, 1, 2, 3, 4, 5]] : List (List Nat)).getD j []) #[true, true, true, true, true, true, false, false] (fun _ _ _ _ _ _ _ _ _ _ => rfl) (by kernel_rfl) (by kernel_rfl) (by kernel_rfl) (GrowS.inv_const fun _ _ h hg => ext_trans h hg) ?_ ?_ ?_
   · exact fun _ _ _ _ h => h.elim
   · exact (ext_refl _).drew
   refine GrowS.Wk.out ?_; simp only [List.take_succ_cons, List.take_zero, List.drop_succ_cons, List.drop_zero]; repeat
    (refine GrowS.Wk.step (fun K hK => ?_)
     first
     | (refine GrowS.step_read (by rfl) (by rfl) (fun w => ext_refl w) ?_
        apply Exists.intro; refine ⟨fun w hB hF => ?_, ?_⟩
        · skip
          go_simp; try exact rfl
        go_simp; refine hK _ _ ?_; clear hK K)
     | (refine GrowS.step_off (by rfl) ?_
        go_simp; refine hK _ _ ?_; clear hK K))
   refine GrowS.Wk.nil ?_; intro w3 hB hF; replace hB : Ext w w3 := hB; clear hF; show wpAny _ _ _ _ (1 + 1) _ _ _; refine wpAny_one 6 (by kernel_rfl) ?_; refine wpOp_now rfl (by rfl) ?_
   refine wp_append_own_spare w3 _ _ _ rfl base 27 _ 8 (by kernel_rfl) (by rfl) (by rfl) g i (i + 1) (cs.take (i * 8)) rfl (ownsRow_pre (ownsRow_ext HO.out hB) (Nat.le_of_lt hi)) ⟨g, 0, none⟩ 0 (i + 1 - (i + 1)) (cs.drop ((i + 1) * 8)) ?_ HDL.out (HNW.out w3 hB ⟨g, 0, none⟩ (fun h => absurd h (by omega))) (fun u hu => H1.out u (List.mem_of_mem_drop hu)) (by have := HM.out; omega) ?_
   · go_simp; try (have := HM.out; omega)
   intro w4 ho4 hg4; have hnim : (i + 1) - (i) = 1 := by have := HM.out; omega
   have hnec : ¬ i + 1 = i := by have := HM.out; omega
   have r1 : ((i : Nat) : Int) ≤ (((i + 1) : Nat) : Int) := by have := HM.out; omega
   have r2 : (0 : Int) ≤ ((i : Nat) : Int) := by omega
   have HO4 := Hd ho4; have HK4 := Hd ((KeptP.ofExt hB).trans (KeptP.ofGrown hg4)); have HG4 := Hd (Nat.lt_of_lt_of_le HGL.out (Nat.le_trans hB.size hg4.size)); have HCC : Hid (∀ j, j < 8 → (w4.cell? ⟨g, (i) * 8 + j, none⟩).isSome = true ∧ w4.frozen? ⟨g, (i) * 8 + j, none⟩ = false) := Hd (fun j hj => by
    obtain ⟨g', cap', cur4, e0, -, hg, -, -, hcs, -⟩ := ho4.2.resolve_left (fun h => by cases h.1); simp only [Value.slice.injEq, Option.some.injEq, Addr.mk.injEq, and_true, true_and] at e0; obtain ⟨rfl, rfl⟩ := e0; have hm := HM.out; refine ⟨?_, free_of_cells hg⟩; rw [cell_of_cells hg]; have : (i) * 8 + j < cur4.size := by rw [hcs]; omega
    simp [this])
   have HCLR := Hd (fun ty => delL_clear w4 ty g ((i) * 8) (1) (fun j hj => (HCC.out j hj).1) (fun j hj => (HCC.out j hj).2)); clear ho4 hg4 hB; refine wpAny_one 7 (by kernel_rfl) ?_; refine wpOp_now rfl (by rfl) ?_; unfold Oper.wp; go_simp; show wpAny _ _ _ _ 0 _ _ _; refine ⟨by decide +kernel, ?_⟩; have hclr := HCLR.out; go_wp2_with fail; go_ret
   have hnm : (i + 1) - 1 = i := by have := HM.out; omega
   try rw [hnm]
   have HR4 : Hid (RowAt w4 (fun b => b = g) 8 (.slice (some ⟨g, 0, none⟩) (i) (i + 1)) (i) (cs.take (i * 8) ++ cs.drop ((i + 1) * 8))) := Hd (RowAt.own HO4.out (by decide) (fun b e _ _ => by simpa [Value.ownBlock, eq_comm] using e)); refine ⟨rfl, ?_, HK4.out.trans (KeptP.setCells _ _ _)⟩; obtain ⟨h0, a', c', e1, h2, h3, h4⟩ := HR4.out; refine ⟨h0, a', c', e1, h2, h3, fun hp => ?_⟩
   obtain ⟨g2, o2, e2, hA, hlt, hc2⟩ := h4 hp; simp only [Value.slice.injEq] at e1; obtain ⟨rfl, -, rfl⟩ := e1; simp only [Option.some.injEq, Addr.mk.injEq, and_true] at e2; obtain ⟨rfl, rfl⟩ := e2; refine ⟨g, 0, rfl, rfl, Nat.lt_of_lt_of_le hlt (KeptP.setCells (g := g) _ _ w4).size, fun j hj => ?_⟩; rw [World.cell?_setCells_out g _ _ w4 _ (fun _ _ => .inl (by simp only; have := h0; omega))]
   exact hc2 j hj
 · refine GrowS.wp_region_restTA (G := fun _ => Ext) (B := fun _ w' => Ext w w') (E := fun _ _ => False) (anc := fun _ => []) (Inv := fun _ w' => Ext w w') (I := fun j _ => none)
    6 (fun j => ([[], [], [0, 1], [], [], [3, 4], [0, 1, 2, 3, 4, 5], [0, 1, 2, 3, 4, 5]] : List (List Nat)).getD j []) #[true, true, true, true, true, true, false, false] (fun _ _ _ _ _ _ _ _ _ _ => rfl) (by kernel_rfl) (by kernel_rfl) (by kernel_rfl) (GrowS.inv_const fun _ _ h hg => ext_trans h hg) ?_ ?_ ?_
   · exact fun _ _ _ _ h => h.elim
   · exact (ext_refl _).drew
   refine GrowS.Wk.out ?_; simp only [List.take_succ_cons, List.take_zero, List.drop_succ_cons, List.drop_zero]; repeat
    (refine GrowS.Wk.step (fun K hK => ?_)
     first
     | (refine GrowS.step_read (by rfl) (by rfl) (fun w => ext_refl w) ?_
        apply Exists.intro; refine ⟨fun w hB hF => ?_, ?_⟩
        · skip
          go_simp; try exact rfl
        go_simp; refine hK _ _ ?_; clear hK K)
     | (refine GrowS.step_off (by rfl) ?_
        go_simp; refine hK _ _ ?_; clear hK K))
   refine GrowS.Wk.nil ?_; intro w3 hB hF; replace hB : Ext w w3 := hB; clear hF; show wpAny _ _ _ _ (1 + 1) _ _ _; refine wpAny_one 6 (by kernel_rfl) ?_; refine wpOp_now rfl (by rfl) ?_
   refine wp_append_own_spare w3 _ _ _ rfl base 27 _ 8 (by kernel_rfl) (by rfl) (by rfl) g i (cap) (cs.take (i * 8)) rfl (ownsRow_pre (ownsRow_ext HO.out hB) (Nat.le_of_lt hi)) ⟨g, (i + 1) * 8, none⟩ m (cap - (i + 1)) (cs.drop ((i + 1) * 8)) ?_ HDL.out (HNW.out w3 hB ⟨g, (i + 1) * 8, none⟩ (fun _ => rfl)) (fun u hu => H1.out u (List.mem_of_mem_drop hu)) (by have := HM.out; omega) ?_
   · go_simp; try (have := HM.out; omega)
   intro w4 ho4 hg4; have hnim : n - (i + m) = 1 := by have := HM.out; omega
   have hnec : ¬ cap = i + m := by have := HM.out; omega
   have r1 : ((i + m : Nat) : Int) ≤ ((n : Nat) : Int) := by have := HM.out; omega
   have r2 : (0 : Int) ≤ ((i + m : Nat) : Int) := by omega
   have HO4 := Hd ho4; have HK4 := Hd ((KeptP.ofExt hB).trans (KeptP.ofGrown hg4)); have HG4 := Hd (Nat.lt_of_lt_of_le HGL.out (Nat.le_trans hB.size hg4.size)); have HCC : Hid (∀ j, j < 8 → (w4.cell? ⟨g, (i + m) * 8 + j, none⟩).isSome = true ∧ w4.frozen? ⟨g, (i + m) * 8 + j, none⟩ = false) := Hd (fun j hj => by
    obtain ⟨g', cap', cur4, e0, -, hg, -, -, hcs, -⟩ := ho4.2.resolve_left (fun h => by cases h.1); simp only [Value.slice.injEq, Option.some.injEq, Addr.mk.injEq, and_true, true_and] at e0; obtain ⟨rfl, rfl⟩ := e0; have hm := HM.out; refine ⟨?_, free_of_cells hg⟩; rw [cell_of_cells hg]; have : (i + m) * 8 + j < cur4.size := by rw [hcs]; omega
    simp [this])
   have HCLR := Hd (fun ty => delL_clear w4 ty g ((i + m) * 8) (cap - (i + m)) (fun j hj => (HCC.out j hj).1) (fun j hj => (HCC.out j hj).2)); clear ho4 hg4 hB; refine wpAny_one 7 (by kernel_rfl) ?_; refine wpOp_now rfl (by rfl) ?_; unfold Oper.wp; go_simp; show wpAny _ _ _ _ 0 _ _ _; refine ⟨by decide +kernel, ?_⟩; have hclr := HCLR.out; go_wp2_with fail; go_ret
   have hnm : n - 1 = i + m := by have := HM.out; omega
   try rw [hnm]
   have HR4 : Hid (RowAt w4 (fun b => b = g) 8 (.slice (some ⟨g, 0, none⟩) (i + m) (cap)) (i + m) (cs.take (i * 8) ++ cs.drop ((i + 1) * 8))) := Hd (RowAt.own HO4.out (by decide) (fun b e _ _ => by simpa [Value.ownBlock, eq_comm] using e)); refine ⟨rfl, ?_, HK4.out.trans (KeptP.setCells _ _ _)⟩; obtain ⟨h0, a', c', e1, h2, h3, h4⟩ := HR4.out; refine ⟨h0, a', c', e1, h2, h3, fun hp => ?_⟩
   obtain ⟨g2, o2, e2, hA, hlt, hc2⟩ := h4 hp; simp only [Value.slice.injEq] at e1; obtain ⟨rfl, -, rfl⟩ := e1; simp only [Option.some.injEq, Addr.mk.injEq, and_true] at e2; obtain ⟨rfl, rfl⟩ := e2; refine ⟨g, 0, rfl, rfl, Nat.lt_of_lt_of_le hlt (KeptP.setCells (g := g) _ _ w4).size, fun j hj => ?_⟩; rw [World.cell?_setCells_out g _ _ w4 _ (fun _ _ => .inl (by simp only; have := h0; omega))]
   exact hc2 j hj
theorem flat_len {z : Nat} : ∀ {ms : List (List Value)}, (∀ c ∈ ms, c.length = z) → ms.flatten.length = ms.length * z
 | [], _ => by simp
 | c :: ms, h => by
   rw [List.flatten_cons, List.length_append, h c List.mem_cons_self, flat_len (fun x hx => h x (List.mem_cons_of_mem _ hx)), List.length_cons, Nat.add_mul]; omega
theorem flat_cut {z : Nat} {ms : List (List Value)} (h : ∀ c ∈ ms, c.length = z) {k : Nat} (hk : k ≤ ms.length) : (ms.take k).flatten = ms.flatten.take (k * z) ∧ (ms.drop k).flatten = ms.flatten.drop (k * z) := by
 have h1 : (ms.take k).flatten.length = k * z := by
  rw [flat_len (fun c hc => h c (List.mem_of_mem_take hc)), List.length_take]; congr 1; omega
 have h2 : ms.flatten = (ms.take k).flatten ++ (ms.drop k).flatten := by rw [← List.flatten_append, List.take_append_drop]
 rw [h2]; exact ⟨by rw [← h1, List.take_left], by rw [← h1, List.drop_left]⟩
theorem RowAt.take {w : World} {A : Nat → Prop} {z n k cap : Nat} {a : Option Addr} {cs : List Value} (h : RowAt w A z (.slice a n cap) n cs) (hk : k ≤ n) : RowAt w A z (.slice a k cap) k (cs.take (k * z)) := by
 obtain ⟨h0, a', c', e, h1, h2, h3⟩ := h; simp only [Value.slice.injEq] at e; obtain ⟨rfl, -, rfl⟩ := e; have hm : k * z ≤ n * z := Nat.mul_le_mul_right z hk; refine ⟨by rw [List.length_take]; omega, _, _, rfl, by omega, h2, fun hp => ?_⟩; obtain ⟨g, o, e, hA, hg, hc⟩ := h3 (by omega); exact ⟨g, o, e, hA, hg, fun i hi => by rw [List.length_take] at hi; rw [List.getElem_take]; exact hc i (by omega)⟩
theorem RowAt.drop {w : World} {A : Nat → Prop} {z n k cap : Nat} {a a' : Option Addr} {cs : List Value} (h : RowAt w A z (.slice a n cap) n cs) (hk : k ≤ n) (ha : ∀ g o, a = some ⟨g, o, none⟩ → k < n → a' = some ⟨g, o + k * z, none⟩) : RowAt w A z (.slice a' (n - k) (cap - k)) (n - k) (cs.drop (k * z)) := by
 obtain ⟨h0, a1, c', e, h1, h2, h3⟩ := h; simp only [Value.slice.injEq] at e; obtain ⟨rfl, -, rfl⟩ := e; have hm : k * z ≤ n * z := Nat.mul_le_mul_right z hk; refine ⟨by rw [List.length_drop, Nat.sub_mul]; omega, _, _, rfl, by omega, by omega, fun hp => ?_⟩; obtain ⟨g, o, e, hA, hg, hc⟩ := h3 (by omega); refine ⟨g, o + k * z, ha g o e (by omega), hA, hg, fun i hi => ?_⟩; rw [List.length_drop] at hi
 rw [List.getElem_drop, Nat.add_assoc]; exact hc (k * z + i) (by omega)
theorem TMc.take {w : World} {A : Nat → Prop} {l : List Mem1} {ms : List (List Value)} (h : TMc w A l ms) (k : Nat) : TMc w A (l.take k) (ms.take k) :=
 ⟨by rw [List.length_take, List.length_take, h.1], fun i hi hi' => by
   rw [List.getElem_take, List.getElem_take]; rw [List.length_take] at hi hi'; exact h.2 i (by omega) (by omega)⟩
theorem TMc.drop {w : World} {A : Nat → Prop} {l : List Mem1} {ms : List (List Value)} (h : TMc w A l ms) (k : Nat) : TMc w A (l.drop k) (ms.drop k) :=
 ⟨by rw [List.length_drop, List.length_drop, h.1], fun i hi hi' => by
   rw [List.getElem_drop, List.getElem_drop]; rw [List.length_drop] at hi hi'; exact h.2 (k + i) (by omega) (by omega)⟩
theorem TMc.one {w : World} {A : Nat → Prop} {k : List UInt8} {x : Tree} {c : Array Value} (h : TV w A x c) : TMc w A [(k, x)] [.string ⟨k.toArray⟩ :: c.toList] :=
 ⟨rfl, fun i hi hi' => by
   obtain rfl : i = 0 := by simpa using hi
   exact ⟨c, h, rfl⟩⟩
theorem flat_erase {z : Nat} {ms : List (List Value)} (h : ∀ c ∈ ms, c.length = z) {i : Nat} (hi : i < ms.length) : (ms.eraseIdx i).flatten = ms.flatten.take (i * z) ++ ms.flatten.drop ((i + 1) * z) := by
 rw [List.eraseIdx_eq_take_drop_succ, List.flatten_append, (flat_cut h (Nat.le_of_lt hi)).1, (flat_cut h (k := i + 1) hi).2]
theorem TMc.erase {w : World} {A : Nat → Prop} {l : List Mem1} {ms : List (List Value)} (h : TMc w A l ms) {i : Nat} : TMc w A (l.eraseIdx i) (ms.eraseIdx i) :=
 ⟨by rw [List.length_eraseIdx, List.length_eraseIdx, h.1], fun j hj hj' => by
   rw [List.getElem_eraseIdx, List.getElem_eraseIdx]; have h1 := List.length_eraseIdx (l := l) (i := i); have h2 := h.1; by_cases hji : j < i
   · simp only [hji, dif_pos]; exact h.2 j (by split at h1 <;> omega) (by split at h1 <;> omega)
   · simp only [hji, dif_neg, not_false_eq_true]; exact h.2 (j + 1) (by split at h1 <;> omega) (by split at h1 <;> omega)⟩
theorem TLc.erase {w : World} {A : Nat → Prop} {l : List Tree} {ms : List (List Value)} (h : TLc w A l ms) {i : Nat} : TLc w A (l.eraseIdx i) (ms.eraseIdx i) :=
 ⟨by rw [List.length_eraseIdx, List.length_eraseIdx, h.1], fun j hj hj' => by
   rw [List.getElem_eraseIdx, List.getElem_eraseIdx]; have h1 := List.length_eraseIdx (l := l) (i := i); have h2 := h.1; by_cases hji : j < i
   · simp only [hji, dif_pos]; exact h.2 j (by split at h1 <;> omega) (by split at h1 <;> omega)
   · simp only [hji, dif_neg, not_false_eq_true]; exact h.2 (j + 1) (by split at h1 <;> omega) (by split at h1 <;> omega)⟩
set_option maxHeartbeats 12800000 in
theorem drop1_does (w0 : World) : DoesF dropF 58 #[] (fun _ => False) w0 := by
 intro A t c s w hw0 h hwt hpos hkS; obtain ⟨R, hR⟩ := Ex (dropF t s (Orange.stepT t s).isSome); rw [hR]; have HR := Hd hR; clear hR; obtain ⟨k, b, d, ss, la, ln, lc, ma, mn, mc, rfl⟩ := h.eight; obtain ⟨cl, cm, htl, hrl, htm, hrm, hk, hb, hd1, hd2, hd3, hss⟩ := tv_rows h; obtain ⟨_, a1, c1, ea, hl1, hl2, -⟩ := id hrl; simp only [Value.slice.injEq] at ea; obtain ⟨rfl, eln, rfl⟩ := ea; subst eln
 obtain ⟨_, a2, c2, ea, hm1, hm2, -⟩ := id hrm; simp only [Value.slice.injEq] at ea; obtain ⟨rfl, emn, rfl⟩ := ea; subst emn; obtain ⟨wA, ewA⟩ : ∃ W, w.alloc (.cells (cellsV k b d ss (.slice la t.list.length lc) (.slice ma t.mems.length mc)) 27) = W := ⟨_, rfl⟩
 have nwA : wA.heap[w.heap.size]? = some (.cells (cellsV k b d ss (.slice la t.list.length lc) (.slice ma t.mems.length mc)) 27) := by rw [← ewA]; exact heap_alloc_new _ _
 have xwA : Ext w wA := by rw [← ewA]; exact (ext_refl _).alloc (Nat.le_refl _) _
 have swA : wA.heap.size = w.heap.size + 1 := by rw [← ewA]; simp
 obtain ⟨wB, ewB⟩ : ∃ W, wA.alloc (.cells (cellsS s) 46) = W := ⟨_, rfl⟩
 have nwB : wB.heap[wA.heap.size]? = some (.cells (cellsS s) 46) := by rw [← ewB]; exact heap_alloc_new _ _
 have xwB : Ext wA wB := by rw [← ewB]; exact (ext_refl _).alloc (Nat.le_refl _) _
 have swB : wB.heap.size = wA.heap.size + 1 := by rw [← ewB]; simp
 obtain ⟨wr, ewr⟩ : ∃ W, wB.alloc (.cells zeroV 27) = W := ⟨_, rfl⟩
 have nwr : wr.heap[wB.heap.size]? = some (.cells zeroV 27) := by rw [← ewr]; exact heap_alloc_new _ _
 have xwr : Ext wB wr := by rw [← ewr]; exact (ext_refl _).alloc (Nat.le_refl _) _
 have swr : wr.heap.size = wB.heap.size + 1 := by rw [← ewr]; simp
 have hE := ext_trans (ext_trans xwA xwB) xwr; have HTL := Hd (htl.keep (w' := wr) (A' := fun g => A g ∧ g < w.heap.size) hE.size (fun g hg hlt => ⟨⟨hg, hlt⟩, hE.block g hlt⟩)); have HRL := Hd (hrl.keep (w' := wr) (A' := fun g => A g ∧ g < w.heap.size) hE.size (fun g hg hlt => ⟨⟨hg, hlt⟩, hE.block g hlt⟩))
 have HTM := Hd (htm.keep (w' := wr) (A' := fun g => A g ∧ g < w.heap.size) hE.size (fun g hg hlt => ⟨⟨hg, hlt⟩, hE.block g hlt⟩)); have HRM := Hd (hrm.keep (w' := wr) (A' := fun g => A g ∧ g < w.heap.size) hE.size (fun g hg hlt => ⟨⟨hg, hlt⟩, hE.block g hlt⟩)); rw [swA] at nwB; rw [swB, swA] at nwr
 have HC : Hid (VAt wr w.heap.size (cellsV k b d ss (.slice la t.list.length lc) (.slice ma t.mems.length mc))) := Hd (VAt.ext (VAt.ext nwA xwB) xwr); have HSP : Hid (SpAt wr (w.heap.size + 1) s) := Hd (SpAt.ext nwB xwr); have HV2 : Hid (VAt wr (w.heap.size + 1 + 1) zeroV) := Hd nwr; have HE := Hd hE
 have HTK : Hid (k = t.kind ∧ b = t.bit ∧ d.neg = t.num.neg ∧ d.digits = t.num.digits ∧ d.exp = t.num.exp ∧ ss = t.str) := Hd ⟨hk, hb, hd1, hd2, hd3, hss⟩; have HKS := Hd hkS; have EA := Hd ewA; have EB := Hd ewB; have EC := Hd ewr; have hlen : t.list.length ≤ 1000000 ∧ t.mems.length ≤ 1000000 := by
  have h1 := countT_ins t; have h2 := countL_len t.ins; have h3 := ins_len t; have h4 := count_weight t; exact ⟨by omega, by omega⟩
 obtain ⟨hll, hml⟩ := hlen; clear hk hb hd1 hd2 hd3 hss htl hrl htm hrm h hE nwA nwB nwr xwA xwB xwr swA swB swr ewA ewB ewr hw0 hkS hwt; obtain ⟨L, hL⟩ := Ex t.list; obtain ⟨M, hM⟩ := Ex t.mems; rw [hL] at HTL HRL HC EA hl1 hll ⊢; rw [hM] at HTM HRM HC EA hm1 hml ⊢; have HLe := Hd hL; have HMe := Hd hM; clear hL hM; simp only [cellsV, zeroV, noL, Num.zero, cellsS] at HC HV2 HSP EA EB EC ⊢
 obtain ⟨OK, hOK⟩ := Ex ((Orange.stepT t s).isSome); have hr := HR.out; rw [hOK] at hr ⊢; replace HR := Hd hr; have HOK := Hd hOK; clear hr hOK; go_enter Tryz.func58, Tryz.ntmps58
 go_upto_region 2 with fail; rw [EA.out, EB.out, EC.out]; obtain ⟨S, hS⟩ := Ex w.heap.size; rw [hS] at HC HV2 HSP HTL HRL HTM HRM ⊢; have HS := Hd hS; clear hS EA EB EC; obtain ⟨P0, hP⟩ := Ex wr.heap.size; have hP0 : S + 2 < P0 := by rw [← hP]; exact HV2.out.lt
 have HP0 := Hd hP; clear hP; cases OK with
 | false =>
   replace HR : Hid (R = (tNull, 6)) := Hd (by rw [← HR.out]; unfold dropF; rw [if_pos rfl]); obtain ⟨y0, y1, y2, y3, y4, y5, y6, y7⟩ := HV2.out.c8; obtain ⟨z0, z1, z2, z3, z4, z5, z6, z7⟩ := HV2.out.f8; go_wp2_with fail; have hV := VAt.store8 HV2.out (.int .i64 0) (.bool false) (.bool false) (.string ⟨#[]⟩) (.int .i64 0) (.string ⟨#[]⟩) (.slice none 0 0) (.slice none 0 0); have HV := Hd hV
   obtain ⟨v0, v1, v2, v3, v4, v5, v6, v7⟩ := HV.out.c8; refine bodyPost_ret (v := .tuple #[.agg #[.int .i64 0, .bool false, .bool false, .string ⟨#[]⟩, .int .i64 0, .string ⟨#[]⟩, .slice none 0 0, .slice none 0 0], .int .i64 6]) (by simp [results, Tryz.results58, go_sem, v0, v1, v2, v3, v4, v5, v6, v7]) rfl ?_; rw [HR.out]
   exact ⟨_, rfl, TV.leaf _ _ 0 false Num.zero [], ext_set8 HE.out (by rw [HS.out]; omega)⟩
 | true =>
   obtain ⟨s0, s1, s2⟩ := HSP.out.cell; cases hn : s.named with
   | true =>
     obtain ⟨i, hix, HI⟩ : ∃ i, ∃ h : i < M.length, Hid (fIdx (hasKey s.name) M = i ∧ dropM s.name M = M.eraseIdx i) := by
      have h1 := HOK.out; unfold Orange.stepT getT at h1; rw [if_pos hn, HMe.out] at h1; rcases find_idx s.name M with ⟨hf, hi⟩ | ⟨i, hlt, hi, hk, hf, hse, hdr⟩
      · rw [hf] at h1; split at h1 <;> simp at h1
      · exact ⟨i, hlt, Hd ⟨hi, hdr⟩⟩
     replace HR : Hid (R = (t.withM (M.eraseIdx i), 0)) := Hd (by rw [← HR.out]; unfold dropF; rw [if_neg (by decide), if_pos hn, HMe.out, HI.out.2]); rw [hn] at s2; clear hn; have HPL := Hd (place_any s.name (.slice ma M.length mc) M cm (fun _ => True) wr (HRM.out.keep (Nat.le_refl _) (fun g _ _ => ⟨trivial, rfl⟩)) (HTM.out.keep (A' := fun _ => True) (Nat.le_refl _) (fun g _ _ => ⟨trivial, rfl⟩)))
     rw [HI.out.1] at HPL; have c7 := HC.out.cell 7; simp at c7; go_wp2_with fail; refine (HPL.out).mono ?_; rintro e w3 ⟨rfl, hw3⟩; have HCM := Hd (cloneM_any (.slice ma M.length mc) M.length cm (fun _ => True) w3 (HRM.out.keep hw3.size (fun g _ hlt => ⟨trivial, hw3.block g hlt⟩)) (TM.one HTM.out) hml); clear c7 s0 s1 s2 HPL; have c7 := (HC.out.ext hw3).cell 7; simp at c7; go_wp2_with fail
     refine (HCM.out).mono ?_; rintro e w4 ⟨v', rfl, hown, hw4'⟩; have hw4 := ext_trans hw3 hw4'; obtain ⟨hl0, hblk⟩ := id hown; obtain ⟨g, oc, cur, rfl, hbg, -⟩ := hblk.resolve_left (fun h => by have := h.2; omega); have hg0 : P0 ≤ g := by have := HP0.out; have := hw3.size; omega
     have HDL := Hd (delM_any w3.heap.size g oc M.length i cm w4 hown (TM.one HTM.out) hix hml); obtain ⟨ms, rfl, hmc⟩ := TMc.of HTM.out; have HMC := Hd hmc; have e8 : IntKind.i64.wrap ((i : Int) + 1) = ((i + 1 : Nat) : Int) := by rw [IntWalk.i64_in _ (by omega)]; omega
     clear hmc c7 HCM hown hl0 hblk; go_wp2_with fail; refine (HDL.out).mono ?_; rintro e w5 ⟨rfl, hrow5, hk5⟩; have HKW : Hid (KeptP g wr w5) := Hd ((KeptP.ofExt hw4).trans hk5); have hkq : ∀ q, (A q ∧ q < S) → q < wr.heap.size → ((A q ∧ q < S) ∨ P0 ≤ q) ∧ w5.heap[q]? = wr.heap[q]? := fun q hq hlt => ⟨.inl hq, HKW.out.block q hlt (by have := hq.2; omega)⟩
     have HTN : Hid (TV w5 (fun q => (A q ∧ q < S) ∨ P0 ≤ q) (t.withM (M.eraseIdx i)) (cellsV k b d ss (.slice la L.length lc) (.slice (some ⟨g, 0, none⟩) (M.length - 1) oc))) := Hd (by
      refine tv_withM HTK.out HLe.out (HTL.out.keep HKW.out.size hkq) (HRL.out.keep HKW.out.size hkq) (TMc.tm (HMC.out.keep HKW.out.size hkq).erase) ?_; rw [List.length_eraseIdx, if_pos hix, flat_erase HMC.out.nine (by rw [← HMC.out.1]; exact hix)]; exact hrow5.keep (Nat.le_refl _) (fun q hq _ => ⟨.inr (by rw [hq]; exact hg0), rfl⟩))
     have HV5 := Hd (VAt.kept HC.out HKW.out (by omega)); have HV9 := Hd ((VAt.kept HV2.out HKW.out (by omega)).oth (p := S) (i := 7) (u := .slice (some ⟨g, 0, none⟩) (M.length - 1) oc) (by omega))
     have HVN : Hid (VAt (w5.setCell ⟨S, 7, none⟩ (.slice (some ⟨g, 0, none⟩) (M.length - 1) oc)) S #[.int .i64 k, .bool b, .bool d.neg, .string ⟨d.digits.toArray⟩, .int .i64 d.exp, .string ⟨ss.toArray⟩, .slice la L.length lc, .slice (some ⟨g, 0, none⟩) (M.length - 1) oc]) := Hd (HV5.out.set1 7 (.slice (some ⟨g, 0, none⟩) (M.length - 1) oc))
     have HE9 : Hid (Ext w (w5.setCell ⟨S, 7, none⟩ (.slice (some ⟨g, 0, none⟩) (M.length - 1) oc))) := Hd (ext_keptP (ext_keptP HE.out HKW.out (by have := HS.out; omega)) (KeptP.set _) (by rw [HS.out]; exact Nat.le_refl _)); have f7 := HV5.out.free 7; have q7 := HV5.out.cell 7; simp at q7; clear hkq hrow5 hk5 hw4; go_upto_region 7 with fail; clear q7 f7
     generalize hw6 : w5.setCell ⟨S, 7, none⟩ (.slice (some ⟨g, 0, none⟩) (M.length - 1) oc) = w6 at *; have HTF : Hid (TV w6 (fun q => (A q ∧ q < S) ∨ P0 ≤ q) (t.withM (M.eraseIdx i)) (cellsV k b d ss (.slice la L.length lc) (.slice (some ⟨g, 0, none⟩) (M.length - 1) oc))) := Hd (by
      rw [← hw6]; exact HTN.out.keep (by simp [World.setCell]) (fun q hq hlt => ⟨hq, Below.heap_setCell _ _ _ _ (show q ≠ S by rcases hq with hq | hq; have := hq.2; omega; omega)⟩))
     clear hw6 HTN; obtain ⟨c0, c1, c2, c3, c4, c5, c6, c7⟩ := HVN.out.c8; obtain ⟨y0, y1, y2, y3, y4, y5, y6, y7⟩ := HV9.out.c8; obtain ⟨z0, z1, z2, z3, z4, z5, z6, z7⟩ := HV9.out.f8; go_wp2_with fail
     have hV := VAt.store8 HV9.out (.int .i64 k) (.bool b) (.bool d.neg) (.string ⟨d.digits.toArray⟩) (.int .i64 d.exp) (.string ⟨ss.toArray⟩) (.slice la L.length lc) (.slice (some ⟨g, 0, none⟩) (M.length - 1) oc); have HV := Hd hV; obtain ⟨v0, v1, v2, v3, v4, v5, v6, v7⟩ := HV.out.c8
     refine bodyPost_ret (v := .tuple #[.agg #[.int .i64 k, .bool b, .bool d.neg, .string ⟨d.digits.toArray⟩, .int .i64 d.exp, .string ⟨ss.toArray⟩, .slice la L.length lc, .slice (some ⟨g, 0, none⟩) (M.length - 1) oc], .int .i64 0]) (by simp [results, Tryz.results58, go_sem, v0, v1, v2, v3, v4, v5, v6, v7]) rfl ?_; rw [HR.out]
     exact ⟨_, rfl, HTF.out.keep (by simp [World.setCell]) (fun q hq hlt => ⟨by rcases hq with hq | hq; exact .inl hq.1; exact .inr (.inr (by have := HP0.out; have := HE.out.size; omega)), heap8 (by rcases hq with hq | hq; have := hq.2; omega; omega)⟩), ext_set8 HE9.out (by rw [HS.out]; omega)⟩
   | false =>
     obtain ⟨i, hix, hpi⟩ : ∃ i : Nat, ∃ h : i < L.length, s.pos = i := by
      have h1 := HOK.out; unfold Orange.stepT at h1; rw [if_neg (by rw [hn]; decide), HLe.out] at h1; split at h1
      · next h2 => exact ⟨s.pos.toNat, by omega, by omega⟩
      · simp at h1
     replace HR : Hid (R = (t.withL (L.eraseIdx i), 0)) := Hd (by rw [← HR.out]; unfold dropF; rw [if_neg (by decide), if_neg (by rw [hn]; decide), HLe.out, hpi]; rfl); rw [hn] at s2; rw [hpi] at s1; have HCL : Hid (∀ w', Ext wr w' → Calls Tryz.prog 48 #[.slice la L.length lc] w' (fun e w'' => ∃ v', e = .returned v' ∧ w''.ownsRow w'.heap.size 27 8 v' L.length cl ∧ Ext w' w'')) := Hd (fun w' hw =>
      clone_any _ L.length cl (fun _ => True) w' (HRL.out.keep hw.size (fun g _ hlt => ⟨trivial, hw.block g hlt⟩)) (TL.one HTL.out) hll)
     have HSQ : Hid (∀ w', Ext wr w' → w'.cell? ⟨S + 1, 1, none⟩ = some (.int .i64 i)) := Hd (fun w' hw => by rw [← hpi]; exact ((HSP.out.ext hw).cell).2.1); clear hn hpi; have hih : (i : Int) + 1 ≤ 1000000 := by omega
     have hi0 : (0 : Int) ≤ i := by omega
     go_upto_region 1 with fail; clear s0 s1 s2; refine GrowS.wp_region_restTA (G := fun _ => Ext) (B := fun _ w' => Ext wr w') (E := fun _ _ => False) (anc := fun _ => []) (Inv := fun _ w' => Ext wr w')
      (I := fun j _ => if j = 2 then some (specRow 27 8 L.length cl P0) else none)
      8 (fun j => ([[], [0], [0, 1], [], [3], [], [5], [5, 6], [0, 1, 2, 3, 4, 5, 6, 7], [0, 1, 2, 3, 4, 5, 6, 7], [0, 1, 2, 3, 4, 5, 6, 7]] : List (List Nat)).getD j []) #[true, true, true, true, true, true, true, true, false, false, false] (fun _ _ _ _ _ _ _ _ _ _ => rfl) (by kernel_rfl) (by kernel_rfl) (by kernel_rfl) (GrowS.inv_const fun _ _ h hg => ext_trans h hg) ?_ ?_ ?_
     · exact fun _ _ _ _ h => h.elim
     · exact (ext_refl _).drew
     refine GrowS.Wk.out ?_; simp only [List.take_succ_cons, List.take_zero, List.drop_succ_cons, List.drop_zero]; repeat
      (refine GrowS.Wk.step (fun K hK => ?_)
       first
       | (refine GrowS.step_read (by rfl) (by rfl) (fun w => ext_refl w) ?_
          apply Exists.intro; refine ⟨fun w hB hF => ?_, ?_⟩
          · replace hB : Ext wr w := hB; have HCW := HC.out.ext hB; have c6 := HCW.cell 6; simp at c6; have s1 := HSQ.out w hB; go_simp; try exact rfl
          go_simp; refine hK _ _ ?_; clear hK K)
       | (refine GrowS.step_off (by rfl) ?_
          go_simp; refine hK _ _ ?_; clear hK K))
     refine GrowS.Wk.step (fun K hK => ?_); refine GrowS.step_rel (by rfl) (by rfl) (fun w' hB hF => ?_) (fun v hv => ?_)
     · replace hB : Ext wr w' := hB; go_simp; refine GrowS.relUpon_enter ((HCL.out w' hB).mono ?_); rintro e w'' ⟨v', rfl, hown, hw''⟩; obtain ⟨ov, oc, rfl⟩ := ownsRow_shape hown; exact .inl ⟨_, rfl, hw'', ⟨_, _, rfl⟩, ownsRow_low hown (by have := hB.size; have := HP0.out; omega)⟩
     obtain ⟨ov, oc, rfl⟩ := hv; go_simp; refine hK _ _ ?_; clear hK K; repeat
      (refine GrowS.Wk.step (fun K hK => ?_)
       first
       | (refine GrowS.step_read (by rfl) (by rfl) (fun w => ext_refl w) ?_
          apply Exists.intro; refine ⟨fun w hB hF => ?_, ?_⟩
          · replace hB : Ext wr w := hB; have HCW := HC.out.ext hB; have c6 := HCW.cell 6; simp at c6; have s1 := HSQ.out w hB; go_simp; try exact rfl
          go_simp; refine hK _ _ ?_; clear hK K)
       | (refine GrowS.step_off (by rfl) ?_
          go_simp; refine hK _ _ ?_; clear hK K))
     refine GrowS.Wk.nil ?_; intro w4 hB hF; replace hB : Ext wr w4 := hB; have hown : w4.ownsRow P0 27 8 (.slice ov L.length oc) L.length cl := hF 2; have hw4 := hB; obtain ⟨hl0, hblk⟩ := id hown; obtain ⟨g, oc', cur, ev, hbg, -⟩ := hblk.resolve_left (fun h => by have := h.2; omega); simp only [Value.slice.injEq] at ev; obtain ⟨rfl, -, rfl⟩ := ev; have hg0 : P0 ≤ g := hbg
     have HDL := Hd (delL_any P0 g oc L.length i cl w4 hown (TL.one HTL.out) hix hll); obtain ⟨ms, rfl, hmc⟩ := TLc.of HTL.out; have HMC := Hd hmc; have e8 : IntKind.i64.wrap ((i : Int) + 1) = ((i + 1 : Nat) : Int) := by rw [IntWalk.i64_in _ (by omega)]; omega
     clear hmc hown hl0 hblk hF hB hbg; show wpAny _ _ _ _ (2 + 1) _ _ _; refine wpAny_one 8 (by kernel_rfl) ?_; refine wpOp_now rfl (by rfl) ?_; unfold Oper.wp; go_simp; refine (HDL.out).mono ?_; rintro e w5 ⟨rfl, hrow5, hk5⟩; have HKW : Hid (KeptP g wr w5) := Hd ((KeptP.ofExt hw4).trans hk5)
     have hkq : ∀ q, (A q ∧ q < S) → q < wr.heap.size → ((A q ∧ q < S) ∨ P0 ≤ q) ∧ w5.heap[q]? = wr.heap[q]? := fun q hq hlt => ⟨.inl hq, HKW.out.block q hlt (by have := hq.2; omega)⟩; have HTN : Hid (TV w5 (fun q => (A q ∧ q < S) ∨ P0 ≤ q) (t.withL (L.eraseIdx i)) (cellsV k b d ss (.slice (some ⟨g, 0, none⟩) (L.length - 1) oc) (.slice ma M.length mc))) := Hd (by
      refine tv_withL HTK.out HMe.out (TLc.tl (HMC.out.keep HKW.out.size hkq).erase) ?_ (HTM.out.keep HKW.out.size hkq) (HRM.out.keep HKW.out.size hkq); rw [List.length_eraseIdx, if_pos hix, flat_erase HMC.out.eight (by rw [← HMC.out.1]; exact hix)]; exact hrow5.keep (Nat.le_refl _) (fun q hq _ => ⟨.inr (by rw [hq]; exact hg0), rfl⟩))
     have HV5 := Hd (VAt.kept HC.out HKW.out (by omega)); have HV9 := Hd ((VAt.kept HV2.out HKW.out (by omega)).oth (p := S) (i := 6) (u := .slice (some ⟨g, 0, none⟩) (L.length - 1) oc) (by omega))
     have HVN : Hid (VAt (w5.setCell ⟨S, 6, none⟩ (.slice (some ⟨g, 0, none⟩) (L.length - 1) oc)) S #[.int .i64 k, .bool b, .bool d.neg, .string ⟨d.digits.toArray⟩, .int .i64 d.exp, .string ⟨ss.toArray⟩, .slice (some ⟨g, 0, none⟩) (L.length - 1) oc, .slice ma M.length mc]) := Hd (HV5.out.set1 6 (.slice (some ⟨g, 0, none⟩) (L.length - 1) oc))
     have HE9 : Hid (Ext w (w5.setCell ⟨S, 6, none⟩ (.slice (some ⟨g, 0, none⟩) (L.length - 1) oc))) := Hd (ext_keptP (ext_keptP HE.out HKW.out (by have := HS.out; omega)) (KeptP.set _) (by rw [HS.out]; exact Nat.le_refl _)); have f6 := HV5.out.free 6; have q6 := HV5.out.cell 6; simp at q6; clear hkq hrow5 hk5 hw4; refine wpAny_one 9 (by kernel_rfl) ?_; refine wpOp_now rfl (by rfl) ?_; unfold Oper.wp
     go_simp; refine wpAny_one 10 (by kernel_rfl) ?_; refine wpOp_now rfl (by rfl) ?_; unfold Oper.wp; go_simp; show wpAny _ _ _ _ 0 _ _ _; refine ⟨by decide +kernel, ?_⟩; go_upto_region 7 with fail; clear q6 f6; generalize hw6 : w5.setCell ⟨S, 6, none⟩ (.slice (some ⟨g, 0, none⟩) (L.length - 1) oc) = w6 at *
     have HTF : Hid (TV w6 (fun q => (A q ∧ q < S) ∨ P0 ≤ q) (t.withL (L.eraseIdx i)) (cellsV k b d ss (.slice (some ⟨g, 0, none⟩) (L.length - 1) oc) (.slice ma M.length mc))) := Hd (by
      rw [← hw6]; exact HTN.out.keep (by simp [World.setCell]) (fun q hq hlt => ⟨hq, Below.heap_setCell _ _ _ _ (show q ≠ S by rcases hq with hq | hq; have := hq.2; omega; omega)⟩))
     clear hw6 HTN; obtain ⟨c0, c1, c2, c3, c4, c5, c6, c7⟩ := HVN.out.c8; obtain ⟨y0, y1, y2, y3, y4, y5, y6, y7⟩ := HV9.out.c8; obtain ⟨z0, z1, z2, z3, z4, z5, z6, z7⟩ := HV9.out.f8; go_wp2_with fail
     have hV := VAt.store8 HV9.out (.int .i64 k) (.bool b) (.bool d.neg) (.string ⟨d.digits.toArray⟩) (.int .i64 d.exp) (.string ⟨ss.toArray⟩) (.slice (some ⟨g, 0, none⟩) (L.length - 1) oc) (.slice ma M.length mc); have HV := Hd hV; obtain ⟨v0, v1, v2, v3, v4, v5, v6, v7⟩ := HV.out.c8
     refine bodyPost_ret (v := .tuple #[.agg #[.int .i64 k, .bool b, .bool d.neg, .string ⟨d.digits.toArray⟩, .int .i64 d.exp, .string ⟨ss.toArray⟩, .slice (some ⟨g, 0, none⟩) (L.length - 1) oc, .slice ma M.length mc], .int .i64 0]) (by simp [results, Tryz.results58, go_sem, v0, v1, v2, v3, v4, v5, v6, v7]) rfl ?_; rw [HR.out]
     exact ⟨_, rfl, HTF.out.keep (by simp [World.setCell]) (fun q hq hlt => ⟨by rcases hq with hq | hq; exact .inl hq.1; exact .inr (.inr (by have := HP0.out; have := HE.out.size; omega)), heap8 (by rcases hq with hq | hq; have := hq.2; omega; omega)⟩), ext_set8 HE9.out (by rw [HS.out]; omega)⟩
set_option maxHeartbeats 6400000 in
theorem vdrop_any (t : Tree) (c : Array Value) (A : Nat → Prop) (v : Value) (l : List PStep) (w : World) (h : TV w A t c) (hl : PlAt w A v l) (hwt : weightT t ≤ 1000000) :
 Calls Tryz.prog 28 #[.agg c, v] w (fun e w' => ∃ c', e = .returned (.tuple #[.agg c', .int .i64 (dropT t l).2]) ∧ TV w' (fun g => A g ∨ w.heap.size ≤ g) (dropT t l).1 c' ∧ Ext w w') := by
 obtain ⟨R, hR⟩ := Ex (dropT t l); rw [hR]; have HR := Hd hR; clear hR; obtain ⟨k, b, d, ss, la, ln, lc, ma, mn, mc, rfl⟩ := h.eight; obtain ⟨_, va, vc, rfl, hvn, hvm, -⟩ := id hl.1; obtain ⟨wA, ewA⟩ : ∃ W, w.alloc (.cells (cellsV k b d ss (.slice la ln lc) (.slice ma mn mc)) 27) = W := ⟨_, rfl⟩
 have nwA : wA.heap[w.heap.size]? = some (.cells (cellsV k b d ss (.slice la ln lc) (.slice ma mn mc)) 27) := by rw [← ewA]; exact heap_alloc_new _ _
 have xwA : Ext w wA := by rw [← ewA]; exact (ext_refl _).alloc (Nat.le_refl _) _
 have swA : wA.heap.size = w.heap.size + 1 := by rw [← ewA]; simp
 obtain ⟨wr, ewr⟩ : ∃ W, wA.alloc (.cells zeroV 27) = W := ⟨_, rfl⟩
 have nwr : wr.heap[wA.heap.size]? = some (.cells zeroV 27) := by rw [← ewr]; exact heap_alloc_new _ _
 have xwr : Ext wA wr := by rw [← ewr]; exact (ext_refl _).alloc (Nat.le_refl _) _
 have swr : wr.heap.size = wA.heap.size + 1 := by rw [← ewr]; simp
 have hE := ext_trans xwA xwr; have HT := Hd (h.keep (w' := wr) (A' := fun g => A g ∧ g < w.heap.size) hE.size (fun g hg hlt => ⟨⟨hg, hlt⟩, hE.block g hlt⟩)); have HL := Hd (hl.keep (w' := wr) (A' := fun g => A g ∧ g < w.heap.size) hE.size (fun g hg hlt => ⟨⟨hg, hlt⟩, hE.block g hlt⟩)); rw [swA] at nwr
 have HC : Hid (VAt wr w.heap.size (cellsV k b d ss (.slice la ln lc) (.slice ma mn mc))) := Hd (VAt.ext nwA xwr); have HV2 : Hid (VAt wr (w.heap.size + 1) zeroV) := Hd nwr; have HE := Hd hE; have HWT := Hd hwt; have EA := Hd ewA; have EC := Hd ewr; clear h hl hE nwA nwr xwA xwr swA swr ewA ewr hwt; simp only [cellsV, zeroV, noL, Num.zero] at HC HV2 EA EC ⊢; go_enter Tryz.func28, Tryz.ntmps28
 go_upto_region 1 with fail; rw [EA.out, EC.out]; obtain ⟨S, hS⟩ := Ex w.heap.size; rw [hS] at HC HV2 HT HL ⊢; have HS := Hd hS; clear hS EA EC; cases l with
 | nil =>
   replace HR : Hid (R = (tNull, 1)) := Hd (by rw [← HR.out]; unfold dropT; rw [if_pos rfl]); obtain ⟨y0, y1, y2, y3, y4, y5, y6, y7⟩ := HV2.out.c8; obtain ⟨z0, z1, z2, z3, z4, z5, z6, z7⟩ := HV2.out.f8; go_wp2_with fail; have hV := VAt.store8 HV2.out (.int .i64 0) (.bool false) (.bool false) (.string ⟨#[]⟩) (.int .i64 0) (.string ⟨#[]⟩) (.slice none 0 0) (.slice none 0 0); have HV := Hd hV
   obtain ⟨v0, v1, v2, v3, v4, v5, v6, v7⟩ := HV.out.c8; refine bodyPost_ret (v := .tuple #[.agg #[.int .i64 0, .bool false, .bool false, .string ⟨#[]⟩, .int .i64 0, .string ⟨#[]⟩, .slice none 0 0, .slice none 0 0], .int .i64 1]) (by simp [results, Tryz.results28, go_sem, v0, v1, v2, v3, v4, v5, v6, v7]) rfl ?_; rw [HR.out]
   exact ⟨_, rfl, TV.leaf _ _ 0 false Num.zero [], ext_set8 HE.out (by rw [HS.out]; omega)⟩
 | cons s l =>
   replace HR : Hid (R = changeT dropF t (s :: l)) := Hd (by rw [← HR.out]; unfold dropT; rw [if_neg (by simp)]); have hl0 : ((l.length : Int) + 1 == 0) = false := by simp; omega
   have HCALL := Hd (change_any dropF 58 #[] (fun _ => False) wr (fun g hg => hg.elim) (fun args w => rfl) (drop1_does wr) (s :: l) (fun g => A g ∧ g < S) t _ _ wr (by simp) (ext_refl _) HT.out HL.out HWT.out); rw [← HR.out] at HCALL; obtain ⟨c0, c1, c2, c3, c4, c5, c6, c7⟩ := HC.out.c8; go_wp2_with fail; refine (HCALL.out).mono ?_; rintro e w5 ⟨c', rfl, htv, hx5⟩
   obtain ⟨yk, yb, yd, ys, ya1, yn1, yc1, ya2, yn2, yc2, rfl⟩ := htv.eight; have HT5 := Hd htv; have HE5 := Hd (ext_trans HE.out hx5); have HV5 := Hd (HV2.out.ext hx5); have HP5 := Hd HV2.out.lt; clear htv hx5 HCALL; clear c0 c1 c2 c3 c4 c5 c6 c7; obtain ⟨R1, R2⟩ := R; obtain ⟨y0, y1, y2, y3, y4, y5, y6, y7⟩ := HV5.out.c8; obtain ⟨z0, z1, z2, z3, z4, z5, z6, z7⟩ := HV5.out.f8; go_wp2_with fail
   have hV := VAt.store8 HV5.out (.int .i64 yk) (.bool yb) (.bool yd.neg) (.string ⟨yd.digits.toArray⟩) (.int .i64 yd.exp) (.string ⟨ys.toArray⟩) (.slice ya1 yn1 yc1) (.slice ya2 yn2 yc2); have HV := Hd hV; obtain ⟨v0, v1, v2, v3, v4, v5, v6, v7⟩ := HV.out.c8
   refine bodyPost_ret (v := .tuple #[.agg #[.int .i64 yk, .bool yb, .bool yd.neg, .string ⟨yd.digits.toArray⟩, .int .i64 yd.exp, .string ⟨ys.toArray⟩, .slice ya1 yn1 yc1, .slice ya2 yn2 yc2], .int .i64 R2]) (by simp [results, Tryz.results28, go_sem, v0, v1, v2, v3, v4, v5, v6, v7]) rfl ?_
   exact ⟨_, rfl, HT5.out.keep (by simp [World.setCell]) (fun g hg hlt => ⟨by rcases hg with hg | hg | hg; exact .inl hg.1; exact hg.elim; exact .inr (by have := HE.out.size; omega), heap8 (by have := HP5.out; rcases hg with hg | hg | hg; have := hg.2; omega; exact hg.elim; omega)⟩), ext_set8 HE5.out (by rw [HS.out]; omega)⟩
theorem wM_set (key : List UInt8) (x : Tree) : ∀ m : List Mem1, weightM (setM key x m) ≤ weightM m + weightT x
 | [] => by simp [setM, weightM]
 | (k, t) :: m => by
   rw [setM]; split
   · rw [weightM, weightM]; omega
   · rw [weightM, weightM]; have := wM_set key x m; omega
theorem wL_set (x : Tree) : ∀ (l : List Tree) (i : Nat), weightL (l.set i x) ≤ weightL l + weightT x
 | [], i => by simp [weightL]
 | t :: l, 0 => by rw [List.set_cons_zero, weightL, weightL]; omega
 | t :: l, i + 1 => by rw [List.set_cons_succ, weightL, weightL]; have := wL_set x l i; omega
theorem wM_app (k : List UInt8) (x : Tree) : ∀ m : List Mem1, weightM (m ++ [(k, x)]) = weightM m + k.length + weightT x
 | [] => by simp [weightM]
 | (k', t) :: m => by rw [List.cons_append, weightM, weightM, wM_app k x m]; omega
theorem wL_app (x : Tree) : ∀ l : List Tree, weightL (l ++ [x]) = weightL l + weightT x
 | [] => by simp [weightL]
 | t :: l => by rw [List.cons_append, weightL, weightL, wL_app x l]; omega
theorem lay_weight (t : Tree) (s : PStep) (x : Tree) : weightT (layT t s x) ≤ weightT t + weightT x := by
 obtain ⟨k, b, d, ss, l, m⟩ := t; unfold layT; split
 · have := wM_set s.name x m; simp only [Tree.withM, Tree.mems, weightT]; omega
 · have := wL_set x l s.pos.toNat; simp only [Tree.withL, Tree.list, weightT]; omega
def nameW (l : List PStep) : Nat := (l.map fun s => s.name.length).sum
theorem putF_weight (x t : Tree) (s : PStep) (is : Bool) : weightT (putF x t s is).1 ≤ weightT t + weightT x + s.name.length + 1 := by
 unfold putF; split
 · have := lay_weight t s x; simp only; omega
 · split
   · obtain ⟨k, b, d, ss, l, m⟩ := t; have := wM_app s.name x m; simp only [Tree.withM, Tree.mems, weightT]; omega
   · split
     · obtain ⟨k, b, d, ss, l, m⟩ := t; have := wL_app x l; simp only [Tree.withL, Tree.list, weightT]; omega
     · have : weightT tNull = 1 := by decide +kernel
       simp only; omega
theorem change_weight (x : Tree) : ∀ (l : List PStep) (t : Tree), weightT (changeT (putF x) t l).1 ≤ l.length * weightT t + weightT x + nameW l + 1
 | [], t => by
   have : weightT tNull = 1 := by decide +kernel
   rw [changeT]; simp only; omega
 | [s], t => by
   have h0 : weightT tNull = 1 := by decide +kernel
   have h1 := putF_weight x t s (Orange.stepT t s).isSome; rw [changeT]; split
   · simp only; omega
   · simp only [nameW, List.map_cons, List.map_nil, List.sum_cons, List.sum_nil, List.length_cons, List.length_nil]; omega
 | s :: s' :: l, t => by
   have h0 : weightT tNull = 1 := by decide +kernel
   rw [changeT]; split
   · simp only; omega
   · cases hst : Orange.stepT t s with
     | none => simp only; omega
     | some y =>
       simp only
       split
       · simp only; omega
       · have h1 := lay_weight t s (changeT (putF x) y (s' :: l)).1; have h2 := change_weight x (s' :: l) y; have h3 := step_weight hst; have h4 : (s' :: l).length * weightT y ≤ (s' :: l).length * weightT t := Nat.mul_le_mul_left _ h3; have h5 : (s :: s' :: l).length * weightT t = (s' :: l).length * weightT t + weightT t := by rw [List.length_cons, Nat.add_mul, Nat.one_mul]
         have h6 : nameW (s :: s' :: l) = s.name.length + nameW (s' :: l) := by simp [nameW]
         simp only
         omega
theorem nameW_le {l : List PStep} {n : Nat} (h : ∀ s ∈ l, s.name.length ≤ n) : nameW l ≤ l.length * n := by
 induction l with
 | nil => simp [nameW]
 | cons s l ih =>
   have h1 := h s (by simp); have h2 := ih (fun x hx => h x (by simp [hx])); have : nameW (s :: l) = s.name.length + nameW l := by simp [nameW]
   rw [this, List.length_cons, Nat.add_mul]; omega
theorem put_weight {t x : Tree} {l : List PStep} (hw : weightT t ≤ 2000) (hx : weightT x ≤ 500) (hl : l.length ≤ 100) (hn : ∀ s ∈ l, s.name.length ≤ 100) : weightT (putT t l x).1 ≤ 1000000 := by
 unfold putT; split
 · simp only; omega
 · have h1 := change_weight x l t; have h2 := nameW_le hn; have h3 : l.length * weightT t ≤ 100 * 2000 := Nat.mul_le_mul hl hw; have h4 : l.length * 100 ≤ 100 * 100 := Nat.mul_le_mul_right _ hl; omega
theorem bump_len : ∀ l : List PStep, (bump l).length = l.length
 | [] => rfl
 | [s] => rfl
 | s :: r :: l => by rw [bump_cons, List.length_cons, bump_len (r :: l)]; rfl
theorem bump_flat : ∀ l : List PStep, 0 < l.length → ((bump l).flatMap fun s => (cellsS s).toList) = (l.flatMap fun s => (cellsS s).toList).set ((l.length - 1) * 3 + 1) (.int .i64 ((lastS l).pos + 1))
 | [s], _ => rfl
 | s :: r :: l, _ => by
   have h := bump_flat (r :: l) (by simp); rw [bump_cons, List.flatMap_cons, h, List.flatMap_cons (x := s), lastS_cons, List.set_append_right _ _ (by simp [cellsS]; omega)]; congr 2
   simp [cellsS]
   omega
theorem flat_one (l : List PStep) : ∀ u ∈ (l.flatMap fun s => (cellsS s).toList), u.oneCell' = true := by
 intro u hu; obtain ⟨s, _, h⟩ := List.mem_flatMap.1 hu; simp [cellsS] at h
 rcases h with rfl | rfl | rfl <;> rfl
theorem bump_pos {l : List PStep} (h : ∀ s ∈ l, i64R s.pos) (hp : -9223372036854775808 ≤ (lastS l).pos ∧ (lastS l).pos < 9223372036854775807) : ∀ s ∈ bump l, i64R s.pos := by
 match l with
 | [] => intro s hs; cases hs
 | [s] => 
   intro x hx; have : x = ⟨s.name, s.pos + 1, s.named⟩ := by simpa [bump] using hx
   subst this; have h1 : (lastS [s]).pos = s.pos := rfl; exact ⟨by show _ ≤ s.pos + 1; omega, by show s.pos + 1 ≤ _; omega⟩
 | s :: r :: l =>
   intro x hx; rw [bump_cons] at hx; rcases List.mem_cons.1 hx with rfl | hx
   · exact h _ (by simp)
   · exact bump_pos (l := r :: l) (fun y hy => h y (by simp only [List.mem_cons] at hy ⊢; exact .inr hy)) (by rw [← lastS_cons]; exact hp) x hx
theorem flat_len3 : ∀ l : List PStep, (l.flatMap fun s => (cellsS s).toList).length = l.length * 3
 | [] => rfl
 | s :: l => by rw [List.flatMap_cons, List.length_append, flat_len3 l]; simp [cellsS]; omega
theorem bump_at {w : World} {base g cap : Nat} {l : List PStep} {cur : Array Value} (hl : 0 < l.length) (hg : w.heap[g]? = some (.cells cur 46 (0, 0))) (hc : cur.toList.take (l.length * 3) = (l.flatMap fun s => (cellsS s).toList)) (hcap : l.length ≤ cap) (hcm : cap ≤ 9223372036854775807)
 (h : ∀ s ∈ l, i64R s.pos) (hp : -9223372036854775808 ≤ (lastS l).pos ∧ (lastS l).pos < 9223372036854775807) :
 PlAt (w.setCell ⟨g, (l.length - 1) * 3 + 1, none⟩ (.int .i64 ((lastS l).pos + 1))) (fun _ => True) (.slice (some ⟨g, 0, none⟩) l.length cap) (bump l) := by
 refine ⟨⟨?_, some ⟨g, 0, none⟩, cap, by rw [bump_len], by rw [bump_len]; exact hcap, hcm, fun _ => ⟨g, 0, rfl, trivial, ?_, fun i hi => ?_⟩⟩, bump_pos h hp⟩
 · rw [bump_flat l hl, List.length_set, flat_len3, bump_len]
 · have := (Array.getElem?_eq_some_iff.1 hg).1; simpa using this
 · have hi' : i < l.length * 3 := by rw [bump_flat l hl, List.length_set, flat_len3] at hi; exact hi
   have hh : (w.setCell ⟨g, (l.length - 1) * 3 + 1, none⟩ (.int .i64 ((lastS l).pos + 1))).heap[g]? = some (.cells (cur.setIfInBounds ((l.length - 1) * 3 + 1) (.int .i64 ((lastS l).pos + 1))) 46 (0, 0)) := by
    simp [World.setCell, Array.getElem?_modify, hg]
   rw [cell_of_cells hh, Nat.zero_add]; rw [← List.getElem?_eq_getElem hi]; have hgoal : ∀ L : List Value, L = (cur.toList.take (l.length * 3)).set ((l.length - 1) * 3 + 1) (.int .i64 ((lastS l).pos + 1)) → (cur.setIfInBounds ((l.length - 1) * 3 + 1) (.int .i64 ((lastS l).pos + 1)))[i]? = L[i]? := by
    rintro L rfl; rw [← Array.getElem?_toList, Array.toList_setIfInBounds, List.getElem?_set, List.getElem?_set, List.getElem?_take_of_lt hi']; have hk : (l.length - 1) * 3 + 1 < (cur.toList.take (l.length * 3)).length := by rw [hc, flat_len3]; omega
    have hk2 : (l.length - 1) * 3 + 1 < cur.toList.length := by
     rw [List.length_take] at hk; omega
    by_cases e : (l.length - 1) * 3 + 1 = i
    · rw [if_pos e, if_pos e, if_pos hk, if_pos hk2]
    · rw [if_neg e, if_neg e]
   exact hgoal _ (by rw [hc]; exact bump_flat l hl)
end Go.Proofs.YtjapbjmeoaagmaaGreatDoor
end
