/- Several texts of this proof in one. -/
import Derived.Test.YtjapbjmeoaagmaaGreatDoorQValuePr2
import Derived.Test.YtjapbjmeoaagmaaGreatDoorQValuePr1
import Derived.Test.YtjapbjmeoaagmaaGreatDoorRows
import Derived.SizedLaws
import Derived.LaidMore
import Derived.MakeChecks
import Derived.Lib.LaidTab
import Derived.Stop.LaidErr
import Derived.Lib.SmallJoins
import Derived.JoinedOf
import Derived.Test.YtjapbjmeoaagmaaGreatDoorChecked
import Derived.Test.YtjapbjmeoaagmaaGreatDoorEValuePrSh
import Derived.Test.YtjapbjmeoaagmaaGreatDoorEValuePrSi
set_option linter.unusedVariables false
set_option linter.unusedSimpArgs false
set_option maxRecDepth 100000
section
set_option maxRecDepth 100000
namespace Go.Proofs.YtjapbjmeoaagmaaGreatDoor
open Go.RowKit Go.Mem Orange
set_option maxHeartbeats 6400000 in
theorem few_step (N : Nat) (ih : ∀ (t : Tree) (A : Nat → Prop) (c : Array Value) (deep : Nat) (left : Int) (w : World), SizeOf.sizeOf t < N → okT t → -140737488355328 ≤ left → left ≤ 1000000 → deep ≤ 1000 → TV w A t c →
 Calls Tryz.prog 43 #[.agg c, .int .i64 left, .int .i64 (deep : Nat)] w (fun e w' => e = .returned (.int .i64 (fewT deep left t)) ∧ Ext w w')) :
 ∀ (t : Tree) (A : Nat → Prop) (c : Array Value) (deep : Nat) (left : Int) (w : World), SizeOf.sizeOf t < N + 1 → okT t → -140737488355328 ≤ left → left ≤ 1000000 → deep ≤ 1000 → TV w A t c →
 Calls Tryz.prog 43 #[.agg c, .int .i64 left, .int .i64 (deep : Nat)] w (fun e w' => e = .returned (.int .i64 (fewT deep left t)) ∧ Ext w w')
 | .mk k b d s l m, A, c, deep, left, w, hN, hok, hl0, hl1, hdp, ht => by
   have IH := Hd ih; clear ih; cases ht with
   | mk htl hrl htm hrm =>
   rename_i vL vM cl cm
   obtain ⟨_, a1, p1, rfl, hp1, hq1, _⟩ := id hrl; obtain ⟨_, a2, p2, rfl, hp2, hq2, _⟩ := id hrm; obtain ⟨R, hR⟩ := Ex (fewT deep left (.mk k b d s l m)); rw [hR]; rw [fewT] at hR; have HR := Hd hR; rw [okT] at hok; obtain ⟨_, _, hdl, hsl, hll, hml, hokl, hokm⟩ := hok
   have HOK := Hd (show d.digits.length ≤ 140737488355328 ∧ s.length ≤ 140737488355328 ∧ l.length ≤ 140737488355328 ∧ m.length ≤ 140737488355328 ∧ okL l ∧ okM m from ⟨hdl, hsl, hll, hml, hokl, hokm⟩); have hv0 := VAt.new w (cellsV k b d s (.slice a1 l.length p1) (.slice a2 m.length p2))
   have hx0 : Ext w (w.alloc (.cells (cellsV k b d s (.slice a1 l.length p1) (.slice a2 m.length p2)) 27)) := (ext_refl w).alloc (Nat.le_refl _) _; have HSU : Hid (SizeOf.sizeOf l < N ∧ SizeOf.sizeOf m < N) := Hd (by
    simp only [Tree.mk.sizeOf_spec] at hN; omega)
   clear hR hN hokl hokm; simp only [cellsV] at hv0 hx0 ⊢; go_enter Tryz.func43, Tryz.ntmps43
   go_upto_region 1 with fail; generalize w.alloc (.cells #[.int .i64 k, .bool b, .bool d.neg, .string ⟨d.digits.toArray⟩, .int .i64 d.exp, .string ⟨s.toArray⟩, .slice a1 l.length p1, .slice a2 m.length p2] 27) = w1 at *; obtain ⟨S, hS⟩ := Ex w.heap.size; rw [hS] at hv0 ⊢; have HC := Hd hv0; have HE := Hd hx0
   have HTL := Hd (htl.keep (A' := fun _ => True) hx0.size (fun g _ hlt => ⟨trivial, hx0.block g hlt⟩)); have HRL := Hd (hrl.keep (A' := fun _ => True) hx0.size (fun g _ hlt => ⟨trivial, hx0.block g hlt⟩)); have HTM := Hd (htm.keep (A' := fun _ => True) hx0.size (fun g _ hlt => ⟨trivial, hx0.block g hlt⟩))
   have HRM := Hd (hrm.keep (A' := fun _ => True) hx0.size (fun g _ hlt => ⟨trivial, hx0.block g hlt⟩)); clear hv0 hx0 htl hrl htm hrm hS; by_cases hd : 150 < deep
   · have hdi : (150 : Int) < deep := by omega
     have HF : Hid (R = -1) := Hd (by rw [← HR.out, if_pos hd]); go_wp2_with fail; go_ret; exact ⟨ret_int HF.out.symm, HE.out⟩
   have hdi : ¬ (150 : Int) < deep := by omega
   have HR2 : Hid (fewM (deep + 1) (fewL (deep + 1) (left - 1 - s.length - d.digits.length) l) m = R) := Hd (by rw [← HR.out, if_neg hd]); clear hd HR; obtain ⟨L1, hL1⟩ := Ex (left - 1); obtain ⟨L2, hL2⟩ := Ex (L1 - s.length); obtain ⟨L3, hL3⟩ := Ex (L2 - d.digits.length); have HR3 : Hid (fewM (deep + 1) (fewL (deep + 1) L3 l) m = R) := Hd (by rw [← HR2.out, hL1, hL2, hL3])
   have e1 : IntKind.i64.wrap (left - 1) = L1 := by rw [IntWalk.i64_in _ (by omega)]; exact hL1
   have e2 : IntKind.i64.wrap (L1 - s.length) = L2 := by rw [IntWalk.i64_in _ (by omega)]; exact hL2
   have e3 : IntKind.i64.wrap (L2 - d.digits.length) = L3 := by rw [IntWalk.i64_in _ (by omega)]; exact hL3
   have HL3 : Hid (-600000000000000 ≤ L3 ∧ L3 ≤ 1000000) := Hd (by omega); clear HR2 hL1 hL2 hL3; obtain ⟨c0, c1, c2, c3, c4, c5, c6, c7⟩ := HC.out.c8; go_wp2_with fail; clear c0 c1 c2 c3 c4 c5 c6 c7 e1 e2 e3; go_loopw [1, 7] (fun lv iv wr => ∃ i : Nat, lv = .int .i64 (fewL (deep + 1) L3 (l.take i)) ∧ iv = .int .i64 i ∧ i ≤ l.length ∧ Ext w1 wr) (fun _ iv _ => 9223372036854775808 - (intOf iv).toNat)
   case atStart => exact ⟨0, by rw [List.take_zero, fewL], rfl, by omega, ext_refl _⟩
   case round =>
    obtain ⟨i, rfl, rfl, hi, hE⟩ := hrel; have HX := Hd hE; clear hE; obtain ⟨X, hX⟩ := Ex (fewL (deep + 1) L3 (l.take i)); have HXX := Hd hX; have hXb := fewL_bd (l.take i) (deep + 1) L3 ((okL_iff _).2 (fun p hp => (okL_iff l).1 HOK.out.2.2.2.2.1 p (List.mem_of_mem_take hp))) HL3.out.1; rw [hX] at hXb ⊢; have HXB : Hid (-600000000000000 ≤ X ∧ X ≤ 1000000) := Hd (by have := HL3.out.2; omega); clear hX
    have hcr := HC.out.ext HX.out; have HCR := Hd hcr; clear hcr; have c6 := HCR.out.cell 6; simp at c6; by_cases hlt : i < l.length
    · have hlti : (i : Int) < l.length := by omega
      have hi0 : (0 : Int) ≤ i := by omega
      by_cases hX0 : 0 ≤ X
      · obtain ⟨g, o, xk, xb, xd, xs, xa1, xn1, xc1, xa2, xn2, xc2, rfl, htx, hcell⟩ := row_elem HRL.out HTL.out rfl i hlt; obtain ⟨x0, x1, x2, x3, x4, x5, x6, x7⟩ := hcell wr (fun g _ hg => HX.out.block g hg); have HTX := Hd (htx.keep (w' := wr) (A' := fun _ => True) HX.out.size (fun g _ hlt => ⟨trivial, HX.out.block g hlt⟩)); have HOX := Hd ((okL_iff l).1 HOK.out.2.2.2.2.1 l[i] (List.getElem_mem hlt))
        have HTK : Hid (fewL (deep + 1) L3 (l.take (i + 1)) = fewT (deep + 1) X l[i]) := Hd (by rw [fewL_take _ _ _ i hlt, HXX.out, if_pos hX0]); have HSI := Hd (mem_sizeL l i hlt HSU.out.1); clear htx hcell; generalize l[i] = x at *; have hxb := HXB.out.2; have e8 : IntKind.i64.wrap ((deep : Int) + 1) = ((deep + 1 : Nat) : Int) := by rw [IntWalk.i64_in _ (by omega)]; omega
        have e9 : IntKind.i64.wrap ((i : Int) + 1) = ((i + 1 : Nat) : Int) := by rw [IntWalk.i64_in _ (by omega)]; omega
        go_wp2_with fail; refine (IH.out x _ _ (deep + 1) X wr HSI.out HOX.out (by omega) (by omega) (by omega) HTX.out).mono ?_; rintro e w4 ⟨rfl, hw4⟩; have HE4 := Hd (ext_trans HX.out hw4); clear hw4 c6 x0 x1 x2 x3 x4 x5 x6 x7; go_wp2_with fail; go_roundw
        case rel => exact ⟨i + 1, by rw [HTK.out], by go_num, by omega, HE4.out⟩
        case measure => simp [intOf]; omega
      · have HXL : Hid (fewL (deep + 1) L3 l = X) := Hd (by rw [fewL_stop _ _ _ i (by rw [HXX.out]; omega), HXX.out]); go_wp2_with fail; clear c6; go_loopw [1, 8] (fun lv iv wx => ∃ i : Nat, lv = .int .i64 (fewM (deep + 1) X (m.take i)) ∧ iv = .int .i64 i ∧ i ≤ m.length ∧ Ext wr wx) (fun _ iv _ => 9223372036854775808 - (intOf iv).toNat)
        case atStart => exact ⟨0, by rw [List.take_zero, fewM], rfl, by omega, ext_refl _⟩
        case round =>
         obtain ⟨i, rfl, rfl, hi, hE⟩ := hrel; have HY := Hd hE; clear hE; obtain ⟨Y, hY⟩ := Ex (fewM (deep + 1) X (m.take i)); have HYY := Hd hY; have hYb := fewM_bd (m.take i) (deep + 1) X ((okM_iff _).2 (fun p hp => (okM_iff m).1 HOK.out.2.2.2.2.2 p (List.mem_of_mem_take hp))) HXB.out.1; have hxb := HXB.out.2; rw [hY] at hYb ⊢; clear hY; have hcr := HC.out.ext (ext_trans HX.out HY.out)
         have HCR := Hd hcr; clear hcr; have c7 := HCR.out.cell 7; simp at c7; by_cases hlt : i < m.length
         · have hlti : (i : Int) < m.length := by omega
           have hi0 : (0 : Int) ≤ i := by omega
           by_cases hY0 : 0 ≤ Y
           · obtain ⟨g, o, xk, xb, xd, xs, xa1, xn1, xc1, xa2, xn2, xc2, rfl, htx, hcell⟩ := mem_elem HRM.out HTM.out rfl i hlt; have HTX := Hd htx; have HXC := Hd hcell; have hokx := (okM_iff m).1 HOK.out.2.2.2.2.2 m[i] (List.getElem_mem hlt); have HTK : Hid (fewM (deep + 1) X (m.take (i + 1)) = fewT (deep + 1) (Y - m[i].1.length) m[i].2) := Hd (by rw [fewM_take _ _ _ i hlt, HYY.out, if_pos hY0])
             have HSI := Hd (mem_size m i hlt HSU.out.2); have hYX : Hid (fewM (deep + 1) X m = fewM (deep + 1) X m) := Hd rfl
             have HIH : Hid (∀ w', Ext wr w' → Calls Tryz.prog 43 #[.agg (cellsV xk xb xd xs (.slice xa1 xn1 xc1) (.slice xa2 xn2 xc2)), .int .i64 (Y - m[i].1.length), .int .i64 (deep + 1 : Nat)] w' (fun e w'' => e = .returned (.int .i64 (fewT (deep + 1) (Y - m[i].1.length) m[i].2)) ∧ Ext w' w'')) := Hd (fun w' hw =>
              IH.out m[i].2 (fun _ => True) _ (deep + 1) (Y - m[i].1.length) w' (mem_size m i hlt HSU.out.2) hokx.2 (by have := hokx.1; omega) (by omega) (by omega) (HTX.out.keep (ext_trans (ext_trans HX.out HY.out) hw).size (fun g _ hlt => ⟨trivial, (ext_trans (ext_trans HX.out HY.out) hw).block g hlt⟩)))
             obtain ⟨ky, hky⟩ := Ex (m[i].1); have HFX : Hid (∀ w', Ext wr w' → w'.cell? ⟨g, o + i * 9, none⟩ = some (.string ⟨ky.toArray⟩) ∧ w'.cell? ⟨g, o + i * 9 + 1, none⟩ = some (.int .i64 xk) ∧ w'.cell? ⟨g, o + i * 9 + 2, none⟩ = some (.bool xb) ∧ w'.cell? ⟨g, o + i * 9 + 3, none⟩ = some (.bool xd.neg) ∧ w'.cell? ⟨g, o + i * 9 + 4, none⟩ = some (.string ⟨xd.digits.toArray⟩) ∧
              w'.cell? ⟨g, o + i * 9 + 5, none⟩ = some (.int .i64 xd.exp) ∧ w'.cell? ⟨g, o + i * 9 + 6, none⟩ = some (.string ⟨xs.toArray⟩) ∧ w'.cell? ⟨g, o + i * 9 + 7, none⟩ = some (.slice xa1 xn1 xc1) ∧ w'.cell? ⟨g, o + i * 9 + 8, none⟩ = some (.slice xa2 xn2 xc2) ∧ w'.cell? ⟨S, 7, none⟩ = some (.slice (some ⟨g, o, none⟩) m.length p2)) := Hd (fun w' hw => by
              obtain ⟨x0, x1, x2, x3, x4, x5, x6, x7, x8⟩ := hcell w' (fun g _ hg => (ext_trans (ext_trans HX.out HY.out) hw).block g hg); have c7 := (HCR.out.ext hw).cell 7; simp at c7; rw [hky] at x0; exact ⟨x0, x1, x2, x3, x4, x5, x6, x7, x8, c7⟩)
             obtain ⟨Z, hZ⟩ := Ex (fewT (deep + 1) (Y - m[i].1.length) m[i].2); obtain ⟨V, hV⟩ := Ex (Y - (ky.length : Int)); have hih := HIH.out; have htk := HTK.out; rw [hZ] at hih htk; rw [hky, hV] at hih; replace HIH := Hd hih; replace HTK := Hd htk; have hkl : ky.length ≤ 140737488355328 := by rw [← hky]; exact hokx.1
             clear hih htk hZ hky htx hcell hokx HTX HXC hYX; have e7 : IntKind.i64.wrap (Y - (ky.length : Int)) = V := by rw [IntWalk.i64_in _ (by omega)]; exact hV
             have e6 : IntKind.i64.wrap V = V := IntWalk.i64_in _ (by omega); have e8 : IntKind.i64.wrap ((deep : Int) + 1) = ((deep + 1 : Nat) : Int) := by rw [IntWalk.i64_in _ (by omega)]; omega
             have e9 : IntKind.i64.wrap ((i : Int) + 1) = ((i + 1 : Nat) : Int) := by rw [IntWalk.i64_in _ (by omega)]; omega
             go_upto_region 11 with fail; clear c7; refine Grow.wp_region_litW (G := Ext) (B := fun w' => Ext wr w') (anc := fun _ => []) (I := fun j => if j = 17 then some (Grow.Spec.val Ext (.int .i64 Z)) else none) (by kernel_rfl) (by kernel_rfl) (by kernel_rfl) ?_ ?_ ?_
             · exact fun w w' h hg => ext_trans h hg
             · exact (ext_refl _).drew
             repeat
              (refine Grow.Wk.step (fun K hK => ?_)
               first
               | (refine Grow.step_read (by rfl) (by rfl) ext_refl ?_
                  apply Exists.intro; refine ⟨fun w hB hF => ?_, ?_⟩
                  · obtain ⟨x0, x1, x2, x3, x4, x5, x6, x7, x8, c7⟩ := HFX.out _ hB; go_simp; try exact rfl
                  go_simp; refine hK _ _ ?_; clear hK K)
               | (refine Grow.step_off (by rfl) ?_
                  go_simp; refine hK _ _ ?_; clear hK K))
             refine Grow.Wk.step (fun K hK => ?_); refine Grow.step_rel (by rfl) (by rfl) (fun w' hB hF => ?_) (fun v hv => ?_)
             · go_simp; refine Grow.relUpon_enter ((HIH.out w' hB).mono ?_); rintro e w'' ⟨rfl, hw''⟩; exact ⟨_, rfl, hw'', rfl, trivial⟩
             obtain rfl : v = _ := hv; go_simp; refine hK _ _ ?_; clear hK K; repeat
              (refine Grow.Wk.step (fun K hK => ?_)
               first
               | (refine Grow.step_read (by rfl) (by rfl) ext_refl ?_
                  apply Exists.intro; refine ⟨fun w hB hF => ?_, ?_⟩
                  · skip
                    go_simp; try exact rfl
                  go_simp; refine hK _ _ ?_; clear hK K)
               | (refine Grow.step_off (by rfl) ?_
                  go_simp; refine hK _ _ ?_; clear hK K))
             refine Grow.Wk.nil ?_; intro w4 hB hF; clear hF; have HE4 := Hd (ext_trans HY.out hB); clear hB; go_wp2_with fail; go_roundw
             case rel => exact ⟨i + 1, by rw [HTK.out], by go_num, by omega, HE4.out⟩
             case measure => simp [intOf]; omega
           · have HF : Hid (Y = R) := Hd (by rw [← HR3.out, HXL.out, fewM_stop _ _ _ i (by rw [HYY.out]; omega), HYY.out]); have HEE := Hd (ext_trans HE.out (ext_trans HX.out HY.out)); go_wp2_with fail; go_ret; exact ⟨ret_int HF.out, HEE.out⟩
         · obtain rfl : i = m.length := by omega
           have hnlt : ¬ ((m.length : Int) < (m.length : Int)) := by omega
           have HF : Hid (Y = R) := Hd (by rw [← HR3.out, HXL.out, ← HYY.out, List.take_length]); have HEE := Hd (ext_trans HE.out (ext_trans HX.out HY.out)); go_wp2_with fail; go_ret; exact ⟨ret_int HF.out, HEE.out⟩
    · obtain rfl : i = l.length := by omega
      have hnlt : ¬ ((l.length : Int) < (l.length : Int)) := by omega
      have HXL : Hid (fewL (deep + 1) L3 l = X) := Hd (by rw [← HXX.out, List.take_length]); go_wp2_with fail; clear c6; go_loopw [1, 8] (fun lv iv wx => ∃ i : Nat, lv = .int .i64 (fewM (deep + 1) X (m.take i)) ∧ iv = .int .i64 i ∧ i ≤ m.length ∧ Ext wr wx) (fun _ iv _ => 9223372036854775808 - (intOf iv).toNat)
      case atStart => exact ⟨0, by rw [List.take_zero, fewM], rfl, by omega, ext_refl _⟩
      case round =>
       obtain ⟨i, rfl, rfl, hi, hE⟩ := hrel; have HY := Hd hE; clear hE; obtain ⟨Y, hY⟩ := Ex (fewM (deep + 1) X (m.take i)); have HYY := Hd hY; have hYb := fewM_bd (m.take i) (deep + 1) X ((okM_iff _).2 (fun p hp => (okM_iff m).1 HOK.out.2.2.2.2.2 p (List.mem_of_mem_take hp))) HXB.out.1; have hxb := HXB.out.2; rw [hY] at hYb ⊢; clear hY; have hcr := HC.out.ext (ext_trans HX.out HY.out)
       have HCR := Hd hcr; clear hcr; have c7 := HCR.out.cell 7; simp at c7; by_cases hlt : i < m.length
       · have hlti : (i : Int) < m.length := by omega
         have hi0 : (0 : Int) ≤ i := by omega
         by_cases hY0 : 0 ≤ Y
         · obtain ⟨g, o, xk, xb, xd, xs, xa1, xn1, xc1, xa2, xn2, xc2, rfl, htx, hcell⟩ := mem_elem HRM.out HTM.out rfl i hlt; have HTX := Hd htx; have HXC := Hd hcell; have hokx := (okM_iff m).1 HOK.out.2.2.2.2.2 m[i] (List.getElem_mem hlt); have HTK : Hid (fewM (deep + 1) X (m.take (i + 1)) = fewT (deep + 1) (Y - m[i].1.length) m[i].2) := Hd (by rw [fewM_take _ _ _ i hlt, HYY.out, if_pos hY0])
           have HSI := Hd (mem_size m i hlt HSU.out.2); have hYX : Hid (fewM (deep + 1) X m = fewM (deep + 1) X m) := Hd rfl
           have HIH : Hid (∀ w', Ext wr w' → Calls Tryz.prog 43 #[.agg (cellsV xk xb xd xs (.slice xa1 xn1 xc1) (.slice xa2 xn2 xc2)), .int .i64 (Y - m[i].1.length), .int .i64 (deep + 1 : Nat)] w' (fun e w'' => e = .returned (.int .i64 (fewT (deep + 1) (Y - m[i].1.length) m[i].2)) ∧ Ext w' w'')) := Hd (fun w' hw =>
            IH.out m[i].2 (fun _ => True) _ (deep + 1) (Y - m[i].1.length) w' (mem_size m i hlt HSU.out.2) hokx.2 (by have := hokx.1; omega) (by omega) (by omega) (HTX.out.keep (ext_trans (ext_trans HX.out HY.out) hw).size (fun g _ hlt => ⟨trivial, (ext_trans (ext_trans HX.out HY.out) hw).block g hlt⟩)))
           obtain ⟨ky, hky⟩ := Ex (m[i].1); have HFX : Hid (∀ w', Ext wr w' → w'.cell? ⟨g, o + i * 9, none⟩ = some (.string ⟨ky.toArray⟩) ∧ w'.cell? ⟨g, o + i * 9 + 1, none⟩ = some (.int .i64 xk) ∧ w'.cell? ⟨g, o + i * 9 + 2, none⟩ = some (.bool xb) ∧ w'.cell? ⟨g, o + i * 9 + 3, none⟩ = some (.bool xd.neg) ∧ w'.cell? ⟨g, o + i * 9 + 4, none⟩ = some (.string ⟨xd.digits.toArray⟩) ∧
            w'.cell? ⟨g, o + i * 9 + 5, none⟩ = some (.int .i64 xd.exp) ∧ w'.cell? ⟨g, o + i * 9 + 6, none⟩ = some (.string ⟨xs.toArray⟩) ∧ w'.cell? ⟨g, o + i * 9 + 7, none⟩ = some (.slice xa1 xn1 xc1) ∧ w'.cell? ⟨g, o + i * 9 + 8, none⟩ = some (.slice xa2 xn2 xc2) ∧ w'.cell? ⟨S, 7, none⟩ = some (.slice (some ⟨g, o, none⟩) m.length p2)) := Hd (fun w' hw => by
            obtain ⟨x0, x1, x2, x3, x4, x5, x6, x7, x8⟩ := hcell w' (fun g _ hg => (ext_trans (ext_trans HX.out HY.out) hw).block g hg); have c7 := (HCR.out.ext hw).cell 7; simp at c7; rw [hky] at x0; exact ⟨x0, x1, x2, x3, x4, x5, x6, x7, x8, c7⟩)
           obtain ⟨Z, hZ⟩ := Ex (fewT (deep + 1) (Y - m[i].1.length) m[i].2); obtain ⟨V, hV⟩ := Ex (Y - (ky.length : Int)); have hih := HIH.out; have htk := HTK.out; rw [hZ] at hih htk; rw [hky, hV] at hih; replace HIH := Hd hih; replace HTK := Hd htk; have hkl : ky.length ≤ 140737488355328 := by rw [← hky]; exact hokx.1
           clear hih htk hZ hky htx hcell hokx HTX HXC hYX; have e7 : IntKind.i64.wrap (Y - (ky.length : Int)) = V := by rw [IntWalk.i64_in _ (by omega)]; exact hV
           have e6 : IntKind.i64.wrap V = V := IntWalk.i64_in _ (by omega); have e8 : IntKind.i64.wrap ((deep : Int) + 1) = ((deep + 1 : Nat) : Int) := by rw [IntWalk.i64_in _ (by omega)]; omega
           have e9 : IntKind.i64.wrap ((i : Int) + 1) = ((i + 1 : Nat) : Int) := by rw [IntWalk.i64_in _ (by omega)]; omega
           go_upto_region 11 with fail; clear c7; refine Grow.wp_region_litW (G := Ext) (B := fun w' => Ext wr w') (anc := fun _ => []) (I := fun j => if j = 17 then some (Grow.Spec.val Ext (.int .i64 Z)) else none) (by kernel_rfl) (by kernel_rfl) (by kernel_rfl) ?_ ?_ ?_
           · exact fun w w' h hg => ext_trans h hg
           · exact (ext_refl _).drew
           repeat
            (refine Grow.Wk.step (fun K hK => ?_)
             first
             | (refine Grow.step_read (by rfl) (by rfl) ext_refl ?_
                apply Exists.intro; refine ⟨fun w hB hF => ?_, ?_⟩
                · obtain ⟨x0, x1, x2, x3, x4, x5, x6, x7, x8, c7⟩ := HFX.out _ hB; go_simp; try exact rfl
                go_simp; refine hK _ _ ?_; clear hK K)
             | (refine Grow.step_off (by rfl) ?_
                go_simp; refine hK _ _ ?_; clear hK K))
           refine Grow.Wk.step (fun K hK => ?_); refine Grow.step_rel (by rfl) (by rfl) (fun w' hB hF => ?_) (fun v hv => ?_)
           · go_simp; refine Grow.relUpon_enter ((HIH.out w' hB).mono ?_); rintro e w'' ⟨rfl, hw''⟩; exact ⟨_, rfl, hw'', rfl, trivial⟩
           obtain rfl : v = _ := hv; go_simp; refine hK _ _ ?_; clear hK K; repeat
            (refine Grow.Wk.step (fun K hK => ?_)
             first
             | (refine Grow.step_read (by rfl) (by rfl) ext_refl ?_
                apply Exists.intro; refine ⟨fun w hB hF => ?_, ?_⟩
                · skip
                  go_simp; try exact rfl
                go_simp; refine hK _ _ ?_; clear hK K)
             | (refine Grow.step_off (by rfl) ?_
                go_simp; refine hK _ _ ?_; clear hK K))
           refine Grow.Wk.nil ?_; intro w4 hB hF; clear hF; have HE4 := Hd (ext_trans HY.out hB); clear hB; go_wp2_with fail; go_roundw
           case rel => exact ⟨i + 1, by rw [HTK.out], by go_num, by omega, HE4.out⟩
           case measure => simp [intOf]; omega
         · have HF : Hid (Y = R) := Hd (by rw [← HR3.out, HXL.out, fewM_stop _ _ _ i (by rw [HYY.out]; omega), HYY.out]); have HEE := Hd (ext_trans HE.out (ext_trans HX.out HY.out)); go_wp2_with fail; go_ret; exact ⟨ret_int HF.out, HEE.out⟩
       · obtain rfl : i = m.length := by omega
         have hnlt : ¬ ((m.length : Int) < (m.length : Int)) := by omega
         have HF : Hid (Y = R) := Hd (by rw [← HR3.out, HXL.out, ← HYY.out, List.take_length]); have HEE := Hd (ext_trans HE.out (ext_trans HX.out HY.out)); go_wp2_with fail; go_ret; exact ⟨ret_int HF.out, HEE.out⟩
theorem few_any (t : Tree) (A : Nat → Prop) (c : Array Value) (left : Int) (w : World) (hok : okT t) (h0 : 0 ≤ left) (h1 : left ≤ 1000000) (h : TV w A t c) :
 Calls Tryz.prog 15 #[.agg c, .int .i64 left] w (fun e w' => e = .returned (.bool (decide (0 ≤ fewT 0 left t))) ∧ Ext w w') := by
 have key : ∀ N : Nat, ∀ (t : Tree) (A : Nat → Prop) (c : Array Value) (deep : Nat) (left : Int) (w : World), SizeOf.sizeOf t < N → okT t → -140737488355328 ≤ left → left ≤ 1000000 → deep ≤ 1000 → TV w A t c →
  Calls Tryz.prog 43 #[.agg c, .int .i64 left, .int .i64 (deep : Nat)] w (fun e w' => e = .returned (.int .i64 (fewT deep left t)) ∧ Ext w w') := by
  intro N; induction N with
  | zero => intro t A c deep left w h; omega
  | succ N ih => exact few_step N ih
 obtain ⟨k, b, d, s, la, ln, lc, ma, mn, mc, rfl⟩ := h.eight; have hv := VAt.new w (cellsV k b d s (.slice la ln lc) (.slice ma mn mc)); have hx : Ext w (w.alloc (.cells (cellsV k b d s (.slice la ln lc) (.slice ma mn mc)) 27)) := (ext_refl w).alloc (Nat.le_refl _) _; simp only [cellsV] at hv hx ⊢; go_enter Tryz.func15, Tryz.ntmps15
 go_upto_region 1 with fail; generalize w.alloc (.cells #[.int .i64 k, .bool b, .bool d.neg, .string ⟨d.digits.toArray⟩, .int .i64 d.exp, .string ⟨s.toArray⟩, .slice la ln lc, .slice ma mn mc] 27) = w1 at *; have HT := Hd (h.keep (w' := w1) (A' := fun _ => True) hx.size (fun g _ hlt => ⟨trivial, hx.block g hlt⟩)); obtain ⟨S, hS⟩ := Ex w.heap.size; rw [hS] at hv ⊢
 obtain ⟨c0, c1, c2, c3, c4, c5, c6, c7⟩ := hv.c8; have HE := Hd hx; clear h hx hS hv; go_wp2_with fail; refine (key _ t _ _ 0 left w1 (Nat.lt_succ_self _) hok (by omega) h1 (by omega) HT.out).mono ?_; rintro e w2 ⟨rfl, hw2⟩; have HE2 := Hd (ext_trans HE.out hw2); clear hw2; go_wp2_with fail; go_ret; exact ⟨ret_bool (by simp), HE2.out⟩
end Go.Proofs.YtjapbjmeoaagmaaGreatDoor
end

section
set_option maxRecDepth 100000
namespace Go.Proofs.YtjapbjmeoaagmaaGreatDoor
open Go.RowKit Go.Mem
theorem tab_of {W : World} (h : laidMetH Tryz.prog Rows.printBackRow.laid W) : Tab W := by
 rw [MakeChecks.laidMetH_plain _ _ _ (by kernel_rfl)] at h
 have h' : laidMet Tryz.prog (("math/bits.deBruijn32tab", Rows.laid_math_bits_deBruijn32tab) :: ("math/bits.deBruijn64tab", Rows.laid_math_bits_deBruijn64tab) :: ("internal/strconv.uint64pow10", Lib.tabData .u64 Lib.pow10Tab) :: [("unicode/utf8.acceptRanges", Rows.laid_unicode_utf8_acceptRanges), ("unicode/utf8.first", Rows.laid_unicode_utf8_first)]) W := h
 exact Lib.tabIs_of_head (g := 0) (t := 219) (n := 20) (by kernel_rfl) (by kernel_rfl) (by kernel_rfl) Tryz.underlying178 (by kernel_rfl) (by kernel_rfl) (laidMet.tail (laidMet.tail h'))
end Go.Proofs.YtjapbjmeoaagmaaGreatDoor
end

section
set_option maxRecDepth 100000
namespace Go
theorem grown_add (P : Program) : ∀ (n m : Nat) (s : List TypeId), P.grown (n + m) s = P.grown m (P.grown n s)
 | 0, m, s => by rw [Nat.zero_add]; rfl
 | n + 1, m, s => by
   rw [show n + 1 + m = (n + m) + 1 by omega]; show P.grown (n + m) (P.grow s) = P.grown m (P.grown n (P.grow s)); exact grown_add P n m _
theorem grown_fix (P : Program) {s : List TypeId} (h : P.grow s = s) : ∀ m, P.grown m s = s
 | 0 => rfl
 | m + 1 => by
   show P.grown m (P.grow s) = s; rw [h]; exact grown_fix P h m
theorem book_of {P : Program} {t : TypeId} {L : List TypeId} (n : Nat) (h1 : P.grown n [t] = L) (h2 : P.grow L = L) (hn : n ≤ P.types.size) : P.book t = L := by
 unfold Program.book; obtain ⟨m, hm⟩ : ∃ m, P.types.size = n + m := ⟨P.types.size - n, by omega⟩
 rw [hm, grown_add, h1, grown_fix P h2]
theorem joined_of {P : Program} {f : FuncId} {fn : Func} {s : ChangeSpec} {c : OpenClaim}
 (k1 : (c.wf (OpenSpec.ofChange s) && laidOutB P && mapsRowed P) = true) (k4 : fn.params.all (P.readableRec ·) = true)
 (k5 : (namedTie P c.named s.vars && (c.stops == []) && (P.stops == []) && (c.knobs == []) && (P.stopKnobs == []) && (c.inPlace == P.inPlace f) && (c.unfollowed == P.unfollowed f) && (c.recurses == P.recurses f) && (c.named == P.varsNamed f)) = true)
 (k6 : (c.maps == (fn.params.toList ++ s.plain.varTypes P).any (P.mapsRec ·)) = true) (k7 : (c.ifaces == (fn.params.toList ++ s.plain.varTypes P).any (P.ifacesRec ·)) = true) (k8 : (c.mapsOut == P.mapsAmong fn.resultTypes.toList) = true)
 (k9 : (c.loops == (fn.params.toList ++ s.plain.varTypes P).any (P.loopsFrom ·)) = true) (k10 : (c.wideKeys == (fn.params.toList ++ s.plain.varTypes P ++ fn.resultTypes.toList).any (P.wideKeysFrom ·)) = true)
 (k11 : (s.vars.all (P.varReadable ·) && fn.resultTypes.all (fun t => P.readableRec t && decide (t < P.types.size)) && (c.ifacesOut == fn.resultTypes.toList.any (P.ifacesRec ·)) && (c.loopsOut == fn.resultTypes.toList.any (P.loopsFrom ·)) && (c.plainKeys == P.plainKeys) && c.shortTexts.isNone && P.stopsHeard && P.mayEnter && (c.lifted == P.liftsFinal) && (P.make == some c.make) && (c.kinds == (if c.domain.isEmpty then [] else fn.params.toList.map fun t => match P.underlying t with | some (.int k) => some k | _ => none)) && (c.pinned == c.pinnedBy)) = true)
 (k12 : (c.veiled == (fn.params.toList ++ s.plain.varTypes P ++ fn.resultTypes.toList).any (P.veiledRec ·)) = true) (k13 : c.veiledFits P fn.params.toList (fn.params.toList ++ s.plain.varTypes P ++ fn.resultTypes.toList) = true) : joinedFacts P f fn s c = true := by
 simp only [Bool.and_eq_true] at k1 k5 k11; simp only [joinedFacts, Bool.and_eq_true]; obtain ⟨⟨a1, a2⟩, a3⟩ := k1; obtain ⟨⟨⟨⟨⟨⟨⟨⟨b1, b2⟩, b3⟩, b4⟩, b5⟩, b6⟩, b7⟩, b8⟩, b9⟩ := k5; obtain ⟨⟨⟨⟨⟨⟨⟨⟨⟨⟨⟨c1, c2⟩, c3⟩, c4⟩, c5⟩, c6⟩, c7⟩, c8⟩, c9⟩, c10⟩, c11⟩, c12⟩ := k11; refine ⟨⟨?_, k12⟩, k13⟩
 simp only [a1, a2, a3, k4, b1, b2, b3, b4, b5, b6, b7, b8, b9, k6, k7, k8, k9, k10, c1, c2, c3, c4, c5, c6, c7, c8, c9, c10, c12, and_self]; exact ⟨⟨trivial, c11⟩, trivial⟩
theorem veiledFits_of {P : Program} {c : OpenClaim} {ps ts : List TypeId} (hs : c.start = .entering) (h1 : ts.all (P.veiledOwn ·) = true) (h2 : (c.laid.filterMap fun x => (P.globalNamed x.1).bind fun g => (P.globals[g]?).map (·.type)).all (P.veiledOwn ·) = true) : c.veiledFits P ps ts = true := by
 unfold OpenClaim.veiledFits; rw [hs]; simp only [List.all_append, h1, h2, Bool.and_self, Bool.true_or, Bool.and_true]
end Go
namespace Go.Proofs.YtjapbjmeoaagmaaGreatDoor
open Go
theorem bookV : Tryz.prog.book 27 = [27, 3, 4, 23, 9, 24, 25, 43] := book_of 2 (by kernel_rfl) (by kernel_rfl) (by decide +kernel)
theorem bookL : Tryz.prog.book 24 = [24, 27, 3, 4, 23, 9, 25, 43] := book_of 3 (by kernel_rfl) (by kernel_rfl) (by decide +kernel)
theorem readV : Tryz.prog.readableRec 27 = true := by unfold Program.readableRec; rw [bookV]; kernel_rfl
theorem mapsV : Tryz.prog.mapsRec 27 = false := by unfold Program.mapsRec; rw [bookV]; kernel_rfl
theorem ifacesV : Tryz.prog.ifacesRec 27 = false := by unfold Program.ifacesRec; rw [bookV]; kernel_rfl
theorem wideV : Tryz.prog.wideKeysFrom 27 = false := by unfold Program.wideKeysFrom; rw [bookV]; kernel_rfl
theorem veiledV : Tryz.prog.veiledRec 27 = false := by unfold Program.veiledRec; rw [bookV]; kernel_rfl
theorem ownV : Tryz.prog.veiledOwn 27 = true := by unfold Program.veiledOwn; rw [veiledV]; rfl
theorem loopsV : Tryz.prog.loopsFrom 27 = true := by
 unfold Program.loopsFrom; rw [bookV]; refine List.any_eq_true.2 ⟨27, List.mem_cons_self, List.any_eq_true.2 ⟨24, ?_, ?_⟩⟩
 · rw [show Tryz.prog.partsOf 27 = [3, 4, 23, 9, 24, 25] by kernel_rfl]; decide +kernel
 · rw [bookL]; decide +kernel
end Go.Proofs.YtjapbjmeoaagmaaGreatDoor
end
