/- Several texts of this proof in one. -/
import Derived.Test.YtjapbjmeoaagmaaGreatDoorQPrintIs2
import Derived.Test.YtjapbjmeoaagmaaGreatDoorQPrintIs1
import Derived.Test.YtjapbjmeoaagmaaGreatDoorEPrintIsMem
import Derived.Test.YtjapbjmeoaagmaaGreatDoorEPrintIsDecC
import Derived.Test.YtjapbjmeoaagmaaGreatDoorEPrintIsDecB
import Derived.Test.YtjapbjmeoaagmaaGreatDoorEPrintIsStr
import Derived.Test.YtjapbjmeoaagmaaGreatDoorEPrintIsDecV
import Derived.Test.YtjapbjmeoaagmaaGreatDoorEPrintIsApp
import Derived.IntWalk
import Derived.Test.YtjapbjmeoaagmaaGreatDoorEPrintIsSh
import Derived.Test.YtjapbjmeoaagmaaGreatDoorEPrintIsSi
set_option linter.unusedVariables false
set_option linter.unusedSimpArgs false
set_option maxRecDepth 100000
section
set_option maxRecDepth 100000
namespace Go.Proofs.YtjapbjmeoaagmaaGreatDoor
open Go.RowKit Go.Mem Orange
set_option maxHeartbeats 6400000 in
theorem few_step (N : Nat) (ih : ∀ (t : Tree) (A : Nat → Prop) (c : Array Value) (deep : Nat) (left : Int) (w : World), SizeOf.sizeOf t < N → okT t → -140737488355328 ≤ left → left ≤ 1000000 → deep ≤ 1000 → TV w A t c →
 Calls Tryz.prog 43 #[.agg c, .int .i64 left, .int .i64 (deep : Nat)] w (fun e w' => e = .returned (.int .i64 (fewT deep left t)) ∧ Ext w w')) :
 ∀ (t : Tree) (A : Nat → Prop) (c : Array Value) (deep : Nat) (left : Int) (w : World), SizeOf.sizeOf t < N + 1 → okT t → -140737488355328 ≤ left → left ≤ 1000000 → deep ≤ 1000 → TV w A t c →
 Calls Tryz.prog 43 #[.agg c, .int .i64 left, .int .i64 (deep : Nat)] w (fun e w' => e = .returned (.int .i64 (fewT deep left t)) ∧ Ext w w')
 | .mk k b d s l m, A, c, deep, left, w, hN, hok, hl0, hl1, hdp, ht => by
   have IH := Hd ih; clear ih; cases ht with
   | mk htl hrl htm hrm =>
   rename_i vL vM cl cm
   obtain ⟨_, a1, p1, rfl, hp1, hq1, _⟩ := id hrl; obtain ⟨_, a2, p2, rfl, hp2, hq2, _⟩ := id hrm; obtain ⟨R, hR⟩ := Ex (fewT deep left (.mk k b d s l m)); rw [hR]; rw [fewT] at hR; have HR := Hd hR; rw [okT] at hok; obtain ⟨_, _, hdl, hsl, hll, hml, hokl, hokm⟩ := hok
   have HOK := Hd (show d.digits.length ≤ 140737488355328 ∧ s.length ≤ 140737488355328 ∧ l.length ≤ 140737488355328 ∧ m.length ≤ 140737488355328 ∧ okL l ∧ okM m from ⟨hdl, hsl, hll, hml, hokl, hokm⟩); have hv0 := VAt.new w (cellsV k b d s (.slice a1 l.length p1) (.slice a2 m.length p2))
   have hx0 : Ext w (w.alloc (.cells (cellsV k b d s (.slice a1 l.length p1) (.slice a2 m.length p2)) 27)) := (ext_refl w).alloc (Nat.le_refl _) _; have HSU : Hid (SizeOf.sizeOf l < N ∧ SizeOf.sizeOf m < N) := Hd (by
    simp only [Tree.mk.sizeOf_spec] at hN; omega)
   clear hR hN hokl hokm; simp only [cellsV] at hv0 hx0 ⊢; go_enter Tryz.func43, Tryz.ntmps43
   go_upto_region 1 with fail; generalize w.alloc (.cells #[.int .i64 k, .bool b, .bool d.neg, .string ⟨d.digits.toArray⟩, .int .i64 d.exp, .string ⟨s.toArray⟩, .slice a1 l.length p1, .slice a2 m.length p2] 27) = w1 at *; obtain ⟨S, hS⟩ := Ex w.heap.size; rw [hS] at hv0 ⊢; have HC := Hd hv0; have HE := Hd hx0
   have HTL := Hd (htl.keep (A' := fun _ => True) hx0.size (fun g _ hlt => ⟨trivial, hx0.block g hlt⟩)); have HRL := Hd (hrl.keep (A' := fun _ => True) hx0.size (fun g _ hlt => ⟨trivial, hx0.block g hlt⟩)); have HTM := Hd (htm.keep (A' := fun _ => True) hx0.size (fun g _ hlt => ⟨trivial, hx0.block g hlt⟩))
   have HRM := Hd (hrm.keep (A' := fun _ => True) hx0.size (fun g _ hlt => ⟨trivial, hx0.block g hlt⟩)); clear hv0 hx0 htl hrl htm hrm hS; by_cases hd : 150 < deep
   · have hdi : (150 : Int) < deep := by omega
     have HF : Hid (R = -1) := Hd (by rw [← HR.out, if_pos hd]); go_wp2_with fail; go_ret; exact ⟨ret_int HF.out.symm, HE.out⟩
   have hdi : ¬ (150 : Int) < deep := by omega
   have HR2 : Hid (fewM (deep + 1) (fewL (deep + 1) (left - 1 - s.length - d.digits.length) l) m = R) := Hd (by rw [← HR.out, if_neg hd]); clear hd HR; obtain ⟨L1, hL1⟩ := Ex (left - 1); obtain ⟨L2, hL2⟩ := Ex (L1 - s.length); obtain ⟨L3, hL3⟩ := Ex (L2 - d.digits.length); have HR3 : Hid (fewM (deep + 1) (fewL (deep + 1) L3 l) m = R) := Hd (by rw [← HR2.out, hL1, hL2, hL3])
   have e1 : IntKind.i64.wrap (left - 1) = L1 := by rw [IntWalk.i64_in _ (by omega)]; exact hL1
   have e2 : IntKind.i64.wrap (L1 - s.length) = L2 := by rw [IntWalk.i64_in _ (by omega)]; exact hL2
   have e3 : IntKind.i64.wrap (L2 - d.digits.length) = L3 := by rw [IntWalk.i64_in _ (by omega)]; exact hL3
   have HL3 : Hid (-600000000000000 ≤ L3 ∧ L3 ≤ 1000000) := Hd (by omega); clear HR2 hL1 hL2 hL3; obtain ⟨c0, c1, c2, c3, c4, c5, c6, c7⟩ := HC.out.c8; go_wp2_with fail; clear c0 c1 c2 c3 c4 c5 c6 c7 e1 e2 e3; go_loopw [1, 7] (fun lv iv wr => ∃ i : Nat, lv = .int .i64 (fewL (deep + 1) L3 (l.take i)) ∧ iv = .int .i64 i ∧ i ≤ l.length ∧ Ext w1 wr) (fun _ iv _ => 9223372036854775808 - (intOf iv).toNat)
   case atStart => exact ⟨0, by rw [List.take_zero, fewL], rfl, by omega, ext_refl _⟩
   case round =>
    obtain ⟨i, rfl, rfl, hi, hE⟩ := hrel; have HX := Hd hE; clear hE; obtain ⟨X, hX⟩ := Ex (fewL (deep + 1) L3 (l.take i)); have HXX := Hd hX; have hXb := fewL_bd (l.take i) (deep + 1) L3 ((okL_iff _).2 (fun p hp => (okL_iff l).1 HOK.out.2.2.2.2.1 p (List.mem_of_mem_take hp))) HL3.out.1; rw [hX] at hXb ⊢; have HXB : Hid (-600000000000000 ≤ X ∧ X ≤ 1000000) := Hd (by have := HL3.out.2; omega); clear hX
    have hcr := HC.out.ext HX.out; have HCR := Hd hcr; clear hcr; have c6 := HCR.out.cell 6; simp at c6; by_cases hlt : i < l.length
    · have hlti : (i : Int) < l.length := by omega
      have hi0 : (0 : Int) ≤ i := by omega
      by_cases hX0 : 0 ≤ X
      · obtain ⟨g, o, xk, xb, xd, xs, xa1, xn1, xc1, xa2, xn2, xc2, rfl, htx, hcell⟩ := row_elem HRL.out HTL.out rfl i hlt; obtain ⟨x0, x1, x2, x3, x4, x5, x6, x7⟩ := hcell wr (fun g _ hg => HX.out.block g hg); have HTX := Hd (htx.keep (w' := wr) (A' := fun _ => True) HX.out.size (fun g _ hlt => ⟨trivial, HX.out.block g hlt⟩)); have HOX := Hd ((okL_iff l).1 HOK.out.2.2.2.2.1 l[i] (List.getElem_mem hlt))
        have HTK : Hid (fewL (deep + 1) L3 (l.take (i + 1)) = fewT (deep + 1) X l[i]) := Hd (by rw [fewL_take _ _ _ i hlt, HXX.out, if_pos hX0]); have HSI := Hd (mem_sizeL l i hlt HSU.out.1); clear htx hcell; generalize l[i] = x at *; have hxb := HXB.out.2; have e8 : IntKind.i64.wrap ((deep : Int) + 1) = ((deep + 1 : Nat) : Int) := by rw [IntWalk.i64_in _ (by omega)]; omega
        have e9 : IntKind.i64.wrap ((i : Int) + 1) = ((i + 1 : Nat) : Int) := by rw [IntWalk.i64_in _ (by omega)]; omega
        go_wp2_with fail; refine (IH.out x _ _ (deep + 1) X wr HSI.out HOX.out (by omega) (by omega) (by omega) HTX.out).mono ?_; rintro e w4 ⟨rfl, hw4⟩; have HE4 := Hd (ext_trans HX.out hw4); clear hw4 c6 x0 x1 x2 x3 x4 x5 x6 x7; go_wp2_with fail; go_roundw
        case rel => exact ⟨i + 1, by rw [HTK.out], by go_num, by omega, HE4.out⟩
        case measure => simp [intOf]; omega
      · have HXL : Hid (fewL (deep + 1) L3 l = X) := Hd (by rw [fewL_stop _ _ _ i (by rw [HXX.out]; omega), HXX.out]); go_wp2_with fail; clear c6; go_loopw [1, 8] (fun lv iv wx => ∃ i : Nat, lv = .int .i64 (fewM (deep + 1) X (m.take i)) ∧ iv = .int .i64 i ∧ i ≤ m.length ∧ Ext wr wx) (fun _ iv _ => 9223372036854775808 - (intOf iv).toNat)
        case atStart => exact ⟨0, by rw [List.take_zero, fewM], rfl, by omega, ext_refl _⟩
        case round =>
         obtain ⟨i, rfl, rfl, hi, hE⟩ := hrel; have HY := Hd hE; clear hE; obtain ⟨Y, hY⟩ := Ex (fewM (deep + 1) X (m.take i)); have HYY := Hd hY; have hYb := fewM_bd (m.take i) (deep + 1) X ((okM_iff _).2 (fun p hp => (okM_iff m).1 HOK.out.2.2.2.2.2 p (List.mem_of_mem_take hp))) HXB.out.1; have hxb := HXB.out.2; rw [hY] at hYb ⊢; clear hY; have hcr := HC.out.ext (ext_trans HX.out HY.out)
         have HCR := Hd hcr; clear hcr; have c7 := HCR.out.cell 7; simp at c7; by_cases hlt : i < m.length
         · have hlti : (i : Int) < m.length := by omega
           have hi0 : (0 : Int) ≤ i := by omega
           by_cases hY0 : 0 ≤ Y
           · obtain ⟨g, o, xk, xb, xd, xs, xa1, xn1, xc1, xa2, xn2, xc2, rfl, htx, hcell⟩ := mem_elem HRM.out HTM.out rfl i hlt; have HTX := Hd htx; have HXC := Hd hcell; have hokx := (okM_iff m).1 HOK.out.2.2.2.2.2 m[i] (List.getElem_mem hlt); have HTK : Hid (fewM (deep + 1) X (m.take (i + 1)) = fewT (deep + 1) (Y - m[i].1.length) m[i].2) := Hd (by rw [fewM_take _ _ _ i hlt, HYY.out, if_pos hY0])
             have HSI := Hd (mem_size m i hlt HSU.out.2); have hYX : Hid (fewM (deep + 1) X m = fewM (deep + 1) X m) := Hd rfl
             have HIH : Hid (∀ w', Ext wr w' → Calls Tryz.prog 43 #[.agg (cellsV xk xb xd xs (.slice xa1 xn1 xc1) (.slice xa2 xn2 xc2)), .int .i64 (Y - m[i].1.length), .int .i64 (deep + 1 : Nat)] w' (fun e w'' => e = .returned (.int .i64 (fewT (deep + 1) (Y - m[i].1.length) m[i].2)) ∧ Ext w' w'')) := Hd (fun w' hw =>
              IH.out m[i].2 (fun _ => True) _ (deep + 1) (Y - m[i].1.length) w' (mem_size m i hlt HSU.out.2) hokx.2 (by have := hokx.1; omega) (by omega) (by omega) (HTX.out.keep (ext_trans (ext_trans HX.out HY.out) hw).size (fun g _ hlt => ⟨trivial, (ext_trans (ext_trans HX.out HY.out) hw).block g hlt⟩)))
             obtain ⟨ky, hky⟩ := Ex (m[i].1); have HFX : Hid (∀ w', Ext wr w' → w'.cell? ⟨g, o + i * 9, none⟩ = some (.string ⟨ky.toArray⟩) ∧ w'.cell? ⟨g, o + i * 9 + 1, none⟩ = some (.int .i64 xk) ∧ w'.cell? ⟨g, o + i * 9 + 2, none⟩ = some (.bool xb) ∧ w'.cell? ⟨g, o + i * 9 + 3, none⟩ = some (.bool xd.neg) ∧ w'.cell? ⟨g, o + i * 9 + 4, none⟩ = some (.string ⟨xd.digits.toArray⟩) ∧
              w'.cell? ⟨g, o + i * 9 + 5, none⟩ = some (.int .i64 xd.exp) ∧ w'.cell? ⟨g, o + i * 9 + 6, none⟩ = some (.string ⟨xs.toArray⟩) ∧ w'.cell? ⟨g, o + i * 9 + 7, none⟩ = some (.slice xa1 xn1 xc1) ∧ w'.cell? ⟨g, o + i * 9 + 8, none⟩ = some (.slice xa2 xn2 xc2) ∧ w'.cell? ⟨S, 7, none⟩ = some (.slice (some ⟨g, o, none⟩) m.length p2)) := Hd (fun w' hw => by
              obtain ⟨x0, x1, x2, x3, x4, x5, x6, x7, x8⟩ := hcell w' (fun g _ hg => (ext_trans (ext_trans HX.out HY.out) hw).block g hg); have c7 := (HCR.out.ext hw).cell 7; simp at c7; rw [hky] at x0; exact ⟨x0, x1, x2, x3, x4, x5, x6, x7, x8, c7⟩)
             obtain ⟨Z, hZ⟩ := Ex (fewT (deep + 1) (Y - m[i].1.length) m[i].2); obtain ⟨V, hV⟩ := Ex (Y - (ky.length : Int)); have hih := HIH.out; have htk := HTK.out; rw [hZ] at hih htk; rw [hky, hV] at hih; replace HIH := Hd hih; replace HTK := Hd htk; have hkl : ky.length ≤ 140737488355328 := by rw [← hky]; exact hokx.1
             clear hih htk hZ hky htx hcell hokx HTX HXC hYX; have e7 : IntKind.i64.wrap (Y - (ky.length : Int)) = V := by rw [IntWalk.i64_in _ (by omega)]; exact hV
             have e6 : IntKind.i64.wrap V = V := IntWalk.i64_in _ (by omega); have e8 : IntKind.i64.wrap ((deep : Int) + 1) = ((deep + 1 : Nat) : Int) := by rw [IntWalk.i64_in _ (by omega)]; omega
             have e9 : IntKind.i64.wrap ((i : Int) + 1) = ((i + 1 : Nat) : Int) := by rw [IntWalk.i64_in _ (by omega)]; omega
             go_upto_region 11 with fail; clear c7; refine Grow.wp_region_litW (G := Ext) (B := fun w' => Ext wr w') (anc := fun _ => []) (I := fun j => if j = 17 then some (Grow.Spec.val Ext (.int .i64 Z)) else none) (by kernel_rfl) (by kernel_rfl) (by kernel_rfl) ?_ ?_ ?_
             · exact fun w w' h hg => ext_trans h hg
             · exact (ext_refl _).drew
             repeat
              (refine Grow.Wk.step (fun K hK => ?_)
               first
               | (refine Grow.step_read (by rfl) (by rfl) ext_refl ?_
                  apply Exists.intro; refine ⟨fun w hB hF => ?_, ?_⟩
                  · obtain ⟨x0, x1, x2, x3, x4, x5, x6, x7, x8, c7⟩ := HFX.out _ hB; go_simp; try exact rfl
                  go_simp; refine hK _ _ ?_; clear hK K)
               | (refine Grow.step_off (by rfl) ?_
                  go_simp; refine hK _ _ ?_; clear hK K))
             refine Grow.Wk.step (fun K hK => ?_); refine Grow.step_rel (by rfl) (by rfl) (fun w' hB hF => ?_) (fun v hv => ?_)
             · go_simp; refine Grow.relUpon_enter ((HIH.out w' hB).mono ?_); rintro e w'' ⟨rfl, hw''⟩; exact ⟨_, rfl, hw'', rfl, trivial⟩
             obtain rfl : v = _ := hv; go_simp; refine hK _ _ ?_; clear hK K; repeat
              (refine Grow.Wk.step (fun K hK => ?_)
               first
               | (refine Grow.step_read (by rfl) (by rfl) ext_refl ?_
                  apply Exists.intro; refine ⟨fun w hB hF => ?_, ?_⟩
                  · skip
                    go_simp; try exact rfl
                  go_simp; refine hK _ _ ?_; clear hK K)
               | (refine Grow.step_off (by rfl) ?_
                  go_simp; refine hK _ _ ?_; clear hK K))
             refine Grow.Wk.nil ?_; intro w4 hB hF; clear hF; have HE4 := Hd (ext_trans HY.out hB); clear hB; go_wp2_with fail; go_roundw
             case rel => exact ⟨i + 1, by rw [HTK.out], by go_num, by omega, HE4.out⟩
             case measure => simp [intOf]; omega
           · have HF : Hid (Y = R) := Hd (by rw [← HR3.out, HXL.out, fewM_stop _ _ _ i (by rw [HYY.out]; omega), HYY.out]); have HEE := Hd (ext_trans HE.out (ext_trans HX.out HY.out)); go_wp2_with fail; go_ret; exact ⟨ret_int HF.out, HEE.out⟩
         · obtain rfl : i = m.length := by omega
           have hnlt : ¬ ((m.length : Int) < (m.length : Int)) := by omega
           have HF : Hid (Y = R) := Hd (by rw [← HR3.out, HXL.out, ← HYY.out, List.take_length]); have HEE := Hd (ext_trans HE.out (ext_trans HX.out HY.out)); go_wp2_with fail; go_ret; exact ⟨ret_int HF.out, HEE.out⟩
    · obtain rfl : i = l.length := by omega
      have hnlt : ¬ ((l.length : Int) < (l.length : Int)) := by omega
      have HXL : Hid (fewL (deep + 1) L3 l = X) := Hd (by rw [← HXX.out, List.take_length]); go_wp2_with fail; clear c6; go_loopw [1, 8] (fun lv iv wx => ∃ i : Nat, lv = .int .i64 (fewM (deep + 1) X (m.take i)) ∧ iv = .int .i64 i ∧ i ≤ m.length ∧ Ext wr wx) (fun _ iv _ => 9223372036854775808 - (intOf iv).toNat)
      case atStart => exact ⟨0, by rw [List.take_zero, fewM], rfl, by omega, ext_refl _⟩
      case round =>
       obtain ⟨i, rfl, rfl, hi, hE⟩ := hrel; have HY := Hd hE; clear hE; obtain ⟨Y, hY⟩ := Ex (fewM (deep + 1) X (m.take i)); have HYY := Hd hY; have hYb := fewM_bd (m.take i) (deep + 1) X ((okM_iff _).2 (fun p hp => (okM_iff m).1 HOK.out.2.2.2.2.2 p (List.mem_of_mem_take hp))) HXB.out.1; have hxb := HXB.out.2; rw [hY] at hYb ⊢; clear hY; have hcr := HC.out.ext (ext_trans HX.out HY.out)
       have HCR := Hd hcr; clear hcr; have c7 := HCR.out.cell 7; simp at c7; by_cases hlt : i < m.length
       · have hlti : (i : Int) < m.length := by omega
         have hi0 : (0 : Int) ≤ i := by omega
         by_cases hY0 : 0 ≤ Y
         · obtain ⟨g, o, xk, xb, xd, xs, xa1, xn1, xc1, xa2, xn2, xc2, rfl, htx, hcell⟩ := mem_elem HRM.out HTM.out rfl i hlt; have HTX := Hd htx; have HXC := Hd hcell; have hokx := (okM_iff m).1 HOK.out.2.2.2.2.2 m[i] (List.getElem_mem hlt); have HTK : Hid (fewM (deep + 1) X (m.take (i + 1)) = fewT (deep + 1) (Y - m[i].1.length) m[i].2) := Hd (by rw [fewM_take _ _ _ i hlt, HYY.out, if_pos hY0])
           have HSI := Hd (mem_size m i hlt HSU.out.2); have hYX : Hid (fewM (deep + 1) X m = fewM (deep + 1) X m) := Hd rfl
           have HIH : Hid (∀ w', Ext wr w' → Calls Tryz.prog 43 #[.agg (cellsV xk xb xd xs (.slice xa1 xn1 xc1) (.slice xa2 xn2 xc2)), .int .i64 (Y - m[i].1.length), .int .i64 (deep + 1 : Nat)] w' (fun e w'' => e = .returned (.int .i64 (fewT (deep + 1) (Y - m[i].1.length) m[i].2)) ∧ Ext w' w'')) := Hd (fun w' hw =>
            IH.out m[i].2 (fun _ => True) _ (deep + 1) (Y - m[i].1.length) w' (mem_size m i hlt HSU.out.2) hokx.2 (by have := hokx.1; omega) (by omega) (by omega) (HTX.out.keep (ext_trans (ext_trans HX.out HY.out) hw).size (fun g _ hlt => ⟨trivial, (ext_trans (ext_trans HX.out HY.out) hw).block g hlt⟩)))
           obtain ⟨ky, hky⟩ := Ex (m[i].1); have HFX : Hid (∀ w', Ext wr w' → w'.cell? ⟨g, o + i * 9, none⟩ = some (.string ⟨ky.toArray⟩) ∧ w'.cell? ⟨g, o + i * 9 + 1, none⟩ = some (.int .i64 xk) ∧ w'.cell? ⟨g, o + i * 9 + 2, none⟩ = some (.bool xb) ∧ w'.cell? ⟨g, o + i * 9 + 3, none⟩ = some (.bool xd.neg) ∧ w'.cell? ⟨g, o + i * 9 + 4, none⟩ = some (.string ⟨xd.digits.toArray⟩) ∧
            w'.cell? ⟨g, o + i * 9 + 5, none⟩ = some (.int .i64 xd.exp) ∧ w'.cell? ⟨g, o + i * 9 + 6, none⟩ = some (.string ⟨xs.toArray⟩) ∧ w'.cell? ⟨g, o + i * 9 + 7, none⟩ = some (.slice xa1 xn1 xc1) ∧ w'.cell? ⟨g, o + i * 9 + 8, none⟩ = some (.slice xa2 xn2 xc2) ∧ w'.cell? ⟨S, 7, none⟩ = some (.slice (some ⟨g, o, none⟩) m.length p2)) := Hd (fun w' hw => by
            obtain ⟨x0, x1, x2, x3, x4, x5, x6, x7, x8⟩ := hcell w' (fun g _ hg => (ext_trans (ext_trans HX.out HY.out) hw).block g hg); have c7 := (HCR.out.ext hw).cell 7; simp at c7; rw [hky] at x0; exact ⟨x0, x1, x2, x3, x4, x5, x6, x7, x8, c7⟩)
           obtain ⟨Z, hZ⟩ := Ex (fewT (deep + 1) (Y - m[i].1.length) m[i].2); obtain ⟨V, hV⟩ := Ex (Y - (ky.length : Int)); have hih := HIH.out; have htk := HTK.out; rw [hZ] at hih htk; rw [hky, hV] at hih; replace HIH := Hd hih; replace HTK := Hd htk; have hkl : ky.length ≤ 140737488355328 := by rw [← hky]; exact hokx.1
           clear hih htk hZ hky htx hcell hokx HTX HXC hYX; have e7 : IntKind.i64.wrap (Y - (ky.length : Int)) = V := by rw [IntWalk.i64_in _ (by omega)]; exact hV
           have e6 : IntKind.i64.wrap V = V := IntWalk.i64_in _ (by omega); have e8 : IntKind.i64.wrap ((deep : Int) + 1) = ((deep + 1 : Nat) : Int) := by rw [IntWalk.i64_in _ (by omega)]; omega
           have e9 : IntKind.i64.wrap ((i : Int) + 1) = ((i + 1 : Nat) : Int) := by rw [IntWalk.i64_in _ (by omega)]; omega
           go_upto_region 11 with fail; clear c7; refine Grow.wp_region_litW (G := Ext) (B := fun w' => Ext wr w') (anc := fun _ => []) (I := fun j => if j = 17 then some (Grow.Spec.val Ext (.int .i64 Z)) else none) (by kernel_rfl) (by kernel_rfl) (by kernel_rfl) ?_ ?_ ?_
           · exact fun w w' h hg => ext_trans h hg
           · exact (ext_refl _).drew
           repeat
            (refine Grow.Wk.step (fun K hK => ?_)
             first
             | (refine Grow.step_read (by rfl) (by rfl) ext_refl ?_
                apply Exists.intro; refine ⟨fun w hB hF => ?_, ?_⟩
                · obtain ⟨x0, x1, x2, x3, x4, x5, x6, x7, x8, c7⟩ := HFX.out _ hB; go_simp; try exact rfl
                go_simp; refine hK _ _ ?_; clear hK K)
             | (refine Grow.step_off (by rfl) ?_
                go_simp; refine hK _ _ ?_; clear hK K))
           refine Grow.Wk.step (fun K hK => ?_); refine Grow.step_rel (by rfl) (by rfl) (fun w' hB hF => ?_) (fun v hv => ?_)
           · go_simp; refine Grow.relUpon_enter ((HIH.out w' hB).mono ?_); rintro e w'' ⟨rfl, hw''⟩; exact ⟨_, rfl, hw'', rfl, trivial⟩
           obtain rfl : v = _ := hv; go_simp; refine hK _ _ ?_; clear hK K; repeat
            (refine Grow.Wk.step (fun K hK => ?_)
             first
             | (refine Grow.step_read (by rfl) (by rfl) ext_refl ?_
                apply Exists.intro; refine ⟨fun w hB hF => ?_, ?_⟩
                · skip
                  go_simp; try exact rfl
                go_simp; refine hK _ _ ?_; clear hK K)
             | (refine Grow.step_off (by rfl) ?_
                go_simp; refine hK _ _ ?_; clear hK K))
           refine Grow.Wk.nil ?_; intro w4 hB hF; clear hF; have HE4 := Hd (ext_trans HY.out hB); clear hB; go_wp2_with fail; go_roundw
           case rel => exact ⟨i + 1, by rw [HTK.out], by go_num, by omega, HE4.out⟩
           case measure => simp [intOf]; omega
         · have HF : Hid (Y = R) := Hd (by rw [← HR3.out, HXL.out, fewM_stop _ _ _ i (by rw [HYY.out]; omega), HYY.out]); have HEE := Hd (ext_trans HE.out (ext_trans HX.out HY.out)); go_wp2_with fail; go_ret; exact ⟨ret_int HF.out, HEE.out⟩
       · obtain rfl : i = m.length := by omega
         have hnlt : ¬ ((m.length : Int) < (m.length : Int)) := by omega
         have HF : Hid (Y = R) := Hd (by rw [← HR3.out, HXL.out, ← HYY.out, List.take_length]); have HEE := Hd (ext_trans HE.out (ext_trans HX.out HY.out)); go_wp2_with fail; go_ret; exact ⟨ret_int HF.out, HEE.out⟩
theorem few_any (t : Tree) (A : Nat → Prop) (c : Array Value) (left : Int) (w : World) (hok : okT t) (h0 : 0 ≤ left) (h1 : left ≤ 1000000) (h : TV w A t c) :
 Calls Tryz.prog 15 #[.agg c, .int .i64 left] w (fun e w' => e = .returned (.bool (decide (0 ≤ fewT 0 left t))) ∧ Ext w w') := by
 have key : ∀ N : Nat, ∀ (t : Tree) (A : Nat → Prop) (c : Array Value) (deep : Nat) (left : Int) (w : World), SizeOf.sizeOf t < N → okT t → -140737488355328 ≤ left → left ≤ 1000000 → deep ≤ 1000 → TV w A t c →
  Calls Tryz.prog 43 #[.agg c, .int .i64 left, .int .i64 (deep : Nat)] w (fun e w' => e = .returned (.int .i64 (fewT deep left t)) ∧ Ext w w') := by
  intro N; induction N with
  | zero => intro t A c deep left w h; omega
  | succ N ih => exact few_step N ih
 obtain ⟨k, b, d, s, la, ln, lc, ma, mn, mc, rfl⟩ := h.eight; have hv := VAt.new w (cellsV k b d s (.slice la ln lc) (.slice ma mn mc)); have hx : Ext w (w.alloc (.cells (cellsV k b d s (.slice la ln lc) (.slice ma mn mc)) 27)) := (ext_refl w).alloc (Nat.le_refl _) _; simp only [cellsV] at hv hx ⊢; go_enter Tryz.func15, Tryz.ntmps15
 go_upto_region 1 with fail; generalize w.alloc (.cells #[.int .i64 k, .bool b, .bool d.neg, .string ⟨d.digits.toArray⟩, .int .i64 d.exp, .string ⟨s.toArray⟩, .slice la ln lc, .slice ma mn mc] 27) = w1 at *; have HT := Hd (h.keep (w' := w1) (A' := fun _ => True) hx.size (fun g _ hlt => ⟨trivial, hx.block g hlt⟩)); obtain ⟨S, hS⟩ := Ex w.heap.size; rw [hS] at hv ⊢
 obtain ⟨c0, c1, c2, c3, c4, c5, c6, c7⟩ := hv.c8; have HE := Hd hx; clear h hx hS hv; go_wp2_with fail; refine (key _ t _ _ 0 left w1 (Nat.lt_succ_self _) hok (by omega) h1 (by omega) HT.out).mono ?_; rintro e w2 ⟨rfl, hw2⟩; have HE2 := Hd (ext_trans HE.out hw2); clear hw2; go_wp2_with fail; go_ret; exact ⟨ret_bool (by simp), HE2.out⟩
theorem cat_toList (a b : List UInt8) : ByteArray.mk a.toArray ++ ByteArray.mk b.toArray = ByteArray.mk (a ++ b).toArray := by
 apply ByteArray.ext; simp [ByteArray.data_append]
set_option maxHeartbeats 1600000 in
theorem gap5_any (by' : Int) (deep : Nat) (w : World) (h0 : -1 ≤ by') (h1 : by' ≤ 16) (hd : deep ≤ 10000000) :
 Calls Tryz.prog 98 #[.int .i64 by', .int .i64 deep] w fun e w' => e = .returned (.string ⟨(gapP by' deep).toArray⟩) ∧ w' = w := by
 by_cases hn : by' < 0
 · have e : gapP by' deep = [] := by unfold gapP; rw [if_pos hn]
   rw [e]; go_enter Tryz.func98, Tryz.ntmps98
   go_wp2_with fail; go_ret; exact ⟨rfl, rfl⟩
 obtain ⟨n, rfl⟩ : ∃ n : Nat, by' = n := ⟨by'.toNat, by omega⟩
 have hn16 : n ≤ 16 := by omega
 have hm : n * deep ≤ 160000000 := by
  have := Nat.mul_le_mul hn16 hd; omega
 have e : gapP (n : Int) deep = 10 :: List.replicate (n * deep) 32 := by unfold gapP; rw [if_neg hn]; rfl
 rw [e]; obtain ⟨M, hM⟩ := Ex (n * deep); have hmul : IntKind.i64.wrap ((n : Int) * (deep : Int)) = (M : Int) := by rw [← hM, ← Int.natCast_mul, IntWalk.i64_in _ (by omega)]
 rw [hM] at hm ⊢; clear hM e; go_enter Tryz.func98, Tryz.ntmps98
 go_wp2_with fail; go_loop [5, 6] (fun sv kv => ∃ k : Nat, kv = .int .i64 k ∧ k ≤ M ∧ sv = .string ⟨(10 :: List.replicate k 32).toArray⟩) (fun _ kv => M - (intOf kv).toNat)
 case atStart => exact ⟨0, rfl, by omega, rfl⟩
 case round =>
  obtain ⟨k, rfl, hk, rfl⟩ := hrel; by_cases hlt : k < M
  · have hlti : (k : Int) < M := by omega
    have hcat := cat_toList (10 :: List.replicate k 32) [32]; rw [List.cons_append, ← List.replicate_succ'] at hcat; have hl : (10 :: List.replicate k (32 : UInt8)).length = k + 1 := by simp
    obtain ⟨X, hX⟩ := Ex ((10 :: List.replicate k (32 : UInt8))); obtain ⟨Y, hY⟩ := Ex ((10 :: List.replicate (k + 1) (32 : UInt8))); rw [hX, hY] at hcat; rw [hX] at hl ⊢; have HY := Hd hY; have hs : ¬ 9223372036854775807 < X.length + 1 := by omega
    have e9 : IntKind.i64.wrap ((k : Int) + 1) = ((k + 1 : Nat) : Int) := by rw [IntWalk.i64_in _ (by omega)]; omega
    clear hX hY; go_wp2_with fail; go_round
    case rel => exact ⟨k + 1, by go_num, by omega, by rw [HY.out]⟩
    case measure => simp [intOf]; omega
  · obtain rfl : k = M := by omega
    have hnlt : ¬ ((k : Int) < (k : Int)) := by omega
    go_wp2_with fail; go_ret; exact ⟨rfl, rfl⟩
theorem r2digit_any (c : UInt8) (w : World) :
 Calls Tryz.prog 163 #[.int .u8 c.toNat] w fun e w' => e = .returned (.bool (isDig c)) ∧ w = w' := by
 have hd : isDig c = (decide (48 ≤ c.toNat) && decide (c.toNat ≤ 57)) := rfl; have HD := Hd hd; clear hd; by_cases h1 : 48 ≤ c.toNat
 · go_enter Tryz.func163, Tryz.ntmps163
   go_wp2_with fail; go_ret; exact ⟨ret_bool (by rw [HD.out]; simp [h1]; try omega), rfl⟩
 · go_enter Tryz.func163, Tryz.ntmps163
   go_wp2_with fail; go_ret; exact ⟨ret_bool (by rw [HD.out]; simp [h1]; try omega), rfl⟩
theorem sane_cons (neg : Bool) (c : UInt8) (t : List UInt8) (x : Int) (z : UInt8) (hz : (c :: t).getLast? = some z) : sane ⟨neg, c :: t, x⟩ = ((c :: t).all isDig && decide (t.length + 1 ≤ 40) && decide (-400 ≤ (t.length : Int) + 1 + x) && decide ((t.length : Int) + 1 + x ≤ 400) && decide (c ≠ 48) && decide (z ≠ 48)) := by
 have hlen : (c :: t).length = t.length + 1 := rfl; have e1 : (some c != some (48 : UInt8)) = decide (c ≠ 48) := by rw [Bool.eq_iff_iff]; simp
 have e2 : (some z != some (48 : UInt8)) = decide (z ≠ 48) := by rw [Bool.eq_iff_iff]; simp
 simp only [sane, hlen, height]; rw [if_neg (by omega), hz, List.head?_cons, e1, e2]; by_cases h1 : (c :: t).all isDig = true
 · rw [h1]; by_cases h2 : t.length + 1 ≤ 40
   · rw [if_neg (by simp; omega)]; by_cases h3 : x < -800 ∨ 800 < x
     · rw [if_pos (by simpa using h3)]; rw [eq_comm, Bool.eq_false_iff]; simp; omega
     · rw [if_neg (by simpa using h3)]; simp [h2]
   · rw [if_pos (by simp; omega)]; simp; omega
 · have h1' : (c :: t).all isDig = false := by simpa using h1
   rw [h1', if_pos (by simp)]; simp
set_option maxHeartbeats 1600000 in
theorem r2sane_any (d : Num) (w : World) (hl : d.digits.length ≤ 140737488355328) :
 Calls Tryz.prog 133 #[.agg #[.bool d.neg, .string ⟨d.digits.toArray⟩, .int .i64 d.exp]] w fun e w' => e = .returned (.bool (sane d)) ∧ Ext w w' := by
 obtain ⟨neg, l, x⟩ := d; have hE : Ext w (w.alloc (.cells #[.bool neg, .string ⟨l.toArray⟩, .int .i64 x] 23)) := (ext_refl w).alloc (Nat.le_refl _) _; cases l with
 | nil =>
   cases neg with
   | true =>
     go_enter Tryz.func133, Tryz.ntmps133
     go_wp2_with fail; go_ret; exact ⟨rfl, hE⟩
   | false =>
     by_cases hx : x = 0
     · subst hx; go_enter Tryz.func133, Tryz.ntmps133
       go_wp2_with fail; go_ret; exact ⟨rfl, hE⟩
     · have hx0 : (x == 0) = false := by simpa using hx
       have hs : Hid (sane ⟨false, [], x⟩ = false) := Hd (by simp [sane, hx]); clear hx; go_enter Tryz.func133, Tryz.ntmps133
       go_wp2_with fail; go_ret; exact ⟨ret_bool hs.out.symm, hE⟩
 | cons c t =>
   obtain ⟨z, hz⟩ : ∃ z, (c :: t).getLast? = some z := by cases h : (c :: t).getLast? with | none => simp at h | some z => exact ⟨z, rfl⟩
   have HS := Hd (sane_cons neg c t x z hz); have hz2 : ∀ h, (ByteArray.mk (c :: t).toArray)[t.length]'h = z := fun h => by
    rw [List.getLast?_eq_getElem?] at hz; simp only [List.length_cons, Nat.add_sub_cancel] at hz; have h2 := sx_get (c :: t) t.length (by simp); rw [List.getElem?_eq_getElem (by simp)] at hz; rw [h2]; simpa using hz
   have h0 : ∀ h, (ByteArray.mk (c :: t).toArray)[0]'h = c := fun _ => rfl; have hlc : (c :: t).length = t.length + 1 := rfl; have hl1 : t.length < 140737488355328 := by simp at hl; omega
   have hne : (((t.length : Int) + 1) == 0) = false := by simp; omega
   clear hz hl; generalize c :: t = L at *; have hblk := heap_alloc_new w (.cells #[.bool neg, .string ⟨L.toArray⟩, .int .i64 x] 23); go_enter Tryz.func133, Tryz.ntmps133
   go_wp2_with fail; generalize w.alloc (.cells #[.bool neg, .string ⟨L.toArray⟩, .int .i64 x] 23) = w0 at *; have HB := Hd hblk; have c1 : w0.cell? ⟨w.heap.size, 1, none⟩ = some (.string ⟨L.toArray⟩) := by rw [cell_of_cells hblk]; rfl
   have c2 : w0.cell? ⟨w.heap.size, 2, none⟩ = some (.int .i64 x) := by rw [cell_of_cells hblk]; rfl
   clear hblk; go_loop [4] (fun kv => ∃ k : Nat, kv = .int .i64 k ∧ k ≤ t.length + 1 ∧ ∀ i, (h : i < L.length) → i < k → isDig L[i] = true) (fun kv => t.length + 1 - (intOf kv).toNat)
   case atStart => exact ⟨0, rfl, by omega, fun i _ h => by omega⟩
   case round =>
    obtain ⟨k, rfl, hk, hall⟩ := hrel; have HA := Hd hall; clear hall; by_cases hlt : k < t.length + 1
    · have hkl : k < L.length := by omega
      have hg := sx_get L k hkl; have HN : Hid (isDig L[k] = true → ∀ i, (h : i < L.length) → i < k + 1 → isDig L[i] = true) := Hd (fun hd i h hi => by
       by_cases e : i = k
       · subst e; exact hd
       · exact HA.out i h (by omega))
      have HF : Hid (isDig L[k] = false → sane ⟨neg, L, x⟩ = false) := Hd (fun hd => by
       have : L.all isDig = false := by
        rw [Bool.eq_false_iff]; intro h; have := List.all_eq_true.1 h _ (List.getElem_mem hkl); rw [hd] at this; cases this
       rw [HS.out, this]; simp)
      generalize L[k] = d at *; go_wp2_with fail; refine (r2digit_any d _).mono ?_; rintro e w1 ⟨rfl, rfl⟩; cases hd : isDig d with
      | true =>
        go_wp2_with fail; go_round
        case rel => exact ⟨k + 1, by go_num, by omega, HN.out hd⟩
        case measure => simp [intOf]; omega
      | false =>
        have HS2 := Hd (HF.out hd); go_wp2_with fail; go_ret; exact ⟨ret_bool HS2.out.symm, hE⟩
    · obtain rfl : k = t.length + 1 := by omega
      have hal : L.all isDig = true := by
       rw [List.all_eq_true]; intro y hy; obtain ⟨i, hi, rfl⟩ := List.getElem_of_mem hy; exact HA.out i hi (by omega)
      have HS2 := HS.out; rw [hal, Bool.true_and] at HS2; have hs := Hd HS2; clear HS2 HS HA hal hk hlt; by_cases h40 : t.length + 1 ≤ 40
      · by_cases h1 : -1000 ≤ x
        · by_cases h2 : x ≤ 1000
          · by_cases h3 : -400 ≤ (t.length : Int) + 1 + x
            · by_cases h4 : (t.length : Int) + 1 + x ≤ 400
              · by_cases h5 : c = 48
                · have h5n : c.toNat = 48 := by rw [h5]; rfl
                  have H5 := Hd h5; clear h5
                  (go_wp2_with fail
                   go_ret; exact ⟨ret_bool (by rw [hs.out]; symm; rw [Bool.eq_false_iff]; (try rw [H5.out]); simp; try omega), hE⟩)
                · have h5n : ((c.toNat : Int) != 48) = true := by
                   have : ¬ c.toNat = 48 := fun e => h5 (UInt8.toNat_inj.1 e); simp; omega
                  have H5 := Hd h5; clear h5; go_wp2_with fail; go_ret; refine ⟨ret_bool ?_, hE⟩; rw [hs.out]; have e1 : ((z.toNat : Int) != 48) = decide (z ≠ 48) := by
                   rw [Bool.eq_iff_iff]; simp [← UInt8.toNat_inj]; omega
                  rw [e1]; simp [h40, h3, h4, H5.out]
              · (go_wp2_with fail
                 go_ret; exact ⟨ret_bool (by rw [hs.out]; symm; rw [Bool.eq_false_iff]; (try rw [H5.out]); simp; try omega), hE⟩)
            · (go_wp2_with fail
               go_ret; exact ⟨ret_bool (by rw [hs.out]; symm; rw [Bool.eq_false_iff]; (try rw [H5.out]); simp; try omega), hE⟩)
          · (go_wp2_with fail
             go_ret; exact ⟨ret_bool (by rw [hs.out]; symm; rw [Bool.eq_false_iff]; (try rw [H5.out]); simp; try omega), hE⟩)
        · (go_wp2_with fail
           go_ret; exact ⟨ret_bool (by rw [hs.out]; symm; rw [Bool.eq_false_iff]; (try rw [H5.out]); simp; try omega), hE⟩)
      · (go_wp2_with fail
         go_ret; exact ⟨ret_bool (by rw [hs.out]; symm; rw [Bool.eq_false_iff]; (try rw [H5.out]); simp; try omega), hE⟩)
theorem ten_at : ∀ n : Nat, n < 10 → (ByteArray.mk #[48, 49, 50, 51, 52, 53, 54, 55, 56, 57]).extract n (n + 1) = ByteArray.mk [dgt n].toArray := by
 intro n hn; have : ∀ k : Fin 10, (ByteArray.mk #[48, 49, 50, 51, 52, 53, 54, 55, 56, 57]).extract k.1 (k.1 + 1) = ByteArray.mk [dgt k.1].toArray := by decide +kernel
 exact this ⟨n, hn⟩
set_option maxHeartbeats 1600000 in
theorem whole_step (N : Nat) (ih : ∀ (n : Nat) (w : World), n < N → n ≤ 1000000000000 → Calls Tryz.prog 135 #[.int .i64 n] w fun e w' => e = .returned (.string ⟨(decD n).toArray⟩) ∧ Ext w w') :
 ∀ (n : Nat) (w : World), n < N + 1 → n ≤ 1000000000000 → Calls Tryz.prog 135 #[.int .i64 n] w fun e w' => e = .returned (.string ⟨(decD n).toArray⟩) ∧ Ext w w' := by
 intro n w hN hn; have IH := Hd ih; clear ih; by_cases h10 : n < 10
 · have hi : (n : Int) < 10 := by omega
   have e1 : decD n = [dgt n] := by
    have : ∀ k : Fin 10, decD k.1 = [dgt k.1] := by
     intro k; unfold decD; split
     · rename_i h; rw [h]; rfl
     · rename_i h; rw [digs_pos h, Nat.div_eq_of_lt k.2, digs_zero, Nat.mod_eq_of_lt k.2]; rfl
    exact this ⟨n, h10⟩
   have hx := ten_at n h10; have e9 : IntKind.i64.wrap ((n : Int) + 1) = ((n + 1 : Nat) : Int) := by rw [IntWalk.i64_in _ (by omega)]; omega
   rw [e1]; have hn1 : (n : Int) + 1 ≤ 10 := by omega
   have hn0 : (0 : Int) ≤ n := by omega
   clear e1 IH hN; go_enter Tryz.func135, Tryz.ntmps135
   go_wp2_with fail; go_ret; exact ⟨rfl, ext_refl _⟩
 · have hi : ¬ (n : Int) < 10 := by omega
   have e1 : decD n = decD (n / 10) ++ [dgt (n % 10)] := by
    unfold decD; rw [if_neg (by omega), if_neg (by omega), digs_pos (by omega)]
   have hx := ten_at (n % 10) (Nat.mod_lt _ (by omega)); have hq : (n : Int).tdiv 10 = ((n / 10 : Nat) : Int) := by rw [Int.tdiv_eq_ediv_of_nonneg (by omega)]; omega
   have hr : (n : Int).tmod 10 = ((n % 10 : Nat) : Int) := by rw [Int.tmod_eq_emod_of_nonneg (by omega)]; omega
   obtain ⟨q, hqq⟩ := Ex (n / 10); obtain ⟨r, hrr⟩ := Ex (n % 10); rw [hqq] at e1 hq; rw [hrr] at e1 hr hx; have hr10 : r < 10 := by omega
   have HIH := Hd (fun w' => IH.out q w' (by omega) (by omega)); have hql : (decD q).length ≤ 1000 := by
    unfold decD; split
    · simp
    · exact Nat.le_trans (digs_len 13 q (by omega)) (by omega)
   have hcat := cat_toList (decD q) [dgt r]; have w1 : IntKind.i64.wrap (q : Int) = (q : Int) := by rw [IntWalk.i64_in _ (by omega)]
   have w2 : IntKind.i64.wrap (r : Int) = (r : Int) := by rw [IntWalk.i64_in _ (by omega)]
   have e9 : IntKind.i64.wrap ((r : Int) + 1) = ((r + 1 : Nat) : Int) := by rw [IntWalk.i64_in _ (by omega)]; omega
   rw [e1]; have hn1 : (r : Int) + 1 ≤ 10 := by omega
   have hn0 : (0 : Int) ≤ r := by omega
   have hn2 : (0 : Int) ≤ (r : Int) + 1 := by omega
   have hn3 : (r : Int) ≤ (r : Int) + 1 := by omega
   obtain ⟨X, hX⟩ := Ex (decD q); have hih := HIH.out; rw [hX] at hql hcat hih ⊢; replace HIH := Hd hih; have hs : ¬ 9223372036854775807 < X.length + 1 := by omega
   clear e1 IH hN hX hqq hrr hih; go_enter Tryz.func135, Tryz.ntmps135
   go_upto_region 3 with fail; refine Grow.wp_region_litW (G := Ext) (B := fun w' => Ext w w') (anc := fun _ => []) (I := fun j => if j = 2 then some (Grow.Spec.val Ext (.string ⟨X.toArray⟩)) else none) (by kernel_rfl) (by kernel_rfl) (by kernel_rfl) ?_ ?_ ?_
   · exact fun w w' h hg => ext_trans h hg
   · exact (ext_refl _).drew
   repeat
    (refine Grow.Wk.step (fun K hK => ?_)
     first
     | (refine Grow.step_read (by rfl) (by rfl) (fun w => ext_refl w) ?_
        apply Exists.intro; refine ⟨fun w hB hF => ?_, ?_⟩
        · skip
          go_simp; try exact rfl
        go_simp; refine hK _ _ ?_; clear hK K)
     | (refine Grow.step_off (by rfl) ?_
        go_simp; refine hK _ _ ?_; clear hK K))
   refine Grow.Wk.step (fun K hK => ?_); refine Grow.step_rel (by rfl) (by rfl) (fun w' hB hF => ?_) (fun v hv => ?_)
   · go_simp; refine Grow.relUpon_enter ((HIH.out w').mono ?_); rintro e w'' ⟨rfl, hw''⟩; exact ⟨_, rfl, hw'', rfl, trivial⟩
   obtain rfl : v = _ := hv; go_simp; refine hK _ _ ?_; clear hK K; repeat
    (refine Grow.Wk.step (fun K hK => ?_)
     first
     | (refine Grow.step_read (by rfl) (by rfl) (fun w => ext_refl w) ?_
        apply Exists.intro; refine ⟨fun w hB hF => ?_, ?_⟩
        · skip
          go_simp; try exact rfl
        go_simp; refine hK _ _ ?_; clear hK K)
     | (refine Grow.step_off (by rfl) ?_
        go_simp; refine hK _ _ ?_; clear hK K))
   refine Grow.Wk.nil ?_; intro wv hB hF; replace hB : Ext w wv := hB; clear hF; go_wp2_with fail; go_ret; exact ⟨rfl, hB⟩
theorem whole_any (n : Nat) (w : World) (hn : n ≤ 1000000000000) : Calls Tryz.prog 135 #[.int .i64 n] w fun e w' => e = .returned (.string ⟨(decD n).toArray⟩) ∧ Ext w w' := by
 have key : ∀ N : Nat, ∀ (n : Nat) (w : World), n < N → n ≤ 1000000000000 → Calls Tryz.prog 135 #[.int .i64 n] w fun e w' => e = .returned (.string ⟨(decD n).toArray⟩) ∧ Ext w w' := by
  intro N; induction N with
  | zero => intro n w h; omega
  | succ N ih => exact whole_step N ih
 exact key _ n w (Nat.lt_succ_self _) hn
end Go.Proofs.YtjapbjmeoaagmaaGreatDoor
end

section
set_option maxRecDepth 100000
namespace Orange
theorem zeros_snoc (n : Nat) : zeros (n + 1) = zeros n ++ [48] := List.replicate_succ'
end Orange
namespace Go.Proofs.YtjapbjmeoaagmaaGreatDoor
open Go.RowKit Go.Mem Orange
set_option maxHeartbeats 1600000 in
theorem r2zeros_any (n : Int) (w : World) (hn : n ≤ 1000000) (hn0 : -1000000000 ≤ n) :
 Calls Tryz.prog 134 #[.int .i64 n] w fun e w' => e = .returned (.string ⟨(zeros n.toNat).toArray⟩) ∧ Ext w w' := by
 go_enter Tryz.func134, Tryz.ntmps134
 go_wp2_with fail; go_loop [3, 4] (fun sv kv => ∃ k : Nat, kv = .int .i64 k ∧ k ≤ n.toNat ∧ sv = .string ⟨(zeros k).toArray⟩) (fun _ kv => n.toNat - (intOf kv).toNat)
 case atStart => exact ⟨0, rfl, by omega, rfl⟩
 case round =>
  obtain ⟨k, rfl, hk, rfl⟩ := hrel; by_cases hlt : (k : Int) < n
  · have hcat := ba_app (zeros k) [48]; rw [← zeros_snoc] at hcat; have hl := zeros_len k; go_wp2_with fail; go_round
    case rel => exact ⟨k + 1, by go_num, by omega, rfl⟩
    case measure => simp [intOf]; omega
  · obtain rfl : k = n.toNat := by omega
    go_wp2_with fail; go_ret; exact ⟨rfl, ext_refl _⟩
set_option maxHeartbeats 6400000 in
theorem r2print_any (d : Num) (w : World) (h : sane d = true) :
 Calls Tryz.prog 97 #[.agg #[.bool d.neg, .string ⟨d.digits.toArray⟩, .int .i64 d.exp]] w fun e w' => e = .returned (.string ⟨(printP d).toArray⟩) ∧ Ext w w' := by
 have hdl : d.digits.length ≤ 140737488355328 := by
  rcases sane_parts h with e | ⟨_, ha, hl, _⟩
  · rw [e]; simp [Num.zero]
  · omega
 have hPP : printP d = if d.digits = [] then [48] else if d.neg then 45 :: writtenP d else writtenP d := by unfold printP; rw [if_pos h]
 have hm1 := NumAt.new w d; have hE1 : Ext w (w.alloc (.cells #[.bool d.neg, .string ⟨d.digits.toArray⟩, .int .i64 d.exp] 23)) := (ext_refl w).alloc (Nat.le_refl _) _; go_enter Tryz.func97, Tryz.ntmps97
 go_wp2_with fail; generalize w.alloc (.cells #[.bool d.neg, .string ⟨d.digits.toArray⟩, .int .i64 d.exp] 23) = w1 at *; refine (r2sane_any d _ hdl).mono ?_; rintro e w2 ⟨rfl, hw2⟩; rw [h]; have hE2 := ext_trans hE1 hw2; have HM2 := Hd (hm1.ext hw2); obtain ⟨c0, c1, c2, f0, f1, f2, hp⟩ := HM2.out.cells; clear hm1 hw2 hE1; by_cases h0 : d.digits = []
 · have HF : Hid (printP d = [48]) := Hd (by rw [hPP, if_pos h0]); rw [h0] at c1; clear hPP; go_wp2_with fail; go_ret; exact ⟨ret_str HF.out.symm, hE2⟩
 rw [if_neg h0] at hPP; rcases sane_parts h with e | ⟨_, ha, hl, hh1, hh2, hx1, hx2, hh, hg⟩
 · subst e; exact absurd rfl h0
 obtain ⟨neg, l, x⟩ := d; simp only at *; have HP := Hd hPP; have hl1 : 1 ≤ l.length := by cases l with | nil => exact absurd rfl h0 | cons c t => simp
 have hhd : height ⟨neg, l, x⟩ = (l.length : Int) + x := rfl; have hW : writtenP ⟨neg, l, x⟩ = writtenP ⟨neg, l, x⟩ := rfl; conv at hW => rhs; unfold writtenP
 simp only at hW; obtain ⟨H, hH⟩ := Ex (height ⟨neg, l, x⟩); rw [hH] at hh1 hh2 hhd hW; have HW := Hd hW; have hadd : IntKind.i64.wrap ((l.length : Int) + x) = H := by rw [IntWalk.i64_in _ (by omega), hhd]
 have hne0 : ((l.length : Int) == 0) = false := by simp; omega
 have hem : l.isEmpty = false := by simpa using h0
 have HX := Hd hhd; clear hW hH hh hg ha h h0 hhd hPP hdl; by_cases k1 : (l.length : Int) ≤ H ∧ H ≤ 21
 · obtain ⟨k, hk⟩ : ∃ k : Nat, H - l.length = k := ⟨(H - l.length).toNat, by omega⟩
   obtain ⟨X, hX⟩ := Ex (l ++ zeros k); have HF : Hid (writtenP ⟨neg, l, x⟩ = X) := Hd (by rw [HW.out, if_pos k1, hk, ← hX]; rfl); have happ := sx_app l (zeros k); have hs1 : ¬ 9223372036854775807 < l.length + (zeros k).length := by rw [zeros_len]; omega
   have hXl : X.length ≤ 1000 := by rw [← hX, List.length_append, zeros_len]; omega
   rw [hX] at happ; obtain ⟨k1, k2⟩ := k1; have hwk : IntKind.i64.wrap (k : Int) = k := IntWalk.i64_in _ (by omega); clear HW HX hX; go_upto_region 15 with fail
   refine Grow.wp_region_litW (G := Ext) (B := fun w' => Ext w2 w' ∧ NumAt w' w.heap.size ⟨neg, l, x⟩) (anc := fun _ => []) (I := fun j => if j = 5 then some (Grow.Spec.val Ext (.string ⟨(zeros k).toArray⟩)) else none) (by kernel_rfl) (by kernel_rfl) (by kernel_rfl) ?_ ?_ ?_
   · exact fun w w' h hg => ⟨ext_trans h.1 hg, h.2.ext hg⟩
   · exact ⟨(ext_refl _).drew, (HM2.out).ext (ext_refl _).drew⟩
   repeat
    (refine Grow.Wk.step (fun K hK => ?_)
     first
     | (refine Grow.step_read (by rfl) (by rfl) ext_refl ?_
        apply Exists.intro; refine ⟨fun w hB hF => ?_, ?_⟩
        · obtain ⟨hB1, hB2⟩ := hB; obtain ⟨c0, c1, c2, f0, f1, f2, hp⟩ := hB2.cells; simp only at c0 c1 c2; go_simp; try exact rfl
        go_simp; refine hK _ _ ?_; clear hK K)
     | (refine Grow.step_off (by rfl) ?_
        go_simp; refine hK _ _ ?_; clear hK K))
   refine Grow.Wk.step (fun K hK => ?_); refine Grow.step_rel (by rfl) (by rfl) (fun w' hB hF => ?_) (fun v hv => ?_)
   · obtain ⟨hB1, hB2⟩ := hB; go_simp; refine Grow.relUpon_enter ((r2zeros_any (k : Int) w' (by omega) (by omega)).mono ?_); rintro e w'' ⟨rfl, hw''⟩; exact ⟨_, rfl, hw'', rfl, trivial⟩
   obtain rfl : v = _ := hv; go_simp; refine hK _ _ ?_; clear hK K; repeat
    (refine Grow.Wk.step (fun K hK => ?_)
     first
     | (refine Grow.step_read (by rfl) (by rfl) ext_refl ?_
        apply Exists.intro; refine ⟨fun w hB hF => ?_, ?_⟩
        · obtain ⟨hB1, hB2⟩ := hB; obtain ⟨c0, c1, c2, f0, f1, f2, hp⟩ := hB2.cells; simp only at c0 c1 c2; go_simp; try exact rfl
        go_simp; refine hK _ _ ?_; clear hK K)
     | (refine Grow.step_off (by rfl) ?_
        go_simp; refine hK _ _ ?_; clear hK K))
   refine Grow.Wk.nil ?_; intro w3 hB hF; clear hF c0 c1 c2 f0 f1 f2 hp; obtain ⟨hB1, hB2⟩ := hB; have hE3 := ext_trans hE2 hB1; obtain ⟨c0, c1, c2, f0, f1, f2, hp⟩ := hB2.cells; simp only at c0 c1 c2; have HRES : Hid (printP ⟨neg, l, x⟩ = if neg then 45 :: X else X) := Hd (by rw [HP.out, HF.out]); have ha9 : (ByteArray.mk #[45]) ++ ⟨X.toArray⟩ = ⟨(45 :: X).toArray⟩ := sx_app [45] X
   have hs9 : ¬ 9223372036854775807 < 1 + X.length := by omega
   cases neg with
   | true =>
     have HR : Hid (printP ⟨true, l, x⟩ = 45 :: X) := Hd (by rw [HRES.out]; rfl); clear HP HF; go_wp2_with fail; go_ret; exact ⟨ret_str HR.out.symm, hE3⟩
   | false =>
     have HR : Hid (printP ⟨false, l, x⟩ = X) := Hd (by rw [HRES.out]; rfl); clear HP HF; go_wp2_with fail; go_ret; exact ⟨ret_str HR.out.symm, hE3⟩
 · have HW2 := Hd (HW.out.trans (if_neg k1)); by_cases k2 : 1 ≤ H ∧ H ≤ 21
   · have k3 : H < l.length := by omega
     obtain ⟨k, rfl⟩ : ∃ k : Nat, H = k := ⟨H.toNat, by omega⟩
     obtain ⟨X, hX⟩ := Ex (l.take k ++ [46] ++ l.drop k); have HF : Hid (writtenP ⟨neg, l, x⟩ = X) := Hd (by rw [HW2.out, if_pos k2, ← hX]; simp); have k4 : ¬ (l.length : Int) ≤ k := by omega
     obtain ⟨k2, k5⟩ := k2; have hx1 := sx_take l k; have hx2 := sx_drop l k l.length (Nat.le_refl _); have ha1 : (ByteArray.mk (l.take k).toArray) ++ ⟨#[46]⟩ = ⟨(l.take k ++ [46]).toArray⟩ := sx_app (l.take k) [46]; have ha2 := sx_app (l.take k ++ [46]) (l.drop k); have hXl : X.length ≤ 1000 := by rw [← hX]; simp; omega
     rw [hX] at ha2; have b1 : (0 : Int) ≤ k := by omega
     have b2 : (k : Int) ≤ l.length := by omega
     have b3 : k ≤ l.length := by omega
     have hs1 : ¬ 9223372036854775807 < (l.take k).length + 1 := by simp; omega
     have hs2 : ¬ 9223372036854775807 < (l.take k ++ [46]).length + (l.drop k).length := by simp; omega
     clear hX; generalize l.take k ++ [46] = A at *; generalize l.take k = A1 at *; generalize l.drop k = A2 at *; clear HW HW2 HX k1; go_upto_region 17 with fail; refine Grow.wp_region_litW (G := Ext) (B := fun w' => Ext w2 w' ∧ NumAt w' w.heap.size ⟨neg, l, x⟩) (anc := fun _ => []) (I := fun j => none) (by kernel_rfl) (by kernel_rfl) (by kernel_rfl) ?_ ?_ ?_
     · exact fun w w' h hg => ⟨ext_trans h.1 hg, h.2.ext hg⟩
     · exact ⟨(ext_refl _).drew, (HM2.out).ext (ext_refl _).drew⟩
     repeat
      (refine Grow.Wk.step (fun K hK => ?_)
       first
       | (refine Grow.step_read (by rfl) (by rfl) ext_refl ?_
          apply Exists.intro; refine ⟨fun w hB hF => ?_, ?_⟩
          · obtain ⟨hB1, hB2⟩ := hB; obtain ⟨c0, c1, c2, f0, f1, f2, hp⟩ := hB2.cells; simp only at c0 c1 c2; go_simp; try exact rfl
          go_simp; refine hK _ _ ?_; clear hK K)
       | (refine Grow.step_off (by rfl) ?_
          go_simp; refine hK _ _ ?_; clear hK K))
     refine Grow.Wk.nil ?_; intro w3 hB hF; clear hF c0 c1 c2 f0 f1 f2 hp; obtain ⟨hB1, hB2⟩ := hB; have hE3 := ext_trans hE2 hB1; obtain ⟨c0, c1, c2, f0, f1, f2, hp⟩ := hB2.cells; simp only at c0 c1 c2; have HRES : Hid (printP ⟨neg, l, x⟩ = if neg then 45 :: X else X) := Hd (by rw [HP.out, HF.out]); have ha9 : (ByteArray.mk #[45]) ++ ⟨X.toArray⟩ = ⟨(45 :: X).toArray⟩ := sx_app [45] X
     have hs9 : ¬ 9223372036854775807 < 1 + X.length := by omega
     cases neg with
     | true =>
       have HR : Hid (printP ⟨true, l, x⟩ = 45 :: X) := Hd (by rw [HRES.out]; rfl); clear HP HF; go_wp2_with fail; go_ret; exact ⟨ret_str HR.out.symm, hE3⟩
     | false =>
       have HR : Hid (printP ⟨false, l, x⟩ = X) := Hd (by rw [HRES.out]; rfl); clear HP HF; go_wp2_with fail; go_ret; exact ⟨ret_str HR.out.symm, hE3⟩
   · have HW3 := Hd (HW2.out.trans (if_neg k2)); by_cases k3 : -5 ≤ H ∧ H < 1
     · obtain ⟨k, hk⟩ : ∃ k : Nat, -H = k := ⟨(-H).toNat, by omega⟩
       obtain ⟨X, hX⟩ := Ex ([48, 46] ++ (zeros k) ++ l); have HF : Hid (writtenP ⟨neg, l, x⟩ = X) := Hd (by rw [HW3.out, if_pos k3, hk, ← hX]; simp); have ha1 : (ByteArray.mk #[48, 46]) ++ ⟨(zeros k).toArray⟩ = ⟨([48, 46] ++ zeros k).toArray⟩ := sx_app [48, 46] (zeros k); have ha2 := sx_app ([48, 46] ++ zeros k) l; obtain ⟨k4, k5⟩ := k3; have k6 : ¬ (l.length : Int) ≤ H := by omega
       have k7 : ¬ 1 ≤ H := by omega
       have k8 : H ≤ 0 := by omega
       have hkb : k ≤ 40 := by omega
       have hwk : IntKind.i64.wrap (k : Int) = k := IntWalk.i64_in _ (by omega); have hs1 : ¬ 9223372036854775807 < 2 + (zeros k).length := by rw [zeros_len]; omega
       have hs2 : ¬ 9223372036854775807 < ([48, 46] ++ zeros k).length + l.length := by rw [List.length_append, zeros_len]; simp; omega
       have hXl : X.length ≤ 1000 := by rw [← hX]; simp [zeros_len]; omega
       rw [hX] at ha2; clear hX; generalize [48, 46] ++ zeros k = Z at *; clear HW HW2 HW3 HX k1 k2; go_upto_region 19 with fail; refine Grow.wp_region_litW (G := Ext) (B := fun w' => Ext w2 w' ∧ NumAt w' w.heap.size ⟨neg, l, x⟩) (anc := fun _ => []) (I := fun j => if j = 2 then some (Grow.Spec.val Ext (.string ⟨(zeros k).toArray⟩)) else none) (by kernel_rfl) (by kernel_rfl) (by kernel_rfl) ?_ ?_ ?_
       · exact fun w w' h hg => ⟨ext_trans h.1 hg, h.2.ext hg⟩
       · exact ⟨(ext_refl _).drew, (HM2.out).ext (ext_refl _).drew⟩
       repeat
        (refine Grow.Wk.step (fun K hK => ?_)
         first
         | (refine Grow.step_read (by rfl) (by rfl) ext_refl ?_
            apply Exists.intro; refine ⟨fun w hB hF => ?_, ?_⟩
            · obtain ⟨hB1, hB2⟩ := hB; obtain ⟨c0, c1, c2, f0, f1, f2, hp⟩ := hB2.cells; simp only at c0 c1 c2; go_simp; try exact rfl
            go_simp; refine hK _ _ ?_; clear hK K)
         | (refine Grow.step_off (by rfl) ?_
            go_simp; refine hK _ _ ?_; clear hK K))
       refine Grow.Wk.step (fun K hK => ?_); refine Grow.step_rel (by rfl) (by rfl) (fun w' hB hF => ?_) (fun v hv => ?_)
       · obtain ⟨hB1, hB2⟩ := hB; go_simp; refine Grow.relUpon_enter ((r2zeros_any (k : Int) w' (by omega) (by omega)).mono ?_); rintro e w'' ⟨rfl, hw''⟩; exact ⟨_, rfl, hw'', rfl, trivial⟩
       obtain rfl : v = _ := hv; go_simp; refine hK _ _ ?_; clear hK K; repeat
        (refine Grow.Wk.step (fun K hK => ?_)
         first
         | (refine Grow.step_read (by rfl) (by rfl) ext_refl ?_
            apply Exists.intro; refine ⟨fun w hB hF => ?_, ?_⟩
            · obtain ⟨hB1, hB2⟩ := hB; obtain ⟨c0, c1, c2, f0, f1, f2, hp⟩ := hB2.cells; simp only at c0 c1 c2; go_simp; try exact rfl
            go_simp; refine hK _ _ ?_; clear hK K)
         | (refine Grow.step_off (by rfl) ?_
            go_simp; refine hK _ _ ?_; clear hK K))
       refine Grow.Wk.nil ?_; intro w3 hB hF; clear hF c0 c1 c2 f0 f1 f2 hp; obtain ⟨hB1, hB2⟩ := hB; have hE3 := ext_trans hE2 hB1; obtain ⟨c0, c1, c2, f0, f1, f2, hp⟩ := hB2.cells; simp only at c0 c1 c2; have HRES : Hid (printP ⟨neg, l, x⟩ = if neg then 45 :: X else X) := Hd (by rw [HP.out, HF.out]); have ha9 : (ByteArray.mk #[45]) ++ ⟨X.toArray⟩ = ⟨(45 :: X).toArray⟩ := sx_app [45] X
       have hs9 : ¬ 9223372036854775807 < 1 + X.length := by omega
       cases neg with
       | true =>
         have HR : Hid (printP ⟨true, l, x⟩ = 45 :: X) := Hd (by rw [HRES.out]; rfl); clear HP HF; go_wp2_with fail; go_ret; exact ⟨ret_str HR.out.symm, hE3⟩
       | false =>
         have HR : Hid (printP ⟨false, l, x⟩ = X) := Hd (by rw [HRES.out]; rfl); clear HP HF; go_wp2_with fail; go_ret; exact ⟨ret_str HR.out.symm, hE3⟩
     · have HW4 := Hd (HW3.out.trans (if_neg k3)); have hx1 := sx_take l 1; have hx2 := sx_drop l 1 l.length (Nat.le_refl _); have hl2 : (1 : Int) ≤ l.length := by omega
       by_cases kk : H < 0
       · obtain ⟨m, hm⟩ : ∃ m : Nat, 1 - H = m := ⟨(1 - H).toNat, by omega⟩
         have hm2 : (H - 1).natAbs = m := by omega
         have HWT : Hid (writtenP ⟨neg, l, x⟩ = l.take 1 ++ ((if 1 < l.length then 46 :: l.drop 1 else []) ++ ([101, 45] ++ decD m))) := Hd (by
          have hit : itoaP (H - 1) = 45 :: decD m := by unfold itoaP; rw [if_pos (show H - 1 < 0 by omega), hm2]
          rw [HW4.out, if_neg (show ¬ 0 < H by omega), hit]; simp)
         have hmw : m ≤ 1000 := by omega
         have hwm : IntKind.i64.wrap (1 - H) = (m : Int) := by rw [IntWalk.i64_in _ (by omega), hm]
         have hw1 : IntKind.i64.wrap (H - 1) = H - 1 := by rw [IntWalk.i64_in _ (by omega)]
         have hml : (decD m).length ≤ 4 := decD_len 4 m (by omega) (by omega); have k4 : ¬ (l.length : Int) ≤ H := by omega
         have k5 : ¬ 1 ≤ H := by omega
         have k6 : ¬ -5 ≤ H := by omega
         have k7 : H - 1 < 0 := by omega
         clear HW HW2 HW3 HW4 k1 k2 k3 HX hm2 hm kk; by_cases hn : 1 < l.length
         · have hd : (1 : Int) < l.length := by omega
           have ha1 : (ByteArray.mk (l.take 1).toArray) ++ ⟨#[46]⟩ = ⟨(l.take 1 ++ [46]).toArray⟩ := sx_app (l.take 1) [46]; have ha2 := sx_app (l.take 1 ++ [46]) (l.drop 1); have ha3 : (ByteArray.mk (l.take 1 ++ [46] ++ l.drop 1).toArray) ++ ⟨#[101, 45]⟩ = ⟨(l.take 1 ++ [46] ++ l.drop 1 ++ [101, 45]).toArray⟩ := sx_app (l.take 1 ++ [46] ++ l.drop 1) [101, 45]
           have ha4 := sx_app (l.take 1 ++ [46] ++ l.drop 1 ++ [101, 45]) (decD m); obtain ⟨X, hX⟩ := Ex (l.take 1 ++ [46] ++ l.drop 1 ++ [101, 45] ++ decD m); have HF : Hid (writtenP ⟨neg, l, x⟩ = X) := Hd (by rw [HWT.out, if_pos hn, ← hX]; simp); have hs1 : ¬ 9223372036854775807 < (l.take 1).length + 1 := by simp; omega
           have hs2 : ¬ 9223372036854775807 < (l.take 1 ++ [46]).length + (l.drop 1).length := by simp; omega
           have hs3 : ¬ 9223372036854775807 < (l.take 1 ++ [46] ++ l.drop 1).length + 2 := by simp; omega
           have hs4 : ¬ 9223372036854775807 < (l.take 1 ++ [46] ++ l.drop 1 ++ [101, 45]).length + (decD m).length := by simp; omega
           have hXl : X.length ≤ 10000 := by rw [← hX]; simp; omega
           rw [hX] at ha4; clear hn hX HWT; generalize l.take 1 ++ [46] ++ l.drop 1 ++ [101, 45] = A4 at *; generalize l.take 1 ++ [46] ++ l.drop 1 = A3 at *; generalize l.take 1 ++ [46] = A2 at *; generalize l.take 1 = A1 at *; generalize l.drop 1 = A0 at *; go_wp2_with fail; refine (whole_any m _ (by omega)).mono ?_; rintro e w3 ⟨rfl, hB1⟩; have hE3 := ext_trans hE2 hB1; clear c0 c1 c2 f0 f1 f2 hp
           obtain ⟨c0, c1, c2, f0, f1, f2, hp⟩ := (HM2.out.ext hB1).cells; simp only at c0 c1 c2; generalize decD m = DM at *; have HRES : Hid (printP ⟨neg, l, x⟩ = if neg then 45 :: X else X) := Hd (by rw [HP.out, HF.out]); have ha9 : (ByteArray.mk #[45]) ++ ⟨X.toArray⟩ = ⟨(45 :: X).toArray⟩ := sx_app [45] X; have hs9 : ¬ 9223372036854775807 < 1 + X.length := by omega
           cases neg with
           | true =>
             have HR : Hid (printP ⟨true, l, x⟩ = 45 :: X) := Hd (by rw [HRES.out]; rfl); clear HP HF; go_wp2_with fail; go_ret; exact ⟨ret_str HR.out.symm, hE3⟩
           | false =>
             have HR : Hid (printP ⟨false, l, x⟩ = X) := Hd (by rw [HRES.out]; rfl); clear HP HF; go_wp2_with fail; go_ret; exact ⟨ret_str HR.out.symm, hE3⟩
         · have hd : ¬ (1 : Int) < l.length := by omega
           have ha3 : (ByteArray.mk (l.take 1).toArray) ++ ⟨#[101, 45]⟩ = ⟨(l.take 1 ++ [101, 45]).toArray⟩ := sx_app (l.take 1) [101, 45]; have ha4 := sx_app (l.take 1 ++ [101, 45]) (decD m); obtain ⟨X, hX⟩ := Ex (l.take 1 ++ [101, 45] ++ decD m); have HF : Hid (writtenP ⟨neg, l, x⟩ = X) := Hd (by rw [HWT.out, if_neg hn, ← hX]; simp); have hs3 : ¬ 9223372036854775807 < (l.take 1).length + 2 := by simp; omega
           have hs4 : ¬ 9223372036854775807 < (l.take 1 ++ [101, 45]).length + (decD m).length := by simp; omega
           have hXl : X.length ≤ 10000 := by rw [← hX]; simp; omega
           rw [hX] at ha4; clear hn hX HWT; generalize l.take 1 ++ [101, 45] = A4 at *; generalize l.take 1 = A1 at *; go_wp2_with fail; refine (whole_any m _ (by omega)).mono ?_; rintro e w3 ⟨rfl, hB1⟩; have hE3 := ext_trans hE2 hB1; clear c0 c1 c2 f0 f1 f2 hp; obtain ⟨c0, c1, c2, f0, f1, f2, hp⟩ := (HM2.out.ext hB1).cells; simp only at c0 c1 c2; generalize decD m = DM at *
           have HRES : Hid (printP ⟨neg, l, x⟩ = if neg then 45 :: X else X) := Hd (by rw [HP.out, HF.out]); have ha9 : (ByteArray.mk #[45]) ++ ⟨X.toArray⟩ = ⟨(45 :: X).toArray⟩ := sx_app [45] X; have hs9 : ¬ 9223372036854775807 < 1 + X.length := by omega
           cases neg with
           | true =>
             have HR : Hid (printP ⟨true, l, x⟩ = 45 :: X) := Hd (by rw [HRES.out]; rfl); clear HP HF; go_wp2_with fail; go_ret; exact ⟨ret_str HR.out.symm, hE3⟩
           | false =>
             have HR : Hid (printP ⟨false, l, x⟩ = X) := Hd (by rw [HRES.out]; rfl); clear HP HF; go_wp2_with fail; go_ret; exact ⟨ret_str HR.out.symm, hE3⟩
       · obtain ⟨m, hm⟩ : ∃ m : Nat, H - 1 = m := ⟨(H - 1).toNat, by omega⟩
         have HWT : Hid (writtenP ⟨neg, l, x⟩ = l.take 1 ++ ((if 1 < l.length then 46 :: l.drop 1 else []) ++ ([101, 43] ++ decD m))) := Hd (by
          have hit : itoaP (H - 1) = decD m := by unfold itoaP; rw [if_neg (show ¬ H - 1 < 0 by omega), hm]; rfl
          rw [HW4.out, if_pos (show 0 < H by omega), hit])
         have hwm : IntKind.i64.wrap (H - 1) = (m : Int) := by rw [IntWalk.i64_in _ (by omega), hm]
         have hml : (decD m).length ≤ 4 := decD_len 4 m (by omega) (by omega); have k5 : 1 ≤ H := by omega
         have k6 : -5 ≤ H := by omega
         have k7 : ¬ (m : Int) < 0 := by omega
         have k8 : ¬ H ≤ 21 := by omega
         have k9 : ¬ H ≤ 0 := by omega
         have hmw : m ≤ 1000 := by omega
         clear HW HW2 HW3 HW4 k1 k2 k3 HX hm kk; by_cases k4 : (l.length : Int) ≤ H
         · by_cases hn : 1 < l.length
           · have hd : (1 : Int) < l.length := by omega
             have ha1 : (ByteArray.mk (l.take 1).toArray) ++ ⟨#[46]⟩ = ⟨(l.take 1 ++ [46]).toArray⟩ := sx_app (l.take 1) [46]; have ha2 := sx_app (l.take 1 ++ [46]) (l.drop 1); have ha3 : (ByteArray.mk (l.take 1 ++ [46] ++ l.drop 1).toArray) ++ ⟨#[101, 43]⟩ = ⟨(l.take 1 ++ [46] ++ l.drop 1 ++ [101, 43]).toArray⟩ := sx_app (l.take 1 ++ [46] ++ l.drop 1) [101, 43]
             have ha4 := sx_app (l.take 1 ++ [46] ++ l.drop 1 ++ [101, 43]) (decD m); obtain ⟨X, hX⟩ := Ex (l.take 1 ++ [46] ++ l.drop 1 ++ [101, 43] ++ decD m); have HF : Hid (writtenP ⟨neg, l, x⟩ = X) := Hd (by rw [HWT.out, if_pos hn, ← hX]; simp); have hs1 : ¬ 9223372036854775807 < (l.take 1).length + 1 := by simp; omega
             have hs2 : ¬ 9223372036854775807 < (l.take 1 ++ [46]).length + (l.drop 1).length := by simp; omega
             have hs3 : ¬ 9223372036854775807 < (l.take 1 ++ [46] ++ l.drop 1).length + 2 := by simp; omega
             have hs4 : ¬ 9223372036854775807 < (l.take 1 ++ [46] ++ l.drop 1 ++ [101, 43]).length + (decD m).length := by simp; omega
             have hXl : X.length ≤ 10000 := by rw [← hX]; simp; omega
             rw [hX] at ha4; clear hn hX HWT; generalize l.take 1 ++ [46] ++ l.drop 1 ++ [101, 43] = A4 at *; generalize l.take 1 ++ [46] ++ l.drop 1 = A3 at *; generalize l.take 1 ++ [46] = A2 at *; generalize l.take 1 = A1 at *; generalize l.drop 1 = A0 at *; go_wp2_with fail; refine (whole_any m _ (by omega)).mono ?_; rintro e w3 ⟨rfl, hB1⟩; have hE3 := ext_trans hE2 hB1; clear c0 c1 c2 f0 f1 f2 hp
             obtain ⟨c0, c1, c2, f0, f1, f2, hp⟩ := (HM2.out.ext hB1).cells; simp only at c0 c1 c2; generalize decD m = DM at *; have HRES : Hid (printP ⟨neg, l, x⟩ = if neg then 45 :: X else X) := Hd (by rw [HP.out, HF.out]); have ha9 : (ByteArray.mk #[45]) ++ ⟨X.toArray⟩ = ⟨(45 :: X).toArray⟩ := sx_app [45] X; have hs9 : ¬ 9223372036854775807 < 1 + X.length := by omega
             cases neg with
             | true =>
               have HR : Hid (printP ⟨true, l, x⟩ = 45 :: X) := Hd (by rw [HRES.out]; rfl); clear HP HF; go_wp2_with fail; go_ret; exact ⟨ret_str HR.out.symm, hE3⟩
             | false =>
               have HR : Hid (printP ⟨false, l, x⟩ = X) := Hd (by rw [HRES.out]; rfl); clear HP HF; go_wp2_with fail; go_ret; exact ⟨ret_str HR.out.symm, hE3⟩
           · have hd : ¬ (1 : Int) < l.length := by omega
             have ha3 : (ByteArray.mk (l.take 1).toArray) ++ ⟨#[101, 43]⟩ = ⟨(l.take 1 ++ [101, 43]).toArray⟩ := sx_app (l.take 1) [101, 43]; have ha4 := sx_app (l.take 1 ++ [101, 43]) (decD m); obtain ⟨X, hX⟩ := Ex (l.take 1 ++ [101, 43] ++ decD m); have HF : Hid (writtenP ⟨neg, l, x⟩ = X) := Hd (by rw [HWT.out, if_neg hn, ← hX]; simp); have hs3 : ¬ 9223372036854775807 < (l.take 1).length + 2 := by simp; omega
             have hs4 : ¬ 9223372036854775807 < (l.take 1 ++ [101, 43]).length + (decD m).length := by simp; omega
             have hXl : X.length ≤ 10000 := by rw [← hX]; simp; omega
             rw [hX] at ha4; clear hn hX HWT; generalize l.take 1 ++ [101, 43] = A4 at *; generalize l.take 1 = A1 at *; go_wp2_with fail; refine (whole_any m _ (by omega)).mono ?_; rintro e w3 ⟨rfl, hB1⟩; have hE3 := ext_trans hE2 hB1; clear c0 c1 c2 f0 f1 f2 hp; obtain ⟨c0, c1, c2, f0, f1, f2, hp⟩ := (HM2.out.ext hB1).cells; simp only at c0 c1 c2; generalize decD m = DM at *
             have HRES : Hid (printP ⟨neg, l, x⟩ = if neg then 45 :: X else X) := Hd (by rw [HP.out, HF.out]); have ha9 : (ByteArray.mk #[45]) ++ ⟨X.toArray⟩ = ⟨(45 :: X).toArray⟩ := sx_app [45] X; have hs9 : ¬ 9223372036854775807 < 1 + X.length := by omega
             cases neg with
             | true =>
               have HR : Hid (printP ⟨true, l, x⟩ = 45 :: X) := Hd (by rw [HRES.out]; rfl); clear HP HF; go_wp2_with fail; go_ret; exact ⟨ret_str HR.out.symm, hE3⟩
             | false =>
               have HR : Hid (printP ⟨false, l, x⟩ = X) := Hd (by rw [HRES.out]; rfl); clear HP HF; go_wp2_with fail; go_ret; exact ⟨ret_str HR.out.symm, hE3⟩
         · have hn : 1 < l.length := by omega
           have hd : (1 : Int) < l.length := by omega
           have ha1 : (ByteArray.mk (l.take 1).toArray) ++ ⟨#[46]⟩ = ⟨(l.take 1 ++ [46]).toArray⟩ := sx_app (l.take 1) [46]; have ha2 := sx_app (l.take 1 ++ [46]) (l.drop 1); have ha3 : (ByteArray.mk (l.take 1 ++ [46] ++ l.drop 1).toArray) ++ ⟨#[101, 43]⟩ = ⟨(l.take 1 ++ [46] ++ l.drop 1 ++ [101, 43]).toArray⟩ := sx_app (l.take 1 ++ [46] ++ l.drop 1) [101, 43]
           have ha4 := sx_app (l.take 1 ++ [46] ++ l.drop 1 ++ [101, 43]) (decD m); obtain ⟨X, hX⟩ := Ex (l.take 1 ++ [46] ++ l.drop 1 ++ [101, 43] ++ decD m); have HF : Hid (writtenP ⟨neg, l, x⟩ = X) := Hd (by rw [HWT.out, if_pos hn, ← hX]; simp); have hs1 : ¬ 9223372036854775807 < (l.take 1).length + 1 := by simp; omega
           have hs2 : ¬ 9223372036854775807 < (l.take 1 ++ [46]).length + (l.drop 1).length := by simp; omega
           have hs3 : ¬ 9223372036854775807 < (l.take 1 ++ [46] ++ l.drop 1).length + 2 := by simp; omega
           have hs4 : ¬ 9223372036854775807 < (l.take 1 ++ [46] ++ l.drop 1 ++ [101, 43]).length + (decD m).length := by simp; omega
           have hXl : X.length ≤ 10000 := by rw [← hX]; simp; omega
           rw [hX] at ha4; clear hn hX HWT; generalize l.take 1 ++ [46] ++ l.drop 1 ++ [101, 43] = A4 at *; generalize l.take 1 ++ [46] ++ l.drop 1 = A3 at *; generalize l.take 1 ++ [46] = A2 at *; generalize l.take 1 = A1 at *; generalize l.drop 1 = A0 at *; go_wp2_with fail; refine (whole_any m _ (by omega)).mono ?_; rintro e w3 ⟨rfl, hB1⟩; have hE3 := ext_trans hE2 hB1; clear c0 c1 c2 f0 f1 f2 hp
           obtain ⟨c0, c1, c2, f0, f1, f2, hp⟩ := (HM2.out.ext hB1).cells; simp only at c0 c1 c2; generalize decD m = DM at *; have HRES : Hid (printP ⟨neg, l, x⟩ = if neg then 45 :: X else X) := Hd (by rw [HP.out, HF.out]); have ha9 : (ByteArray.mk #[45]) ++ ⟨X.toArray⟩ = ⟨(45 :: X).toArray⟩ := sx_app [45] X; have hs9 : ¬ 9223372036854775807 < 1 + X.length := by omega
           cases neg with
           | true =>
             have HR : Hid (printP ⟨true, l, x⟩ = 45 :: X) := Hd (by rw [HRES.out]; rfl); clear HP HF; go_wp2_with fail; go_ret; exact ⟨ret_str HR.out.symm, hE3⟩
           | false =>
             have HR : Hid (printP ⟨false, l, x⟩ = X) := Hd (by rw [HRES.out]; rfl); clear HP HF; go_wp2_with fail; go_ret; exact ⟨ret_str HR.out.symm, hE3⟩
end Go.Proofs.YtjapbjmeoaagmaaGreatDoor
end

section
set_option maxRecDepth 100000
namespace Orange
def fold6 : List UInt8 → Int → Int
 | [], r => r
 | c :: t, r => fold6 t (r * 64 + (c.toNat : Int) % 64)
def kind (x : UInt8) : Nat := if 240 ≤ x.toNat then 4 else if 224 ≤ x.toNat then 3 else if 192 ≤ x.toNat then 2 else 1
def lead0 (x : UInt8) : Int := if 240 ≤ x.toNat then (x.toNat : Int) % 8 else if 224 ≤ x.toNat then (x.toNat : Int) % 16 else if 192 ≤ x.toNat then (x.toNat : Int) % 32 else x.toNat
def begins (b c : List UInt8) : Bool := decide (b.take c.length = c)
theorem begins_iff {b c : List UInt8} : begins b c = true ↔ ∃ t, b = c ++ t := by
 simp only [begins, decide_eq_true_eq]; constructor
 · intro h; exact ⟨b.drop c.length, by conv => lhs; rw [← List.take_append_drop c.length b, h]⟩
 · rintro ⟨t, rfl⟩; simp
theorem fold6_at (xs : List UInt8) (n k : Nat) (r : Int) (h : k < n) (hk : k < xs.length) : fold6 ((xs.take n).drop k) r = fold6 ((xs.take n).drop (k + 1)) (r * 64 + (xs[k].toNat : Int) % 64) := by
 rw [List.drop_eq_getElem_cons (by simp; omega), fold6]; simp
theorem fold6_end (xs : List UInt8) (n : Nat) (r : Int) : fold6 ((xs.take n).drop n) r = r := by
 rw [List.drop_of_length_le (by simp; omega), fold6]
theorem enc_read {c : Int} (hc : sound c = true) (x : UInt8) (t t' : List UInt8) (h : x :: t = enc c ++ t') :
 kind x = (enc c).length ∧ fold6 (((x :: t).take (kind x)).drop 1) (lead0 x) = c := by
 rw [sound_iff] at hc; unfold enc at h ⊢; split at h
 · rename_i h1
   rw [if_pos h1]; obtain ⟨rfl, rfl⟩ := by simpa using h
   have hb := byte_int (n := c) (by omega) (by omega); have hk : kind (byte c) = 1 := by unfold kind; rw [if_neg (by omega), if_neg (by omega), if_neg (by omega)]
   refine ⟨by rw [hk]; rfl, ?_⟩; rw [hk]; simp only [List.take_succ_cons, List.take_zero, List.drop_succ_cons, List.drop_nil, fold6, lead0]; rw [if_neg (by omega), if_neg (by omega), if_neg (by omega)]; exact hb
 · rename_i h1
   rw [if_neg h1]; split at h
   · rename_i h2
     rw [if_pos h2]; obtain ⟨rfl, rfl⟩ := by simpa using h
     have hb := byte_int (n := 192 + c / 64) (by omega) (by omega); have hb2 := byte_int (n := 128 + c % 64) (by omega) (by omega); have hk : kind (byte (192 + c / 64)) = 2 := by unfold kind; rw [if_neg (by omega), if_neg (by omega), if_pos (by omega)]
     refine ⟨by rw [hk]; rfl, ?_⟩; rw [hk]; simp only [List.take_succ_cons, List.take_zero, List.drop_succ_cons, List.drop_zero, List.drop_nil, fold6, lead0]; rw [if_neg (by omega), if_neg (by omega), if_pos (by omega)]; omega
   · rename_i h2
     rw [if_neg h2]; split at h
     · rename_i h3
       rw [if_pos h3]; obtain ⟨rfl, rfl⟩ := by simpa using h
       have hb := byte_int (n := 224 + c / 4096) (by omega) (by omega); have hb2 := byte_int (n := 128 + c / 64 % 64) (by omega) (by omega); have hb3 := byte_int (n := 128 + c % 64) (by omega) (by omega); have hk : kind (byte (224 + c / 4096)) = 3 := by unfold kind; rw [if_neg (by omega), if_pos (by omega)]
       refine ⟨by rw [hk]; rfl, ?_⟩; rw [hk]; simp only [List.take_succ_cons, List.take_zero, List.drop_succ_cons, List.drop_zero, List.drop_nil, fold6, lead0]; rw [if_neg (by omega), if_pos (by omega)]; omega
     · rename_i h3
       rw [if_neg h3]; obtain ⟨rfl, rfl⟩ := by simpa using h
       have hb := byte_int (n := 240 + c / 262144) (by omega) (by omega); have hb2 := byte_int (n := 128 + c / 4096 % 64) (by omega) (by omega); have hb3 := byte_int (n := 128 + c / 64 % 64) (by omega) (by omega); have hb4 := byte_int (n := 128 + c % 64) (by omega) (by omega); have hk : kind (byte (240 + c / 262144)) = 4 := by unfold kind; rw [if_pos (by omega)]
       refine ⟨by rw [hk]; rfl, ?_⟩; rw [hk]; simp only [List.take_succ_cons, List.take_zero, List.drop_succ_cons, List.drop_zero, List.drop_nil, fold6, lead0]; rw [if_pos (by omega)]; omega
theorem next_yes {b : List UInt8} {r : Int} {n : Nat} (hs : sound r = true) (hb : begins b (enc r) = true) (hn : (enc r).length = n) : next b = (r, n) := by
 obtain ⟨t, rfl⟩ := begins_iff.1 hb; rw [next_enc hs, hn]
theorem next_no {x : UInt8} {t : List UInt8} {r : Int} (hr : fold6 (((x :: t).take (kind x)).drop 1) (lead0 x) = r) (h : ¬ (sound r = true ∧ begins (x :: t) (enc r) = true ∧ (enc r).length = kind x)) : next (x :: t) = (0, 0) := by
 rcases next_spec (x :: t) with hz | ⟨hs, hn, t', ht⟩
 · exact hz
 · exfalso
   obtain ⟨h1, h2⟩ := enc_read hs x t t' ht; have hrr : r = (next (x :: t)).1 := by rw [← hr, h2]
   refine h ⟨by rw [hrr]; exact hs, begins_iff.2 ⟨t', by rw [hrr]; exact ht⟩, by rw [hrr]; exact h1.symm⟩
theorem next_short {x : UInt8} {t : List UInt8} (h : t.length + 1 < kind x) : next (x :: t) = (0, 0) := by
 rcases next_spec (x :: t) with hz | ⟨hs, hn, t', ht⟩
 · exact hz
 · exfalso
   obtain ⟨h1, h2⟩ := enc_read hs x t t' ht; have := congrArg List.length ht; simp only [List.length_cons, List.length_append] at this; omega
end Orange
end

section
set_option maxRecDepth 100000
namespace Go.Proofs.YtjapbjmeoaagmaaGreatDoor
open Go.RowKit Go.Mem Orange
set_option maxHeartbeats 400000 in
theorem valid_any (r : Int) (w : World) :
 Calls Tryz.prog 196 #[.int .i64 r] w fun e w' => e = .returned (.bool (sound r)) ∧ w = w' := by
 by_cases h1 : 0 ≤ r
 · by_cases h2 : r < 55296
   · have hf : sound r = true := by rw [sound_iff]; omega
     go_enter Tryz.func196, Tryz.ntmps196
     go_wp2
     go_ret; first | exact ⟨rfl, rfl⟩ | exact ⟨ret_bool (by rw [hf]), rfl⟩
   · by_cases h3 : 57343 < r
     · go_enter Tryz.func196, Tryz.ntmps196
       go_wp2
       go_ret; refine ⟨ret_bool ?_, rfl⟩; rw [Bool.eq_iff_iff, sound_iff]; simp; omega
     · have hf : sound r = false := by rw [Bool.eq_false_iff, ne_eq, sound_iff]; omega
       go_enter Tryz.func196, Tryz.ntmps196
       go_wp2
       go_ret; first | exact ⟨rfl, rfl⟩ | exact ⟨ret_bool (by rw [hf]), rfl⟩
 · have hf : sound r = false := by rw [Bool.eq_false_iff, ne_eq, sound_iff]; omega
   have h3 : ¬ 57343 < r := by omega
   go_enter Tryz.func196, Tryz.ntmps196
   go_wp2
   go_ret; first | exact ⟨rfl, rfl⟩ | exact ⟨ret_bool (by rw [hf]), rfl⟩
set_option maxHeartbeats 800000 in
theorem bytes_any (r : Int) (w : World) (h0 : 0 ≤ r) (h1 : r ≤ 1114111) :
 Calls Tryz.prog 198 #[.int .i64 r] w fun e w' => (∃ v, e = .returned v ∧ Bytes w' v (enc r)) ∧ Ext w w' := by
 by_cases h2 : r < 128
 · have he : enc r = [byte r] := by rw [enc, if_pos h2]
   go_enter Tryz.func198, Tryz.ntmps198
   go_wp2_with fail; go_ret; refine ⟨⟨_, rfl, ?_⟩, (ext_refl w).alloc (Nat.le_refl _) _⟩; refine bytes_new _ _ _ _ ?_ _ ?_ (by omega)
   · (try rw [he]); simp only [cells8, List.map_cons, List.map_nil, byte_int (n := r) (by omega) (by omega)]
   · (try rw [he]); rfl
 · by_cases h3 : r < 2048
   · have he : enc r = [byte (192 + r / 64), byte (128 + r % 64)] := by rw [enc, if_neg h2, if_pos h3]
     go_enter Tryz.func198, Tryz.ntmps198
     go_wp2_with fail; go_ret; refine ⟨⟨_, rfl, ?_⟩, (ext_refl w).alloc (Nat.le_refl _) _⟩; refine bytes_new _ _ _ _ ?_ _ ?_ (by omega)
     · (try rw [he]); simp only [cells8, List.map_cons, List.map_nil, byte_int (n := 192 + r / 64) (by omega) (by omega), byte_int (n := 128 + r % 64) (by omega) (by omega)]
     · (try rw [he]); rfl
   · by_cases h4 : r < 65536
     · have he : enc r = [byte (224 + r / 4096), byte (128 + r / 64 % 64), byte (128 + r % 64)] := by rw [enc, if_neg h2, if_neg h3, if_pos h4]
       go_enter Tryz.func198, Tryz.ntmps198
       go_wp2_with fail; go_ret; refine ⟨⟨_, rfl, ?_⟩, (ext_refl w).alloc (Nat.le_refl _) _⟩; refine bytes_new _ _ _ _ ?_ _ ?_ (by omega)
       · (try rw [he]); simp only [cells8, List.map_cons, List.map_nil, byte_int (n := 224 + r / 4096) (by omega) (by omega), byte_int (n := 128 + r / 64 % 64) (by omega) (by omega), byte_int (n := 128 + r % 64) (by omega) (by omega)]
       · (try rw [he]); rfl
     · have he : enc r = [byte (240 + r / 262144), byte (128 + r / 4096 % 64), byte (128 + r / 64 % 64), byte (128 + r % 64)] := by rw [enc, if_neg h2, if_neg h3, if_neg h4]
       go_enter Tryz.func198, Tryz.ntmps198
       go_wp2_with fail; go_ret; refine ⟨⟨_, rfl, ?_⟩, (ext_refl w).alloc (Nat.le_refl _) _⟩; refine bytes_new _ _ _ _ ?_ _ ?_ (by omega)
       · (try rw [he]); simp only [cells8, List.map_cons, List.map_nil, byte_int (n := 240 + r / 262144) (by omega) (by omega), byte_int (n := 128 + r / 4096 % 64) (by omega) (by omega), byte_int (n := 128 + r / 64 % 64) (by omega) (by omega), byte_int (n := 128 + r % 64) (by omega) (by omega)]
       · (try rw [he]); rfl
set_option maxHeartbeats 1600000 in
theorem begins_any (v : Value) (xs : List UInt8) (u : Value) (ys : List UInt8) (w : World) (hx : Bytes w v xs) (hy : Bytes w u ys) :
 Calls Tryz.prog 197 #[v, u] w fun e w' => e = .returned (.bool (begins xs ys)) ∧ Ext w w' := by
 obtain ⟨a, ca, rfl, hxc, hxm, hxl, hxat⟩ := hx; obtain ⟨b, cb, rfl, hyc, hym, hyl, hyat⟩ := hy; by_cases hlen : xs.length < ys.length
 · have hb : begins xs ys = false := by
    rw [Bool.eq_false_iff, ne_eq, begins_iff]; rintro ⟨t, rfl⟩; simp at hlen; omega
   have hd : decide (xs.length < ys.length) = true := by simpa using hlen
   go_enter Tryz.func197, Tryz.ntmps197
   go_wp2_with fail; go_ret; exact ⟨by first | rfl | exact ret_bool hb.symm, ext_refl w⟩
 · have hd : decide (xs.length < ys.length) = false := by simpa using hlen
   have HX : Hid (BytesAt w a xs) := Hd hxat; have HY : Hid (BytesAt w b ys) := Hd hyat; clear hxat hyat; go_enter Tryz.func197, Tryz.ntmps197
   go_wp2_with fail; go_loopw [5] (fun kv wr => ∃ k n : Nat, kv = .int .i64 k ∧ k ≤ ys.length ∧ wr = w.drewN n ∧ xs.take k = ys.take k) (fun kv _ => ys.length - (intOf kv).toNat)
   case atStart => exact ⟨0, 0, rfl, by omega, rfl, rfl⟩
   case round =>
    obtain ⟨k, n, rfl, hk, rfl, hr⟩ := hrel; have HR := Hd hr; clear hr; by_cases hlt : k < ys.length
    · obtain ⟨b1, o1, rfl, hl1, hc1⟩ := HX.out (by omega); obtain ⟨b2, o2, rfl, hl2, hc2⟩ := HY.out (by omega); have hkx : k < xs.length := by omega
      have hx1 := hc1 k hkx; have hx2 := hc2 k hlt; have hs1 : xs.take (k + 1) = xs.take k ++ [xs[k]] := List.take_succ_eq_append_getElem hkx; have hs2 : ys.take (k + 1) = ys.take k ++ [ys[k]] := List.take_succ_eq_append_getElem hlt; clear hc1 hc2 ; by_cases hxy : xs[k] = ys[k]
      · have hst : Hid (xs.take (k + 1) = ys.take (k + 1)) := Hd (by rw [hs1, hs2, HR.out, hxy]); clear hs1 hs2; have hb : ((xs[k].toNat : Int) != ys[k].toNat) = false := by simp [hxy]
        generalize xs[k] = x at hx1 hb; generalize ys[k] = y at hx2 hb; clear hxy; go_wp2_with fail; go_quiet (fail)
        go_wp2_with fail; go_roundw
        case rel => exact ⟨k + 1, _, by go_num, by omega, rfl, hst.out⟩
        case measure => simp [intOf]; omega
      · have hne : (xs[k].toNat : Int) ≠ ys[k].toNat := fun e => hxy (UInt8.toNat_inj.1 (by omega)); have hb : ((xs[k].toNat : Int) != ys[k].toNat) = true := by simpa using hne
        have hbf : Hid (begins xs ys = false) := by
         refine Hd ?_; rw [Bool.eq_false_iff, ne_eq, begins_iff]; rintro ⟨t, ht⟩; refine hxy ?_; simp only [ht, List.getElem_append_left hlt]
        clear hs1 hs2 hne; generalize xs[k] = x at hx1 hb; generalize ys[k] = y at hx2 hb; clear hxy; go_wp2_with fail; go_quiet (fail)
        go_wp2_with fail; go_ret; exact ⟨by first | rfl | exact ret_bool hbf.out.symm, below_drewN (below_drewN (ext_refl w) _) _⟩
    · obtain rfl : k = ys.length := by omega
      have hbt : Hid (begins xs ys = true) := Hd (by simp only [begins, decide_eq_true_eq]; rw [HR.out, List.take_length]); go_wp2_with fail; go_ret; exact ⟨by first | rfl | exact ret_bool hbt.out.symm, below_drewN (ext_refl w) _⟩
theorem ba_append (a b : ByteArray) : (a ++ b).data.toList = a.data.toList ++ b.data.toList := by simp
theorem ba_one (s : ByteArray) (i : Nat) (h : i < s.size) : (s.extract i (i + 1)).data.toList = [s[i]] := by
 have h1 : (s.extract i (i + 1)).data.toList = (s.data.toList.drop i).take 1 := by simp [ByteArray.data_extract, Array.toList_extract]
 rw [h1, List.drop_eq_getElem_cons (by simpa using h)]; simp; rfl
theorem ba_ext {a b : ByteArray} (h : a.data.toList = b.data.toList) : a = b := by
 cases a; cases b; congr 1; exact Array.toList_inj.1 h
theorem ba_hex (n : Nat) (h : n < 16) : ((ByteArray.mk #[48, 49, 50, 51, 52, 53, 54, 55, 56, 57, 97, 98, 99, 100, 101, 102]).extract n (n + 1)).data.toList = [hexs[n]?.getD 0] := by
 rw [ba_one (ByteArray.mk #[48, 49, 50, 51, 52, 53, 54, 55, 56, 57, 97, 98, 99, 100, 101, 102]) n h, hexget n h]
set_option maxHeartbeats 3200000 in
set_option maxRecDepth 100000 in
theorem refquote_any (s : ByteArray) (w : World) (hl : s.size ≤ 1000000000) :
 Calls Tryz.prog 68 #[.string s] w fun e w' => e = .returned (.string ⟨(quote s.data.toList).toArray⟩) ∧ Ext w w' := by
 go_enter Tryz.func68, Tryz.ntmps68
 go_wp2_with fail; go_loopw [3, 5] (fun v iv wr => ∃ (i n : Nat) (out : ByteArray), i ≤ s.size ∧ iv = .int .i64 i ∧ v = .string out ∧ wr = w.drewN n ∧ out.data.toList = 34 :: quoL (s.data.toList.take i)) (fun _ iv _ => s.size - (intOf iv).toNat)
 case atStart => exact ⟨0, 0, _, by omega, rfl, rfl, rfl, rfl⟩
 case round =>
  obtain ⟨i, n, out, hi, rfl, rfl, rfl, ho⟩ := hrel; have hob : out.size ≤ 10000000000 := by
   have h1 := quoL_len (s.data.toList.take i); have h2 := congrArg List.length ho; rw [Array.length_toList] at h2; have h3 : (s.data.toList.take i).length ≤ i := List.length_take_le _ _; simp only [List.length_cons] at h2; show out.data.size ≤ _; omega
  have HO := Hd ho; clear ho; by_cases hlt : i < s.size
  · obtain ⟨c, hc⟩ := Ex (s[i]); have hq := quoL_snoc s i hlt c hc; have hb1 := ba_one s i hlt; rw [hc] at hb1; have hc8 : c.toNat < 256 := c.toNat_lt; have hmn : min (i + 1) s.size - i = 1 := by omega
    have HQ := Hd hq; have HB := Hd hb1; clear hq hb1; by_cases h34 : c.toNat = 34
    · have hcc : Hid (c = 34) := Hd (UInt8.toNat_inj.1 h34); have hqc : Hid (quoC c = [92, c]) := Hd (by rw [hcc.out]; rfl); go_wp2_with fail; go_roundw
      case rel => exact ⟨i + 1, _, _, by omega, by go_num, rfl, rfl, by simp only [ba_append, HO.out, HQ.out, hqc.out, HB.out]; simp⟩
      case measure => simp [intOf]; omega
    · have g34 : c ≠ 34 := fun e => h34 (by rw [e]; rfl); have q34 : ((c.toNat : Int) == 34) = false := by simp; omega
      by_cases h92 : c.toNat = 92
      · have hcc : Hid (c = 92) := Hd (UInt8.toNat_inj.1 h92); have hqc : Hid (quoC c = [92, c]) := Hd (by rw [hcc.out]; rfl); go_wp2_with fail; go_roundw
        case rel => exact ⟨i + 1, _, _, by omega, by go_num, rfl, rfl, by simp only [ba_append, HO.out, HQ.out, hqc.out, HB.out]; simp⟩
        case measure => simp [intOf]; omega
      · have g92 : c ≠ 92 := fun e => h92 (by rw [e]; rfl); have q92 : ((c.toNat : Int) == 92) = false := by simp; omega
        by_cases h8 : c.toNat = 8
        · have hcc : Hid (c = 8) := Hd (UInt8.toNat_inj.1 h8); have hqc : Hid (quoC c = [92, 98]) := Hd (by rw [hcc.out]; rfl); go_wp2_with fail; go_roundw
          case rel => exact ⟨i + 1, _, _, by omega, by go_num, rfl, rfl, by simp only [ba_append, HO.out, HQ.out, hqc.out]; simp⟩
          case measure => simp [intOf]; omega
        · have g8 : c ≠ 8 := fun e => h8 (by rw [e]; rfl); have q8 : ((c.toNat : Int) == 8) = false := by simp; omega
          by_cases h9 : c.toNat = 9
          · have hcc : Hid (c = 9) := Hd (UInt8.toNat_inj.1 h9); have hqc : Hid (quoC c = [92, 116]) := Hd (by rw [hcc.out]; rfl); go_wp2_with fail; go_roundw
            case rel => exact ⟨i + 1, _, _, by omega, by go_num, rfl, rfl, by simp only [ba_append, HO.out, HQ.out, hqc.out]; simp⟩
            case measure => simp [intOf]; omega
          · have g9 : c ≠ 9 := fun e => h9 (by rw [e]; rfl); have q9 : ((c.toNat : Int) == 9) = false := by simp; omega
            by_cases h10 : c.toNat = 10
            · have hcc : Hid (c = 10) := Hd (UInt8.toNat_inj.1 h10); have hqc : Hid (quoC c = [92, 110]) := Hd (by rw [hcc.out]; rfl); go_wp2_with fail; go_roundw
              case rel => exact ⟨i + 1, _, _, by omega, by go_num, rfl, rfl, by simp only [ba_append, HO.out, HQ.out, hqc.out]; simp⟩
              case measure => simp [intOf]; omega
            · have g10 : c ≠ 10 := fun e => h10 (by rw [e]; rfl); have q10 : ((c.toNat : Int) == 10) = false := by simp; omega
              by_cases h12 : c.toNat = 12
              · have hcc : Hid (c = 12) := Hd (UInt8.toNat_inj.1 h12); have hqc : Hid (quoC c = [92, 102]) := Hd (by rw [hcc.out]; rfl); go_wp2_with fail; go_roundw
                case rel => exact ⟨i + 1, _, _, by omega, by go_num, rfl, rfl, by simp only [ba_append, HO.out, HQ.out, hqc.out]; simp⟩
                case measure => simp [intOf]; omega
              · have g12 : c ≠ 12 := fun e => h12 (by rw [e]; rfl); have q12 : ((c.toNat : Int) == 12) = false := by simp; omega
                by_cases h13 : c.toNat = 13
                · have hcc : Hid (c = 13) := Hd (UInt8.toNat_inj.1 h13); have hqc : Hid (quoC c = [92, 114]) := Hd (by rw [hcc.out]; rfl); go_wp2_with fail; go_roundw
                  case rel => exact ⟨i + 1, _, _, by omega, by go_num, rfl, rfl, by simp only [ba_append, HO.out, HQ.out, hqc.out]; simp⟩
                  case measure => simp [intOf]; omega
                · have g13 : c ≠ 13 := fun e => h13 (by rw [e]; rfl); have q13 : ((c.toNat : Int) == 13) = false := by simp; omega
                  by_cases h32 : c.toNat < 32
                  · have hqc : Hid (quoC c = [92, 117, 48, 48, hexs[c.toNat / 16]?.getD 0, hexs[c.toNat % 16]?.getD 0]) := Hd (by simp only [quoC, g34, g92, g8, g9, g10, g12, g13, or_self, if_false]; rw [if_pos h32]); clear g34 g92 g8 g9 g10 g12 g13; have hx1 := ba_hex (c.toNat / 16) (by omega); have hx2 := ba_hex (c.toNat % 16) (by omega); have HX1 := Hd hx1; have HX2 := Hd hx2; clear hx1 hx2
                    have e1 : IntKind.u8.wrap ((c.toNat : Int) / 16 + 1) = (c.toNat : Int) / 16 + 1 := IntWalk.u8_in _ (by omega); have e2 : IntKind.u8.wrap ((c.toNat : Int) % 16 + 1) = (c.toNat : Int) % 16 + 1 := IntWalk.u8_in _ (by omega); have e3 : ((c.toNat : Int) / 16).toNat = c.toNat / 16 := by omega
                    have e4 : ((c.toNat : Int) % 16).toNat = c.toNat % 16 := by omega
                    have e5 : ((c.toNat : Int) / 16 + 1).toNat = c.toNat / 16 + 1 := by omega
                    have e6 : ((c.toNat : Int) % 16 + 1).toNat = c.toNat % 16 + 1 := by omega
                    have m1 : min (c.toNat / 16 + 1) 16 - c.toNat / 16 = 1 := by omega
                    have m2 : min (c.toNat % 16 + 1) 16 - c.toNat % 16 = 1 := by omega
                    go_wp2_with fail; go_quiet (fail)
                    clear e1 e2 e3 e4 e5 e6 m1 m2; go_wp2_with fail; go_roundw
                    case rel => exact ⟨i + 1, _, _, by omega, by go_num, rfl, rfl, by simp only [ba_append, HO.out, HQ.out, hqc.out, HX1.out, HX2.out]; simp⟩
                    case measure => simp [intOf]; omega
                  · have hqc : Hid (quoC c = [c]) := Hd (by simp only [quoC, g34, g92, g8, g9, g10, g12, g13, or_self, if_false]; rw [if_neg h32]); clear g34 g92 g8 g9 g10 g12 g13; go_wp2_with fail; go_roundw
                    case rel => exact ⟨i + 1, _, _, by omega, by go_num, rfl, rfl, by simp only [ba_append, HO.out, HQ.out, hqc.out, HB.out]; simp⟩
                    case measure => simp [intOf]; omega
  · obtain rfl : i = s.size := by omega
    go_wp2_with fail; go_ret; refine ⟨ret_eq (congrArg Value.string (ba_ext ?_)), below_drewN (ext_refl w) _⟩; have := HO.out; rw [List.take_of_length_le (by rw [Array.length_toList]; exact Nat.le_refl _)] at this; rw [ba_append, this]; simp [quote]
end Go.Proofs.YtjapbjmeoaagmaaGreatDoor
end

section
set_option maxRecDepth 100000
namespace Orange
theorem outL_ext (by' : Int) (k : Nat) (b : List Tree) : ∀ (a : List Tree) (f : Bool), ∃ X, outL by' k f (a ++ b) = outL by' k f a ++ X
 | [], f => ⟨outL by' k f b, by simp [outL]⟩
 | t :: a, f => by
   obtain ⟨X, hX⟩ := outL_ext by' k b a false
   exact ⟨X, by rw [List.cons_append, outL, hX, outL]; simp⟩
theorem outM_ext (by' : Int) (k : Nat) (b : List Mem1) : ∀ (a : List Mem1) (f : Bool), ∃ X, outM by' k f (a ++ b) = outM by' k f a ++ X
 | [], f => ⟨outM by' k f b, by simp [outM]⟩
 | (key, t) :: a, f => by
   obtain ⟨X, hX⟩ := outM_ext by' k b a false
   exact ⟨X, by rw [List.cons_append, outM, hX, outM]; simp⟩
theorem outL_step (by' : Int) (k : Nat) (l : List Tree) (i : Nat) (h : i < l.length) : outL by' k true (l.take (i + 1)) = outL by' k true (l.take i) ++ ((if i = 0 then [] else [44]) ++ (gapP by' k ++ outT by' k l[i])) := by
 rw [List.take_succ_eq_append_getElem h, outL_snoc]; congr 2
 by_cases h0 : i = 0
 · subst h0; simp
 · rw [if_neg h0, if_neg]; rintro ⟨_, h1⟩; have h2 := congrArg List.length h1; rw [List.length_take, List.length_nil] at h2; omega
theorem outM_step (by' : Int) (k : Nat) (l : List Mem1) (i : Nat) (h : i < l.length) : outM by' k true (l.take (i + 1)) = outM by' k true (l.take i) ++ ((if i = 0 then [] else [44]) ++ (gapP by' k ++ (quote l[i].1 ++ (58 :: (blankP by' ++ outT by' k l[i].2))))) := by
 have e : l[i] = (l[i].1, l[i].2) := rfl; rw [List.take_succ_eq_append_getElem h, e, outM_snoc]; congr 2
 by_cases h0 : i = 0
 · subst h0; simp
 · rw [if_neg h0, if_neg]; rintro ⟨_, h1⟩; have h2 := congrArg List.length h1; rw [List.length_take, List.length_nil] at h2; omega
theorem out_big5 {by' : Int} {t : Tree} {k : Nat} (h1 : by' ≤ 16) (hk : k + weightT t ≤ 1000000) : (outT by' k t).length ≤ 140000000000000 := by
 have h2 := outT_top by' h1 t k 1000000 (by have := count_weight t; omega)
 have h3 := lenT_weight t; have h4 : countT t * (3 + 16 * 1000000) ≤ 1000000 * (3 + 16 * 1000000) := Nat.mul_le_mul_right _ (by have := count_weight t; omega); omega
end Orange
namespace Go.Proofs.YtjapbjmeoaagmaaGreatDoor
open Go.RowKit Go.Mem Orange
theorem weight_list {k : Int} {b : Bool} {d : Num} {s : List UInt8} {l : List Tree} {m : List Mem1} {i : Nat} (h : i < l.length) : weightT l[i] + 1 ≤ weightT (.mk k b d s l m) := by
 rw [weightT]; have := weightL_mem h; omega
theorem weight_mems {k : Int} {b : Bool} {d : Num} {s : List UInt8} {l : List Tree} {m : List Mem1} {i : Nat} (h : i < m.length) : weightT m[i].2 + m[i].1.length + 1 ≤ weightT (.mk k b d s l m) := by
 have hx : ∀ (m : List Mem1) (i : Nat) (h : i < m.length), weightT m[i].2 + m[i].1.length ≤ weightM m := by
  intro m; induction m with
  | nil => intro i h; exact absurd h (Nat.not_lt_zero i)
  | cons p m ih =>
    intro i h; obtain ⟨key, t⟩ := p; rw [weightM]; cases i with
    | zero => simp only [List.getElem_cons_zero]; omega
    | succ i => have := ih i (by simpa using h); simp only [List.getElem_cons_succ]; omega
 rw [weightT]; have := hx m i h; omega
set_option maxHeartbeats 12800000 in
theorem text_step (N : Nat) (by' : Int) (h0 : -1 ≤ by') (h1 : by' ≤ 16) (ih : ∀ (t : Tree) (k : Nat) (A : Nat → Prop) (c : Array Value) (w : World), SizeOf.sizeOf t < N → k + weightT t ≤ 1000000 → SaneP t → TV w A t c →
 Calls Tryz.prog 78 #[.agg c, .int .i64 by', .int .i64 k] w (fun e w' => e = .returned (.string ⟨(outT by' k t).toArray⟩) ∧ Ext w w')) :
 ∀ (t : Tree) (k : Nat) (A : Nat → Prop) (c : Array Value) (w : World), SizeOf.sizeOf t < N + 1 → k + weightT t ≤ 1000000 → SaneP t → TV w A t c →
 Calls Tryz.prog 78 #[.agg c, .int .i64 by', .int .i64 k] w (fun e w' => e = .returned (.string ⟨(outT by' k t).toArray⟩) ∧ Ext w w')
 | .mk kd b d s l m, k, A, c, w, hN, hk, hsane, ht => by
   have IH := Hd ih; clear ih; obtain ⟨hfl, _, hch⟩ := hsane.parts; obtain ⟨R, hR⟩ := Ex (outT by' k (.mk kd b d s l m)); have HRL : Hid (R.length ≤ 140000000000000) := Hd (by rw [← hR]; exact out_big5 h1 hk); rw [hR]; rw [outT] at hR; have HR := Hd hR; have HPL : Hid (∀ i (h : i < l.length), SizeOf.sizeOf l[i] < N ∧ k + 1 + weightT l[i] ≤ 1000000 ∧ SaneP l[i]) := Hd (fun i h => by
    refine ⟨mem_sizeL l i h (by simp only [Tree.mk.sizeOf_spec] at hN; omega), by have := weight_list (k := kd) (b := b) (d := d) (s := s) (m := m) h; omega, hch _ (List.mem_append_left _ (List.getElem_mem h))⟩)
   have HPM : Hid (∀ i (h : i < m.length), SizeOf.sizeOf m[i].2 < N ∧ k + 1 + weightT m[i].2 + m[i].1.length ≤ 1000000 ∧ SaneP m[i].2) := Hd (fun i h => by
    refine ⟨mem_size m i h (by simp only [Tree.mk.sizeOf_spec] at hN; omega), by have := weight_mems (k := kd) (b := b) (d := d) (s := s) (l := l) h; omega, hch _ (List.mem_append_right _ (List.mem_map.2 ⟨_, List.getElem_mem h, rfl⟩))⟩)
   have hsl : s.length ≤ 1000000 := by rw [weightT] at hk; omega
   have hkb : k ≤ 1000000 := by omega
   have HLN : Hid (l.length + m.length ≤ 1000000) := Hd (by
    have h1 := countT_ins (.mk kd b d s l m); have h2 := countL_len (Tree.mk kd b d s l m).ins; have h3 := ins_len (.mk kd b d s l m); have h4 := count_weight (.mk kd b d s l m); have h5 : (Tree.mk kd b d s l m).list.length + (Tree.mk kd b d s l m).mems.length ≤ 1000000 := by omega
    exact h5)
   have hbb : -1 ≤ by' ∧ by' ≤ 16 := ⟨h0, h1⟩
   have hkd : kd = 0 ∨ kd = 1 ∨ (kd = 2 ∧ sane d = true) ∨ kd = 3 ∨ kd = 4 ∨ kd = 5 := by
    unfold fieldsT at hfl; simp only at hfl; by_cases q0 : kd = 0
    · exact .inl q0
    by_cases q1 : kd = 1
    · exact .inr (.inl q1)
    by_cases q2 : kd = 2
    · subst q2; simp at hfl; exact .inr (.inr (.inl ⟨rfl, by simp_all⟩))
    by_cases q3 : kd = 3
    · exact .inr (.inr (.inr (.inl q3)))
    by_cases q4 : kd = 4
    · exact .inr (.inr (.inr (.inr (.inl q4))))
    by_cases q5 : kd = 5
    · exact .inr (.inr (.inr (.inr (.inr q5))))
    simp [q0, q1, q2, q3, q4, q5] at hfl
   clear hfl hch hN hk hsane hR; cases ht with
   | mk htl hrl htm hrm =>
   rename_i vL vM cl cm
   obtain ⟨_, a1, p1, rfl, hp1, hq1, _⟩ := id hrl; obtain ⟨_, a2, p2, rfl, hp2, hq2, _⟩ := id hrm; obtain ⟨wA, ewA⟩ : ∃ W, w.alloc (.cells (cellsV kd b d s (.slice a1 l.length p1) (.slice a2 m.length p2)) 27) = W := ⟨_, rfl⟩
   have nwA : wA.heap[w.heap.size]? = some (.cells (cellsV kd b d s (.slice a1 l.length p1) (.slice a2 m.length p2)) 27) := by rw [← ewA]; exact heap_alloc_new _ _
   have xwA : Ext w wA := by rw [← ewA]; exact (ext_refl _).alloc (Nat.le_refl _) _
   have swA : wA.heap.size = w.heap.size + 1 := by rw [← ewA]; simp
   have HC : Hid (VAt wA w.heap.size (cellsV kd b d s (.slice a1 l.length p1) (.slice a2 m.length p2))) := Hd nwA; have HE := Hd xwA; have EA := Hd ewA; have HTL := Hd (htl.keep (w' := wA) (A' := fun _ => True) xwA.size (fun g _ hlt => ⟨trivial, xwA.block g hlt⟩)); have HRL2 := Hd (hrl.keep (w' := wA) (A' := fun _ => True) xwA.size (fun g _ hlt => ⟨trivial, xwA.block g hlt⟩))
   have HTM := Hd (htm.keep (w' := wA) (A' := fun _ => True) xwA.size (fun g _ hlt => ⟨trivial, xwA.block g hlt⟩)); have HRM := Hd (hrm.keep (w' := wA) (A' := fun _ => True) xwA.size (fun g _ hlt => ⟨trivial, xwA.block g hlt⟩)); clear nwA xwA ewA swA htl hrl htm hrm; simp only [cellsV] at HC EA ⊢; go_enter Tryz.func78, Tryz.ntmps78
   go_upto_region 1 with fail; rw [EA.out]; obtain ⟨S, hS⟩ := Ex w.heap.size; rw [hS] at HC ⊢; have HS := Hd hS; clear hS EA; obtain ⟨c0, c1, c2, c3, c4, c5, c6, c7⟩ := HC.out.c8; rcases hkd with rfl | rfl | ⟨rfl, hd⟩ | rfl | rfl | rfl
   · have HF : Hid (R = [110, 117, 108, 108]) := Hd (by rw [← HR.out]; rfl); go_wp2_with fail; go_ret; exact ⟨ret_str HF.out.symm, HE.out⟩
   · cases b with
     | true =>
       have HF : Hid (R = [116, 114, 117, 101]) := Hd (by rw [← HR.out]; rfl); go_wp2_with fail; go_ret; exact ⟨ret_str HF.out.symm, HE.out⟩
     | false =>
       have HF : Hid (R = [102, 97, 108, 115, 101]) := Hd (by rw [← HR.out]; rfl); go_wp2_with fail; go_ret; exact ⟨ret_str HF.out.symm, HE.out⟩
   · have HF : Hid (R = printP d) := Hd (by rw [← HR.out]; rfl); go_wp2_with fail; refine (r2print_any d wA hd).mono ?_; rintro e w2 ⟨rfl, hx2⟩; go_wp2_with fail; go_ret; exact ⟨ret_str HF.out.symm, ext_trans HE.out hx2⟩
   · have HF : Hid (R = quote s) := Hd (by rw [← HR.out]; rfl); go_wp2_with fail; refine (refquote_any ⟨s.toArray⟩ wA (by simp [ByteArray.size]; omega)).mono ?_; rintro e w2 ⟨rfl, hx2⟩; go_wp2_with fail; go_ret; exact ⟨ret_str (by rw [HF.out]), ext_trans HE.out hx2⟩
   · have HF : Hid (R = 91 :: (outL by' (k + 1) true l ++ ((if l.length = 0 then [] else gapP by' k) ++ [93]))) := Hd (by rw [← HR.out]; rfl); have hln := HLN.out; have HPRE : Hid (∀ i, (91 :: outL by' (k + 1) true (l.take i)).length ≤ R.length) := Hd (fun i => by
      obtain ⟨Y, hY⟩ := outL_ext by' (k + 1) (l.drop i) (l.take i) true
      rw [List.take_append_drop] at hY; rw [HF.out, hY]; simp)
     have ek : IntKind.i64.wrap ((k : Int) + 1) = ((k + 1 : Nat) : Int) := by rw [IntWalk.i64_in _ (by omega)] <;> omega
     have HG : Hid (∀ (k' : Nat) w', k' ≤ 1000001 → Calls Tryz.prog 98 #[.int .i64 by', .int .i64 k'] w' (fun e w'' => e = .returned (.string ⟨(gapP by' k').toArray⟩) ∧ Ext w' w'')) := Hd (fun k' w' hk' => (gap5_any by' k' w' hbb.1 hbb.2 (by omega)).mono (fun e w'' h => ⟨h.1, h.2 ▸ ext_refl _⟩)); clear HR HTM HRM HPM; go_wp2_with fail; clear c0 c1 c2 c3 c4 c5 c6 c7
     go_loopw [7, 8] (fun sv iv wr => ∃ (i : Nat) (X : List UInt8), iv = .int .i64 i ∧ i ≤ l.length ∧ sv = .string ⟨X.toArray⟩ ∧ X = 91 :: outL by' (k + 1) true (l.take i) ∧ Ext wA wr) (fun _ iv _ => 2000000 - (intOf iv).toNat)
     case atStart => exact ⟨0, [91], rfl, by omega, rfl, by rw [List.take_zero, outL], ext_refl _⟩
     case round =>
      obtain ⟨i, X, rfl, hi, rfl, hX, hEr⟩ := hrel; have HX := Hd hX; have HXB : Hid (X.length ≤ R.length) := Hd (by rw [hX]; exact HPRE.out i); have HEr := Hd hEr; clear hX hEr; have c6 := (HC.out.ext HEr.out).cell 6; simp at c6; by_cases hlt : i < l.length
      · have hlti : (i : Int) < l.length := by omega
        have hi0 : (0 : Int) ≤ i := by omega
        obtain ⟨g, o, xk, xb, xd, xs, xa1, xn1, xc1, xa2, xn2, xc2, rfl, htx, hcell⟩ := row_elem HRL2.out HTL.out rfl i hlt; have HCELL : Hid (∀ w', Ext wr w' → _) := Hd (fun w' hw => hcell w' (fun g _ hg => (ext_trans HEr.out hw).block g hg)); obtain ⟨hs1, hs2, hs3⟩ := HPL.out i hlt
        have HTX : Hid (∀ w', Ext wr w' → Calls Tryz.prog 78 #[.agg (cellsV xk xb xd xs (.slice xa1 xn1 xc1) (.slice xa2 xn2 xc2)), .int .i64 by', .int .i64 ((k + 1 : Nat) : Int)] w' (fun e w'' => e = .returned (.string ⟨(outT by' (k + 1) l[i]).toArray⟩) ∧ Ext w' w'')) := Hd (fun w' hw =>
         IH.out l[i] (k + 1) (fun _ => True) _ w' hs1 hs2 hs3 (htx.keep (ext_trans HEr.out hw).size (fun g _ hlt => ⟨trivial, (ext_trans HEr.out hw).block g hlt⟩)))
        have HST := Hd (outL_step by' (k + 1) l i hlt); have HNX := Hd (HPRE.out (i + 1)); obtain ⟨G, hG⟩ := Ex (gapP by' (k + 1)); obtain ⟨Tx, hTx⟩ := Ex (outT by' (k + 1) l[i]); have h1 := HTX.out; have h2 := HST.out; have h3 := fun w' => HG.out (k + 1) w' (by omega); rw [hTx] at h1 h2; rw [hG] at h2 h3; replace HTX := Hd h1; have HGG := Hd h3
        obtain ⟨X1, hX1⟩ : ∃ X1, X ++ (if i = 0 then [] else [44]) = X1 := ⟨_, rfl⟩
        have HNEW : Hid (91 :: outL by' (k + 1) true (l.take (i + 1)) = X1 ++ G ++ Tx) := Hd (by rw [h2, ← hX1, HX.out]; simp); have hlen : (X1 ++ G ++ Tx).length ≤ 140000000000000 := by rw [← HNEW.out]; exact Nat.le_trans HNX.out HRL.out
        have hcat1 := cat_toList X1 G; have hcat2 := cat_toList (X1 ++ G) Tx; have hlen' := hlen; rw [List.length_append, List.length_append] at hlen'; have hs1 : ¬ 9223372036854775807 < X1.length + G.length := by omega
        have hs2 : ¬ 9223372036854775807 < (X1 ++ G).length + Tx.length := by rw [List.length_append]; omega
        have e9 : IntKind.i64.wrap ((i : Int) + 1) = ((i + 1 : Nat) : Int) := by rw [IntWalk.i64_in _ (by omega)]; omega
        have hXl : X.length ≤ 140000000000000 := Nat.le_trans HXB.out HRL.out; clear h1 h2 h3 hG hTx htx hcell hlen; by_cases hz : i = 0
        · have hX1' : X1 = X := by rw [← hX1, if_pos hz]; simp
          have hzi : ¬ (0 : Int) < i := by omega
          subst hX1'; clear hX1 hz; go_upto_region 19 with fail; clear c6; generalize hXG : X1 ++ G = XG at *; refine Grow.wp_region_litW (G := Ext) (B := fun w' => Ext wr w') (anc := fun _ => []) (I := fun j => if j = 4 then some (Grow.Spec.val Ext (.string ⟨G.toArray⟩)) else if j = 14 then some (Grow.Spec.val Ext (.string ⟨Tx.toArray⟩)) else none) (by kernel_rfl) (by kernel_rfl) (by kernel_rfl) ?_ ?_ ?_
          · exact fun w w' h hg => ext_trans h hg
          · exact (ext_refl _).drew
          repeat
           (refine Grow.Wk.step (fun K hK => ?_)
            first
            | (refine Grow.step_read (by rfl) (by rfl) (fun w => ext_refl w) ?_
               apply Exists.intro; refine ⟨fun w hB hF => ?_, ?_⟩
               · first | (replace hB : Ext _ w := hB; have c6 := (HC.out.ext (ext_trans HEr.out hB)).cell 6; simp at c6; obtain ⟨x0, x1, x2, x3, x4, x5, x6, x7⟩ := HCELL.out w hB) | skip
                 go_simp; try exact rfl
               go_simp; refine hK _ _ ?_; clear hK K)
            | (refine Grow.step_off (by rfl) ?_
               go_simp; refine hK _ _ ?_; clear hK K))
          refine Grow.Wk.step (fun K hK => ?_); refine Grow.step_rel (by rfl) (by rfl) (fun w' hB hF => ?_) (fun v hv => ?_)
          · go_simp; refine Grow.relUpon_enter ((HGG.out w').mono ?_); rintro e w'' ⟨rfl, hw''⟩; exact ⟨_, rfl, hw'', rfl, trivial⟩
          obtain rfl : v = _ := hv; go_simp; refine hK _ _ ?_; clear hK K; repeat
           (refine Grow.Wk.step (fun K hK => ?_)
            first
            | (refine Grow.step_read (by rfl) (by rfl) (fun w => ext_refl w) ?_
               apply Exists.intro; refine ⟨fun w hB hF => ?_, ?_⟩
               · first | (replace hB : Ext _ w := hB; have c6 := (HC.out.ext (ext_trans HEr.out hB)).cell 6; simp at c6; obtain ⟨x0, x1, x2, x3, x4, x5, x6, x7⟩ := HCELL.out w hB) | skip
                 go_simp; try exact rfl
               go_simp; refine hK _ _ ?_; clear hK K)
            | (refine Grow.step_off (by rfl) ?_
               go_simp; refine hK _ _ ?_; clear hK K))
          refine Grow.Wk.step (fun K hK => ?_); refine Grow.step_rel (by rfl) (by rfl) (fun w' hB hF => ?_) (fun v hv => ?_)
          · go_simp; refine Grow.relUpon_enter ((HTX.out w' hB).mono ?_); rintro e w'' ⟨rfl, hw''⟩; exact ⟨_, rfl, hw'', rfl, trivial⟩
          obtain rfl : v = _ := hv; go_simp; refine hK _ _ ?_; clear hK K; repeat
           (refine Grow.Wk.step (fun K hK => ?_)
            first
            | (refine Grow.step_read (by rfl) (by rfl) (fun w => ext_refl w) ?_
               apply Exists.intro; refine ⟨fun w hB hF => ?_, ?_⟩
               · skip
                 go_simp; try exact rfl
               go_simp; refine hK _ _ ?_; clear hK K)
            | (refine Grow.step_off (by rfl) ?_
               go_simp; refine hK _ _ ?_; clear hK K))
          refine Grow.Wk.nil ?_; intro wv hB hF; replace hB : Ext wr wv := hB; have HB := Hd hB; clear hB hF; go_wp2_with fail; go_roundw
          case rel => exact ⟨i + 1, XG ++ Tx, by go_num, by omega, rfl, HNEW.out.symm, ext_trans HEr.out HB.out⟩
          case measure => simp [intOf]; omega
        · have hcat0 := cat_toList X [44]; have hX1' : X ++ [44] = X1 := by rw [← hX1, if_neg hz]
          rw [hX1'] at hcat0; have hs0 : ¬ 9223372036854775807 < X.length + 1 := by omega
          have hzi : (0 : Int) < i := by omega
          clear hX1 hz hX1'; go_upto_region 19 with fail; clear c6; generalize hXG : X1 ++ G = XG at *; refine Grow.wp_region_litW (G := Ext) (B := fun w' => Ext wr w') (anc := fun _ => []) (I := fun j => if j = 4 then some (Grow.Spec.val Ext (.string ⟨G.toArray⟩)) else if j = 14 then some (Grow.Spec.val Ext (.string ⟨Tx.toArray⟩)) else none) (by kernel_rfl) (by kernel_rfl) (by kernel_rfl) ?_ ?_ ?_
          · exact fun w w' h hg => ext_trans h hg
          · exact (ext_refl _).drew
          repeat
           (refine Grow.Wk.step (fun K hK => ?_)
            first
            | (refine Grow.step_read (by rfl) (by rfl) (fun w => ext_refl w) ?_
               apply Exists.intro; refine ⟨fun w hB hF => ?_, ?_⟩
               · first | (replace hB : Ext _ w := hB; have c6 := (HC.out.ext (ext_trans HEr.out hB)).cell 6; simp at c6; obtain ⟨x0, x1, x2, x3, x4, x5, x6, x7⟩ := HCELL.out w hB) | skip
                 go_simp; try exact rfl
               go_simp; refine hK _ _ ?_; clear hK K)
            | (refine Grow.step_off (by rfl) ?_
               go_simp; refine hK _ _ ?_; clear hK K))
          refine Grow.Wk.step (fun K hK => ?_); refine Grow.step_rel (by rfl) (by rfl) (fun w' hB hF => ?_) (fun v hv => ?_)
          · go_simp; refine Grow.relUpon_enter ((HGG.out w').mono ?_); rintro e w'' ⟨rfl, hw''⟩; exact ⟨_, rfl, hw'', rfl, trivial⟩
          obtain rfl : v = _ := hv; go_simp; refine hK _ _ ?_; clear hK K; repeat
           (refine Grow.Wk.step (fun K hK => ?_)
            first
            | (refine Grow.step_read (by rfl) (by rfl) (fun w => ext_refl w) ?_
               apply Exists.intro; refine ⟨fun w hB hF => ?_, ?_⟩
               · first | (replace hB : Ext _ w := hB; have c6 := (HC.out.ext (ext_trans HEr.out hB)).cell 6; simp at c6; obtain ⟨x0, x1, x2, x3, x4, x5, x6, x7⟩ := HCELL.out w hB) | skip
                 go_simp; try exact rfl
               go_simp; refine hK _ _ ?_; clear hK K)
            | (refine Grow.step_off (by rfl) ?_
               go_simp; refine hK _ _ ?_; clear hK K))
          refine Grow.Wk.step (fun K hK => ?_); refine Grow.step_rel (by rfl) (by rfl) (fun w' hB hF => ?_) (fun v hv => ?_)
          · go_simp; refine Grow.relUpon_enter ((HTX.out w' hB).mono ?_); rintro e w'' ⟨rfl, hw''⟩; exact ⟨_, rfl, hw'', rfl, trivial⟩
          obtain rfl : v = _ := hv; go_simp; refine hK _ _ ?_; clear hK K; repeat
           (refine Grow.Wk.step (fun K hK => ?_)
            first
            | (refine Grow.step_read (by rfl) (by rfl) (fun w => ext_refl w) ?_
               apply Exists.intro; refine ⟨fun w hB hF => ?_, ?_⟩
               · skip
                 go_simp; try exact rfl
               go_simp; refine hK _ _ ?_; clear hK K)
            | (refine Grow.step_off (by rfl) ?_
               go_simp; refine hK _ _ ?_; clear hK K))
          refine Grow.Wk.nil ?_; intro wv hB hF; replace hB : Ext wr wv := hB; have HB := Hd hB; clear hB hF; go_wp2_with fail; go_roundw
          case rel => exact ⟨i + 1, XG ++ Tx, by go_num, by omega, rfl, HNEW.out.symm, ext_trans HEr.out HB.out⟩
          case measure => simp [intOf]; omega
      · obtain rfl : i = l.length := by omega
        have hnlt : ¬ ((l.length : Int) < (l.length : Int)) := by omega
        have HX2 : Hid (X = 91 :: outL by' (k + 1) true l) := Hd (by rw [HX.out, List.take_length]); have hXl : X.length ≤ 140000000000000 := Nat.le_trans HXB.out HRL.out; by_cases hz : l.length = 0
        · have HFF : Hid (R = X ++ [93]) := Hd (by rw [HF.out, if_pos hz, HX2.out]; simp); have hcat := cat_toList X [93]; have hs0 : ¬ 9223372036854775807 < X.length + 1 := by omega
          have hzi : ¬ (0 : Int) < l.length := by omega
          clear hz; go_wp2_with fail; go_ret; exact ⟨ret_str HFF.out.symm, ext_trans HE.out HEr.out⟩
        · obtain ⟨G, hG⟩ := Ex (gapP by' k); have HFF : Hid (R = X ++ G ++ [93]) := Hd (by rw [HF.out, if_neg hz, HX2.out, hG]; simp); have h3 := fun w' => HG.out k w' (by omega); rw [hG] at h3; have HGG := Hd h3; have hlen : (X ++ G ++ [93]).length ≤ 140000000000000 := by rw [← HFF.out]; exact HRL.out
          rw [List.length_append, List.length_append] at hlen; have hcat := cat_toList X G; have hcat2 := cat_toList (X ++ G) [93]; have hs0 : ¬ 9223372036854775807 < X.length + G.length := by omega
          have hs1 : ¬ 9223372036854775807 < (X ++ G).length + 1 := by rw [List.length_append]; omega
          have hzi : (0 : Int) < l.length := by omega
          clear hz h3 hG; go_wp2_with fail; refine (HGG.out wr).mono ?_; rintro e w5 ⟨rfl, hx5⟩; generalize X ++ G = XG at *; go_wp2_with fail; go_ret; exact ⟨ret_str HFF.out.symm, ext_trans HE.out (ext_trans HEr.out hx5)⟩
   · have HF : Hid (R = 123 :: (outM by' (k + 1) true m ++ ((if m.length = 0 then [] else gapP by' k) ++ [125]))) := Hd (by rw [← HR.out]; rfl); have hln := HLN.out; have HPRE : Hid (∀ i, (123 :: outM by' (k + 1) true (m.take i)).length ≤ R.length) := Hd (fun i => by
      obtain ⟨Y, hY⟩ := outM_ext by' (k + 1) (m.drop i) (m.take i) true
      rw [List.take_append_drop] at hY; rw [HF.out, hY]; simp)
     have ek : IntKind.i64.wrap ((k : Int) + 1) = ((k + 1 : Nat) : Int) := by rw [IntWalk.i64_in _ (by omega)] <;> omega
     have HG : Hid (∀ (k' : Nat) w', k' ≤ 1000001 → Calls Tryz.prog 98 #[.int .i64 by', .int .i64 k'] w' (fun e w'' => e = .returned (.string ⟨(gapP by' k').toArray⟩) ∧ Ext w' w'')) := Hd (fun k' w' hk' => (gap5_any by' k' w' hbb.1 hbb.2 (by omega)).mono (fun e w'' h => ⟨h.1, h.2 ▸ ext_refl _⟩)); clear HR HTL HRL2 HPL; obtain ⟨CL, hCL⟩ := Ex (58 :: blankP by')
     have hcl2 : CL.length ≤ 2 := by rw [← hCL]; unfold blankP; split <;> simp
     by_cases hbz : by' < 0
     · have hCL1 : CL = [58] := by rw [← hCL]; unfold blankP; rw [if_pos hbz]
       have hge : ¬ (0 : Int) ≤ by' := by omega
       subst hCL1; have HCL := Hd hCL; clear hCL; go_wp2_with fail; clear c0 c1 c2 c3 c4 c5 c6 c7; go_loopw [10, 11] (fun sv iv wr => ∃ (i : Nat) (X : List UInt8), iv = .int .i64 i ∧ i ≤ m.length ∧ sv = .string ⟨X.toArray⟩ ∧ X = 123 :: outM by' (k + 1) true (m.take i) ∧ Ext wA wr) (fun _ iv _ => 2000000 - (intOf iv).toNat)
       case atStart => exact ⟨0, [123], rfl, by omega, rfl, by rw [List.take_zero, outM], ext_refl _⟩
       case round =>
        obtain ⟨i, X, rfl, hi, rfl, hX, hEr⟩ := hrel; have HX := Hd hX; have HXB : Hid (X.length ≤ R.length) := Hd (by rw [hX]; exact HPRE.out i); have HEr := Hd hEr; clear hX hEr; have c7 := (HC.out.ext HEr.out).cell 7; simp at c7; by_cases hlt : i < m.length
        · have hlti : (i : Int) < m.length := by omega
          have hi0 : (0 : Int) ≤ i := by omega
          obtain ⟨g, o, xk, xb, xd, xs, xa1, xn1, xc1, xa2, xn2, xc2, rfl, htx, hcell⟩ := mem_elem HRM.out HTM.out rfl i hlt; have HCELL0 := Hd (fun w' (hw : Ext wr w') => hcell w' (fun g _ hg => (ext_trans HEr.out hw).block g hg)); obtain ⟨hs1, hs2, hs3⟩ := HPM.out i hlt; have hkl : m[i].1.length ≤ 1000000 := by omega
          have HTX : Hid (∀ w', Ext wr w' → Calls Tryz.prog 78 #[.agg (cellsV xk xb xd xs (.slice xa1 xn1 xc1) (.slice xa2 xn2 xc2)), .int .i64 by', .int .i64 ((k + 1 : Nat) : Int)] w' (fun e w'' => e = .returned (.string ⟨(outT by' (k + 1) m[i].2).toArray⟩) ∧ Ext w' w'')) := Hd (fun w' hw =>
           IH.out m[i].2 (k + 1) (fun _ => True) _ w' hs1 (by omega) hs3 (htx.keep (ext_trans HEr.out hw).size (fun g _ hlt => ⟨trivial, (ext_trans HEr.out hw).block g hlt⟩)))
          have HST := Hd (outM_step by' (k + 1) m i hlt); have HNX := Hd (HPRE.out (i + 1)); obtain ⟨G, hG⟩ := Ex (gapP by' (k + 1)); obtain ⟨Tx, hTx⟩ := Ex (outT by' (k + 1) m[i].2); have h1 := HTX.out; have h2 := HST.out; have h3 := fun w' => HG.out (k + 1) w' (by omega); have h4 := HCELL0.out; rw [hTx] at h1 h2; rw [hG] at h2 h3; obtain ⟨ky, hky⟩ := Ex (m[i].1); rw [hky] at h2 h4 hkl; have HCELL := Hd h4
          replace HTX := Hd h1; have HGG := Hd h3; have HQU : Hid (∀ w', Calls Tryz.prog 68 #[.string ⟨ky.toArray⟩] w' fun e w'' => e = .returned (.string ⟨(quote ky).toArray⟩) ∧ Ext w' w'') := Hd (fun w' => refquote_any ⟨ky.toArray⟩ w' (by simp [ByteArray.size]; omega)); obtain ⟨Q, hQ⟩ := Ex (quote ky); have h5 := HQU.out; rw [hQ] at h5 h2; replace HQU := Hd h5; obtain ⟨CC, hCC⟩ := Ex (58 :: blankP by')
          have hCC2 := HCL.out.symm.trans hCC; obtain ⟨X1, hX1⟩ : ∃ X1, X ++ (if i = 0 then [] else [44]) = X1 := ⟨_, rfl⟩
          have HNEW : Hid (123 :: outM by' (k + 1) true (m.take (i + 1)) = X1 ++ G ++ Q ++ CC ++ Tx) := Hd (by rw [h2, ← hX1, ← hCC, HX.out]; simp); have hlen : (X1 ++ G ++ Q ++ CC ++ Tx).length ≤ 140000000000000 := by rw [← HNEW.out]; exact Nat.le_trans HNX.out HRL.out
          have hcat1 := cat_toList X1 G; have hcat2 := cat_toList (X1 ++ G) Q; have hcat3 := cat_toList (X1 ++ G ++ Q) CC; have hcat4 := cat_toList (X1 ++ G ++ Q ++ CC) Tx; simp only [List.length_append] at hlen; have hs1 : ¬ 9223372036854775807 < X1.length + G.length := by omega
          have hs2 : ¬ 9223372036854775807 < (X1 ++ G).length + Q.length := by simp only [List.length_append]; omega
          have hs3 : ¬ 9223372036854775807 < (X1 ++ G ++ Q).length + CC.length := by simp only [List.length_append]; omega
          have hs4 : ¬ 9223372036854775807 < (X1 ++ G ++ Q ++ CC).length + Tx.length := by simp only [List.length_append]; omega
          have e9 : IntKind.i64.wrap ((i : Int) + 1) = ((i + 1 : Nat) : Int) := by rw [IntWalk.i64_in _ (by omega)]; omega
          have hXl : X.length ≤ 140000000000000 := Nat.le_trans HXB.out HRL.out; clear h1 h2 h3 h4 h5 hG hTx htx hcell hlen HCELL0 hky hQ hCC HG; subst hCC2; by_cases hz : i = 0
          · have hX1' : X1 = X := by rw [← hX1, if_pos hz]; simp
            have hzi : ¬ (0 : Int) < i := by omega
            subst hX1'; clear hX1 hz; go_upto_region 32 with fail; clear c7; generalize hXG : X1 ++ G = XG at *; generalize hXQ : XG ++ Q = XQ at *; generalize hXC : XQ ++ [58] = XC at *; simp only [List.length_cons, List.length_nil, Nat.zero_add, Nat.reduceAdd] at hs3
            refine Grow.wp_region_litW (G := Ext) (B := fun w' => Ext wr w') (anc := fun _ => []) (I := fun j => if j = 4 then some (Grow.Spec.val Ext (.string ⟨G.toArray⟩)) else if j = 12 then some (Grow.Spec.val Ext (.string ⟨Q.toArray⟩)) else if j = 25 then some (Grow.Spec.val Ext (.string ⟨Tx.toArray⟩)) else none) (by kernel_rfl) (by kernel_rfl) (by kernel_rfl) ?_ ?_ ?_
            · exact fun w w' h hg => ext_trans h hg
            · exact (ext_refl _).drew
            repeat
             (refine Grow.Wk.step (fun K hK => ?_)
              first
              | (refine Grow.step_read (by rfl) (by rfl) (fun w => ext_refl w) ?_
                 apply Exists.intro; refine ⟨fun w hB hF => ?_, ?_⟩
                 · first | (replace hB : Ext _ w := hB; have c7 := (HC.out.ext (ext_trans HEr.out hB)).cell 7; simp at c7; obtain ⟨x0, x1, x2, x3, x4, x5, x6, x7, x8⟩ := HCELL.out w hB) | skip
                   go_simp; try exact rfl
                 go_simp; refine hK _ _ ?_; clear hK K)
              | (refine Grow.step_off (by rfl) ?_
                 go_simp; refine hK _ _ ?_; clear hK K))
            refine Grow.Wk.step (fun K hK => ?_); refine Grow.step_rel (by rfl) (by rfl) (fun w' hB hF => ?_) (fun v hv => ?_)
            · go_simp; refine Grow.relUpon_enter ((HGG.out w').mono ?_); rintro e w'' ⟨rfl, hw''⟩; exact ⟨_, rfl, hw'', rfl, trivial⟩
            obtain rfl : v = _ := hv; go_simp; refine hK _ _ ?_; clear hK K; repeat
             (refine Grow.Wk.step (fun K hK => ?_)
              first
              | (refine Grow.step_read (by rfl) (by rfl) (fun w => ext_refl w) ?_
                 apply Exists.intro; refine ⟨fun w hB hF => ?_, ?_⟩
                 · first | (replace hB : Ext _ w := hB; have c7 := (HC.out.ext (ext_trans HEr.out hB)).cell 7; simp at c7; obtain ⟨x0, x1, x2, x3, x4, x5, x6, x7, x8⟩ := HCELL.out w hB) | skip
                   go_simp; try exact rfl
                 go_simp; refine hK _ _ ?_; clear hK K)
              | (refine Grow.step_off (by rfl) ?_
                 go_simp; refine hK _ _ ?_; clear hK K))
            refine Grow.Wk.step (fun K hK => ?_); refine Grow.step_rel (by rfl) (by rfl) (fun w' hB hF => ?_) (fun v hv => ?_)
            · go_simp; refine Grow.relUpon_enter ((HQU.out w').mono ?_); rintro e w'' ⟨rfl, hw''⟩; exact ⟨_, rfl, hw'', rfl, trivial⟩
            obtain rfl : v = _ := hv; go_simp; refine hK _ _ ?_; clear hK K; repeat
             (refine Grow.Wk.step (fun K hK => ?_)
              first
              | (refine Grow.step_read (by rfl) (by rfl) (fun w => ext_refl w) ?_
                 apply Exists.intro; refine ⟨fun w hB hF => ?_, ?_⟩
                 · first | (replace hB : Ext _ w := hB; have c7 := (HC.out.ext (ext_trans HEr.out hB)).cell 7; simp at c7; obtain ⟨x0, x1, x2, x3, x4, x5, x6, x7, x8⟩ := HCELL.out w hB) | skip
                   go_simp; try exact rfl
                 go_simp; refine hK _ _ ?_; clear hK K)
              | (refine Grow.step_off (by rfl) ?_
                 go_simp; refine hK _ _ ?_; clear hK K))
            refine Grow.Wk.step (fun K hK => ?_); refine Grow.step_rel (by rfl) (by rfl) (fun w' hB hF => ?_) (fun v hv => ?_)
            · go_simp; refine Grow.relUpon_enter ((HTX.out w' hB).mono ?_); rintro e w'' ⟨rfl, hw''⟩; exact ⟨_, rfl, hw'', rfl, trivial⟩
            obtain rfl : v = _ := hv; go_simp; refine hK _ _ ?_; clear hK K; repeat
             (refine Grow.Wk.step (fun K hK => ?_)
              first
              | (refine Grow.step_read (by rfl) (by rfl) (fun w => ext_refl w) ?_
                 apply Exists.intro; refine ⟨fun w hB hF => ?_, ?_⟩
                 · skip
                   go_simp; try exact rfl
                 go_simp; refine hK _ _ ?_; clear hK K)
              | (refine Grow.step_off (by rfl) ?_
                 go_simp; refine hK _ _ ?_; clear hK K))
            refine Grow.Wk.nil ?_; intro wv hB hF; replace hB : Ext wr wv := hB; have HB := Hd hB; clear hB hF; go_wp2_with fail; go_roundw
            case rel => exact ⟨i + 1, XC ++ Tx, by go_num, by omega, rfl, HNEW.out.symm, ext_trans HEr.out HB.out⟩
            case measure => simp [intOf]; omega
          · have hcat0 := cat_toList X [44]; have hX1' : X ++ [44] = X1 := by rw [← hX1, if_neg hz]
            rw [hX1'] at hcat0; have hs0 : ¬ 9223372036854775807 < X.length + 1 := by omega
            have hzi : (0 : Int) < i := by omega
            clear hX1 hz hX1'; go_upto_region 32 with fail; clear c7; generalize hXG : X1 ++ G = XG at *; generalize hXQ : XG ++ Q = XQ at *; generalize hXC : XQ ++ [58] = XC at *; simp only [List.length_cons, List.length_nil, Nat.zero_add, Nat.reduceAdd] at hs3
            refine Grow.wp_region_litW (G := Ext) (B := fun w' => Ext wr w') (anc := fun _ => []) (I := fun j => if j = 4 then some (Grow.Spec.val Ext (.string ⟨G.toArray⟩)) else if j = 12 then some (Grow.Spec.val Ext (.string ⟨Q.toArray⟩)) else if j = 25 then some (Grow.Spec.val Ext (.string ⟨Tx.toArray⟩)) else none) (by kernel_rfl) (by kernel_rfl) (by kernel_rfl) ?_ ?_ ?_
            · exact fun w w' h hg => ext_trans h hg
            · exact (ext_refl _).drew
            repeat
             (refine Grow.Wk.step (fun K hK => ?_)
              first
              | (refine Grow.step_read (by rfl) (by rfl) (fun w => ext_refl w) ?_
                 apply Exists.intro; refine ⟨fun w hB hF => ?_, ?_⟩
                 · first | (replace hB : Ext _ w := hB; have c7 := (HC.out.ext (ext_trans HEr.out hB)).cell 7; simp at c7; obtain ⟨x0, x1, x2, x3, x4, x5, x6, x7, x8⟩ := HCELL.out w hB) | skip
                   go_simp; try exact rfl
                 go_simp; refine hK _ _ ?_; clear hK K)
              | (refine Grow.step_off (by rfl) ?_
                 go_simp; refine hK _ _ ?_; clear hK K))
            refine Grow.Wk.step (fun K hK => ?_); refine Grow.step_rel (by rfl) (by rfl) (fun w' hB hF => ?_) (fun v hv => ?_)
            · go_simp; refine Grow.relUpon_enter ((HGG.out w').mono ?_); rintro e w'' ⟨rfl, hw''⟩; exact ⟨_, rfl, hw'', rfl, trivial⟩
            obtain rfl : v = _ := hv; go_simp; refine hK _ _ ?_; clear hK K; repeat
             (refine Grow.Wk.step (fun K hK => ?_)
              first
              | (refine Grow.step_read (by rfl) (by rfl) (fun w => ext_refl w) ?_
                 apply Exists.intro; refine ⟨fun w hB hF => ?_, ?_⟩
                 · first | (replace hB : Ext _ w := hB; have c7 := (HC.out.ext (ext_trans HEr.out hB)).cell 7; simp at c7; obtain ⟨x0, x1, x2, x3, x4, x5, x6, x7, x8⟩ := HCELL.out w hB) | skip
                   go_simp; try exact rfl
                 go_simp; refine hK _ _ ?_; clear hK K)
              | (refine Grow.step_off (by rfl) ?_
                 go_simp; refine hK _ _ ?_; clear hK K))
            refine Grow.Wk.step (fun K hK => ?_); refine Grow.step_rel (by rfl) (by rfl) (fun w' hB hF => ?_) (fun v hv => ?_)
            · go_simp; refine Grow.relUpon_enter ((HQU.out w').mono ?_); rintro e w'' ⟨rfl, hw''⟩; exact ⟨_, rfl, hw'', rfl, trivial⟩
            obtain rfl : v = _ := hv; go_simp; refine hK _ _ ?_; clear hK K; repeat
             (refine Grow.Wk.step (fun K hK => ?_)
              first
              | (refine Grow.step_read (by rfl) (by rfl) (fun w => ext_refl w) ?_
                 apply Exists.intro; refine ⟨fun w hB hF => ?_, ?_⟩
                 · first | (replace hB : Ext _ w := hB; have c7 := (HC.out.ext (ext_trans HEr.out hB)).cell 7; simp at c7; obtain ⟨x0, x1, x2, x3, x4, x5, x6, x7, x8⟩ := HCELL.out w hB) | skip
                   go_simp; try exact rfl
                 go_simp; refine hK _ _ ?_; clear hK K)
              | (refine Grow.step_off (by rfl) ?_
                 go_simp; refine hK _ _ ?_; clear hK K))
            refine Grow.Wk.step (fun K hK => ?_); refine Grow.step_rel (by rfl) (by rfl) (fun w' hB hF => ?_) (fun v hv => ?_)
            · go_simp; refine Grow.relUpon_enter ((HTX.out w' hB).mono ?_); rintro e w'' ⟨rfl, hw''⟩; exact ⟨_, rfl, hw'', rfl, trivial⟩
            obtain rfl : v = _ := hv; go_simp; refine hK _ _ ?_; clear hK K; repeat
             (refine Grow.Wk.step (fun K hK => ?_)
              first
              | (refine Grow.step_read (by rfl) (by rfl) (fun w => ext_refl w) ?_
                 apply Exists.intro; refine ⟨fun w hB hF => ?_, ?_⟩
                 · skip
                   go_simp; try exact rfl
                 go_simp; refine hK _ _ ?_; clear hK K)
              | (refine Grow.step_off (by rfl) ?_
                 go_simp; refine hK _ _ ?_; clear hK K))
            refine Grow.Wk.nil ?_; intro wv hB hF; replace hB : Ext wr wv := hB; have HB := Hd hB; clear hB hF; go_wp2_with fail; go_roundw
            case rel => exact ⟨i + 1, XC ++ Tx, by go_num, by omega, rfl, HNEW.out.symm, ext_trans HEr.out HB.out⟩
            case measure => simp [intOf]; omega
        · obtain rfl : i = m.length := by omega
          have hnlt : ¬ ((m.length : Int) < (m.length : Int)) := by omega
          have HX2 : Hid (X = 123 :: outM by' (k + 1) true m) := Hd (by rw [HX.out, List.take_length]); have hXl : X.length ≤ 140000000000000 := Nat.le_trans HXB.out HRL.out; by_cases hz : m.length = 0
          · have HFF : Hid (R = X ++ [125]) := Hd (by rw [HF.out, if_pos hz, HX2.out]; simp); have hcat := cat_toList X [125]; have hs0 : ¬ 9223372036854775807 < X.length + 1 := by omega
            have hzi : ¬ (0 : Int) < m.length := by omega
            clear hz; go_wp2_with fail; go_ret; exact ⟨ret_str HFF.out.symm, ext_trans HE.out HEr.out⟩
          · obtain ⟨G, hG⟩ := Ex (gapP by' k); have HFF : Hid (R = X ++ G ++ [125]) := Hd (by rw [HF.out, if_neg hz, HX2.out, hG]; simp); have h3 := fun w' => HG.out k w' (by omega); rw [hG] at h3; have HGG := Hd h3; have hlen : (X ++ G ++ [125]).length ≤ 140000000000000 := by rw [← HFF.out]; exact HRL.out
            rw [List.length_append, List.length_append] at hlen; have hcat := cat_toList X G; have hcat2 := cat_toList (X ++ G) [125]; have hs0 : ¬ 9223372036854775807 < X.length + G.length := by omega
            have hs1 : ¬ 9223372036854775807 < (X ++ G).length + 1 := by rw [List.length_append]; omega
            have hzi : (0 : Int) < m.length := by omega
            clear hz h3 hG; go_wp2_with fail; refine (HGG.out wr).mono ?_; rintro e w5 ⟨rfl, hx5⟩; generalize X ++ G = XG at *; go_wp2_with fail; go_ret; exact ⟨ret_str HFF.out.symm, ext_trans HE.out (ext_trans HEr.out hx5)⟩
     · have hCL1 : CL = [58, 32] := by rw [← hCL]; unfold blankP; rw [if_neg hbz]
       have hge : (0 : Int) ≤ by' := by omega
       subst hCL1; have HCL := Hd hCL; clear hCL; go_wp2_with fail; clear c0 c1 c2 c3 c4 c5 c6 c7; go_loopw [10, 11] (fun sv iv wr => ∃ (i : Nat) (X : List UInt8), iv = .int .i64 i ∧ i ≤ m.length ∧ sv = .string ⟨X.toArray⟩ ∧ X = 123 :: outM by' (k + 1) true (m.take i) ∧ Ext wA wr) (fun _ iv _ => 2000000 - (intOf iv).toNat)
       case atStart => exact ⟨0, [123], rfl, by omega, rfl, by rw [List.take_zero, outM], ext_refl _⟩
       case round =>
        obtain ⟨i, X, rfl, hi, rfl, hX, hEr⟩ := hrel; have HX := Hd hX; have HXB : Hid (X.length ≤ R.length) := Hd (by rw [hX]; exact HPRE.out i); have HEr := Hd hEr; clear hX hEr; have c7 := (HC.out.ext HEr.out).cell 7; simp at c7; by_cases hlt : i < m.length
        · have hlti : (i : Int) < m.length := by omega
          have hi0 : (0 : Int) ≤ i := by omega
          obtain ⟨g, o, xk, xb, xd, xs, xa1, xn1, xc1, xa2, xn2, xc2, rfl, htx, hcell⟩ := mem_elem HRM.out HTM.out rfl i hlt; have HCELL0 := Hd (fun w' (hw : Ext wr w') => hcell w' (fun g _ hg => (ext_trans HEr.out hw).block g hg)); obtain ⟨hs1, hs2, hs3⟩ := HPM.out i hlt; have hkl : m[i].1.length ≤ 1000000 := by omega
          have HTX : Hid (∀ w', Ext wr w' → Calls Tryz.prog 78 #[.agg (cellsV xk xb xd xs (.slice xa1 xn1 xc1) (.slice xa2 xn2 xc2)), .int .i64 by', .int .i64 ((k + 1 : Nat) : Int)] w' (fun e w'' => e = .returned (.string ⟨(outT by' (k + 1) m[i].2).toArray⟩) ∧ Ext w' w'')) := Hd (fun w' hw =>
           IH.out m[i].2 (k + 1) (fun _ => True) _ w' hs1 (by omega) hs3 (htx.keep (ext_trans HEr.out hw).size (fun g _ hlt => ⟨trivial, (ext_trans HEr.out hw).block g hlt⟩)))
          have HST := Hd (outM_step by' (k + 1) m i hlt); have HNX := Hd (HPRE.out (i + 1)); obtain ⟨G, hG⟩ := Ex (gapP by' (k + 1)); obtain ⟨Tx, hTx⟩ := Ex (outT by' (k + 1) m[i].2); have h1 := HTX.out; have h2 := HST.out; have h3 := fun w' => HG.out (k + 1) w' (by omega); have h4 := HCELL0.out; rw [hTx] at h1 h2; rw [hG] at h2 h3; obtain ⟨ky, hky⟩ := Ex (m[i].1); rw [hky] at h2 h4 hkl; have HCELL := Hd h4
          replace HTX := Hd h1; have HGG := Hd h3; have HQU : Hid (∀ w', Calls Tryz.prog 68 #[.string ⟨ky.toArray⟩] w' fun e w'' => e = .returned (.string ⟨(quote ky).toArray⟩) ∧ Ext w' w'') := Hd (fun w' => refquote_any ⟨ky.toArray⟩ w' (by simp [ByteArray.size]; omega)); obtain ⟨Q, hQ⟩ := Ex (quote ky); have h5 := HQU.out; rw [hQ] at h5 h2; replace HQU := Hd h5; obtain ⟨CC, hCC⟩ := Ex (58 :: blankP by')
          have hCC2 := HCL.out.symm.trans hCC; obtain ⟨X1, hX1⟩ : ∃ X1, X ++ (if i = 0 then [] else [44]) = X1 := ⟨_, rfl⟩
          have HNEW : Hid (123 :: outM by' (k + 1) true (m.take (i + 1)) = X1 ++ G ++ Q ++ CC ++ Tx) := Hd (by rw [h2, ← hX1, ← hCC, HX.out]; simp); have hlen : (X1 ++ G ++ Q ++ CC ++ Tx).length ≤ 140000000000000 := by rw [← HNEW.out]; exact Nat.le_trans HNX.out HRL.out
          have hcat1 := cat_toList X1 G; have hcat2 := cat_toList (X1 ++ G) Q; have hcat3 := cat_toList (X1 ++ G ++ Q) CC; have hcat4 := cat_toList (X1 ++ G ++ Q ++ CC) Tx; simp only [List.length_append] at hlen; have hs1 : ¬ 9223372036854775807 < X1.length + G.length := by omega
          have hs2 : ¬ 9223372036854775807 < (X1 ++ G).length + Q.length := by simp only [List.length_append]; omega
          have hs3 : ¬ 9223372036854775807 < (X1 ++ G ++ Q).length + CC.length := by simp only [List.length_append]; omega
          have hs4 : ¬ 9223372036854775807 < (X1 ++ G ++ Q ++ CC).length + Tx.length := by simp only [List.length_append]; omega
          have e9 : IntKind.i64.wrap ((i : Int) + 1) = ((i + 1 : Nat) : Int) := by rw [IntWalk.i64_in _ (by omega)]; omega
          have hXl : X.length ≤ 140000000000000 := Nat.le_trans HXB.out HRL.out; clear h1 h2 h3 h4 h5 hG hTx htx hcell hlen HCELL0 hky hQ hCC HG; subst hCC2; by_cases hz : i = 0
          · have hX1' : X1 = X := by rw [← hX1, if_pos hz]; simp
            have hzi : ¬ (0 : Int) < i := by omega
            subst hX1'; clear hX1 hz; go_upto_region 32 with fail; clear c7; generalize hXG : X1 ++ G = XG at *; generalize hXQ : XG ++ Q = XQ at *; generalize hXC : XQ ++ [58, 32] = XC at *; simp only [List.length_cons, List.length_nil, Nat.zero_add, Nat.reduceAdd] at hs3
            refine Grow.wp_region_litW (G := Ext) (B := fun w' => Ext wr w') (anc := fun _ => []) (I := fun j => if j = 4 then some (Grow.Spec.val Ext (.string ⟨G.toArray⟩)) else if j = 12 then some (Grow.Spec.val Ext (.string ⟨Q.toArray⟩)) else if j = 25 then some (Grow.Spec.val Ext (.string ⟨Tx.toArray⟩)) else none) (by kernel_rfl) (by kernel_rfl) (by kernel_rfl) ?_ ?_ ?_
            · exact fun w w' h hg => ext_trans h hg
            · exact (ext_refl _).drew
            repeat
             (refine Grow.Wk.step (fun K hK => ?_)
              first
              | (refine Grow.step_read (by rfl) (by rfl) (fun w => ext_refl w) ?_
                 apply Exists.intro; refine ⟨fun w hB hF => ?_, ?_⟩
                 · first | (replace hB : Ext _ w := hB; have c7 := (HC.out.ext (ext_trans HEr.out hB)).cell 7; simp at c7; obtain ⟨x0, x1, x2, x3, x4, x5, x6, x7, x8⟩ := HCELL.out w hB) | skip
                   go_simp; try exact rfl
                 go_simp; refine hK _ _ ?_; clear hK K)
              | (refine Grow.step_off (by rfl) ?_
                 go_simp; refine hK _ _ ?_; clear hK K))
            refine Grow.Wk.step (fun K hK => ?_); refine Grow.step_rel (by rfl) (by rfl) (fun w' hB hF => ?_) (fun v hv => ?_)
            · go_simp; refine Grow.relUpon_enter ((HGG.out w').mono ?_); rintro e w'' ⟨rfl, hw''⟩; exact ⟨_, rfl, hw'', rfl, trivial⟩
            obtain rfl : v = _ := hv; go_simp; refine hK _ _ ?_; clear hK K; repeat
             (refine Grow.Wk.step (fun K hK => ?_)
              first
              | (refine Grow.step_read (by rfl) (by rfl) (fun w => ext_refl w) ?_
                 apply Exists.intro; refine ⟨fun w hB hF => ?_, ?_⟩
                 · first | (replace hB : Ext _ w := hB; have c7 := (HC.out.ext (ext_trans HEr.out hB)).cell 7; simp at c7; obtain ⟨x0, x1, x2, x3, x4, x5, x6, x7, x8⟩ := HCELL.out w hB) | skip
                   go_simp; try exact rfl
                 go_simp; refine hK _ _ ?_; clear hK K)
              | (refine Grow.step_off (by rfl) ?_
                 go_simp; refine hK _ _ ?_; clear hK K))
            refine Grow.Wk.step (fun K hK => ?_); refine Grow.step_rel (by rfl) (by rfl) (fun w' hB hF => ?_) (fun v hv => ?_)
            · go_simp; refine Grow.relUpon_enter ((HQU.out w').mono ?_); rintro e w'' ⟨rfl, hw''⟩; exact ⟨_, rfl, hw'', rfl, trivial⟩
            obtain rfl : v = _ := hv; go_simp; refine hK _ _ ?_; clear hK K; repeat
             (refine Grow.Wk.step (fun K hK => ?_)
              first
              | (refine Grow.step_read (by rfl) (by rfl) (fun w => ext_refl w) ?_
                 apply Exists.intro; refine ⟨fun w hB hF => ?_, ?_⟩
                 · first | (replace hB : Ext _ w := hB; have c7 := (HC.out.ext (ext_trans HEr.out hB)).cell 7; simp at c7; obtain ⟨x0, x1, x2, x3, x4, x5, x6, x7, x8⟩ := HCELL.out w hB) | skip
                   go_simp; try exact rfl
                 go_simp; refine hK _ _ ?_; clear hK K)
              | (refine Grow.step_off (by rfl) ?_
                 go_simp; refine hK _ _ ?_; clear hK K))
            refine Grow.Wk.step (fun K hK => ?_); refine Grow.step_rel (by rfl) (by rfl) (fun w' hB hF => ?_) (fun v hv => ?_)
            · go_simp; refine Grow.relUpon_enter ((HTX.out w' hB).mono ?_); rintro e w'' ⟨rfl, hw''⟩; exact ⟨_, rfl, hw'', rfl, trivial⟩
            obtain rfl : v = _ := hv; go_simp; refine hK _ _ ?_; clear hK K; repeat
             (refine Grow.Wk.step (fun K hK => ?_)
              first
              | (refine Grow.step_read (by rfl) (by rfl) (fun w => ext_refl w) ?_
                 apply Exists.intro; refine ⟨fun w hB hF => ?_, ?_⟩
                 · skip
                   go_simp; try exact rfl
                 go_simp; refine hK _ _ ?_; clear hK K)
              | (refine Grow.step_off (by rfl) ?_
                 go_simp; refine hK _ _ ?_; clear hK K))
            refine Grow.Wk.nil ?_; intro wv hB hF; replace hB : Ext wr wv := hB; have HB := Hd hB; clear hB hF; go_wp2_with fail; go_roundw
            case rel => exact ⟨i + 1, XC ++ Tx, by go_num, by omega, rfl, HNEW.out.symm, ext_trans HEr.out HB.out⟩
            case measure => simp [intOf]; omega
          · have hcat0 := cat_toList X [44]; have hX1' : X ++ [44] = X1 := by rw [← hX1, if_neg hz]
            rw [hX1'] at hcat0; have hs0 : ¬ 9223372036854775807 < X.length + 1 := by omega
            have hzi : (0 : Int) < i := by omega
            clear hX1 hz hX1'; go_upto_region 32 with fail; clear c7; generalize hXG : X1 ++ G = XG at *; generalize hXQ : XG ++ Q = XQ at *; generalize hXC : XQ ++ [58, 32] = XC at *; simp only [List.length_cons, List.length_nil, Nat.zero_add, Nat.reduceAdd] at hs3
            refine Grow.wp_region_litW (G := Ext) (B := fun w' => Ext wr w') (anc := fun _ => []) (I := fun j => if j = 4 then some (Grow.Spec.val Ext (.string ⟨G.toArray⟩)) else if j = 12 then some (Grow.Spec.val Ext (.string ⟨Q.toArray⟩)) else if j = 25 then some (Grow.Spec.val Ext (.string ⟨Tx.toArray⟩)) else none) (by kernel_rfl) (by kernel_rfl) (by kernel_rfl) ?_ ?_ ?_
            · exact fun w w' h hg => ext_trans h hg
            · exact (ext_refl _).drew
            repeat
             (refine Grow.Wk.step (fun K hK => ?_)
              first
              | (refine Grow.step_read (by rfl) (by rfl) (fun w => ext_refl w) ?_
                 apply Exists.intro; refine ⟨fun w hB hF => ?_, ?_⟩
                 · first | (replace hB : Ext _ w := hB; have c7 := (HC.out.ext (ext_trans HEr.out hB)).cell 7; simp at c7; obtain ⟨x0, x1, x2, x3, x4, x5, x6, x7, x8⟩ := HCELL.out w hB) | skip
                   go_simp; try exact rfl
                 go_simp; refine hK _ _ ?_; clear hK K)
              | (refine Grow.step_off (by rfl) ?_
                 go_simp; refine hK _ _ ?_; clear hK K))
            refine Grow.Wk.step (fun K hK => ?_); refine Grow.step_rel (by rfl) (by rfl) (fun w' hB hF => ?_) (fun v hv => ?_)
            · go_simp; refine Grow.relUpon_enter ((HGG.out w').mono ?_); rintro e w'' ⟨rfl, hw''⟩; exact ⟨_, rfl, hw'', rfl, trivial⟩
            obtain rfl : v = _ := hv; go_simp; refine hK _ _ ?_; clear hK K; repeat
             (refine Grow.Wk.step (fun K hK => ?_)
              first
              | (refine Grow.step_read (by rfl) (by rfl) (fun w => ext_refl w) ?_
                 apply Exists.intro; refine ⟨fun w hB hF => ?_, ?_⟩
                 · first | (replace hB : Ext _ w := hB; have c7 := (HC.out.ext (ext_trans HEr.out hB)).cell 7; simp at c7; obtain ⟨x0, x1, x2, x3, x4, x5, x6, x7, x8⟩ := HCELL.out w hB) | skip
                   go_simp; try exact rfl
                 go_simp; refine hK _ _ ?_; clear hK K)
              | (refine Grow.step_off (by rfl) ?_
                 go_simp; refine hK _ _ ?_; clear hK K))
            refine Grow.Wk.step (fun K hK => ?_); refine Grow.step_rel (by rfl) (by rfl) (fun w' hB hF => ?_) (fun v hv => ?_)
            · go_simp; refine Grow.relUpon_enter ((HQU.out w').mono ?_); rintro e w'' ⟨rfl, hw''⟩; exact ⟨_, rfl, hw'', rfl, trivial⟩
            obtain rfl : v = _ := hv; go_simp; refine hK _ _ ?_; clear hK K; repeat
             (refine Grow.Wk.step (fun K hK => ?_)
              first
              | (refine Grow.step_read (by rfl) (by rfl) (fun w => ext_refl w) ?_
                 apply Exists.intro; refine ⟨fun w hB hF => ?_, ?_⟩
                 · first | (replace hB : Ext _ w := hB; have c7 := (HC.out.ext (ext_trans HEr.out hB)).cell 7; simp at c7; obtain ⟨x0, x1, x2, x3, x4, x5, x6, x7, x8⟩ := HCELL.out w hB) | skip
                   go_simp; try exact rfl
                 go_simp; refine hK _ _ ?_; clear hK K)
              | (refine Grow.step_off (by rfl) ?_
                 go_simp; refine hK _ _ ?_; clear hK K))
            refine Grow.Wk.step (fun K hK => ?_); refine Grow.step_rel (by rfl) (by rfl) (fun w' hB hF => ?_) (fun v hv => ?_)
            · go_simp; refine Grow.relUpon_enter ((HTX.out w' hB).mono ?_); rintro e w'' ⟨rfl, hw''⟩; exact ⟨_, rfl, hw'', rfl, trivial⟩
            obtain rfl : v = _ := hv; go_simp; refine hK _ _ ?_; clear hK K; repeat
             (refine Grow.Wk.step (fun K hK => ?_)
              first
              | (refine Grow.step_read (by rfl) (by rfl) (fun w => ext_refl w) ?_
                 apply Exists.intro; refine ⟨fun w hB hF => ?_, ?_⟩
                 · skip
                   go_simp; try exact rfl
                 go_simp; refine hK _ _ ?_; clear hK K)
              | (refine Grow.step_off (by rfl) ?_
                 go_simp; refine hK _ _ ?_; clear hK K))
            refine Grow.Wk.nil ?_; intro wv hB hF; replace hB : Ext wr wv := hB; have HB := Hd hB; clear hB hF; go_wp2_with fail; go_roundw
            case rel => exact ⟨i + 1, XC ++ Tx, by go_num, by omega, rfl, HNEW.out.symm, ext_trans HEr.out HB.out⟩
            case measure => simp [intOf]; omega
        · obtain rfl : i = m.length := by omega
          have hnlt : ¬ ((m.length : Int) < (m.length : Int)) := by omega
          have HX2 : Hid (X = 123 :: outM by' (k + 1) true m) := Hd (by rw [HX.out, List.take_length]); have hXl : X.length ≤ 140000000000000 := Nat.le_trans HXB.out HRL.out; by_cases hz : m.length = 0
          · have HFF : Hid (R = X ++ [125]) := Hd (by rw [HF.out, if_pos hz, HX2.out]; simp); have hcat := cat_toList X [125]; have hs0 : ¬ 9223372036854775807 < X.length + 1 := by omega
            have hzi : ¬ (0 : Int) < m.length := by omega
            clear hz; go_wp2_with fail; go_ret; exact ⟨ret_str HFF.out.symm, ext_trans HE.out HEr.out⟩
          · obtain ⟨G, hG⟩ := Ex (gapP by' k); have HFF : Hid (R = X ++ G ++ [125]) := Hd (by rw [HF.out, if_neg hz, HX2.out, hG]; simp); have h3 := fun w' => HG.out k w' (by omega); rw [hG] at h3; have HGG := Hd h3; have hlen : (X ++ G ++ [125]).length ≤ 140000000000000 := by rw [← HFF.out]; exact HRL.out
            rw [List.length_append, List.length_append] at hlen; have hcat := cat_toList X G; have hcat2 := cat_toList (X ++ G) [125]; have hs0 : ¬ 9223372036854775807 < X.length + G.length := by omega
            have hs1 : ¬ 9223372036854775807 < (X ++ G).length + 1 := by rw [List.length_append]; omega
            have hzi : (0 : Int) < m.length := by omega
            clear hz h3 hG; go_wp2_with fail; refine (HGG.out wr).mono ?_; rintro e w5 ⟨rfl, hx5⟩; generalize X ++ G = XG at *; go_wp2_with fail; go_ret; exact ⟨ret_str HFF.out.symm, ext_trans HE.out (ext_trans HEr.out hx5)⟩
theorem text5_any (t : Tree) (by' : Int) (k : Nat) (A : Nat → Prop) (c : Array Value) (w : World) (h0 : -1 ≤ by') (h1 : by' ≤ 16) (hk : k + weightT t ≤ 1000000) (hs : SaneP t) (ht : TV w A t c) :
 Calls Tryz.prog 78 #[.agg c, .int .i64 by', .int .i64 k] w (fun e w' => e = .returned (.string ⟨(outT by' k t).toArray⟩) ∧ Ext w w') := by
 have h : ∀ N : Nat, ∀ (t : Tree) (k : Nat) (A : Nat → Prop) (c : Array Value) (w : World), SizeOf.sizeOf t < N → k + weightT t ≤ 1000000 → SaneP t → TV w A t c →
  Calls Tryz.prog 78 #[.agg c, .int .i64 by', .int .i64 k] w (fun e w' => e = .returned (.string ⟨(outT by' k t).toArray⟩) ∧ Ext w w') := by
  intro N; induction N with
  | zero => intro t k A c w h; omega
  | succ N ih => exact text_step N by' h0 h1 ih
 exact h _ t k A c w (Nat.lt_succ_self _) hk hs ht
end Go.Proofs.YtjapbjmeoaagmaaGreatDoor
end
