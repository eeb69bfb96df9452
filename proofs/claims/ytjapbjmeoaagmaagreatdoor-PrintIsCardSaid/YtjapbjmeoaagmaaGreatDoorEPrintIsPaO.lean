/- A text of this proof. -/
import Derived.Test.YtjapbjmeoaagmaaGreatDoorEPrintIsPaN
import Derived.Test.YtjapbjmeoaagmaaGreatDoorEPrintIsSh
import Derived.Test.YtjapbjmeoaagmaaGreatDoorEPrintIsSi
set_option linter.unusedVariables false
set_option linter.unusedSimpArgs false
set_option maxRecDepth 100000
namespace Go.Proofs.YtjapbjmeoaagmaaGreatDoor
open Go.RowKit Go.Mem Orange
def specB (ys : List UInt8) : Grow.Spec Ext := ⟨fun v => ∃ a c, v = .slice a ys.length c, fun v w => Bytes w v ys, ⟨.slice none ys.length 0, none, 0, rfl⟩, fun v w w' h hg => h.ext hg⟩
theorem begins_dec {xs ys : List UInt8} : (decide (ys.length ≤ xs.length) && xs.take ys.length == ys) = decide (xs.take ys.length = ys) := by
 by_cases h : xs.take ys.length = ys
 · have hl : ys.length ≤ xs.length := by
    have := congrArg List.length h; rw [List.length_take] at this; omega
   simp [h, hl]
 · simp [h]
set_option maxHeartbeats 6400000 in
theorem word_any (p : Nat) (v : Value) (xs ys : List UInt8) (k : Int) (bb : Bool) (a n : Nat) (w : World) (h : PS w p v xs a n) (hlt : a < xs.length) (hy : 0 < ys.length) (hy9 : ys.length ≤ 9) :
 Calls Tryz.prog 122 #[.pointer (some ⟨p, 0, none⟩), .string ⟨ys.toArray⟩, .agg (cellsV k bb Num.zero [] noL noL)] w fun e w' =>
  ((xs.drop a).take ys.length = ys ∧ e = .returned (.agg (cellsV k bb Num.zero [] noL noL)) ∧ PS w' p v xs (a + ys.length) n ∧ KeptP p w w') ∨
  ((xs.drop a).take ys.length ≠ ys ∧ e = .panicked (wrongV 2 a) ∧ KeptP p w w') := by
 have hx := h.2.1.len; rcases h.2.1.split with ⟨rfl, a0, cap, rfl, hcap⟩ | ⟨h0, b, o, cap, rfl, hn, hm, hbp, hat⟩
 · simp at hlt
 have HP := Hd h; have HAT := Hd hat; have HP0 := Hd h.1.cells.2.2.2.2.2.2; have HPS := Hd h; have hv0 := VAt.new w (cellsV k bb Num.zero [] noL noL); have hE0 : Ext w (w.alloc (.cells (cellsV k bb Num.zero [] noL noL) 27)) := (ext_refl w).alloc (Nat.le_refl _) _; have hr := VAt.new (w.alloc (.cells (cellsV k bb Num.zero [] noL noL) 27)) (cellsV 0 false Num.zero [] noL noL)
 have hEr : Ext w ((w.alloc (.cells (cellsV k bb Num.zero [] noL noL) 27)).alloc (.cells (cellsV 0 false Num.zero [] noL noL) 27)) := ext_trans hE0 ((ext_refl _).alloc (Nat.le_refl _) _); replace hv0 := hv0.ext ((ext_refl _).alloc (Nat.le_refl _) (.cells (cellsV 0 false Num.zero [] noL noL) 27))
 have hsz0 : (w.alloc (.cells (cellsV k bb Num.zero [] noL noL) 27)).heap.size = w.heap.size + 1 := by simp
 simp only [cellsV, Num.zero] at hr hEr hv0 hsz0 ⊢; have hck : ¬ cap = a := by omega
 have hc2 : (cap : Int) - a ≠ 0 := by omega
 have hal : a ≤ xs.length := by omega
 have hai : (a : Int) < xs.length := by omega
 clear h hat hE0; go_enter Tryz.func122, Tryz.ntmps122
 go_upto_region 1 with fail; generalize hg : (w.alloc (.cells #[.int .i64 k, .bool bb, .bool false, .string ⟨#[]⟩, .int .i64 0, .string ⟨#[]⟩, .slice none 0 0, .slice none 0 0] 27)).alloc (.cells #[.int .i64 0, .bool false, .bool false, .string ⟨#[]⟩, .int .i64 0, .string ⟨#[]⟩, .slice none 0 0, .slice none 0 0] 27) = w1 at *; rw [hsz0] at hr; have HR := Hd hr; have HV := Hd hv0
 clear hg hr hv0 hsz0; replace HP := Hd (HP.out.ext hEr); replace HAT := Hd (HAT.out.ext hEr); have HSL : Hid (∀ w', Ext w1 w' → Bytes w' (.slice (some ⟨b, o + a, none⟩) (xs.length - a) (cap - a)) (xs.drop a)) := Hd (fun w' hw => Bytes.mk ((HAT.out.ext hw).drop a) (by simp) (by omega) (by omega) (by omega))
 refine Grow.wp_region_tailW (G := Ext) (B := fun w' => Ext w1 w') (anc := fun j => if j = 11 then [10] else []) (I := fun j => if j = 10 then some (specB ys) else if j = 11 then some (Grow.Spec.val Ext (.bool (decide ((xs.drop a).take ys.length = ys)))) else none) 16 (by kernel_rfl) (by kernel_rfl) (by kernel_rfl) ?_ ?_ ?_
 · exact fun w w' h hg => ext_trans h hg
 · exact (ext_refl _).drew
 simp only [List.take_succ_cons, List.take_zero, List.drop_succ_cons, List.drop_zero]; repeat
  (refine Grow.Wk.step (fun K hK => ?_)
   first
   | (refine Grow.step_read (by rfl) (by rfl) ext_refl ?_
      apply Exists.intro; refine ⟨fun w hB hF => ?_, ?_⟩
      · obtain ⟨c0, c1, c2, f0, f1, f2, hpl⟩ := (HP.out.ext hB).1.cells; go_simp; try exact rfl
      go_simp; refine hK _ _ ?_; clear hK K)
   | (refine Grow.step_off (by rfl) ?_
      go_simp; refine hK _ _ ?_; clear hK K))
 refine Grow.Wk.step (fun K hK => ?_); refine Grow.step_rel (by rfl) (by rfl) (fun w' hB hF => ?_) (fun v hv => ?_)
 · have hrs := run_bytes_of_string (P := Tryz.prog) w' 9 56 5 ⟨ys.toArray⟩ Tryz.underlying9 Tryz.underlying56 Tryz.underlying5; have hge := grownCap_ge w' ys.length 0 5; have hm2 := grownCap_le_maxLen w' ys.length 0 5 (by simp only [maxLen]; omega); simp only [maxLen] at hm2; go_simp
   exact Grow.relUpon_value (((ext_refl w').alloc (Nat.le_refl _) _).drew) ⟨_, _, rfl⟩ (Bytes.mk (BytesAt.ext (bytes_of_string_at w' ⟨ys.toArray⟩ _ _ _ hge) (ext_refl _).drew) rfl hge hm2 (by omega))
 obtain ⟨a', c', rfl⟩ := hv; go_simp; refine hK _ _ ?_; clear hK K; refine Grow.Wk.step (fun K hK => ?_); refine Grow.step_rel (by rfl) (by rfl) (fun w' hB hF => ?_) (fun v hv => ?_)
 · have hb2 : Bytes w' (.slice a' ys.length c') ys := hF 10 (by simp); go_simp; refine Grow.relUpon_enter ((hasPre_any _ _ (xs.drop a) ys w' (HSL.out w' hB) hb2 hy).mono ?_); rintro e w'' ⟨rfl, rfl⟩; exact ⟨_, rfl, ext_refl _, by rw [begins_dec]; rfl, trivial⟩
 obtain rfl : v = _ := hv; go_simp; refine hK _ _ ?_; clear hK K; repeat
  (refine Grow.Wk.step (fun K hK => ?_)
   first
   | (refine Grow.step_read (by rfl) (by rfl) ext_refl ?_
      apply Exists.intro; refine ⟨fun w hB hF => ?_, ?_⟩
      · obtain ⟨c0, c1, c2, f0, f1, f2, hpl⟩ := (HP.out.ext hB).1.cells; go_simp; try exact rfl
      go_simp; refine hK _ _ ?_; clear hK K)
   | (refine Grow.step_off (by rfl) ?_
      go_simp; refine hK _ _ ?_; clear hK K))
 refine Grow.Wk.nil ?_; intro w2 hB hF; clear hF; have hE := ext_trans hEr hB; replace HP := Hd (HP.out.ext hB); replace HR := Hd (HR.out.ext hB); replace HV := Hd (HV.out.ext hB); clear hB hEr HSL HAT; obtain ⟨c0, c1, c2, f0, f1, f2, hpl⟩ := HP.out.1.cells; have hp0 := HP0.out; have hrp : w.heap.size + 1 ≠ p := by omega
 have hvp : w.heap.size ≠ p := by omega
 clear hp0; by_cases hm : (xs.drop a).take ys.length = ys
 · have hay : a + ys.length ≤ xs.length := by
    have := congrArg List.length hm; rw [List.length_take, List.length_drop] at this; omega
   have HM := Hd hm; have HPE := Hd (HP.out.setAt (a + ys.length) hay); have HRE := Hd (HR.out.kept (KeptP.set (o := 1) (.int .i64 (a + ys.length : Nat))) hrp); have hdm : decide ((xs.drop a).take ys.length = ys) = true := by simp [hm]
   rw [hdm]; clear hm hdm; have r0 := HR.out.cell 0; have r1 := HR.out.cell 1; have r2 := HR.out.cell 2; have r3 := HR.out.cell 3; have r4 := HR.out.cell 4; have r5 := HR.out.cell 5; have r6 := HR.out.cell 6; have r7 := HR.out.cell 7; obtain ⟨s0, s1, s2, s3, s4, s5, s6, s7⟩ := HR.out.f8; simp at r0 r1 r2 r3 r4 r5 r6 r7; obtain ⟨q0, q1, q2, q3, q4, q5, q6, q7⟩ := HV.out.c8
   have e1 : IntKind.i64.wrap ((a : Int) + ys.length) = ((a + ys.length : Nat) : Int) := by rw [IntWalk.i64_in _ (by omega)]; omega
   go_wp2_with fail; refine (need_ok 2 a _).mono ?_; rintro e w9 ⟨rfl, rfl⟩; go_wp2_with fail; (try simp only [Exit.inBlock, Exit.then])
   have hV := VAt.store8 HRE.out (.int .i64 k) (.bool bb) (.bool false) (.string ⟨#[]⟩) (.int .i64 0) (.string ⟨#[]⟩) noL noL; refine bodyPost_ret (results_cell_row rfl _ _ _ _ _ (0, 0) _ rfl hV Tryz.underlying27 rfl (by kernel_rfl)) rfl ?_
   have hend := PS.fresh HPS.out HPE.out ((KeptP.ofExt hE).trans (KeptP.set (o := 1) (.int .i64 (a + ys.length : Nat)))) (below_store8 (Below.refl _ _) (Nat.le_succ _) (.int .i64 k) (.bool bb) (.bool false) (.string ⟨#[]⟩) (.int .i64 0) (.string ⟨#[]⟩) noL noL); exact Or.inl ⟨HM.out, rfl, hend.1, hend.2⟩
 · have hdm : decide ((xs.drop a).take ys.length = ys) = false := by simp [hm]
   rw [hdm]; have HM := Hd hm; clear hm hdm; go_wp2_with fail; refine (need_no 2 a _).mono ?_; rintro e w9 ⟨rfl, rfl⟩; go_wp2_with fail; exact ⟨rfl, Or.inr ⟨HM.out, rfl, KeptP.ofExt hE⟩⟩
end Go.Proofs.YtjapbjmeoaagmaaGreatDoor
