/- A text of this proof. -/
import Derived.Test.YtjapbjmeoaagmaaGreatDoorEPrintIsPaM
import Derived.Test.YtjapbjmeoaagmaaGreatDoorEPrintIsGst
import Derived.Test.YtjapbjmeoaagmaaGreatDoorEPrintIsSh
set_option linter.unusedVariables false
set_option linter.unusedSimpArgs false
set_option maxRecDepth 100000
namespace Go.Proofs.YtjapbjmeoaagmaaGreatDoor
open Go.RowKit Go.Mem Orange
abbrev cellsV (k : Int) (b : Bool) (d : Num) (s : List UInt8) (L M : Value) : Array Value := #[.int .i64 k, .bool b, .bool d.neg, .string ⟨d.digits.toArray⟩, .int .i64 d.exp, .string ⟨s.toArray⟩, L, M]
abbrev noL : Value := .slice none 0 0
def VAt (w : World) (q : Nat) (c : Array Value) : Prop := w.heap[q]? = some (.cells c 27 (0, 0))
theorem VAt.new (w : World) (c : Array Value) : VAt (w.alloc (.cells c 27)) w.heap.size c := heap_alloc_new _ _
theorem VAt.lt {w : World} {q : Nat} {c : Array Value} (h : VAt w q c) : q < w.heap.size := (Array.getElem?_eq_some_iff.1 h).1
theorem VAt.ext {w w' : World} {q : Nat} {c : Array Value} (h : VAt w q c) (hb : Ext w w') : VAt w' q c := by
 unfold VAt; rw [hb.block _ h.lt]; exact h
theorem VAt.kept {w w' : World} {p q : Nat} {c : Array Value} (h : VAt w q c) (hb : KeptP p w w') (hq : q ≠ p) : VAt w' q c := by
 unfold VAt; rw [hb.block _ h.lt hq]; exact h
theorem VAt.cell {w : World} {q : Nat} {c : Array Value} (h : VAt w q c) (i : Nat) : w.cell? ⟨q, i, none⟩ = c[i]? := cell_of_cells h
theorem VAt.free {w : World} {q : Nat} {c : Array Value} (h : VAt w q c) (i : Nat) : w.frozen? ⟨q, i, none⟩ = false := free_of_cells h
theorem numEnd_bd (xs : List UInt8) (a : Nat) (h : a ≤ xs.length) : a ≤ numEnd xs a ∧ numEnd xs a ≤ xs.length := by
 have := dropWhile_le isFig (xs.drop a); rw [List.length_drop] at this; unfold numEnd; omega
theorem fig_set (x : UInt8) : ([48, 49, 50, 51, 52, 53, 54, 55, 56, 57, 43, 45, 46, 101, 69] : List UInt8).contains x = isFig x := by
 have h1 := u8f (p := fun n => ([48, 49, 50, 51, 52, 53, 54, 55, 56, 57, 43, 45, 46, 101, 69] : List UInt8).contains (UInt8.ofNat n) == isFig (UInt8.ofNat n)) (by decide +kernel) x; rw [UInt8.ofNat_toNat, beq_iff_eq] at h1; exact h1
def specLen (n : Nat) : Grow.Spec Ext := ⟨fun v => ∃ a c, v = .slice a n c, fun _ _ => True, ⟨_, none, 0, rfl⟩, fun _ _ _ _ _ => trivial⟩
theorem NumAt.kept {w w' : World} {p q : Nat} {d : Num} (h : NumAt w q d) (hb : KeptP p w w') (hq : q ≠ p) : NumAt w' q d := by
 unfold NumAt; rw [hb.block _ (Array.getElem?_eq_some_iff.1 h).1 hq]; exact h
theorem KeptP.trans' {p : Nat} {w w1 w2 : World} (k : KeptP p w w1) (hb : Below w.heap.size w1 w2) : KeptP p w w2 := Kept.trans k (Kept.ofBelow hb)
theorem PS.fresh {p : Nat} {v : Value} {xs : List UInt8} {a a' n n' : Nat} {w w1 w2 : World} (h0 : PS w p v xs a n) (h1 : PS w1 p v xs a' n') (k : KeptP p w w1) (hb : Below w.heap.size w1 w2) : PS w2 p v xs a' n' ∧ KeptP p w w2 := by
 have hk : KeptP p w w2 := k.trans' hb; refine ⟨⟨?_, h0.2.1.kept hk, h1.2.2⟩, hk⟩; have := h0.1.cells.2.2.2.2.2.2; unfold PAt; rw [hb.block _ this]; exact h1.1
theorem VAt.store8 {w : World} {q : Nat} {x0 x1 x2 x3 x4 x5 x6 x7 : Value} (h : VAt w q #[x0, x1, x2, x3, x4, x5, x6, x7]) (a b c d e f g i : Value) : VAt ((((((((w.setCell ⟨q, 0, none⟩ a).setCell ⟨q, 1, none⟩ b).setCell ⟨q, 2, none⟩ c).setCell ⟨q, 3, none⟩ d).setCell ⟨q, 4, none⟩ e).setCell ⟨q, 5, none⟩ f).setCell ⟨q, 6, none⟩ g).setCell ⟨q, 7, none⟩ i) q #[a, b, c, d, e, f, g, i] := by
 unfold VAt at h ⊢; simp [World.setCell, Array.getElem?_modify, h]
theorem below_store8 {B p : Nat} {w w' : World} (h : Below B w w') (hp : B ≤ p) (a b c d e f g i : Value) : Below B w ((((((((w'.setCell ⟨p, 0, none⟩ a).setCell ⟨p, 1, none⟩ b).setCell ⟨p, 2, none⟩ c).setCell ⟨p, 3, none⟩ d).setCell ⟨p, 4, none⟩ e).setCell ⟨p, 5, none⟩ f).setCell ⟨p, 6, none⟩ g).setCell ⟨p, 7, none⟩ i) :=
 (((((((h.setCell hp a).setCell hp b).setCell hp c).setCell hp d).setCell hp e).setCell hp f).setCell hp g).setCell hp i
set_option maxHeartbeats 6400000 in
theorem number_any (p : Nat) (v : Value) (xs : List UInt8) (a n : Nat) (w : World) (h : PS w p v xs a n) (hlt : a < xs.length) :
 Calls Tryz.prog 126 #[.pointer (some ⟨p, 0, none⟩)] w fun e w' =>
  ((decP ((xs.drop a).take (numEnd xs a - a))).2 = 0 ∧ e = .returned (.agg (cellsV 2 false (decP ((xs.drop a).take (numEnd xs a - a))).1 [] noL noL)) ∧ PS w' p v xs (numEnd xs a) n ∧ KeptP p w w') ∨
  ((decP ((xs.drop a).take (numEnd xs a - a))).2 ≠ 0 ∧ e = .panicked (wrongV (decP ((xs.drop a).take (numEnd xs a - a))).2 a) ∧ KeptP p w w') := by
 have hx := h.2.1.len; obtain ⟨hE1, hE2⟩ := numEnd_bd xs a h.2.2; rcases h.2.1.split with ⟨rfl, a0, cap, rfl, hcap⟩ | ⟨h0, b, o, cap, rfl, hn, hm, hbp, hat⟩
 · simp at hlt
 have HP := Hd h; have HAT := Hd hat; have HP0 := Hd h.1.cells.2.2.2.2.2.2; have HPS := Hd h; have hr := VAt.new w (cellsV 0 false Num.zero [] noL noL); have hEr : Ext w (w.alloc (.cells (cellsV 0 false Num.zero [] noL noL) 27)) := (ext_refl w).alloc (Nat.le_refl _) _; simp only [cellsV, Num.zero] at hr hEr; have hck : ¬ cap = a := by omega
 have hal : a ≤ xs.length := by omega
 have hc2 : (cap : Int) - a ≠ 0 := by omega
 have hai : (a : Int) < xs.length := by omega
 clear h hat; go_enter Tryz.func126, Tryz.ntmps126
 go_upto_region 1 with fail; generalize hg : w.alloc (.cells #[.int .i64 0, .bool false, .bool false, .string ⟨#[]⟩, .int .i64 0, .string ⟨#[]⟩, .slice none 0 0, .slice none 0 0] 27) = w1 at *; have HR := Hd hr; have hsz : w1.heap.size = w.heap.size + 1 := by rw [← hg]; simp
 clear hg hr; replace HP := Hd (HP.out.ext hEr); replace HAT := Hd (HAT.out.ext hEr); have HSL : Hid (∀ w', Ext w1 w' → Bytes w' (.slice (some ⟨b, o + a, none⟩) (xs.length - a) (cap - a)) (xs.drop a)) := Hd (fun w' hw => Bytes.mk ((HAT.out.ext hw).drop a) (by simp) (by omega) (by omega) (by omega))
 refine Grow.wp_region_litW (G := Ext) (B := fun w' => Ext w1 w') (anc := fun _ => []) (I := fun j => if j = 9 then some (specLen ((xs.drop a).dropWhile isFig).length) else none) (by kernel_rfl) (by kernel_rfl) (by kernel_rfl) ?_ ?_ ?_
 · exact fun w w' h hg => ext_trans h hg
 · exact (ext_refl _).drew
 repeat
  (refine Grow.Wk.step (fun K hK => ?_)
   first
   | (refine Grow.step_read (by rfl) (by rfl) ext_refl ?_
      apply Exists.intro; refine ⟨fun w hB hF => ?_, ?_⟩
      · obtain ⟨c0, c1, c2, f0, f1, f2, hpl⟩ := (HP.out.ext hB).1.cells; go_simp; try exact rfl
      go_simp; refine hK _ _ ?_; clear hK K)
   | (refine Grow.step_off (by rfl) ?_
      go_simp; refine hK _ _ ?_; clear hK K))
 refine Grow.Wk.step (fun K hK => ?_); refine Grow.step_rel (by rfl) (by rfl) (fun w' hB hF => ?_) (fun v hv => ?_)
 · go_simp; refine Grow.relUpon_enter ((trimLeft_any _ (xs.drop a) [48, 49, 50, 51, 52, 53, 54, 55, 56, 57, 43, 45, 46, 101, 69] isFig w' (HSL.out w' hB) (by decide) (by decide) (ascii_of_all (by decide)) fig_set).mono ?_); rintro e w'' ⟨⟨a', c', rfl⟩, hw''⟩; exact ⟨_, rfl, hw'', ⟨a', c', rfl⟩, trivial⟩
 obtain ⟨a', c', rfl⟩ := hv; go_simp; refine hK _ _ ?_; clear hK K; repeat
  (refine Grow.Wk.step (fun K hK => ?_)
   first
   | (refine Grow.step_read (by rfl) (by rfl) ext_refl ?_
      apply Exists.intro; refine ⟨fun w hB hF => ?_, ?_⟩
      · skip
        go_simp; try exact rfl
      go_simp; refine hK _ _ ?_; clear hK K)
   | (refine Grow.step_off (by rfl) ?_
      go_simp; refine hK _ _ ?_; clear hK K))
 refine Grow.Wk.nil ?_; intro w2 hB hF; clear hF; have hE := ext_trans hEr hB; replace HP := Hd (HP.out.ext hB); replace HR := Hd (HR.out.ext hB); replace HSL : Hid (∀ w', Ext w2 w' → Bytes w' (.slice (some ⟨b, o + a, none⟩) (xs.length - a) (cap - a)) (xs.drop a)) := Hd (fun w' hw => HSL.out w' (ext_trans hB hw)); have hend : ((xs.drop a).dropWhile isFig).length = xs.length - numEnd xs a := by
  have := dropWhile_le isFig (xs.drop a); rw [List.length_drop] at this; unfold numEnd; omega
 have hto : (xs.length : Int) - ((xs.drop a).dropWhile isFig).length = (numEnd xs a : Int) := by rw [hend]; omega
 obtain ⟨L, hL⟩ := Ex (((xs.drop a).dropWhile isFig).length); rw [hL] at hto ⊢; obtain ⟨tE, hto2⟩ := Ex (numEnd xs a); rw [hto2] at hto hE1 hE2; clear hend hL hB hEr; obtain ⟨c0, c1, c2, f0, f1, f2, hpl⟩ := HP.out.1.cells; go_wp2_with fail; have hsg : ((xs.drop a).take (tE - a)).length = tE - a := by simp; omega
 have HSG : Hid (∀ w', Ext w2 w' → Bytes w' (.slice (some ⟨b, o + a, none⟩) (tE - a) (cap - a)) ((xs.drop a).take (tE - a))) := Hd (fun w' hw => by
  obtain ⟨a8, c8, e8, _, _, _, h8⟩ := HSL.out w' hw; simp only [Value.slice.injEq] at e8; obtain ⟨rfl, _, rfl⟩ := e8; exact Bytes.mk (BytesAt.take h8 _) hsg.symm (by omega) (by omega) (by omega))
 obtain ⟨seg, hseg⟩ := Ex ((xs.drop a).take (tE - a)); rw [hseg] at hsg HSG; obtain ⟨D, hD⟩ := Ex (decP seg); obtain ⟨⟨dn, dl, dx⟩, de⟩ := D; have HD := Hd hD; have HTO := Hd hto2; have HSEG := Hd hseg; have hl7 : seg.length ≤ 140737488355328 := by omega
 clear hD hto2 hseg hsg HSL HAT; have hae : (a : Int) ≤ tE := by omega
 have htx : (tE : Int) ≤ xs.length := by omega
 have htc : tE ≤ cap := by omega
 have htci : (tE : Int) ≤ cap := by omega
 refine Grow.wp_region_slotsW (G := Grow.Gst w2.heap.size (numObj Num.zero) (numObj (⟨dn, dl, dx⟩ : Num))) (B := fun w' => Grow.Gst w2.heap.size (numObj Num.zero) (numObj (⟨dn, dl, dx⟩ : Num)) w2 w') (anc := fun j => if j = 16 then [15] else []) (I := fun j => if j = 15 then some (Grow.specAlloc w2.heap.size (numObj Num.zero) (numObj (⟨dn, dl, dx⟩ : Num))) else if j = 10 then some (Grow.specV _ (.string ⟨seg.toArray⟩)) else if j = 11 then some (Grow.specV _ (.tuple #[.agg #[.bool dn, .string ⟨dl.toArray⟩, .int .i64 dx], .int .i64 de])) else none) (sl := fun j => if j = 16 then some 5 else none) (J := fun _ v => Grow.specStore w2.heap.size (numObj Num.zero) (numObj (⟨dn, dl, dx⟩ : Num)) v) (by kernel_rfl) (by kernel_rfl) (by kernel_rfl) (by kernel_rfl) ?_ ?_ ?_
 · exact fun w w' h hg => h.trans hg
 · exact Grow.Gst.ofExt (ext_refl _).drew (Nat.le_refl _)
 repeat
  (refine Grow.Wk.step (fun K hK => ?_)
   first
   | (refine Grow.step_read (by rfl) (by rfl) Grow.Gst.refl ?_
      apply Exists.intro; refine ⟨fun w hB hF => ?_, ?_⟩
      · obtain ⟨c0, c1, c2, f0, f1, f2, hpl⟩ := (HP.out.ext hB.1).1.cells; go_simp; try exact rfl
      go_simp; refine hK _ _ ?_; clear hK K)
   | (refine Grow.step_off (by rfl) ?_
      go_simp; refine hK _ _ ?_; clear hK K))
 refine Grow.Wk.step (fun K hK => ?_); refine Grow.step_rel (by rfl) (by rfl) (fun w' hB hF => ?_) (fun v hv => ?_)
 · have hrs := run_string_of_bytes w' (HSG.out w' hB.1) 56 9 5 Tryz.underlying56 Tryz.underlying5 Tryz.underlying9; go_simp; exact Grow.relUpon_value (Grow.Gst.refl _) rfl trivial
 obtain rfl : v = _ := hv; go_simp; refine hK _ _ ?_; clear hK K; refine Grow.Wk.step (fun K hK => ?_); refine Grow.step_rel (by rfl) (by rfl) (fun w' hB hF => ?_) (fun v hv => ?_)
 · go_simp; refine Grow.relUpon_enter ((parse_any seg w' hl7).mono ?_); rintro e w'' ⟨rfl, hw''⟩; exact ⟨_, rfl, Grow.Gst.ofExt hw'' hB.1.size, by rw [HD.out]; rfl, trivial⟩
 obtain rfl : v = _ := hv; go_simp; refine hK _ _ ?_; clear hK K; repeat
  (refine Grow.Wk.step (fun K hK => ?_)
   first
   | (refine Grow.step_read (by rfl) (by rfl) Grow.Gst.refl ?_
      apply Exists.intro; refine ⟨fun w hB hF => ?_, ?_⟩
      · skip
        go_simp; try exact rfl
      go_simp; refine hK _ _ ?_; clear hK K)
   | (refine Grow.step_off (by rfl) ?_
      go_simp; refine hK _ _ ?_; clear hK K))
 refine Grow.Wk.step (fun K hK => ?_); refine Grow.step_rel (by rfl) (by rfl) (fun w' hB hF => ?_) (fun v hv => ?_)
 · go_simp; exact Grow.relUpon_value (Grow.Gst.ofExt ((ext_refl w').alloc (Nat.le_refl _) _) hB.1.size) ⟨_, rfl⟩ ⟨_, rfl, hB.1.size, by simp, .inl (heap_alloc_new _ _)⟩
 obtain ⟨pD, rfl⟩ := hv; go_simp; refine hK _ _ ?_; clear hK K; refine Grow.Wk.step (fun K hK => ?_); refine Grow.step_rel (by rfl) (by rfl) (fun w' hB hF => ?_) (fun v hv => ?_)
 · obtain ⟨p', e', hp', hl', hz'⟩ := hF 15 (by simp); obtain rfl : p' = pD := by simp only [Value.pointer.injEq, Option.some.injEq, Addr.mk.injEq, and_true] at e'; exact e'.symm
   obtain ⟨d0, hd0, hd1⟩ : ∃ d0 : Num, NumAt w' p' d0 ∧ (d0 = Num.zero ∨ d0 = ⟨dn, dl, dx⟩) := by
    rcases hz' with h | h
    · exact ⟨_, h, .inl rfl⟩
    · exact ⟨_, h, .inr rfl⟩
   have hst := gst_store hd0 hp' hd1; have hnn := hd0.store ⟨dn, dl, dx⟩; obtain ⟨z0, z1, z2, y0, y1, y2, _⟩ := hd0.cells; simp only at hst hnn; clear hB hF hz'; go_simp; exact ⟨hst, rfl, fun q e => by
    simp only [Value.pointer.injEq, Option.some.injEq, Addr.mk.injEq, and_true] at e; subst e; exact ⟨hp', Nat.lt_of_lt_of_le hl' hst.1.size, hnn⟩⟩
 obtain rfl : v = _ := hv; go_simp; refine hK _ _ ?_; clear hK K; repeat
  (refine Grow.Wk.step (fun K hK => ?_)
   first
   | (refine Grow.step_read (by rfl) (by rfl) Grow.Gst.refl ?_
      apply Exists.intro; refine ⟨fun w hB hF => ?_, ?_⟩
      · skip
        go_simp; try exact rfl
      go_simp; refine hK _ _ ?_; clear hK K)
   | (refine Grow.step_off (by rfl) ?_
      go_simp; refine hK _ _ ?_; clear hK K))
 refine Grow.Wk.nil ?_; intro w3 hB hF; have hD7 : NumAt w3 pD ⟨dn, dl, dx⟩ := (hF 16 pD rfl).2.2; have HDD := Hd hD7; have hE2 := hB.1; have hpD : p ≠ pD := by
  have h1 := (hF 16 pD rfl).1; have h2 := HP.out.1.cells.2.2.2.2.2.2; omega
 have hrD : w.heap.size ≠ pD := by
  have h1 := (hF 16 pD rfl).1; have h2 := HR.out.lt; omega
 have hrp : w.heap.size ≠ p := by
  have h1 := HP0.out; omega
 replace HP := Hd (HP.out.ext hB.1); replace HR := Hd (HR.out.ext hB.1); clear hB hF hD7; replace hE := ext_trans hE hE2; clear hE2; obtain ⟨c0, c1, c2, f0, f1, f2, hpl⟩ := HP.out.1.cells; by_cases hde : de = 0
 · subst hde; have HPE := Hd (HP.out.setAt tE (by omega)); have HRE := Hd (HR.out.kept (KeptP.set (o := 1) (.int .i64 tE)) hrp); have HDE := Hd (NumAt.kept HDD.out (KeptP.set (o := 1) (.int .i64 tE)) hpD.symm); obtain ⟨z0, z1, z2, y0, y1, y2, _⟩ := HDD.out.cells; simp only at z0 z1 z2 y0 y1 y2
   have r0 := HR.out.cell 0; have r1 := HR.out.cell 1; have r2 := HR.out.cell 2; have r3 := HR.out.cell 3; have r4 := HR.out.cell 4; have r5 := HR.out.cell 5; have r6 := HR.out.cell 6; have r7 := HR.out.cell 7
   have s0 := HR.out.free 0; have s1 := HR.out.free 1; have s2 := HR.out.free 2; have s3 := HR.out.free 3; have s4 := HR.out.free 4; have s5 := HR.out.free 5; have s6 := HR.out.free 6; have s7 := HR.out.free 7; simp at r0 r1 r2 r3 r4 r5 r6 r7; go_wp2_with fail; refine (need_ok 0 a _).mono ?_; rintro e w9 ⟨rfl, rfl⟩; go_wp2_with fail; (try simp only [Exit.inBlock, Exit.then])
   have hV := VAt.store8 HRE.out (.int .i64 2) (.bool false) (.bool dn) (.string ⟨dl.toArray⟩) (.int .i64 dx) (.string ⟨#[]⟩) noL noL; refine bodyPost_ret (results_cell_row rfl _ _ _ _ _ (0, 0) _ rfl hV Tryz.underlying27 rfl (by kernel_rfl)) rfl ?_
   have hend := PS.fresh HPS.out HPE.out ((KeptP.ofExt hE).trans (KeptP.set (o := 1) (.int .i64 tE))) (below_store8 (Below.refl _ _) (Nat.le_refl _) (.int .i64 2) (.bool false) (.bool dn) (.string ⟨dl.toArray⟩) (.int .i64 dx) (.string ⟨#[]⟩) noL noL); refine Or.inl ⟨?_, ?_, ?_, hend.2⟩
   · rw [HTO.out, HSEG.out, HD.out]
   · rw [HTO.out, HSEG.out, HD.out]
   · rw [HTO.out]; exact hend.1
 · have hdb : (de == 0) = false := by simpa using hde
   go_wp2_with fail; refine (need_no de a _).mono ?_; rintro e w9 ⟨rfl, rfl⟩; go_wp2_with fail; refine ⟨rfl, Or.inr ⟨?_, ?_, KeptP.ofExt hE⟩⟩
   · rw [HTO.out, HSEG.out, HD.out]; exact hde
   · rw [HTO.out, HSEG.out, HD.out]
end Go.Proofs.YtjapbjmeoaagmaaGreatDoor
