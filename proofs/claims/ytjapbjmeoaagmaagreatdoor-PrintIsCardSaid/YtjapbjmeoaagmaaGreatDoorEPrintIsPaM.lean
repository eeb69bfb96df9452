/- A text of this proof. -/
import Derived.Test.YtjapbjmeoaagmaaGreatDoorEPrintIsPaP
import Derived.Test.YtjapbjmeoaagmaaGreatDoorEPrintIsGrowW
import Derived.WalkLawsBesides
import Derived.OneCell
import Derived.StillTailTactics
import Derived.Test.YtjapbjmeoaagmaaGreatDoorEPrintIsSh
set_option linter.unusedVariables false
set_option linter.unusedSimpArgs false
set_option maxRecDepth 100000
namespace Go.Proofs.YtjapbjmeoaagmaaGreatDoor
open Go.RowKit Go.Mem Orange
abbrev wrongV (e at0 : Int) : List PanicEntry := [{ v := .iface 115 (.agg #[.int .i64 e, .int .i64 at0]), recovered := false }]
theorem need_ok (e at0 : Int) (w : World) : Calls Tryz.prog 121 #[.bool true, .int .i64 e, .int .i64 at0] w fun en w' => en = .returned (.tuple #[]) ∧ w = w' := by
 go_enter Tryz.func121, Tryz.ntmps121
 go_wp2_with fail; go_end0
 exact ⟨rfl, rfl⟩
theorem need_no (e at0 : Int) (w : World) : Calls Tryz.prog 121 #[.bool false, .int .i64 e, .int .i64 at0] w fun en w' => en = .panicked (wrongV e at0) ∧ w = w' := by
 go_enter Tryz.func121, Tryz.ntmps121
 go_wp2_with fail; exact ⟨rfl, rfl, rfl⟩
def PAt (w : World) (p : Nat) (v : Value) (at0 n : Int) : Prop := w.heap[p]? = some (.cells #[v, .int .i64 at0, .int .i64 n] 113 (0, 0))
theorem PAt.cells {w : World} {p : Nat} {v : Value} {a n : Int} (h : PAt w p v a n) : w.cell? ⟨p, 0, none⟩ = some v ∧ w.cell? ⟨p, 1, none⟩ = some (.int .i64 a) ∧ w.cell? ⟨p, 2, none⟩ = some (.int .i64 n) ∧ w.frozen? ⟨p, 0, none⟩ = false ∧ w.frozen? ⟨p, 1, none⟩ = false ∧ w.frozen? ⟨p, 2, none⟩ = false ∧ p < w.heap.size :=
 ⟨by rw [cell_of_cells h]; rfl, by rw [cell_of_cells h]; rfl, by rw [cell_of_cells h]; rfl, free_of_cells h, free_of_cells h, free_of_cells h, (Array.getElem?_eq_some_iff.1 h).1⟩
theorem PAt.ext {w w' : World} {p : Nat} {v : Value} {a n : Int} (h : PAt w p v a n) (hb : Ext w w') : PAt w' p v a n := by
 unfold PAt; rw [hb.block _ (Array.getElem?_eq_some_iff.1 h).1]; exact h
theorem PAt.setAt {w : World} {p : Nat} {v : Value} {a n : Int} (h : PAt w p v a n) (a' : Int) : PAt (w.setCell ⟨p, 1, none⟩ (.int .i64 a')) p v a' n := by
 unfold PAt at h ⊢; simp [World.setCell, Array.getElem?_modify, h]
theorem PAt.setN {w : World} {p : Nat} {v : Value} {a n : Int} (h : PAt w p v a n) (n' : Int) : PAt (w.setCell ⟨p, 2, none⟩ (.int .i64 n')) p v a n' := by
 unfold PAt at h ⊢; simp [World.setCell, Array.getElem?_modify, h]
abbrev KeptP (p : Nat) (w w' : World) : Prop := Kept w.heap.size p w w'
theorem KeptP.refl (p : Nat) (w : World) : KeptP p w w := Kept.refl _ _ _
theorem KeptP.trans {p : Nat} {a b c : World} (h : KeptP p a b) (k : KeptP p b c) : KeptP p a c := Kept.trans h (k.mono h.size)
theorem KeptP.ofExt {p : Nat} {a b : World} (h : Ext a b) : KeptP p a b := Kept.ofBelow h
theorem KeptP.set {p o : Nat} {w : World} (u : Value) : KeptP p w (w.setCell ⟨p, o, none⟩ u) := Kept.setCell u
def BytesN (p : Nat) (w : World) (v : Value) (xs : List UInt8) : Prop := ∃ a cap, v = .slice a xs.length cap ∧ xs.length ≤ cap ∧ cap ≤ 9223372036854775807 ∧ xs.length ≤ 65536 ∧ (0 < xs.length → ∃ b o, a = some ⟨b, o, none⟩ ∧ b ≠ p ∧ b < w.heap.size ∧ BytesAt w a xs)
theorem BytesN.bytes {p : Nat} {w : World} {v : Value} {xs : List UInt8} (h : BytesN p w v xs) : Bytes w v xs := by
 obtain ⟨a, cap, e, h1, h2, h3, h4⟩ := h; exact ⟨a, cap, e, h1, h2, Nat.le_trans h3 (by decide), fun hn => by obtain ⟨_, _, _, _, _, h5⟩ := h4 hn; exact h5 hn⟩
theorem BytesN.kept {p : Nat} {w w' : World} {v : Value} {xs : List UInt8} (h : BytesN p w v xs) (hk : KeptP p w w') : BytesN p w' v xs := by
 obtain ⟨a, cap, e, h1, h2, h3, h4⟩ := h; refine ⟨a, cap, e, h1, h2, h3, fun hn => ?_⟩; obtain ⟨b, o, e, hb, hlt, hat⟩ := h4 hn; subst e; exact ⟨b, o, rfl, hb, Nat.lt_of_lt_of_le hlt hk.size, hat.kept hk hlt hb⟩
theorem BytesN.split {p : Nat} {w : World} {v : Value} {xs : List UInt8} (h : BytesN p w v xs) : (xs = [] ∧ ∃ a cap, v = .slice a 0 cap ∧ cap ≤ 9223372036854775807) ∨ (0 < xs.length ∧ ∃ b o cap, v = .slice (some ⟨b, o, none⟩) xs.length cap ∧ xs.length ≤ cap ∧ cap ≤ 9223372036854775807 ∧ b ≠ p ∧ BytesAt w (some ⟨b, o, none⟩) xs) := by
 obtain ⟨a, cap, e, h1, h2, h3, h4⟩ := h; by_cases h0 : xs.length = 0
 · obtain rfl : xs = [] := List.eq_nil_of_length_eq_zero h0; exact .inl ⟨rfl, a, cap, e, h2⟩
 · have hpos := Nat.pos_of_ne_zero h0; obtain ⟨b, o, rfl, hb, hlt, hat⟩ := h4 hpos; exact .inr ⟨hpos, b, o, cap, e, h1, h2, hb, hat⟩
theorem BytesN.len {p : Nat} {w : World} {v : Value} {xs : List UInt8} (h : BytesN p w v xs) : xs.length ≤ 65536 := by obtain ⟨a, cap, e, h1, h2, h3, h4⟩ := h; exact h3
def PS (w : World) (p : Nat) (v : Value) (xs : List UInt8) (a n : Nat) : Prop := PAt w p v a n ∧ BytesN p w v xs ∧ a ≤ xs.length
theorem PS.ext {w w' : World} {p : Nat} {v : Value} {xs : List UInt8} {a n : Nat} (h : PS w p v xs a n) (hb : Ext w w') : PS w' p v xs a n := ⟨h.1.ext hb, h.2.1.kept (KeptP.ofExt hb), h.2.2⟩
theorem PS.setAt {w : World} {p : Nat} {v : Value} {xs : List UInt8} {a n : Nat} (h : PS w p v xs a n) (a' : Nat) (ha : a' ≤ xs.length) : PS (w.setCell ⟨p, 1, none⟩ (.int .i64 a')) p v xs a' n :=
 ⟨h.1.setAt a', h.2.1.kept (KeptP.set _), ha⟩
theorem PS.setN {w : World} {p : Nat} {v : Value} {xs : List UInt8} {a n : Nat} (h : PS w p v xs a n) (n' : Nat) : PS (w.setCell ⟨p, 2, none⟩ (.int .i64 n')) p v xs a n' :=
 ⟨h.1.setN n', h.2.1.kept (KeptP.set _), h.2.2⟩
theorem peekP_lt {xs : List UInt8} {a : Nat} (h : a < xs.length) : peekP xs a = xs[a] := by unfold peekP; simp [h]
theorem peekP_ge {xs : List UInt8} {a : Nat} (h : ¬ a < xs.length) : peekP xs a = 0 := by unfold peekP; simp [h]
set_option maxHeartbeats 1600000 in
theorem peek_any (p : Nat) (v : Value) (xs : List UInt8) (a n : Nat) (w : World) (h : PS w p v xs a n) :
 Calls Tryz.prog 120 #[.pointer (some ⟨p, 0, none⟩)] w fun e w' => e = .returned (.int .u8 (peekP xs a).toNat) ∧ Ext w w' := by
 have HP := Hd h; have hle := h.2.2; have hx := h.2.1.len; rcases h.2.1.split with ⟨rfl, a0, cap, rfl, hcap⟩ | ⟨h0, b, o, cap, rfl, hn, hm, hbp, hat⟩
 · obtain rfl : a = 0 := by simpa using hle
   clear h hle; go_enter Tryz.func120, Tryz.ntmps120
   go_wp2_with fail; refine Grow.wp_region_litW (G := Ext) (B := fun w' => Ext w w') (anc := fun _ => []) (I := fun _ => none) (by kernel_rfl) (by kernel_rfl) (by kernel_rfl) ?_ ?_ ?_
   · exact fun w w' h hg => ext_trans h hg
   · exact (ext_refl _).drew
   repeat
    (refine Grow.Wk.step (fun K hK => ?_)
     first
     | (refine Grow.step_read (by rfl) (by rfl) ext_refl ?_
        apply Exists.intro; refine ⟨fun w hB hF => ?_, ?_⟩
        · obtain ⟨c0, c1, c2, f0, f1, f2, hpl⟩ := (HP.out.ext hB).1.cells; go_simp; try exact rfl
        go_simp; refine hK _ _ ?_; clear hK K)
     | (refine Grow.step_off (by rfl) ?_
        go_simp; refine hK _ _ ?_; clear hK K))
   refine Grow.Wk.nil ?_; intro w1 hB hF; clear hF; go_wp2_with fail; go_ret; exact ⟨rfl, hB⟩
 · by_cases hlt : a < xs.length
   · have hpk := peekP_lt hlt; have HC : Hid (∀ w', Ext w w' → w'.cell? ⟨b, o + a, none⟩ = some (.int .u8 (xs[a].toNat : Nat))) := Hd (fun w' hw => by
      obtain ⟨b', o', e, _, hc⟩ := (hat.ext hw) (by omega)
      simp only [Option.some.injEq, Addr.mk.injEq, and_true] at e; obtain ⟨rfl, rfl⟩ := e; exact hc a hlt)
     rw [hpk]; generalize xs[a] = c at *; have hai : (a : Int) < xs.length := by omega
     have hai0 : (0 : Int) ≤ a := by omega
     clear h hat hpk; go_enter Tryz.func120, Tryz.ntmps120
     go_wp2_with fail; refine Grow.wp_region_litW (G := Ext) (B := fun w' => Ext w w') (anc := fun _ => []) (I := fun _ => none) (by kernel_rfl) (by kernel_rfl) (by kernel_rfl) ?_ ?_ ?_
     · exact fun w w' h hg => ext_trans h hg
     · exact (ext_refl _).drew
     repeat
      (refine Grow.Wk.step (fun K hK => ?_)
       first
       | (refine Grow.step_read (by rfl) (by rfl) ext_refl ?_
          apply Exists.intro; refine ⟨fun w hB hF => ?_, ?_⟩
          · obtain ⟨c0, c1, c2, f0, f1, f2, hpl⟩ := (HP.out.ext hB).1.cells; go_simp; try exact rfl
          go_simp; refine hK _ _ ?_; clear hK K)
       | (refine Grow.step_off (by rfl) ?_
          go_simp; refine hK _ _ ?_; clear hK K))
     refine Grow.Wk.nil ?_; intro w1 hB hF; clear hF; have hE := hB; clear hB; go_wp2_with fail; refine Grow.wp_region_litW (G := Ext) (B := fun w' => Ext w1 w') (anc := fun _ => []) (I := fun _ => none) (by kernel_rfl) (by kernel_rfl) (by kernel_rfl) ?_ ?_ ?_
     · exact fun w w' h hg => ext_trans h hg
     · exact (ext_refl _).drew
     repeat
      (refine Grow.Wk.step (fun K hK => ?_)
       first
       | (refine Grow.step_read (by rfl) (by rfl) ext_refl ?_
          apply Exists.intro; refine ⟨fun w hB hF => ?_, ?_⟩
          · have hB2 := ext_trans hE hB; obtain ⟨c0, c1, c2, f0, f1, f2, hpl⟩ := (HP.out.ext hB2).1.cells; have cc := HC.out _ hB2; go_simp; try exact rfl
          go_simp; refine hK _ _ ?_; clear hK K)
       | (refine Grow.step_off (by rfl) ?_
          go_simp; refine hK _ _ ?_; clear hK K))
     refine Grow.Wk.nil ?_; intro w2 hB hF; clear hF; go_wp2_with fail; go_ret; exact ⟨rfl, ext_trans hE hB⟩
   · have hpk := peekP_ge hlt; have hai : ¬ (a : Int) < xs.length := by omega
     rw [hpk]; clear h hat hpk; go_enter Tryz.func120, Tryz.ntmps120
     go_wp2_with fail; refine Grow.wp_region_litW (G := Ext) (B := fun w' => Ext w w') (anc := fun _ => []) (I := fun _ => none) (by kernel_rfl) (by kernel_rfl) (by kernel_rfl) ?_ ?_ ?_
     · exact fun w w' h hg => ext_trans h hg
     · exact (ext_refl _).drew
     repeat
      (refine Grow.Wk.step (fun K hK => ?_)
       first
       | (refine Grow.step_read (by rfl) (by rfl) ext_refl ?_
          apply Exists.intro; refine ⟨fun w hB hF => ?_, ?_⟩
          · obtain ⟨c0, c1, c2, f0, f1, f2, hpl⟩ := (HP.out.ext hB).1.cells; go_simp; try exact rfl
          go_simp; refine hK _ _ ?_; clear hK K)
       | (refine Grow.step_off (by rfl) ?_
          go_simp; refine hK _ _ ?_; clear hK K))
     refine Grow.Wk.nil ?_; intro w1 hB hF; clear hF; go_wp2_with fail; go_ret; exact ⟨rfl, hB⟩
theorem whiteN_le (xs : List UInt8) (a : Nat) : whiteN xs a ≤ xs.length := by unfold whiteN; omega
set_option maxHeartbeats 1600000 in
theorem skip_any (p : Nat) (v : Value) (xs : List UInt8) (a n : Nat) (w : World) (h : PS w p v xs a n) :
 Calls Tryz.prog 119 #[.pointer (some ⟨p, 0, none⟩)] w fun e w' => e = .returned (.tuple #[]) ∧ PS w' p v xs (whiteN xs a) n ∧ KeptP p w w' := by
 have HP := Hd h; have HB := Hd h.2.1.bytes; have hcl := clampN_nat xs.length a h.2.2; have HCL := Hd hcl; clear h hcl; go_enter Tryz.func119, Tryz.ntmps119
 go_wp2_with fail; refine Grow.wp_region_tailW (G := Ext) (B := fun w' => Ext w w') (anc := fun _ => []) (I := fun j => if j = 9 then some (Grow.Spec.val Ext (.int .i64 (whiteN xs a : Nat))) else none) 12 (by kernel_rfl) (by kernel_rfl) (by kernel_rfl) ?_ ?_ ?_
 · exact fun w w' h hg => ext_trans h hg
 · exact (ext_refl _).drew
 · simp only [List.take_succ_cons, List.take_zero, List.drop_succ_cons, List.drop_zero]; repeat
    (refine Grow.Wk.step (fun K hK => ?_)
     first
     | (refine Grow.step_read (by rfl) (by rfl) ext_refl ?_
        apply Exists.intro; refine ⟨fun w hB hF => ?_, ?_⟩
        · obtain ⟨c0, c1, c2, f0, f1, f2, hpl⟩ := (HP.out.ext hB).1.cells; go_simp; try exact rfl
        go_simp; refine hK _ _ ?_; clear hK K)
     | (refine Grow.step_off (by rfl) ?_
        go_simp; refine hK _ _ ?_; clear hK K))
   refine Grow.Wk.step (fun K hK => ?_); refine Grow.step_rel (by rfl) (by rfl) (fun w' hB hF => ?_) (fun v hv => ?_)
   · go_simp; refine Grow.relUpon_enter ((white_any _ xs a w' (HB.out.ext hB)).mono ?_); rintro e w'' ⟨rfl, hw''⟩; exact ⟨_, rfl, hw'', by rw [HCL.out]; rfl, trivial⟩
   obtain rfl : v = _ := hv; go_simp; refine hK _ _ ?_; clear hK K; repeat
    (refine Grow.Wk.step (fun K hK => ?_)
     first
     | (refine Grow.step_read (by rfl) (by rfl) ext_refl ?_
        apply Exists.intro; refine ⟨fun w hB hF => ?_, ?_⟩
        · obtain ⟨c0, c1, c2, f0, f1, f2, hpl⟩ := (HP.out.ext hB).1.cells; go_simp; try exact rfl
        go_simp; refine hK _ _ ?_; clear hK K)
     | (refine Grow.step_off (by rfl) ?_
        go_simp; refine hK _ _ ?_; clear hK K))
   refine Grow.Wk.nil ?_; intro w3 hB hF; clear hF; obtain ⟨c0, c1, c2, f0, f1, f2, hpl⟩ := (HP.out.ext hB).1.cells; go_wp2_with fail; go_end0
   exact ⟨rfl, (HP.out.ext hB).setAt _ (whiteN_le xs a), (KeptP.ofExt hB).trans (KeptP.set _)⟩
set_option maxHeartbeats 1600000 in
theorem take_ok (p : Nat) (v : Value) (xs : List UInt8) (a n : Nat) (c : UInt8) (w : World) (h : PS w p v xs a n) (hc : xs[a]? = some c) :
 Calls Tryz.prog 152 #[.pointer (some ⟨p, 0, none⟩), .int .u8 c.toNat] w fun e w' => e = .returned (.tuple #[]) ∧ PS w' p v xs (a + 1) n ∧ KeptP p w w' := by
 have HP := Hd h; obtain ⟨hlt, hget⟩ := List.getElem?_eq_some_iff.1 hc; have hx := h.2.1.len; rcases h.2.1.split with ⟨rfl, a0, cap, rfl, hcap⟩ | ⟨h0, b, o, cap, rfl, hn, hm, hbp, hat⟩
 · simp at hlt
 · have HC : Hid (∀ w', Ext w w' → w'.cell? ⟨b, o + a, none⟩ = some (.int .u8 (c.toNat : Nat))) := Hd (fun w' hw => by
    obtain ⟨b', o', e, _, hcc⟩ := (hat.ext hw) (by omega)
    simp only [Option.some.injEq, Addr.mk.injEq, and_true] at e; obtain ⟨rfl, rfl⟩ := e; rw [← hget]; exact hcc a hlt)
   have hai : (a : Int) < xs.length := by omega
   have hai0 : (0 : Int) ≤ a := by omega
   have HLE := Hd hlt; clear h hat hget hc hlt; go_enter Tryz.func152, Tryz.ntmps152
   go_wp2_with fail; refine Grow.wp_region_litW (G := Ext) (B := fun w' => Ext w w') (anc := fun _ => []) (I := fun j => if j = 28 then some (Grow.Spec.val Ext (.tuple #[])) else none) (by kernel_rfl) (by kernel_rfl) (by kernel_rfl) ?_ ?_ ?_
   · exact fun w w' h hg => ext_trans h hg
   · exact (ext_refl _).drew
   repeat
    (refine Grow.Wk.step (fun K hK => ?_)
     first
     | (refine Grow.step_read (by rfl) (by rfl) ext_refl ?_
        apply Exists.intro; refine ⟨fun w hB hF => ?_, ?_⟩
        · obtain ⟨c0, c1, c2, f0, f1, f2, hpl⟩ := (HP.out.ext hB).1.cells; have cc := HC.out _ hB; go_simp; try exact rfl
        go_simp; refine hK _ _ ?_; clear hK K)
     | (refine Grow.step_off (by rfl) ?_
        go_simp; refine hK _ _ ?_; clear hK K))
   refine Grow.Wk.step (fun K hK => ?_); refine Grow.step_rel (by rfl) (by rfl) (fun w' hB hF => ?_) (fun v hv => ?_)
   · go_simp; refine Grow.relUpon_enter ((need_ok 2 a w').mono ?_); rintro e w'' ⟨rfl, rfl⟩; exact ⟨_, rfl, ext_refl _, rfl, trivial⟩
   obtain rfl : v = _ := hv; go_simp; refine hK _ _ ?_; clear hK K; refine Grow.Wk.nil ?_; intro w3 hB hF; clear hF; obtain ⟨c0, c1, c2, f0, f1, f2, hpl⟩ := (HP.out.ext hB).1.cells; have e1 : IntKind.i64.wrap ((a : Int) + 1) = ((a + 1 : Nat) : Int) := by rw [IntWalk.i64_in _ (by omega)]; omega
   go_wp2_with fail; go_end0
   exact ⟨rfl, (HP.out.ext hB).setAt (a + 1) HLE.out, (KeptP.ofExt hB).trans (KeptP.set _)⟩
set_option maxHeartbeats 3200000 in
theorem take_no (p : Nat) (v : Value) (xs : List UInt8) (a n : Nat) (c : UInt8) (w : World) (h : PS w p v xs a n) (hc : ¬ xs[a]? = some c) :
 Calls Tryz.prog 152 #[.pointer (some ⟨p, 0, none⟩), .int .u8 c.toNat] w fun e w' => e = .panicked (wrongV 2 a) ∧ KeptP p w w' := by
 have HP := Hd h; have hx := h.2.1.len; by_cases hlt : a < xs.length
 · rcases h.2.1.split with ⟨rfl, a0, cap, rfl, hcap⟩ | ⟨h0, b, o, cap, rfl, hn, hm, hbp, hat⟩
   · simp at hlt
   have hne : ((xs[a].toNat : Nat) : Int) ≠ c.toNat := fun e => hc (by rw [List.getElem?_eq_getElem hlt]; congr 1; exact UInt8.toNat_inj.1 (by omega)); have HC : Hid (∀ w', Ext w w' → w'.cell? ⟨b, o + a, none⟩ = some (.int .u8 (xs[a].toNat : Nat))) := Hd (fun w' hw => by
    obtain ⟨b', o', e, _, hcc⟩ := (hat.ext hw) (by omega)
    simp only [Option.some.injEq, Addr.mk.injEq, and_true] at e; obtain ⟨rfl, rfl⟩ := e; exact hcc a hlt)
   generalize xs[a] = x at *; have hnb : (((x.toNat : Nat) : Int) == c.toNat) = false := by simpa using hne
   have hai : (a : Int) < xs.length := by omega
   have hai0 : (0 : Int) ≤ a := by omega
   clear h hat hc hne; go_enter Tryz.func152, Tryz.ntmps152
   go_wp2_with fail; refine Grow.wp_region_tailW (G := Ext) (B := fun w' => Ext w w') (anc := fun _ => []) (I := fun _ => none) 28 (by kernel_rfl) (by kernel_rfl) (by kernel_rfl) ?_ ?_ ?_
   · exact fun w w' h hg => ext_trans h hg
   · exact (ext_refl _).drew
   simp only [List.take_succ_cons, List.take_zero, List.drop_succ_cons, List.drop_zero]; repeat
    (refine Grow.Wk.step (fun K hK => ?_)
     first
     | (refine Grow.step_read (by rfl) (by rfl) ext_refl ?_
        apply Exists.intro; refine ⟨fun w hB hF => ?_, ?_⟩
        · obtain ⟨c0, c1, c2, f0, f1, f2, hpl⟩ := (HP.out.ext hB).1.cells; have cc := HC.out _ hB; go_simp; try exact rfl
        go_simp; refine hK _ _ ?_; clear hK K)
     | (refine Grow.step_off (by rfl) ?_
        go_simp; refine hK _ _ ?_; clear hK K))
   refine Grow.Wk.nil ?_; intro w3 hB hF; clear hF; go_wp2_with fail; refine (need_no (2) (a) _).mono ?_; rintro e w9 ⟨rfl, rfl⟩; go_wp2_with fail; exact ⟨rfl, rfl, KeptP.ofExt hB⟩
 · obtain rfl : a = xs.length := by have := h.2.2; omega
   clear h hc hlt; have hv : ∃ a0 cap, v = .slice a0 xs.length cap := by obtain ⟨a0, cap, e, _⟩ := HP.out.2.1; exact ⟨a0, cap, e⟩
   obtain ⟨a0, cap, rfl⟩ := hv; go_enter Tryz.func152, Tryz.ntmps152
   go_wp2_with fail; refine Grow.wp_region_tailW (G := Ext) (B := fun w' => Ext w w') (anc := fun _ => []) (I := fun _ => none) 28 (by kernel_rfl) (by kernel_rfl) (by kernel_rfl) ?_ ?_ ?_
   · exact fun w w' h hg => ext_trans h hg
   · exact (ext_refl _).drew
   simp only [List.take_succ_cons, List.take_zero, List.drop_succ_cons, List.drop_zero]; iterate 11
    (refine Grow.Wk.step (fun K hK => ?_)
     refine Grow.step_read (by rfl) (by rfl) ext_refl ?_; apply Exists.intro; refine ⟨fun w hB hF => ?_, ?_⟩
     · obtain ⟨c0, c1, c2, f0, f1, f2, hpl⟩ := (HP.out.ext hB).1.cells; go_simp; try exact rfl
     go_simp; refine hK _ _ ?_; clear hK K)
   iterate 12
    (refine Grow.Wk.step (fun K hK => ?_)
     refine Grow.step_off (by rfl) ?_; go_simp; refine hK _ _ ?_; clear hK K)
   iterate 5
    (refine Grow.Wk.step (fun K hK => ?_)
     refine Grow.step_read (by rfl) (by rfl) ext_refl ?_; apply Exists.intro; refine ⟨fun w hB hF => ?_, ?_⟩
     · obtain ⟨c0, c1, c2, f0, f1, f2, hpl⟩ := (HP.out.ext hB).1.cells; go_simp; try exact rfl
     go_simp; refine hK _ _ ?_; clear hK K)
   refine Grow.Wk.nil ?_; intro w3 hB hF; clear hF; go_wp2_with fail; refine (need_no (2) ((xs.length : Int)) _).mono ?_; rintro e w9 ⟨rfl, rfl⟩; go_wp2_with fail; exact ⟨rfl, rfl, KeptP.ofExt hB⟩
end Go.Proofs.YtjapbjmeoaagmaaGreatDoor
