/- A text of this proof. -/
import Derived.Test.YtjapbjmeoaagmaaGreatDoorEValueAtPaP
import Derived.Test.YtjapbjmeoaagmaaGreatDoorEValueAtGrowW
import Derived.WalkLawsBesides
import Derived.OneCell
import Derived.StillTailTactics
set_option linter.unusedVariables false
set_option linter.unusedSimpArgs false
set_option maxRecDepth 100000
namespace Go.Proofs.YtjapbjmeoaagmaaGreatDoor
open Go.RowKit Go.Mem Orange
abbrev wrongV (e at0 : Int) : List PanicEntry := [{ v := .iface 115 (.agg #[.int .i64 e, .int .i64 at0]), recovered := false }]
def PAt (w : World) (p : Nat) (v : Value) (at0 n : Int) : Prop := w.heap[p]? = some (.cells #[v, .int .i64 at0, .int .i64 n] 113 (0, 0))
theorem PAt.cells {w : World} {p : Nat} {v : Value} {a n : Int} (h : PAt w p v a n) : w.cell? ⟨p, 0, none⟩ = some v ∧ w.cell? ⟨p, 1, none⟩ = some (.int .i64 a) ∧ w.cell? ⟨p, 2, none⟩ = some (.int .i64 n) ∧ w.frozen? ⟨p, 0, none⟩ = false ∧ w.frozen? ⟨p, 1, none⟩ = false ∧ w.frozen? ⟨p, 2, none⟩ = false ∧ p < w.heap.size :=
 ⟨by rw [cell_of_cells h]; rfl, by rw [cell_of_cells h]; rfl, by rw [cell_of_cells h]; rfl, free_of_cells h, free_of_cells h, free_of_cells h, (Array.getElem?_eq_some_iff.1 h).1⟩
theorem PAt.ext {w w' : World} {p : Nat} {v : Value} {a n : Int} (h : PAt w p v a n) (hb : Ext w w') : PAt w' p v a n := by
 unfold PAt; rw [hb.block _ (Array.getElem?_eq_some_iff.1 h).1]; exact h
abbrev KeptP (p : Nat) (w w' : World) : Prop := Kept w.heap.size p w w'
theorem KeptP.refl (p : Nat) (w : World) : KeptP p w w := Kept.refl _ _ _
theorem KeptP.trans {p : Nat} {a b c : World} (h : KeptP p a b) (k : KeptP p b c) : KeptP p a c := Kept.trans h (k.mono h.size)
theorem KeptP.ofExt {p : Nat} {a b : World} (h : Ext a b) : KeptP p a b := Kept.ofBelow h
theorem KeptP.set {p o : Nat} {w : World} (u : Value) : KeptP p w (w.setCell ⟨p, o, none⟩ u) := Kept.setCell u
def BytesN (p : Nat) (w : World) (v : Value) (xs : List UInt8) : Prop := ∃ a cap, v = .slice a xs.length cap ∧ xs.length ≤ cap ∧ cap ≤ 9223372036854775807 ∧ xs.length ≤ 65536 ∧ (0 < xs.length → ∃ b o, a = some ⟨b, o, none⟩ ∧ b ≠ p ∧ b < w.heap.size ∧ BytesAt w a xs)
theorem BytesN.bytes {p : Nat} {w : World} {v : Value} {xs : List UInt8} (h : BytesN p w v xs) : Bytes w v xs := by
 obtain ⟨a, cap, e, h1, h2, h3, h4⟩ := h; exact ⟨a, cap, e, h1, h2, Nat.le_trans h3 (by decide), fun hn => by obtain ⟨_, _, _, _, _, h5⟩ := h4 hn; exact h5 hn⟩
theorem BytesN.kept {p : Nat} {w w' : World} {v : Value} {xs : List UInt8} (h : BytesN p w v xs) (hk : KeptP p w w') : BytesN p w' v xs := by
 obtain ⟨a, cap, e, h1, h2, h3, h4⟩ := h; refine ⟨a, cap, e, h1, h2, h3, fun hn => ?_⟩; obtain ⟨b, o, e, hb, hlt, hat⟩ := h4 hn; subst e; exact ⟨b, o, rfl, hb, Nat.lt_of_lt_of_le hlt hk.size, hat.kept hk hlt hb⟩
theorem BytesN.split {p : Nat} {w : World} {v : Value} {xs : List UInt8} (h : BytesN p w v xs) : (xs = [] ∧ ∃ a cap, v = .slice a 0 cap ∧ cap ≤ 9223372036854775807) ∨ (0 < xs.length ∧ ∃ b o cap, v = .slice (some ⟨b, o, none⟩) xs.length cap ∧ xs.length ≤ cap ∧ cap ≤ 9223372036854775807 ∧ b ≠ p ∧ BytesAt w (some ⟨b, o, none⟩) xs) := by
 obtain ⟨a, cap, e, h1, h2, h3, h4⟩ := h; by_cases h0 : xs.length = 0
 · obtain rfl : xs = [] := List.eq_nil_of_length_eq_zero h0; exact .inl ⟨rfl, a, cap, e, h2⟩
 · have hpos := Nat.pos_of_ne_zero h0; obtain ⟨b, o, rfl, hb, hlt, hat⟩ := h4 hpos; exact .inr ⟨hpos, b, o, cap, e, h1, h2, hb, hat⟩
theorem BytesN.len {p : Nat} {w : World} {v : Value} {xs : List UInt8} (h : BytesN p w v xs) : xs.length ≤ 65536 := by obtain ⟨a, cap, e, h1, h2, h3, h4⟩ := h; exact h3
def PS (w : World) (p : Nat) (v : Value) (xs : List UInt8) (a n : Nat) : Prop := PAt w p v a n ∧ BytesN p w v xs ∧ a ≤ xs.length
theorem PS.ext {w w' : World} {p : Nat} {v : Value} {xs : List UInt8} {a n : Nat} (h : PS w p v xs a n) (hb : Ext w w') : PS w' p v xs a n := ⟨h.1.ext hb, h.2.1.kept (KeptP.ofExt hb), h.2.2⟩
end Go.Proofs.YtjapbjmeoaagmaaGreatDoor
