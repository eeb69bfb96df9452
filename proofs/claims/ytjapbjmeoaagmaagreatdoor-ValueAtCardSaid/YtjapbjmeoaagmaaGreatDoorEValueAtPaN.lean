/- A text of this proof. -/
import Derived.Test.YtjapbjmeoaagmaaGreatDoorEValueAtPaM
import Derived.Test.YtjapbjmeoaagmaaGreatDoorEValueAtGst
set_option linter.unusedVariables false
set_option linter.unusedSimpArgs false
set_option maxRecDepth 100000
namespace Go.Proofs.YtjapbjmeoaagmaaGreatDoor
open Go.RowKit Go.Mem Orange
abbrev cellsV (k : Int) (b : Bool) (d : Num) (s : List UInt8) (L M : Value) : Array Value := #[.int .i64 k, .bool b, .bool d.neg, .string ⟨d.digits.toArray⟩, .int .i64 d.exp, .string ⟨s.toArray⟩, L, M]
abbrev noL : Value := .slice none 0 0
def VAt (w : World) (q : Nat) (c : Array Value) : Prop := w.heap[q]? = some (.cells c 27 (0, 0))
theorem VAt.new (w : World) (c : Array Value) : VAt (w.alloc (.cells c 27)) w.heap.size c := heap_alloc_new _ _
theorem VAt.lt {w : World} {q : Nat} {c : Array Value} (h : VAt w q c) : q < w.heap.size := (Array.getElem?_eq_some_iff.1 h).1
theorem VAt.ext {w w' : World} {q : Nat} {c : Array Value} (h : VAt w q c) (hb : Ext w w') : VAt w' q c := by
 unfold VAt; rw [hb.block _ h.lt]; exact h
theorem VAt.kept {w w' : World} {p q : Nat} {c : Array Value} (h : VAt w q c) (hb : KeptP p w w') (hq : q ≠ p) : VAt w' q c := by
 unfold VAt; rw [hb.block _ h.lt hq]; exact h
theorem VAt.cell {w : World} {q : Nat} {c : Array Value} (h : VAt w q c) (i : Nat) : w.cell? ⟨q, i, none⟩ = c[i]? := cell_of_cells h
theorem VAt.free {w : World} {q : Nat} {c : Array Value} (h : VAt w q c) (i : Nat) : w.frozen? ⟨q, i, none⟩ = false := free_of_cells h
theorem NumAt.kept {w w' : World} {p q : Nat} {d : Num} (h : NumAt w q d) (hb : KeptP p w w') (hq : q ≠ p) : NumAt w' q d := by
 unfold NumAt; rw [hb.block _ (Array.getElem?_eq_some_iff.1 h).1 hq]; exact h
theorem VAt.store8 {w : World} {q : Nat} {x0 x1 x2 x3 x4 x5 x6 x7 : Value} (h : VAt w q #[x0, x1, x2, x3, x4, x5, x6, x7]) (a b c d e f g i : Value) : VAt ((((((((w.setCell ⟨q, 0, none⟩ a).setCell ⟨q, 1, none⟩ b).setCell ⟨q, 2, none⟩ c).setCell ⟨q, 3, none⟩ d).setCell ⟨q, 4, none⟩ e).setCell ⟨q, 5, none⟩ f).setCell ⟨q, 6, none⟩ g).setCell ⟨q, 7, none⟩ i) q #[a, b, c, d, e, f, g, i] := by
 unfold VAt at h ⊢; simp [World.setCell, Array.getElem?_modify, h]
theorem below_store8 {B p : Nat} {w w' : World} (h : Below B w w') (hp : B ≤ p) (a b c d e f g i : Value) : Below B w ((((((((w'.setCell ⟨p, 0, none⟩ a).setCell ⟨p, 1, none⟩ b).setCell ⟨p, 2, none⟩ c).setCell ⟨p, 3, none⟩ d).setCell ⟨p, 4, none⟩ e).setCell ⟨p, 5, none⟩ f).setCell ⟨p, 6, none⟩ g).setCell ⟨p, 7, none⟩ i) :=
 (((((((h.setCell hp a).setCell hp b).setCell hp c).setCell hp d).setCell hp e).setCell hp f).setCell hp g).setCell hp i
end Go.Proofs.YtjapbjmeoaagmaaGreatDoor
