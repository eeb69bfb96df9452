/- A text of this proof. -/
import Derived.Test.YtjapbjmeoaagmaaGreatDoorEValueAtDecB
set_option linter.unusedVariables false
set_option linter.unusedSimpArgs false
set_option maxRecDepth 100000
namespace Go.Proofs.YtjapbjmeoaagmaaGreatDoor
open Go.RowKit Go.Mem Orange
def NumAt (w : World) (p : Nat) (d : Num) : Prop := w.heap[p]? = some (.cells #[.bool d.neg, .string ⟨d.digits.toArray⟩, .int .i64 d.exp] 23 (0, 0))
theorem NumAt.cells {w : World} {p : Nat} {d : Num} (h : NumAt w p d) : w.cell? ⟨p, 0, none⟩ = some (.bool d.neg) ∧ w.cell? ⟨p, 1, none⟩ = some (.string ⟨d.digits.toArray⟩) ∧ w.cell? ⟨p, 2, none⟩ = some (.int .i64 d.exp) ∧ w.frozen? ⟨p, 0, none⟩ = false ∧ w.frozen? ⟨p, 1, none⟩ = false ∧ w.frozen? ⟨p, 2, none⟩ = false ∧ p < w.heap.size :=
 ⟨by rw [cell_of_cells h]; rfl, by rw [cell_of_cells h]; rfl, by rw [cell_of_cells h]; rfl, free_of_cells h, free_of_cells h, free_of_cells h, (Array.getElem?_eq_some_iff.1 h).1⟩
theorem NumAt.ext {w w' : World} {p : Nat} {d : Num} (h : NumAt w p d) (hb : Ext w w') : NumAt w' p d := by
 unfold NumAt; rw [hb.block _ (Array.getElem?_eq_some_iff.1 h).1]; exact h
theorem NumAt.new (w : World) (d : Num) : NumAt (w.alloc (.cells #[.bool d.neg, .string ⟨d.digits.toArray⟩, .int .i64 d.exp] 23)) w.heap.size d := heap_alloc_new _ _
theorem NumAt.store {w : World} {p : Nat} {d0 : Num} (h : NumAt w p d0) (d : Num) : NumAt (((w.setCell ⟨p, 0, none⟩ (.bool d.neg)).setCell ⟨p, 1, none⟩ (.string ⟨d.digits.toArray⟩)).setCell ⟨p, 2, none⟩ (.int .i64 d.exp)) p d := by
 unfold NumAt at h ⊢; simp [World.setCell, Array.getElem?_modify, h]
end Go.Proofs.YtjapbjmeoaagmaaGreatDoor
