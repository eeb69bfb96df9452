/- A text of this proof. -/
import Derived.Test.YtjapbjmeoaagmaaGreatDoorEValueAtPaA
set_option linter.unusedVariables false
set_option linter.unusedSimpArgs false
set_option maxRecDepth 100000
namespace Go.Proofs.YtjapbjmeoaagmaaGreatDoor
open Go.RowKit Go.Mem Orange
theorem heap8 {w : World} {q k : Nat} {a b c d e f g i : Value} (hk : k ≠ q) : ((((((((w.setCell ⟨q, 0, none⟩ a).setCell ⟨q, 1, none⟩ b).setCell ⟨q, 2, none⟩ c).setCell ⟨q, 3, none⟩ d).setCell ⟨q, 4, none⟩ e).setCell ⟨q, 5, none⟩ f).setCell ⟨q, 6, none⟩ g).setCell ⟨q, 7, none⟩ i).heap[k]? = w.heap[k]? := by
 rw [Below.heap_setCell _ _ _ _ hk, Below.heap_setCell _ _ _ _ hk, Below.heap_setCell _ _ _ _ hk, Below.heap_setCell _ _ _ _ hk, Below.heap_setCell _ _ _ _ hk, Below.heap_setCell _ _ _ _ hk, Below.heap_setCell _ _ _ _ hk, Below.heap_setCell _ _ _ _ hk]
end Go.Proofs.YtjapbjmeoaagmaaGreatDoor
