/- A text of this proof. -/
import Derived.Test.YtjapbjmeoaagmaaGreatDoorEValueAtWEscA
set_option linter.unusedVariables false
set_option linter.unusedSimpArgs false
set_option maxRecDepth 100000
namespace Go.Proofs.YtjapbjmeoaagmaaGreatDoor
open Go.RowKit Go.Mem Orange
theorem idx_none (s : List UInt8) (c : UInt8) (h : ∀ x ∈ s, x ≠ c) : Lib.indexByte s c = -1 := by
 induction s with
 | nil => rfl
 | cons x t ih =>
   have h1 := ih (fun y hy => h y (List.mem_cons_of_mem _ hy)); have h2 : (x == c) = false := by simpa using h x (List.mem_cons_self ..)
   simp [Lib.indexByte, h1, h2]
end Go.Proofs.YtjapbjmeoaagmaaGreatDoor
