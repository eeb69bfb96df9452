/- A text of this proof. -/
import Derived.Test.YtjapbjmeoaagmaaGreatDoorEValueAtWUtfB
import Derived.Test.YtjapbjmeoaagmaaGreatDoorEValueAtOwn
import Derived.Test.YtjapbjmeoaagmaaGreatDoorEValueAtGrowT
import Derived.Deep.DeepCutAuto
import Derived.StillTailTactics
set_option linter.unusedVariables false
set_option linter.unusedSimpArgs false
set_option maxRecDepth 100000
namespace Go.Proofs.YtjapbjmeoaagmaaGreatDoor
open Go.RowKit Go.Mem Orange
theorem cell_of_block1 {w : World} {b : Nat} {u : Value} {t : TypeId} {fr : Nat × Nat} (h : w.heap[b]? = some (.cells #[u] t fr)) : ∀ (j : Nat) x, [u][j]? = some x → w.cell? ((⟨b, 0, none⟩ : Addr).add j) = some x := by
 intro j x hj; have hj0 : j = 0 := by
  rcases Nat.eq_zero_or_pos j with h | h
  · exact h
  · rw [List.getElem?_eq_none (by simp; omega)] at hj; cases hj
 subst hj0; simp only [List.getElem?_cons_zero, Option.some.injEq] at hj; subst hj; simp [World.cell?, Addr.add, h]
theorem one_of1 {u : Value} (h : u.oneCell' = true) : ∀ x ∈ [u], x.oneCell' = true := by
 intro x hx; rw [List.mem_singleton.1 hx]; exact h
theorem info8 : (Tryz.prog.info? 5).map (fun i => (i.zero, i.size, i.bytes)) = some (some (.int .u8 0), 1, 1) := by kernel_rfl
end Go.Proofs.YtjapbjmeoaagmaaGreatDoor
