/- A text of this proof. -/
import Derived.Test.YtjapbjmeoaagmaaGreatDoorEPrintIsWUtfC
import Derived.Test.YtjapbjmeoaagmaaGreatDoorEPrintIsGrowT
set_option linter.unusedVariables false
set_option linter.unusedSimpArgs false
set_option maxRecDepth 100000
namespace Go.Proofs.YtjapbjmeoaagmaaGreatDoor
open Go.RowKit Go.Mem
theorem bytes_new (w : World) (cs : Array Value) (e : TypeId) (xs : List UInt8) (h : cs.toList = cells8 xs) (n : Nat) (hn : n = xs.length) (hl : n ≤ 140737488355328) :
 Bytes (w.alloc (.cells cs e)) (.slice (some ⟨w.heap.size, 0, none⟩) n n) xs := by
 refine Bytes.mk ?_ hn (Nat.le_refl _) (by omega) hl; intro _; refine ⟨w.heap.size, 0, rfl, by simp, fun i hi => ?_⟩; rw [cell_of_cells (heap_alloc_new _ _), ← Array.getElem?_toList, h, Nat.zero_add]; simp [cells8, hi]
theorem own8_shape {w : World} {base : Nat} {e : TypeId} {v : Value} {l : List UInt8} (h : OwnB w base e v l) : ∃ a c, v = .slice a l.length c := by
 rcases h.2 with ⟨rfl, h0⟩ | ⟨g, cap, cur, rfl, _⟩
 · rw [h0]; exact ⟨_, _, rfl⟩
 · exact ⟨_, _, rfl⟩
theorem drop_cons {xs : List UInt8} {i : Nat} (h : i < xs.length) : ∃ x t, xs.drop i = x :: t := by
 cases h' : xs.drop i with
 | nil => simp at h'; omega
 | cons x t => exact ⟨x, t, rfl⟩
theorem cell0_of {w : World} {b o n cap : Nat} {xs t : List UInt8} {x : UInt8} (h : Bytes w (.slice (some ⟨b, o, none⟩) n cap) xs) (e : xs = x :: t) : w.cell? ⟨b, o, none⟩ = some (.int .u8 x.toNat) := by
 subst e; obtain ⟨a', c', e1, _, _, _, h4⟩ := h; simp only [Value.slice.injEq] at e1; obtain ⟨rfl, _, rfl⟩ := e1; obtain ⟨b', o', e, hlt, hc⟩ := h4 (by simp); simp only [Option.some.injEq, Addr.mk.injEq, and_true] at e; obtain ⟨rfl, rfl⟩ := e; have := hc 0 (by simp); simpa using this
end Go.Proofs.YtjapbjmeoaagmaaGreatDoor
