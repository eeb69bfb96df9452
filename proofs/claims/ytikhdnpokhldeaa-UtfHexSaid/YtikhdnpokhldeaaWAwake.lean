/- the law's own head: awake. -/
import Derived.Test.YtikhdnpokhldeaaWQuote
import Derived.Test.YtikhdnpokhldeaaWUtfB
set_option linter.unusedVariables false
namespace Go.Proofs.Ytikhdnpokhldeaa
open Go.RowKit Go.Mem Orange

theorem bytes_new (w : World) (cs : Array Value) (e : TypeId) (xs : List UInt8) (h : cs.toList = cells8 xs) (n : Nat) (hn : n = xs.length) (hl : n ≤ 140737488355328) :
    Bytes (w.alloc (.cells cs e)) (.slice (some ⟨w.heap.size, 0, none⟩) n n) xs := by
  refine Bytes.mk ?_ hn (Nat.le_refl _) (by omega) hl
  intro _
  refine ⟨w.heap.size, 0, rfl, by simp, fun i hi => ?_⟩
  rw [cell_of_cells (heap_alloc_new _ _), ← Array.getElem?_toList, h, Nat.zero_add]
  simp [cells8, hi]

set_option maxHeartbeats 3200000 in
theorem awake_any (w : World) : Calls Try.prog 11 #[] w fun e w' => e = .returned (.bool true) ∧ Ext w w' := by
  have hn : next [195, 169] = (233, 2) := by decide
  have hc : check [97, 200] = 1 := by decide
  go_enter Try.func11, Try.ntmps11
  go_wp2_with fail
  refine (next_any _ [195, 169] _ (bytes_new _ _ _ _ rfl _ rfl (by simp))).mono ?_
  rintro e w1 ⟨rfl, h1⟩
  rw [hn]
  have hx1 : Ext w w1 := ((ext_refl w).alloc (Nat.le_refl _) _).trans (h1.mono (by simp))
  clear h1
  go_wp2_with fail
  refine (quote_any _ _ (by decide)).mono ?_
  rintro e w2 ⟨rfl, h2⟩
  go_wp2_with fail
  refine (check_any _ [97, 200] _ (bytes_new _ _ _ _ rfl _ rfl (by simp))).mono ?_
  rintro e w3 ⟨rfl, h3⟩
  rw [hc]
  go_wp2_with fail
  go_ret
  exact ⟨rfl, hx1.trans (h2.mono hx1.size |>.trans (((Below.refl w.heap.size w2).alloc (by have := hx1.size; have := h2.size; omega) _).trans (h3.mono (by have := hx1.size; have := h2.size; simp; omega))))⟩
end Go.Proofs.Ytikhdnpokhldeaa
