/- A text of this proof. -/
import Derived.Test.YtjapbjmeoaagmaaGreatDoorEValueAtPaR
import Derived.Maps.Own
import Derived.Maps.Views
set_option linter.unusedVariables false
set_option linter.unusedSimpArgs false
set_option maxRecDepth 100000
namespace Go.Proofs.YtjapbjmeoaagmaaGreatDoor
open Go.RowKit Go.Mem Orange Go.ChangeMaps Go.Maps Go.MapKept Go.WideMaps
theorem strLaw : Keyed Tryz.prog 9 := string_keyed Tryz.underlying9
def SetAt (w : World) (b : Nat) (ks : List (List UInt8)) : Prop :=
 ∃ (n : Nat) (D : DataW Unit), n ≤ ks.length ∧ w.ownsMap Tryz.prog 9 (plainElem Tryz.prog 4) b n D ∧ ∀ k, D.atKey (.string k) (.lit (.bool false)) = .lit (.bool (ks.contains k))
theorem SetAt.new (w : World) : SetAt (w.alloc (.map #[] 0)) w.heap.size [] :=
 ⟨0, _, Nat.le_refl _, World.ownsMap_made w _ _ _, fun k => by simp [DataW.atKey]⟩
theorem SetAt.lt {w : World} {b : Nat} {ks : List (List UInt8)} (h : SetAt w b ks) : b < w.heap.size := by
 obtain ⟨n, D, _, h, _⟩ := h; exact h.lt
theorem SetAt.same {w w' : World} {b : Nat} {ks : List (List UInt8)} (h : SetAt w b ks) (he : w'.heap[b]? = w.heap[b]?) : SetAt w' b ks := by
 obtain ⟨n, D, hn, ⟨es, clock, hb, r⟩, hD⟩ := h; exact ⟨n, D, hn, ⟨es, clock, he.trans hb, r⟩, hD⟩
theorem SetAt.look {w : World} {b : Nat} {ks : List (List UInt8)} (h : SetAt w b ks) (k : List UInt8) (hk : k.length ≤ maxLen) : (Instr.lookup 126 (.map (some b)) (.string ⟨k.toArray⟩) false).run Tryz.prog w = .ok (.bool (ks.contains k)) w := by
 obtain ⟨n, D, hn, hown, hD⟩ := h; obtain ⟨v, ps, hrun, hv⟩ := hown.lookup strLaw Tryz.underlying126 (z := .bool false) (by rfl) (plainElem_bool Tryz.underlying4 false) (keyOf_string_mk (s := ⟨k.toArray⟩) Tryz.underlying9 (show (ByteArray.mk k.toArray).size ≤ maxLen from hk)); rw [hrun]; simp only [List.toList_toArray] at hv; rw [hD k] at hv; unfold plainElem at hv; rw [Tryz.underlying4] at hv
 cases v <;> simp at hv
 rw [hv.1]; simp
theorem SetAt.put {w : World} {b : Nat} {ks : List (List UInt8)} (h : SetAt w b ks) (k : List UInt8) (hk : k.length ≤ maxLen) (hl : ks.length < maxLen) :
 ∃ w', (Instr.mapUpdate 126 (.map (some b)) (.string ⟨k.toArray⟩) (.bool true)).run Tryz.prog w = .ok () w' ∧ SetAt w' b (k :: ks) ∧ w.grownBy w' (some b) := by
 obtain ⟨n, D, hn, hown, hD⟩ := h; obtain ⟨w', hrun, h1, h2⟩ := hown.update strLaw Tryz.underlying126 (by omega) (keyOf_string_mk (s := ⟨k.toArray⟩) Tryz.underlying9 (show (ByteArray.mk k.toArray).size ≤ maxLen from hk)) (plainElem_bool Tryz.underlying4 true); simp only [List.toList_toArray] at h1; refine ⟨w', hrun, ⟨n + 1, _, by simp; omega, h1, fun k' => ?_⟩, h2⟩; by_cases e : k' = k
 · subst e; rw [atKey_put_same hown.isMap (by simp [WideAt.IsKeyLit])]; simp
 · rw [atKey_put_other (fun h => e (by injection h)), hD k']; simp [e]
end Go.Proofs.YtjapbjmeoaagmaaGreatDoor
