/- A text of this proof. -/
import Derived.Test.YtjapbjmeoaagmaaGreatDoorEValueAtPaO
set_option linter.unusedVariables false
set_option linter.unusedSimpArgs false
set_option maxRecDepth 100000
namespace Go.Proofs.YtjapbjmeoaagmaaGreatDoor
open Go.RowKit Go.Mem Orange
theorem PS.at {w : World} {p bk o a n : Nat} {cap : Nat} {xs : List UInt8} (h : PS w p (.slice (some ⟨bk, o, none⟩) xs.length cap) xs a n) : BytesAt w (some ⟨bk, o, none⟩) xs := by
 obtain ⟨a8, c8, e8, _, _, _, h8⟩ := h.2.1.bytes; simp only [Value.slice.injEq] at e8; obtain ⟨rfl, _, rfl⟩ := e8; exact h8
theorem BytesAt.slice {w : World} {bk o cap : Nat} {xs : List UInt8} (h : BytesAt w (some ⟨bk, o, none⟩) xs) (hn : xs.length ≤ cap) (hm : cap ≤ 9223372036854775807) (hx : xs.length ≤ 65536) (k : Nat) (hk : k ≤ xs.length) :
 Bytes w (.slice (if cap = k then some ⟨bk, o, none⟩ else some ⟨bk, o + k, none⟩) (xs.length - k) (cap - k)) (xs.drop k) := by
 by_cases hc : cap = k
 · rw [if_pos hc, show xs.length - k = 0 by omega, List.drop_of_length_le (by omega)]; exact Bytes.nil w _ _ (by omega)
 · rw [if_neg hc]; exact Bytes.mk (h.drop k) (by simp) (by omega) (by omega) (by omega)
theorem OwnB.mono {w : World} {base base' : Nat} {e : TypeId} {v : Value} {xs : List UInt8} (h : OwnB w base e v xs) (hb : base' ≤ base) : OwnB w base' e v xs := by
 obtain ⟨h1, h2⟩ := h; refine ⟨h1, ?_⟩; rcases h2 with h2 | ⟨g, cap, cur, rfl, hbg, hg, r⟩
 · exact .inl h2
 · exact .inr ⟨g, cap, cur, rfl, Nat.le_trans hb hbg, hg, r⟩
end Go.Proofs.YtjapbjmeoaagmaaGreatDoor
