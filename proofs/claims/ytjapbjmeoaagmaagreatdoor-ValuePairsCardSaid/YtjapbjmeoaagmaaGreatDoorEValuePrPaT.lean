/- A text of this proof. -/
import Derived.Test.YtjapbjmeoaagmaaGreatDoorEValuePrShelf
import Derived.Test.YtjapbjmeoaagmaaGreatDoorEValuePrConv
import Derived.Test.YtjapbjmeoaagmaaGreatDoorEValuePrStr
import Derived.Test.YtjapbjmeoaagmaaGreatDoorEValuePrUtfGo
import Derived.Shelf.Strings.SlTrimAscii
import Derived.Lib.AsciiSet
import Derived.Laws.Strings3
import Derived.Laws.ResultCell
import Derived.Deep.LoopGhost
import Derived.Deep.WholeRow
set_option linter.unusedVariables false
set_option linter.unusedSimpArgs false
set_option maxRecDepth 100000
namespace Orange
end Orange
namespace Go.Proofs.YtjapbjmeoaagmaaGreatDoor
open Go.RowKit Go.Mem Go.Lib Orange
theorem Bytes.shape {w : World} {v : Value} {xs : List UInt8} (h : Bytes w v xs) : (xs = [] ∧ ∃ a cap, v = .slice a 0 cap ∧ cap ≤ 9223372036854775807) ∨ (0 < xs.length ∧ ∃ b o cap, v = .slice (some ⟨b, o, none⟩) xs.length cap ∧ xs.length ≤ cap ∧ cap ≤ 9223372036854775807 ∧ xs.length ≤ 140737488355328 ∧ BytesAt w (some ⟨b, o, none⟩) xs) := by
 obtain ⟨a, cap, e, h1, h2, h3, h4⟩ := h; by_cases h0 : xs.length = 0
 · obtain rfl : xs = [] := List.eq_nil_of_length_eq_zero h0; exact .inl ⟨rfl, a, cap, e, h2⟩
 · obtain ⟨b, o, rfl, hlt, hc⟩ := h4 (by omega); exact .inr ⟨by omega, b, o, cap, e, h1, h2, h3, h4⟩
theorem Bytes.tail {w : World} {b o n cap : Nat} {x : UInt8} {t : List UInt8} (h : BytesAt w (some ⟨b, o, none⟩) (x :: t)) (hn : t.length + 1 ≤ cap) (hc : cap ≤ 9223372036854775807) (hl : t.length + 1 ≤ 140737488355328) (a : Option Addr) (ha : 0 < t.length → a = some ⟨b, o + 1, none⟩) : Bytes w (.slice a t.length (cap - 1)) t := by
 cases t with
 | nil => exact Bytes.nil _ _ _ (by omega)
 | cons y u =>
   rw [ha (by simp)]; have := h.drop 1; simp only [List.drop_succ_cons, List.drop_zero] at this; exact Bytes.mk this rfl (by simp at hn ⊢; omega) (by omega) (by simp at hl ⊢; omega)
end Go.Proofs.YtjapbjmeoaagmaaGreatDoor
