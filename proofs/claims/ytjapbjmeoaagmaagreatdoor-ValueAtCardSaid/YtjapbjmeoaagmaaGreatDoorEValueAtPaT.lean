/- A text of this proof. -/
import Derived.Test.YtjapbjmeoaagmaaGreatDoorEValueAtShelf
import Derived.Test.YtjapbjmeoaagmaaGreatDoorEValueAtConv
import Derived.Test.YtjapbjmeoaagmaaGreatDoorEValueAtStr
import Derived.Test.YtjapbjmeoaagmaaGreatDoorEValueAtUtfGo
import Derived.Shelf.Strings.SlTrimAscii
import Derived.Lib.AsciiSet
import Derived.Laws.Strings3
import Derived.Laws.ResultCell
import Derived.Deep.LoopGhost
import Derived.Deep.WholeRow
set_option linter.unusedVariables false
set_option linter.unusedSimpArgs false
set_option maxRecDepth 100000
namespace Orange
end Orange
namespace Go.Proofs.YtjapbjmeoaagmaaGreatDoor
open Go.RowKit Go.Mem Go.Lib Orange
theorem Bytes.tail {w : World} {b o n cap : Nat} {x : UInt8} {t : List UInt8} (h : BytesAt w (some ⟨b, o, none⟩) (x :: t)) (hn : t.length + 1 ≤ cap) (hc : cap ≤ 9223372036854775807) (hl : t.length + 1 ≤ 140737488355328) (a : Option Addr) (ha : 0 < t.length → a = some ⟨b, o + 1, none⟩) : Bytes w (.slice a t.length (cap - 1)) t := by
 cases t with
 | nil => exact Bytes.nil _ _ _ (by omega)
 | cons y u =>
   rw [ha (by simp)]; have := h.drop 1; simp only [List.drop_succ_cons, List.drop_zero] at this; exact Bytes.mk this rfl (by simp at hn ⊢; omega) (by omega) (by simp at hl ⊢; omega)
end Go.Proofs.YtjapbjmeoaagmaaGreatDoor
