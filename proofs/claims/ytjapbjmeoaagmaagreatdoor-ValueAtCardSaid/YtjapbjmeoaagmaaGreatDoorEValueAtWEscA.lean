/- A text of this proof. -/
import Derived.Test.YtjapbjmeoaagmaaGreatDoorEValueAtWUtfC
import Derived.Test.YtjapbjmeoaagmaaGreatDoorEValueAtEsc
import Derived.Test.YtjapbjmeoaagmaaGreatDoorEValueAtShelf
set_option linter.unusedVariables false
set_option linter.unusedSimpArgs false
set_option maxRecDepth 100000
namespace Go.Proofs.YtjapbjmeoaagmaaGreatDoor
open Go.RowKit Go.Mem Orange
theorem idx_eq (s : ByteArray) (c : UInt8) (r : Int) (w : World) (h : Lib.indexByte s.data.toList c = r) :
 Calls Tryz.prog 105 #[.string s, .int .u8 c.toNat] w fun e w' => e = .returned (.int .i64 r) ∧ w = w' := by
 refine (Tryz.strings_IndexByte s c.toNat w).mono ?_; rintro e w' ⟨rfl, rfl⟩; refine ⟨ret_int ?_, rfl⟩; rw [← h]; congr 1
 simp
end Go.Proofs.YtjapbjmeoaagmaaGreatDoor
