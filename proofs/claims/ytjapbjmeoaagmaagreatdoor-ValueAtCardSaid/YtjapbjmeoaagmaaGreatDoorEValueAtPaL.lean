/- A text of this proof. -/
import Derived.Test.YtjapbjmeoaagmaaGreatDoorEValueAtPaH
import Derived.Test.YtjapbjmeoaagmaaGreatDoorEValueAtGrowS
set_option linter.unusedVariables false
set_option linter.unusedSimpArgs false
set_option maxRecDepth 100000
namespace Go.Proofs.YtjapbjmeoaagmaaGreatDoor
open Go.RowKit Go.Mem Orange
def EndL {σ : Type} (p B : Nat) (v : Value) (xs : List UInt8) (St : σ → World → Prop) (w : World) (e : Ending) (w' : World) : PR σ → Prop
 | .ok s a n => e = .returned (.tuple #[]) ∧ PS w' p v xs a n ∧ St s w' ∧ Kept B p w w'
 | .err er b => e = .panicked (wrongV er b) ∧ Kept B p w w'
theorem EndL.trans {σ : Type} {p B : Nat} {v : Value} {xs : List UInt8} {St : σ → World → Prop} {w0 w w' : World} {e : Ending} {r : PR σ} (h : EndL p B v xs St w e w' r) (hk : Kept B p w0 w) : EndL p B v xs St w0 e w' r := by
 cases r with
 | ok s a n => exact ⟨h.1, h.2.1, h.2.2.1, hk.trans h.2.2.2⟩
 | err er b => exact ⟨h.1, hk.trans h.2⟩
end Go.Proofs.YtjapbjmeoaagmaaGreatDoor
