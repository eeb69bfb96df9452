/- A text of this proof. -/
import Derived.Test.YtjapbjmeoaagmaaGreatDoorEValueAtPaK
set_option linter.unusedVariables false
set_option linter.unusedSimpArgs false
set_option maxRecDepth 100000
namespace Go.Proofs.YtjapbjmeoaagmaaGreatDoor
open Go.RowKit Go.Mem Orange
end Go.Proofs.YtjapbjmeoaagmaaGreatDoor
