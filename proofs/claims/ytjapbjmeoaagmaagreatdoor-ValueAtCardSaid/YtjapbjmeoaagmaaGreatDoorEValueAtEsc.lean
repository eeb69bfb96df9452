/- A text of this proof. -/
import Derived.Test.YtjapbjmeoaagmaaGreatDoorEValueAtUtfGo
import Derived.Lib.Bytealg
set_option linter.unusedVariables false
set_option linter.unusedSimpArgs false
set_option maxRecDepth 100000
namespace Orange
open Go
def hexs : List UInt8 := [48, 49, 50, 51, 52, 53, 54, 55, 56, 57, 97, 98, 99, 100, 101, 102]
end Orange
