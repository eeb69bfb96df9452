/- A text of this proof. -/
import Derived.Test.YtjapbjmeoaagmaaGreatDoorEValueAtPaT
import Derived.Test.YtjapbjmeoaagmaaGreatDoorEValueAtDecP
import Derived.Test.YtjapbjmeoaagmaaGreatDoorEValueAtWEscB
import Derived.Test.YtjapbjmeoaagmaaGreatDoorEValueAtWUtfC
set_option linter.unusedVariables false
set_option linter.unusedSimpArgs false
namespace Orange
inductive Tree where
 | mk (kind : Int) (b : Bool) (n : Num) (s : List UInt8) (l : List Tree) (m : List (List UInt8 × Tree))
def Tree.kind : Tree → Int | .mk k _ _ _ _ _ => k
def Tree.list : Tree → List Tree | .mk _ _ _ _ l _ => l
def Tree.mems : Tree → List (List UInt8 × Tree) | .mk _ _ _ _ _ m => m
def Tree.str : Tree → List UInt8 | .mk _ _ _ s _ _ => s
def tNull : Tree := .mk 0 false Num.zero [] [] []
def tBool (b : Bool) : Tree := .mk 1 b Num.zero [] [] []
def tObj (m : List (List UInt8 × Tree)) : Tree := .mk 5 false Num.zero [] [] m
inductive PR (α : Type) where
 | ok (v : α) (a n : Nat)
 | err (e : Int) (a : Nat)
def PR.map {α β : Type} (f : α → β) : PR α → PR β
 | .ok v a n => .ok (f v) a n
 | .err e a => .err e a
end Orange
