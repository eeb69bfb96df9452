/- A text of this proof. -/
import Derived.Test.YtjapbjmeoaagmaaGreatDoorEPrintIsDecV
set_option linter.unusedVariables false
set_option linter.unusedSimpArgs false
set_option maxRecDepth 100000
namespace Orange
def tailE (neg : Bool) (all : List UInt8) (exp : Int) (R : List UInt8) : Num × Int :=
 if !(expP R).2.2 || !(expP R).2.1.isEmpty then (Num.zero, 2) else formP neg all (exp + (expP R).1)
def midP (neg : Bool) (u : List UInt8) : Num × Int :=
 if u.takeWhile isDig = [] ∨ (1 < (u.takeWhile isDig).length ∧ u.head? = some 48) then (Num.zero, 2)
 else if (u.dropWhile isDig).head? = some 46 then
  (if (((u.dropWhile isDig).drop 1).takeWhile isDig) = [] then (Num.zero, 2)
   else tailE neg (u.takeWhile isDig ++ ((u.dropWhile isDig).drop 1).takeWhile isDig) (-((((u.dropWhile isDig).drop 1).takeWhile isDig).length : Int)) (((u.dropWhile isDig).drop 1).dropWhile isDig))
 else tailE neg (u.takeWhile isDig) 0 (u.dropWhile isDig)
theorem expP_yes (c : UInt8) (t v : List UInt8) (h : isE c = true) (hv : (if t.head? = some 45 ∨ t.head? = some 43 then t.drop 1 else t) = v) : expP (c :: t) = (if t.head? = some 45 then - small (v.takeWhile isDig) 0 else small (v.takeWhile isDig) 0, v.dropWhile isDig, !(v.takeWhile isDig).isEmpty) := by
 subst hv; simp only [expP, h, if_true]
end Orange
