/- A text of this proof. -/

set_option linter.unusedVariables false
set_option linter.unusedSimpArgs false
set_option maxRecDepth 100000
namespace Orange
structure Num where
 neg : Bool
 digits : List UInt8
 exp : Int
deriving DecidableEq
def Num.zero : Num := ⟨false, [], 0⟩
def isDig (c : UInt8) : Bool := decide (48 ≤ c.toNat) && decide (c.toNat ≤ 57)
def height (d : Num) : Int := (d.digits.length : Int) + d.exp
def sane (d : Num) : Bool :=
 if d.digits.length = 0 then !d.neg && decide (d.exp = 0)
 else if decide (40 < d.digits.length) || !(d.digits.all isDig) then false
 else if decide (d.exp < -800) || decide (800 < d.exp) then false
 else decide (-400 ≤ height d) && decide (height d ≤ 400) && (d.digits.head? != some 48) && (d.digits.getLast? != some 48)
end Orange
