/- A text of this proof. -/

set_option linter.unusedVariables false
set_option linter.unusedSimpArgs false
set_option maxRecDepth 100000
namespace Orange
structure Num where
 neg : Bool
 digits : List UInt8
 exp : Int
deriving DecidableEq
def Num.zero : Num := ⟨false, [], 0⟩
def isDig (c : UInt8) : Bool := decide (48 ≤ c.toNat) && decide (c.toNat ≤ 57)
def dig (c : UInt8) : Int := (c.toNat : Int) - 48
theorem isDig_iff (c : UInt8) : isDig c = true ↔ 48 ≤ c.toNat ∧ c.toNat ≤ 57 := by simp [isDig]
def height (d : Num) : Int := (d.digits.length : Int) + d.exp
def sane (d : Num) : Bool :=
 if d.digits.length = 0 then !d.neg && decide (d.exp = 0)
 else if decide (40 < d.digits.length) || !(d.digits.all isDig) then false
 else if decide (d.exp < -800) || decide (800 < d.exp) then false
 else decide (-400 ≤ height d) && decide (height d ≤ 400) && (d.digits.head? != some 48) && (d.digits.getLast? != some 48)
def trimL0 (l : List UInt8) : List UInt8 := l.dropWhile (· == 48)
def trimR0 (l : List UInt8) : List UInt8 := (l.reverse.dropWhile (· == 48)).reverse
def formP (neg : Bool) (digits : List UInt8) (exp : Int) : Num × Int :=
 let dg := trimL0 digits
 let short := trimR0 dg
 if short = [] then (Num.zero, 0)
 else
  let d : Num := ⟨neg, short, exp + dg.length - short.length⟩
  if sane d then (d, 0) else (Num.zero, 4)
def small : List UInt8 → Int → Int
 | [], n => n
 | c :: t, n => small t (min (n * 10 + dig c) 1000000)
def isE (c : UInt8) : Bool := decide (c.toNat = 69) || decide (c.toNat = 101)
def expP : List UInt8 → Int × List UInt8 × Bool
 | [] => (0, [], true)
 | c :: t =>
   if isE c then
    let minus := t.head? = some 45
    let u := if t.head? = some 45 ∨ t.head? = some 43 then t.drop 1 else t
    let ds := u.takeWhile isDig
    (if minus then - small ds 0 else small ds 0, u.dropWhile isDig, !ds.isEmpty)
   else (0, c :: t, true)
def decP (s : List UInt8) : Num × Int :=
 if 1000 < s.length then (Num.zero, 4)
 else
  let neg := decide (s.head? = some 45)
  let s := if s.head? = some 45 then s.drop 1 else s
  let whole := s.takeWhile isDig
  let rest := s.dropWhile isDig
  let point := decide (rest.head? = some 46)
  let behind := rest.drop 1
  let part := if point then behind.takeWhile isDig else []
  let rest := if point then behind.dropWhile isDig else rest
  let e := expP rest
  if !e.2.2 || !e.2.1.isEmpty || whole.isEmpty || (decide (1 < whole.length) && decide (whole.head? = some 48)) || (point && part.isEmpty) then (Num.zero, 2)
  else formP neg (whole ++ part) (e.1 - part.length)
end Orange
