/- A text of this proof. -/
import Derived.Test.YtjapbjmeoaagmaaGreatDoorEPrintIsPaT
import Derived.Test.YtjapbjmeoaagmaaGreatDoorEPrintIsDecP
import Derived.Test.YtjapbjmeoaagmaaGreatDoorEPrintIsWEscB
import Derived.Test.YtjapbjmeoaagmaaGreatDoorEPrintIsWUtfC
set_option linter.unusedVariables false
set_option linter.unusedSimpArgs false
namespace Orange
inductive Tree where
 | mk (kind : Int) (b : Bool) (n : Num) (s : List UInt8) (l : List Tree) (m : List (List UInt8 × Tree))
def Tree.kind : Tree → Int | .mk k _ _ _ _ _ => k
def Tree.list : Tree → List Tree | .mk _ _ _ _ l _ => l
def Tree.mems : Tree → List (List UInt8 × Tree) | .mk _ _ _ _ _ m => m
def Tree.str : Tree → List UInt8 | .mk _ _ _ s _ _ => s
def tNull : Tree := .mk 0 false Num.zero [] [] []
def tBool (b : Bool) : Tree := .mk 1 b Num.zero [] [] []
def tNum (d : Num) : Tree := .mk 2 false d [] [] []
def tStr (s : List UInt8) : Tree := .mk 3 false Num.zero s [] []
def tArr (l : List Tree) : Tree := .mk 4 false Num.zero [] l []
def tObj (m : List (List UInt8 × Tree)) : Tree := .mk 5 false Num.zero [] [] m
inductive PR (α : Type) where
 | ok (v : α) (a n : Nat)
 | err (e : Int) (a : Nat)
def PR.map {α β : Type} (f : α → β) : PR α → PR β
 | .ok v a n => .ok (f v) a n
 | .err e a => .err e a
def peekP (xs : List UInt8) (a : Nat) : UInt8 := xs.getD a 0
def isFig (c : UInt8) : Bool := isDig c || decide (c.toNat = 43) || decide (c.toNat = 45) || decide (c.toNat = 46) || decide (c.toNat = 101) || decide (c.toNat = 69)
def numEnd (xs : List UInt8) (a : Nat) : Nat := xs.length - ((xs.drop a).dropWhile isFig).length
def numP (xs : List UInt8) (a n : Nat) : PR Tree :=
 let d := decP ((xs.drop a).take (numEnd xs a - a))
 if d.2 = 0 then .ok (tNum d.1) (numEnd xs a) n else .err d.2 a
def wordP (xs s : List UInt8) (t : Tree) (a n : Nat) : PR Tree := if (xs.drop a).take s.length = s then .ok t (a + s.length) n else .err 2 a
def textL (xs : List UInt8) (n : Nat) : Nat → Nat → List UInt8 → PR (List UInt8)
 | 0, a, _ => .err 2 a
 | f + 1, a, out =>
   if peekP xs a = 34 then .ok out (a + 1) n
   else if ¬ (0 < (next (xs.drop a)).2 ∧ 32 ≤ (next (xs.drop a)).1) then .err 2 a
   else if (next (xs.drop a)).1 = 92 then
    (if ¬ 0 < (escape (xs.drop (a + 1))).2 then .err 2 a
     else textL xs n f (a + ((escape (xs.drop (a + 1))).2 + 1)) (out ++ encP (escape (xs.drop (a + 1))).1))
   else textL xs n f (a + (next (xs.drop a)).2) (out ++ encP (next (xs.drop a)).1)
def textP (xs : List UInt8) (a n : Nat) : PR (List UInt8) := if xs[a]? = some 34 then textL xs n (xs.length + 1) (a + 1) [] else .err 2 a
def listP {σ : Type} (xs : List UInt8) (close : UInt8) (item : σ → Nat → Nat → PR σ) : Nat → σ → Nat → Nat → PR σ
 | 0, _, a, _ => .err 2 a
 | f + 1, s, a, n =>
   match item s a n with
   | .err e b => .err e b
   | .ok s1 a1 n1 =>
     if peekP xs (whiteN xs a1) = 44 then listP xs close item f s1 (whiteN xs a1 + 1) n1
     else if xs[whiteN xs a1]? = some close then .ok s1 (whiteN xs a1 + 1) n1 else .err 2 (whiteN xs a1)
def openP {σ : Type} (xs : List UInt8) (close : UInt8) (item : σ → Nat → Nat → PR σ) (s : σ) (a n : Nat) : PR σ :=
 if peekP xs (whiteN xs (a + 1)) = close then .ok s (whiteN xs (a + 1) + 1) n else listP xs close item (xs.length + 1) s (whiteN xs (a + 1)) n
def begs : List UInt8 := [116, 102, 110, 45, 48, 49, 50, 51, 52, 53, 54, 55, 56, 57, 34, 91, 123]
def itemA (val : Nat → Nat → PR Tree) (acc : List Tree) (a n : Nat) : PR (List Tree) := (val a n).map fun t => acc ++ [t]
def itemO (xs : List UInt8) (val : Nat → Nat → PR Tree) (acc : List (List UInt8 × Tree)) (a n : Nat) : PR (List (List UInt8 × Tree)) :=
 match textP xs (whiteN xs a) n with
 | .err e b => .err e b
 | .ok key a1 n1 =>
   if acc.any (fun x => x.1 == key) then .err 7 (whiteN xs a)
   else if xs[whiteN xs a1]? = some 58 then (val (whiteN xs a1 + 1) n1).map fun t => acc ++ [(key, t)]
   else .err 2 (whiteN xs a1)
def valueP (xs : List UInt8) : Nat → Nat → Nat → Nat → PR Tree
 | 0, _, a, _ => .err 2 a
 | f + 1, deep, a0, n0 =>
   if ¬ (peekP xs (whiteN xs a0) ≠ 0 ∧ begs.contains (peekP xs (whiteN xs a0)) = true) then .err 2 (whiteN xs a0)
   else if 4096 < n0 + 1 then .err 4 (whiteN xs a0)
   else if peekP xs (whiteN xs a0) = 116 then wordP xs [116, 114, 117, 101] (tBool true) (whiteN xs a0) (n0 + 1)
   else if peekP xs (whiteN xs a0) = 102 then wordP xs [102, 97, 108, 115, 101] (tBool false) (whiteN xs a0) (n0 + 1)
   else if peekP xs (whiteN xs a0) = 110 then wordP xs [110, 117, 108, 108] tNull (whiteN xs a0) (n0 + 1)
   else if peekP xs (whiteN xs a0) = 34 then (textP xs (whiteN xs a0) (n0 + 1)).map tStr
   else if peekP xs (whiteN xs a0) = 91 then (if 64 ≤ deep then .err 3 (whiteN xs a0) else (openP xs 93 (itemA (valueP xs f (deep + 1))) [] (whiteN xs a0) (n0 + 1)).map tArr)
   else if peekP xs (whiteN xs a0) = 123 then (if 64 ≤ deep then .err 3 (whiteN xs a0) else (openP xs 125 (itemO xs (valueP xs f (deep + 1))) [] (whiteN xs a0) (n0 + 1)).map tObj)
   else numP xs (whiteN xs a0) (n0 + 1)
def oneP (xs : List UInt8) (a : Int) : PR Tree := valueP xs 65 0 (clampN xs.length a) 0
def parseP (xs : List UInt8) : Tree × Int × Nat :=
 if 65536 < xs.length then (tNull, 4, 0)
 else match oneP xs 0 with
  | .err e a => (tNull, e, a)
  | .ok t a _ => if whiteN xs a < xs.length then (tNull, 2, whiteN xs a) else (t, 0, whiteN xs a)
end Orange
