/- A text of this proof. -/
import Derived.Test.YtjapbjmeoaagmaaGreatDoorEPrintWDecV
set_option linter.unusedVariables false
set_option linter.unusedSimpArgs false
set_option maxRecDepth 100000
namespace Orange
def tailE (neg : Bool) (all : List UInt8) (exp : Int) (R : List UInt8) : Num × Int :=
  if !(expP R).2.2 || !(expP R).2.1.isEmpty then (Num.zero, 2) else formP neg all (exp + (expP R).1)
def midP (neg : Bool) (u : List UInt8) : Num × Int :=
  if u.takeWhile isDig = [] ∨ (1 < (u.takeWhile isDig).length ∧ u.head? = some 48) then (Num.zero, 2)
  else if (u.dropWhile isDig).head? = some 46 then
    (if (((u.dropWhile isDig).drop 1).takeWhile isDig) = [] then (Num.zero, 2)
     else tailE neg (u.takeWhile isDig ++ ((u.dropWhile isDig).drop 1).takeWhile isDig) (-((((u.dropWhile isDig).drop 1).takeWhile isDig).length : Int)) (((u.dropWhile isDig).drop 1).dropWhile isDig))
  else tailE neg (u.takeWhile isDig) 0 (u.dropWhile isDig)
theorem head_take (u : List UInt8) (h : u.takeWhile isDig ≠ []) : (u.takeWhile isDig).head? = u.head? := by
  cases u with
  | nil => rfl
  | cons c t =>
    rw [List.takeWhile_cons] at h ⊢
    split
    · rfl
    · rename_i h2; rw [if_neg h2] at h; exact absurd rfl h
theorem decP_mid (l : List UInt8) (h : l.length ≤ 1000) : decP l = midP (decide (l.head? = some 45)) (if l.head? = some 45 then l.drop 1 else l) := by
  unfold decP
  rw [if_neg (by omega)]
  simp only
  generalize (if l.head? = some 45 then l.drop 1 else l) = u
  generalize decide (l.head? = some 45) = neg
  by_cases hW : u.takeWhile isDig = []
  · have hm : midP neg u = (Num.zero, 2) := by unfold midP; rw [if_pos (.inl hW)]
    rw [hm, hW]; simp
  · have hh := head_take u hW
    have hW2 : (u.takeWhile isDig).isEmpty = false := by simpa using hW
    rw [hh, hW2]
    by_cases hz : 1 < (u.takeWhile isDig).length ∧ u.head? = some 48
    · have hm : midP neg u = (Num.zero, 2) := by unfold midP; rw [if_pos (.inr hz)]
      rw [hm]; simp [hz.1, hz.2]
    · have hz2 : (decide (1 < (u.takeWhile isDig).length) && decide (u.head? = some 48)) = false := by
        rw [Bool.eq_false_iff]; simpa using hz
      rw [hz2]
      unfold midP
      rw [if_neg (c := u.takeWhile isDig = [] ∨ _) (fun h => h.elim hW hz)]
      by_cases hp : (u.dropWhile isDig).head? = some 46
      · rw [if_pos hp]
        simp only [hp, decide_true, if_true, Bool.true_and]
        by_cases hq : ((u.dropWhile isDig).drop 1).takeWhile isDig = []
        · rw [if_pos hq, hq]; simp
        · have hq2 : (((u.dropWhile isDig).drop 1).takeWhile isDig).isEmpty = false := by simpa using hq
          rw [if_neg hq, hq2]
          simp only [Bool.or_false]
          unfold tailE
          split
          · rfl
          · congr 1; omega
      · rw [if_neg hp]
        simp only [hp, decide_false, if_false, Bool.false_and, Bool.or_false, Bool.false_eq_true]
        unfold tailE
        split
        · rfl
        · simp
theorem run_le (u : List UInt8) : (u.takeWhile isDig).length ≤ u.length := (List.takeWhile_sublist (p := isDig) (l := u)).length_le
theorem expP_yes (c : UInt8) (t v : List UInt8) (h : isE c = true) (hv : (if t.head? = some 45 ∨ t.head? = some 43 then t.drop 1 else t) = v) : expP (c :: t) = (if t.head? = some 45 then - small (v.takeWhile isDig) 0 else small (v.takeWhile isDig) 0, v.dropWhile isDig, !(v.takeWhile isDig).isEmpty) := by
  subst hv; simp only [expP, h, if_true]
end Orange
