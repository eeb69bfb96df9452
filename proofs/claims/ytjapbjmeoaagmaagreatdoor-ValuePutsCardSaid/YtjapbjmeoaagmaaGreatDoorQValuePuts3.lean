/- Several texts of this proof in one. -/
import Derived.Test.YtjapbjmeoaagmaaGreatDoorQValuePuts1
set_option linter.unusedVariables false
set_option linter.unusedSimpArgs false
set_option maxRecDepth 100000
section
set_option maxRecDepth 100000
namespace Orange
mutual
def fewT : Nat → Int → Tree → Int
 | deep, left, .mk _ _ d s l m => if 150 < deep then -1 else fewM (deep + 1) (fewL (deep + 1) (left - 1 - s.length - d.digits.length) l) m
def fewL : Nat → Int → List Tree → Int
 | _, left, [] => left
 | deep, left, t :: l => if 0 ≤ left then fewL deep (fewT deep left t) l else left
def fewM : Nat → Int → List Mem1 → Int
 | _, left, [] => left
 | deep, left, (k, t) :: m => if 0 ≤ left then fewM deep (fewT deep (left - k.length) t) m else left
end
theorem fewL_cons (deep : Nat) (left : Int) (t : Tree) (l : List Tree) : fewL deep left (t :: l) = if 0 ≤ left then fewL deep (fewT deep left t) l else left := by rw [fewL]
theorem fewM_cons (deep : Nat) (left : Int) (k : List UInt8) (t : Tree) (l : List Mem1) : fewM deep left ((k, t) :: l) = if 0 ≤ left then fewM deep (fewT deep (left - k.length) t) l else left := by rw [fewM]
theorem fewL_neg (deep : Nat) (left : Int) (l : List Tree) (h : left < 0) : fewL deep left l = left := by
 cases l with
 | nil => rw [fewL]
 | cons t l => rw [fewL, if_neg (by omega)]
theorem fewM_neg (deep : Nat) (left : Int) (l : List Mem1) (h : left < 0) : fewM deep left l = left := by
 cases l with
 | nil => rw [fewM]
 | cons t l => obtain ⟨k, t⟩ := t; rw [fewM, if_neg (by omega)]
mutual
theorem fewT_weight : ∀ (t : Tree) (deep : Nat) (left : Int), 0 ≤ fewT deep left t → fewT deep left t + weightT t = left
 | .mk _ _ d s l m, deep, left, h => by
   rw [fewT] at h ⊢; split at h
   · omega
   · next hd =>
     rw [if_neg hd, weightT]; have h2 := fewM_weight m (deep + 1) _ h; have h1 : 0 ≤ fewL (deep + 1) (left - 1 - s.length - d.digits.length) l := by
      rcases Int.lt_or_le (fewL (deep + 1) (left - 1 - s.length - d.digits.length) l) 0 with h0 | h0
      · rw [fewM_neg _ _ _ h0] at h; omega
      · exact h0
     have h3 := fewL_weight l (deep + 1) _ h1; omega
theorem fewL_weight : ∀ (l : List Tree) (deep : Nat) (left : Int), 0 ≤ fewL deep left l → fewL deep left l + weightL l = left
 | [], deep, left, h => by rw [fewL, weightL]; omega
 | t :: l, deep, left, h => by
   rw [fewL] at h ⊢; split at h
   · next h0 =>
     rw [if_pos h0, weightL]; have h2 := fewL_weight l deep _ h; have h1 : 0 ≤ fewT deep left t := by
      rcases Int.lt_or_le (fewT deep left t) 0 with h3 | h3
      · rw [fewL_neg _ _ _ h3] at h; omega
      · exact h3
     have := fewT_weight t deep left h1; omega
   · omega
theorem fewM_weight : ∀ (l : List Mem1) (deep : Nat) (left : Int), 0 ≤ fewM deep left l → fewM deep left l + weightM l = left
 | [], deep, left, h => by rw [fewM, weightM]; omega
 | (k, t) :: l, deep, left, h => by
   rw [fewM] at h ⊢; split at h
   · next h0 =>
     rw [if_pos h0, weightM]; have h2 := fewM_weight l deep _ h; have h1 : 0 ≤ fewT deep (left - k.length) t := by
      rcases Int.lt_or_le (fewT deep (left - k.length) t) 0 with h3 | h3
      · rw [fewM_neg _ _ _ h3] at h; omega
      · exact h3
     have := fewT_weight t deep _ h1; omega
   · omega
end
mutual
theorem fewT_bd : ∀ (t : Tree) (deep : Nat) (left : Int), okT t → -140737488355328 ≤ left → -600000000000000 ≤ fewT deep left t ∧ fewT deep left t ≤ max left 0
 | .mk _ _ d s l m, deep, left, h, hl => by
   rw [okT] at h; obtain ⟨_, _, h1, h2, _, _, h3, h4⟩ := h; rw [fewT]; split
   · omega
   · have a := fewL_bd l (deep + 1) (left - 1 - s.length - d.digits.length) h3 (by omega); have b := fewM_bd m (deep + 1) (fewL (deep + 1) (left - 1 - s.length - d.digits.length) l) h4 (by omega); omega
theorem fewL_bd : ∀ (l : List Tree) (deep : Nat) (left : Int), okL l → -600000000000000 ≤ left → -600000000000000 ≤ fewL deep left l ∧ fewL deep left l ≤ max left 0
 | [], deep, left, h, hl => by rw [fewL]; omega
 | t :: l, deep, left, h, hl => by
   rw [okL] at h; rw [fewL]; split
   · have a := fewT_bd t deep left h.1 (by omega); have b := fewL_bd l deep (fewT deep left t) h.2 (by omega); omega
   · omega
theorem fewM_bd : ∀ (l : List Mem1) (deep : Nat) (left : Int), okM l → -600000000000000 ≤ left → -600000000000000 ≤ fewM deep left l ∧ fewM deep left l ≤ max left 0
 | [], deep, left, h, hl => by rw [fewM]; omega
 | (k, t) :: l, deep, left, h, hl => by
   rw [okM] at h; rw [fewM]; split
   · have a := fewT_bd t deep (left - k.length) h.2.1 (by omega); have b := fewM_bd l deep (fewT deep (left - k.length) t) h.2.2 (by omega); omega
   · omega
end
theorem fewL_take (deep : Nat) : ∀ (l : List Tree) (left : Int) (i : Nat) (h : i < l.length), fewL deep left (l.take (i + 1)) = if 0 ≤ fewL deep left (l.take i) then fewT deep (fewL deep left (l.take i)) l[i] else fewL deep left (l.take i)
 | t :: l, left, 0, h => by simp [fewL]
 | t :: l, left, i + 1, h => by
   have e : fewL deep left ((t :: l).take (i + 1)) = if 0 ≤ left then fewL deep (fewT deep left t) (l.take i) else left := by rw [List.take_succ_cons, fewL_cons]
   rw [e, List.take_succ_cons, fewL_cons, List.getElem_cons_succ]; by_cases h0 : 0 ≤ left
   · rw [if_pos h0, if_pos h0, fewL_take deep l _ i (by simpa using h)]
   · rw [if_neg h0, if_neg h0, if_neg h0]
theorem fewM_take (deep : Nat) : ∀ (l : List Mem1) (left : Int) (i : Nat) (h : i < l.length), fewM deep left (l.take (i + 1)) = if 0 ≤ fewM deep left (l.take i) then fewT deep (fewM deep left (l.take i) - l[i].1.length) l[i].2 else fewM deep left (l.take i)
 | (k, t) :: l, left, 0, h => by simp [fewM]
 | (k, t) :: l, left, i + 1, h => by
   have e : fewM deep left (((k, t) :: l).take (i + 1)) = if 0 ≤ left then fewM deep (fewT deep (left - k.length) t) (l.take i) else left := by rw [List.take_succ_cons, fewM_cons]
   rw [e, List.take_succ_cons, fewM_cons, List.getElem_cons_succ]; by_cases h0 : 0 ≤ left
   · rw [if_pos h0, if_pos h0, fewM_take deep l _ i (by simpa using h)]
   · rw [if_neg h0, if_neg h0, if_neg h0]
theorem fewL_stop (deep : Nat) (l : List Tree) (left : Int) (i : Nat) (h : fewL deep left (l.take i) < 0) : fewL deep left l = fewL deep left (l.take i) := by
 have : ∀ (a b : List Tree) (left : Int), fewL deep left (a ++ b) = fewL deep (fewL deep left a) b := by
  intro a; induction a with
  | nil => intro b left; rw [List.nil_append, fewL]
  | cons t a ih =>
    intro b left; rw [List.cons_append, fewL_cons, fewL_cons]; by_cases h0 : 0 ≤ left
    · rw [if_pos h0, if_pos h0, ih]
    · rw [if_neg h0, if_neg h0, fewL_neg _ _ _ (by omega)]
 conv => lhs; rw [← List.take_append_drop i l, this, fewL_neg _ _ _ h]
theorem fewM_stop (deep : Nat) (l : List Mem1) (left : Int) (i : Nat) (h : fewM deep left (l.take i) < 0) : fewM deep left l = fewM deep left (l.take i) := by
 have : ∀ (a b : List Mem1) (left : Int), fewM deep left (a ++ b) = fewM deep (fewM deep left a) b := by
  intro a; induction a with
  | nil => intro b left; rw [List.nil_append, fewM]
  | cons t a ih =>
    intro b left; obtain ⟨k, t⟩ := t; rw [List.cons_append, fewM_cons, fewM_cons]; by_cases h0 : 0 ≤ left
    · rw [if_pos h0, if_pos h0, ih]
    · rw [if_neg h0, if_neg h0, fewM_neg _ _ _ (by omega)]
 conv => lhs; rw [← List.take_append_drop i l, this, fewM_neg _ _ _ h]
end Orange
end
