/- The columns of a product (plain). -/
import Derived.Test.YtpheohgceepboaaDoorDecM
import Derived.Test.YtpheohgceepboaaDoorDecH
set_option linter.unusedVariables false
set_option linter.unusedSimpArgs false
namespace Go.Proofs.YtpheohgceepboaaDoor
open Orange

theorem sumF_zero : ∀ n, sumF (fun _ => 0) n = 0
  | 0 => rfl
  | n + 1 => by rw [sumF, sumF_zero n]; simp
theorem sumF_single (p : Nat) (v : Int) : ∀ n, sumF (fun j => if j = p then v else 0) n = if p < n then v * ((10 ^ p : Nat) : Int) else 0
  | 0 => by simp [sumF]
  | n + 1 => by
    rw [sumF, sumF_single p v n]
    by_cases h : p < n
    · have e1 : ¬ n = p := by omega
      have e2 : p < n + 1 := by omega
      simp [h, e1, e2]
    · by_cases e : n = p
      · subst e; simp
      · have e2 : ¬ p < n + 1 := by omega
        simp [h, e, e2]
def addRow (F : Nat → Int) (i : Nat) (X Y : Nat → Int) (k : Nat) : Nat → Int := fun j => if i ≤ j ∧ j < i + k then F j + X i * Y (j - i) else F j
theorem addRow_zero (F : Nat → Int) (i : Nat) (X Y : Nat → Int) : addRow F i X Y 0 = F := by funext j; unfold addRow; rw [if_neg (by omega)]
theorem addRow_step (F : Nat → Int) (i : Nat) (X Y : Nat → Int) (k j : Nat) : addRow F i X Y (k + 1) j = if j = i + k then addRow F i X Y k j + X i * Y k else addRow F i X Y k j := by
  unfold addRow
  by_cases h : j = i + k
  · subst h; rw [if_pos (by omega), if_pos rfl, if_neg (by omega), show i + k - i = k by omega]
  · rw [if_neg h]
    by_cases h2 : i ≤ j ∧ j < i + k
    · rw [if_pos h2, if_pos (by omega)]
    · rw [if_neg h2, if_neg (by omega)]
theorem sum_addRow (F : Nat → Int) (i : Nat) (X Y : Nat → Int) (n : Nat) : ∀ k, i + k ≤ n → sumF (addRow F i X Y k) n = sumF F n + X i * ((10 ^ i : Nat) : Int) * sumF Y k
  | 0, _ => by rw [addRow_zero]; simp [sumF]
  | k + 1, h => by
    have e : sumF (addRow F i X Y (k + 1)) n = sumF (fun j => addRow F i X Y k j + (fun j => if j = i + k then X i * Y k else 0) j) n := sumF_congr n (fun j _ => by rw [addRow_step]; split <;> simp_all)
    rw [e, sumF_add, sum_addRow F i X Y n k (by omega), sumF_single, if_pos (by omega), sumF, Nat.pow_add]
    generalize 10 ^ i = p
    generalize 10 ^ k = q
    generalize sumF F n = s
    generalize sumF Y k = t
    simp only [Int.natCast_mul]
    grind
def prodF (X Y : Nat → Int) (ny : Nat) : Nat → Nat → Int
  | 0 => fun _ => 0
  | i + 1 => addRow (prodF X Y ny i) i X Y ny
theorem sum_prodF (X Y : Nat → Int) (ny n : Nat) : ∀ i, i + ny ≤ n + 1 → sumF (prodF X Y ny i) n = sumF X i * sumF Y ny
  | 0, _ => by rw [prodF, sumF_zero, sumF, Int.zero_mul]
  | i + 1, h => by rw [prodF, sum_addRow _ _ _ _ _ _ (by omega), sum_prodF X Y ny n i (by omega), sumF, Int.add_mul]
theorem mul9 {x y : Int} (h1 : 0 ≤ x) (h2 : x ≤ 9) (h3 : 0 ≤ y) (h4 : y ≤ 9) : 0 ≤ x * y ∧ x * y ≤ 81 := by
  have : x = 0 ∨ x = 1 ∨ x = 2 ∨ x = 3 ∨ x = 4 ∨ x = 5 ∨ x = 6 ∨ x = 7 ∨ x = 8 ∨ x = 9 := by omega
  rcases this with rfl | rfl | rfl | rfl | rfl | rfl | rfl | rfl | rfl | rfl <;> omega
theorem addRow_bd {F X Y : Nat → Int} {m : Int} (i k : Nat) (hX : ∀ i, 0 ≤ X i ∧ X i ≤ 9) (hY : ∀ i, 0 ≤ Y i ∧ Y i ≤ 9) (hF : ∀ j, 0 ≤ F j ∧ F j ≤ m) (j : Nat) : 0 ≤ addRow F i X Y k j ∧ addRow F i X Y k j ≤ m + 81 := by
  have h1 := hX i
  have h2 := hY (j - i)
  have h3 := hF j
  have h4 := mul9 h1.1 h1.2 h2.1 h2.2
  unfold addRow
  split <;> omega
theorem prodF_bd {X Y : Nat → Int} (ny : Nat) (hX : ∀ i, 0 ≤ X i ∧ X i ≤ 9) (hY : ∀ i, 0 ≤ Y i ∧ Y i ≤ 9) : ∀ (i j : Nat), 0 ≤ prodF X Y ny i j ∧ prodF X Y ny i j ≤ 81 * (i : Int)
  | 0, j => by rw [prodF]; simp
  | i + 1, j => by
    have := addRow_bd i ny hX hY (prodF_bd ny hX hY i) j
    rw [prodF]; omega
theorem val_lt_pow {l : List UInt8} (h : allD l) {k : Nat} (hk : l.length ≤ k) : val l < 10 ^ k := Nat.lt_of_lt_of_le (val_lt l h) (Nat.pow_le_pow_right (by omega) hk)
theorem mul_form {a b : Num} (ha : sane a = true) (hb : sane b = true) (n : Nat) (hn : n = a.digits.length + b.digits.length + 1) :
    formP (a.neg != b.neg) (outL (prodF (colF a.digits 0) (colF b.digits 0) b.digits.length a.digits.length) n) (a.exp + b.exp) = mulP a b := by
  have hal := sane_all ha
  have hbl := sane_all hb
  have sA : sumF (colF a.digits 0) a.digits.length = ((val a.digits : Nat) : Int) := by rw [sum_colN _ _ _ (by omega)]; simp
  have sB : sumF (colF b.digits 0) b.digits.length = ((val b.digits : Nat) : Int) := by rw [sum_colN _ _ _ (by omega)]; simp
  have hs : sumF (prodF (colF a.digits 0) (colF b.digits 0) b.digits.length a.digits.length) n = ((val a.digits * val b.digits : Nat) : Int) := by
    rw [sum_prodF _ _ _ _ _ (by omega), sA, sB]; simp
  have hlt : val a.digits * val b.digits < 10 ^ n := by
    rw [hn, Nat.pow_succ, Nat.pow_add]
    have h1 := val_lt a.digits hal
    have h2 := val_lt b.digits hbl
    have h3 := Nat.mul_lt_mul'' h1 h2
    omega
  have hv := out_val (prodF (colF a.digits 0) (colF b.digits 0) b.digits.length a.digits.length) n (by rw [hs]; omega) (by rw [hs]; omega)
  have hm : mulP a b = toldP (normZ (zv a a.exp * zv b b.exp) (a.exp + b.exp)) := by unfold mulP; rw [if_pos ⟨ha, hb⟩]
  rw [formP_told, formR_norm _ _ _ (outL_all _ n), norm_sgn, hv, hs, hm]
  have e : (if (a.neg != b.neg) = true then -((val a.digits * val b.digits : Nat) : Int) else ((val a.digits * val b.digits : Nat) : Int)) = zv a a.exp * zv b b.exp := by
    unfold zv sgn
    simp only [Int.sub_self, Int.toNat_zero, Nat.pow_zero, Nat.mul_one]
    generalize val a.digits = p
    generalize val b.digits = q
    cases a.neg <;> cases b.neg <;> simp [Int.mul_neg, Int.neg_mul]
  rw [e]
end Go.Proofs.YtpheohgceepboaaDoor
