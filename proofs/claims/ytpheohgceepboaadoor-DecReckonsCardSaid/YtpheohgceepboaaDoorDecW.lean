/- Texts with points, zeros and exponents (plain). -/
import Derived.Test.YtpheohgceepboaaDoorDecN
set_option linter.unusedVariables false
set_option linter.unusedSimpArgs false
namespace Orange
open Go.Proofs.YtpheohgceepboaaDoor (val_lt_pow)

def sg (neg : Bool) : List UInt8 := if neg then [45] else []
theorem decP_sg (neg : Bool) (u : List UInt8) (hu : u.head? ≠ some 45) (hl : u.length ≤ 999) : decP (sg neg ++ u) = midP neg u := by
  cases neg with
  | true =>
    rw [decP_mid _ (by simp [sg]; omega)]
    simp [sg]
  | false =>
    rw [decP_mid _ (by simp [sg]; omega)]
    simp [sg, hu]
theorem dig_head {W : List UInt8} (hW : allD W) (h0 : W ≠ []) (R : List UInt8) : (W ++ R).head? ≠ some 45 := by
  cases W with
  | nil => exact absurd rfl h0
  | cons c t =>
    simp only [List.cons_append, List.head?_cons, ne_eq, Option.some.injEq]
    intro e
    have := hW c (List.mem_cons_self ..)
    rw [e] at this; exact absurd this (by decide)
theorem decD_lead (n : Nat) : ¬ (1 < (decD n).length ∧ (decD n).head? = some 48) := by
  unfold decD; split
  · simp
  · rename_i h; exact fun q => digs_head h q.2
theorem decD_zero (n : Nat) : (decD n = [48]) ↔ n = 0 := by
  constructor
  · intro h
    unfold decD at h; split at h
    · assumption
    · rename_i q; exact absurd (by rw [h]; rfl) (digs_head q)
  · intro h; subst h; rfl
theorem decD_head {n : Nat} (h : n ≠ 0) (R : List UInt8) : (decD n ++ R).head? ≠ some 48 := by
  unfold decD; rw [if_neg h]
  have h1 := digs_head h
  have h2 := digs_ne h
  cases hd : digs n with
  | nil => exact absurd hd h2
  | cons c t => rw [hd] at h1; simpa using h1
theorem tail_e0 (neg : Bool) (all : List UInt8) (x : Int) (ha : allD all) : tailE neg all x [101, 48] = toldP (normN neg (val all) x) := by
  unfold tailE
  have e : expP [101, 48] = (0, [], true) := by decide +kernel
  rw [e]
  simp only [Int.add_zero]
  rw [formP_told, formR_norm _ _ _ ha]; rfl
section
variable (neg : Bool) (X Y : Nat) (hx : X ≤ 65535) (hy : Y ≤ 65535)
include hx hy
theorem pt_len : (decD X).length ≤ 5 ∧ (decD Y).length ≤ 5 ∧ val (decD X ++ decD Y) < 10 ^ 40 := by
  have lx := decD_len 5 X (by omega) (by omega)
  have ly := decD_len 5 Y (by omega) (by omega)
  exact ⟨lx, ly, val_lt_pow ((decD_all X).app (decD_all Y)) (by simp; omega)⟩
theorem pt_d : decP (sg neg ++ (decD X ++ 46 :: decD Y)) = (normN neg (val (decD X ++ decD Y)) (-((decD Y).length : Int)), 0) := by
  obtain ⟨lx, ly, hv⟩ := pt_len X Y hx hy
  rw [decP_sg neg _ (dig_head (decD_all X) (decD_ne X) _) (by simp; omega)]
  have h := mid_point (neg := neg) (decD_all X) (decD_ne X) (decD_lead X) (decD_all Y) (decD_ne Y) [] rfl
  rw [List.append_nil] at h
  rw [h, tail_nil _ _ _ ((decD_all X).app (decD_all Y))]
  exact toldP_sane (sane_small _ _ _ hv (by omega))
theorem pt_f : decP (sg neg ++ (decD X ++ 46 :: (decD Y ++ [48, 48, 48, 101, 48]))) = (normN neg (val (decD X ++ decD Y)) (-((decD Y).length : Int)), 0) := by
  obtain ⟨lx, ly, hv⟩ := pt_len X Y hx hy
  have hz : allD ([48, 48, 48] : List UInt8) := allD_zeros 3
  rw [decP_sg neg _ (dig_head (decD_all X) (decD_ne X) _) (by simp; omega)]
  have h := mid_point (neg := neg) (decD_all X) (decD_ne X) (decD_lead X) ((decD_all Y).app hz) (by simp) [101, 48] rfl
  have e : decD Y ++ [48, 48, 48, 101, 48] = (decD Y ++ [48, 48, 48]) ++ [101, 48] := by simp
  rw [e, h, tail_e0 _ _ _ ((decD_all X).app ((decD_all Y).app hz)), ← List.append_assoc, val_app _ [48, 48, 48]]
  have e2 : val ([48, 48, 48] : List UInt8) = 0 := val_zeros 3
  rw [e2, Nat.add_zero]
  have e3 := normN_pow neg 3 (val (decD X ++ decD Y)) (-(((decD Y ++ [48, 48, 48]).length : Nat) : Int))
  rw [show ([48, 48, 48] : List UInt8).length = 3 by rfl, e3]
  have e4 : -(((decD Y ++ [48, 48, 48]).length : Nat) : Int) + ((3 : Nat) : Int) = -((decD Y).length : Int) := by simp; omega
  rw [e4]
  exact toldP_sane (sane_small _ _ _ hv (by omega))
theorem pt_h (h0 : X ≠ 0) : decP (sg neg ++ (decD X ++ (decD Y ++ 69 :: 45 :: decD (decD Y).length))) = (normN neg (val (decD X ++ decD Y)) (-((decD Y).length : Int)), 0) := by
  obtain ⟨lx, ly, hv⟩ := pt_len X Y hx hy
  have ll := decD_len 1 (decD Y).length (by omega) (by omega)
  rw [decP_sg neg _ (dig_head (decD_all X) (decD_ne X) _) (by simp; omega)]
  have hn : decD X ++ decD Y ≠ [] := by have := decD_ne X; simp [this]
  have h := mid_plain (neg := neg) ((decD_all X).app (decD_all Y)) hn (fun q => decD_head h0 _ q.2) (69 :: 45 :: decD (decD Y).length) rfl (by simp)
  rw [← List.append_assoc, h, tail_minus _ _ _ ((decD_all X).app (decD_all Y)) _ (by omega) 69 rfl, Int.zero_sub]
  exact toldP_sane (sane_small _ _ _ hv (by omega))
theorem pt_j (h0 : X ≠ 0) : decP (sg neg ++ (48 :: decD X)) = (Num.zero, 2) := by
  obtain ⟨lx, ly, hv⟩ := pt_len X Y hx hy
  rw [decP_sg neg _ (by simp) (by simp; omega)]
  have ha : allD (48 :: decD X) := fun c hc => by
    rcases List.mem_cons.1 hc with e | e
    · rw [e]; decide
    · exact decD_all X c e
  have t := tw (48 :: decD X) [] ha rfl
  rw [List.append_nil] at t
  unfold midP
  rw [t.1, if_pos]
  exact .inr ⟨by have := List.length_pos_iff.2 (decD_ne X); simp; omega, rfl⟩
end
theorem pt_00 : decP [48, 48] = (Num.zero, 2) := by decide +kernel
theorem decD_step {n : Nat} (h : 10 ≤ n) : decD n = decD (n / 10) ++ [dgt (n % 10)] := by
  unfold decD
  rw [if_neg (by omega), if_neg (by omega), digs_pos (by omega)]
theorem decD_one {n : Nat} (h : n < 10) : decD n = [dgt n] := by
  unfold decD
  by_cases h0 : n = 0
  · subst h0; rfl
  · rw [if_neg h0, digs_pos h0, show n / 10 = 0 by omega, digs_zero, show n % 10 = n by omega]; rfl
end Orange
