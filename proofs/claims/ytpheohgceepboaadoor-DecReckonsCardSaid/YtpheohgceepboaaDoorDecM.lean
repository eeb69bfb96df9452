/- Products, shifts, whole numbers (plain). -/
import Derived.Test.YtpheohgceepboaaDoorDecO
set_option linter.unusedVariables false
set_option linter.unusedSimpArgs false
namespace Orange

theorem zv_nil {d : Num} (h : d.digits = []) (m : Int) : zv d m = 0 := by unfold zv; rw [h, val_nil]; simp
theorem mulP_at {a b : Num} (ha : sane a = true) (hb : sane b = true) (m n : Int) (h1 : under a m) (h2 : under b n) : mulP a b = toldP (normZ (zv a m * zv b n) (m + n)) := by
  unfold mulP
  rw [if_pos ⟨ha, hb⟩]
  rcases h1 with h0 | h1
  · rw [zv_nil h0, zv_nil h0, Int.zero_mul, Int.zero_mul, normZ_zero, normZ_zero]
  · rcases h2 with h0 | h2
    · rw [zv_nil h0, zv_nil h0, Int.mul_zero, Int.mul_zero, normZ_zero, normZ_zero]
    · have e1 := zv_to (d := a) (m := a.exp) (n := m) (.inr (Int.le_refl _)) h1
      have e2 := zv_to (d := b) (m := b.exp) (n := n) (.inr (Int.le_refl _)) h2
      have e3 := normZ_deep (zv a a.exp * zv b b.exp) (a.exp + b.exp) (m + n) (by omega)
      have e4 : (a.exp + b.exp - (m + n)).toNat = (a.exp - m).toNat + (b.exp - n).toNat := by omega
      have e5 : zv a a.exp * zv b b.exp * ((10 ^ (a.exp + b.exp - (m + n)).toNat : Nat) : Int) = zv a m * zv b n := by
        rw [e1, e2, e4, Nat.pow_add]
        generalize zv a a.exp = p
        generalize zv b b.exp = q
        generalize 10 ^ (a.exp - m).toNat = r
        generalize 10 ^ (b.exp - n).toNat = s
        simp only [Int.natCast_mul]
        grind
      rw [← e3, e5]
theorem mulP_comm (a b : Num) : mulP a b = mulP b a := by
  unfold mulP
  by_cases h : sane a = true ∧ sane b = true
  · rw [if_pos h, if_pos ⟨h.2, h.1⟩, Int.mul_comm, Int.add_comm]
  · rw [if_neg h, if_neg (fun h2 => h ⟨h2.2, h2.1⟩)]
theorem addP_back {a b : Num} (ha : sane a = true) (hb : sane b = true) (h : (addP a b).2 = 0) : addP (addP a b).1 (negP b) = (a, 0) := by
  obtain ⟨e, s⟩ := addP_ok ha hb (low a b) under.low.1 under.low.2 h
  rw [addP_at s (negP_sane hb) (low a b) (by rw [e]; exact under_norm _ _) (negP_under under.low.2), e, zv_norm, negP_zv hb]
  rw [show zv a (low a b) + zv b (low a b) + -zv b (low a b) = zv a (low a b) by omega, sane_normZ ha _ under.low.1, toldP_sane ha]
theorem mulP_ok {a b : Num} (ha : sane a = true) (hb : sane b = true) (m n : Int) (h1 : under a m) (h2 : under b n) (h : (mulP a b).2 = 0) : (mulP a b).1 = normZ (zv a m * zv b n) (m + n) ∧ sane (mulP a b).1 = true := by
  rw [mulP_at ha hb m n h1 h2] at h ⊢
  obtain ⟨h1, h2⟩ := toldP_ok h
  rw [h1]; exact ⟨rfl, h2⟩
theorem mulP_add {a b c : Num} (ha : sane a = true) (hb : sane b = true) (hc : sane c = true) (h : (addP a b).2 = 0) (h1 : (mulP a c).2 = 0) (h2 : (mulP b c).2 = 0) : addP (mulP a c).1 (mulP b c).1 = mulP (addP a b).1 c := by
  obtain ⟨e, s⟩ := addP_ok ha hb (low a b) under.low.1 under.low.2 h
  obtain ⟨e1, s1⟩ := mulP_ok ha hc (low a b) c.exp under.low.1 (.inr (Int.le_refl _)) h1
  obtain ⟨e2, s2⟩ := mulP_ok hb hc (low a b) c.exp under.low.2 (.inr (Int.le_refl _)) h2
  rw [addP_at s1 s2 (low a b + c.exp) (by rw [e1]; exact under_norm _ _) (by rw [e2]; exact under_norm _ _), mulP_at s hc (low a b) c.exp (by rw [e]; exact under_norm _ _) (.inr (Int.le_refl _)), e1, e2, e, zv_norm, zv_norm, zv_norm, Int.add_mul]
def shift (d : Num) (k : Int) : Num := if d.digits = [] then d else ⟨d.neg, d.digits, d.exp + k⟩
theorem normN_shift (neg : Bool) (N : Nat) (x k : Int) : normN neg N (x + k) = shift (normN neg N x) k := by
  unfold normN shift
  by_cases h : N = 0
  · rw [if_pos h, if_pos h]; rfl
  · rw [if_neg h, if_neg h]
    simp only
    rw [if_neg (trimR0_ne h)]
    simp only [Num.mk.injEq, true_and]
    omega
theorem one_sane {k : Int} (hk : -300 ≤ k ∧ k ≤ 300) : sane ⟨false, [49], k⟩ = true := by
  unfold sane height
  simp [isDig]; omega
theorem mulP_one {d : Num} (h : sane d = true) (k : Int) (hk : -300 ≤ k ∧ k ≤ 300) : mulP d ⟨false, [49], k⟩ = toldP (shift d k) := by
  rw [mulP_at h (one_sane hk) d.exp k (.inr (Int.le_refl _)) (.inr (Int.le_refl _))]
  have e : zv ⟨false, [49], k⟩ k = 1 := by
    unfold zv sgn
    simp only [Int.sub_self, Int.toNat_zero, Nat.pow_zero, Nat.mul_one, Bool.false_eq_true, if_false, Int.one_mul]
    decide +kernel
  rw [e, Int.mul_one]
  have e2 : normZ (zv d d.exp) (d.exp + k) = shift (normZ (zv d d.exp) d.exp) k := normN_shift _ _ _ _
  rw [e2, sane_norm h]
theorem mulP_zero {d : Num} (h : sane d = true) : mulP d Num.zero = (Num.zero, 0) := by
  rw [mulP_at h sane_zero d.exp 0 (.inr (Int.le_refl _)) (.inr (Int.le_refl _)), zv_nil (d := Num.zero) rfl, Int.mul_zero, normZ_zero]; rfl
theorem toldP_two (d : Num) : ((toldP d).2 = 0 ↔ sane d = true) := by
  unfold toldP
  split
  · rename_i h; simp [h]
  · rename_i h; simp [h]
theorem shift_zero (d : Num) : shift d 0 = d := by
  unfold shift; split
  · rfl
  · simp
theorem trimR0_last (l : List UInt8) : (trimR0 l).getLast? ≠ some 48 := by
  refine snocRec (p := fun l => (trimR0 l).getLast? ≠ some 48) (by decide) (fun l c h => ?_) l
  rw [trimR0_s]
  split
  · exact h
  · rename_i q; simpa using q
theorem trimR0_head (l : List UInt8) : trimR0 l ≠ [] → (trimR0 l).head? = l.head? := by
  refine snocRec (p := fun l => trimR0 l ≠ [] → (trimR0 l).head? = l.head?) (fun h => rfl) (fun l c h => ?_) l
  rw [trimR0_s]
  split
  · intro hn
    rw [h hn]
    cases l with
    | nil => exact absurd rfl hn
    | cons a t => rfl
  · intro _; rfl
theorem digs_head {N : Nat} (h : N ≠ 0) : (digs N).head? ≠ some 48 := by
  intro hh
  have e := trimL0_digs N
  cases hd : digs N with
  | nil => exact digs_ne h hd
  | cons c t =>
    rw [hd] at hh e
    simp only [List.head?_cons, Option.some.injEq] at hh
    rw [trimL0_c, if_pos hh] at e
    have := (List.dropWhile_sublist (p := (· == (48 : UInt8))) (l := t)).length_le
    have h2 : (trimL0 t).length ≤ t.length := this
    rw [e] at h2
    simp at h2; omega
theorem sane_small (neg : Bool) (N : Nat) (x : Int) (hN : N < 10 ^ 40) (hx : -300 ≤ x ∧ x ≤ 300) : sane (normN neg N x) = true := by
  by_cases h : N = 0
  · unfold normN; rw [if_pos h]; rfl
  · have hl := digs_len 40 N hN
    have hne := trimR0_ne h
    have h1 := trimR0_len (digs N)
    have hall := (trimR0_val (digs N)).2 (digs_all N)
    have hh := trimR0_head (digs N) hne
    have hd := digs_head h
    rw [← hh] at hd
    have hla := trimR0_last (digs N)
    unfold normN
    rw [if_neg h]
    unfold sane height
    simp only
    generalize trimR0 (digs N) = T at *
    generalize digs N = D at *
    have hT : 0 < T.length := List.length_pos_iff.2 hne
    have ha : T.all isDig = true := List.all_eq_true.2 hall
    rw [if_neg (by omega), ha, if_neg (by simp; omega), if_neg (by simp; omega)]
    simp only [Bool.and_eq_true, decide_eq_true_eq, bne_iff_ne, ne_eq]
    exact ⟨⟨⟨by omega, by omega⟩, hd⟩, hla⟩
theorem sane_smallZ (z : Int) (x : Int) (hz : z.natAbs < 10 ^ 40) (hx : -300 ≤ x ∧ x ≤ 300) : sane (normZ z x) = true := sane_small _ _ _ hz hx
/-- a whole number -/
def ofP (n : Int) : Num := normZ n 0
theorem ofP_sane {n : Int} (h : n.natAbs < 10 ^ 40) : sane (ofP n) = true := sane_smallZ _ _ h (by omega)
theorem ofP_form (n : Int) (h : n.natAbs < 10 ^ 40) : formP (decide (n < 0)) (decD n.natAbs) 0 = (ofP n, 0) := by
  rw [formP_told, formR_norm _ _ _ (decD_all _), decD_val]
  exact toldP_sane (ofP_sane h)
theorem ofP_one : ofP 1 = ⟨false, [49], 0⟩ := by
  unfold ofP normZ normN
  rw [if_neg (by decide), show (1 : Int).natAbs = 0 * 10 + 1 by rfl, digs_snoc (by omega) (.inr (by omega)), digs_zero]
  decide +kernel
theorem zv_ofP (n : Int) : zv (ofP n) 0 = n := zv_norm n 0
theorem under_ofP (n : Int) : under (ofP n) 0 := under_norm n 0
/-- as a whole one -/
def intP (d : Num) : Int × Bool := if sane d = true ∧ 0 ≤ d.exp ∧ height d ≤ 15 then (zv d 0, true) else (0, false)
theorem height_normN (neg : Bool) (N : Nat) (x : Int) (h : N ≠ 0) : height (normN neg N x) = x + (digs N).length := by
  unfold height normN
  rw [if_neg h]
  simp only
  omega
theorem intP_of (z : Int) (h : z.natAbs < 10 ^ 15) : intP (normZ z 0) = (z, true) := by
  have h40 : z.natAbs < 10 ^ 40 := Nat.lt_of_lt_of_le h (by decide)
  have hu := under_norm z 0
  unfold intP
  rw [if_pos, zv_norm]
  refine ⟨sane_smallZ _ _ h40 (by omega), ?_, ?_⟩
  · rcases hu with e | e
    · by_cases h0 : z = 0
      · subst h0; decide
      · exfalso
        unfold normZ normN at e
        rw [if_neg (by omega)] at e
        exact trimR0_ne (by omega) e
    · exact e
  · by_cases h0 : z = 0
    · subst h0; decide
    · unfold normZ
      rw [height_normN _ _ _ (by omega)]
      have := digs_len 15 z.natAbs h
      omega
theorem addP_of (x y : Int) (hx : x.natAbs < 10 ^ 30) (hy : y.natAbs < 10 ^ 30) : addP (ofP x) (ofP y) = (normZ (x + y) 0, 0) := by
  have b : (10 : Nat) ^ 30 + 10 ^ 30 ≤ 10 ^ 40 := by decide
  have b1 : (10 : Nat) ^ 30 ≤ 10 ^ 40 := by decide
  rw [addP_at (ofP_sane (by omega)) (ofP_sane (by omega)) 0 (under_ofP x) (under_ofP y), zv_ofP, zv_ofP]
  exact toldP_sane (sane_smallZ _ _ (by omega) (by omega))
theorem mulP_of (x y : Int) (hx : x.natAbs < 10 ^ 20) (hy : y.natAbs < 10 ^ 20) : mulP (ofP x) (ofP y) = (normZ (x * y) 0, 0) := by
  have b1 : (10 : Nat) ^ 20 ≤ 10 ^ 40 := by decide
  rw [mulP_at (ofP_sane (by omega)) (ofP_sane (by omega)) 0 0 (under_ofP x) (under_ofP y), zv_ofP, zv_ofP]
  refine toldP_sane (sane_smallZ _ _ ?_ (by omega))
  rw [Int.natAbs_mul]
  calc x.natAbs * y.natAbs < 10 ^ 20 * 10 ^ 20 := Nat.mul_lt_mul'' hx hy
    _ = 10 ^ 40 := by rw [← Nat.pow_add]
theorem cmpP_of (x y : Int) (hx : x.natAbs < 10 ^ 40) (hy : y.natAbs < 10 ^ 40) : cmpP (ofP x) (ofP y) = cmpZ x y := by
  rw [cmpP_at (ofP_sane hx) (ofP_sane hy) 0 (under_ofP x) (under_ofP y), zv_ofP, zv_ofP]
theorem val_take (l : List UInt8) (k : Nat) (h : k < l.length) : val (l.take (k + 1)) = val (l.take k) * 10 + digV l[k] := by
  rw [List.take_add_one, List.getElem?_eq_getElem h]
  exact val_snoc _ _
end Orange
