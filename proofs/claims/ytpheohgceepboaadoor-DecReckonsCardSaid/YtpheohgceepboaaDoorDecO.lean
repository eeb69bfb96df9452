/- The order of numbers (plain): compare is antisymmetric, keeps sums, turns with the sign. -/
import Derived.Test.YtpheohgceepboaaDoorDecX
set_option linter.unusedVariables false
set_option linter.unusedSimpArgs false
namespace Orange

theorem under_norm (z m : Int) : under (normZ z m) m := by
  obtain ⟨k, h1, h2, _⟩ := normZ_val z m
  by_cases h : z = 0
  · exact .inl (by rw [h2 h]; rfl)
  · exact .inr (by have := h1 h; omega)
theorem zv_inj {a b : Num} (ha : sane a = true) (hb : sane b = true) (m : Int) (h1 : under a m) (h2 : under b m) (h : zv a m = zv b m) : a = b := by
  rw [← sane_normZ ha m h1, ← sane_normZ hb m h2, h]
theorem cmpZ_swap (x y : Int) : cmpZ x y = - cmpZ y x := by
  unfold cmpZ; split <;> split <;> first | rfl | omega
theorem cmpZ_zero (x y : Int) : cmpZ x y = 0 ↔ x = y := by
  unfold cmpZ; split <;> (try split) <;> omega
theorem cmpZ_low (x y : Int) : cmpZ x y < 0 ↔ x < y := by
  unfold cmpZ; split <;> (try split) <;> omega
theorem cmpZ_neg (x y : Int) : cmpZ (-x) (-y) = - cmpZ x y := by
  unfold cmpZ; (repeat' split) <;> omega
theorem cmpZ_add (x y z : Int) : cmpZ (x + z) (y + z) = cmpZ x y := by
  unfold cmpZ; (repeat' split) <;> omega
theorem cmpZ_range (x y : Int) : cmpZ x y = -1 ∨ cmpZ x y = 0 ∨ cmpZ x y = 1 := by
  unfold cmpZ; split <;> (try split) <;> omega
theorem cmpP_range (a b : Num) : cmpP a b = -1 ∨ cmpP a b = 0 ∨ cmpP a b = 1 := by
  unfold cmpP; split
  · exact cmpZ_range _ _
  · exact .inr (.inl rfl)
def low3 (a b c : Num) : Int := min a.exp (min b.exp c.exp)
theorem under3 (a b c : Num) : under a (low3 a b c) ∧ under b (low3 a b c) ∧ under c (low3 a b c) := ⟨.inr (by unfold low3; omega), .inr (by unfold low3; omega), .inr (by unfold low3; omega)⟩
theorem cmpP_swap {a b : Num} (ha : sane a = true) (hb : sane b = true) : cmpP b a = - cmpP a b := by
  rw [cmpP_at hb ha (low a b) under.low.2 under.low.1, cmpP_at ha hb (low a b) under.low.1 under.low.2, cmpZ_swap]
theorem cmpP_zero {a b : Num} (ha : sane a = true) (hb : sane b = true) : cmpP a b = 0 ↔ a = b := by
  rw [cmpP_at ha hb (low a b) under.low.1 under.low.2, cmpZ_zero]
  exact ⟨zv_inj ha hb _ under.low.1 under.low.2, fun h => by rw [h]⟩
theorem cmpP_neg {a b : Num} (ha : sane a = true) (hb : sane b = true) : cmpP (negP a) (negP b) = - cmpP a b := by
  rw [cmpP_at ha hb (low a b) under.low.1 under.low.2, cmpP_at (negP_sane ha) (negP_sane hb) (low a b) (negP_under under.low.1) (negP_under under.low.2), negP_zv ha, negP_zv hb, cmpZ_neg]
theorem cmpP_trans {a b c : Num} (ha : sane a = true) (hb : sane b = true) (hc : sane c = true) (h1 : cmpP a b < 0) (h2 : cmpP b c < 0) : cmpP a c < 0 := by
  obtain ⟨u1, u2, u3⟩ := under3 a b c
  rw [cmpP_at ha hb _ u1 u2, cmpZ_low] at h1
  rw [cmpP_at hb hc _ u2 u3, cmpZ_low] at h2
  rw [cmpP_at ha hc _ u1 u3, cmpZ_low]
  omega
theorem addP_ok {a b : Num} (ha : sane a = true) (hb : sane b = true) (m : Int) (u1 : under a m) (u2 : under b m) (h : (addP a b).2 = 0) : (addP a b).1 = normZ (zv a m + zv b m) m ∧ sane (addP a b).1 = true := by
  rw [addP_at ha hb m u1 u2] at h ⊢
  obtain ⟨h1, h2⟩ := toldP_ok h
  rw [h1]
  exact ⟨rfl, h2⟩
theorem cmpP_add {a b c : Num} (ha : sane a = true) (hb : sane b = true) (hc : sane c = true) (h1 : (addP a c).2 = 0) (h2 : (addP b c).2 = 0) : cmpP (addP a c).1 (addP b c).1 = cmpP a b := by
  obtain ⟨u1, u2, u3⟩ := under3 a b c
  obtain ⟨e1, s1⟩ := addP_ok ha hc _ u1 u3 h1
  obtain ⟨e2, s2⟩ := addP_ok hb hc _ u2 u3 h2
  rw [cmpP_at s1 s2 (low3 a b c) (by rw [e1]; exact under_norm _ _) (by rw [e2]; exact under_norm _ _), e1, e2, zv_norm, zv_norm, cmpZ_add, cmpP_at ha hb _ u1 u2]
theorem sane_len {a : Num} (ha : sane a = true) : a.digits.length ≤ 40 := by
  rcases sane_parts ha with e | e
  · rw [e]; decide
  · exact e.2.2.1
end Orange
