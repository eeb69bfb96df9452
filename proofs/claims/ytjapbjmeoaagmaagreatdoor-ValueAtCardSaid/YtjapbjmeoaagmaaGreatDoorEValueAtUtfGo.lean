/- A text of this proof. -/
import Derived.Test.YtjapbjmeoaagmaaGreatDoorEValueAtUtf
import Derived.WalkKit
set_option linter.unusedVariables false
set_option linter.unusedSimpArgs false
set_option maxRecDepth 100000
namespace Orange
open Go
def mask : Nat → Int | 0 => 128 | 1 => 224 | 2 => 240 | _ => 248
def lead : Nat → Int | 0 => 0 | 1 => 192 | 2 => 224 | _ => 240
def least : Nat → Int | 0 => 0 | 1 => 128 | 2 => 2048 | _ => 65536
def skipB (x : UInt8) (k : Nat) : Bool := bits .and .u8 x.toNat (mask k) != lead k
def conts : List UInt8 → Int → Option Int
 | [], r => some r
 | c :: t, r => if (bits .and .u8 (c.toNat : Int) 192 != 128) = true then none else conts t (r * 64 + (c.toNat : Int) % 64)
def fin (x : UInt8) (t : List UInt8) (k : Nat) : Int × Nat :=
 match conts (t.take k) (bits .andNot .u8 x.toNat (mask k)) with
 | none => (0, 0)
 | some r => if r < least k || !sound r then (0, 0) else (r, k + 1)
def nextFrom (x : UInt8) (t : List UInt8) : Nat → Nat → Int × Nat
 | 0, _ => (0, 0)
 | f + 1, k => if t.length + 1 ≤ k || skipB x k then nextFrom x t f (k + 1) else fin x t k
def nextGo : List UInt8 → Int × Nat
 | [] => (0, 0)
 | x :: t => nextFrom x t 4 0
theorem andNot_bd (a b : Int) : 0 ≤ bits .andNot .u8 a b ∧ bits .andNot .u8 a b < 256 := by
 simp only [bits, IntKind.wrap_u8']; omega
theorem r_small {r : Int} {i : Nat} (h : r < 256 * 64 ^ i) (hi : i ≤ 2) : r < 1048576 := by
 have : i = 0 ∨ i = 1 ∨ i = 2 := by omega
 rcases this with rfl | rfl | rfl <;> omega
theorem conts_at (t : List UInt8) (k i : Nat) (r : Int) (h : i < k) (hit : i < t.length) : conts ((t.take k).drop i) r = if (bits .and .u8 (t[i].toNat : Int) 192 != 128) = true then none else conts ((t.take k).drop (i + 1)) (r * 64 + (t[i].toNat : Int) % 64) := by
 have hl : i < (t.take k).length := by simp; omega
 rw [List.drop_eq_getElem_cons hl, conts]; simp
theorem r_next {r c : Int} {i : Nat} (h : r < 256 * 64 ^ i) (hc : c < 64) : r * 64 + c < 256 * 64 ^ (i + 1) := by
 rw [Int.pow_succ]; omega
theorem next_at {x : UInt8} {t : List UInt8} {k : Nat} (hk : k < 4) (hlen : ¬ t.length + 1 ≤ k) (hm : (bits .and .u8 x.toNat (mask k) != lead k) = false) : nextFrom x t (4 - k) k = fin x t k := by
 obtain ⟨f, hf⟩ : ∃ f, 4 - k = f + 1 := ⟨3 - k, by omega⟩
 rw [hf, nextFrom, if_neg (by simp [skipB, hm]; omega)]
theorem fin_none {x : UInt8} {t : List UInt8} {k : Nat} (h : conts (t.take k) (bits .andNot .u8 x.toNat (mask k)) = none) : fin x t k = (0, 0) := by rw [fin, h]
theorem fin_some {x : UInt8} {t : List UInt8} {k : Nat} {r : Int} (h : conts (t.take k) (bits .andNot .u8 x.toNat (mask k)) = some r) : fin x t k = if r < least k || !sound r then (0, 0) else (r, k + 1) := by rw [fin, h]
theorem u8f {p : Nat → Bool} (h : ∀ n : Fin 256, p n.val = true) (x : UInt8) : p x.toNat = true := h ⟨x.toNat, x.toNat_lt⟩
theorem and_u8 (x : UInt8) (m : Nat) (hm : m < 256) : bits .and .u8 (x.toNat : Int) (m : Int) = ((x.toNat &&& m : Nat) : Int) := u8_and_nat _ _ x.toNat_lt hm
theorem andNot_u8 (x : UInt8) (m : Nat) (hm : m < 256) : bits .andNot .u8 (x.toNat : Int) (m : Int) = ((x.toNat &&& (255 - m) : Nat) : Int) := u8_andNot_nat _ _ x.toNat_lt hm
theorem skip0 (x : UInt8) : skipB x 0 = !decide (x.toNat < 128) := by
 have h := u8f (p := fun n => ((n &&& 128 : Nat) != 0) == !decide (n < 128)) (by decide +kernel) x; have e := and_u8 x 128 (by decide); simp only [beq_iff_eq] at h; rw [← h, skipB]; show ((bits .and .u8 (x.toNat : Int) ((128 : Nat) : Int)) != 0) = _; rw [e, Bool.eq_iff_iff]; simp
theorem skip1 (x : UInt8) : skipB x 1 = !(decide (192 ≤ x.toNat) && decide (x.toNat < 224)) := by
 have h := u8f (p := fun n => ((n &&& 224 : Nat) != 192) == !(decide (192 ≤ n) && decide (n < 224))) (by decide +kernel) x; have e := and_u8 x 224 (by decide); simp only [beq_iff_eq] at h; rw [← h, skipB]; show ((bits .and .u8 (x.toNat : Int) ((224 : Nat) : Int)) != ((192 : Nat) : Int)) = _; rw [e, Bool.eq_iff_iff]; simp only [bne_iff_ne, ne_eq]; omega
theorem skip2 (x : UInt8) : skipB x 2 = !(decide (224 ≤ x.toNat) && decide (x.toNat < 240)) := by
 have h := u8f (p := fun n => ((n &&& 240 : Nat) != 224) == !(decide (224 ≤ n) && decide (n < 240))) (by decide +kernel) x; have e := and_u8 x 240 (by decide); simp only [beq_iff_eq] at h; rw [← h, skipB]; show ((bits .and .u8 (x.toNat : Int) ((240 : Nat) : Int)) != ((224 : Nat) : Int)) = _; rw [e, Bool.eq_iff_iff]; simp only [bne_iff_ne, ne_eq]; omega
theorem skip3 (x : UInt8) : skipB x 3 = !(decide (240 ≤ x.toNat) && decide (x.toNat < 248)) := by
 have h := u8f (p := fun n => ((n &&& 248 : Nat) != 240) == !(decide (240 ≤ n) && decide (n < 248))) (by decide +kernel) x; have e := and_u8 x 248 (by decide); simp only [beq_iff_eq] at h; rw [← h, skipB]; show ((bits .and .u8 (x.toNat : Int) ((248 : Nat) : Int)) != ((240 : Nat) : Int)) = _; rw [e, Bool.eq_iff_iff]; simp only [bne_iff_ne, ne_eq]; omega
theorem cont_bits (c : UInt8) : (bits .and .u8 (c.toNat : Int) 192 != 128) = !cont c := by
 have h := u8f (p := fun n => ((n &&& 192 : Nat) != 128) == !(decide (128 ≤ n) && decide (n < 192))) (by decide +kernel) c; have e := and_u8 c 192 (by decide); simp only [beq_iff_eq] at h; rw [cont, ← h]; show ((bits .and .u8 (c.toNat : Int) ((192 : Nat) : Int)) != ((128 : Nat) : Int)) = _; rw [e, Bool.eq_iff_iff]; simp only [bne_iff_ne, ne_eq]; omega
theorem base0 (x : UInt8) : bits .andNot .u8 (x.toNat : Int) 128 = (x.toNat : Int) % 128 := by
 have e := andNot_u8 x 128 (by decide); have h := Nat.and_two_pow_sub_one_eq_mod x.toNat 7; simp only [Nat.reducePow, Nat.reduceSub] at h e; have e' : bits .andNot .u8 (x.toNat : Int) 128 = ((x.toNat &&& 127 : Nat) : Int) := e; rw [e', h]; rfl
theorem base1 (x : UInt8) : bits .andNot .u8 (x.toNat : Int) 224 = (x.toNat : Int) % 32 := by
 have e := andNot_u8 x 224 (by decide); have h := Nat.and_two_pow_sub_one_eq_mod x.toNat 5; simp only [Nat.reducePow, Nat.reduceSub] at h e; have e' : bits .andNot .u8 (x.toNat : Int) 224 = ((x.toNat &&& 31 : Nat) : Int) := e; rw [e', h]; rfl
theorem base2 (x : UInt8) : bits .andNot .u8 (x.toNat : Int) 240 = (x.toNat : Int) % 16 := by
 have e := andNot_u8 x 240 (by decide); have h := Nat.and_two_pow_sub_one_eq_mod x.toNat 4; simp only [Nat.reducePow, Nat.reduceSub] at h e; have e' : bits .andNot .u8 (x.toNat : Int) 240 = ((x.toNat &&& 15 : Nat) : Int) := e; rw [e', h]; rfl
theorem base3 (x : UInt8) : bits .andNot .u8 (x.toNat : Int) 248 = (x.toNat : Int) % 8 := by
 have e := andNot_u8 x 248 (by decide); have h := Nat.and_two_pow_sub_one_eq_mod x.toNat 3; simp only [Nat.reducePow, Nat.reduceSub] at h e; have e' : bits .andNot .u8 (x.toNat : Int) 248 = ((x.toNat &&& 7 : Nat) : Int) := e; rw [e', h]; rfl
theorem conts_cons (c : UInt8) (t : List UInt8) (r : Int) : conts (c :: t) r = if cont c then conts t (r * 64 + low6 c) else none := by
 rw [conts, cont_bits]; by_cases h : cont c = true
 · have := (cont_iff c).1 h; rw [if_neg (by simp [h]), if_pos h]; congr 2
   show (c.toNat : Int) % 64 = (c.toNat : Int) - 128; omega
 · simp [h]
theorem nextGo_eq (b : List UInt8) : nextGo b = next b := by
 cases b with
 | nil => rfl
 | cons x t =>
   have hx := x.toNat_lt; simp only [nextGo, nextFrom, next, Nat.zero_add, Nat.reduceAdd, skip0, skip1, skip2, skip3]; by_cases h0 : x.toNat < 128
   · rw [if_neg (by simp [h0]), if_pos h0, fin]; simp only [List.take_zero, conts, mask, base0]; rw [if_neg (by simp [least, sound_iff]; omega)]; congr 1; omega
   rw [if_pos (by simp [h0]), if_neg h0]; by_cases h1 : x.toNat < 192
   · rw [if_pos h1]; simp [show ¬ 192 ≤ x.toNat by omega, show ¬ 224 ≤ x.toNat by omega, show ¬ 240 ≤ x.toNat by omega]
   rw [if_neg h1]; by_cases h2 : x.toNat < 224
   · rw [if_pos h2]; match t with
     | [] => simp [two]
     | c :: t =>
       rw [if_neg (by simp [h2]; omega), fin]; simp only [List.take_succ_cons, List.take_zero, mask, base1, conts_cons, two]; have e : (x.toNat : Int) % 32 = (x.toNat : Int) - 192 := by omega
       rw [e]; by_cases hc : cont c = true
       · have := (cont_iff c).1 hc; rw [if_pos hc]; simp only [conts, least, hc, Bool.true_and]; by_cases hr : 128 ≤ ((x.toNat : Int) - 192) * 64 + low6 c
         · have hs : sound (((x.toNat : Int) - 192) * 64 + low6 c) = true := by
            rw [sound_iff]; show (0 ≤ ((x.toNat : Int) - 192) * 64 + ((c.toNat : Int) - 128) ∧ ((x.toNat : Int) - 192) * 64 + ((c.toNat : Int) - 128) < 55296) ∨ _; omega
           rw [if_neg (by simp [hs]; omega), if_pos (by simpa using hr)]
         · rw [if_pos (by simp; omega), if_neg (by simpa using hr)]
       · simp [hc]
   rw [if_neg h2, if_pos (by simp; omega)]; by_cases h3 : x.toNat < 240
   · rw [if_pos h3]; match t with
     | [] => simp [three]
     | [c] => simp [three]
     | c :: d :: t =>
       rw [if_neg (by simp [h3]; omega), fin]; simp only [List.take_succ_cons, List.take_zero, mask, base2, conts_cons, three]; have e : (x.toNat : Int) % 16 = (x.toNat : Int) - 224 := by omega
       rw [e]; generalize hr : (((x.toNat : Int) - 224) * 64 + low6 c) * 64 + low6 d = r; by_cases hc : cont c = true
       · by_cases hd : cont d = true
         · simp only [hc, hd, if_true, conts, least, Bool.true_and]; by_cases h1 : 2048 ≤ r
           · by_cases h2 : sound r = true
             · rw [if_neg (by simp [h2]; omega), if_pos (by simp [h1, h2])]
             · rw [if_pos (by simp [h2]), if_neg (by simp [h2])]
           · rw [if_pos (by simp; omega), if_neg (by simp [h1])]
         · simp [hc, hd]
       · simp [hc]
   rw [if_neg h3, if_pos (by simp; omega)]; by_cases h4 : x.toNat < 248
   · rw [if_pos h4]; match t with
     | [] => simp [four]
     | [c] => simp [four]
     | [c, d] => simp [four]
     | c :: d :: e :: t =>
       rw [if_neg (by simp [h4]; omega), fin]; simp only [List.take_succ_cons, List.take_zero, mask, base3, conts_cons, four]; have e' : (x.toNat : Int) % 8 = (x.toNat : Int) - 240 := by omega
       rw [e']; generalize hr : ((((x.toNat : Int) - 240) * 64 + low6 c) * 64 + low6 d) * 64 + low6 e = r; by_cases hc : cont c = true
       · by_cases hd : cont d = true
         · by_cases he : cont e = true
           · simp only [hc, hd, he, if_true, conts, least, Bool.true_and]; by_cases h1 : 65536 ≤ r
             · by_cases h2 : sound r = true
               · rw [if_neg (by simp [h2]; omega), if_pos (by simp [h1, h2])]
               · rw [if_pos (by simp [h2]), if_neg (by simp [h2])]
             · rw [if_pos (by simp; omega), if_neg (by simp [h1])]
           · simp [hc, hd, he]
         · simp [hc, hd]
       · simp [hc]
   · rw [if_neg h4, if_pos (by simp; omega)]
end Orange
