/- The document's way to read a character: plain laws. -/
import Derived.Test.YtglcpfnfldaimaaDoorUtfO
set_option linter.unusedVariables false
set_option maxRecDepth 100000
set_option linter.unusedSimpArgs false
namespace Orange

/-- the number that bytes would be -/
def fold6 : List UInt8 → Int → Int
  | [], r => r
  | c :: t, r => fold6 t (r * 64 + (c.toNat : Int) % 64)
def kind (x : UInt8) : Nat := if 240 ≤ x.toNat then 4 else if 224 ≤ x.toNat then 3 else if 192 ≤ x.toNat then 2 else 1
def lead0 (x : UInt8) : Int := if 240 ≤ x.toNat then (x.toNat : Int) % 8 else if 224 ≤ x.toNat then (x.toNat : Int) % 16 else if 192 ≤ x.toNat then (x.toNat : Int) % 32 else x.toNat
def begins (b c : List UInt8) : Bool := decide (b.take c.length = c)

theorem begins_iff {b c : List UInt8} : begins b c = true ↔ ∃ t, b = c ++ t := by
  simp only [begins, decide_eq_true_eq]
  constructor
  · intro h
    exact ⟨b.drop c.length, by conv => lhs; rw [← List.take_append_drop c.length b, h]⟩
  · rintro ⟨t, rfl⟩; simp
theorem fold6_at (xs : List UInt8) (n k : Nat) (r : Int) (h : k < n) (hk : k < xs.length) : fold6 ((xs.take n).drop k) r = fold6 ((xs.take n).drop (k + 1)) (r * 64 + (xs[k].toNat : Int) % 64) := by
  rw [List.drop_eq_getElem_cons (by simp; omega), fold6]
  simp
theorem fold6_end (xs : List UInt8) (n : Nat) (r : Int) : fold6 ((xs.take n).drop n) r = r := by
  rw [List.drop_of_length_le (by simp; omega), fold6]

theorem enc_read {c : Int} (hc : sound c = true) (x : UInt8) (t t' : List UInt8) (h : x :: t = enc c ++ t') :
    kind x = (enc c).length ∧ fold6 (((x :: t).take (kind x)).drop 1) (lead0 x) = c := by
  rw [sound_iff] at hc
  unfold enc at h ⊢
  split at h
  · rename_i h1
    rw [if_pos h1]
    obtain ⟨rfl, rfl⟩ := by simpa using h
    have hb := byte_int (n := c) (by omega) (by omega)
    have hk : kind (byte c) = 1 := by unfold kind; rw [if_neg (by omega), if_neg (by omega), if_neg (by omega)]
    refine ⟨by rw [hk]; rfl, ?_⟩
    rw [hk]
    simp only [List.take_succ_cons, List.take_zero, List.drop_succ_cons, List.drop_nil, fold6, lead0]
    rw [if_neg (by omega), if_neg (by omega), if_neg (by omega)]; exact hb
  · rename_i h1
    rw [if_neg h1]
    split at h
    · rename_i h2
      rw [if_pos h2]
      obtain ⟨rfl, rfl⟩ := by simpa using h
      have hb := byte_int (n := 192 + c / 64) (by omega) (by omega)
      have hb2 := byte_int (n := 128 + c % 64) (by omega) (by omega)
      have hk : kind (byte (192 + c / 64)) = 2 := by unfold kind; rw [if_neg (by omega), if_neg (by omega), if_pos (by omega)]
      refine ⟨by rw [hk]; rfl, ?_⟩
      rw [hk]
      simp only [List.take_succ_cons, List.take_zero, List.drop_succ_cons, List.drop_zero, List.drop_nil, fold6, lead0]
      rw [if_neg (by omega), if_neg (by omega), if_pos (by omega)]; omega
    · rename_i h2
      rw [if_neg h2]
      split at h
      · rename_i h3
        rw [if_pos h3]
        obtain ⟨rfl, rfl⟩ := by simpa using h
        have hb := byte_int (n := 224 + c / 4096) (by omega) (by omega)
        have hb2 := byte_int (n := 128 + c / 64 % 64) (by omega) (by omega)
        have hb3 := byte_int (n := 128 + c % 64) (by omega) (by omega)
        have hk : kind (byte (224 + c / 4096)) = 3 := by unfold kind; rw [if_neg (by omega), if_pos (by omega)]
        refine ⟨by rw [hk]; rfl, ?_⟩
        rw [hk]
        simp only [List.take_succ_cons, List.take_zero, List.drop_succ_cons, List.drop_zero, List.drop_nil, fold6, lead0]
        rw [if_neg (by omega), if_pos (by omega)]; omega
      · rename_i h3
        rw [if_neg h3]
        obtain ⟨rfl, rfl⟩ := by simpa using h
        have hb := byte_int (n := 240 + c / 262144) (by omega) (by omega)
        have hb2 := byte_int (n := 128 + c / 4096 % 64) (by omega) (by omega)
        have hb3 := byte_int (n := 128 + c / 64 % 64) (by omega) (by omega)
        have hb4 := byte_int (n := 128 + c % 64) (by omega) (by omega)
        have hk : kind (byte (240 + c / 262144)) = 4 := by unfold kind; rw [if_pos (by omega)]
        refine ⟨by rw [hk]; rfl, ?_⟩
        rw [hk]
        simp only [List.take_succ_cons, List.take_zero, List.drop_succ_cons, List.drop_zero, List.drop_nil, fold6, lead0]
        rw [if_pos (by omega)]; omega

/-- what is read is what is laid again -/
theorem next_yes {b : List UInt8} {r : Int} {n : Nat} (hs : sound r = true) (hb : begins b (enc r) = true) (hn : (enc r).length = n) : next b = (r, n) := by
  obtain ⟨t, rfl⟩ := begins_iff.1 hb
  rw [next_enc hs, hn]
theorem next_no {x : UInt8} {t : List UInt8} {r : Int} (hr : fold6 (((x :: t).take (kind x)).drop 1) (lead0 x) = r) (h : ¬ (sound r = true ∧ begins (x :: t) (enc r) = true ∧ (enc r).length = kind x)) : next (x :: t) = (0, 0) := by
  rcases next_spec (x :: t) with hz | ⟨hs, hn, t', ht⟩
  · exact hz
  · exfalso
    obtain ⟨h1, h2⟩ := enc_read hs x t t' ht
    have hrr : r = (next (x :: t)).1 := by rw [← hr, h2]
    refine h ⟨by rw [hrr]; exact hs, begins_iff.2 ⟨t', by rw [hrr]; exact ht⟩, by rw [hrr]; exact h1.symm⟩
theorem next_short {x : UInt8} {t : List UInt8} (h : t.length + 1 < kind x) : next (x :: t) = (0, 0) := by
  rcases next_spec (x :: t) with hz | ⟨hs, hn, t', ht⟩
  · exact hz
  · exfalso
    obtain ⟨h1, h2⟩ := enc_read hs x t t' ht
    have := congrArg List.length ht
    simp only [List.length_cons, List.length_append] at this
    omega
end Orange
