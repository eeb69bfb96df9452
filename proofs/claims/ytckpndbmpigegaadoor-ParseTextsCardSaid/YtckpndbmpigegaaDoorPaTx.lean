/- parse: letters in signs (plain). -/
import Derived.Test.YtckpndbmpigegaaDoorPaQ
set_option linter.unusedVariables false
set_option linter.unusedSimpArgs false
set_option maxRecDepth 100000
namespace Go.Proofs.YtckpndbmpigegaaDoor
open Go.RowKit Go.Mem Orange
def isLet (c : UInt8) : Bool := decide (97 ≤ c.toNat) && decide (c.toNat ≤ 122)
theorem next_ascii (c : UInt8) (t : List UInt8) (h : c.toNat < 128) : next (c :: t) = ((c.toNat : Int), 1) := by simp [next, h]
theorem encP_let {c : UInt8} (h : c.toNat < 128) : encP (c.toNat : Int) = [c] := by
  have hs : sound (c.toNat : Int) = true := by rw [sound_iff]; omega
  have : ((c.toNat : Int) < 128) := by omega
  simp [encP, hs, enc, this, byte]
theorem letters_textL (xs : List UInt8) (n : Nat) : ∀ (L rest : List UInt8) (f a : Nat) (out : List UInt8), L.all isLet = true → xs.drop a = L ++ rest → textL xs n (f + L.length) a out = textL xs n f (a + L.length) (out ++ L)
  | [], rest, f, a, out, _, _ => by simp
  | c :: L, rest, f, a, out, hL, hd => by
    simp only [List.all_cons, Bool.and_eq_true] at hL
    obtain ⟨hc, hL'⟩ := hL
    have hc1 : 97 ≤ c.toNat ∧ c.toNat ≤ 122 := by simpa [isLet] using hc
    have hlt : a < xs.length := by
      rcases Nat.lt_or_ge a xs.length with h | h
      · exact h
      · rw [List.drop_of_length_le h] at hd; cases hd
    have hp : peekP xs a = c := by
      have := peekP_at xs a 0
      rw [Nat.add_zero, hd] at this
      rw [this]; rfl
    have hn := next_ascii c (L ++ rest) (by omega)
    have h34 : ¬ c = 34 := fun e => by subst e; exact absurd hc1.1 (by decide)
    have hd2 : xs.drop (a + 1) = L ++ rest := by
      rw [← List.drop_drop, hd]; rfl
    rw [show f + (c :: L).length = (f + L.length) + 1 by simp; omega, textL, hp, if_neg h34, hd, List.cons_append, hn]
    simp only
    rw [if_neg (by omega), if_neg (by omega), encP_let (by omega), letters_textL xs n L rest f (a + 1) (out ++ [c]) hL' hd2]
    congr 1
    · simp; omega
    · simp
theorem textP_start (xs : List UInt8) (n : Nat) (L rest : List UInt8) (h : xs = 34 :: (L ++ rest)) (hL : L.all isLet = true) : textP xs 0 n = textL xs n (rest.length + 2) (1 + L.length) L := by
  have h0 : xs[0]? = some 34 := by rw [h]; rfl
  have hd : xs.drop 1 = L ++ rest := by rw [h]; rfl
  rw [textP, if_pos h0, show xs.length + 1 = (rest.length + 2) + L.length by rw [h]; simp; omega, letters_textL xs n L rest _ _ _ hL hd]
  simp
theorem one_text (xs : List UInt8) (h : xs[0]? = some 34) : oneP xs 0 = (textP xs 0 1).map tStr := by
  obtain ⟨hl, _⟩ := List.getElem?_eq_some_iff.1 h
  have hp : peekP xs 0 = 34 := by unfold peekP; simp [h]
  have hw : whiteN xs 0 = 0 := by
    cases xs with
    | nil => cases h
    | cons c t => simp at h; subst h; simp [whiteN, List.dropWhile, show isWhite 34 = false by decide]
  unfold oneP
  rw [show clampN xs.length 0 = 0 from clampN_nat _ 0 (Nat.zero_le _), valueP, hw, hp, if_neg (by decide), if_neg (by omega), if_neg (by decide), if_neg (by decide), if_neg (by decide), if_pos rfl]
theorem text_good (L : List UInt8) (hL : L.all isLet = true) (hl : L.length ≤ 60000) : parseP (34 :: (L ++ [34])) = (tStr L, 0, L.length + 2) := by
  have hx : (34 :: (L ++ [34])).length = L.length + 2 := by simp
  have hp : peekP (34 :: (L ++ [34])) (1 + L.length) = 34 := by
    unfold peekP
    rw [Nat.add_comm]
    simp [List.getD_eq_getElem?_getD]
  have hw : whiteN (34 :: (L ++ [34])) (L.length + 2) = L.length + 2 := by
    unfold whiteN
    rw [List.drop_of_length_le (by omega), hx]; simp
  rw [parseP, if_neg (by omega), one_text _ rfl, textP_start _ _ L [34] rfl hL, textL, hp, if_pos rfl]
  simp only [PR.map, show 1 + L.length + 1 = L.length + 2 by omega, hw, hx, Nat.lt_irrefl, if_false]
theorem text_open (L : List UInt8) (hL : L.all isLet = true) (hl : L.length ≤ 60000) : parseP (34 :: L) = (tNull, 2, L.length + 1) := by
  have hp : peekP (34 :: L) (1 + L.length) = 0 := peekP_ge (by simp; omega)
  have hd : (34 :: L).drop (1 + L.length) = [] := List.drop_of_length_le (by simp; omega)
  rw [parseP, if_neg (by simp; omega), one_text _ rfl, textP_start _ _ L [] (by simp) hL, textL, hp, if_neg (by decide), hd]
  rw [if_pos (by decide)]
  simp only [PR.map]
  rw [Nat.add_comm]
theorem text_ctl (L M : List UInt8) (x : UInt8) (hL : L.all isLet = true) (hx : x.toNat < 32) (hl : L.length + M.length ≤ 60000) : parseP (34 :: (L ++ x :: M)) = (tNull, 2, L.length + 1) := by
  have hd : (34 :: (L ++ x :: M)).drop (1 + L.length) = x :: M := by
    rw [Nat.add_comm]; simp
  have hp : peekP (34 :: (L ++ x :: M)) (1 + L.length) = x := by
    have := peekP_at (34 :: (L ++ x :: M)) (1 + L.length) 0
    rw [Nat.add_zero, hd] at this
    rw [this]; rfl
  have h34 : ¬ x = 34 := fun e => by subst e; exact absurd hx (by decide)
  rw [parseP, if_neg (by simp; omega), one_text _ rfl, textP_start _ _ L (x :: M) rfl hL, textL, hp, if_neg h34, hd, next_ascii x M (by omega)]
  rw [if_pos (by omega)]
  simp only [PR.map]
  rw [Nat.add_comm]
end Go.Proofs.YtckpndbmpigegaaDoor
