/- parse: the parser looks at what is ahead of it alone (plain). -/
import Derived.Test.YtckpndbmpigegaaDoorPaG
set_option linter.unusedVariables false
set_option linter.unusedSimpArgs false
set_option maxRecDepth 100000
namespace Go.Proofs.YtckpndbmpigegaaDoor
open Go.RowKit Go.Mem Orange
def shiftR {α : Type} (k : Nat) : PR α → PR α
  | .ok v a n => .ok v (k + a) n
  | .err e a => .err e (k + a)
theorem shiftR_map {α β : Type} {f : α → β} {k : Nat} {r : PR α} : (shiftR k r).map f = shiftR k (r.map f) := by cases r <;> rfl
theorem peekP_at (xs : List UInt8) (a k : Nat) : peekP xs (a + k) = peekP (xs.drop a) k := by
  unfold peekP; simp [List.getD_eq_getElem?_getD, List.getElem?_drop]
theorem get_at (xs : List UInt8) (a k : Nat) : xs[a + k]? = (xs.drop a)[k]? := by simp [List.getElem?_drop]
theorem whiteN_at (xs : List UInt8) (a k : Nat) (h : a + k ≤ xs.length) : whiteN xs (a + k) = a + whiteN (xs.drop a) k := by
  unfold whiteN
  have := dropWhile_le isWhite (xs.drop (a + k))
  rw [List.drop_drop, List.length_drop]
  rw [List.length_drop] at this
  omega
theorem numEnd_at (xs : List UInt8) (a k : Nat) (h : a + k ≤ xs.length) : numEnd xs (a + k) = a + numEnd (xs.drop a) k := by
  unfold numEnd
  have := dropWhile_le isFig (xs.drop (a + k))
  rw [List.drop_drop, List.length_drop]
  rw [List.length_drop] at this
  omega
theorem textL_at (xs : List UInt8) (a n : Nat) : ∀ (f k : Nat) (out : List UInt8), textL xs n f (a + k) out = shiftR a (textL (xs.drop a) n f k out)
  | 0, k, out => rfl
  | f + 1, k, out => by
    rw [textL, textL, peekP_at]
    simp only [List.drop_drop, ← Nat.add_assoc]
    split
    · rfl
    split
    · rfl
    split
    · split
      · rfl
      · rw [show a + k + (escape (xs.drop (a + k + 1))).2 + 1 = a + (k + ((escape (xs.drop (a + k + 1))).2 + 1)) by omega]
        rw [textL_at xs a n f]
        simp only [Nat.add_assoc]
    · rw [Nat.add_assoc, textL_at xs a n f]
theorem textL_fuel (xs : List UInt8) (n : Nat) : ∀ (f1 f2 k : Nat) (out : List UInt8), k ≤ xs.length → xs.length < k + f1 → xs.length < k + f2 → textL xs n f1 k out = textL xs n f2 k out
  | 0, _, _, _, h, h1, _ => by omega
  | f1 + 1, 0, _, _, h, _, h2 => by omega
  | f1 + 1, f2 + 1, k, out, h, h1, h2 => by
    rw [textL, textL]
    split
    · rfl
    split
    · rfl
    rename_i hn
    have hne : 0 < (next (xs.drop k)).2 := by
      rcases Nat.eq_zero_or_pos (next (xs.drop k)).2 with e | e
      · exact absurd (fun h => by omega) hn
      · exact e
    have hnl := next_le (xs.drop k)
    rw [List.length_drop] at hnl
    split
    · split
      · rfl
      · have := escape_le (xs.drop (k + 1))
        rw [List.length_drop] at this
        exact textL_fuel xs n f1 f2 _ _ (by omega) (by omega) (by omega)
    · exact textL_fuel xs n f1 f2 _ _ (by omega) (by omega) (by omega)
theorem textP_at (xs : List UInt8) (a k n : Nat) (h : a + k ≤ xs.length) : textP xs (a + k) n = shiftR a (textP (xs.drop a) k n) := by
  rw [textP, textP, get_at]
  split
  · rename_i h1
    obtain ⟨hl, _⟩ := List.getElem?_eq_some_iff.1 h1
    rw [List.length_drop] at hl
    rw [Nat.add_assoc, textL_at]
    congr 1
    exact textL_fuel _ n _ _ _ _ (by rw [List.length_drop]; omega) (by rw [List.length_drop]; omega) (by rw [List.length_drop]; omega)
  · rfl
theorem wordP_at (xs s : List UInt8) (t : Tree) (a k n : Nat) : wordP xs s t (a + k) n = shiftR a (wordP (xs.drop a) s t k n) := by
  unfold wordP
  rw [List.drop_drop]
  split
  · simp only [shiftR, Nat.add_assoc]
  · rfl
theorem numP_at (xs : List UInt8) (a k n : Nat) (h : a + k ≤ xs.length) : numP xs (a + k) n = shiftR a (numP (xs.drop a) k n) := by
  unfold numP
  simp only [List.drop_drop, numEnd_at xs a k h]
  rw [show a + numEnd (xs.drop a) k - (a + k) = numEnd (xs.drop a) k - k by omega]
  split <;> rfl
theorem listP_at {σ : Type} {xs : List UInt8} {c : UInt8} {item item' : σ → Nat → Nat → PR σ} {a : Nat} (hi : ∀ s k n, a + k ≤ xs.length → item s (a + k) n = shiftR a (item' s k n)) (hf : ∀ s k n, a + k ≤ xs.length → Fine (xs.drop a) (item' s k n)) : ∀ (f : Nat) (s : σ) (k n : Nat), a + k ≤ xs.length → listP xs c item f s (a + k) n = shiftR a (listP (xs.drop a) c item' f s k n)
  | 0, s, k, n, h => rfl
  | f + 1, s, k, n, h => by
    rw [listP, listP, hi s k n h]
    have h1 := hf s k n h
    cases hr : item' s k n with
    | err e b => rfl
    | ok s1 a1 n1 =>
      rw [hr] at h1
      have h2 : a1 ≤ (xs.drop a).length := h1
      rw [List.length_drop] at h2
      simp only [shiftR]
      rw [whiteN_at xs a a1 (by omega), peekP_at, get_at]
      split
      · rename_i h44
        have hl := (peekP_some h44 (by decide)).2
        rw [List.length_drop] at hl
        rw [Nat.add_assoc, listP_at hi hf f _ _ _ (by omega)]; rfl
      split
      · simp only [shiftR, Nat.add_assoc]
      · rfl
theorem listP_fuel {σ : Type} {xs : List UInt8} {c : UInt8} {item : σ → Nat → Nat → PR σ} (hm : ∀ s k n s' k' n', k ≤ xs.length → item s k n = .ok s' k' n' → k ≤ k' ∧ k' ≤ xs.length) : ∀ (f1 f2 : Nat) (s : σ) (k n : Nat), k ≤ xs.length → xs.length < k + f1 → xs.length < k + f2 → listP xs c item f1 s k n = listP xs c item f2 s k n
  | 0, _, _, _, _, h, h1, _ => by omega
  | f1 + 1, 0, _, _, _, h, _, h2 => by omega
  | f1 + 1, f2 + 1, s, k, n, h, h1, h2 => by
    rw [listP, listP]
    cases hr : item s k n with
    | err e b => rfl
    | ok s1 k1 n1 =>
      obtain ⟨h3, h4⟩ := hm _ _ _ _ _ _ h hr
      have h5 := whiteN_ge xs k1 h4
      simp only
      split
      · rename_i h44
        have hl := (peekP_some h44 (by decide)).2
        exact listP_fuel hm f1 f2 _ _ _ (by omega) (by omega) (by omega)
      · rfl
theorem openP_at {σ : Type} {xs : List UInt8} {c : UInt8} (hc : c ≠ 0) {item item' : σ → Nat → Nat → PR σ} {a : Nat} (hi : ∀ s k n, a + k ≤ xs.length → item s (a + k) n = shiftR a (item' s k n)) (hf : ∀ s k n, a + k ≤ xs.length → Fine (xs.drop a) (item' s k n))
    (hm : ∀ s k n s' k' n', k ≤ (xs.drop a).length → item' s k n = .ok s' k' n' → k ≤ k') (s : σ) (k n : Nat) (h : a + k < xs.length) : openP xs c item s (a + k) n = shiftR a (openP (xs.drop a) c item' s k n) := by
  rw [openP, openP, Nat.add_assoc, whiteN_at xs a (k + 1) (by omega), peekP_at]
  split
  · simp only [shiftR, Nat.add_assoc]
  · have hw := whiteN_le (xs.drop a) (k + 1)
    have hw2 := hw
    rw [List.length_drop] at hw2
    rw [listP_at hi hf _ _ _ _ (by omega)]
    congr 1
    refine listP_fuel (fun s k n s' k' n' hk hr => ?_) _ _ _ _ _ hw (by rw [List.length_drop]; omega) (by rw [List.length_drop]; omega)
    refine ⟨hm _ _ _ _ _ _ hk hr, ?_⟩
    have h9 := hf s k n (by rw [List.length_drop] at hk; omega)
    rw [hr] at h9
    exact h9
theorem valueP_at (xs : List UInt8) (a : Nat) : ∀ (f deep k n : Nat), a + k ≤ xs.length → valueP xs f deep (a + k) n = shiftR a (valueP (xs.drop a) f deep k n)
  | 0, _, _, _, _ => rfl
  | f + 1, deep, k, n, h => by
    have hw := whiteN_at xs a k h
    have hwl := whiteN_le (xs.drop a) k
    rw [List.length_drop] at hwl
    rw [valueP, valueP, hw]
    generalize whiteN (xs.drop a) k = b at *
    rw [peekP_at]
    split
    · rfl
    rename_i hpk
    have hlt : a + b < xs.length := by
      by_cases hl : b < (xs.drop a).length
      · rw [List.length_drop] at hl; omega
      · exfalso; rw [peekP_ge hl] at hpk; exact hpk (fun h => h.1 rfl)
    split
    · rfl
    split
    · exact wordP_at _ _ _ _ _ _
    split
    · exact wordP_at _ _ _ _ _ _
    split
    · exact wordP_at _ _ _ _ _ _
    split
    · rw [textP_at xs a b _ (by omega), shiftR_map]
    split
    · split
      · rfl
      · rw [openP_at (item' := itemA (valueP (xs.drop a) f (deep + 1))) (by decide) (fun s k n h => by unfold itemA; rw [valueP_at xs a f _ _ _ h, shiftR_map]) (fun s k n h => itemA_fine (fun k n h => valueP_fine f _ _ _ h) s k n (by rw [List.length_drop]; omega)) (fun s k n s' k' n' hk hr => by
          unfold itemA at hr
          obtain ⟨u, h1, _⟩ := PR.map_ok hr
          exact (valueP_ok f _ _ _ _ _ _ hk h1).1) _ _ _ hlt, shiftR_map]
    split
    · split
      · rfl
      · rw [openP_at (item' := itemO (xs.drop a) (valueP (xs.drop a) f (deep + 1))) (by decide) (fun s k n h => ?_) (fun s k n h => itemO_fine (fun k n h => valueP_fine f _ _ _ h) s k n (by rw [List.length_drop]; omega)) (fun s k n s' k' n' hk hr => (itemO_ok (fun a n t a' n' ha h => valueP_ok f _ _ _ _ _ _ ha h) hk hr).1) _ _ _ hlt, shiftR_map]
        unfold itemO
        have hwk := whiteN_le (xs.drop a) k
        rw [List.length_drop] at hwk
        rw [whiteN_at xs a k h, textP_at xs a _ n (by omega)]
        have hft := textP_fine (n := n) (whiteN_le (xs.drop a) k)
        cases ht : textP (xs.drop a) (whiteN (xs.drop a) k) n with
        | err e b => rfl
        | ok key a1 n1 =>
          rw [ht] at hft
          have ha1 : a1 ≤ (xs.drop a).length := hft
          rw [List.length_drop] at ha1
          simp only [shiftR]
          split
          · rfl
          rw [whiteN_at xs a a1 (by omega), get_at]
          split
          · rename_i h58
            obtain ⟨hl, _⟩ := List.getElem?_eq_some_iff.1 h58
            rw [List.length_drop] at hl
            rw [Nat.add_assoc, valueP_at xs a f _ _ _ (by omega), shiftR_map]; rfl
          · rfl
    · exact numP_at xs a b _ (by omega)
/-- at a place: what is ahead of it -/
theorem valueP_drop (xs : List UInt8) (f deep a n : Nat) (h : a ≤ xs.length) : valueP xs f deep a n = shiftR a (valueP (xs.drop a) f deep 0 n) := valueP_at xs a f deep 0 n h
end Go.Proofs.YtckpndbmpigegaaDoor
