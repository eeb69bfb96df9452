/- Several texts of this proof in one. -/
import Derived.Test.YtckpndbmpigegaaDoorPaV
import Derived.Defers
import Derived.Recover
import Derived.Laws.Pointers
import Derived.Test.YtckpndbmpigegaaDoorWUtfC
import Derived.Test.YtckpndbmpigegaaDoorGrowT
import Derived.Lib.SlBytesConst
import Derived.Test.YtckpndbmpigegaaDoorPaS
import Derived.Test.YtckpndbmpigegaaDoorDecB
import Derived.Test.YtckpndbmpigegaaDoorDecC
import Derived.Test.YtckpndbmpigegaaDoorStr
import Derived.Test.YtckpndbmpigegaaDoorDecV
section
/- parse: where the parser's places lie, and that an error is one (plain). -/
set_option linter.unusedVariables false
set_option linter.unusedSimpArgs false
set_option maxRecDepth 100000
namespace Go.Proofs.YtckpndbmpigegaaDoor
open Go.RowKit Go.Mem Orange
/-- a place in the text; an error that is one -/
def Fine {α : Type} (xs : List UInt8) : PR α → Prop
  | .ok _ a _ => a ≤ xs.length
  | .err e b => e ≠ 0 ∧ b ≤ xs.length
theorem Fine.map {α β : Type} {xs : List UInt8} {f : α → β} {r : PR α} (h : Fine xs r) : Fine xs (r.map f) := by cases r <;> exact h
theorem textL_fine (xs : List UInt8) (n : Nat) : ∀ (f a : Nat) (out : List UInt8), a ≤ xs.length → Fine xs (textL xs n f a out)
  | 0, a, _, h => ⟨by decide, h⟩
  | f + 1, a, out, h => by
    rw [textL]
    split
    · rename_i h1
      exact (peekP_some h1 (by decide)).2
    split
    · exact ⟨by decide, h⟩
    rename_i h2
    have hne : (xs.drop a) ≠ [] := fun e => by rw [e] at h2; exact h2 (fun h => absurd h.1 (by decide))
    have hlt : a < xs.length := by
      rcases Nat.lt_or_ge a xs.length with h' | h'
      · exact h'
      · exact absurd (List.drop_of_length_le h') hne
    split
    · split
      · exact ⟨by decide, h⟩
      · refine textL_fine xs n f _ _ ?_
        have := escape_le (xs.drop (a + 1))
        rw [List.length_drop] at this
        omega
    · refine textL_fine xs n f _ _ ?_
      have := next_le (xs.drop a)
      rw [List.length_drop] at this
      omega
theorem textP_fine {xs : List UInt8} {a n : Nat} (h : a ≤ xs.length) : Fine xs (textP xs a n) := by
  rw [textP]
  split
  · rename_i h1
    obtain ⟨hl, _⟩ := List.getElem?_eq_some_iff.1 h1
    exact textL_fine xs n _ _ _ hl
  · exact ⟨by decide, h⟩
theorem listP_fine {σ : Type} {xs : List UInt8} {c : UInt8} {item : σ → Nat → Nat → PR σ} (hi : ∀ s a n, a ≤ xs.length → Fine xs (item s a n)) : ∀ (f : Nat) (s : σ) (a n : Nat), a ≤ xs.length → Fine xs (listP xs c item f s a n)
  | 0, _, _, _, h => ⟨by decide, h⟩
  | f + 1, s, a, n, h => by
    rw [listP]
    have h1 := hi s a n h
    cases hr : item s a n with
    | err e b => rw [hr] at h1; exact h1
    | ok s1 a1 n1 =>
      simp only
      split
      · rename_i h44
        exact listP_fine hi f _ _ _ (peekP_some h44 (by decide)).2
      split
      · rename_i hc
        obtain ⟨hl, _⟩ := List.getElem?_eq_some_iff.1 hc
        exact hl
      · exact ⟨by decide, whiteN_le _ _⟩
theorem openP_fine {σ : Type} {xs : List UInt8} {c : UInt8} (hc : c ≠ 0) {item : σ → Nat → Nat → PR σ} (hi : ∀ s a n, a ≤ xs.length → Fine xs (item s a n)) (s : σ) (a n : Nat) : Fine xs (openP xs c item s a n) := by
  rw [openP]
  split
  · rename_i h1
    exact (peekP_some h1 hc).2
  · exact listP_fine hi _ _ _ _ (whiteN_le _ _)
theorem itemA_fine {xs : List UInt8} {r : Nat → Nat → PR Tree} (hr : ∀ a n, a ≤ xs.length → Fine xs (r a n)) (acc : List Tree) (a n : Nat) (h : a ≤ xs.length) : Fine xs (itemA r acc a n) := (hr a n h).map
theorem itemO_fine {xs : List UInt8} {r : Nat → Nat → PR Tree} (hr : ∀ a n, a ≤ xs.length → Fine xs (r a n)) (acc : List (List UInt8 × Tree)) (a n : Nat) (h : a ≤ xs.length) : Fine xs (itemO xs r acc a n) := by
  unfold itemO
  have h1 := textP_fine (n := n) (whiteN_le xs a)
  cases ht : textP xs (whiteN xs a) n with
  | err e b => rw [ht] at h1; exact h1
  | ok key a1 n1 =>
    simp only
    split
    · exact ⟨by decide, whiteN_le _ _⟩
    split
    · rename_i h58
      obtain ⟨hl, _⟩ := List.getElem?_eq_some_iff.1 h58
      exact (hr _ _ hl).map
    · exact ⟨by decide, whiteN_le _ _⟩
theorem valueP_fine {xs : List UInt8} : ∀ (f deep a n : Nat), a ≤ xs.length → Fine xs (valueP xs f deep a n)
  | 0, _, _, _, h => ⟨by decide, h⟩
  | f + 1, deep, a, n, h => by
    have hwl := whiteN_le xs a
    have hword : ∀ (s : List UInt8) t0, Fine xs (wordP xs s t0 (whiteN xs a) (n + 1)) := fun s t0 => by
      unfold wordP
      split
      · rename_i h1
        have := congrArg List.length h1
        rw [List.length_take, List.length_drop] at this
        show _ ≤ _
        omega
      · exact ⟨by decide, hwl⟩
    rw [valueP]
    split
    · exact ⟨by decide, hwl⟩
    split
    · exact ⟨by decide, hwl⟩
    split
    · exact hword _ _
    split
    · exact hword _ _
    split
    · exact hword _ _
    split
    · exact (textP_fine hwl).map
    split
    · split
      · exact ⟨by decide, hwl⟩
      · exact (openP_fine (by decide) (fun s a n h => itemA_fine (fun a n h => valueP_fine f _ _ _ h) s a n h) _ _ _).map
    split
    · split
      · exact ⟨by decide, hwl⟩
      · exact (openP_fine (by decide) (fun s a n h => itemO_fine (fun a n h => valueP_fine f _ _ _ h) s a n h) _ _ _).map
    · unfold numP
      simp only
      split
      · exact (numEnd_bd xs _ hwl).2
      · rename_i h9
        exact ⟨h9, hwl⟩
theorem oneP_fine (xs : List UInt8) (a : Int) : Fine xs (oneP xs a) := valueP_fine 65 0 _ _ (clampN_le _ _)
end Go.Proofs.YtckpndbmpigegaaDoor
end

section
/- parse: the parser looks at what is ahead of it alone (plain). -/
set_option linter.unusedVariables false
set_option linter.unusedSimpArgs false
set_option maxRecDepth 100000
namespace Go.Proofs.YtckpndbmpigegaaDoor
open Go.RowKit Go.Mem Orange
def shiftR {α : Type} (k : Nat) : PR α → PR α
  | .ok v a n => .ok v (k + a) n
  | .err e a => .err e (k + a)
theorem shiftR_map {α β : Type} {f : α → β} {k : Nat} {r : PR α} : (shiftR k r).map f = shiftR k (r.map f) := by cases r <;> rfl
theorem peekP_at (xs : List UInt8) (a k : Nat) : peekP xs (a + k) = peekP (xs.drop a) k := by
  unfold peekP; simp [List.getD_eq_getElem?_getD, List.getElem?_drop]
theorem get_at (xs : List UInt8) (a k : Nat) : xs[a + k]? = (xs.drop a)[k]? := by simp [List.getElem?_drop]
theorem whiteN_at (xs : List UInt8) (a k : Nat) (h : a + k ≤ xs.length) : whiteN xs (a + k) = a + whiteN (xs.drop a) k := by
  unfold whiteN
  have := dropWhile_le isWhite (xs.drop (a + k))
  rw [List.drop_drop, List.length_drop]
  rw [List.length_drop] at this
  omega
theorem numEnd_at (xs : List UInt8) (a k : Nat) (h : a + k ≤ xs.length) : numEnd xs (a + k) = a + numEnd (xs.drop a) k := by
  unfold numEnd
  have := dropWhile_le isFig (xs.drop (a + k))
  rw [List.drop_drop, List.length_drop]
  rw [List.length_drop] at this
  omega
theorem textL_at (xs : List UInt8) (a n : Nat) : ∀ (f k : Nat) (out : List UInt8), textL xs n f (a + k) out = shiftR a (textL (xs.drop a) n f k out)
  | 0, k, out => rfl
  | f + 1, k, out => by
    rw [textL, textL, peekP_at]
    simp only [List.drop_drop, ← Nat.add_assoc]
    split
    · rfl
    split
    · rfl
    split
    · split
      · rfl
      · rw [show a + k + (escape (xs.drop (a + k + 1))).2 + 1 = a + (k + ((escape (xs.drop (a + k + 1))).2 + 1)) by omega]
        rw [textL_at xs a n f]
        simp only [Nat.add_assoc]
    · rw [Nat.add_assoc, textL_at xs a n f]
theorem textL_fuel (xs : List UInt8) (n : Nat) : ∀ (f1 f2 k : Nat) (out : List UInt8), k ≤ xs.length → xs.length < k + f1 → xs.length < k + f2 → textL xs n f1 k out = textL xs n f2 k out
  | 0, _, _, _, h, h1, _ => by omega
  | f1 + 1, 0, _, _, h, _, h2 => by omega
  | f1 + 1, f2 + 1, k, out, h, h1, h2 => by
    rw [textL, textL]
    split
    · rfl
    split
    · rfl
    rename_i hn
    have hne : 0 < (next (xs.drop k)).2 := by
      rcases Nat.eq_zero_or_pos (next (xs.drop k)).2 with e | e
      · exact absurd (fun h => by omega) hn
      · exact e
    have hnl := next_le (xs.drop k)
    rw [List.length_drop] at hnl
    split
    · split
      · rfl
      · have := escape_le (xs.drop (k + 1))
        rw [List.length_drop] at this
        exact textL_fuel xs n f1 f2 _ _ (by omega) (by omega) (by omega)
    · exact textL_fuel xs n f1 f2 _ _ (by omega) (by omega) (by omega)
theorem textP_at (xs : List UInt8) (a k n : Nat) (h : a + k ≤ xs.length) : textP xs (a + k) n = shiftR a (textP (xs.drop a) k n) := by
  rw [textP, textP, get_at]
  split
  · rename_i h1
    obtain ⟨hl, _⟩ := List.getElem?_eq_some_iff.1 h1
    rw [List.length_drop] at hl
    rw [Nat.add_assoc, textL_at]
    congr 1
    exact textL_fuel _ n _ _ _ _ (by rw [List.length_drop]; omega) (by rw [List.length_drop]; omega) (by rw [List.length_drop]; omega)
  · rfl
theorem wordP_at (xs s : List UInt8) (t : Tree) (a k n : Nat) : wordP xs s t (a + k) n = shiftR a (wordP (xs.drop a) s t k n) := by
  unfold wordP
  rw [List.drop_drop]
  split
  · simp only [shiftR, Nat.add_assoc]
  · rfl
theorem numP_at (xs : List UInt8) (a k n : Nat) (h : a + k ≤ xs.length) : numP xs (a + k) n = shiftR a (numP (xs.drop a) k n) := by
  unfold numP
  simp only [List.drop_drop, numEnd_at xs a k h]
  rw [show a + numEnd (xs.drop a) k - (a + k) = numEnd (xs.drop a) k - k by omega]
  split <;> rfl
theorem listP_at {σ : Type} {xs : List UInt8} {c : UInt8} {item item' : σ → Nat → Nat → PR σ} {a : Nat} (hi : ∀ s k n, a + k ≤ xs.length → item s (a + k) n = shiftR a (item' s k n)) (hf : ∀ s k n, a + k ≤ xs.length → Fine (xs.drop a) (item' s k n)) : ∀ (f : Nat) (s : σ) (k n : Nat), a + k ≤ xs.length → listP xs c item f s (a + k) n = shiftR a (listP (xs.drop a) c item' f s k n)
  | 0, s, k, n, h => rfl
  | f + 1, s, k, n, h => by
    rw [listP, listP, hi s k n h]
    have h1 := hf s k n h
    cases hr : item' s k n with
    | err e b => rfl
    | ok s1 a1 n1 =>
      rw [hr] at h1
      have h2 : a1 ≤ (xs.drop a).length := h1
      rw [List.length_drop] at h2
      simp only [shiftR]
      rw [whiteN_at xs a a1 (by omega), peekP_at, get_at]
      split
      · rename_i h44
        have hl := (peekP_some h44 (by decide)).2
        rw [List.length_drop] at hl
        rw [Nat.add_assoc, listP_at hi hf f _ _ _ (by omega)]; rfl
      split
      · simp only [shiftR, Nat.add_assoc]
      · rfl
theorem listP_fuel {σ : Type} {xs : List UInt8} {c : UInt8} {item : σ → Nat → Nat → PR σ} (hm : ∀ s k n s' k' n', k ≤ xs.length → item s k n = .ok s' k' n' → k ≤ k' ∧ k' ≤ xs.length) : ∀ (f1 f2 : Nat) (s : σ) (k n : Nat), k ≤ xs.length → xs.length < k + f1 → xs.length < k + f2 → listP xs c item f1 s k n = listP xs c item f2 s k n
  | 0, _, _, _, _, h, h1, _ => by omega
  | f1 + 1, 0, _, _, _, h, _, h2 => by omega
  | f1 + 1, f2 + 1, s, k, n, h, h1, h2 => by
    rw [listP, listP]
    cases hr : item s k n with
    | err e b => rfl
    | ok s1 k1 n1 =>
      obtain ⟨h3, h4⟩ := hm _ _ _ _ _ _ h hr
      have h5 := whiteN_ge xs k1 h4
      simp only
      split
      · rename_i h44
        have hl := (peekP_some h44 (by decide)).2
        exact listP_fuel hm f1 f2 _ _ _ (by omega) (by omega) (by omega)
      · rfl
theorem openP_at {σ : Type} {xs : List UInt8} {c : UInt8} (hc : c ≠ 0) {item item' : σ → Nat → Nat → PR σ} {a : Nat} (hi : ∀ s k n, a + k ≤ xs.length → item s (a + k) n = shiftR a (item' s k n)) (hf : ∀ s k n, a + k ≤ xs.length → Fine (xs.drop a) (item' s k n))
    (hm : ∀ s k n s' k' n', k ≤ (xs.drop a).length → item' s k n = .ok s' k' n' → k ≤ k') (s : σ) (k n : Nat) (h : a + k < xs.length) : openP xs c item s (a + k) n = shiftR a (openP (xs.drop a) c item' s k n) := by
  rw [openP, openP, Nat.add_assoc, whiteN_at xs a (k + 1) (by omega), peekP_at]
  split
  · simp only [shiftR, Nat.add_assoc]
  · have hw := whiteN_le (xs.drop a) (k + 1)
    have hw2 := hw
    rw [List.length_drop] at hw2
    rw [listP_at hi hf _ _ _ _ (by omega)]
    congr 1
    refine listP_fuel (fun s k n s' k' n' hk hr => ?_) _ _ _ _ _ hw (by rw [List.length_drop]; omega) (by rw [List.length_drop]; omega)
    refine ⟨hm _ _ _ _ _ _ hk hr, ?_⟩
    have h9 := hf s k n (by rw [List.length_drop] at hk; omega)
    rw [hr] at h9
    exact h9
theorem valueP_at (xs : List UInt8) (a : Nat) : ∀ (f deep k n : Nat), a + k ≤ xs.length → valueP xs f deep (a + k) n = shiftR a (valueP (xs.drop a) f deep k n)
  | 0, _, _, _, _ => rfl
  | f + 1, deep, k, n, h => by
    have hw := whiteN_at xs a k h
    have hwl := whiteN_le (xs.drop a) k
    rw [List.length_drop] at hwl
    rw [valueP, valueP, hw]
    generalize whiteN (xs.drop a) k = b at *
    rw [peekP_at]
    split
    · rfl
    rename_i hpk
    have hlt : a + b < xs.length := by
      by_cases hl : b < (xs.drop a).length
      · rw [List.length_drop] at hl; omega
      · exfalso; rw [peekP_ge hl] at hpk; exact hpk (fun h => h.1 rfl)
    split
    · rfl
    split
    · exact wordP_at _ _ _ _ _ _
    split
    · exact wordP_at _ _ _ _ _ _
    split
    · exact wordP_at _ _ _ _ _ _
    split
    · rw [textP_at xs a b _ (by omega), shiftR_map]
    split
    · split
      · rfl
      · rw [openP_at (item' := itemA (valueP (xs.drop a) f (deep + 1))) (by decide) (fun s k n h => by unfold itemA; rw [valueP_at xs a f _ _ _ h, shiftR_map]) (fun s k n h => itemA_fine (fun k n h => valueP_fine f _ _ _ h) s k n (by rw [List.length_drop]; omega)) (fun s k n s' k' n' hk hr => by
          unfold itemA at hr
          obtain ⟨u, h1, _⟩ := PR.map_ok hr
          exact (valueP_ok f _ _ _ _ _ _ hk h1).1) _ _ _ hlt, shiftR_map]
    split
    · split
      · rfl
      · rw [openP_at (item' := itemO (xs.drop a) (valueP (xs.drop a) f (deep + 1))) (by decide) (fun s k n h => ?_) (fun s k n h => itemO_fine (fun k n h => valueP_fine f _ _ _ h) s k n (by rw [List.length_drop]; omega)) (fun s k n s' k' n' hk hr => (itemO_ok (fun a n t a' n' ha h => valueP_ok f _ _ _ _ _ _ ha h) hk hr).1) _ _ _ hlt, shiftR_map]
        unfold itemO
        have hwk := whiteN_le (xs.drop a) k
        rw [List.length_drop] at hwk
        rw [whiteN_at xs a k h, textP_at xs a _ n (by omega)]
        have hft := textP_fine (n := n) (whiteN_le (xs.drop a) k)
        cases ht : textP (xs.drop a) (whiteN (xs.drop a) k) n with
        | err e b => rfl
        | ok key a1 n1 =>
          rw [ht] at hft
          have ha1 : a1 ≤ (xs.drop a).length := hft
          rw [List.length_drop] at ha1
          simp only [shiftR]
          split
          · rfl
          rw [whiteN_at xs a a1 (by omega), get_at]
          split
          · rename_i h58
            obtain ⟨hl, _⟩ := List.getElem?_eq_some_iff.1 h58
            rw [List.length_drop] at hl
            rw [Nat.add_assoc, valueP_at xs a f _ _ _ (by omega), shiftR_map]; rfl
          · rfl
    · exact numP_at xs a b _ (by omega)
/-- at a place: what is ahead of it -/
theorem valueP_drop (xs : List UInt8) (f deep a n : Nat) (h : a ≤ xs.length) : valueP xs f deep a n = shiftR a (valueP (xs.drop a) f deep 0 n) := valueP_at xs a f deep 0 n h
end Go.Proofs.YtckpndbmpigegaaDoor
end

section
/- parse: a text that agrees with another one as far as a value goes has this value (plain). -/
set_option linter.unusedVariables false
set_option linter.unusedSimpArgs false
set_option maxRecDepth 100000
namespace Go.Proofs.YtckpndbmpigegaaDoor
open Go.RowKit Go.Mem Orange
/-! ### the end of a run of bytes -/
def endQ (q : UInt8 → Bool) (X : List UInt8) (k : Nat) : Nat := X.length - ((X.drop k).dropWhile q).length
theorem endQ_step {q : UInt8 → Bool} {X : List UInt8} {k : Nat} (h : k < X.length) (hq : q X[k] = true) : endQ q X k = endQ q X (k + 1) := by
  unfold endQ
  rw [List.drop_eq_getElem_cons h, List.dropWhile_cons, if_pos hq]
theorem endQ_stop {q : UInt8 → Bool} {X : List UInt8} {k : Nat} (h : k < X.length) (hq : q X[k] = false) : endQ q X k = k := by
  unfold endQ
  rw [List.drop_eq_getElem_cons h, List.dropWhile_cons, hq]
  simp
  omega
theorem endQ_end {q : UInt8 → Bool} {X : List UInt8} {k : Nat} (h : k = X.length) : endQ q X k = k := by
  unfold endQ
  rw [List.drop_of_length_le (by omega)]
  simp [h]
theorem endQ_spec (q : UInt8 → Bool) (X : List UInt8) : ∀ (j k : Nat), j = X.length - k → k ≤ X.length → k ≤ endQ q X k ∧ endQ q X k ≤ X.length ∧ (∀ i, k ≤ i → i < endQ q X k → ∃ c, X[i]? = some c ∧ q c = true) ∧ (∀ c, X[endQ q X k]? = some c → q c = false)
  | 0, k, hj, hk => by
    rw [endQ_end (by omega)]
    refine ⟨by omega, hk, fun i h1 h2 => by omega, fun c h => ?_⟩
    rw [List.getElem?_eq_none (by omega)] at h
    cases h
  | j + 1, k, hj, hk => by
    have hlt : k < X.length := by omega
    cases hq : q X[k] with
    | true =>
      obtain ⟨h1, h2, h3, h4⟩ := endQ_spec q X j (k + 1) (by omega) (by omega)
      rw [endQ_step hlt hq]
      refine ⟨by omega, h2, fun i h5 h6 => ?_, h4⟩
      by_cases hi : i = k
      · subst hi; exact ⟨X[i], by simp [hlt], hq⟩
      · exact h3 i (by omega) h6
    | false =>
      rw [endQ_stop hlt hq]
      refine ⟨by omega, hk, fun i h1 h2 => by omega, fun c h => ?_⟩
      rw [List.getElem?_eq_getElem hlt, Option.some.injEq] at h
      rw [← h]; exact hq
theorem endQ_unique {q : UInt8 → Bool} {Z : List UInt8} : ∀ (j k p : Nat), p = k + j → p ≤ Z.length → (∀ i, k ≤ i → i < p → ∃ c, Z[i]? = some c ∧ q c = true) → (∀ c, Z[p]? = some c → q c = false) → endQ q Z k = p
  | 0, k, p, hj, hp, _, h2 => by
    obtain rfl : p = k := by omega
    rcases Nat.lt_or_ge p Z.length with h | h
    · exact endQ_stop h (h2 _ (by simp [h]))
    · exact endQ_end (by omega)
  | j + 1, k, p, hj, hp, h1, h2 => by
    have hlt : k < Z.length := by omega
    obtain ⟨c, h3, h4⟩ := h1 k (by omega) (by omega)
    rw [List.getElem?_eq_getElem hlt, Option.some.injEq] at h3
    subst h3
    rw [endQ_step hlt h4]
    exact endQ_unique j (k + 1) p (by omega) hp (fun i h5 h6 => h1 i (by omega) h6) h2
theorem whiteN_endQ (X : List UInt8) (k : Nat) : whiteN X k = endQ isWhite X k := rfl
theorem numEnd_endQ (X : List UInt8) (k : Nat) : numEnd X k = endQ isFig X k := rfl
/-- bytes that agree -/
theorem agree_get {X Z : List UInt8} {a i : Nat} (h : Z.take a = X.take a) (hi : i < a) : Z[i]? = X[i]? := by
  have := congrArg (fun l => l[i]?) h
  simpa [List.getElem?_take, hi] using this
theorem agree_len {X Z : List UInt8} {a : Nat} (h : Z.take a = X.take a) (ha : a ≤ X.length) : a ≤ Z.length := by
  have := congrArg List.length h
  simp at this
  omega
theorem agree_mono {X Z : List UInt8} {a b : Nat} (h : Z.take a = X.take a) (hb : b ≤ a) : Z.take b = X.take b := by
  have := congrArg (List.take b) h
  simpa [List.take_take, Nat.min_eq_left hb] using this
theorem agree_drop {X Z : List UInt8} {a k : Nat} (h : Z.take (k + a) = X.take (k + a)) : (Z.drop k).take a = (X.drop k).take a := by
  rw [List.take_drop, List.take_drop, h]
theorem agree_peek {X Z : List UInt8} {a i : Nat} (h : Z.take a = X.take a) (hi : i < a) : peekP Z i = peekP X i := by
  unfold peekP
  rw [List.getD_eq_getElem?_getD, List.getD_eq_getElem?_getD, agree_get h hi]
theorem endQ_agree {q : UInt8 → Bool} {X Z : List UInt8} {k a : Nat} (hk : k ≤ X.length) (hZ : Z.take a = X.take a) (ha : a ≤ X.length) (hp : endQ q X k ≤ a) (hend : endQ q X k < a ∨ ∀ c, Z[endQ q X k]? = some c → q c = false) : endQ q Z k = endQ q X k := by
  obtain ⟨h1, h2, h3, h4⟩ := endQ_spec q X _ k rfl hk
  have hl := agree_len hZ ha
  refine endQ_unique (endQ q X k - k) k _ (by omega) (by omega) (fun i h5 h6 => ?_) ?_
  · rw [agree_get hZ (by omega)]; exact h3 i h5 h6
  · rcases hend with h | h
    · rw [agree_get hZ h]; exact h4
    · exact h
theorem white_agree {X Z : List UInt8} {k a : Nat} (hk : k ≤ X.length) (hZ : Z.take a = X.take a) (ha : a ≤ X.length) (hp : whiteN X k < a) : whiteN Z k = whiteN X k :=
  endQ_agree hk hZ ha (Nat.le_of_lt hp) (.inl hp)
/-! ### characters -/
theorem next_agree {X Z : List UInt8} (h : 0 < (next X).2) (hZ : Z.take (next X).2 = X.take (next X).2) : next Z = next X := by
  rcases next_spec X with h0 | ⟨hs, hn, t, ht⟩
  · rw [h0] at h; exact absurd h (by decide)
  · generalize hP : next X = P at *
    obtain ⟨r, n⟩ := P
    simp only at hs hn ht hZ h ⊢
    subst hn
    rw [ht, List.take_left] at hZ
    have hz : Z = enc r ++ Z.drop (enc r).length := by
      conv => lhs; rw [← List.take_append_drop (enc r).length Z, hZ]
    rw [hz, next_enc hs]
theorem unit_agree {X Z : List UInt8} {v : Int} (h : unit X = some v) (hZ : Z.take 5 = X.take 5) : unit Z = some v := by
  cases X with
  | nil => cases h
  | cons u t =>
    cases Z with
    | nil =>
      simp only [unit] at h
      split at h
      · cases h
      · simp at hZ
    | cons z s =>
      simp only [List.take_succ_cons, List.cons.injEq] at hZ
      obtain ⟨rfl, h4⟩ := hZ
      simp only [unit] at h ⊢
      have hl := congrArg List.length h4
      simp only [List.length_take] at hl
      split at h
      · cases h
      · rename_i hc
        rw [if_neg (by simp only [Bool.or_eq_true, decide_eq_true_eq, not_or] at hc ⊢; exact ⟨by omega, hc.2⟩), h4]
        exact h
theorem pair_agree {X Z : List UInt8} {v r : Int} (h : pair v X = some r) (hZ : Z.take 6 = X.take 6) : pair v Z = some r := by
  cases X with
  | nil => cases h
  | cons u t =>
    cases Z with
    | nil => simp at hZ
    | cons z s =>
      simp only [List.take_succ_cons, List.cons.injEq] at hZ
      obtain ⟨rfl, h4⟩ := hZ
      simp only [pair] at h ⊢
      have hl := congrArg List.length h4
      simp only [List.length_take] at hl
      split at h
      · cases h
      · rename_i hc
        rw [if_neg (by simp only [Bool.or_eq_true, decide_eq_true_eq, not_or] at hc ⊢; exact ⟨⟨hc.1.1, by omega⟩, hc.2⟩)]
        cases hu : unit t with
        | none => rw [hu] at h; cases h
        | some x => rw [hu] at h; rw [unit_agree hu h4]; exact h
theorem escape_agree {X Z : List UInt8} (h : 0 < (escape X).2) (hZ : Z.take (escape X).2 = X.take (escape X).2) : escape Z = escape X := by
  cases X with
  | nil => exact absurd h (by decide)
  | cons c t =>
    have hz : ∃ s, Z = c :: s ∧ s.take ((escape (c :: t)).2 - 1) = t.take ((escape (c :: t)).2 - 1) := by
      obtain ⟨n, hn⟩ : ∃ n, (escape (c :: t)).2 = n + 1 := ⟨(escape (c :: t)).2 - 1, by omega⟩
      rw [hn] at hZ ⊢
      cases Z with
      | nil => simp at hZ
      | cons z s =>
        simp only [List.take_succ_cons, List.cons.injEq] at hZ
        obtain ⟨rfl, h4⟩ := hZ
        exact ⟨s, rfl, by simpa using h4⟩
    obtain ⟨s, rfl, h4⟩ := hz
    clear hZ
    simp only [escape] at h h4 ⊢
    split
    · rfl
    split
    · rfl
    rename_i h1 h2
    rw [if_neg h1, if_neg h2] at h h4
    cases hu : unit (c :: t) with
    | none => rw [hu] at h; exact absurd h (Nat.lt_irrefl 0)
    | some v =>
      rw [hu] at h h4
      simp only at h h4 ⊢
      by_cases hs : sound v = true
      · rw [if_pos hs] at h4 ⊢
        rw [unit_agree hu (by simp only [List.take_succ_cons]; rw [show (4 : Nat) = 5 - 1 from rfl, h4])]
        simp [hs]
      · rw [if_neg hs] at h h4 ⊢
        cases hp : pair v (t.drop 4) with
        | none => rw [hp] at h; exact absurd h (Nat.lt_irrefl 0)
        | some r =>
          rw [hp] at h4
          have h4 : s.take 10 = t.take 10 := h4
          rw [unit_agree hu (by simp only [List.take_succ_cons]; rw [agree_mono h4 (by omega)])]
          simp only
          rw [if_neg hs, pair_agree hp (agree_drop (k := 4) h4)]
/-! ### how deep and how many: what a value meets at any depth -/
def foldE {ι : Type} (g : Nat → ι → Except Int Nat) : Nat → List ι → Except Int Nat
  | n, [] => .ok n
  | n, x :: l => match g n x with | .error e => .error e | .ok n' => foldE g n' l
mutual
def fitT : Nat → Nat → Tree → Except Int Nat
  | deep, n, .mk k _ _ _ l m => if 4096 < n + 1 then .error 4 else if 4 ≤ k ∧ 64 ≤ deep then .error 3 else match fitL (deep + 1) (n + 1) l with | .error e => .error e | .ok n' => fitM (deep + 1) n' m
def fitL : Nat → Nat → List Tree → Except Int Nat
  | _, n, [] => .ok n
  | deep, n, t :: l => match fitT deep n t with | .error e => .error e | .ok n' => fitL deep n' l
def fitM : Nat → Nat → List (List UInt8 × Tree) → Except Int Nat
  | _, n, [] => .ok n
  | deep, n, (_, t) :: l => match fitT deep n t with | .error e => .error e | .ok n' => fitM deep n' l
end
theorem fitL_fold (deep : Nat) : ∀ (l : List Tree) (n : Nat), fitL deep n l = foldE (fun n t => fitT deep n t) n l
  | [], n => by rw [fitL, foldE]
  | t :: l, n => by
    rw [fitL, foldE]
    cases fitT deep n t with
    | error e => rfl
    | ok n' => exact fitL_fold deep l n'
theorem fitM_fold (deep : Nat) : ∀ (l : List (List UInt8 × Tree)) (n : Nat), fitM deep n l = foldE (fun n p => fitT deep n p.2) n l
  | [], n => by rw [fitM, foldE]
  | (k, t) :: l, n => by
    rw [fitM, foldE]
    cases fitT deep n t with
    | error e => rfl
    | ok n' => exact fitM_fold deep l n'
/-- the same thing, or an error -/
def SameR {α : Type} (r : PR α) (x : Except Int Nat) (v : α) (a : Nat) : Prop :=
  match x with
  | .ok m => r = .ok v a m
  | .error e => ∃ p, r = .err e p
theorem SameR.map {α β : Type} {f : α → β} {r : PR α} {x : Except Int Nat} {v : α} {a : Nat} (h : SameR r x v a) : SameR (r.map f) x (f v) a := by
  cases x with
  | ok m => have h : r = .ok v a m := h; rw [h]; exact rfl
  | error e => obtain ⟨p, h⟩ := h; rw [h]; exact ⟨p, rfl⟩
/-! ### the parser's parts -/
theorem textL_agree {X Z : List UInt8} (n n' : Nat) : ∀ (f k : Nat) (out v : List UInt8) (a m : Nat), k ≤ X.length → textL X n f k out = .ok v a m → k < a ∧ a ≤ X.length ∧ m = n ∧ (Z.take a = X.take a → ∀ f', Z.length < k + f' → textL Z n' f' k out = .ok v a n')
  | 0, k, out, v, a, m, hk, h => by rw [textL] at h; cases h
  | f + 1, k, out, v, a, m, hk, h => by
    rw [textL] at h
    by_cases h34 : peekP X k = 34
    · rw [if_pos h34] at h
      simp only [PR.ok.injEq] at h
      obtain ⟨rfl, rfl, rfl⟩ := h
      have hlt := (peekP_some h34 (by decide)).2
      refine ⟨by omega, by omega, rfl, fun hZ f' hf => ?_⟩
      have hl := agree_len hZ (by omega)
      obtain ⟨g, rfl⟩ : ∃ g, f' = g + 1 := ⟨f' - 1, by omega⟩
      rw [textL, if_pos (by rw [agree_peek hZ (by omega)]; exact h34)]
    · rw [if_neg h34] at h
      by_cases hne : 0 < (next (X.drop k)).2 ∧ 32 ≤ (next (X.drop k)).1
      · rw [if_neg (fun h => h hne)] at h
        have hnl := (next_le (X.drop k)).2
        rw [List.length_drop] at hnl
        by_cases h92 : (next (X.drop k)).1 = 92
        · rw [if_pos h92] at h
          by_cases hes : 0 < (escape (X.drop (k + 1))).2
          · rw [if_neg (fun h => h hes)] at h
            have hel := escape_le (X.drop (k + 1))
            rw [List.length_drop] at hel
            obtain ⟨i1, i2, i3, i4⟩ := textL_agree (Z := Z) n n' f _ _ _ _ _ (by omega) h
            refine ⟨by omega, i2, i3, fun hZ f' hf => ?_⟩
            obtain ⟨g, rfl⟩ : ∃ g, f' = g + 1 := ⟨f' - 1, by have := agree_len hZ i2; omega⟩
            have hn1 : (next (X.drop k)).2 = 1 := by
              rcases next_spec (X.drop k) with h0 | ⟨_, hn, _⟩
              · rw [h0] at h92; exact absurd h92 (by decide)
              · rw [hn, h92]; rfl
            have hn := next_agree (Z := Z.drop k) hne.1 (by rw [hn1]; exact agree_drop (agree_mono hZ (by omega)))
            have he := escape_agree (Z := Z.drop (k + 1)) hes (agree_drop (agree_mono hZ (by omega)))
            rw [textL, if_neg (by rw [agree_peek hZ (by omega)]; exact h34), hn, if_neg (fun h => h hne), if_pos h92, he, if_neg (fun h => h hes)]
            exact i4 hZ g (by omega)
          · rw [if_pos hes] at h; cases h
        · rw [if_neg h92] at h
          obtain ⟨i1, i2, i3, i4⟩ := textL_agree (Z := Z) n n' f _ _ _ _ _ (by omega) h
          refine ⟨by omega, i2, i3, fun hZ f' hf => ?_⟩
          obtain ⟨g, rfl⟩ : ∃ g, f' = g + 1 := ⟨f' - 1, by have := agree_len hZ i2; omega⟩
          have hn := next_agree (Z := Z.drop k) hne.1 (agree_drop (agree_mono hZ (by omega)))
          rw [textL, if_neg (by rw [agree_peek hZ (by omega)]; exact h34), hn, if_neg (fun h => h hne), if_neg h92]
          exact i4 hZ g (by omega)
      · rw [if_pos hne] at h; cases h
theorem textP_agree {X Z : List UInt8} {k n n' a m : Nat} {v : List UInt8} (h : textP X k n = .ok v a m) : k < a ∧ a ≤ X.length ∧ m = n ∧ (Z.take a = X.take a → textP Z k n' = .ok v a n') := by
  rw [textP] at h
  split at h
  · rename_i h34
    obtain ⟨hl, _⟩ := List.getElem?_eq_some_iff.1 h34
    obtain ⟨i1, i2, i3, i4⟩ := textL_agree (Z := Z) n n' _ _ _ _ _ _ (by omega) h
    refine ⟨by omega, i2, i3, fun hZ => ?_⟩
    rw [textP, if_pos (by rw [agree_get hZ (by omega)]; exact h34)]
    exact i4 hZ _ (by omega)
  · cases h
/-- an item's law: it lies ahead, and a text that agrees has it -/
def ItemOk {ι : Type} (X Z : List UInt8) (it it' : List ι → Nat → Nat → PR (List ι)) (g : Nat → ι → Except Int Nat) : Prop :=
  ∀ s k n s1 a1 m1, k ≤ X.length → it s k n = .ok s1 a1 m1 → ∃ x, s1 = s ++ [x] ∧ k ≤ a1 ∧ a1 ≤ X.length ∧ (Z.take a1 = X.take a1 → Z[a1]? = X[a1]? → ∀ n', SameR (it' s k n') (g n' x) (s ++ [x]) a1)
theorem listP_agree {ι : Type} {X Z : List UInt8} {close : UInt8} {it it' : List ι → Nat → Nat → PR (List ι)} {g : Nat → ι → Except Int Nat} (hi : ItemOk X Z it it' g) (hc : close ≠ 0) : ∀ (f : Nat) (s : List ι) (k n : Nat) (s' : List ι) (a m : Nat), k ≤ X.length → listP X close it f s k n = .ok s' a m →
    k < a ∧ a ≤ X.length ∧ ∃ l, s' = s ++ l ∧ (Z.take a = X.take a → ∀ f' n', Z.length < k + f' → SameR (listP Z close it' f' s k n') (foldE g n' l) s' a)
  | 0, s, k, n, s', a, m, hk, h => by rw [listP] at h; cases h
  | f + 1, s, k, n, s', a, m, hk, h => by
    rw [listP] at h
    cases hr : it s k n with
    | err e b => rw [hr] at h; cases h
    | ok s1 a1 m1 =>
      rw [hr] at h
      simp only at h
      obtain ⟨x, rfl, h1, h2, h3⟩ := hi _ _ _ _ _ _ hk hr
      have hw1 := whiteN_ge X a1 h2
      by_cases h44 : peekP X (whiteN X a1) = 44
      · rw [if_pos h44] at h
        have hlt := (peekP_some h44 (by decide)).2
        obtain ⟨i1, i2, l, rfl, i4⟩ := listP_agree hi hc f _ _ _ _ _ _ (by omega) h
        refine ⟨by omega, i2, x :: l, by simp, fun hZ f' n' hf => ?_⟩
        have hl := agree_len hZ i2
        obtain ⟨j, rfl⟩ : ∃ j, f' = j + 1 := ⟨f' - 1, by omega⟩
        have h5 := h3 (agree_mono hZ (by omega)) (agree_get hZ (by omega)) n'
        rw [listP, foldE]
        cases hg : g n' x with
        | error e => rw [hg] at h5; obtain ⟨p, h5⟩ := h5; rw [h5]; exact ⟨p, rfl⟩
        | ok n2 =>
          rw [hg] at h5
          have h5 : it' s k n' = .ok (s ++ [x]) a1 n2 := h5
          rw [h5]
          simp only
          rw [white_agree h2 hZ i2 (by omega), if_pos (by rw [agree_peek hZ (by omega)]; exact h44)]
          exact i4 hZ j n2 (by omega)
      · rw [if_neg h44] at h
        by_cases hcl : X[whiteN X a1]? = some close
        · rw [if_pos hcl] at h
          simp only [PR.ok.injEq] at h
          obtain ⟨rfl, rfl, rfl⟩ := h
          obtain ⟨hlt, _⟩ := List.getElem?_eq_some_iff.1 hcl
          refine ⟨by omega, by omega, [x], rfl, fun hZ f' n' hf => ?_⟩
          have hl := agree_len hZ (by omega)
          obtain ⟨j, rfl⟩ : ∃ j, f' = j + 1 := ⟨f' - 1, by omega⟩
          have h5 := h3 (agree_mono hZ (by omega)) (agree_get hZ (by omega)) n'
          rw [listP, foldE]
          cases hg : g n' x with
          | error e => rw [hg] at h5; obtain ⟨p, h5⟩ := h5; rw [h5]; exact ⟨p, rfl⟩
          | ok n2 =>
            rw [hg] at h5
            have h5 : it' s k n' = .ok (s ++ [x]) a1 n2 := h5
            rw [h5]
            simp only
            rw [white_agree h2 hZ (by omega) (by omega), if_neg (by rw [agree_peek hZ (by omega)]; exact h44), if_pos (by rw [agree_get hZ (by omega)]; exact hcl)]
            rw [foldE]
            exact rfl
        · rw [if_neg hcl] at h; cases h
theorem openP_agree {ι : Type} {X Z : List UInt8} {close : UInt8} {it it' : List ι → Nat → Nat → PR (List ι)} {g : Nat → ι → Except Int Nat} (hi : ItemOk X Z it it' g) (hc : close ≠ 0) {k n a m : Nat} {s' : List ι} (hk : k < X.length) (h : openP X close it [] k n = .ok s' a m) :
    k < a ∧ a ≤ X.length ∧ (Z.take a = X.take a → ∀ n', SameR (openP Z close it' [] k n') (foldE g n' s') s' a) := by
  rw [openP] at h
  have hk1 : k + 1 ≤ X.length := hk
  have hw1 := whiteN_ge X (k + 1) hk1
  by_cases hcl : peekP X (whiteN X (k + 1)) = close
  · rw [if_pos hcl] at h
    simp only [PR.ok.injEq] at h
    obtain ⟨rfl, rfl, rfl⟩ := h
    have hlt := (peekP_some hcl hc).2
    refine ⟨by omega, by omega, fun hZ n' => ?_⟩
    rw [openP, white_agree hk1 hZ (by omega) (by omega), if_pos (by rw [agree_peek hZ (by omega)]; exact hcl), foldE]
    exact rfl
  · rw [if_neg hcl] at h
    obtain ⟨i1, i2, l, h3, i4⟩ := listP_agree hi hc _ _ _ _ _ _ _ (whiteN_le X (k + 1)) h
    simp only [List.nil_append] at h3
    subst h3
    refine ⟨by omega, i2, fun hZ n' => ?_⟩
    rw [openP, white_agree hk1 hZ i2 (by omega), if_neg (by rw [agree_peek hZ (by omega)]; exact hcl)]
    exact i4 hZ _ n' (by omega)
theorem fitT_leaf {deep n : Nat} {k : Int} {b : Bool} {d : Num} {s : List UInt8} (hk : k < 4) : fitT deep n (.mk k b d s [] []) = if 4096 < n + 1 then .error 4 else .ok (n + 1) := by
  rw [fitT, fitL]
  show (if 4096 < n + 1 then Except.error 4 else if 4 ≤ k ∧ 64 ≤ deep then .error 3 else fitM (deep + 1) (n + 1) []) = _
  rw [fitM, if_neg (c := 4 ≤ k ∧ 64 ≤ deep) (fun h => by omega)]
theorem fitT_arr {deep n : Nat} (l : List Tree) : fitT deep n (tArr l) = if 4096 < n + 1 then .error 4 else if 64 ≤ deep then .error 3 else foldE (fun n t => fitT (deep + 1) n t) (n + 1) l := by
  rw [tArr, fitT, ← fitL_fold]
  congr 1
  simp only [show (4 : Int) ≤ 4 from by decide, true_and]
  congr 1
  cases fitL (deep + 1) (n + 1) l with
  | error e => rfl
  | ok n' => show fitM (deep + 1) n' [] = _; rw [fitM]
theorem fitT_obj {deep n : Nat} (l : List (List UInt8 × Tree)) : fitT deep n (tObj l) = if 4096 < n + 1 then .error 4 else if 64 ≤ deep then .error 3 else foldE (fun n p => fitT (deep + 1) n p.2) (n + 1) l := by
  rw [tObj, fitT, ← fitM_fold, fitL]
  simp only [show (4 : Int) ≤ 5 from by decide, true_and]
/-- how a value ends is said by the text there -/
def Cut (X Z : List UInt8) (a : Nat) (t : Tree) : Prop := t.kind ≠ 2 ∨ Z[a]? = X[a]? ∨ ∀ c, Z[a]? = some c → isFig c = false
theorem numP_agree {X Z : List UInt8} {k n n' a m : Nat} {t : Tree} (hk : k ≤ X.length) (h : numP X k n = .ok t a m) : k ≤ a ∧ a ≤ X.length ∧ t.kind = 2 ∧ m = n ∧ (Z.take a = X.take a → Cut X Z a t → numP Z k n' = .ok t a n') := by
  unfold numP at h
  simp only at h
  have hb := numEnd_bd X k hk
  split at h
  · rename_i hd
    simp only [PR.ok.injEq] at h
    obtain ⟨rfl, rfl, rfl⟩ := h
    refine ⟨hb.1, hb.2, rfl, rfl, fun hZ hcut => ?_⟩
    have he : numEnd Z k = numEnd X k := by
      refine endQ_agree hk hZ hb.2 (Nat.le_refl _) (.inr ?_)
      rcases hcut with h1 | h1 | h1
      · exact absurd rfl h1
      · have := (endQ_spec isFig X _ k rfl hk).2.2.2
        show ∀ c, Z[numEnd X k]? = some c → isFig c = false
        rw [h1]; exact this
      · exact h1
    unfold numP
    simp only
    rw [he, agree_drop (X := X) (Z := Z) (k := k) (a := numEnd X k - k) (by rw [show k + (numEnd X k - k) = numEnd X k by omega]; exact hZ), if_pos hd]
  · cases h
theorem wordP_agree {X Z s : List UInt8} {t t' : Tree} {k n n' a m : Nat} (hk : k ≤ X.length) (h : wordP X s t' k n = .ok t a m) : a = k + s.length ∧ a ≤ X.length ∧ t = t' ∧ m = n ∧ (Z.take a = X.take a → wordP Z s t' k n' = .ok t a n') := by
  unfold wordP at h
  split at h
  · rename_i hs
    simp only [PR.ok.injEq] at h
    obtain ⟨rfl, rfl, rfl⟩ := h
    have hl := congrArg List.length hs
    simp only [List.length_take, List.length_drop] at hl
    refine ⟨rfl, by omega, rfl, rfl, fun hZ => ?_⟩
    unfold wordP
    rw [agree_drop hZ, if_pos hs]
  · cases h
theorem valueP_agree {X Z : List UInt8} : ∀ (f deep k n : Nat) (t : Tree) (a m : Nat), k ≤ X.length → valueP X f deep k n = .ok t a m →
    k < a ∧ a ≤ X.length ∧ (Z.take a = X.take a → Cut X Z a t → ∀ f' deep' n', 65 ≤ f' + deep' → deep' ≤ 64 → SameR (valueP Z f' deep' k n') (fitT deep' n' t) t a)
  | 0, deep, k, n, t, a, m, hk, h => by rw [valueP] at h; cases h
  | f + 1, deep, k, n, t, a, m, hk, h => by
    rw [valueP] at h
    have hw1 := whiteN_ge X k hk
    by_cases hb : peekP X (whiteN X k) ≠ 0 ∧ begs.contains (peekP X (whiteN X k)) = true
    case neg => rw [if_pos hb] at h; cases h
    rw [if_neg (by simpa using hb)] at h
    by_cases hn : 4096 < n + 1
    case pos => rw [if_pos hn] at h; cases h
    rw [if_neg hn] at h
    have hlt : whiteN X k < X.length := (peekP_some rfl hb.1).2
    -- what Z does, as soon as it agrees behind white
    have hpz : whiteN X k < a → a ≤ X.length → Z.take a = X.take a → whiteN Z k = whiteN X k ∧ peekP Z (whiteN X k) = peekP X (whiteN X k) := fun h1 h2 hZ => ⟨white_agree hk hZ h2 h1, agree_peek hZ h1⟩
    generalize hp : whiteN X k = p at *
    generalize hc : peekP X p = c at *
    -- a leaf that ends at a: what its parse says of any text that agrees
    have hleaf : ∀ (r : List UInt8 → Nat → PR Tree), p < a → a ≤ X.length → (∀ (f' deep' n' : Nat), ¬ 4096 < n' + 1 → (whiteN Z k = p ∧ peekP Z p = c) → valueP Z (f' + 1) deep' k n' = r Z (n' + 1)) → (∃ kk b d s, t = .mk kk b d s [] [] ∧ kk < 4) → (Z.take a = X.take a → Cut X Z a t → ∀ n', r Z n' = .ok t a n') →
        (Z.take a = X.take a → Cut X Z a t → ∀ f' deep' n', 65 ≤ f' + deep' → deep' ≤ 64 → SameR (valueP Z f' deep' k n') (fitT deep' n' t) t a) := fun r h1 h2 h3 ht h4 hZ hcut f' deep' n' hf hd => by
      obtain ⟨j, rfl⟩ : ∃ j, f' = j + 1 := ⟨f' - 1, by omega⟩
      obtain ⟨kk, b, d, s, rfl, hkk⟩ := ht
      have hz := hpz h1 h2 hZ
      rw [fitT_leaf hkk]
      by_cases hn' : 4096 < n' + 1
      · rw [if_pos hn', valueP, hz.1, hz.2, if_neg (by simpa using hb), if_pos hn']
        exact ⟨_, rfl⟩
      · rw [if_neg hn', h3 j deep' n' hn' hz, h4 hZ hcut]
        exact rfl
    by_cases h116 : c = 116
    · rw [if_pos h116] at h
      obtain ⟨i1, i2, i3, i4, i5⟩ := wordP_agree (Z := Z) (n' := 0) (Nat.le_of_lt hlt) h
      refine ⟨by simp at i1; omega, i2, hleaf (fun Z n' => wordP Z [116, 114, 117, 101] (tBool true) p n') (by simp at i1; omega) i2 (fun f' deep' n' hn' hz => ?_) ⟨1, true, Num.zero, [], i3, by decide⟩ (fun hZ _ n' => (wordP_agree (Z := Z) (n' := n') (Nat.le_of_lt hlt) h).2.2.2.2 hZ)⟩
      rw [valueP, hz.1, hz.2, if_neg (by simpa using hb), if_neg hn', if_pos h116]
    rw [if_neg h116] at h
    by_cases h102 : c = 102
    · rw [if_pos h102] at h
      obtain ⟨i1, i2, i3, i4, i5⟩ := wordP_agree (Z := Z) (n' := 0) (Nat.le_of_lt hlt) h
      refine ⟨by simp at i1; omega, i2, hleaf (fun Z n' => wordP Z [102, 97, 108, 115, 101] (tBool false) p n') (by simp at i1; omega) i2 (fun f' deep' n' hn' hz => ?_) ⟨1, false, Num.zero, [], i3, by decide⟩ (fun hZ _ n' => (wordP_agree (Z := Z) (n' := n') (Nat.le_of_lt hlt) h).2.2.2.2 hZ)⟩
      rw [valueP, hz.1, hz.2, if_neg (by simpa using hb), if_neg hn', if_neg h116, if_pos h102]
    rw [if_neg h102] at h
    by_cases h110 : c = 110
    · rw [if_pos h110] at h
      obtain ⟨i1, i2, i3, i4, i5⟩ := wordP_agree (Z := Z) (n' := 0) (Nat.le_of_lt hlt) h
      refine ⟨by simp at i1; omega, i2, hleaf (fun Z n' => wordP Z [110, 117, 108, 108] tNull p n') (by simp at i1; omega) i2 (fun f' deep' n' hn' hz => ?_) ⟨0, false, Num.zero, [], i3, by decide⟩ (fun hZ _ n' => (wordP_agree (Z := Z) (n' := n') (Nat.le_of_lt hlt) h).2.2.2.2 hZ)⟩
      rw [valueP, hz.1, hz.2, if_neg (by simpa using hb), if_neg hn', if_neg h116, if_neg h102, if_pos h110]
    rw [if_neg h110] at h
    by_cases h34 : c = 34
    · rw [if_pos h34] at h
      obtain ⟨u, h1, rfl⟩ := PR.map_ok h
      obtain ⟨i1, i2, i3, i4⟩ := textP_agree (Z := Z) (n' := 0) h1
      refine ⟨by omega, i2, hleaf (fun Z n' => (textP Z p n').map tStr) i1 i2 (fun f' deep' n' hn' hz => ?_) ⟨3, false, Num.zero, u, rfl, by decide⟩ (fun hZ _ n' => by rw [(textP_agree (Z := Z) (n' := n') h1).2.2.2 hZ]; rfl)⟩
      rw [valueP, hz.1, hz.2, if_neg (by simpa using hb), if_neg hn', if_neg h116, if_neg h102, if_neg h110, if_pos h34]
    rw [if_neg h34] at h
    by_cases h91 : c = 91
    · rw [if_pos h91] at h
      by_cases hdp : 64 ≤ deep
      · rw [if_pos hdp] at h; cases h
      rw [if_neg hdp] at h
      obtain ⟨u, h1, rfl⟩ := PR.map_ok h
      have hit : ∀ f' deep', 65 ≤ f' + deep' → deep' ≤ 64 → ItemOk X Z (itemA (valueP X f (deep + 1))) (itemA (valueP Z f' deep')) (fun n t => fitT deep' n t) := fun f' deep' hf hd s k n s1 a1 m1 hk hr => by
        unfold itemA at hr
        obtain ⟨x, h2, rfl⟩ := PR.map_ok hr
        obtain ⟨j1, j2, j3⟩ := valueP_agree (Z := Z) f _ _ _ _ _ _ hk h2
        exact ⟨x, rfl, Nat.le_of_lt j1, j2, fun hZ hg n' => (j3 hZ (.inr (.inl hg)) f' deep' n' hf hd).map⟩
      obtain ⟨i1, i2, _⟩ := openP_agree (hit 65 0 (by omega) (by omega)) (by decide) hlt h1
      refine ⟨by omega, i2, fun hZ hcut f' deep' n' hf hd => ?_⟩
      obtain ⟨j, rfl⟩ : ∃ j, f' = j + 1 := ⟨f' - 1, by omega⟩
      have hz := hpz i1 i2 hZ
      rw [valueP, hz.1, hz.2, if_neg (by simpa using hb), fitT_arr]
      by_cases hn' : 4096 < n' + 1
      · rw [if_pos hn', if_pos hn']; exact ⟨_, rfl⟩
      rw [if_neg hn', if_neg hn', if_neg h116, if_neg h102, if_neg h110, if_neg h34, if_pos h91]
      by_cases hd' : 64 ≤ deep'
      · rw [if_pos hd', if_pos hd']; exact ⟨_, rfl⟩
      rw [if_neg hd', if_neg hd']
      exact ((openP_agree (hit j (deep' + 1) (by omega) (by omega)) (by decide) hlt h1).2.2 hZ (n' + 1)).map
    rw [if_neg h91] at h
    by_cases h123 : c = 123
    · rw [if_pos h123] at h
      by_cases hdp : 64 ≤ deep
      · rw [if_pos hdp] at h; cases h
      rw [if_neg hdp] at h
      obtain ⟨u, h1, rfl⟩ := PR.map_ok h
      have hit : ∀ f' deep', 65 ≤ f' + deep' → deep' ≤ 64 → ItemOk X Z (itemO X (valueP X f (deep + 1))) (itemO Z (valueP Z f' deep')) (fun n p => fitT deep' n p.2) := fun f' deep' hf hd s k n s1 a1 m1 hk hr => by
        unfold itemO at hr
        cases ht : textP X (whiteN X k) n with
        | err e b => rw [ht] at hr; cases hr
        | ok key a2 n2 =>
          rw [ht] at hr
          simp only at hr
          obtain ⟨q1, q2, q3, _⟩ := textP_agree (Z := Z) (n' := 0) ht
          have hwk := whiteN_ge X k hk
          have hw2 := whiteN_ge X a2 q2
          split at hr
          · cases hr
          rename_i hany
          split at hr
          · rename_i h58
            obtain ⟨hl58, _⟩ := List.getElem?_eq_some_iff.1 h58
            obtain ⟨x, h2, rfl⟩ := PR.map_ok hr
            obtain ⟨j1, j2, j3⟩ := valueP_agree (Z := Z) f _ _ _ _ _ _ (by omega) h2
            refine ⟨(key, x), rfl, by omega, j2, fun hZ hg n' => ?_⟩
            unfold itemO
            rw [white_agree hk hZ j2 (by omega), (textP_agree (Z := Z) (n' := n') ht).2.2.2 (agree_mono hZ (by omega))]
            simp only
            rw [if_neg hany, white_agree q2 hZ j2 (by omega), if_pos (by rw [agree_get hZ (by omega)]; exact h58)]
            exact (j3 hZ (.inr (.inl hg)) f' deep' n' hf hd).map
          · cases hr
      obtain ⟨i1, i2, _⟩ := openP_agree (hit 65 0 (by omega) (by omega)) (by decide) hlt h1
      refine ⟨by omega, i2, fun hZ hcut f' deep' n' hf hd => ?_⟩
      obtain ⟨j, rfl⟩ : ∃ j, f' = j + 1 := ⟨f' - 1, by omega⟩
      have hz := hpz i1 i2 hZ
      rw [valueP, hz.1, hz.2, if_neg (by simpa using hb), fitT_obj]
      by_cases hn' : 4096 < n' + 1
      · rw [if_pos hn', if_pos hn']; exact ⟨_, rfl⟩
      rw [if_neg hn', if_neg hn', if_neg h116, if_neg h102, if_neg h110, if_neg h34, if_neg h91, if_pos h123]
      by_cases hd' : 64 ≤ deep'
      · rw [if_pos hd', if_pos hd']; exact ⟨_, rfl⟩
      rw [if_neg hd', if_neg hd']
      exact ((openP_agree (hit j (deep' + 1) (by omega) (by omega)) (by decide) hlt h1).2.2 hZ (n' + 1)).map
    rw [if_neg h123] at h
    · obtain ⟨i1, i2, i3, i4, _⟩ := numP_agree (Z := Z) (n' := 0) (Nat.le_of_lt hlt) h
      have hpa : p < a := by
        rcases Nat.lt_or_eq_of_le i1 with h' | h'
        · exact h'
        · exfalso
          -- a number's text is not empty
          unfold numP at h
          simp only at h
          split at h
          · rename_i hd
            simp only [PR.ok.injEq] at h
            obtain ⟨_, e, _⟩ := h
            rw [e, ← h', Nat.sub_self, List.take_zero] at hd
            exact absurd hd (by decide)
          · cases h
      refine ⟨by omega, i2, hleaf (fun Z n' => numP Z p n') hpa i2 (fun f' deep' n' hn' hz => ?_) ?_ (fun hZ hcut n' => (numP_agree (Z := Z) (n' := n') (Nat.le_of_lt hlt) h).2.2.2.2 hZ hcut)⟩
      · rw [valueP, hz.1, hz.2, if_neg (by simpa using hb), if_neg hn', if_neg h116, if_neg h102, if_neg h110, if_neg h34, if_neg h91, if_neg h123]
      · unfold numP at h
        simp only at h
        split at h
        · simp only [PR.ok.injEq] at h
          exact ⟨2, false, _, [], h.1.symm, by decide⟩
        · cases h
end Go.Proofs.YtckpndbmpigegaaDoor
end

section
/- parse: what One and Value do. -/
set_option linter.unusedVariables false
set_option linter.unusedSimpArgs false
set_option maxRecDepth 100000
namespace Go.Proofs.YtckpndbmpigegaaDoor
open Go.RowKit Go.Mem Orange
/-- three variables' blocks alone have turned -/
structure KeptT (S : Nat) (w w' : World) : Prop where
  os : w'.os = w.os
  tape : w'.tape = w.tape
  output : w'.output = w.output
  size : w.heap.size ≤ w'.heap.size
  block : ∀ k, k < w.heap.size → k ≠ S → k ≠ S + 1 → k ≠ S + 2 → w'.heap[k]? = w.heap[k]?
theorem KeptT.trans {S : Nat} {a b c : World} (h : KeptT S a b) (k : KeptT S b c) : KeptT S a c :=
  ⟨k.os.trans h.os, k.tape.trans h.tape, k.output.trans h.output, Nat.le_trans h.size k.size, fun i h1 h2 h3 h4 => (k.block i (Nat.lt_of_lt_of_le h1 h.size) h2 h3 h4).trans (h.block i h1 h2 h3 h4)⟩
theorem KeptT.ofExt {S : Nat} {a b : World} (h : Ext a b) : KeptT S a b := ⟨h.os, h.tape, h.output, h.size, fun k hk _ _ _ => h.block k hk⟩
theorem KeptT.set {S q o : Nat} {u : Value} (w : World) (hq : q = S ∨ q = S + 1 ∨ q = S + 2) : KeptT S w (w.setCell ⟨q, o, none⟩ u) :=
  ⟨rfl, rfl, rfl, by simp [World.setCell], fun k _ h1 h2 h3 => Below.heap_setCell _ _ _ _ (by show k ≠ q; omega)⟩
/-- the three variables on their way to c, u1, u2 -/
structure G3 (S : Nat) (c : Array Value) (u1 u2 : Value) (w w' : World) : Prop where
  kept : KeptT S w w'
  v : VAt w S c → VAt w' S c
  a : Box1 w (S + 1) 3 u1 → Box1 w' (S + 1) 3 u1
  e : Box1 w (S + 2) 30 u2 → Box1 w' (S + 2) 30 u2
  a0 : (∃ u, Box1 w (S + 1) 3 u) → ∃ u, Box1 w' (S + 1) 3 u
  e0 : (∃ u, Box1 w (S + 2) 30 u) → ∃ u, Box1 w' (S + 2) 30 u
theorem G3.trans {S : Nat} {c : Array Value} {u1 u2 : Value} {w w1 w2 : World} (h : G3 S c u1 u2 w w1) (k : G3 S c u1 u2 w1 w2) : G3 S c u1 u2 w w2 :=
  ⟨h.kept.trans k.kept, fun x => k.v (h.v x), fun x => k.a (h.a x), fun x => k.e (h.e x), fun x => k.a0 (h.a0 x), fun x => k.e0 (h.e0 x)⟩
theorem G3.refl {S : Nat} {c : Array Value} {u1 u2 : Value} (w : World) : G3 S c u1 u2 w w := ⟨KeptT.ofExt (ext_refl w), id, id, id, id, id⟩
theorem Box1.ext {w w' : World} {q : Nat} {ty : TypeId} {u : Value} (h : Box1 w q ty u) (hb : Ext w w') : Box1 w' q ty u := by
  unfold Box1; rw [hb.block _ h.lt]; exact h
theorem G3.drew {S : Nat} {c : Array Value} {u1 u2 : Value} (w : World) : G3 S c u1 u2 w w.drew := ⟨KeptT.ofExt (ext_refl w).drew, id, id, id, id, id⟩
theorem Box1.set {w : World} {q : Nat} {ty : TypeId} {u u' : Value} (h : Box1 w q ty u) : Box1 (w.setCell ⟨q, 0, none⟩ u') q ty u' := setCell_heap_self h
theorem Box1.setO {w : World} {q q' o : Nat} {ty : TypeId} {u u' : Value} (h : Box1 w q ty u) (hq : q ≠ q') : Box1 (w.setCell ⟨q', o, none⟩ u') q ty u := by
  unfold Box1; rw [Below.heap_setCell _ _ _ _ hq]; exact h
theorem VAt.setO {w : World} {q q' o : Nat} {c : Array Value} {u' : Value} (h : VAt w q c) (hq : q ≠ q') : VAt (w.setCell ⟨q', o, none⟩ u') q c := by
  unfold VAt; rw [Below.heap_setCell _ _ _ _ hq]; exact h
theorem g3_setA {S : Nat} {c : Array Value} {u1 u2 : Value} {w : World} (h : ∃ u, Box1 w (S + 1) 3 u) : G3 S c u1 u2 w (w.setCell ⟨S + 1, 0, none⟩ u1) :=
  ⟨KeptT.set w (by omega), fun x => x.setO (by omega), fun x => x.set, fun x => x.setO (by omega), fun ⟨_, x⟩ => ⟨_, x.set⟩, fun ⟨_, x⟩ => ⟨_, x.setO (by omega)⟩⟩
theorem g3_setE {S : Nat} {c : Array Value} {u1 u2 : Value} {w : World} (h : ∃ u, Box1 w (S + 2) 30 u) : G3 S c u1 u2 w (w.setCell ⟨S + 2, 0, none⟩ u2) :=
  ⟨KeptT.set w (by omega), fun x => x.setO (by omega), fun x => x.setO (by omega), fun x => x.set, fun ⟨_, x⟩ => ⟨_, x.setO (by omega)⟩, fun ⟨_, x⟩ => ⟨_, x.set⟩⟩
theorem g3_setV {S : Nat} {y0 y1 y2 y3 y4 y5 y6 y7 u1 u2 : Value} {w : World} (h : VAt w S #[y0, y1, y2, y3, y4, y5, y6, y7]) :
    G3 S #[y0, y1, y2, y3, y4, y5, y6, y7] u1 u2 w ((((((((w.setCell ⟨S, 0, none⟩ y0).setCell ⟨S, 1, none⟩ y1).setCell ⟨S, 2, none⟩ y2).setCell ⟨S, 3, none⟩ y3).setCell ⟨S, 4, none⟩ y4).setCell ⟨S, 5, none⟩ y5).setCell ⟨S, 6, none⟩ y6).setCell ⟨S, 7, none⟩ y7) := by
  have hk : KeptT S w ((((((((w.setCell ⟨S, 0, none⟩ y0).setCell ⟨S, 1, none⟩ y1).setCell ⟨S, 2, none⟩ y2).setCell ⟨S, 3, none⟩ y3).setCell ⟨S, 4, none⟩ y4).setCell ⟨S, 5, none⟩ y5).setCell ⟨S, 6, none⟩ y6).setCell ⟨S, 7, none⟩ y7) :=
    (((((((KeptT.set _ (.inl rfl)).trans (KeptT.set _ (.inl rfl))).trans (KeptT.set _ (.inl rfl))).trans (KeptT.set _ (.inl rfl))).trans (KeptT.set _ (.inl rfl))).trans (KeptT.set _ (.inl rfl))).trans (KeptT.set _ (.inl rfl))).trans (KeptT.set _ (.inl rfl))
  have hb : ∀ q ty u, q ≠ S → Box1 w q ty u → Box1 ((((((((w.setCell ⟨S, 0, none⟩ y0).setCell ⟨S, 1, none⟩ y1).setCell ⟨S, 2, none⟩ y2).setCell ⟨S, 3, none⟩ y3).setCell ⟨S, 4, none⟩ y4).setCell ⟨S, 5, none⟩ y5).setCell ⟨S, 6, none⟩ y6).setCell ⟨S, 7, none⟩ y7) q ty u := fun q ty u hq hx => by
    unfold Box1; rw [heap8 hq]; exact hx
  exact ⟨hk, fun _ => VAt.store8 h y0 y1 y2 y3 y4 y5 y6 y7, hb _ _ _ (by omega), hb _ _ _ (by omega), fun ⟨_, x⟩ => ⟨_, hb _ _ _ (by omega) x⟩, fun ⟨_, x⟩ => ⟨_, hb _ _ _ (by omega) x⟩⟩
def spec3A (S : Nat) (c : Array Value) (u1 u2 : Value) : Grow.Spec (G3 S c u1 u2) := ⟨fun v => v = undef, fun _ w => Box1 w (S + 1) 3 u1, ⟨_, rfl⟩, fun _ _ _ h hg => hg.a h⟩
def spec3E (S : Nat) (c : Array Value) (u1 u2 : Value) : Grow.Spec (G3 S c u1 u2) := ⟨fun v => v = undef, fun _ w => Box1 w (S + 2) 30 u2, ⟨_, rfl⟩, fun _ _ _ h hg => hg.e h⟩
def spec3V (S : Nat) (c : Array Value) (u1 u2 : Value) : Grow.Spec (G3 S c u1 u2) := ⟨fun v => v = undef, fun _ w => True, ⟨_, rfl⟩, fun _ _ _ h hg => trivial⟩
/-- what is known in a region that lays the three -/
structure B3 (S : Nat) (c : Array Value) (u1 u2 : Value) (w1 w : World) : Prop where
  g : G3 S c u1 u2 w1 w
  v : VAt w S c
  a : ∃ u, Box1 w (S + 1) 3 u
  e : ∃ u, Box1 w (S + 2) 30 u
theorem B3.next {S : Nat} {c : Array Value} {u1 u2 : Value} {w1 w w' : World} (h : B3 S c u1 u2 w1 w) (hg : G3 S c u1 u2 w w') : B3 S c u1 u2 w1 w' := ⟨h.g.trans hg, hg.v h.v, hg.a0 h.a, hg.e0 h.e⟩
-- reads of a region that lays the three; $1: facts
set_option maxHeartbeats 6400000 in
theorem one1_panicking (S : Nat) (er : Int) (b : Nat) (w : World) (h0 : VAt w S zeroV) (h1 : Box1 w (S + 1) 3 (.int .i64 0)) (h2 : Box1 w (S + 2) 30 (.int .i64 0)) :
    CallsD Tryd.prog 20 #[.pointer (some ⟨S, 0, none⟩), .pointer (some ⟨S + 1, 0, none⟩), .pointer (some ⟨S + 2, 0, none⟩)] (.panicking (wrongV er b)) w fun e u' w' =>
      e = .returned (.tuple #[]) ∧ u' = .panicking [{ v := .iface 52 (.agg #[.int .i64 er, .int .i64 b]), recovered := true }] ∧ VAt w' S zeroV ∧ Box1 w' (S + 1) 3 (.int .i64 b) ∧ Box1 w' (S + 2) 30 (.int .i64 er) ∧ KeptT S w w' := by
  have hta : ∀ (x : Value) (w : World), (Instr.typeAssert (.iface 52 x) 20 52 true).run Tryd.prog w = .ok (.tuple #[x, .bool true]) w := fun x w => by rfl
  refine callsD_of_wpS Tryd.func20 rfl fun c₀ cs hu => ?_
  apply wpS_seq
  apply wpS_region
  simp [wpOpsS, go_sem, recoverD, hu, Tryd.ntmps20, Exit.thenS]
  refine wpS_of_wp ?_
  simp only [Array.replicate_succ, Array.replicate_zero, List.push_toArray, List.append_toArray, List.nil_append, List.cons_append, List.setIfInBounds_toArray, List.set_cons_succ, List.set_cons_zero]
  go_wp2_with fail
  go_upto_region 5 with fail
  have hnw := heap_alloc_new w (.cells #[.int .i64 er, .int .i64 b] 52)
  have hE : Ext w (w.alloc (.cells #[.int .i64 er, .int .i64 b] 52)) := (ext_refl w).alloc (Nat.le_refl _) _
  have l0 := h0.lt
  have l1 := h1.lt
  have l2 := h2.lt
  replace h0 := h0.ext hE
  replace h1 := h1.kept (KeptP.ofExt (p := w.heap.size) hE) (by omega)
  replace h2 := h2.kept (KeptP.ofExt (p := w.heap.size) hE) (by omega)
  obtain ⟨P, hP⟩ : ∃ P, w.heap.size = P := ⟨_, rfl⟩
  rw [hP] at hnw l0 l1 l2 ⊢
  generalize w.alloc (.cells #[.int .i64 er, .int .i64 b] 52) = w1 at *
  have HE := Lib.hid hE
  have HNW := Lib.hid hnw
  have H0 := Lib.hid h0
  have H1 := Lib.hid h1
  have H2 := Lib.hid h2
  have HS := Lib.hid hP
  clear hE hnw h0 h1 h2 hP
  refine Grow.wp_region_litW (G := G3 S zeroV (.int .i64 b) (.int .i64 er)) (B := fun w' => B3 S zeroV (.int .i64 b) (.int .i64 er) w1 w') (anc := fun _ => []) (I := fun j => if j = 5 then some (spec3V _ _ _ _) else if j = 6 then some (spec3A _ _ _ _) else if j = 7 then some (spec3E _ _ _ _) else none) (by kernel_rfl) (by kernel_rfl) (by kernel_rfl) ?_ ?_ ?_
  · exact fun w w' h hg => h.next hg
  · exact ⟨G3.drew _, H0.out, ⟨_, H1.out⟩, ⟨_, H2.out⟩⟩
  repeat
    (refine Grow.Wk.step (fun K hK => ?_)
     first
     | (refine Grow.step_read (by rfl) (by rfl) (fun w => G3.refl w) ?_
        apply Exists.intro
        refine ⟨fun w hB hF => ?_, ?_⟩
        · have hw2 : w.heap[P]? = some (.cells #[.int .i64 er, .int .i64 b] 52 (0, 0)) := (hB.g.kept.block P (Array.getElem?_eq_some_iff.1 HNW.out).1 (by omega) (by omega) (by omega)).trans HNW.out; have d0 := cell_of_cells (i := 0) hw2; have d1 := cell_of_cells (i := 1) hw2; simp at d0 d1
          go_simp
          try exact rfl
        go_simp
        refine hK _ _ ?_
        clear hK K)
     | (refine Grow.step_off (by rfl) ?_
        go_simp
        refine hK _ _ ?_
        clear hK K))
  refine Grow.Wk.step (fun K hK => ?_)
  refine Grow.step_rel (by rfl) (by rfl) (fun w' hB hF => ?_) (fun v hv => ?_)
  · have HR := Lib.hid hB.v; have r0 := HR.out.cell 0; have r1 := HR.out.cell 1; have r2 := HR.out.cell 2; have r3 := HR.out.cell 3; have r4 := HR.out.cell 4; have r5 := HR.out.cell 5; have r6 := HR.out.cell 6; have r7 := HR.out.cell 7; have s0 := HR.out.free 0; have s1 := HR.out.free 1; have s2 := HR.out.free 2; have s3 := HR.out.free 3; have s4 := HR.out.free 4; have s5 := HR.out.free 5; have s6 := HR.out.free 6; have s7 := HR.out.free 7; simp at r0 r1 r2 r3 r4 r5 r6 r7
    go_simp
    exact ⟨g3_setV HR.out, rfl, trivial⟩
  obtain rfl : v = _ := hv
  go_simp
  refine hK _ _ ?_
  clear hK K
  refine Grow.Wk.step (fun K hK => ?_)
  refine Grow.step_rel (by rfl) (by rfl) (fun w' hB hF => ?_) (fun v hv => ?_)
  · obtain ⟨ua, hua⟩ := hB.a; have HUA := Lib.hid hua; have r0 := hua.cell; have s0 := hua.free; clear hua
    go_simp
    exact ⟨g3_setA ⟨_, HUA.out⟩, rfl, HUA.out.set⟩
  obtain rfl : v = _ := hv
  go_simp
  refine hK _ _ ?_
  clear hK K
  refine Grow.Wk.step (fun K hK => ?_)
  refine Grow.step_rel (by rfl) (by rfl) (fun w' hB hF => ?_) (fun v hv => ?_)
  · obtain ⟨ua, hua⟩ := hB.e; have HUA := Lib.hid hua; have r0 := hua.cell; have s0 := hua.free; clear hua
    go_simp
    exact ⟨g3_setE ⟨_, HUA.out⟩, rfl, HUA.out.set⟩
  obtain rfl : v = _ := hv
  go_simp
  refine hK _ _ ?_
  clear hK K
  refine Grow.Wk.nil ?_
  intro w3 hB hF
  have ha : Box1 w3 (S + 1) 3 (.int .i64 b) := hF 6
  have he : Box1 w3 (S + 2) 30 (.int .i64 er) := hF 7
  go_wp2_with fail
  have hkt : KeptT S w w3 := (KeptT.ofExt HE.out).trans hB.g.kept
  refine ⟨rfl, _, rfl, .tuple #[], by simp [results, Tryd.results20], rfl, rfl, hB.v, ha, he, hkt⟩
theorem one1_idle (a0 a1 a2 : Value) (w : World) :
    CallsD Tryd.prog 20 #[a0, a1, a2] .returning w fun e u' w' => e = .returned (.tuple #[]) ∧ u' = .returning ∧ w' = w := by
  refine callsD_of_wpS Tryd.func20 rfl fun c₀ cs hu => ?_
  apply wpS_seq
  apply wpS_region
  simp [wpOpsS, go_sem, recoverD, hu, Tryd.ntmps20, Exit.thenS]
  refine wpS_of_wp ?_
  simp only [Array.replicate_succ, Array.replicate_zero, List.push_toArray, List.append_toArray, List.nil_append, List.cons_append, List.setIfInBounds_toArray, List.set_cons_succ, List.set_cons_zero]
  go_wp2_with fail
  simp [bodyPostS, results, Tryd.results20]
  cases c₀
  simp_all
theorem ext_one {w w1 w2 w3 : World} (h1 : Ext w w1) (h2 : KeptP (w.heap.size + 3) w1 w2) (h3 : KeptT w.heap.size w2 w3) : Ext w w3 :=
  ⟨h3.os.trans (h2.os.trans h1.os), h3.tape.trans (h2.tape.trans h1.tape), h3.output.trans (h2.output.trans h1.output), Nat.le_trans h1.size (Nat.le_trans h2.size h3.size), fun k hk => by
    rw [h3.block k (by have := h1.size; have := h2.size; omega) (by omega) (by omega) (by omega), h2.block k (by have := h1.size; omega) (by omega)]
    exact h1.block k hk⟩
def EndOne (w : World) (e : Ending) (w' : World) : PR Tree → Prop
  | .ok t a n => ∃ c, e = .returned (.tuple #[.agg c, .int .i64 a, .int .i64 0]) ∧ TV w' (fun g => w.heap.size ≤ g) t c ∧ Ext w w'
  | .err er b => e = .returned (.tuple #[.agg zeroV, .int .i64 b, .int .i64 er]) ∧ Ext w w'
set_option maxHeartbeats 6400000 in
theorem one_any (v : Value) (xs : List UInt8) (at0 : Int) (w : World) (hb : Bytes w v xs) (hl : xs.length ≤ 65536) :
    Calls Tryd.prog 13 #[v, .int .i64 at0] w (fun e w' => EndOne w e w' (oneP xs at0)) := by
  obtain ⟨T, hT⟩ : ∃ T, oneP xs at0 = T := ⟨_, rfl⟩
  rw [hT]
  replace hT := Lib.hid hT
  have hmf : ∀ (fn : Fn) (first cap : Array Value) (w : World), (Instr.makeFunc fn first cap).run Tryd.prog w = .ok (.func fn first cap) w := fun _ _ _ _ => rfl
  have hcl := clampN_eq xs.length at0
  obtain ⟨va, vc, rfl, hnc, hcm, _, _⟩ := id hb
  have HB := Lib.hid hb
  clear hb
  go_enter_defers Tryd.func13, Tryd.ntmps13
  go_wp2_with fail
  obtain ⟨S, hS⟩ : ∃ S, w.heap.size = S := ⟨_, rfl⟩
  simp only [Nat.add_assoc, Nat.reduceAdd, hS]
  generalize hw1 : (((w.alloc (.cells #[.int .i64 0, .bool false, .bool false, .string ⟨#[]⟩, .int .i64 0, .string ⟨#[]⟩, .slice none 0 0, .slice none 0 0] 29)).alloc (.cells #[.int .i64 0] 3)).alloc (.cells #[.int .i64 0] 30)).alloc (.cells #[.slice va xs.length vc, .int .i64 (clampN xs.length at0 : Nat), .int .i64 0] 50) = w1 at *
  have hE : Ext w w1 := by
    rw [← hw1]
    exact ((((ext_refl w).alloc (by simp) _).alloc (by simp) _).alloc (by simp <;> omega) _).alloc (by simp <;> omega) _
  have hsz : w1.heap.size = S + 4 := by rw [← hw1]; simp [hS]
  have hv0 : VAt w1 S zeroV := by
    unfold VAt; rw [← hw1, ← hS, heap_alloc_old _ _ (by simp <;> omega), heap_alloc_old _ _ (by simp <;> omega), heap_alloc_old _ _ (by simp)]; exact heap_alloc_new _ _
  have hb1 : Box1 w1 (S + 1) 3 (.int .i64 0) := by
    unfold Box1; rw [← hw1, ← hS, heap_alloc_old _ _ (by simp), heap_alloc_old _ _ (by simp)]
    have := heap_alloc_new (w.alloc (.cells zeroV 29)) (.cells #[.int .i64 0] 3); rw [alloc_size1] at this; exact this
  have hb2 : Box1 w1 (S + 2) 30 (.int .i64 0) := by
    unfold Box1; rw [← hw1, ← hS, heap_alloc_old _ _ (by simp)]
    have := heap_alloc_new ((w.alloc (.cells zeroV 29)).alloc (.cells #[.int .i64 0] 3)) (.cells #[.int .i64 0] 30); rw [alloc_size1, alloc_size1] at this; exact this
  have hp1 : PAt w1 (S + 3) (.slice va xs.length vc) (clampN xs.length at0 : Nat) (0 : Nat) := by
    unfold PAt; rw [← hw1, ← hS]
    have := heap_alloc_new (((w.alloc (.cells zeroV 29)).alloc (.cells #[.int .i64 0] 3)).alloc (.cells #[.int .i64 0] 30)) (.cells #[.slice va xs.length vc, .int .i64 (clampN xs.length at0 : Nat), .int .i64 0] 50); rw [alloc_size1, alloc_size1, alloc_size1] at this; exact this
  clear hw1
  have hbn : BytesN (S + 3) w1 (.slice va xs.length vc) xs := by
    obtain ⟨a, cap, e, h1, h2, h3, h4⟩ := HB.out
    refine ⟨a, cap, e, h1, h2, hl, fun hn => ?_⟩
    obtain ⟨b, o, rfl, hlt, hc⟩ := h4 hn
    exact ⟨b, o, rfl, by omega, Nat.lt_of_lt_of_le hlt hE.size, BytesAt.ext (fun _ => ⟨b, o, rfl, hlt, hc⟩) hE⟩
  have hps : PS w1 (S + 3) (.slice va xs.length vc) xs (clampN xs.length at0) 0 := ⟨hp1, hbn, clampN_le _ _⟩
  have H0 := Lib.hid hv0
  have H1 := Lib.hid hb1
  have H2 := Lib.hid hb2
  have HE := Lib.hid hE
  have HS := Lib.hid hS
  clear hv0 hb1 hb2 hE hS hp1 hbn
  refine (value_any 65 0 (by omega) (by omega) (S + 3) _ xs (clampN xs.length at0) 0 _ hps (by omega)).mono ?_
  intro e w2 hend
  rw [show valueP xs 65 0 (clampN xs.length at0) 0 = T from hT.out] at hend
  clear hT hps
  cases T with
  | err er b =>
    obtain ⟨rfl, hk⟩ := hend
    have q0 := H0.out.kept hk (by omega)
    have q1 := H1.out.kept hk (by omega)
    have q2 := H2.out.kept hk (by omega)
    go_wp2_with fail
    refine leaves_cons (f := 20) (args := #[.pointer (some ⟨S, 0, none⟩), .pointer (some ⟨S + 1, 0, none⟩), .pointer (some ⟨S + 2, 0, none⟩)]) (by simp) (by simp [go_sem]) ?_
    refine (one1_panicking S er b _ q0 q1 q2).mono ?_
    rintro e u' w3 ⟨rfl, rfl, hv, ha, he, hkt⟩
    have HV := Lib.hid hv
    have a0 := ha.cell
    have e0 := he.cell
    have v0 := HV.out.cell 0; have v1 := HV.out.cell 1; have v2 := HV.out.cell 2; have v3 := HV.out.cell 3; have v4 := HV.out.cell 4; have v5 := HV.out.cell 5; have v6 := HV.out.cell 6; have v7 := HV.out.cell 7
    simp at v0 v1 v2 v3 v4 v5 v6 v7
    have hext : Ext w w3 := ext_one HE.out (by rw [HS.out]; exact hk) (by rw [HS.out]; exact hkt)
    refine ⟨.tuple #[.agg zeroV, .int .i64 b, .int .i64 er], ?_, rfl, hext⟩
    simp [results, Tryd.results13, go_sem, a0, e0, v0, v1, v2, v3, v4, v5, v6, v7]
  | ok t a n =>
    obtain ⟨c, rfl, htv, hp2, hk⟩ := hend
    have hr0 := H0.out.kept hk (by omega)
    have HR := Lib.hid hr0
    have hq1 := H1.out.kept hk (by omega)
    have hq2 := H2.out.kept hk (by omega)
    obtain ⟨k, b, d, s, la, ln, lc, ma, mn, mc, rfl⟩ := htv.eight
    have r0 := HR.out.cell 0; have r1 := HR.out.cell 1; have r2 := HR.out.cell 2; have r3 := HR.out.cell 3; have r4 := HR.out.cell 4; have r5 := HR.out.cell 5; have r6 := HR.out.cell 6; have r7 := HR.out.cell 7
    have s0 := HR.out.free 0; have s1 := HR.out.free 1; have s2 := HR.out.free 2; have s3 := HR.out.free 3; have s4 := HR.out.free 4; have s5 := HR.out.free 5; have s6 := HR.out.free 6; have s7 := HR.out.free 7
    simp at r0 r1 r2 r3 r4 r5 r6 r7
    clear hr0
    have hsz2 := hk.size
    go_upto_region 4 with fail
    have hV := VAt.store8 HR.out (.int .i64 k) (.bool b) (.bool d.neg) (.string ⟨d.digits.toArray⟩) (.int .i64 d.exp) (.string ⟨s.toArray⟩) (.slice la ln lc) (.slice ma mn mc)
    have hG : KeptT S w2 ((((((((w2.setCell ⟨S, 0, none⟩ (.int .i64 k)).setCell ⟨S, 1, none⟩ (.bool b)).setCell ⟨S, 2, none⟩ (.bool d.neg)).setCell ⟨S, 3, none⟩ (.string ⟨d.digits.toArray⟩)).setCell ⟨S, 4, none⟩ (.int .i64 d.exp)).setCell ⟨S, 5, none⟩ (.string ⟨s.toArray⟩)).setCell ⟨S, 6, none⟩ (.slice la ln lc)).setCell ⟨S, 7, none⟩ (.slice ma mn mc)) :=
      (((((((KeptT.set _ (.inl rfl)).trans (KeptT.set _ (.inl rfl))).trans (KeptT.set _ (.inl rfl))).trans (KeptT.set _ (.inl rfl))).trans (KeptT.set _ (.inl rfl))).trans (KeptT.set _ (.inl rfl))).trans (KeptT.set _ (.inl rfl))).trans (KeptT.set _ (.inl rfl))
    have hq1' : Box1 ((((((((w2.setCell ⟨S, 0, none⟩ (.int .i64 k)).setCell ⟨S, 1, none⟩ (.bool b)).setCell ⟨S, 2, none⟩ (.bool d.neg)).setCell ⟨S, 3, none⟩ (.string ⟨d.digits.toArray⟩)).setCell ⟨S, 4, none⟩ (.int .i64 d.exp)).setCell ⟨S, 5, none⟩ (.string ⟨s.toArray⟩)).setCell ⟨S, 6, none⟩ (.slice la ln lc)).setCell ⟨S, 7, none⟩ (.slice ma mn mc)) (S + 1) 3 (.int .i64 0) := by
      unfold Box1; rw [heap8 (by omega)]; exact hq1
    have hq2' : Box1 ((((((((w2.setCell ⟨S, 0, none⟩ (.int .i64 k)).setCell ⟨S, 1, none⟩ (.bool b)).setCell ⟨S, 2, none⟩ (.bool d.neg)).setCell ⟨S, 3, none⟩ (.string ⟨d.digits.toArray⟩)).setCell ⟨S, 4, none⟩ (.int .i64 d.exp)).setCell ⟨S, 5, none⟩ (.string ⟨s.toArray⟩)).setCell ⟨S, 6, none⟩ (.slice la ln lc)).setCell ⟨S, 7, none⟩ (.slice ma mn mc)) (S + 2) 30 (.int .i64 0) := by
      unfold Box1; rw [heap8 (by omega)]; exact hq2
    clear r0 r1 r2 r3 r4 r5 r6 r7 s0 s1 s2 s3 s4 s5 s6 s7 hq1 hq2
    generalize ((((((((w2.setCell ⟨S, 0, none⟩ (.int .i64 k)).setCell ⟨S, 1, none⟩ (.bool b)).setCell ⟨S, 2, none⟩ (.bool d.neg)).setCell ⟨S, 3, none⟩ (.string ⟨d.digits.toArray⟩)).setCell ⟨S, 4, none⟩ (.int .i64 d.exp)).setCell ⟨S, 5, none⟩ (.string ⟨s.toArray⟩)).setCell ⟨S, 6, none⟩ (.slice la ln lc)).setCell ⟨S, 7, none⟩ (.slice ma mn mc)) = w3 at *
    have hp3 : PAt w3 (S + 3) (.slice va xs.length vc) a n := by
      have hl := hp2.1.cells.2.2.2.2.2.2
      unfold PAt; rw [hG.block (S + 3) hl (by omega) (by omega) (by omega)]; exact hp2.1
    have HV3 := Lib.hid hV
    have HP3 := Lib.hid hp3
    have HG := Lib.hid hG
    have HQ1 := Lib.hid hq1'
    have HQ2 := Lib.hid hq2'
    have HTV := Lib.hid htv
    have HK := Lib.hid hk
    clear hV hp3 hG hq1' hq2' htv hk HR hp2
    refine Grow.wp_region_litW (G := G3 S (cellsV k b d s (.slice la ln lc) (.slice ma mn mc)) (.int .i64 a) (.int .i64 0)) (B := fun w' => B3 S (cellsV k b d s (.slice la ln lc) (.slice ma mn mc)) (.int .i64 a) (.int .i64 0) w3 w') (anc := fun _ => []) (I := fun j => if j = 5 then some (spec3V _ _ _ _) else if j = 6 then some (spec3A _ _ _ _) else if j = 7 then some (spec3E _ _ _ _) else none) (by kernel_rfl) (by kernel_rfl) (by kernel_rfl) ?_ ?_ ?_
    · exact fun w w' h hg => h.next hg
    · exact ⟨G3.drew _, HV3.out, ⟨_, HQ1.out⟩, ⟨_, HQ2.out⟩⟩
    repeat
      (refine Grow.Wk.step (fun K hK => ?_)
       first
       | (refine Grow.step_read (by rfl) (by rfl) (fun w => G3.refl w) ?_
          apply Exists.intro
          refine ⟨fun w hB hF => ?_, ?_⟩
          · have hp9 : PAt w (S + 3) (.slice va xs.length vc) a n := (by unfold PAt; rw [hB.g.kept.block (S + 3) HP3.out.cells.2.2.2.2.2.2 (by omega) (by omega) (by omega)]; exact HP3.out); obtain ⟨d0, d1, d2, _, _, _, _⟩ := hp9.cells; clear hp9; have HR := Lib.hid hB.v; have r0 := HR.out.cell 0; have r1 := HR.out.cell 1; have r2 := HR.out.cell 2; have r3 := HR.out.cell 3; have r4 := HR.out.cell 4; have r5 := HR.out.cell 5; have r6 := HR.out.cell 6; have r7 := HR.out.cell 7; simp at r0 r1 r2 r3 r4 r5 r6 r7
            go_simp
            try exact rfl
          go_simp
          refine hK _ _ ?_
          clear hK K)
       | (refine Grow.step_off (by rfl) ?_
          go_simp
          refine hK _ _ ?_
          clear hK K))
    refine Grow.Wk.step (fun K hK => ?_)
    refine Grow.step_rel (by rfl) (by rfl) (fun w' hB hF => ?_) (fun v hv => ?_)
    · have HR := Lib.hid hB.v; have r0 := HR.out.cell 0; have r1 := HR.out.cell 1; have r2 := HR.out.cell 2; have r3 := HR.out.cell 3; have r4 := HR.out.cell 4; have r5 := HR.out.cell 5; have r6 := HR.out.cell 6; have r7 := HR.out.cell 7; have s0 := HR.out.free 0; have s1 := HR.out.free 1; have s2 := HR.out.free 2; have s3 := HR.out.free 3; have s4 := HR.out.free 4; have s5 := HR.out.free 5; have s6 := HR.out.free 6; have s7 := HR.out.free 7; simp at r0 r1 r2 r3 r4 r5 r6 r7
      go_simp
      exact ⟨g3_setV HR.out, rfl, trivial⟩
    obtain rfl : v = _ := hv
    go_simp
    refine hK _ _ ?_
    clear hK K
    refine Grow.Wk.step (fun K hK => ?_)
    refine Grow.step_rel (by rfl) (by rfl) (fun w' hB hF => ?_) (fun v hv => ?_)
    · obtain ⟨ua, hua⟩ := hB.a; have HUA := Lib.hid hua; have r0 := hua.cell; have s0 := hua.free; clear hua
      go_simp
      exact ⟨g3_setA ⟨_, HUA.out⟩, rfl, HUA.out.set⟩
    obtain rfl : v = _ := hv
    go_simp
    refine hK _ _ ?_
    clear hK K
    refine Grow.Wk.step (fun K hK => ?_)
    refine Grow.step_rel (by rfl) (by rfl) (fun w' hB hF => ?_) (fun v hv => ?_)
    · obtain ⟨ua, hua⟩ := hB.e; have HUA := Lib.hid hua; have r0 := hua.cell; have s0 := hua.free; clear hua
      go_simp
      exact ⟨g3_setE ⟨_, HUA.out⟩, rfl, HUA.out.set⟩
    obtain rfl : v = _ := hv
    go_simp
    refine hK _ _ ?_
    clear hK K
    refine Grow.Wk.nil ?_
    intro w4 hB hF
    have ha : Box1 w4 (S + 1) 3 (.int .i64 a) := hF 6
    have he : Box1 w4 (S + 2) 30 (.int .i64 0) := hF 7
    have HV := Lib.hid hB.v
    have a0 := ha.cell
    have e0 := he.cell
    have v0 := HV.out.cell 0; have v1 := HV.out.cell 1; have v2 := HV.out.cell 2; have v3 := HV.out.cell 3; have v4 := HV.out.cell 4; have v5 := HV.out.cell 5; have v6 := HV.out.cell 6; have v7 := HV.out.cell 7
    simp at v0 v1 v2 v3 v4 v5 v6 v7
    go_wp2_with fail
    refine leaves_cons (f := 20) (args := #[.pointer (some ⟨S, 0, none⟩), .pointer (some ⟨S + 1, 0, none⟩), .pointer (some ⟨S + 2, 0, none⟩)]) (by simp) (by simp [go_sem]) ?_
    refine (one1_idle _ _ _ _).mono ?_
    rintro e u' w5 ⟨rfl, rfl, rfl⟩
    have hkt : KeptT S w2 w5 := HG.out.trans hB.g.kept
    have hext : Ext w w5 := ext_one HE.out (by rw [HS.out]; exact HK.out) (by rw [HS.out]; exact hkt)
    have hs1 : w1.heap.size = S + 4 := hsz
    refine ⟨.tuple #[.agg (cellsV k b d s (.slice la ln lc) (.slice ma mn mc)), .int .i64 a, .int .i64 0], ?_, _, rfl, HTV.out.keep hkt.size (fun g hg hlt => ⟨?_, hkt.block g hlt (by omega) (by omega) (by omega)⟩), hext⟩
    · simp [results, Tryd.results13, go_sem, a0, e0, v0, v1, v2, v3, v4, v5, v6, v7]
    · show w.heap.size ≤ g
      have := HS.out; omega
end Go.Proofs.YtckpndbmpigegaaDoor
end

section
/- parse: what Value does. -/
set_option linter.unusedVariables false
set_option linter.unusedSimpArgs false
set_option maxRecDepth 100000
namespace Go.Proofs.YtckpndbmpigegaaDoor
open Go.RowKit Go.Mem Orange
def EndTop (w : World) (e : Ending) (w' : World) (r : Tree × Int × Nat) : Prop :=
  ∃ c, e = .returned (.tuple #[.agg c, .int .i64 r.2.1, .int .i64 r.2.2]) ∧ TV w' (fun g => w.heap.size ≤ g) r.1 c ∧ Ext w w'
theorem ext_set8 {w w2 : World} {S : Nat} {a b c d e f g i : Value} (h : Ext w w2) (hS : w.heap.size ≤ S) : Ext w ((((((((w2.setCell ⟨S, 0, none⟩ a).setCell ⟨S, 1, none⟩ b).setCell ⟨S, 2, none⟩ c).setCell ⟨S, 3, none⟩ d).setCell ⟨S, 4, none⟩ e).setCell ⟨S, 5, none⟩ f).setCell ⟨S, 6, none⟩ g).setCell ⟨S, 7, none⟩ i) := below_store8 h hS a b c d e f g i
theorem top_end {w w2 : World} {S : Nat} {t : Tree} {y0 y1 y2 y3 y4 y5 y6 y7 : Value} {er : Int} {k : Nat} (hE : Ext w w2) (hS : w.heap.size ≤ S) (htv : TV w2 (fun g => S + 1 ≤ g) t #[y0, y1, y2, y3, y4, y5, y6, y7]) :
    EndTop w (.returned (.tuple #[.agg #[y0, y1, y2, y3, y4, y5, y6, y7], .int .i64 er, .int .i64 k])) ((((((((w2.setCell ⟨S, 0, none⟩ y0).setCell ⟨S, 1, none⟩ y1).setCell ⟨S, 2, none⟩ y2).setCell ⟨S, 3, none⟩ y3).setCell ⟨S, 4, none⟩ y4).setCell ⟨S, 5, none⟩ y5).setCell ⟨S, 6, none⟩ y6).setCell ⟨S, 7, none⟩ y7) (t, er, k) :=
  ⟨_, rfl, htv.keep (by simp [World.setCell]) (fun g hg hlt => ⟨by omega, heap8 (by omega)⟩), ext_set8 hE hS⟩
set_option maxHeartbeats 6400000 in
theorem top_any (v : Value) (xs : List UInt8) (w : World) (hb : Bytes w v xs) :
    Calls Tryd.prog 11 #[v] w (fun e w' => EndTop w e w' (parseP xs)) := by
  obtain ⟨T, hT⟩ : ∃ T, parseP xs = T := ⟨_, rfl⟩
  rw [hT]
  rw [parseP] at hT
  replace hT := Lib.hid hT
  obtain ⟨va, vc, rfl, hnc, hcm, hl47, _⟩ := id hb
  have HB := Lib.hid hb
  clear hb
  have hr := VAt.new w zeroV
  have hE : Ext w (w.alloc (.cells zeroV 29)) := (ext_refl w).alloc (Nat.le_refl _) _
  simp only [zeroV, cellsV, Num.zero] at hr hE
  go_enter Tryd.func11, Tryd.ntmps11
  by_cases hlen : 65536 < xs.length
  · have hd : decide (65536 < (xs.length : Int)) = true := by simp; omega
    have hres : Hid (T = (tNull, 4, 0)) := Lib.hid (by rw [← hT.out, if_pos hlen])
    go_wp2_with fail
    refine bodyPost_ret (v := .tuple #[.agg zeroV, .int .i64 4, .int .i64 (0 : Nat)]) (by simp [results, Tryd.results11, go_sem, Num.zero]) rfl ?_
    rw [hres.out]
    exact ⟨_, rfl, TV.leaf _ _ 0 false Num.zero [], hE⟩
  · have hd : decide (65536 < (xs.length : Int)) = false := by simp; omega
    have hT1 := hT.out
    rw [if_neg hlen] at hT1
    replace hT := Lib.hid hT1
    clear hT1
    go_wp2_with fail
    obtain ⟨S, hS⟩ : ∃ S, w.heap.size = S := ⟨_, rfl⟩
    rw [hS] at hr ⊢
    have hsz : (w.alloc (.cells #[.int .i64 0, .bool false, .bool false, .string ⟨#[]⟩, .int .i64 0, .string ⟨#[]⟩, .slice none 0 0, .slice none 0 0] 29)).heap.size = S + 1 := by rw [← hS]; simp
    generalize w.alloc (.cells #[.int .i64 0, .bool false, .bool false, .string ⟨#[]⟩, .int .i64 0, .string ⟨#[]⟩, .slice none 0 0, .slice none 0 0] 29) = w1 at *
    have HR := Lib.hid hr
    have HE := Lib.hid hE
    have HS := Lib.hid hS
    clear hr hE hS
    refine (one_any _ xs 0 _ (HB.out.ext HE.out) (by omega)).mono ?_
    intro e w2 hend
    cases hop : oneP xs 0 with
    | err er b =>
      rw [hop] at hend
      obtain ⟨rfl, hw⟩ := hend
      have hres : Hid (T = (tNull, er, b)) := Lib.hid (by rw [← hT.out, hop])
      replace HR := Lib.hid (HR.out.ext hw)
      replace HE := Lib.hid (ext_trans HE.out hw)
      have hsz2 := hw.size
      clear hw hT
      have hf := oneP_fine xs 0
      rw [hop] at hf
      have her : (er != 0) = true := by simpa using hf.1
      have ht0 := VAt.new w2 zeroV
      have hx : Ext w2 (w2.alloc (.cells zeroV 29)) := (ext_refl w2).alloc (Nat.le_refl _) _
      clear hf hop
      simp only [zeroV, cellsV, Num.zero] at ht0 hx
      replace HR := Lib.hid (HR.out.ext hx)
      replace HE := Lib.hid (ext_trans HE.out hx)
      clear hx ht0
      simp only [zeroV, cellsV, Num.zero] at HR ⊢
      go_upto_region 4 with fail
      generalize w2.alloc (.cells #[.int .i64 0, .bool false, .bool false, .string ⟨#[]⟩, .int .i64 0, .string ⟨#[]⟩, .slice none 0 0, .slice none 0 0] 29) = w3 at *
      have r0 := HR.out.cell 0; have r1 := HR.out.cell 1; have r2 := HR.out.cell 2; have r3 := HR.out.cell 3; have r4 := HR.out.cell 4; have r5 := HR.out.cell 5; have r6 := HR.out.cell 6; have r7 := HR.out.cell 7
      have s0 := HR.out.free 0; have s1 := HR.out.free 1; have s2 := HR.out.free 2; have s3 := HR.out.free 3; have s4 := HR.out.free 4; have s5 := HR.out.free 5; have s6 := HR.out.free 6; have s7 := HR.out.free 7
      simp at r0 r1 r2 r3 r4 r5 r6 r7
      go_wp2_with fail
      have hV := VAt.store8 HR.out (.int .i64 0) (.bool false) (.bool false) (.string ⟨#[]⟩) (.int .i64 0) (.string ⟨#[]⟩) (.slice none 0 0) (.slice none 0 0)
      have HV := Lib.hid hV
      have v0 := HV.out.cell 0; have v1 := HV.out.cell 1; have v2 := HV.out.cell 2; have v3 := HV.out.cell 3; have v4 := HV.out.cell 4; have v5 := HV.out.cell 5; have v6 := HV.out.cell 6; have v7 := HV.out.cell 7
      simp only [List.getElem?_toArray, List.getElem?_cons_zero, List.getElem?_cons_succ] at v0 v1 v2 v3 v4 v5 v6 v7
      refine bodyPost_ret (v := .tuple #[.agg #[.int .i64 0, .bool false, .bool false, .string ⟨#[]⟩, .int .i64 0, .string ⟨#[]⟩, .slice none 0 0, .slice none 0 0], .int .i64 er, .int .i64 b]) (by simp [results, Tryd.results11, go_sem, v0, v1, v2, v3, v4, v5, v6, v7]) rfl ?_
      rw [hres.out]
      exact top_end HE.out (by rw [HS.out]; exact Nat.le_refl _) (TV.leaf _ _ 0 false Num.zero [])
    | ok t a n =>
      rw [hop] at hend
      obtain ⟨c, rfl, htv, hw⟩ := hend
      have hT1 : (if whiteN xs a < xs.length then (tNull, (2 : Int), whiteN xs a) else (t, 0, whiteN xs a)) = T := by rw [← hT.out, hop]
      replace hT := Lib.hid hT1
      have hf := oneP_fine xs 0
      rw [hop] at hf
      have hal : a ≤ xs.length := hf
      clear hT1 hf hop
      obtain ⟨k, b, d, s, la, ln, lc, ma, mn, mc, rfl⟩ := htv.eight
      have hsz2 := hw.size
      have ht0 := VAt.new w2 (cellsV k b d s (.slice la ln lc) (.slice ma mn mc))
      have hx : Ext w2 (w2.alloc (.cells (cellsV k b d s (.slice la ln lc) (.slice ma mn mc)) 29)) := (ext_refl w2).alloc (Nat.le_refl _) _
      have htv3 := TV.keep (A' := fun g => S + 1 ≤ g) hx.size (fun g hg hlt => ⟨by omega, hx.block g hlt⟩) htv
      replace HR := Lib.hid ((HR.out.ext hw).ext hx)
      replace HE := Lib.hid (ext_trans (ext_trans HE.out hw) hx)
      have hP2 : w2.heap.size ≠ S := by omega
      obtain ⟨P, hP⟩ : ∃ P, w2.heap.size = P := ⟨_, rfl⟩
      rw [hP] at ht0 hP2
      have HP2 := Lib.hid hP
      clear hx hw htv
      simp only [zeroV, cellsV, Num.zero] at HR ht0 HE htv3 ⊢
      go_upto_region 6 with fail
      clear hP
      generalize w2.alloc (.cells #[.int .i64 k, .bool b, .bool d.neg, .string ⟨d.digits.toArray⟩, .int .i64 d.exp, .string ⟨s.toArray⟩, .slice la ln lc, .slice ma mn mc] 29) = w3 at *
      have HT0 := Lib.hid ht0
      have HTV := Lib.hid htv3
      clear ht0 htv3
      go_wp2_with fail
      refine (white_any _ xs a _ (HB.out.ext HE.out)).mono ?_
      rintro e w4 ⟨rfl, hw⟩
      rw [clampN_nat xs.length a hal]
      obtain ⟨m, hm⟩ : ∃ m, whiteN xs a = m := ⟨_, rfl⟩
      have hT1 := hT.out
      rw [hm] at hT1 ⊢
      replace hT := Lib.hid hT1
      have htv4 := TV.keep (A' := fun g => S + 1 ≤ g) hw.size (fun g hg hlt => ⟨hg, hw.block g hlt⟩) HTV.out
      replace HT0 := Lib.hid (HT0.out.ext hw)
      replace HR := Lib.hid (HR.out.ext hw)
      replace HE := Lib.hid (ext_trans HE.out hw)
      replace HTV := Lib.hid htv4
      clear hm hT1 htv4 hw
      have r0 := HR.out.cell 0; have r1 := HR.out.cell 1; have r2 := HR.out.cell 2; have r3 := HR.out.cell 3; have r4 := HR.out.cell 4; have r5 := HR.out.cell 5; have r6 := HR.out.cell 6; have r7 := HR.out.cell 7
      have s0 := HR.out.free 0; have s1 := HR.out.free 1; have s2 := HR.out.free 2; have s3 := HR.out.free 3; have s4 := HR.out.free 4; have s5 := HR.out.free 5; have s6 := HR.out.free 6; have s7 := HR.out.free 7
      simp at r0 r1 r2 r3 r4 r5 r6 r7
      have t0 := HT0.out.cell 0; have t1 := HT0.out.cell 1; have t2 := HT0.out.cell 2; have t3 := HT0.out.cell 3; have t4 := HT0.out.cell 4; have t5 := HT0.out.cell 5; have t6 := HT0.out.cell 6; have t7 := HT0.out.cell 7
      simp at t0 t1 t2 t3 t4 t5 t6 t7
      by_cases hml : m < xs.length
      · have hmi : (m : Int) < xs.length := by omega
        have hT1 := hT.out
        rw [if_pos hml] at hT1
        have hres := Lib.hid hT1.symm
        clear hT1 hT hml
        go_wp2_with fail
        have hV := VAt.store8 HR.out (.int .i64 0) (.bool false) (.bool false) (.string ⟨#[]⟩) (.int .i64 0) (.string ⟨#[]⟩) (.slice none 0 0) (.slice none 0 0)
        have HV := Lib.hid hV
        have v0 := HV.out.cell 0; have v1 := HV.out.cell 1; have v2 := HV.out.cell 2; have v3 := HV.out.cell 3; have v4 := HV.out.cell 4; have v5 := HV.out.cell 5; have v6 := HV.out.cell 6; have v7 := HV.out.cell 7
        simp only [List.getElem?_toArray, List.getElem?_cons_zero, List.getElem?_cons_succ] at v0 v1 v2 v3 v4 v5 v6 v7
        refine bodyPost_ret (v := .tuple #[.agg #[.int .i64 0, .bool false, .bool false, .string ⟨#[]⟩, .int .i64 0, .string ⟨#[]⟩, .slice none 0 0, .slice none 0 0], .int .i64 2, .int .i64 m]) (by simp [results, Tryd.results11, go_sem, v0, v1, v2, v3, v4, v5, v6, v7]) rfl ?_
        rw [hres.out]
        exact top_end HE.out (by rw [HS.out]; exact Nat.le_refl _) (TV.leaf _ _ 0 false Num.zero [])
      · have hmi : ¬ (m : Int) < xs.length := by omega
        have hT1 := hT.out
        rw [if_neg hml] at hT1
        have hres := Lib.hid hT1.symm
        clear hT1 hT hml
        go_wp2_with fail
        have hV := VAt.store8 HR.out (.int .i64 k) (.bool b) (.bool d.neg) (.string ⟨d.digits.toArray⟩) (.int .i64 d.exp) (.string ⟨s.toArray⟩) (.slice la ln lc) (.slice ma mn mc)
        have HV := Lib.hid hV
        have v0 := HV.out.cell 0; have v1 := HV.out.cell 1; have v2 := HV.out.cell 2; have v3 := HV.out.cell 3; have v4 := HV.out.cell 4; have v5 := HV.out.cell 5; have v6 := HV.out.cell 6; have v7 := HV.out.cell 7
        simp only [List.getElem?_toArray, List.getElem?_cons_zero, List.getElem?_cons_succ] at v0 v1 v2 v3 v4 v5 v6 v7
        refine bodyPost_ret (v := .tuple #[.agg #[.int .i64 k, .bool b, .bool d.neg, .string ⟨d.digits.toArray⟩, .int .i64 d.exp, .string ⟨s.toArray⟩, .slice la ln lc, .slice ma mn mc], .int .i64 0, .int .i64 m]) (by simp [results, Tryd.results11, go_sem, v0, v1, v2, v3, v4, v5, v6, v7]) rfl ?_
        rw [hres.out]
        exact top_end HE.out (by rw [HS.out]; exact Nat.le_refl _) HTV.out
end Go.Proofs.YtckpndbmpigegaaDoor
end

section
/- append of bytes onto bytes of the call's own: one law. -/
set_option linter.unusedVariables false
set_option maxRecDepth 100000
namespace Go.Proofs.YtckpndbmpigegaaDoor
open Go.RowKit Go.Mem

theorem bytes_new (w : World) (cs : Array Value) (e : TypeId) (xs : List UInt8) (h : cs.toList = cells8 xs) (n : Nat) (hn : n = xs.length) (hl : n ≤ 140737488355328) :
    Bytes (w.alloc (.cells cs e)) (.slice (some ⟨w.heap.size, 0, none⟩) n n) xs := by
  refine Bytes.mk ?_ hn (Nat.le_refl _) (by omega) hl
  intro _
  refine ⟨w.heap.size, 0, rfl, by simp, fun i hi => ?_⟩
  rw [cell_of_cells (heap_alloc_new _ _), ← Array.getElem?_toList, h, Nat.zero_add]
  simp [cells8, hi]


theorem own8_shape {w : World} {base : Nat} {e : TypeId} {v : Value} {l : List UInt8} (h : OwnB w base e v l) : ∃ a c, v = .slice a l.length c := by
  rcases h.2 with ⟨rfl, h0⟩ | ⟨g, cap, cur, rfl, _⟩
  · rw [h0]; exact ⟨_, _, rfl⟩
  · exact ⟨_, _, rfl⟩
theorem ownB_new (w : World) (cs : Array Value) (e : TypeId) (xs : List UInt8) (h : cs.toList = cells8 xs) (n : Nat) (hn : n = xs.length) (hl : n ≤ 140737488355328) : OwnB (w.alloc (.cells cs e)) w.heap.size e (.slice (some ⟨w.heap.size, 0, none⟩) n n) xs := by
  subst hn
  have hsz : cs.size = xs.length := by have := congrArg List.length h; simpa using this
  refine ⟨by simp, .inr ⟨w.heap.size, xs.length, cs, rfl, Nat.le_refl _, heap_alloc_new _ _, Nat.le_refl _, by simp only [maxLen]; omega, by omega, ?_⟩⟩
  rw [h, Nat.mul_one, List.take_of_length_le (by simp)]

theorem wpList_append_bytes {ops : Array Oper} {rest : List Oper} {o : Oper} {a : Act} {w : World} {Q : Exit → Act → World → Prop} (hgd : Region.wanted o (yielded ops a.tmps) = true) (s xo : Operand)
    (ho : o.op = .call { callee := .builtin .append, args := #[s, xo], argTypes := #[22, 22] })
    (base : Nat) (v : Value) (xs : List UInt8) (hs : a.eval s = v) (hown : OwnB w base 5 v xs) (x : Value) (ys : List UInt8) (hx : a.eval xo = x) (hy : Bytes w x ys)
    (hl : xs.length + ys.length ≤ 140737488355328) (hbase : base ≤ w.heap.size)
    (h : ∀ a' c' w', OwnB w' base 5 (.slice a' (xs.length + ys.length) c') (xs ++ ys) → Below base w w' → wpList Tryd.prog ops Q rest (a.put o.dst (.slice a' (xs.length + ys.length) c')) w') : wpList Tryd.prog ops Q (o :: rest) a w := by
  obtain ⟨i0, hi, hz0, hz1, hz2⟩ := info_parts info8
  refine wpList_append_src w hgd s xo 22 22 ho base 5 i0 (.int .u8 0) 1 1 Tryd.underlying22 hi hz0 hz1 hz2 rfl (by decide) v _ _ hs hown x _ _ hx (hy.src Tryd.underlying22) (by simp only [maxLen]; omega) (by omega) hbase ?_
  intro v' w' ho' hg
  have hk : OwnB w' base 5 v' (xs ++ ys) := by unfold OwnB; rw [cells8_append, List.length_append]; exact ho'
  obtain ⟨a', c', rfl⟩ := own8_shape hk
  rw [List.length_append] at hk ⊢
  exact h a' c' w' hk (Below.ofGrown hg hown hbase)
/-- bytes that are known -/
def specBytes (ys : List UInt8) : Grow.Spec Ext := ⟨fun v => ∃ a c, v = .slice a ys.length c, fun v w => Bytes w v ys, ⟨.slice none ys.length 0, none, 0, rfl⟩, fun v w w' h hg => h.ext hg⟩
theorem drop_cons {xs : List UInt8} {i : Nat} (h : i < xs.length) : ∃ x t, xs.drop i = x :: t := by
  cases h' : xs.drop i with
  | nil => simp at h'; omega
  | cons x t => exact ⟨x, t, rfl⟩

theorem cell0_of {w : World} {b o n cap : Nat} {xs t : List UInt8} {x : UInt8} (h : Bytes w (.slice (some ⟨b, o, none⟩) n cap) xs) (e : xs = x :: t) : w.cell? ⟨b, o, none⟩ = some (.int .u8 x.toNat) := by
  subst e
  obtain ⟨a', c', e1, _, _, _, h4⟩ := h
  simp only [Value.slice.injEq] at e1
  obtain ⟨rfl, _, rfl⟩ := e1
  obtain ⟨b', o', e, hlt, hc⟩ := h4 (by simp)
  simp only [Option.some.injEq, Addr.mk.injEq, and_true] at e
  obtain ⟨rfl, rfl⟩ := e
  have := hc 0 (by simp)
  simpa using this

end Go.Proofs.YtckpndbmpigegaaDoor
end

section
/- parse: the laws' own head: awake. -/
set_option linter.unusedVariables false
set_option linter.unusedSimpArgs false
set_option maxRecDepth 100000
namespace Orange
def Tree.bit : Tree → Bool | .mk _ b _ _ _ _ => b
def Tree.num : Tree → Num | .mk _ _ d _ _ _ => d
def awakeA : List UInt8 := [91, 49, 44, 32, 123, 34, 97, 34, 58, 32, 110, 117, 108, 108, 125, 93]
theorem awakeA_is : (parseP awakeA).2.1 = 0 ∧ (parseP awakeA).2.2 = 16 ∧ (parseP awakeA).1.kind = 4 ∧ (parseP awakeA).1.list.length = 2 := by decide +kernel
theorem awakeB_is : (parseP [91, 49, 44, 93]).2.1 = 2 ∧ (parseP [91, 49, 44, 93]).2.2 = 3 := by decide +kernel
end Orange
namespace Go.Proofs.YtckpndbmpigegaaDoor
open Go.RowKit Go.Mem Orange
theorem TV.shape {w : World} {A : Nat → Prop} {t : Tree} {c : Array Value} (h : TV w A t c) : ∃ a1 c1 a2 c2, c = cellsV t.kind t.bit t.num t.str (.slice a1 t.list.length c1) (.slice a2 t.mems.length c2) := by
  cases h with
  | mk h1 h2 h3 h4 =>
    obtain ⟨_, a1, c1, rfl, _⟩ := h2
    obtain ⟨_, a2, c2, rfl, _⟩ := h4
    exact ⟨_, _, _, _, rfl⟩
theorem bytes_newF (w : World) (cs : Array Value) (e : TypeId) (xs : List UInt8) (h : cs.toList = cells8 xs) (n : Nat) (hn : n = xs.length) (hl : n ≤ 140737488355328) {fr : Nat × Nat} :
    Bytes (w.alloc (.cells cs e fr)) (.slice (some ⟨w.heap.size, 0, none⟩) n n) xs := by
  refine Bytes.mk ?_ hn (Nat.le_refl _) (by omega) hl
  intro _
  refine ⟨_, _, rfl, by simp, fun i hi => ?_⟩
  rw [cell_of_cells (heap_alloc_new w (.cells cs e fr)), show 0 + i = i by omega]
  have : cs.toList[i]? = some (.int .u8 xs[i].toNat) := by rw [h]; simp [cells8, hi]
  simpa using this
set_option maxHeartbeats 6400000 in
theorem pawake (w : World) : Calls Tryd.prog 10 #[] w fun e w' => e = .returned (.bool true) ∧ Ext w w' := by
  obtain ⟨h0, h16, hk, h2⟩ := awakeA_is
  obtain ⟨g0, g3⟩ := awakeB_is
  have kc := fun (w : World) (C : Array Value) (n c : Nat) => Lib.run_convert_bytes_const (P := Tryd.prog) w 22 5 C n c Tryd.underlying22 Tryd.underlying5
  go_enter Tryd.func10, Tryd.ntmps10
  go_wp2_with fail
  refine (top_any _ awakeA _ (bytes_newF _ _ _ _ rfl _ rfl (by simp [awakeA]))).mono ?_
  intro e w1 hend
  obtain ⟨c, rfl, htv, hw1⟩ := hend
  obtain ⟨a1, c1, a2, c2, rfl⟩ := htv.shape
  rw [h0, h16, hk, h2]
  have hx1 : Ext w w1 := ((ext_refl w).alloc (Nat.le_refl _) _).trans (hw1.mono (by simp))
  have hv1 := VAt.new w1 (cellsV 4 (parseP awakeA).1.bit (parseP awakeA).1.num (parseP awakeA).1.str (.slice a1 2 c1) (.slice a2 (parseP awakeA).1.mems.length c2))
  have hx2 : Ext w1 (w1.alloc (.cells (cellsV 4 (parseP awakeA).1.bit (parseP awakeA).1.num (parseP awakeA).1.str (.slice a1 2 c1) (.slice a2 (parseP awakeA).1.mems.length c2)) 29)) := (ext_refl _).alloc (Nat.le_refl _) _
  have HX := Lib.hid (ext_trans hx1 hx2)
  clear htv hw1 hx1 hx2
  simp only [cellsV] at hv1 HX ⊢
  generalize (parseP awakeA).1.bit = tb at *
  generalize (parseP awakeA).1.num = td at *
  generalize (parseP awakeA).1.str = ts at *
  generalize (parseP awakeA).1.mems.length = tm at *
  go_upto_region 2 with fail
  obtain ⟨P, hP⟩ : ∃ P, w1.heap.size = P := ⟨_, rfl⟩
  rw [hP] at hv1 ⊢
  have hsz : (w1.alloc (.cells #[.int .i64 4, .bool tb, .bool td.neg, .string ⟨td.digits.toArray⟩, .int .i64 td.exp, .string ⟨ts.toArray⟩, .slice a1 2 c1, .slice a2 tm c2] 29)).heap.size = P + 1 := by rw [← hP]; simp
  generalize w1.alloc (.cells #[.int .i64 4, .bool tb, .bool td.neg, .string ⟨td.digits.toArray⟩, .int .i64 td.exp, .string ⟨ts.toArray⟩, .slice a1 2 c1, .slice a2 tm c2] 29) = w2 at *
  clear hP hsz
  have HV := Lib.hid hv1
  clear hv1
  go_wp2_with fail
  refine (top_any _ [91, 49, 44, 93] _ (bytes_newF _ _ _ _ rfl _ rfl (by simp))).mono ?_
  intro e w3 hend
  obtain ⟨c, rfl, htv, hw3⟩ := hend
  rw [g0, g3]
  obtain ⟨b1, d1, b2, d2, rfl⟩ := htv.shape
  have hx3 : Ext w2 w3 := ((ext_refl w2).alloc (Nat.le_refl _) _).trans (hw3.mono (by simp))
  generalize (parseP [91, 49, 44, 93]).1 = tB at *
  obtain ⟨kb, bb, db, sb, lb, mb⟩ := tB
  simp only [Tree.kind, Tree.bit, Tree.num, Tree.str, Tree.list, Tree.mems, cellsV]
  generalize lb.length = ll at *
  generalize mb.length = ml at *
  have hx4 : Ext w3 (w3.alloc (.cells #[.int .i64 kb, .bool bb, .bool db.neg, .string ⟨db.digits.toArray⟩, .int .i64 db.exp, .string ⟨sb.toArray⟩, .slice b1 ll d1, .slice b2 ml d2] 29)) := (ext_refl _).alloc (Nat.le_refl _) _
  replace HX := Lib.hid (ext_trans (ext_trans HX.out hx3) hx4)
  replace HV := Lib.hid ((HV.out.ext hx3).ext hx4)
  clear htv hx3 hx4 hw3
  go_upto_region 3 with fail
  generalize w3.alloc (.cells #[.int .i64 kb, .bool bb, .bool db.neg, .string ⟨db.digits.toArray⟩, .int .i64 db.exp, .string ⟨sb.toArray⟩, .slice b1 ll d1, .slice b2 ml d2] 29) = w4 at *
  have v0 := HV.out.cell 0; have v6 := HV.out.cell 6
  simp at v0 v6
  go_wp2_with fail
  go_ret
  exact ⟨rfl, HX.out⟩
end Go.Proofs.YtckpndbmpigegaaDoor
end

section
/- value: what the documents' Exact says. -/
set_option linter.unusedVariables false
set_option linter.unusedSimpArgs false
set_option maxRecDepth 100000
namespace Orange
mutual
def exactT : Tree → Tree → Bool
  | .mk k b d s l m, .mk k' b' d' s' l' m' => decide (k = k') && (b == b') && decide (d = d') && decide (s = s') && exactL l l' && exactM m m'
def exactL : List Tree → List Tree → Bool
  | [], [] => true
  | t :: l, t' :: l' => exactT t t' && exactL l l'
  | [], _ :: _ => false
  | _ :: _, [] => false
def exactM : List (List UInt8 × Tree) → List (List UInt8 × Tree) → Bool
  | [], [] => true
  | (k, t) :: l, (k', t') :: l' => decide (k = k') && exactT t t' && exactM l l'
  | [], _ :: _ => false
  | _ :: _, [] => false
end
theorem exactL_len : ∀ (l l' : List Tree), exactL l l' = true → l.length = l'.length
  | [], [], _ => rfl
  | t :: l, t' :: l', h => by rw [exactL, Bool.and_eq_true] at h; simp [exactL_len l l' h.2]
  | [], _ :: _, h => by rw [exactL] at h; cases h
  | _ :: _, [], h => by rw [exactL] at h; cases h
theorem exactM_len : ∀ (l l' : List (List UInt8 × Tree)), exactM l l' = true → l.length = l'.length
  | [], [], _ => rfl
  | (k, t) :: l, (k', t') :: l', h => by rw [exactM, Bool.and_eq_true] at h; simp [exactM_len l l' h.2]
  | [], _ :: _, h => by rw [exactM] at h; cases h
  | _ :: _, [], h => by rw [exactM] at h; cases h
mutual
theorem exactT_refl : ∀ t : Tree, exactT t t = true
  | .mk k b d s l m => by rw [exactT, exactL_refl l, exactM_refl m]; simp
theorem exactL_refl : ∀ l : List Tree, exactL l l = true
  | [] => by rw [exactL]
  | t :: l => by rw [exactL, exactT_refl t, exactL_refl l]; rfl
theorem exactM_refl : ∀ m : List (List UInt8 × Tree), exactM m m = true
  | [] => by rw [exactM]
  | (k, t) :: m => by rw [exactM, exactT_refl t, exactM_refl m]; simp
end
mutual
theorem exactT_eq : ∀ (t u : Tree), exactT t u = true → t = u
  | .mk k b d s l m, .mk k' b' d' s' l' m', h => by
    rw [exactT] at h
    simp only [Bool.and_eq_true, decide_eq_true_eq, beq_iff_eq] at h
    obtain ⟨⟨⟨⟨⟨rfl, rfl⟩, rfl⟩, rfl⟩, h5⟩, h6⟩ := h
    rw [exactL_eq l l' h5, exactM_eq m m' h6]
theorem exactL_eq : ∀ (l l' : List Tree), exactL l l' = true → l = l'
  | [], [], _ => rfl
  | t :: l, t' :: l', h => by rw [exactL, Bool.and_eq_true] at h; rw [exactT_eq t t' h.1, exactL_eq l l' h.2]
  | [], _ :: _, h => by rw [exactL] at h; cases h
  | _ :: _, [], h => by rw [exactL] at h; cases h
theorem exactM_eq : ∀ (l l' : List (List UInt8 × Tree)), exactM l l' = true → l = l'
  | [], [], _ => rfl
  | (k, t) :: l, (k', t') :: l', h => by
    rw [exactM, Bool.and_eq_true, Bool.and_eq_true, decide_eq_true_eq] at h
    rw [h.1.1, exactT_eq t t' h.1.2, exactM_eq l l' h.2]
  | [], _ :: _, h => by rw [exactM] at h; cases h
  | _ :: _, [], h => by rw [exactM] at h; cases h
end
end Orange
namespace Go.Proofs.YtckpndbmpigegaaDoor
open Go.RowKit Go.Mem Orange
/-- an element's cells -/
theorem TL.at {w : World} {A : Nat → Prop} : ∀ {l : List Tree} {cs : List Value} (i : Nat) (hi : i < l.length), TL w A l cs → ∃ c, TV w A l[i] c ∧ ∀ j, j < 8 → cs[i * 8 + j]? = c[j]?
  | t :: l, _, 0, hi, .cons (c := c) h1 h2 => ⟨c, h1, fun j hj => by
      rw [Nat.zero_mul, Nat.zero_add, List.getElem?_append_left (by rw [Array.length_toList, h1.size]; exact hj)]; simp⟩
  | t :: l, _, i + 1, hi, .cons (c := c0) h1 h2 => by
    obtain ⟨c, h3, h4⟩ := TL.at i (by simpa using hi) h2
    refine ⟨c, h3, fun j hj => ?_⟩
    rw [List.getElem?_append_right (by rw [Array.length_toList, h1.size]; omega), Array.length_toList, h1.size, ← h4 j hj]
    congr 1; omega
theorem TM.at {w : World} {A : Nat → Prop} : ∀ {l : List (List UInt8 × Tree)} {cs : List Value} (i : Nat) (hi : i < l.length), TM w A l cs → ∃ c, TV w A l[i].2 c ∧ cs[i * 9]? = some (.string ⟨l[i].1.toArray⟩) ∧ ∀ j, j < 8 → cs[i * 9 + 1 + j]? = c[j]?
  | (k, t) :: l, _, 0, hi, .cons (c := c) h1 h2 => ⟨c, h1, by simp, fun j hj => by
      rw [Nat.zero_mul, Nat.zero_add, List.cons_append, Nat.add_comm 1 j, List.getElem?_cons_succ, List.getElem?_append_left (by rw [Array.length_toList, h1.size]; exact hj)]; simp⟩
  | (k, t) :: l, _, i + 1, hi, .cons (c := c0) h1 h2 => by
    obtain ⟨c, h3, h4, h5⟩ := TM.at i (by simpa using hi) h2
    have hlen : (Value.string ⟨k.toArray⟩ :: c0.toList).length = 9 := by simp [h1.size]
    refine ⟨c, h3, ?_, fun j hj => ?_⟩
    · rw [List.getElem?_append_right (by rw [hlen]; omega), hlen, show (i + 1) * 9 - 9 = i * 9 by omega]; simpa using h4
    · rw [List.getElem?_append_right (by rw [hlen]; omega), hlen, ← h5 j hj]
      congr 1; omega
/-- a row's cells in memory -/
theorem RowAt.cells {w : World} {A : Nat → Prop} {z n : Nat} {a : Option Addr} {m cap : Nat} {cs : List Value} (h : RowAt w A z (.slice a m cap) n cs) (hn : 0 < n) : ∃ g o, a = some ⟨g, o, none⟩ ∧ g < w.heap.size ∧ ∀ i u, cs[i]? = some u → w.cell? ⟨g, o + i, none⟩ = some u := by
  obtain ⟨h0, a', c', e, h1, h2, h3⟩ := h
  simp only [Value.slice.injEq] at e
  obtain ⟨rfl, _, _⟩ := e
  obtain ⟨g, o, rfl, _, hlt, hc⟩ := h3 hn
  refine ⟨g, o, rfl, hlt, fun i u hu => ?_⟩
  obtain ⟨hi, rfl⟩ := List.getElem?_eq_some_iff.1 hu
  exact hc i hi
set_option maxHeartbeats 1600000 in
theorem neq_num (a b : Num) (w : World) : (binOp .neq 25 (.agg #[.bool a.neg, .string ⟨a.digits.toArray⟩, .int .i64 a.exp]) (.agg #[.bool b.neg, .string ⟨b.digits.toArray⟩, .int .i64 b.exp])).run Tryd.prog w = .ok (.bool (!decide (a = b))) w := by
  obtain ⟨a3, a4, a5⟩ := a
  obtain ⟨b3, b4, b5⟩ := b
  simp only [Num.mk.injEq]
  by_cases h3 : a3 = b3
  · by_cases h4 : a4 = b4
    · by_cases h5 : a5 = b5
      · subst h3; subst h4; subst h5
        go_simp
      · have q5 : (a5 == b5) = false := by simpa using h5
        subst h3; subst h4
        go_simp
    · have q4 : (a4 == b4) = false := by simpa using h4
      subst h3
      go_simp
  · have q3 : (a3 == b3) = false := by simpa using h3
    go_simp
end Go.Proofs.YtckpndbmpigegaaDoor
end

section
/- value: the walk of the documents' Exact. -/
set_option linter.unusedVariables false
set_option linter.unusedSimpArgs false
set_option maxRecDepth 100000
namespace Go.Proofs.YtckpndbmpigegaaDoor
open Go.RowKit Go.Mem Orange
theorem snd_lt (p : List UInt8 × Tree) : SizeOf.sizeOf p.2 < SizeOf.sizeOf p := by
  cases p
  simp only [Prod.mk.sizeOf_spec]
  omega
theorem mem_size (m : List (List UInt8 × Tree)) (i : Nat) (h : i < m.length) {N : Nat} (hN : SizeOf.sizeOf m < N) : SizeOf.sizeOf m[i].2 < N :=
  Nat.lt_trans (Nat.lt_trans (snd_lt m[i]) (List.sizeOf_lt_of_mem (List.getElem_mem h))) hN
theorem mem_sizeL (m : List Tree) (i : Nat) (h : i < m.length) {N : Nat} (hN : SizeOf.sizeOf m < N) : SizeOf.sizeOf m[i] < N :=
  Nat.lt_trans (List.sizeOf_lt_of_mem (List.getElem_mem h)) hN
theorem exactM_cons (p q : List UInt8 × Tree) (l l' : List (List UInt8 × Tree)) : exactM (p :: l) (q :: l') = (decide (p.1 = q.1) && exactT p.2 q.2 && exactM l l') := by
  cases p; cases q; rw [exactM]
-- the early end: false
-- one read: $1 facts
set_option maxHeartbeats 6400000 in
theorem exact_step (N : Nat) (ih : ∀ (t u : Tree) (A A' : Nat → Prop) (c c' : Array Value) (w : World), SizeOf.sizeOf t < N → TV w A t c → TV w A' u c' →
    Calls Tryd.prog 15 #[.agg c, .agg c'] w (fun e w' => e = .returned (.bool (exactT t u)) ∧ Ext w w')) :
    ∀ (t u : Tree) (A A' : Nat → Prop) (c c' : Array Value) (w : World), SizeOf.sizeOf t < N + 1 → TV w A t c → TV w A' u c' →
    Calls Tryd.prog 15 #[.agg c, .agg c'] w (fun e w' => e = .returned (.bool (exactT t u)) ∧ Ext w w')
  | .mk k b d s l m, .mk k' b' d' s' l' m', A, A', c, c', w, hN, ht, hu => by
    have IH := Lib.hid ih
    clear ih
    cases ht with
    | mk htl hrl htm hrm =>
    cases hu with
    | mk hul hsl hum hsm =>
    rename_i vL vM cl cm vL' vM' cl' cm'
    obtain ⟨_, a1, p1, rfl, hp1, hq1, _⟩ := id hrl
    obtain ⟨_, a2, p2, rfl, hp2, hq2, _⟩ := id hrm
    obtain ⟨_, a3, p3, rfl, hp3, hq3, _⟩ := id hsl
    obtain ⟨_, a4, p4, rfl, hp4, hq4, _⟩ := id hsm
    obtain ⟨T, hT⟩ : ∃ T, exactT (.mk k b d s l m) (.mk k' b' d' s' l' m') = T := ⟨_, rfl⟩
    rw [hT]
    rw [exactT] at hT
    have HT := Lib.hid hT
    have hv0 := VAt.new w (cellsV k b d s (.slice a1 l.length p1) (.slice a2 m.length p2))
    have hx0 : Ext w (w.alloc (.cells (cellsV k b d s (.slice a1 l.length p1) (.slice a2 m.length p2)) 29)) := (ext_refl w).alloc (Nat.le_refl _) _
    have hv1 := VAt.new (w.alloc (.cells (cellsV k b d s (.slice a1 l.length p1) (.slice a2 m.length p2)) 29)) (cellsV k' b' d' s' (.slice a3 l'.length p3) (.slice a4 m'.length p4))
    have hx1 : Ext (w.alloc (.cells (cellsV k b d s (.slice a1 l.length p1) (.slice a2 m.length p2)) 29)) ((w.alloc (.cells (cellsV k b d s (.slice a1 l.length p1) (.slice a2 m.length p2)) 29)).alloc (.cells (cellsV k' b' d' s' (.slice a3 l'.length p3) (.slice a4 m'.length p4)) 29)) := (ext_refl _).alloc (Nat.le_refl _) _
    replace hv0 := hv0.ext hx1
    have hsz0 : (w.alloc (.cells (cellsV k b d s (.slice a1 l.length p1) (.slice a2 m.length p2)) 29)).heap.size = w.heap.size + 1 := by simp
    rw [hsz0] at hv1
    have hE := ext_trans hx0 hx1
    clear hx0 hx1 hT
    simp only [cellsV] at hv0 hv1 hsz0 hE ⊢
    go_enter Tryd.func15, Tryd.ntmps15
    go_upto_region 1 with fail
    generalize (w.alloc (.cells #[.int .i64 k, .bool b, .bool d.neg, .string ⟨d.digits.toArray⟩, .int .i64 d.exp, .string ⟨s.toArray⟩, .slice a1 l.length p1, .slice a2 m.length p2] 29)).alloc (.cells #[.int .i64 k', .bool b', .bool d'.neg, .string ⟨d'.digits.toArray⟩, .int .i64 d'.exp, .string ⟨s'.toArray⟩, .slice a3 l'.length p3, .slice a4 m'.length p4] 29) = w1 at *
    obtain ⟨S, hS⟩ : ∃ S, w.heap.size = S := ⟨_, rfl⟩
    rw [hS] at hv0 hv1 ⊢
    have HC := Lib.hid hv0
    have HD := Lib.hid hv1
    have HE := Lib.hid hE
    have HTL := Lib.hid (htl.keep (A' := fun _ => True) hE.size (fun g _ hlt => ⟨trivial, hE.block g hlt⟩))
    have HRL := Lib.hid (hrl.keep (A' := fun _ => True) hE.size (fun g _ hlt => ⟨trivial, hE.block g hlt⟩))
    have HTM := Lib.hid (htm.keep (A' := fun _ => True) hE.size (fun g _ hlt => ⟨trivial, hE.block g hlt⟩))
    have HRM := Lib.hid (hrm.keep (A' := fun _ => True) hE.size (fun g _ hlt => ⟨trivial, hE.block g hlt⟩))
    have HUL := Lib.hid (hul.keep (A' := fun _ => True) hE.size (fun g _ hlt => ⟨trivial, hE.block g hlt⟩))
    have HSL := Lib.hid (hsl.keep (A' := fun _ => True) hE.size (fun g _ hlt => ⟨trivial, hE.block g hlt⟩))
    have HUM := Lib.hid (hum.keep (A' := fun _ => True) hE.size (fun g _ hlt => ⟨trivial, hE.block g hlt⟩))
    have HSM := Lib.hid (hsm.keep (A' := fun _ => True) hE.size (fun g _ hlt => ⟨trivial, hE.block g hlt⟩))
    clear hv0 hv1 hE hsz0 htl hrl htm hrm hul hsl hum hsm hS
    have c0 := HC.out.cell 0; have c1 := HC.out.cell 1; have c2 := HC.out.cell 2; have c3 := HC.out.cell 3; have c4 := HC.out.cell 4; have c5 := HC.out.cell 5; have c6 := HC.out.cell 6; have c7 := HC.out.cell 7
    have d0 := HD.out.cell 0; have d1 := HD.out.cell 1; have d2 := HD.out.cell 2; have d3 := HD.out.cell 3; have d4 := HD.out.cell 4; have d5 := HD.out.cell 5; have d6 := HD.out.cell 6; have d7 := HD.out.cell 7
    simp at c0 c1 c2 c3 c4 c5 c6 c7 d0 d1 d2 d3 d4 d5 d6 d7
    have hneq := fun w => neq_num d d' w
    by_cases h1 : ¬ k = k'
    · have q1 : (k == k') = false := by simpa using h1
      have HF : Hid (T = false) := Lib.hid (by rw [← HT.out]; simp [h1])
      go_wp2_with fail
      go_ret
      exact ⟨ret_bool HF.out.symm, HE.out⟩
    replace h1 : k = k' := Decidable.of_not_not h1
    subst h1
    by_cases h2 : ¬ b = b'
    · have q1 : (b == b') = false := by simpa using h2
      have HF : Hid (T = false) := Lib.hid (by rw [← HT.out]; simp [h2])
      go_wp2_with fail
      go_ret
      exact ⟨ret_bool HF.out.symm, HE.out⟩
    replace h2 : b = b' := Decidable.of_not_not h2
    subst h2
    by_cases h3 : ¬ d = d'
    · rw [decide_eq_false h3] at hneq
      have HF : Hid (T = false) := Lib.hid (by rw [← HT.out]; simp [h3])
      go_wp2_with fail
      go_ret
      exact ⟨ret_bool HF.out.symm, HE.out⟩
    replace h3 : d = d' := Decidable.of_not_not h3
    rw [decide_eq_true h3] at hneq
    have HD3 := Lib.hid h3
    clear h3
    by_cases h4 : ¬ s = s'
    · have q1 : (s == s') = false := by simpa using h4
      have HF : Hid (T = false) := Lib.hid (by rw [← HT.out]; simp [h4])
      go_wp2_with fail
      go_ret
      exact ⟨ret_bool HF.out.symm, HE.out⟩
    replace h4 : s = s' := Decidable.of_not_not h4
    subst h4
    by_cases h5 : ¬ l.length = l'.length
    · have q1 : ((l.length : Int) == l'.length) = false := by simp; omega
      have HF : Hid (T = false) := Lib.hid (by
        rw [← HT.out]
        cases hx : exactL l l' with
        | true => exact absurd (exactL_len _ _ hx) h5
        | false => simp)
      go_wp2_with fail
      go_ret
      exact ⟨ret_bool HF.out.symm, HE.out⟩
    replace h5 : l.length = l'.length := Decidable.of_not_not h5
    by_cases h6 : ¬ m.length = m'.length
    · have q1 : ((m.length : Int) == m'.length) = false := by simp; omega
      have HF : Hid (T = false) := Lib.hid (by
        rw [← HT.out]
        cases hx : exactM m m' with
        | true => exact absurd (exactM_len _ _ hx) h6
        | false => simp)
      have e5 : (l'.length : Int) = l.length := by omega
      go_wp2_with fail
      go_ret
      exact ⟨ret_bool HF.out.symm, HE.out⟩
    replace h6 : m.length = m'.length := Decidable.of_not_not h6
    have HT2 : Hid (T = (exactL l l' && exactM m m')) := Lib.hid (by rw [← HT.out]; simp [HD3.out])
    have e5 : (l'.length : Int) = l.length := by omega
    have e6 : (m'.length : Int) = m.length := by omega
    have H5 := Lib.hid h5
    have H6 := Lib.hid h6
    clear HT h5 h6
    go_upto_region 3 with fail
    clear e5 e6
    clear c0 c1 c2 c3 c4 c5 c6 c7 d0 d1 d2 d3 d4 d5 d6 d7 hneq
    have HSU : Hid (SizeOf.sizeOf l < N ∧ SizeOf.sizeOf m < N) := Lib.hid (by
      simp only [Tree.mk.sizeOf_spec] at hN
      omega)
    clear hN
    go_wp2_with fail
    go_loopw [5] (fun iv wr => ∃ i : Nat, iv = .int .i64 i ∧ i ≤ l.length ∧ Ext w1 wr ∧ exactL l l' = exactL (l.drop i) (l'.drop i)) (fun iv _ => 9223372036854775808 - (intOf iv).toNat)
    case atStart => exact ⟨0, rfl, by omega, ext_refl _, rfl⟩
    case round =>
      obtain ⟨i, rfl, hi, hEr, hdr⟩ := hrel
      have HX := Lib.hid hEr
      have HDR := Lib.hid hdr
      have hCr := HC.out.ext hEr
      have hDr := HD.out.ext hEr
      have HCR := Lib.hid hCr
      have HDD := Lib.hid hDr
      clear hEr hdr hCr hDr
      have c6 := HCR.out.cell 6
      have d6 := HDD.out.cell 6
      simp at c6 d6
      by_cases hlt : i < l.length
      · have hlti : (i : Int) < l.length := by omega
        have hi0 : (0 : Int) ≤ i := by omega
        have hlt' : i < l'.length := by have := H5.out; omega
        have hlti' : (i : Int) < l'.length := by omega
        obtain ⟨x, htx, hcx⟩ := HTL.out.at i hlt
        obtain ⟨y, huy, hcy⟩ := HUL.out.at i hlt'
        obtain ⟨g, o, ea, hgl, hgc⟩ := HRL.out.cells (by omega)
        obtain ⟨g', o', ea', hgl', hgc'⟩ := HSL.out.cells (by omega)
        subst ea
        subst ea'
        obtain ⟨xk, xb, xd, xs, xa1, xn1, xc1, xa2, xn2, xc2, rfl⟩ := htx.eight
        obtain ⟨yk, yb, yd, ys, ya1, yn1, yc1, ya2, yn2, yc2, rfl⟩ := huy.eight
        have HXE : Hid (∀ w', Ext wr w' → ∀ j u, (cellsV xk xb xd xs (.slice xa1 xn1 xc1) (.slice xa2 xn2 xc2))[j]? = some u → w'.cell? ⟨g, o + i * 8 + j, none⟩ = some u) := Lib.hid (fun w' hw j u hu => by
          have hj : j < 8 := by have := (Array.getElem?_eq_some_iff.1 hu).1; simpa using this
          rw [Nat.add_assoc, (ext_trans HX.out hw).cell (p := ⟨g, o + (i * 8 + j), none⟩) hgl]
          exact hgc _ _ ((hcx j hj).trans hu))
        have HYE : Hid (∀ w', Ext wr w' → ∀ j u, (cellsV yk yb yd ys (.slice ya1 yn1 yc1) (.slice ya2 yn2 yc2))[j]? = some u → w'.cell? ⟨g', o' + i * 8 + j, none⟩ = some u) := Lib.hid (fun w' hw j u hu => by
          have hj : j < 8 := by have := (Array.getElem?_eq_some_iff.1 hu).1; simpa using this
          rw [Nat.add_assoc, (ext_trans HX.out hw).cell (p := ⟨g', o' + (i * 8 + j), none⟩) hgl']
          exact hgc' _ _ ((hcy j hj).trans hu))
        have HIH : Hid (∀ w', Ext wr w' → Calls Tryd.prog 15 #[.agg (cellsV xk xb xd xs (.slice xa1 xn1 xc1) (.slice xa2 xn2 xc2)), .agg (cellsV yk yb yd ys (.slice ya1 yn1 yc1) (.slice ya2 yn2 yc2))] w' (fun e w'' => e = .returned (.bool (exactT l[i] l'[i])) ∧ Ext w' w'')) := Lib.hid (fun w' hw =>
          IH.out l[i] l'[i] (fun _ => True) (fun _ => True) _ _ w' (mem_sizeL l i hlt HSU.out.1) (htx.keep (ext_trans HX.out hw).size (fun g _ hlt => ⟨trivial, (ext_trans HX.out hw).block g hlt⟩)) (huy.keep (ext_trans HX.out hw).size (fun g _ hlt => ⟨trivial, (ext_trans HX.out hw).block g hlt⟩)))
        have HDR2 : Hid (exactL l l' = (exactT l[i] l'[i] && exactL (l.drop (i + 1)) (l'.drop (i + 1)))) := Lib.hid (by
          rw [HDR.out, List.drop_eq_getElem_cons hlt, List.drop_eq_getElem_cons hlt', exactL])
        obtain ⟨bq, hbq⟩ : ∃ bq, exactT l[i] l'[i] = bq := ⟨_, rfl⟩
        have hih := HIH.out
        have hdr2 := HDR2.out
        rw [hbq] at hih hdr2
        replace HIH := Lib.hid hih
        replace HDR2 := Lib.hid hdr2
        clear hih hdr2 hbq htx huy hcx hcy hgc hgc' hgl hgl'
        have e9 : IntKind.i64.wrap ((i : Int) + 1) = ((i + 1 : Nat) : Int) := by rw [IntWalk.i64_in _ (by omega)]; omega
        go_upto_region 6 with fail
        clear c6 d6
        refine Grow.wp_region_litW (G := Ext) (B := fun w' => Ext wr w') (anc := fun _ => []) (I := fun j => if j = 10 then some (Grow.Spec.val Ext (.bool bq)) else none) (by kernel_rfl) (by kernel_rfl) (by kernel_rfl) ?_ ?_ ?_
        · exact fun w w' h hg => ext_trans h hg
        · exact (ext_refl _).drew
        repeat
          (refine Grow.Wk.step (fun K hK => ?_)
           first
           | (refine Grow.step_read (by rfl) (by rfl) ext_refl ?_
              apply Exists.intro
              refine ⟨fun w hB hF => ?_, ?_⟩
              · have c6 := (HCR.out.ext hB).cell 6; have d6 := (HDD.out.ext hB).cell 6; simp at c6 d6; have x0 := HXE.out _ hB 0 _ rfl; have x1 := HXE.out _ hB 1 _ rfl; have x2 := HXE.out _ hB 2 _ rfl; have x3 := HXE.out _ hB 3 _ rfl; have x4 := HXE.out _ hB 4 _ rfl; have x5 := HXE.out _ hB 5 _ rfl; have x6 := HXE.out _ hB 6 _ rfl; have x7 := HXE.out _ hB 7 _ rfl; have y0 := HYE.out _ hB 0 _ rfl; have y1 := HYE.out _ hB 1 _ rfl; have y2 := HYE.out _ hB 2 _ rfl; have y3 := HYE.out _ hB 3 _ rfl; have y4 := HYE.out _ hB 4 _ rfl; have y5 := HYE.out _ hB 5 _ rfl; have y6 := HYE.out _ hB 6 _ rfl; have y7 := HYE.out _ hB 7 _ rfl; simp only [Nat.add_zero] at x0 y0
                go_simp
                try exact rfl
              go_simp
              refine hK _ _ ?_
              clear hK K)
           | (refine Grow.step_off (by rfl) ?_
              go_simp
              refine hK _ _ ?_
              clear hK K))
        refine Grow.Wk.step (fun K hK => ?_)
        refine Grow.step_rel (by rfl) (by rfl) (fun w' hB hF => ?_) (fun v hv => ?_)
        · go_simp
          refine Grow.relUpon_enter ((HIH.out w' hB).mono ?_)
          rintro e w'' ⟨rfl, hw''⟩
          exact ⟨_, rfl, hw'', rfl, trivial⟩
        obtain rfl : v = _ := hv
        go_simp
        refine hK _ _ ?_
        clear hK K
        repeat
          (refine Grow.Wk.step (fun K hK => ?_)
           first
           | (refine Grow.step_read (by rfl) (by rfl) ext_refl ?_
              apply Exists.intro
              refine ⟨fun w hB hF => ?_, ?_⟩
              · skip
                go_simp
                try exact rfl
              go_simp
              refine hK _ _ ?_
              clear hK K)
           | (refine Grow.step_off (by rfl) ?_
              go_simp
              refine hK _ _ ?_
              clear hK K))
        refine Grow.Wk.nil ?_
        intro w4 hB hF
        clear hF
        cases bq with
        | false =>
          have HF : Hid (T = false) := Lib.hid (by rw [HT2.out, HDR2.out]; rfl)
          have HEE := Lib.hid (ext_trans HE.out (ext_trans HX.out hB))
          clear hB
          go_wp2_with fail
          go_ret
          exact ⟨ret_bool HF.out.symm, HEE.out⟩
        | true =>
          have HN : Hid (exactL l l' = exactL (l.drop (i + 1)) (l'.drop (i + 1))) := Lib.hid (by rw [HDR2.out, Bool.true_and])
          have HXX := Lib.hid (ext_trans HX.out hB)
          clear hB
          go_wp2_with fail
          go_roundw
          case rel => exact ⟨i + 1, by go_num, by omega, HXX.out, HN.out⟩
          case measure => simp [intOf]; omega
      · obtain rfl : i = l.length := by omega
        have hnlt : ¬ ((l.length : Int) < (l.length : Int)) := by omega
        have HL0 : Hid (exactL l l' = true) := Lib.hid (by
          rw [HDR.out, List.drop_of_length_le (Nat.le_refl _), List.drop_of_length_le (by have := H5.out; omega), exactL])
        have HT3 : Hid (T = exactM m m') := Lib.hid (by rw [HT2.out, HL0.out, Bool.true_and])
        have HEr := Lib.hid (ext_trans HE.out HX.out)
        clear HT2 HL0 HDR hi hlt
        go_wp2_with fail
        clear c6 d6
        go_loopw [6] (fun iv wx => ∃ i : Nat, iv = .int .i64 i ∧ i ≤ m.length ∧ Ext wr wx ∧ exactM m m' = exactM (m.drop i) (m'.drop i)) (fun iv _ => 9223372036854775808 - (intOf iv).toNat)
        case atStart => exact ⟨0, rfl, by omega, ext_refl _, rfl⟩
        case round =>
          obtain ⟨i, rfl, hi, hEr, hdr⟩ := hrel
          replace HX := Lib.hid (ext_trans HX.out hEr)
          have hEr0 := Lib.hid hEr
          have HDR := Lib.hid hdr
          have hCr := HCR.out.ext hEr
          have hDr := HDD.out.ext hEr
          replace HCR := Lib.hid hCr
          replace HDD := Lib.hid hDr
          replace HEr := Lib.hid (ext_trans HEr.out hEr)
          clear hEr hdr hCr hDr
          have c7 := HCR.out.cell 7
          have d7 := HDD.out.cell 7
          simp at c7 d7
          by_cases hlt : i < m.length
          · have hlti : (i : Int) < m.length := by omega
            have hi0 : (0 : Int) ≤ i := by omega
            have hlt' : i < m'.length := by have := H6.out; omega
            have hlti' : (i : Int) < m'.length := by omega
            obtain ⟨x, htx, hkx, hcx⟩ := HTM.out.at i hlt
            obtain ⟨y, huy, hky, hcy⟩ := HUM.out.at i hlt'
            obtain ⟨g, o, ea, hgl, hgc⟩ := HRM.out.cells (by omega)
            obtain ⟨g', o', ea', hgl', hgc'⟩ := HSM.out.cells (by omega)
            subst ea
            subst ea'
            obtain ⟨xk, xb, xd, xs, xa1, xn1, xc1, xa2, xn2, xc2, rfl⟩ := htx.eight
            obtain ⟨yk, yb, yd, ys, ya1, yn1, yc1, ya2, yn2, yc2, rfl⟩ := huy.eight
            have HXE : Hid (∀ w', Ext wr w' → ∀ j u, (cellsV xk xb xd xs (.slice xa1 xn1 xc1) (.slice xa2 xn2 xc2))[j]? = some u → w'.cell? ⟨g, o + i * 9 + (j + 1), none⟩ = some u) := Lib.hid (fun w' hw j u hu => by
              have hj : j < 8 := by have := (Array.getElem?_eq_some_iff.1 hu).1; simpa using this
              rw [Nat.add_assoc, (ext_trans HX.out hw).cell (p := ⟨g, o + (i * 9 + (j + 1)), none⟩) hgl, show i * 9 + (j + 1) = i * 9 + 1 + j by omega]
              exact hgc _ _ ((hcx j hj).trans hu))
            have HYE : Hid (∀ w', Ext wr w' → ∀ j u, (cellsV yk yb yd ys (.slice ya1 yn1 yc1) (.slice ya2 yn2 yc2))[j]? = some u → w'.cell? ⟨g', o' + i * 9 + (j + 1), none⟩ = some u) := Lib.hid (fun w' hw j u hu => by
              have hj : j < 8 := by have := (Array.getElem?_eq_some_iff.1 hu).1; simpa using this
              rw [Nat.add_assoc, (ext_trans HX.out hw).cell (p := ⟨g', o' + (i * 9 + (j + 1)), none⟩) hgl', show i * 9 + (j + 1) = i * 9 + 1 + j by omega]
              exact hgc' _ _ ((hcy j hj).trans hu))
            have HXK : Hid (∀ w', Ext wr w' → w'.cell? ⟨g, o + i * 9, none⟩ = some (.string ⟨m[i].1.toArray⟩)) := Lib.hid (fun w' hw => by
              rw [(ext_trans HX.out hw).cell (p := ⟨g, o + i * 9, none⟩) hgl]; exact hgc _ _ hkx)
            have HYK : Hid (∀ w', Ext wr w' → w'.cell? ⟨g', o' + i * 9, none⟩ = some (.string ⟨m'[i].1.toArray⟩)) := Lib.hid (fun w' hw => by
              rw [(ext_trans HX.out hw).cell (p := ⟨g', o' + i * 9, none⟩) hgl']; exact hgc' _ _ hky)
            have HIH : Hid (∀ w', Ext wr w' → Calls Tryd.prog 15 #[.agg (cellsV xk xb xd xs (.slice xa1 xn1 xc1) (.slice xa2 xn2 xc2)), .agg (cellsV yk yb yd ys (.slice ya1 yn1 yc1) (.slice ya2 yn2 yc2))] w' (fun e w'' => e = .returned (.bool (exactT m[i].2 m'[i].2)) ∧ Ext w' w'')) := Lib.hid (fun w' hw =>
              IH.out m[i].2 m'[i].2 (fun _ => True) (fun _ => True) _ _ w' (mem_size m i hlt HSU.out.2) (htx.keep (ext_trans HX.out hw).size (fun g _ hlt => ⟨trivial, (ext_trans HX.out hw).block g hlt⟩)) (huy.keep (ext_trans HX.out hw).size (fun g _ hlt => ⟨trivial, (ext_trans HX.out hw).block g hlt⟩)))
            have HDR2 : Hid (exactM m m' = (decide (m[i].1 = m'[i].1) && exactT m[i].2 m'[i].2 && exactM (m.drop (i + 1)) (m'.drop (i + 1)))) := Lib.hid (by
              rw [HDR.out, List.drop_eq_getElem_cons hlt, List.drop_eq_getElem_cons hlt', exactM_cons])
            obtain ⟨bq, hbq⟩ : ∃ bq, exactT m[i].2 m'[i].2 = bq := ⟨_, rfl⟩
            obtain ⟨kx, hkx2⟩ : ∃ kx, m[i].1 = kx := ⟨_, rfl⟩
            obtain ⟨ky, hky2⟩ : ∃ ky, m'[i].1 = ky := ⟨_, rfl⟩
            have hih := HIH.out
            have hdr2 := HDR2.out
            have hxk := HXK.out
            have hyk := HYK.out
            rw [hbq] at hih hdr2
            rw [hkx2] at hxk hdr2
            rw [hky2] at hyk hdr2
            replace HIH := Lib.hid hih
            replace HDR2 := Lib.hid hdr2
            replace HXK := Lib.hid hxk
            replace HYK := Lib.hid hyk
            clear hih hdr2 hbq htx huy hcx hcy hgc hgc' hgl hgl' hkx hky hkx2 hky2 hxk hyk
            have e9 : IntKind.i64.wrap ((i : Int) + 1) = ((i + 1 : Nat) : Int) := by rw [IntWalk.i64_in _ (by omega)]; omega
            have HFA : Hid (∀ w', Ext wr w' → w'.cell? ⟨S, 7, none⟩ = some (.slice (some ⟨g, o, none⟩) m.length p2) ∧ w'.cell? ⟨S + 1, 7, none⟩ = some (.slice (some ⟨g', o', none⟩) m'.length p4) ∧ w'.cell? ⟨g, o + i * 9, none⟩ = some (.string ⟨kx.toArray⟩) ∧ w'.cell? ⟨g', o' + i * 9, none⟩ = some (.string ⟨ky.toArray⟩)) := Lib.hid (fun w' hw => ⟨by rw [(HCR.out.ext hw).cell 7]; rfl, by rw [(HDD.out.ext hw).cell 7]; rfl, HXK.out _ hw, HYK.out _ hw⟩)
            by_cases hkk : ¬ kx = ky
            · have hkb : (kx == ky) = false := by simpa using hkk
              have HF : Hid (T = false) := Lib.hid (by rw [HT3.out, HDR2.out]; simp [hkk])
              clear hkk
              go_upto_region 11 with fail
              clear c7 d7
              refine Grow.wp_region_litW (G := Ext) (B := fun w' => Ext wr w') (anc := fun _ => []) (I := fun _ => none) (by kernel_rfl) (by kernel_rfl) (by kernel_rfl) ?_ ?_ ?_
              · exact fun w w' h hg => ext_trans h hg
              · exact (ext_refl _).drew
              repeat
                (refine Grow.Wk.step (fun K hK => ?_)
                 first
                 | (refine Grow.step_read (by rfl) (by rfl) ext_refl ?_
                    apply Exists.intro
                    refine ⟨fun w hB hF => ?_, ?_⟩
                    · obtain ⟨c7, d7, kx0, ky0⟩ := HFA.out _ hB
                      go_simp
                      try exact rfl
                    go_simp
                    refine hK _ _ ?_
                    clear hK K)
                 | (refine Grow.step_off (by rfl) ?_
                    go_simp
                    refine hK _ _ ?_
                    clear hK K))
              refine Grow.Wk.nil ?_
              intro w4 hB hF
              clear hF
              have HEE := Lib.hid (ext_trans HEr.out hB)
              clear hB
              go_wp2_with fail
              go_ret
              exact ⟨ret_bool HF.out.symm, HEE.out⟩
            · replace hkk : kx = ky := Decidable.of_not_not hkk
              subst hkk
              replace HDR2 : Hid (exactM m m' = (bq && exactM (m.drop (i + 1)) (m'.drop (i + 1)))) := Lib.hid (by rw [HDR2.out]; simp)
              go_upto_region 11 with fail
              clear c7 d7
              refine Grow.wp_region_litW (G := Ext) (B := fun w' => Ext wr w') (anc := fun _ => []) (I := fun j => if j = 26 then some (Grow.Spec.val Ext (.bool bq)) else none) (by kernel_rfl) (by kernel_rfl) (by kernel_rfl) ?_ ?_ ?_
              · exact fun w w' h hg => ext_trans h hg
              · exact (ext_refl _).drew
              have HFX : Hid (∀ w', Ext wr w' → w'.cell? ⟨g, o + i * 9 + 1, none⟩ = some (.int .i64 xk) ∧ w'.cell? ⟨g, o + i * 9 + 2, none⟩ = some (.bool xb) ∧ w'.cell? ⟨g, o + i * 9 + 3, none⟩ = some (.bool xd.neg) ∧ w'.cell? ⟨g, o + i * 9 + 4, none⟩ = some (.string ⟨xd.digits.toArray⟩) ∧ w'.cell? ⟨g, o + i * 9 + 5, none⟩ = some (.int .i64 xd.exp) ∧ w'.cell? ⟨g, o + i * 9 + 6, none⟩ = some (.string ⟨xs.toArray⟩) ∧ w'.cell? ⟨g, o + i * 9 + 7, none⟩ = some (.slice xa1 xn1 xc1) ∧ w'.cell? ⟨g, o + i * 9 + 8, none⟩ = some (.slice xa2 xn2 xc2)) := Lib.hid (fun w' hw => ⟨HXE.out _ hw 0 _ rfl, HXE.out _ hw 1 _ rfl, HXE.out _ hw 2 _ rfl, HXE.out _ hw 3 _ rfl, HXE.out _ hw 4 _ rfl, HXE.out _ hw 5 _ rfl, HXE.out _ hw 6 _ rfl, HXE.out _ hw 7 _ rfl⟩)
              have HFY : Hid (∀ w', Ext wr w' → w'.cell? ⟨g', o' + i * 9 + 1, none⟩ = some (.int .i64 yk) ∧ w'.cell? ⟨g', o' + i * 9 + 2, none⟩ = some (.bool yb) ∧ w'.cell? ⟨g', o' + i * 9 + 3, none⟩ = some (.bool yd.neg) ∧ w'.cell? ⟨g', o' + i * 9 + 4, none⟩ = some (.string ⟨yd.digits.toArray⟩) ∧ w'.cell? ⟨g', o' + i * 9 + 5, none⟩ = some (.int .i64 yd.exp) ∧ w'.cell? ⟨g', o' + i * 9 + 6, none⟩ = some (.string ⟨ys.toArray⟩) ∧ w'.cell? ⟨g', o' + i * 9 + 7, none⟩ = some (.slice ya1 yn1 yc1) ∧ w'.cell? ⟨g', o' + i * 9 + 8, none⟩ = some (.slice ya2 yn2 yc2)) := Lib.hid (fun w' hw => ⟨HYE.out _ hw 0 _ rfl, HYE.out _ hw 1 _ rfl, HYE.out _ hw 2 _ rfl, HYE.out _ hw 3 _ rfl, HYE.out _ hw 4 _ rfl, HYE.out _ hw 5 _ rfl, HYE.out _ hw 6 _ rfl, HYE.out _ hw 7 _ rfl⟩)
              refine Grow.Wk.step (fun K hK => ?_)
              first
              | (refine Grow.step_read (by rfl) (by rfl) ext_refl ?_
                 apply Exists.intro
                 refine ⟨fun w hB hF => ?_, ?_⟩
                 · obtain ⟨c7, d7, kx0, ky0⟩ := HFA.out _ hB
                   go_simp
                   try exact rfl
                 go_simp
                 refine hK _ _ ?_
                 clear hK K)
              | (refine Grow.step_off (by rfl) ?_
                 go_simp
                 refine hK _ _ ?_
                 clear hK K)
              refine Grow.Wk.step (fun K hK => ?_)
              first
              | (refine Grow.step_read (by rfl) (by rfl) ext_refl ?_
                 apply Exists.intro
                 refine ⟨fun w hB hF => ?_, ?_⟩
                 · obtain ⟨c7, d7, kx0, ky0⟩ := HFA.out _ hB
                   go_simp
                   try exact rfl
                 go_simp
                 refine hK _ _ ?_
                 clear hK K)
              | (refine Grow.step_off (by rfl) ?_
                 go_simp
                 refine hK _ _ ?_
                 clear hK K)
              refine Grow.Wk.step (fun K hK => ?_)
              first
              | (refine Grow.step_read (by rfl) (by rfl) ext_refl ?_
                 apply Exists.intro
                 refine ⟨fun w hB hF => ?_, ?_⟩
                 · obtain ⟨c7, d7, kx0, ky0⟩ := HFA.out _ hB
                   go_simp
                   try exact rfl
                 go_simp
                 refine hK _ _ ?_
                 clear hK K)
              | (refine Grow.step_off (by rfl) ?_
                 go_simp
                 refine hK _ _ ?_
                 clear hK K)
              refine Grow.Wk.step (fun K hK => ?_)
              first
              | (refine Grow.step_read (by rfl) (by rfl) ext_refl ?_
                 apply Exists.intro
                 refine ⟨fun w hB hF => ?_, ?_⟩
                 · obtain ⟨c7, d7, kx0, ky0⟩ := HFA.out _ hB
                   go_simp
                   try exact rfl
                 go_simp
                 refine hK _ _ ?_
                 clear hK K)
              | (refine Grow.step_off (by rfl) ?_
                 go_simp
                 refine hK _ _ ?_
                 clear hK K)
              refine Grow.Wk.step (fun K hK => ?_)
              first
              | (refine Grow.step_read (by rfl) (by rfl) ext_refl ?_
                 apply Exists.intro
                 refine ⟨fun w hB hF => ?_, ?_⟩
                 · obtain ⟨c7, d7, kx0, ky0⟩ := HFA.out _ hB
                   go_simp
                   try exact rfl
                 go_simp
                 refine hK _ _ ?_
                 clear hK K)
              | (refine Grow.step_off (by rfl) ?_
                 go_simp
                 refine hK _ _ ?_
                 clear hK K)
              refine Grow.Wk.step (fun K hK => ?_)
              first
              | (refine Grow.step_read (by rfl) (by rfl) ext_refl ?_
                 apply Exists.intro
                 refine ⟨fun w hB hF => ?_, ?_⟩
                 · obtain ⟨c7, d7, kx0, ky0⟩ := HFA.out _ hB
                   go_simp
                   try exact rfl
                 go_simp
                 refine hK _ _ ?_
                 clear hK K)
              | (refine Grow.step_off (by rfl) ?_
                 go_simp
                 refine hK _ _ ?_
                 clear hK K)
              refine Grow.Wk.step (fun K hK => ?_)
              first
              | (refine Grow.step_read (by rfl) (by rfl) ext_refl ?_
                 apply Exists.intro
                 refine ⟨fun w hB hF => ?_, ?_⟩
                 · obtain ⟨c7, d7, kx0, ky0⟩ := HFA.out _ hB
                   go_simp
                   try exact rfl
                 go_simp
                 refine hK _ _ ?_
                 clear hK K)
              | (refine Grow.step_off (by rfl) ?_
                 go_simp
                 refine hK _ _ ?_
                 clear hK K)
              refine Grow.Wk.step (fun K hK => ?_)
              first
              | (refine Grow.step_read (by rfl) (by rfl) ext_refl ?_
                 apply Exists.intro
                 refine ⟨fun w hB hF => ?_, ?_⟩
                 · obtain ⟨c7, d7, kx0, ky0⟩ := HFA.out _ hB
                   go_simp
                   try exact rfl
                 go_simp
                 refine hK _ _ ?_
                 clear hK K)
              | (refine Grow.step_off (by rfl) ?_
                 go_simp
                 refine hK _ _ ?_
                 clear hK K)
              refine Grow.Wk.step (fun K hK => ?_)
              first
              | (refine Grow.step_read (by rfl) (by rfl) ext_refl ?_
                 apply Exists.intro
                 refine ⟨fun w hB hF => ?_, ?_⟩
                 · obtain ⟨c7, d7, kx0, ky0⟩ := HFA.out _ hB
                   go_simp
                   try exact rfl
                 go_simp
                 refine hK _ _ ?_
                 clear hK K)
              | (refine Grow.step_off (by rfl) ?_
                 go_simp
                 refine hK _ _ ?_
                 clear hK K)
              refine Grow.Wk.step (fun K hK => ?_)
              first
              | (refine Grow.step_read (by rfl) (by rfl) ext_refl ?_
                 apply Exists.intro
                 refine ⟨fun w hB hF => ?_, ?_⟩
                 · obtain ⟨c7, d7, kx0, ky0⟩ := HFA.out _ hB
                   go_simp
                   try exact rfl
                 go_simp
                 refine hK _ _ ?_
                 clear hK K)
              | (refine Grow.step_off (by rfl) ?_
                 go_simp
                 refine hK _ _ ?_
                 clear hK K)
              refine Grow.Wk.step (fun K hK => ?_)
              first
              | (refine Grow.step_read (by rfl) (by rfl) ext_refl ?_
                 apply Exists.intro
                 refine ⟨fun w hB hF => ?_, ?_⟩
                 · obtain ⟨c7, d7, kx0, ky0⟩ := HFA.out _ hB
                   go_simp
                   try exact rfl
                 go_simp
                 refine hK _ _ ?_
                 clear hK K)
              | (refine Grow.step_off (by rfl) ?_
                 go_simp
                 refine hK _ _ ?_
                 clear hK K)
              refine Grow.Wk.step (fun K hK => ?_)
              first
              | (refine Grow.step_read (by rfl) (by rfl) ext_refl ?_
                 apply Exists.intro
                 refine ⟨fun w hB hF => ?_, ?_⟩
                 · obtain ⟨c7, d7, kx0, ky0⟩ := HFA.out _ hB
                   go_simp
                   try exact rfl
                 go_simp
                 refine hK _ _ ?_
                 clear hK K)
              | (refine Grow.step_off (by rfl) ?_
                 go_simp
                 refine hK _ _ ?_
                 clear hK K)
              refine Grow.Wk.step (fun K hK => ?_)
              first
              | (refine Grow.step_read (by rfl) (by rfl) ext_refl ?_
                 apply Exists.intro
                 refine ⟨fun w hB hF => ?_, ?_⟩
                 · obtain ⟨c7, d7, kx0, ky0⟩ := HFA.out _ hB
                   go_simp
                   try exact rfl
                 go_simp
                 refine hK _ _ ?_
                 clear hK K)
              | (refine Grow.step_off (by rfl) ?_
                 go_simp
                 refine hK _ _ ?_
                 clear hK K)
              refine Grow.Wk.step (fun K hK => ?_)
              first
              | (refine Grow.step_read (by rfl) (by rfl) ext_refl ?_
                 apply Exists.intro
                 refine ⟨fun w hB hF => ?_, ?_⟩
                 · obtain ⟨c7, d7, kx0, ky0⟩ := HFA.out _ hB
                   go_simp
                   try exact rfl
                 go_simp
                 refine hK _ _ ?_
                 clear hK K)
              | (refine Grow.step_off (by rfl) ?_
                 go_simp
                 refine hK _ _ ?_
                 clear hK K)
              refine Grow.Wk.step (fun K hK => ?_)
              first
              | (refine Grow.step_read (by rfl) (by rfl) ext_refl ?_
                 apply Exists.intro
                 refine ⟨fun w hB hF => ?_, ?_⟩
                 · obtain ⟨c7, d7, kx0, ky0⟩ := HFA.out _ hB
                   go_simp
                   try exact rfl
                 go_simp
                 refine hK _ _ ?_
                 clear hK K)
              | (refine Grow.step_off (by rfl) ?_
                 go_simp
                 refine hK _ _ ?_
                 clear hK K)
              refine Grow.Wk.step (fun K hK => ?_)
              first
              | (refine Grow.step_read (by rfl) (by rfl) ext_refl ?_
                 apply Exists.intro
                 refine ⟨fun w hB hF => ?_, ?_⟩
                 · obtain ⟨c7, d7, kx0, ky0⟩ := HFA.out _ hB
                   go_simp
                   try exact rfl
                 go_simp
                 refine hK _ _ ?_
                 clear hK K)
              | (refine Grow.step_off (by rfl) ?_
                 go_simp
                 refine hK _ _ ?_
                 clear hK K)
              refine Grow.Wk.step (fun K hK => ?_)
              first
              | (refine Grow.step_read (by rfl) (by rfl) ext_refl ?_
                 apply Exists.intro
                 refine ⟨fun w hB hF => ?_, ?_⟩
                 · obtain ⟨c7, d7, kx0, ky0⟩ := HFA.out _ hB
                   go_simp
                   try exact rfl
                 go_simp
                 refine hK _ _ ?_
                 clear hK K)
              | (refine Grow.step_off (by rfl) ?_
                 go_simp
                 refine hK _ _ ?_
                 clear hK K)
              refine Grow.Wk.step (fun K hK => ?_)
              first
              | (refine Grow.step_read (by rfl) (by rfl) ext_refl ?_
                 apply Exists.intro
                 refine ⟨fun w hB hF => ?_, ?_⟩
                 · obtain ⟨c7, d7, kx0, ky0⟩ := HFA.out _ hB
                   go_simp
                   try exact rfl
                 go_simp
                 refine hK _ _ ?_
                 clear hK K)
              | (refine Grow.step_off (by rfl) ?_
                 go_simp
                 refine hK _ _ ?_
                 clear hK K)
              refine Grow.Wk.step (fun K hK => ?_)
              first
              | (refine Grow.step_read (by rfl) (by rfl) ext_refl ?_
                 apply Exists.intro
                 refine ⟨fun w hB hF => ?_, ?_⟩
                 · obtain ⟨c7, d7, kx0, ky0⟩ := HFA.out _ hB
                   go_simp
                   try exact rfl
                 go_simp
                 refine hK _ _ ?_
                 clear hK K)
              | (refine Grow.step_off (by rfl) ?_
                 go_simp
                 refine hK _ _ ?_
                 clear hK K)
              refine Grow.Wk.step (fun K hK => ?_)
              first
              | (refine Grow.step_read (by rfl) (by rfl) ext_refl ?_
                 apply Exists.intro
                 refine ⟨fun w hB hF => ?_, ?_⟩
                 · obtain ⟨x0, x1, x2, x3, x4, x5, x6, x7⟩ := HFX.out _ hB
                   go_simp
                   try exact rfl
                 go_simp
                 refine hK _ _ ?_
                 clear hK K)
              | (refine Grow.step_off (by rfl) ?_
                 go_simp
                 refine hK _ _ ?_
                 clear hK K)
              refine Grow.Wk.step (fun K hK => ?_)
              first
              | (refine Grow.step_read (by rfl) (by rfl) ext_refl ?_
                 apply Exists.intro
                 refine ⟨fun w hB hF => ?_, ?_⟩
                 · obtain ⟨c7, d7, kx0, ky0⟩ := HFA.out _ hB
                   go_simp
                   try exact rfl
                 go_simp
                 refine hK _ _ ?_
                 clear hK K)
              | (refine Grow.step_off (by rfl) ?_
                 go_simp
                 refine hK _ _ ?_
                 clear hK K)
              refine Grow.Wk.step (fun K hK => ?_)
              first
              | (refine Grow.step_read (by rfl) (by rfl) ext_refl ?_
                 apply Exists.intro
                 refine ⟨fun w hB hF => ?_, ?_⟩
                 · obtain ⟨c7, d7, kx0, ky0⟩ := HFA.out _ hB
                   go_simp
                   try exact rfl
                 go_simp
                 refine hK _ _ ?_
                 clear hK K)
              | (refine Grow.step_off (by rfl) ?_
                 go_simp
                 refine hK _ _ ?_
                 clear hK K)
              refine Grow.Wk.step (fun K hK => ?_)
              first
              | (refine Grow.step_read (by rfl) (by rfl) ext_refl ?_
                 apply Exists.intro
                 refine ⟨fun w hB hF => ?_, ?_⟩
                 · obtain ⟨c7, d7, kx0, ky0⟩ := HFA.out _ hB
                   go_simp
                   try exact rfl
                 go_simp
                 refine hK _ _ ?_
                 clear hK K)
              | (refine Grow.step_off (by rfl) ?_
                 go_simp
                 refine hK _ _ ?_
                 clear hK K)
              refine Grow.Wk.step (fun K hK => ?_)
              first
              | (refine Grow.step_read (by rfl) (by rfl) ext_refl ?_
                 apply Exists.intro
                 refine ⟨fun w hB hF => ?_, ?_⟩
                 · obtain ⟨c7, d7, kx0, ky0⟩ := HFA.out _ hB
                   go_simp
                   try exact rfl
                 go_simp
                 refine hK _ _ ?_
                 clear hK K)
              | (refine Grow.step_off (by rfl) ?_
                 go_simp
                 refine hK _ _ ?_
                 clear hK K)
              refine Grow.Wk.step (fun K hK => ?_)
              first
              | (refine Grow.step_read (by rfl) (by rfl) ext_refl ?_
                 apply Exists.intro
                 refine ⟨fun w hB hF => ?_, ?_⟩
                 · obtain ⟨c7, d7, kx0, ky0⟩ := HFA.out _ hB
                   go_simp
                   try exact rfl
                 go_simp
                 refine hK _ _ ?_
                 clear hK K)
              | (refine Grow.step_off (by rfl) ?_
                 go_simp
                 refine hK _ _ ?_
                 clear hK K)
              refine Grow.Wk.step (fun K hK => ?_)
              first
              | (refine Grow.step_read (by rfl) (by rfl) ext_refl ?_
                 apply Exists.intro
                 refine ⟨fun w hB hF => ?_, ?_⟩
                 · obtain ⟨y0, y1, y2, y3, y4, y5, y6, y7⟩ := HFY.out _ hB
                   go_simp
                   try exact rfl
                 go_simp
                 refine hK _ _ ?_
                 clear hK K)
              | (refine Grow.step_off (by rfl) ?_
                 go_simp
                 refine hK _ _ ?_
                 clear hK K)
              refine Grow.Wk.step (fun K hK => ?_)
              refine Grow.step_rel (by rfl) (by rfl) (fun w' hB hF => ?_) (fun v hv => ?_)
              · go_simp
                refine Grow.relUpon_enter ((HIH.out w' hB).mono ?_)
                rintro e w'' ⟨rfl, hw''⟩
                exact ⟨_, rfl, hw'', rfl, trivial⟩
              obtain rfl : v = _ := hv
              go_simp
              refine hK _ _ ?_
              clear hK K
              repeat
                (refine Grow.Wk.step (fun K hK => ?_)
                 first
                 | (refine Grow.step_read (by rfl) (by rfl) ext_refl ?_
                    apply Exists.intro
                    refine ⟨fun w hB hF => ?_, ?_⟩
                    · skip
                      go_simp
                      try exact rfl
                    go_simp
                    refine hK _ _ ?_
                    clear hK K)
                 | (refine Grow.step_off (by rfl) ?_
                    go_simp
                    refine hK _ _ ?_
                    clear hK K))
              refine Grow.Wk.nil ?_
              intro w4 hB hF
              clear hF
              cases bq with
              | false =>
                have HF : Hid (T = false) := Lib.hid (by rw [HT3.out, HDR2.out]; rfl)
                have HEE := Lib.hid (ext_trans HEr.out hB)
                clear hB
                go_wp2_with fail
                go_ret
                exact ⟨ret_bool HF.out.symm, HEE.out⟩
              | true =>
                have HN : Hid (exactM m m' = exactM (m.drop (i + 1)) (m'.drop (i + 1))) := Lib.hid (by rw [HDR2.out, Bool.true_and])
                have HXX := Lib.hid hB
                clear hB
                go_wp2_with fail
                go_roundw
                case rel => exact ⟨i + 1, by go_num, by omega, ext_trans hEr0.out HXX.out, HN.out⟩
                case measure => simp [intOf]; omega
          · obtain rfl : i = m.length := by omega
            have HF : Hid (T = true) := Lib.hid (by
              rw [HT3.out, HDR.out, List.drop_of_length_le (Nat.le_refl _), List.drop_of_length_le (by have := H6.out; omega), exactM])
            clear HDR hi hlt
            go_wp2_with fail
            go_ret
            exact ⟨ret_bool HF.out.symm, HEr.out⟩
theorem exact_any (t u : Tree) (A A' : Nat → Prop) (c c' : Array Value) (w : World) (ht : TV w A t c) (hu : TV w A' u c') :
    Calls Tryd.prog 15 #[.agg c, .agg c'] w (fun e w' => e = .returned (.bool (exactT t u)) ∧ Ext w w') := by
  have h : ∀ N : Nat, ∀ (t u : Tree) (A A' : Nat → Prop) (c c' : Array Value) (w : World), SizeOf.sizeOf t < N → TV w A t c → TV w A' u c' →
      Calls Tryd.prog 15 #[.agg c, .agg c'] w (fun e w' => e = .returned (.bool (exactT t u)) ∧ Ext w w') := by
    intro N
    induction N with
    | zero => intro t u A A' c c' w h; omega
    | succ N ih => exact exact_step N ih
  exact h _ t u A A' c c' w (Nat.lt_succ_self _) ht hu
end Go.Proofs.YtckpndbmpigegaaDoor
end

section
/- value: what stands in a value: inside, Clone. -/
set_option linter.unusedVariables false
set_option linter.unusedSimpArgs false
set_option maxRecDepth 100000
namespace Orange
/-- the values that stand in one -/
def Tree.ins (t : Tree) : List Tree := t.list ++ t.mems.map (·.2)
end Orange
namespace Go.Proofs.YtckpndbmpigegaaDoor
open Go.RowKit Go.Mem Orange
theorem tv_rows {w : World} {A : Nat → Prop} {t : Tree} {k : Int} {b : Bool} {d : Num} {s : List UInt8} {vL vM : Value} (h : TV w A t (cellsV k b d s vL vM)) : ∃ cl cm, TL w A t.list cl ∧ RowAt w A 8 vL t.list.length cl ∧ TM w A t.mems cm ∧ RowAt w A 9 vM t.mems.length cm ∧ k = t.kind ∧ b = t.bit ∧ d.neg = t.num.neg ∧ d.digits = t.num.digits ∧ d.exp = t.num.exp ∧ s = t.str := by
  generalize hc : cellsV k b d s vL vM = c at h
  cases h with
  | mk h1 h2 h3 h4 =>
    simp only [cellsV, Array.mk.injEq, List.cons.injEq, Value.int.injEq, Value.bool.injEq, Value.string.injEq, ByteArray.mk.injEq, and_true, true_and] at hc
    obtain ⟨rfl, rfl, h5, h6, h7, h8, rfl, rfl⟩ := hc
    exact ⟨_, _, h1, h2, h3, h4, rfl, rfl, h5, h6, h7, h8⟩
mutual
theorem TV.one {w : World} {A : Nat → Prop} : ∀ {t : Tree} {c : Array Value}, TV w A t c → ∀ u ∈ c.toList, u.oneCell' = true
  | _, _, .mk h1 h2 h3 h4 => by
    obtain ⟨_, a1, c1, rfl, _⟩ := h2
    obtain ⟨_, a2, c2, rfl, _⟩ := h4
    simp [cellsV, Value.oneCell']
theorem TL.one {w : World} {A : Nat → Prop} : ∀ {l : List Tree} {cs : List Value}, TL w A l cs → ∀ u ∈ cs, u.oneCell' = true
  | _, _, .nil => by simp
  | _, _, .cons h1 h2 => by
    intro u hu
    rcases List.mem_append.1 hu with h | h
    · exact TV.one h1 u h
    · exact TL.one h2 u h
end
/-- a row as what is appended -/
theorem RowAt.src {P : Program} {w : World} {A : Nat → Prop} {z n : Nat} {v : Value} {cs : List Value} (h : RowAt w A z v n cs) {tx e' : TypeId} (hk : P.underlying tx = some (.slice e')) (hz : 0 < z) (h1 : ∀ u ∈ cs, u.oneCell' = true) : Src P z tx v n cs w := by
  obtain ⟨h0, a, cap, rfl, h2, h3, h4⟩ := h
  by_cases hn : 0 < n
  · obtain ⟨g, o, rfl, _, hlt, hc⟩ := h4 hn
    refine Src.ofSlice w hk _ _ cap _ h0 (fun j u hu => ?_) h1
    obtain ⟨hj, rfl⟩ := List.getElem?_eq_some_iff.1 hu
    rw [show (⟨g, o, none⟩ : Addr).add j = ⟨g, o + j, none⟩ by simp only [Addr.add]; split <;> simp_all]
    exact hc j hj
  · obtain rfl : n = 0 := by omega
    obtain rfl : cs = [] := List.eq_nil_of_length_eq_zero (by simpa using h0)
    cases a with
    | none => 
      have := Src.ofNil w (P := P) (size := z) hk cap
      exact this
    | some a => exact Src.ofSlice w hk a 0 cap [] (by simp) (by simp) (by simp)
set_option maxHeartbeats 1600000 in
theorem clone_any (v : Value) (n : Nat) (cs : List Value) (A : Nat → Prop) (w : World) (h : RowAt w A 8 v n cs) (h1 : ∀ u ∈ cs, u.oneCell' = true) (hn : n ≤ 1000000) :
    Calls Tryd.prog 47 #[v] w (fun e w' => ∃ v', e = .returned v' ∧ w'.ownsRow w.heap.size 29 8 v' n cs ∧ Ext w w') := by
  have hq : ∀ (w : World) (a : Option Addr) (n c : Nat), (binOp .eql 26 (.slice a n c) (.slice none 0 0)).run Tryd.prog w = .ok (.bool a.isNone) w := fun w a n c => Lib.run_eql_slice_nil w _ _ a n c 0 0 Tryd.underlying26
  obtain ⟨h0, a, cap, rfl, h2, h3, h4⟩ := id h
  cases a with
  | none =>
    have hn0 : n = 0 := by
      rcases Nat.eq_zero_or_pos n with h' | h'
      · exact h'
      · obtain ⟨g, o, e, _⟩ := h4 h'; cases e
    subst hn0
    obtain rfl : cs = [] := List.eq_nil_of_length_eq_zero (by simpa using h0)
    clear h h4 h0 h1
    go_enter Tryd.func47, Tryd.ntmps47
    go_wp2_with fail
    go_ret
    exact ⟨_, rfl, World.ownsRow_nil _ _ _ _, ext_refl _⟩
  | some a =>
    have HR := Lib.hid h
    have HO := Lib.hid h1
    clear h h4 h0 h1
    go_enter Tryd.func47, Tryd.ntmps47
    have hx : Ext w (w.alloc (.cells #[] 29)) := (ext_refl w).alloc (Nat.le_refl _) _
    have hown : (w.alloc (.cells #[] 29)).ownsRow w.heap.size 29 8 (.slice (some ⟨w.heap.size, 0, none⟩) 0 0) 0 [] :=
      ⟨rfl, .inr ⟨w.heap.size, 0, #[], rfl, Nat.le_refl _, heap_alloc_new _ _, Nat.le_refl _, by simp only [maxLen]; omega, rfl, rfl⟩⟩
    have hsrc := (HR.out.keep (A' := fun _ => True) hx.size (fun g _ hlt => ⟨trivial, hx.block g hlt⟩)).src (P := Tryd.prog) (tx := 26) (e' := 29) (by kernel_rfl) (by decide) HO.out
    go_wp2_with (first
      | (at_builtin; refine wpList_append_src _ rfl _ _ 26 26 rfl w.heap.size 29 _ _ 8 112 (by kernel_rfl) (by rfl) (by rfl) (by rfl) (by kernel_rfl) (by rfl) (by decide) _ 0 [] rfl hown _ n cs rfl hsrc (by simp only [maxLen]; omega) (by omega) hx.size ?_; intro v' w' ho' hg)
      | fail)
    go_ret
    exact ⟨_, rfl, by simpa using ho', hx.trans (Below.ofGrown hg hown hx.size)⟩
/-- a member's nine cells -/
def MAt (w : World) (q : Nat) (c : Array Value) : Prop := w.heap[q]? = some (.cells c 41 (0, 0))
theorem MAt.new (w : World) (c : Array Value) : MAt (w.alloc (.cells c 41)) w.heap.size c := heap_alloc_new _ _
theorem MAt.lt {w : World} {q : Nat} {c : Array Value} (h : MAt w q c) : q < w.heap.size := (Array.getElem?_eq_some_iff.1 h).1
theorem MAt.ext {w w' : World} {q : Nat} {c : Array Value} (h : MAt w q c) (hb : Ext w w') : MAt w' q c := by
  unfold MAt; rw [hb.block _ h.lt]; exact h
theorem MAt.cell {w : World} {q : Nat} {c : Array Value} (h : MAt w q c) (i : Nat) : w.cell? ⟨q, i, none⟩ = c[i]? := cell_of_cells h
theorem TL.appendL {w : World} {A : Nat → Prop} : ∀ {l l' : List Tree} {cs cs' : List Value}, TL w A l cs → TL w A l' cs' → TL w A (l ++ l') (cs ++ cs')
  | _, _, _, _, .nil, h => h
  | _, _, _, _, .cons h1 h2, h => by have := TL.cons h1 (TL.appendL h2 h); simpa using this
theorem ownsRow_ext {w w' : World} {base : Nat} {e : TypeId} {z : Nat} {v : Value} {n : Nat} {cs : List Value} (h : w.ownsRow base e z v n cs) (hb : Ext w w') : w'.ownsRow base e z v n cs := by
  obtain ⟨h1, h2⟩ := h
  refine ⟨h1, ?_⟩
  rcases h2 with h2 | ⟨g, cap, cur, rfl, hbg, hg, r⟩
  · exact .inl h2
  · exact .inr ⟨g, cap, cur, rfl, hbg, by rw [hb.block g (Array.getElem?_eq_some_iff.1 hg).1]; exact hg, r⟩
set_option maxHeartbeats 6400000 in
theorem inside_any (t : Tree) (c : Array Value) (A : Nat → Prop) (w : World) (h : TV w A t c) (hn : t.list.length + t.mems.length ≤ 1000000) :
    Calls Tryd.prog 24 #[.agg c] w (fun e w' => ∃ v cs, e = .returned v ∧ w'.ownsRow w.heap.size 29 8 v t.ins.length cs ∧ TL w' A t.ins cs ∧ Ext w w') := by
  obtain ⟨k, b, d, s, la, ln, lc, ma, mn, mc, rfl⟩ := h.eight
  obtain ⟨cl, cm, htl, hrl, htm, hrm, -⟩ := tv_rows h
  obtain ⟨tk, tb, tn, ts, L, M⟩ := t
  simp only [Tree.list, Tree.mems] at htl hrl htm hrm hn
  have hins : (Tree.mk tk tb tn ts L M).ins = L ++ M.map (·.2) := rfl
  rw [hins]
  have hlen : (L ++ M.map (·.2)).length = L.length + M.length := by simp
  rw [hlen]
  obtain ⟨_, a1, c1, ea, -⟩ := id hrl
  simp only [Value.slice.injEq] at ea
  obtain ⟨rfl, rfl, rfl⟩ := ea
  obtain ⟨_, a2, c2, ea, hm1, hm2, -⟩ := id hrm
  simp only [Value.slice.injEq] at ea
  obtain ⟨rfl, rfl, rfl⟩ := ea
  have hv := VAt.new w (cellsV k b d s (.slice la L.length lc) (.slice ma M.length mc))
  have hx : Ext w (w.alloc (.cells (cellsV k b d s (.slice la L.length lc) (.slice ma M.length mc)) 29)) := (ext_refl w).alloc (Nat.le_refl _) _
  simp only [cellsV] at hv hx ⊢
  clear hins hlen h
  go_enter Tryd.func24, Tryd.ntmps24
  go_upto_region 1 with fail
  generalize w.alloc (.cells #[.int .i64 k, .bool b, .bool d.neg, .string ⟨d.digits.toArray⟩, .int .i64 d.exp, .string ⟨s.toArray⟩, .slice la L.length lc, .slice ma M.length mc] 29) = w1 at *
  obtain ⟨S, hS⟩ : ∃ S, w.heap.size = S := ⟨_, rfl⟩
  have HTM := Lib.hid (htm.keep (w' := w1) (A' := fun g => A g ∧ g < S) hx.size (fun g hg hlt => ⟨⟨hg, by omega⟩, hx.block g hlt⟩))
  have HRM := Lib.hid (hrm.keep (w' := w1) (A' := fun g => A g ∧ g < S) hx.size (fun g hg hlt => ⟨⟨hg, by omega⟩, hx.block g hlt⟩))
  have HTL := Lib.hid (htl.keep (w' := w1) (A' := fun g => A g ∧ g < S) hx.size (fun g hg hlt => ⟨⟨hg, by omega⟩, hx.block g hlt⟩))
  have HRL := Lib.hid (hrl.keep (w' := w1) (A' := fun g => A g ∧ g < S) hx.size (fun g hg hlt => ⟨⟨hg, by omega⟩, hx.block g hlt⟩))
  have HE := Lib.hid hx
  rw [hS] at hv ⊢
  have HV := Lib.hid hv
  have HS := Lib.hid hS
  clear htm hrm htl hrl hx hS
  have c6 := HV.out.cell 6; have c7 := HV.out.cell 7
  simp at c6 c7
  clear hv
  go_wp2_with fail
  refine (clone_any _ L.length cl _ w1 HRL.out HTL.out.one (by omega)).mono ?_
  rintro e w2 ⟨v2, rfl, hown2, hw2⟩
  have hbase : S ≤ w1.heap.size := by rw [← HS.out]; exact HE.out.size
  have hown2' : w2.ownsRow S 29 8 v2 L.length cl := by
    obtain ⟨h1, h2⟩ := hown2
    refine ⟨h1, ?_⟩
    rcases h2 with h2 | ⟨g, cap, cur, e1, hbg, r⟩
    · exact .inl h2
    · exact .inr ⟨g, cap, cur, e1, Nat.le_trans hbase hbg, r⟩
  clear hown2 c6 c7
  replace HV := Lib.hid (HV.out.ext hw2)
  have c7 := HV.out.cell 7
  simp at c7
  go_wp2_with fail
  clear c7
  have hbel2 : Below S w1 w2 := hw2.mono hbase
  go_loopw [3, 12] (fun v iv wr => ∃ (i : Nat) (cs : List Value), iv = .int .i64 i ∧ i ≤ M.length ∧ wr.ownsRow S 29 8 v (L.length + i) cs ∧ TL wr (fun g => A g ∧ g < S) (L ++ (M.take i).map (·.2)) cs ∧ Below S w1 wr) (fun _ iv _ => 2000000 - (intOf iv).toNat)
  case atStart => exact ⟨0, cl, rfl, by omega, hown2', by simpa using HTL.out.keep (A' := fun g => A g ∧ g < S) hbel2.size (fun g hg hlt => ⟨hg, hbel2.block g hg.2⟩), hbel2⟩
  case round =>
    obtain ⟨i, cs, rfl, hi, hown, htl, hE⟩ := hrel
    rename_i vo _
    have HO := Lib.hid hown
    have HT := Lib.hid htl
    have HX := Lib.hid hE
    clear hown htl hE
    by_cases hlt : i < M.length
    · have hlti : (i : Int) < M.length := by omega
      have hi0 : (0 : Int) ≤ i := by omega
      obtain ⟨x, htx, hkx, hcx⟩ := HTM.out.at i hlt
      obtain ⟨_, a', c', e', _, _, hrow⟩ := HRM.out
      simp only [Value.slice.injEq] at e'
      obtain ⟨rfl, -, rfl⟩ := e'
      obtain ⟨g, o, rfl, hgS, hgl, hgc0⟩ := hrow (by omega)
      have hgc : ∀ j u, cm[j]? = some u → w1.cell? ⟨g, o + j, none⟩ = some u := fun j u hu => by
        obtain ⟨hj, rfl⟩ := List.getElem?_eq_some_iff.1 hu
        exact hgc0 j hj
      obtain ⟨xk, xb, xd, xs, xa1, xn1, xc1, xa2, xn2, xc2, rfl⟩ := htx.eight
      have h9 : wr.cell? ⟨g, o + i * 9, none⟩ = some (.string ⟨M[i].1.toArray⟩) ∧ ∀ j, j < 8 → wr.cell? ⟨g, o + i * 9 + (j + 1), none⟩ = (cellsV xk xb xd xs (.slice xa1 xn1 xc1) (.slice xa2 xn2 xc2))[j]? := by
        refine ⟨by rw [HX.out.cell (p := ⟨g, o + i * 9, none⟩) hgS.2]; exact hgc _ _ hkx, fun j hj => ?_⟩
        rw [Nat.add_assoc, HX.out.cell (p := ⟨g, o + (i * 9 + (j + 1)), none⟩) hgS.2]
        have h1 := hcx j hj
        rw [show i * 9 + 1 + j = i * 9 + (j + 1) by omega] at h1
        have h2 : (cellsV xk xb xd xs (.slice xa1 xn1 xc1) (.slice xa2 xn2 xc2))[j]? = some (cellsV xk xb xd xs (.slice xa1 xn1 xc1) (.slice xa2 xn2 xc2))[j] := by simp [cellsV, hj]
        rw [h2]
        exact hgc _ _ (h1.trans h2)
      obtain ⟨x0, hx8⟩ := h9
      have x1 := hx8 0 (by omega); have x2 := hx8 1 (by omega); have x3 := hx8 2 (by omega); have x4 := hx8 3 (by omega); have x5 := hx8 4 (by omega); have x6 := hx8 5 (by omega); have x7 := hx8 6 (by omega); have x8 := hx8 7 (by omega)
      simp [cellsV] at x1 x2 x3 x4 x5 x6 x7 x8
      clear hx8 hcx hkx hgc hgc0 hgl hgS hrow
      obtain ⟨ky, hky⟩ : ∃ ky, M[i].1 = ky := ⟨_, rfl⟩
      rw [hky] at x0
      have HTX := Lib.hid (htx.keep (w' := wr) (A' := fun g => A g ∧ g < S) HX.out.size (fun g hg hlt => ⟨hg, HX.out.block g hg.2⟩))
      clear htx hky
      have hm9 := MAt.new wr #[.string ⟨ky.toArray⟩, .int .i64 xk, .bool xb, .bool xd.neg, .string ⟨xd.digits.toArray⟩, .int .i64 xd.exp, .string ⟨xs.toArray⟩, .slice xa1 xn1 xc1, .slice xa2 xn2 xc2]
      have hx3 : Ext wr (wr.alloc (.cells #[.string ⟨ky.toArray⟩, .int .i64 xk, .bool xb, .bool xd.neg, .string ⟨xd.digits.toArray⟩, .int .i64 xd.exp, .string ⟨xs.toArray⟩, .slice xa1 xn1 xc1, .slice xa2 xn2 xc2] 41)) := (ext_refl wr).alloc (Nat.le_refl _) _
      obtain ⟨P, hP⟩ : ∃ P, wr.heap.size = P := ⟨_, rfl⟩
      rw [hP] at hm9
      go_upto_region 5 with fail
      clear x0 x1 x2 x3 x4 x5 x6 x7 x8 hP
      generalize wr.alloc (.cells #[.string ⟨ky.toArray⟩, .int .i64 xk, .bool xb, .bool xd.neg, .string ⟨xd.digits.toArray⟩, .int .i64 xd.exp, .string ⟨xs.toArray⟩, .slice xa1 xn1 xc1, .slice xa2 xn2 xc2] 41) = w3 at *
      have x1 := hm9.cell 1; have x2 := hm9.cell 2; have x3 := hm9.cell 3; have x4 := hm9.cell 4; have x5 := hm9.cell 5; have x6 := hm9.cell 6; have x7 := hm9.cell 7; have x8 := hm9.cell 8
      simp at x1 x2 x3 x4 x5 x6 x7 x8
      have hx4 : Ext w3 (w3.alloc (.cells #[.int .i64 xk, .bool xb, .bool xd.neg, .string ⟨xd.digits.toArray⟩, .int .i64 xd.exp, .string ⟨xs.toArray⟩, .slice xa1 xn1 xc1, .slice xa2 xn2 xc2] 29)) := (ext_refl w3).alloc (Nat.le_refl _) _
      have hown4 := ownsRow_ext HO.out (ext_trans hx3 hx4)
      have hsS : S ≤ wr.heap.size := Nat.le_trans hbase HX.out.size
      have hs4 : S ≤ (w3.alloc (.cells #[.int .i64 xk, .bool xb, .bool xd.neg, .string ⟨xd.digits.toArray⟩, .int .i64 xd.exp, .string ⟨xs.toArray⟩, .slice xa1 xn1 xc1, .slice xa2 xn2 xc2] 29)).heap.size := Nat.le_trans hsS (ext_trans hx3 hx4).size
      have hsrc := src_one (P := Tryd.prog) (tx := 26) (e' := 29) (by kernel_rfl) (heap_alloc_new w3 (.cells #[.int .i64 xk, .bool xb, .bool xd.neg, .string ⟨xd.digits.toArray⟩, .int .i64 xd.exp, .string ⟨xs.toArray⟩, .slice xa1 xn1 xc1, .slice xa2 xn2 xc2] 29)) rfl (by simp [Value.oneCell'])
      have hE4 := (ext_trans hx3 hx4).mono hsS
      go_wp2_with (first
        | (at_builtin; refine wpList_append_src _ rfl _ _ 26 26 rfl S 29 _ _ 8 112 (by kernel_rfl) (by rfl) (by rfl) (by rfl) (by kernel_rfl) (by rfl) (by decide) _ (L.length + i) cs rfl hown4 _ 1 _ rfl hsrc (by simp only [maxLen]; omega) (by omega) hs4 ?_; intro v' w' ho' hg; have hb5 := hE4.trans (Below.ofGrown hg hown4 hs4); clear x1 x2 x3 x4 x5 x6 x7 x8 hx3 hx4 hm9 hown4 hsrc hg)
        | fail)
      have e9 : IntKind.i64.wrap ((i : Int) + 1) = ((i + 1 : Nat) : Int) := by rw [IntWalk.i64_in _ (by omega)]; omega
      go_roundw
      case rel =>
        refine ⟨i + 1, _, by go_num, by omega, ho', ?_, HX.out.trans hb5⟩
        have h1 := (HT.out.keep (A' := fun g => A g ∧ g < S) hb5.size (fun g hg hlt => ⟨hg, hb5.block g hg.2⟩)).append (HTX.out.keep (A' := fun g => A g ∧ g < S) hb5.size (fun g hg hlt => ⟨hg, hb5.block g hg.2⟩))
        rw [show L ++ (M.take (i + 1)).map (·.2) = (L ++ (M.take i).map (·.2)) ++ [M[i].2] by rw [List.take_add_one, List.getElem?_eq_getElem hlt]; simp only [Option.toList_some, List.map_append, List.map_cons, List.map_nil, List.append_assoc]]
        exact h1
      case measure => simp [intOf]; omega
    · obtain rfl : i = M.length := by omega
      have hnlt : ¬ ((M.length : Int) < (M.length : Int)) := by omega
      go_wp2_with fail
      go_ret
      refine ⟨_, rfl, cs, by rw [HS.out]; exact HO.out, ?_, HE.out.trans (HX.out.mono (by rw [HS.out]; exact Nat.le_refl _))⟩
      have h1 := HT.out.keep (A' := A) (Nat.le_refl _) (fun g hg hlt => ⟨hg.1, rfl⟩)
      rwa [List.take_length] at h1
end Go.Proofs.YtckpndbmpigegaaDoor
end

section
/- value: how deep a value is. -/
set_option linter.unusedVariables false
set_option linter.unusedSimpArgs false
set_option maxRecDepth 100000
namespace Orange
mutual
def depthT : Tree → Nat
  | .mk _ _ _ _ l m => max (depthL l) (depthM m) + 1
def depthL : List Tree → Nat
  | [] => 0
  | t :: l => max (depthT t) (depthL l)
def depthM : List (List UInt8 × Tree) → Nat
  | [] => 0
  | (_, t) :: l => max (depthT t) (depthM l)
end
mutual
def countT : Tree → Nat
  | .mk _ _ _ _ l m => countL l + countM m + 1
def countL : List Tree → Nat
  | [] => 0
  | t :: l => countT t + countL l
def countM : List (List UInt8 × Tree) → Nat
  | [] => 0
  | (_, t) :: l => countT t + countM l
end
theorem depthL_append : ∀ (l l' : List Tree), depthL (l ++ l') = max (depthL l) (depthL l')
  | [], l' => by rw [List.nil_append, depthL]; omega
  | t :: l, l' => by rw [List.cons_append, depthL, depthL, depthL_append l l']; omega
theorem countL_append : ∀ (l l' : List Tree), countL (l ++ l') = countL l + countL l'
  | [], l' => by rw [List.nil_append, countL]; omega
  | t :: l, l' => by rw [List.cons_append, countL, countL, countL_append l l']; omega
theorem depthM_map : ∀ m : List (List UInt8 × Tree), depthM m = depthL (m.map (·.2))
  | [] => by rw [depthM, List.map_nil, depthL]
  | (k, t) :: m => by rw [depthM, List.map_cons, depthL, depthM_map m]
theorem countM_map : ∀ m : List (List UInt8 × Tree), countM m = countL (m.map (·.2))
  | [] => by rw [countM, List.map_nil, countL]
  | (k, t) :: m => by rw [countM, List.map_cons, countL, countM_map m]
theorem depthT_ins (t : Tree) : depthT t = depthL t.ins + 1 := by
  cases t with
  | mk k b d s l m => rw [depthT, depthM_map]; show _ = depthL (l ++ m.map (·.2)) + 1; rw [depthL_append]
theorem countT_ins (t : Tree) : countT t = countL t.ins + 1 := by
  cases t with
  | mk k b d s l m => rw [countT, countM_map]; show _ = countL (l ++ m.map (·.2)) + 1; rw [countL_append]
theorem countT_pos (t : Tree) : 1 ≤ countT t := by rw [countT_ins]; omega
theorem countL_len : ∀ l : List Tree, l.length ≤ countL l
  | [] => by simp
  | t :: l => by have := countL_len l; have := countT_pos t; rw [countL, List.length_cons]; omega
theorem countL_mem {l : List Tree} {i : Nat} (h : i < l.length) : countT l[i] ≤ countL l := by
  have := countL_append (l.take i) (l.drop i)
  rw [List.take_append_drop] at this
  rw [this, List.drop_eq_getElem_cons h, countL]
  omega
mutual
theorem depth_count : ∀ t : Tree, depthT t ≤ countT t
  | .mk k b d s l m => by rw [depthT, countT]; have := depthL_count l; have := depthM_count m; omega
theorem depthL_count : ∀ l : List Tree, depthL l ≤ countL l
  | [] => by rw [depthL, countL]; omega
  | t :: l => by rw [depthL, countL]; have := depth_count t; have := depthL_count l; omega
theorem depthM_count : ∀ l : List (List UInt8 × Tree), depthM l ≤ countM l
  | [] => by rw [depthM, countM]; omega
  | (_, t) :: l => by rw [depthM, countM]; have := depth_count t; have := depthM_count l; omega
end
theorem depthL_take (l : List Tree) (i : Nat) (h : i < l.length) : depthL (l.take (i + 1)) = max (depthL (l.take i)) (depthT l[i]) := by
  rw [List.take_add_one, List.getElem?_eq_getElem h, Option.toList_some, depthL_append, depthL, depthL]
  omega
theorem countL_take (l : List Tree) (i : Nat) (h : i < l.length) : countL (l.take (i + 1)) = countL (l.take i) + countT l[i] := by
  rw [List.take_add_one, List.getElem?_eq_getElem h, Option.toList_some, countL_append, countL, countL]
  omega
theorem countL_take_le (l : List Tree) (i : Nat) : countL (l.take i) ≤ countL l := by
  have := countL_append (l.take i) (l.drop i)
  rw [List.take_append_drop] at this
  omega
theorem ins_size {t x : Tree} (h : x ∈ t.ins) : SizeOf.sizeOf x < SizeOf.sizeOf t := by
  cases t with
  | mk k b d s l m =>
    have h : x ∈ l ++ m.map (·.2) := h
    rw [List.mem_append] at h
    simp only [Tree.mk.sizeOf_spec]
    rcases h with h | h
    · have := List.sizeOf_lt_of_mem h; omega
    · obtain ⟨p, hp, rfl⟩ := List.mem_map.1 h
      have h1 := List.sizeOf_lt_of_mem hp
      cases p
      simp only [Prod.mk.sizeOf_spec] at h1 ⊢
      omega
theorem ins_len (t : Tree) : t.ins.length = t.list.length + t.mems.length := by simp [Tree.ins]
end Orange
namespace Go.Proofs.YtckpndbmpigegaaDoor
open Go.RowKit Go.Mem Orange
/-- an element of a row of values, in any world in which its block is as it was -/
theorem row_elem {w : World} {A : Nat → Prop} {a : Option Addr} {n m cap : Nat} {l : List Tree} {cs : List Value} (hr : RowAt w A 8 (.slice a m cap) n cs) (ht : TL w A l cs) (hl : n = l.length) (i : Nat) (hi : i < l.length) :
    ∃ g o k b d s a1 n1 c1 a2 n2 c2, a = some ⟨g, o, none⟩ ∧ TV w A l[i] (cellsV k b d s (.slice a1 n1 c1) (.slice a2 n2 c2)) ∧ ∀ w' : World, (∀ g, A g → g < w.heap.size → w'.heap[g]? = w.heap[g]?) →
      w'.cell? ⟨g, o + i * 8, none⟩ = some (.int .i64 k) ∧ w'.cell? ⟨g, o + i * 8 + 1, none⟩ = some (.bool b) ∧ w'.cell? ⟨g, o + i * 8 + 2, none⟩ = some (.bool d.neg) ∧ w'.cell? ⟨g, o + i * 8 + 3, none⟩ = some (.string ⟨d.digits.toArray⟩) ∧
      w'.cell? ⟨g, o + i * 8 + 4, none⟩ = some (.int .i64 d.exp) ∧ w'.cell? ⟨g, o + i * 8 + 5, none⟩ = some (.string ⟨s.toArray⟩) ∧ w'.cell? ⟨g, o + i * 8 + 6, none⟩ = some (.slice a1 n1 c1) ∧ w'.cell? ⟨g, o + i * 8 + 7, none⟩ = some (.slice a2 n2 c2) := by
  obtain ⟨c, h1, h2⟩ := ht.at i hi
  obtain ⟨h0, a', c', e, _, _, hrow⟩ := hr
  simp only [Value.slice.injEq] at e
  obtain ⟨rfl, -, rfl⟩ := e
  obtain ⟨g, o, rfl, hA, hg, hc0⟩ := hrow (by omega)
  obtain ⟨k, b, d, s, a1, n1, c1, a2, n2, c2, rfl⟩ := h1.eight
  have key : ∀ w' : World, (∀ g, A g → g < w.heap.size → w'.heap[g]? = w.heap[g]?) → ∀ j, j < 8 → ∀ u, (cellsV k b d s (.slice a1 n1 c1) (.slice a2 n2 c2))[j]? = some u → w'.cell? ⟨g, o + (i * 8 + j), none⟩ = some u := fun w' hw j hj u hu => by
    rw [World.cell?_of_block (w := w) (a := ⟨g, o + (i * 8 + j), none⟩) (hw g hA hg)]
    obtain ⟨hj2, e2⟩ := List.getElem?_eq_some_iff.1 ((h2 j hj).trans hu)
    rw [← e2]
    exact hc0 _ hj2
  refine ⟨g, o, k, b, d, s, a1, n1, c1, a2, n2, c2, rfl, h1, fun w' hw => ?_⟩
  simp only [Nat.add_assoc]
  exact ⟨key w' hw 0 (by omega) _ rfl, key w' hw 1 (by omega) _ rfl, key w' hw 2 (by omega) _ rfl, key w' hw 3 (by omega) _ rfl, key w' hw 4 (by omega) _ rfl, key w' hw 5 (by omega) _ rfl, key w' hw 6 (by omega) _ rfl, key w' hw 7 (by omega) _ rfl⟩
theorem ownsRow_shape {w : World} {base : Nat} {e : TypeId} {z : Nat} {v : Value} {n : Nat} {cs : List Value} (h : w.ownsRow base e z v n cs) : ∃ a c, v = .slice a n c := by
  rcases h.2 with ⟨rfl, h0⟩ | ⟨g, cap, cur, rfl, _⟩
  · exact ⟨_, _, by rw [h0]⟩
  · exact ⟨_, _, rfl⟩
set_option maxHeartbeats 6400000 in
theorem depth_step (N : Nat) (ih : ∀ (t : Tree) (A : Nat → Prop) (c : Array Value) (w : World), SizeOf.sizeOf t < N → countT t ≤ 1000000 → TV w A t c →
    Calls Tryd.prog 18 #[.agg c] w (fun e w' => e = .returned (.int .i64 (depthT t : Nat)) ∧ Ext w w')) :
    ∀ (t : Tree) (A : Nat → Prop) (c : Array Value) (w : World), SizeOf.sizeOf t < N + 1 → countT t ≤ 1000000 → TV w A t c →
    Calls Tryd.prog 18 #[.agg c] w (fun e w' => e = .returned (.int .i64 (depthT t : Nat)) ∧ Ext w w') := by
  intro t A c w hN hct h
  have IH := Lib.hid ih
  clear ih
  obtain ⟨D, hD⟩ : ∃ D, depthT t = D := ⟨_, rfl⟩
  rw [hD]
  have HD0 := Lib.hid hD
  clear hD
  obtain ⟨k, b, d, s, la, ln, lc, ma, mn, mc, rfl⟩ := h.eight
  have hv := VAt.new w (cellsV k b d s (.slice la ln lc) (.slice ma mn mc))
  have hx : Ext w (w.alloc (.cells (cellsV k b d s (.slice la ln lc) (.slice ma mn mc)) 29)) := (ext_refl w).alloc (Nat.le_refl _) _
  simp only [cellsV] at hv hx ⊢
  go_enter Tryd.func18, Tryd.ntmps18
  go_upto_region 2 with fail
  generalize w.alloc (.cells #[.int .i64 k, .bool b, .bool d.neg, .string ⟨d.digits.toArray⟩, .int .i64 d.exp, .string ⟨s.toArray⟩, .slice la ln lc, .slice ma mn mc] 29) = w1 at *
  have HT := Lib.hid (h.keep (w' := w1) (A' := fun _ => True) hx.size (fun g _ hlt => ⟨trivial, hx.block g hlt⟩))
  obtain ⟨S, hS⟩ : ∃ S, w.heap.size = S := ⟨_, rfl⟩
  rw [hS] at hv ⊢
  have HE := Lib.hid hx
  have HCT := Lib.hid hct
  have hcl := countT_ins t
  have hll := countL_len t.ins
  have hil := ins_len t
  have hcb : t.list.length + t.mems.length ≤ 1000000 := by omega
  have HCB : Hid (t.ins.length ≤ 1000000) := Lib.hid (by omega)
  have c0 := hv.cell 0; have c1 := hv.cell 1; have c2 := hv.cell 2; have c3 := hv.cell 3; have c4 := hv.cell 4; have c5 := hv.cell 5; have c6 := hv.cell 6; have c7 := hv.cell 7
  simp at c0 c1 c2 c3 c4 c5 c6 c7
  clear h hx hS hv hct
  go_wp2_with fail
  refine (inside_any t _ _ w1 HT.out hcb).mono ?_
  rintro e w2 ⟨v2, cs, rfl, hown, htl, hw2⟩
  obtain ⟨a2, cc2, rfl⟩ := ownsRow_shape hown
  have HR := Lib.hid (RowAt.own hown (by decide) (A := fun _ => True) (fun _ _ _ _ => trivial))
  have HTL := Lib.hid htl
  have HL := HCB
  have HEW := Lib.hid (ext_trans HE.out hw2)
  have HN : Hid (∀ i (hi : i < t.ins.length), SizeOf.sizeOf t.ins[i] < N ∧ countT t.ins[i] ≤ 1000000) := Lib.hid (fun i hi => ⟨by have := ins_size (List.getElem_mem hi); omega, by have := countL_mem hi; have := HCT.out; omega⟩)
  have HD : Hid (D = depthL t.ins + 1 ∧ depthL t.ins ≤ 1000000) := Lib.hid ⟨by rw [← HD0.out]; exact depthT_ins t, by have := depthL_count t.ins; have := HCT.out; omega⟩
  clear hown htl hcl hll hil c0 c1 c2 c3 c4 c5 c6 c7 hN HCT HT HE hw2 hcb HD0 HCB
  generalize t.ins = l at *
  have HPOST := HD
  go_wp2_with fail
  go_loopw [3, 9] (fun nv iv wr => ∃ i : Nat, iv = .int .i64 i ∧ i ≤ l.length ∧ nv = .int .i64 (depthL (l.take i) : Nat) ∧ Ext w2 wr) (fun _ iv _ => 2000000 - (intOf iv).toNat)
  case atStart => exact ⟨0, rfl, by omega, by rw [List.take_zero, depthL]; rfl, ext_refl _⟩
  case round =>
    obtain ⟨i, rfl, hi, rfl, hE⟩ := hrel
    have HX := Lib.hid hE
    clear hE
    have hll := HL.out
    by_cases hlt : i < l.length
    · have hlti : (i : Int) < l.length := by omega
      have hi0 : (0 : Int) ≤ i := by omega
      obtain ⟨g, o, xk, xb, xd, xs, xa1, xn1, xc1, xa2, xn2, xc2, rfl, htx, hcell⟩ := row_elem HR.out HTL.out rfl i hlt
      obtain ⟨x0, x1, x2, x3, x4, x5, x6, x7⟩ := hcell wr (fun g _ hg => HX.out.block g hg)
      have HTX := Lib.hid (htx.keep (w' := wr) (A' := fun _ => True) HX.out.size (fun g _ hlt => ⟨trivial, HX.out.block g hlt⟩))
      have HNI := Lib.hid (HN.out i hlt)
      have HTK := Lib.hid (depthL_take l i hlt)
      have HDB : Hid (depthL (l.take i) ≤ 1000000 ∧ depthT l[i] ≤ 1000000) := Lib.hid (by
        have h1 := HD.out.2
        have h2 := depthL_append (l.take i) (l.drop i)
        rw [List.take_append_drop, List.drop_eq_getElem_cons hlt, depthL] at h2
        omega)
      clear htx hcell
      generalize l[i] = x at *
      have hv3 := VAt.new wr #[.int .i64 xk, .bool xb, .bool xd.neg, .string ⟨xd.digits.toArray⟩, .int .i64 xd.exp, .string ⟨xs.toArray⟩, .slice xa1 xn1 xc1, .slice xa2 xn2 xc2]
      have hx3 : Ext wr (wr.alloc (.cells #[.int .i64 xk, .bool xb, .bool xd.neg, .string ⟨xd.digits.toArray⟩, .int .i64 xd.exp, .string ⟨xs.toArray⟩, .slice xa1 xn1 xc1, .slice xa2 xn2 xc2] 29)) := (ext_refl wr).alloc (Nat.le_refl _) _
      obtain ⟨P, hP⟩ : ∃ P, wr.heap.size = P := ⟨_, rfl⟩
      rw [hP] at hv3
      go_upto_region 5 with fail
      clear x0 x1 x2 x3 x4 x5 x6 x7 hP
      generalize wr.alloc (.cells #[.int .i64 xk, .bool xb, .bool xd.neg, .string ⟨xd.digits.toArray⟩, .int .i64 xd.exp, .string ⟨xs.toArray⟩, .slice xa1 xn1 xc1, .slice xa2 xn2 xc2] 29) = w3 at *
      have c0 := hv3.cell 0; have c1 := hv3.cell 1; have c2 := hv3.cell 2; have c3 := hv3.cell 3; have c4 := hv3.cell 4; have c5 := hv3.cell 5; have c6 := hv3.cell 6; have c7 := hv3.cell 7
      simp at c0 c1 c2 c3 c4 c5 c6 c7
      clear hv3
      have HX3 := Lib.hid hx3
      clear hx3
      have hdb1 := HDB.out.1
      have hdb2 := HDB.out.2
      have e9 : IntKind.i64.wrap ((i : Int) + 1) = ((i + 1 : Nat) : Int) := by rw [IntWalk.i64_in _ (by omega)]; omega
      go_wp2_with fail
      refine (IH.out x _ _ w3 HNI.out.1 HNI.out.2 (HTX.out.keep (A' := fun _ => True) HX3.out.size (fun g _ hlt => ⟨trivial, HX3.out.block g hlt⟩))).mono ?_
      rintro e w4 ⟨rfl, hw4⟩
      have HE4 := Lib.hid (ext_trans HX.out (ext_trans HX3.out hw4))
      clear hw4 c0 c1 c2 c3 c4 c5 c6 c7
      go_wp2_with fail
      go_roundw
      case rel => exact ⟨i + 1, by go_num, by omega, by rw [HTK.out]; first | rfl | (congr 1; omega), HE4.out⟩
      case measure => simp [intOf]; omega
    · obtain rfl : i = l.length := by omega
      have hnlt : ¬ ((l.length : Int) < (l.length : Int)) := by omega
      have hdb := HD.out.2
      rw [List.take_length]
      have e9 : IntKind.i64.wrap ((depthL l : Int) + 1) = ((depthL l + 1 : Nat) : Int) := by rw [IntWalk.i64_in _ (by omega)]; omega
      go_wp2_with fail
      go_ret
      exact ⟨ret_int (by rw [HPOST.out.1]; omega), ext_trans HEW.out HX.out⟩
theorem depth_any (t : Tree) (A : Nat → Prop) (c : Array Value) (w : World) (hct : countT t ≤ 1000000) (h : TV w A t c) :
    Calls Tryd.prog 18 #[.agg c] w (fun e w' => e = .returned (.int .i64 (depthT t : Nat)) ∧ Ext w w') := by
  have key : ∀ N : Nat, ∀ (t : Tree) (A : Nat → Prop) (c : Array Value) (w : World), SizeOf.sizeOf t < N → countT t ≤ 1000000 → TV w A t c →
      Calls Tryd.prog 18 #[.agg c] w (fun e w' => e = .returned (.int .i64 (depthT t : Nat)) ∧ Ext w w') := by
    intro N
    induction N with
    | zero => intro t A c w h; omega
    | succ N ih => exact depth_step N ih
  exact key _ t A c w (Nat.lt_succ_self _) hct h
end Go.Proofs.YtckpndbmpigegaaDoor
end

section
/- value: which values may be: the parts (fields, twice). -/
set_option linter.unusedVariables false
set_option linter.unusedSimpArgs false
set_option maxRecDepth 100000
namespace Orange
/-- the place of the first one for which something is so -/
def fIdx {α : Type} (p : α → Bool) (l : List α) : Int := match l.findIdx? p with | some i => i | none => -1
theorem fIdx_hit {α : Type} {p : α → Bool} {l : List α} {i : Nat} (hi : i < l.length) (h1 : ∀ j (hj : j < i), p (l[j]'(by omega)) = false) (h2 : p l[i] = true) : fIdx p l = i := by
  unfold fIdx
  have : l.findIdx? p = some i := by
    rw [List.findIdx?_eq_some_iff_getElem]
    exact ⟨hi, h2, fun j hj => by simpa using h1 j hj⟩
  rw [this]
theorem fIdx_none {α : Type} {p : α → Bool} {l : List α} (h : ∀ j (hj : j < l.length), p l[j] = false) : fIdx p l = -1 := by
  unfold fIdx
  have : l.findIdx? p = none := by
    rw [List.findIdx?_eq_none_iff]
    intro x hx
    obtain ⟨j, hj, rfl⟩ := List.mem_iff_getElem.1 hx
    exact h j hj
  rw [this]
theorem fIdx_any {α : Type} (p : α → Bool) (l : List α) : decide (fIdx p l ≥ 0) = l.any p := by
  unfold fIdx
  cases h : l.findIdx? p with
  | none =>
    rw [List.findIdx?_eq_none_iff] at h
    have : l.any p = false := by rw [List.any_eq_false]; intro x hx; simp [h x hx]
    rw [this]; decide
  | some i =>
    rw [List.findIdx?_eq_some_iff_getElem] at h
    obtain ⟨hi, h2, _⟩ := h
    have : l.any p = true := List.any_eq_true.2 ⟨_, List.getElem_mem hi, h2⟩
    rw [this]; simp
mutual
/-- how much a value holds -/
def weightT : Tree → Nat
  | .mk _ _ d s l m => 1 + s.length + d.digits.length + weightL l + weightM m
def weightL : List Tree → Nat
  | [] => 0
  | t :: l => weightT t + weightL l
def weightM : List (List UInt8 × Tree) → Nat
  | [] => 0
  | (k, t) :: l => k.length + weightT t + weightM l
end
mutual
theorem count_weight : ∀ t : Tree, countT t ≤ weightT t
  | .mk k b d s l m => by rw [countT, weightT]; have := countL_weight l; have := countM_weight m; omega
theorem countL_weight : ∀ l : List Tree, countL l ≤ weightL l
  | [] => by rw [countL, weightL]; omega
  | t :: l => by rw [countL, weightL]; have := count_weight t; have := countL_weight l; omega
theorem countM_weight : ∀ l : List (List UInt8 × Tree), countM l ≤ weightM l
  | [] => by rw [countM, weightM]; omega
  | (_, t) :: l => by rw [countM, weightM]; have := count_weight t; have := countM_weight l; omega
end
theorem weightM_mem {l : List (List UInt8 × Tree)} {i : Nat} (h : i < l.length) : l[i].1.length ≤ weightM l ∧ weightT l[i].2 ≤ weightM l := by
  have : ∀ (l : List (List UInt8 × Tree)) (p : List UInt8 × Tree), p ∈ l → p.1.length ≤ weightM l ∧ weightT p.2 ≤ weightM l := by
    intro l
    induction l with
    | nil => intro p hp; cases hp
    | cons a l ih =>
      intro p hp
      obtain ⟨k, t⟩ := a
      rw [weightM]
      rcases List.mem_cons.1 hp with rfl | hp
      · exact ⟨by simp; omega, by simp; omega⟩
      · have := ih p hp; omega
  exact this l _ (List.getElem_mem h)
theorem weightL_mem {l : List Tree} {i : Nat} (h : i < l.length) : weightT l[i] ≤ weightL l := by
  have : ∀ (l : List Tree) (p : Tree), p ∈ l → weightT p ≤ weightL l := by
    intro l
    induction l with
    | nil => intro p hp; cases hp
    | cons a l ih =>
      intro p hp
      rw [weightL]
      rcases List.mem_cons.1 hp with rfl | hp
      · omega
      · have := ih p hp; omega
  exact this l _ (List.getElem_mem h)
theorem weight_ins {t : Tree} {i : Nat} (h : i < t.ins.length) : weightT t.ins[i] ≤ weightT t := by
  cases t with
  | mk k b d s l m =>
    have hm : (Tree.mk k b d s l m).ins[i] ∈ l ++ m.map (·.2) := List.getElem_mem h
    generalize (Tree.mk k b d s l m).ins[i] = x at hm
    rw [weightT]
    rcases List.mem_append.1 hm with hm | hm
    · obtain ⟨j, hj, rfl⟩ := List.mem_iff_getElem.1 hm
      have := weightL_mem hj; omega
    · obtain ⟨p, hp, rfl⟩ := List.mem_map.1 hm
      obtain ⟨j, hj, rfl⟩ := List.mem_iff_getElem.1 hp
      have := weightM_mem hj; omega
theorem countM_len (l : List (List UInt8 × Tree)) : l.length ≤ countM l := by
  rw [countM_map]; have := countL_len (l.map (·.2)); simpa using this
end Orange
namespace Go.Proofs.YtckpndbmpigegaaDoor
open Go.RowKit Go.Mem Orange
/-- an element of a row of members, in any world in which its block is as it was -/
theorem mem_elem {w : World} {A : Nat → Prop} {a : Option Addr} {n m cap : Nat} {l : List (List UInt8 × Tree)} {cs : List Value} (hr : RowAt w A 9 (.slice a m cap) n cs) (ht : TM w A l cs) (hl : n = l.length) (i : Nat) (hi : i < l.length) :
    ∃ g o k b d s a1 n1 c1 a2 n2 c2, a = some ⟨g, o, none⟩ ∧ TV w A l[i].2 (cellsV k b d s (.slice a1 n1 c1) (.slice a2 n2 c2)) ∧ ∀ w' : World, (∀ g, A g → g < w.heap.size → w'.heap[g]? = w.heap[g]?) →
      w'.cell? ⟨g, o + i * 9, none⟩ = some (.string ⟨l[i].1.toArray⟩) ∧ w'.cell? ⟨g, o + i * 9 + 1, none⟩ = some (.int .i64 k) ∧ w'.cell? ⟨g, o + i * 9 + 2, none⟩ = some (.bool b) ∧ w'.cell? ⟨g, o + i * 9 + 3, none⟩ = some (.bool d.neg) ∧ w'.cell? ⟨g, o + i * 9 + 4, none⟩ = some (.string ⟨d.digits.toArray⟩) ∧
      w'.cell? ⟨g, o + i * 9 + 5, none⟩ = some (.int .i64 d.exp) ∧ w'.cell? ⟨g, o + i * 9 + 6, none⟩ = some (.string ⟨s.toArray⟩) ∧ w'.cell? ⟨g, o + i * 9 + 7, none⟩ = some (.slice a1 n1 c1) ∧ w'.cell? ⟨g, o + i * 9 + 8, none⟩ = some (.slice a2 n2 c2) := by
  obtain ⟨c, h1, hk, h2⟩ := ht.at i hi
  obtain ⟨h0, a', c', e, _, _, hrow⟩ := hr
  simp only [Value.slice.injEq] at e
  obtain ⟨rfl, -, rfl⟩ := e
  obtain ⟨g, o, rfl, hA, hg, hc0⟩ := hrow (by omega)
  have hc : ∀ j u, cs[j]? = some u → w.cell? ⟨g, o + j, none⟩ = some u := fun j u hu => by
    obtain ⟨hj, rfl⟩ := List.getElem?_eq_some_iff.1 hu
    exact hc0 j hj
  obtain ⟨k, b, d, s, a1, n1, c1, a2, n2, c2, rfl⟩ := h1.eight
  have key : ∀ w' : World, (∀ g, A g → g < w.heap.size → w'.heap[g]? = w.heap[g]?) → ∀ j, j < 8 → ∀ u, (cellsV k b d s (.slice a1 n1 c1) (.slice a2 n2 c2))[j]? = some u → w'.cell? ⟨g, o + (i * 9 + (1 + j)), none⟩ = some u := fun w' hw j hj u hu => by
    rw [World.cell?_of_block (w := w) (a := ⟨g, o + (i * 9 + (1 + j)), none⟩) (hw g hA hg), show i * 9 + (1 + j) = i * 9 + 1 + j by omega]
    exact hc _ _ ((h2 j hj).trans hu)
  refine ⟨g, o, k, b, d, s, a1, n1, c1, a2, n2, c2, rfl, h1, fun w' hw => ?_⟩
  simp only [Nat.add_assoc]
  exact ⟨by rw [World.cell?_of_block (w := w) (a := ⟨g, o + i * 9, none⟩) (hw g hA hg)]; exact hc _ _ hk, key w' hw 0 (by omega) _ rfl, key w' hw 1 (by omega) _ rfl, key w' hw 2 (by omega) _ rfl, key w' hw 3 (by omega) _ rfl, key w' hw 4 (by omega) _ rfl, key w' hw 5 (by omega) _ rfl, key w' hw 6 (by omega) _ rfl, key w' hw 7 (by omega) _ rfl⟩
set_option maxHeartbeats 1600000 in
theorem keybad_any (k : List UInt8) (x1 x2 x3 x4 x5 x6 x7 x8 : Value) (w : World) (hk : k.length ≤ 1000000) :
    Calls Tryd.prog 70 #[.agg #[.string ⟨k.toArray⟩, x1, x2, x3, x4, x5, x6, x7, x8]] w (fun e w' => e = .returned (.bool (decide (0 ≤ check k))) ∧ Ext w w') := by
  have hm := MAt.new w #[.string ⟨k.toArray⟩, x1, x2, x3, x4, x5, x6, x7, x8]
  have hx : Ext w (w.alloc (.cells #[.string ⟨k.toArray⟩, x1, x2, x3, x4, x5, x6, x7, x8] 41)) := (ext_refl w).alloc (Nat.le_refl _) _
  obtain ⟨K, hK⟩ : ∃ K, check k = K := ⟨_, rfl⟩
  rw [hK]
  have HK := Lib.hid hK
  clear hK
  go_enter Tryd.func70, Tryd.ntmps70
  go_upto_region 1 with fail
  generalize w.alloc (.cells #[.string ⟨k.toArray⟩, x1, x2, x3, x4, x5, x6, x7, x8] 41) = w1 at *
  have x0 := hm.cell 0
  simp at x0
  have hs : (ByteArray.mk k.toArray).size ≤ 140737488355328 := by show k.toArray.size ≤ _; simp; omega
  have hsz : (ByteArray.mk k.toArray).size = k.length := by show k.toArray.size = _; simp
  obtain ⟨S, hS⟩ : ∃ S, w.heap.size = S := ⟨_, rfl⟩
  rw [hS] at x0 ⊢
  clear hm hS
  have HSZ := Lib.hid hsz
  clear hsz
  go_wp2_with (first
    | (refine wpList_bytes_of_string w1 rfl 9 22 5 _ rfl ⟨k.toArray⟩ rfl Tryd.underlying9 Tryd.underlying22 Tryd.underlying5 hs ?_; intro capA wA hEA hcapA hcmA hszA hatA; rw [HSZ.out] at hcapA)
    | fail)
  refine (check_any _ k _ (Bytes.mk hatA (by first | rfl | exact HSZ.out) (by simpa using hcapA) hcmA (by omega))).mono ?_
  rintro e w3 ⟨rfl, hw3⟩
  rw [HK.out]
  have HE := Lib.hid (ext_trans hx (ext_trans hEA hw3))
  clear hx hEA hw3 hatA x0
  go_wp2_with fail
  go_ret
  exact ⟨ret_bool (by first | rfl | (congr 1; done) | simp), HE.out⟩
def badKey (p : List UInt8 × Tree) : Bool := decide (0 ≤ check p.1)
set_option maxHeartbeats 1600000 in
theorem index_bad (v : Value) (m : List (List UInt8 × Tree)) (cs : List Value) (A : Nat → Prop) (w : World) (hr : RowAt w A 9 v m.length cs) (ht : TM w A m cs) (hm : m.length ≤ 1000000) (hk : ∀ p ∈ m, p.1.length ≤ 1000000) :
    Calls Tryd.prog 92 #[v, .func (.func 70) #[] #[]] w (fun e w' => e = .returned (.int .i64 (fIdx badKey m)) ∧ Ext w w') := by
  obtain ⟨_, a, cap, rfl, hcap, hcm, -⟩ := id hr
  have HR := Lib.hid hr
  have HT := Lib.hid ht
  have HK := Lib.hid hk
  clear hr ht hk
  obtain ⟨R, hR⟩ : ∃ R, fIdx badKey m = R := ⟨_, rfl⟩
  rw [hR]
  have HRR := Lib.hid hR
  clear hR
  go_enter Tryd.func92, Tryd.ntmps92
  go_wp2_with fail
  go_loopw [8] (fun iv wr => ∃ i : Nat, iv = .int .i64 i ∧ i ≤ m.length ∧ (∀ j (hj : j < m.length), j < i → badKey m[j] = false) ∧ Ext w wr) (fun iv _ => 2000000 - (intOf iv).toNat)
  case atStart => exact ⟨0, rfl, by omega, fun j _ h => by omega, ext_refl _⟩
  case round =>
    obtain ⟨i, rfl, hi, hall, hE⟩ := hrel
    have HA := Lib.hid hall
    have HX := Lib.hid hE
    clear hall hE
    by_cases hlt : i < m.length
    · have hlti : (i : Int) < m.length := by omega
      have hi0 : (0 : Int) ≤ i := by omega
      obtain ⟨g, o, xk, xb, xd, xs, xa1, xn1, xc1, xa2, xn2, xc2, rfl, htx, hcell⟩ := mem_elem HR.out HT.out rfl i hlt
      obtain ⟨x0, x1, x2, x3, x4, x5, x6, x7, x8⟩ := hcell wr (fun g _ hg => HX.out.block g hg)
      have HKI := Lib.hid (HK.out m[i] (List.getElem_mem hlt))
      have HHIT : Hid (badKey m[i] = true → R = i) := Lib.hid (fun h => by rw [← HRR.out]; exact fIdx_hit hlt (fun j hj => HA.out j (by omega) hj) h)
      have HMISS : Hid (badKey m[i] = false → ∀ j (hj : j < m.length), j < i + 1 → badKey m[j] = false) := Lib.hid (fun h j hj hji => by
        by_cases e : j = i
        · subst e; exact h
        · exact HA.out j hj (by omega))
      obtain ⟨B, hB⟩ : ∃ B, badKey m[i] = B := ⟨_, rfl⟩
      rw [hB] at HHIT HMISS
      have HB := Lib.hid hB
      obtain ⟨ky, hky⟩ : ∃ ky, m[i].1 = ky := ⟨_, rfl⟩
      rw [hky] at x0 HKI
      have HKY := Lib.hid hky
      clear htx hcell hB hky
      have e9 : IntKind.i64.wrap ((i : Int) + 1) = ((i + 1 : Nat) : Int) := by rw [IntWalk.i64_in _ (by omega)]; omega
      go_wp2_with fail
      refine (keybad_any ky _ _ _ _ _ _ _ _ wr HKI.out).mono ?_
      rintro e w4 ⟨rfl, hw4⟩
      rw [show decide (0 ≤ check ky) = B from by rw [← HB.out, ← HKY.out]; rfl]
      have HE4 := Lib.hid (ext_trans HX.out hw4)
      clear hw4 x0 x1 x2 x3 x4 x5 x6 x7 x8
      cases B with
      | true =>
        go_wp2_with fail
        go_ret
        exact ⟨ret_int (HHIT.out (by first | rfl | trivial)).symm, HE4.out⟩
      | false =>
        go_wp2_with fail
        go_roundw
        case rel => exact ⟨i + 1, by go_num, by omega, HMISS.out (by first | rfl | trivial), HE4.out⟩
        case measure => simp [intOf]; omega
    · obtain rfl : i = m.length := by omega
      have hnlt : ¬ ((m.length : Int) < (m.length : Int)) := by omega
      have HF : Hid (R = -1) := Lib.hid (by rw [← HRR.out]; exact fIdx_none (fun j hj => HA.out j hj hj))
      go_wp2_with fail
      go_ret
      exact ⟨ret_int HF.out.symm, HX.out⟩
set_option maxHeartbeats 1600000 in
theorem contains_bad (v : Value) (m : List (List UInt8 × Tree)) (cs : List Value) (A : Nat → Prop) (w : World) (hr : RowAt w A 9 v m.length cs) (ht : TM w A m cs) (hm : m.length ≤ 1000000) (hk : ∀ p ∈ m, p.1.length ≤ 1000000) :
    Calls Tryd.prog 69 #[v, .func (.func 70) #[] #[]] w (fun e w' => e = .returned (.bool (m.any badKey)) ∧ Ext w w') := by
  have hany := fIdx_any badKey m
  have HC := Lib.hid (index_bad v m cs A w hr ht hm hk)
  obtain ⟨_, a, cap, rfl, hcap, hcm, -⟩ := id hr
  obtain ⟨R, hR⟩ : ∃ R, fIdx badKey m = R := ⟨_, rfl⟩
  obtain ⟨B, hB⟩ : ∃ B, m.any badKey = B := ⟨_, rfl⟩
  have hc := HC.out
  rw [hR] at hany hc
  rw [hB] at hany ⊢
  replace HC := Lib.hid hc
  have HANY := Lib.hid hany
  clear hr ht hk hc hR hB hany
  go_enter Tryd.func69, Tryd.ntmps69
  go_wp2_with fail
  refine (HC.out).mono ?_
  rintro e w2 ⟨rfl, hw2⟩
  go_wp2_with fail
  go_ret
  exact ⟨ret_bool (by rw [← HANY.out]), hw2⟩
/-- have two one key? -/
def twiceK : List (List UInt8) → Bool
  | [] => false
  | k :: l => l.contains k || twiceK l
def twiceP : List (List UInt8) → List (List UInt8) → Bool
  | _, [] => false
  | met, k :: l => met.contains k || twiceP (k :: met) l
set_option maxHeartbeats 6400000 in
theorem twice_any (v : Value) (m : List (List UInt8 × Tree)) (cs : List Value) (A : Nat → Prop) (w : World) (hr : RowAt w A 9 v m.length cs) (ht : TM w A m cs) (hm : m.length ≤ 1000000) (hk : ∀ p ∈ m, p.1.length ≤ 1000000) :
    Calls Tryd.prog 49 #[v] w (fun e w' => e = .returned (.bool (twiceP [] (m.map (·.1)))) ∧ Ext w w') := by
  obtain ⟨_, a, cap, rfl, hcap, hcm, -⟩ := id hr
  have hmm := @run_makeMap Tryd.prog
  have hx : Ext w (w.alloc (.map #[] 0)) := (ext_refl w).alloc (Nat.le_refl _) _
  obtain ⟨S, hS⟩ : ∃ S, w.heap.size = S := ⟨_, rfl⟩
  have HS := Lib.hid hS
  have HR := Lib.hid (hr.keep (w' := w.alloc (.map #[] 0)) (A' := fun g => g < S) hx.size (fun g _ hlt => ⟨by omega, hx.block g hlt⟩))
  have HT := Lib.hid (ht.keep (w' := w.alloc (.map #[] 0)) (A' := fun g => g < S) hx.size (fun g _ hlt => ⟨by omega, hx.block g hlt⟩))
  have HK := Lib.hid hk
  clear hr ht hk hS
  obtain ⟨R, hR⟩ : ∃ R, twiceP [] (m.map (·.1)) = R := ⟨_, rfl⟩
  rw [hR]
  have HRR := Lib.hid hR
  clear hR
  have hs0 := SetAt.new w
  rw [HS.out] at hs0
  go_enter Tryd.func49, Tryd.ntmps49
  go_upto_region 2 with fail
  rw [HS.out]
  generalize w.alloc (.map #[] 0) = w1 at *
  have HSA := Lib.hid hs0
  have HE := Lib.hid hx
  clear hs0 hx hmm
  go_wp2_with fail
  go_loopw [9] (fun iv wr => ∃ (i : Nat) (ks : List (List UInt8)), iv = .int .i64 i ∧ i ≤ m.length ∧ ks.length ≤ i ∧ SetAt wr S ks ∧ twiceP ks ((m.drop i).map (·.1)) = R ∧ Below S w1 wr) (fun iv _ => 2000000 - (intOf iv).toNat)
  case atStart => exact ⟨0, [], rfl, by omega, by simp, HSA.out, by rw [List.drop_zero]; exact HRR.out, Below.refl _ _⟩
  case round =>
    obtain ⟨i, ks, rfl, hi, hkl, hset, htw, hE⟩ := hrel
    have HX := Lib.hid hE
    have HSE := Lib.hid hset
    have HTW := Lib.hid htw
    clear hE hset htw
    by_cases hlt : i < m.length
    · have hlti : (i : Int) < m.length := by omega
      have hi0 : (0 : Int) ≤ i := by omega
      obtain ⟨g, o, xk, xb, xd, xs, xa1, xn1, xc1, xa2, xn2, xc2, rfl, htx, hcell⟩ := mem_elem HR.out HT.out rfl i hlt
      obtain ⟨x0, x1, x2, x3, x4, x5, x6, x7, x8⟩ := hcell wr (fun g hg _ => HX.out.block g hg)
      have hki := HK.out m[i] (List.getElem_mem hlt)
      have htw := HTW.out
      rw [List.drop_eq_getElem_cons hlt, List.map_cons, twiceP] at htw
      obtain ⟨ky, hky⟩ : ∃ ky, m[i].1 = ky := ⟨_, rfl⟩
      rw [hky] at x0 hki htw
      replace HTW := Lib.hid htw
      clear htx hcell hky htw
      have hm9 := MAt.new wr #[.string ⟨ky.toArray⟩, .int .i64 xk, .bool xb, .bool xd.neg, .string ⟨xd.digits.toArray⟩, .int .i64 xd.exp, .string ⟨xs.toArray⟩, .slice xa1 xn1 xc1, .slice xa2 xn2 xc2]
      have hx3 : Ext wr (wr.alloc (.cells #[.string ⟨ky.toArray⟩, .int .i64 xk, .bool xb, .bool xd.neg, .string ⟨xd.digits.toArray⟩, .int .i64 xd.exp, .string ⟨xs.toArray⟩, .slice xa1 xn1 xc1, .slice xa2 xn2 xc2] 41)) := (ext_refl wr).alloc (Nat.le_refl _) _
      obtain ⟨P, hP⟩ : ∃ P, wr.heap.size = P := ⟨_, rfl⟩
      have hSP : S < P := by rw [← hP]; exact HSE.out.lt
      rw [hP] at hm9
      go_upto_region 5 with fail
      clear x0 x1 x2 x3 x4 x5 x6 x7 x8 hP
      generalize wr.alloc (.cells #[.string ⟨ky.toArray⟩, .int .i64 xk, .bool xb, .bool xd.neg, .string ⟨xd.digits.toArray⟩, .int .i64 xd.exp, .string ⟨xs.toArray⟩, .slice xa1 xn1 xc1, .slice xa2 xn2 xc2] 41) = w3 at *
      have hs3 := HSE.out.same (w' := w3) (hx3.block _ HSE.out.lt)
      have x0 := hm9.cell 0
      simp at x0
      have hkm : ky.length ≤ maxLen := by simp only [maxLen]; omega
      have hlk := hs3.look ky hkm
      have hb3 : Below S w1 w3 := HX.out.trans (hx3.mono (by have := HSE.out.lt; omega))
      by_cases hc : ks.contains ky = true
      · rw [hc] at hlk
        have HF : Hid (R = true) := Lib.hid (by rw [← HTW.out, hc]; rfl)
        have HB3 := Lib.hid hb3
        clear hb3 hx3 hm9 hs3
        go_wp2_with fail
        go_ret
        exact ⟨ret_bool HF.out.symm, HE.out.trans (HB3.out.mono (by rw [HS.out]; exact Nat.le_refl _))⟩
      · have hcf : ks.contains ky = false := by simpa using hc
        rw [hcf] at hlk
        obtain ⟨w4, hup, hs4, hg4⟩ := hs3.put ky hkm (by simp only [maxLen]; omega)
        have HF : Hid (twiceP (ky :: ks) ((m.drop (i + 1)).map (·.1)) = R) := Lib.hid (by rw [← HTW.out, hcf, Bool.false_or])
        have hb4 : Below S w3 w4 := ⟨hg4.1, hg4.2, hg4.3, hg4.4, fun k hk => hg4.5 k (Nat.lt_of_lt_of_le hk (by have := hs3.lt; omega)) (by simp; omega)⟩
        have HB4 := Lib.hid (hb3.trans hb4)
        have HS4 := Lib.hid hs4
        have e9 : IntKind.i64.wrap ((i : Int) + 1) = ((i + 1 : Nat) : Int) := by rw [IntWalk.i64_in _ (by omega)]; omega
        clear hc hb4 hb3 hx3 hm9 hs3 hs4 hg4
        go_wp2_with fail
        go_roundw
        case rel => exact ⟨i + 1, ky :: ks, by go_num, by omega, by simp; omega, HS4.out, HF.out, HB4.out⟩
        case measure => simp [intOf]; omega
    · obtain rfl : i = m.length := by omega
      have hnlt : ¬ ((m.length : Int) < (m.length : Int)) := by omega
      have HF : Hid (R = false) := Lib.hid (by rw [← HTW.out, List.drop_length]; rfl)
      go_wp2_with fail
      go_ret
      exact ⟨ret_bool HF.out.symm, HE.out.trans (HX.out.mono (by rw [HS.out]; exact Nat.le_refl _))⟩
/-- has a value its own kind's fields alone, and may they be? -/
def fieldsT (t : Tree) : Bool :=
  match t with
  | .mk k b d s l m =>
    (if k = 0 then true else if k = 1 then true else if k = 2 then sane d else if k = 3 then decide (check s < 0) else if k = 4 then true else if k = 5 then !(m.any badKey) else false) &&
    (decide (k = 1) || !b) && (decide (k = 2) || decide (d = Num.zero)) && (decide (k = 3) || s.isEmpty) && ((decide (k = 4) || l.isEmpty) && (decide (k = 5) || m.isEmpty))
theorem eql_num (a b : Num) (w : World) : (binOp .eql 25 (.agg #[.bool a.neg, .string ⟨a.digits.toArray⟩, .int .i64 a.exp]) (.agg #[.bool b.neg, .string ⟨b.digits.toArray⟩, .int .i64 b.exp])).run Tryd.prog w = .ok (.bool (decide (a = b))) w := by
  obtain ⟨a3, a4, a5⟩ := a
  obtain ⟨b3, b4, b5⟩ := b
  simp only [Num.mk.injEq]
  by_cases h3 : a3 = b3
  · by_cases h4 : a4 = b4
    · by_cases h5 : a5 = b5
      · subst h3; subst h4; subst h5
        go_simp
      · have q5 : (a5 == b5) = false := by simpa using h5
        subst h3; subst h4
        go_simp
    · have q4 : (a4 == b4) = false := by simpa using h4
      subst h3
      go_simp
  · have q3 : (a3 == b3) = false := by simpa using h3
    go_simp
theorem VAt.set1 {w : World} {q : Nat} {c : Array Value} (h : VAt w q c) (i : Nat) (u : Value) : VAt (w.setCell ⟨q, i, none⟩ u) q (c.setIfInBounds i u) := setCell_heap_self h
theorem VAt.oth {w : World} {q p i : Nat} {u : Value} {c : Array Value} (h : VAt w q c) (hq : q ≠ p) : VAt (w.setCell ⟨p, i, none⟩ u) q c := by
  unfold VAt; rw [Below.heap_setCell _ _ _ _ hq]; exact h
theorem two_zero {α β : Type} [DecidableEq α] [DecidableEq β] (L : List α) (M : List β) : (((L.length : Int) + (M.length : Int)) == 0) = (L.isEmpty && M.isEmpty) := by
  cases L <;> cases M <;> simp <;> omega
set_option maxHeartbeats 6400000 in
theorem fields_any (t : Tree) (c : Array Value) (A : Nat → Prop) (w : World) (h : TV w A t c) (hw : weightT t ≤ 1000000) :
    Calls Tryd.prog 48 #[.agg c] w (fun e w' => e = .returned (.bool (fieldsT t)) ∧ Ext w w') := by
  obtain ⟨k, b, d, s, la, ln, lc, ma, mn, mc, rfl⟩ := h.eight
  obtain ⟨cl, cm, -, hrl, htm, hrm, hk, hb, hd1, hd2, hd3, hs⟩ := tv_rows h
  obtain ⟨tk, tb, tn, ts, L, M⟩ := t
  obtain ⟨tn1, tn2, tn3⟩ := tn
  obtain ⟨dn1, dn2, dn3⟩ := d
  simp only [Tree.kind, Tree.bit, Tree.num, Tree.str, Tree.list, Tree.mems] at hk hb hd1 hd2 hd3 hs hrl htm hrm
  subst hk hb hd1 hd2 hd3 hs
  obtain ⟨_, a1, c1, ea, -⟩ := id hrl
  simp only [Value.slice.injEq] at ea
  obtain ⟨rfl, rfl, rfl⟩ := ea
  obtain ⟨_, a2, c2, ea, -⟩ := id hrm
  simp only [Value.slice.injEq] at ea
  obtain ⟨rfl, rfl, rfl⟩ := ea
  rw [weightT] at hw
  have hcm := countM_len M
  have hcw := countM_weight M
  have hlw := countL_weight L
  have hll := countL_len L
  have hMl : M.length ≤ 1000000 := by omega
  have hLl : L.length ≤ 1000000 := by omega
  have hsl : s.length ≤ 1000000 := by omega
  have hdl : dn2.length ≤ 1000000 := by simp at hw; omega
  have HKS : Hid (∀ p ∈ M, p.1.length ≤ 1000000) := Lib.hid (fun p hp => by obtain ⟨j, hj, rfl⟩ := List.mem_iff_getElem.1 hp; have := weightM_mem hj; omega)
  clear hw hcm hcw hlw hll h
  obtain ⟨R, hR⟩ : ∃ R, fieldsT (.mk k b ⟨dn1, dn2, dn3⟩ s L M) = R := ⟨_, rfl⟩
  rw [hR]
  rw [fieldsT] at hR
  have HRR := Lib.hid hR
  clear hR
  have hq := fun (w : World) => eql_num ⟨dn1, dn2, dn3⟩ Num.zero w
  obtain ⟨Z, hZ⟩ : ∃ Z, decide ((⟨dn1, dn2, dn3⟩ : Num) = Num.zero) = Z := ⟨_, rfl⟩
  have hrr := HRR.out
  rw [hZ] at hrr
  simp only [hZ] at hq
  replace HRR := Lib.hid hrr
  clear hrr hZ
  simp only [Num.zero] at hq
  have hv := VAt.new w (cellsV k b ⟨dn1, dn2, dn3⟩ s (.slice la L.length lc) (.slice ma M.length mc))
  have hx : Ext w (w.alloc (.cells (cellsV k b ⟨dn1, dn2, dn3⟩ s (.slice la L.length lc) (.slice ma M.length mc)) 29)) := (ext_refl w).alloc (Nat.le_refl _) _
  simp only [cellsV] at hv hx ⊢
  go_enter Tryd.func48, Tryd.ntmps48
  go_upto_region 1 with fail
  obtain ⟨S, hS⟩ : ∃ S, w.heap.size = S := ⟨_, rfl⟩
  rw [hS] at hv ⊢
  have hsz : (w.alloc (.cells #[.int .i64 k, .bool b, .bool dn1, .string ⟨dn2.toArray⟩, .int .i64 dn3, .string ⟨s.toArray⟩, .slice la L.length lc, .slice ma M.length mc] 29)).heap.size = S + 1 := by rw [← hS]; simp
  generalize w.alloc (.cells #[.int .i64 k, .bool b, .bool dn1, .string ⟨dn2.toArray⟩, .int .i64 dn3, .string ⟨s.toArray⟩, .slice la L.length lc, .slice ma M.length mc] 29) = w1 at *
  have c0 := hv.cell 0; have c1 := hv.cell 1; have c2 := hv.cell 2; have c3 := hv.cell 3; have c4 := hv.cell 4; have c5 := hv.cell 5; have c6 := hv.cell 6; have c7 := hv.cell 7
  simp at c0 c1 c2 c3 c4 c5 c6 c7
  have hv2 := VAt.new w1 #[.int .i64 k, .bool b, .bool dn1, .string ⟨dn2.toArray⟩, .int .i64 dn3, .string ⟨s.toArray⟩, .slice la L.length lc, .slice ma M.length mc]
  have hx2 : Ext w1 (w1.alloc (.cells #[.int .i64 k, .bool b, .bool dn1, .string ⟨dn2.toArray⟩, .int .i64 dn3, .string ⟨s.toArray⟩, .slice la L.length lc, .slice ma M.length mc] 29)) := (ext_refl w1).alloc (Nat.le_refl _) _
  rw [hsz] at hv2
  have hv1 := hv.ext hx2
  go_upto_region 2 with fail
  generalize w1.alloc (.cells #[.int .i64 k, .bool b, .bool dn1, .string ⟨dn2.toArray⟩, .int .i64 dn3, .string ⟨s.toArray⟩, .slice la L.length lc, .slice ma M.length mc] 29) = w2 at *
  have HE := Lib.hid (ext_trans hx hx2)
  have HTM := Lib.hid (htm.keep (w' := w2) (A' := fun g => g < S) HE.out.size (fun g _ hlt => ⟨by omega, HE.out.block g hlt⟩))
  have HRM := Lib.hid (hrm.keep (w' := w2) (A' := fun g => g < S) HE.out.size (fun g _ hlt => ⟨by omega, HE.out.block g hlt⟩))
  have HV1 := Lib.hid hv1
  have HV2 := Lib.hid hv2
  have HS := Lib.hid hS
  clear hv hv1 hv2 hx hx2 hrl htm hrm hsz hS c0 c1 c2 c3 c4 c5 c6 c7
  have e6 : IntKind.i64.wrap ((L.length : Int) + (M.length : Int)) = ((L.length + M.length : Nat) : Int) := by rw [IntWalk.i64_in _ (by omega)]; omega
  have hem : (((L.length : Int) + (M.length : Int)) == 0) = (L.isEmpty && M.isEmpty) := by cases L <;> cases M <;> simp <;> omega
  by_cases h0 : k = 0
  · subst h0
    have HR0 : Hid (R = (!b && Z && s.isEmpty && (L.isEmpty && M.isEmpty))) := Lib.hid (by rw [← HRR.out]; simp)
    have c0 := HV1.out.cell 0
    simp at c0
    have c1 := HV2.out.cell 1; have c2 := HV2.out.cell 2; have c3 := HV2.out.cell 3; have c4 := HV2.out.cell 4; have c5 := HV2.out.cell 5; have c6 := HV2.out.cell 6; have c7 := HV2.out.cell 7
    simp at c1 c2 c3 c4 c5 c6 c7
    cases b with
    | true =>
      have HF : Hid (R = false) := Lib.hid (by rw [HR0.out]; simp)
      go_wp2_with fail
      go_ret
      exact ⟨ret_bool HF.out.symm, HE.out⟩
    | false =>
      cases Z with
      | false =>
        have HF : Hid (R = false) := Lib.hid (by rw [HR0.out]; simp)
        go_wp2_with fail
        go_ret
        exact ⟨ret_bool HF.out.symm, HE.out⟩
      | true =>
        cases s with
        | cons x s =>
          have HF : Hid (R = false) := Lib.hid (by rw [HR0.out]; simp)
          go_wp2_with fail
          go_ret
          exact ⟨ret_bool HF.out.symm, HE.out⟩
        | nil =>
          go_wp2_with fail
          go_ret
          exact ⟨ret_bool (by rw [HR0.out]; simp), HE.out⟩
  by_cases h1 : k = 1
  · subst h1
    have HR0 : Hid (R = (Z && s.isEmpty && (L.isEmpty && M.isEmpty))) := Lib.hid (by rw [← HRR.out]; simp)
    have c0 := HV1.out.cell 0
    simp at c0
    have f1 := HV2.out.free 1
    have c1 := HV2.out.cell 1
    simp at c1
    go_upto_region 19 with fail
    replace HE := Lib.hid (HE.out.setCell (p := ⟨S + 1, 1, none⟩) (show w.heap.size ≤ S + 1 by rw [HS.out]; omega) (.bool false))
    have hv2 := HV2.out.set1 1 (.bool false)
    clear c0 c1 f1 HV1 HTM HRM HV2
    generalize w2.setCell ⟨S + 1, 1, none⟩ (.bool false) = w3 at *
    have HV2 : Hid (VAt w3 (S + 1) #[.int .i64 1, .bool false, .bool dn1, .string ⟨dn2.toArray⟩, .int .i64 dn3, .string ⟨s.toArray⟩, .slice la L.length lc, .slice ma M.length mc]) := Lib.hid hv2
    clear hv2
    have c1 := HV2.out.cell 1; have c2 := HV2.out.cell 2; have c3 := HV2.out.cell 3; have c4 := HV2.out.cell 4; have c5 := HV2.out.cell 5; have c6 := HV2.out.cell 6; have c7 := HV2.out.cell 7
    simp at c1 c2 c3 c4 c5 c6 c7
    cases Z with
    | false =>
      have HF : Hid (R = false) := Lib.hid (by rw [HR0.out]; simp)
      go_wp2_with fail
      go_ret
      exact ⟨ret_bool HF.out.symm, HE.out⟩
    | true =>
      cases s with
      | cons x s =>
        have HF : Hid (R = false) := Lib.hid (by rw [HR0.out]; simp)
        go_wp2_with fail
        go_ret
        exact ⟨ret_bool HF.out.symm, HE.out⟩
      | nil =>
        go_wp2_with fail
        go_ret
        exact ⟨ret_bool (by rw [HR0.out]; simp), HE.out⟩
  by_cases h2 : k = 2
  · subst h2
    have HR0 : Hid (R = (sane ⟨dn1, dn2, dn3⟩ && !b && s.isEmpty && (L.isEmpty && M.isEmpty))) := Lib.hid (by rw [← HRR.out]; simp)
    have c0 := HV1.out.cell 0
    simp at c0
    have f2 := HV2.out.free 2; have f3 := HV2.out.free 3; have f4 := HV2.out.free 4
    have c2 := HV2.out.cell 2; have c3 := HV2.out.cell 3; have c4 := HV2.out.cell 4
    simp at c2 c3 c4
    go_upto_region 10 with fail
    replace HE := Lib.hid (((HE.out.setCell (p := ⟨S + 1, 2, none⟩) (show w.heap.size ≤ S + 1 by rw [HS.out]; omega) (.bool false)).setCell (p := ⟨S + 1, 3, none⟩) (show w.heap.size ≤ S + 1 by rw [HS.out]; omega) (.string ⟨#[]⟩)).setCell (p := ⟨S + 1, 4, none⟩) (show w.heap.size ≤ S + 1 by rw [HS.out]; omega) (.int .i64 0))
    have hv2 := ((HV2.out.set1 2 (.bool false)).set1 3 (.string ⟨#[]⟩)).set1 4 (.int .i64 0)
    have hv1 := ((HV1.out.oth (p := S + 1) (i := 2) (u := .bool false) (by omega)).oth (p := S + 1) (i := 3) (u := .string ⟨#[]⟩) (by omega)).oth (p := S + 1) (i := 4) (u := .int .i64 0) (by omega)
    clear c0 c2 c3 c4 f2 f3 f4 HV1 HTM HRM HV2
    generalize ((w2.setCell ⟨S + 1, 2, none⟩ (.bool false)).setCell ⟨S + 1, 3, none⟩ (.string ⟨#[]⟩)).setCell ⟨S + 1, 4, none⟩ (.int .i64 0) = w3 at *
    have HV2 : Hid (VAt w3 (S + 1) #[.int .i64 2, .bool b, .bool false, .string ⟨#[]⟩, .int .i64 0, .string ⟨s.toArray⟩, .slice la L.length lc, .slice ma M.length mc]) := Lib.hid hv2
    have d2 := hv1.cell 2; have d3 := hv1.cell 3; have d4 := hv1.cell 4
    simp at d2 d3 d4
    clear hv1 hv2
    go_wp2_with fail
    refine (sane_any ⟨dn1, dn2, dn3⟩ w3 (by simp; omega)).mono ?_
    rintro e w4 ⟨rfl, hw4⟩
    obtain ⟨B, hB⟩ : ∃ B, sane ⟨dn1, dn2, dn3⟩ = B := ⟨_, rfl⟩
    have hr0 := HR0.out
    rw [hB] at hr0 ⊢
    replace HR0 := Lib.hid hr0
    replace HV2 := Lib.hid (HV2.out.ext hw4)
    replace HE := Lib.hid (ext_trans HE.out hw4)
    clear hr0 hB d2 d3 d4 hw4
    cases B with
    | false =>
      have HF : Hid (R = false) := Lib.hid (by rw [HR0.out]; simp)
      go_wp2_with fail
      go_ret
      exact ⟨ret_bool HF.out.symm, HE.out⟩
    | true =>
      have c1 := HV2.out.cell 1; have c2 := HV2.out.cell 2; have c3 := HV2.out.cell 3; have c4 := HV2.out.cell 4; have c5 := HV2.out.cell 5; have c6 := HV2.out.cell 6; have c7 := HV2.out.cell 7
      simp at c1 c2 c3 c4 c5 c6 c7
      cases b with
      | true =>
        have HF : Hid (R = false) := Lib.hid (by rw [HR0.out]; simp)
        go_wp2_with fail
        go_ret
        exact ⟨ret_bool HF.out.symm, HE.out⟩
      | false =>
        cases s with
        | cons x s =>
          have HF : Hid (R = false) := Lib.hid (by rw [HR0.out]; simp)
          go_wp2_with fail
          go_ret
          exact ⟨ret_bool HF.out.symm, HE.out⟩
        | nil =>
          go_wp2_with fail
          go_ret
          exact ⟨ret_bool (by rw [HR0.out]; simp), HE.out⟩
  by_cases h3 : k = 3
  · subst h3
    have HR0 : Hid (R = (decide (check s < 0) && !b && Z && (L.isEmpty && M.isEmpty))) := Lib.hid (by rw [← HRR.out]; simp)
    have c0 := HV1.out.cell 0
    simp at c0
    have f5 := HV2.out.free 5
    have c5 := HV2.out.cell 5
    simp at c5
    go_upto_region 13 with fail
    replace HE := Lib.hid (HE.out.setCell (p := ⟨S + 1, 5, none⟩) (show w.heap.size ≤ S + 1 by rw [HS.out]; omega) (.string ⟨#[]⟩))
    have hv2 := HV2.out.set1 5 (.string ⟨#[]⟩)
    have hv1 := HV1.out.oth (p := S + 1) (i := 5) (u := .string ⟨#[]⟩) (by omega)
    clear c0 c5 f5 HV1 HTM HRM HV2
    generalize w2.setCell ⟨S + 1, 5, none⟩ (.string ⟨#[]⟩) = w3 at *
    have HV2 : Hid (VAt w3 (S + 1) #[.int .i64 3, .bool b, .bool dn1, .string ⟨dn2.toArray⟩, .int .i64 dn3, .string ⟨#[]⟩, .slice la L.length lc, .slice ma M.length mc]) := Lib.hid hv2
    have d5 := hv1.cell 5
    simp at d5
    clear hv1 hv2
    have hss : (ByteArray.mk s.toArray).size ≤ 140737488355328 := by show s.toArray.size ≤ _; simp; omega
    have hsz : (ByteArray.mk s.toArray).size = s.length := by show s.toArray.size = _; simp
    have HSZ := Lib.hid hsz
    clear hsz
    go_wp2_with (first
      | (refine wpList_bytes_of_string w3 rfl 9 22 5 _ rfl ⟨s.toArray⟩ rfl Tryd.underlying9 Tryd.underlying22 Tryd.underlying5 hss ?_; intro capA wA hEA hcapA hcmA hszA hatA; rw [HSZ.out] at hcapA)
      | fail)
    refine (check_any _ s _ (Bytes.mk hatA (by first | rfl | exact HSZ.out) (by simpa using hcapA) hcmA (by omega))).mono ?_
    rintro e w4 ⟨rfl, hw4⟩
    obtain ⟨C, hC⟩ : ∃ C, check s = C := ⟨_, rfl⟩
    have hr0 := HR0.out
    rw [hC] at hr0 ⊢
    replace HR0 := Lib.hid hr0
    replace HV2 := Lib.hid (HV2.out.ext (ext_trans hEA hw4))
    replace HE := Lib.hid (ext_trans HE.out (ext_trans hEA hw4))
    clear hr0 hC d5 hw4 hEA hatA
    by_cases hc0 : C < 0
    · have hdc : decide (C < 0) = true := by simpa using hc0
      have c1 := HV2.out.cell 1; have c2 := HV2.out.cell 2; have c3 := HV2.out.cell 3; have c4 := HV2.out.cell 4; have c5 := HV2.out.cell 5; have c6 := HV2.out.cell 6; have c7 := HV2.out.cell 7
      simp at c1 c2 c3 c4 c5 c6 c7
      cases b with
      | true =>
        have HF : Hid (R = false) := Lib.hid (by rw [HR0.out]; simp)
        go_wp2_with fail
        go_ret
        exact ⟨ret_bool HF.out.symm, HE.out⟩
      | false =>
        cases Z with
        | false =>
          have HF : Hid (R = false) := Lib.hid (by rw [HR0.out]; simp)
          go_wp2_with fail
          go_ret
          exact ⟨ret_bool HF.out.symm, HE.out⟩
        | true =>
          go_wp2_with fail
          go_ret
          exact ⟨ret_bool (by rw [HR0.out, hdc]; simp), HE.out⟩
    · have hdc : decide (C < 0) = false := by simpa using hc0
      have HDC := Lib.hid hdc
      have HF : Hid (R = false) := Lib.hid (by rw [HR0.out]; rw [HDC.out]; simp)
      go_wp2_with fail
      go_ret
      exact ⟨ret_bool HF.out.symm, HE.out⟩
  by_cases h4 : k = 4
  · subst h4
    have HR0 : Hid (R = (!b && Z && s.isEmpty && M.isEmpty)) := Lib.hid (by rw [← HRR.out]; simp)
    have c0 := HV1.out.cell 0
    simp at c0
    have f6 := HV2.out.free 6
    have c6 := HV2.out.cell 6
    simp at c6
    go_upto_region 19 with fail
    replace HE := Lib.hid (HE.out.setCell (p := ⟨S + 1, 6, none⟩) (show w.heap.size ≤ S + 1 by rw [HS.out]; omega) (.slice none 0 0))
    have hv2 := HV2.out.set1 6 (.slice none 0 0)
    clear c0 c6 f6 HV1 HTM HRM HV2
    generalize w2.setCell ⟨S + 1, 6, none⟩ (.slice none 0 0) = w3 at *
    have HV2 : Hid (VAt w3 (S + 1) #[.int .i64 4, .bool b, .bool dn1, .string ⟨dn2.toArray⟩, .int .i64 dn3, .string ⟨s.toArray⟩, .slice none 0 0, .slice ma M.length mc]) := Lib.hid hv2
    clear hv2
    have hem2 : ((M.length : Int) == 0) = M.isEmpty := by cases M <;> simp <;> omega
    have c1 := HV2.out.cell 1; have c2 := HV2.out.cell 2; have c3 := HV2.out.cell 3; have c4 := HV2.out.cell 4; have c5 := HV2.out.cell 5; have c6 := HV2.out.cell 6; have c7 := HV2.out.cell 7
    simp at c1 c2 c3 c4 c5 c6 c7
    cases b with
    | true =>
      have HF : Hid (R = false) := Lib.hid (by rw [HR0.out]; simp)
      go_wp2_with fail
      go_ret
      exact ⟨ret_bool HF.out.symm, HE.out⟩
    | false =>
      cases Z with
      | false =>
        have HF : Hid (R = false) := Lib.hid (by rw [HR0.out]; simp)
        go_wp2_with fail
        go_ret
        exact ⟨ret_bool HF.out.symm, HE.out⟩
      | true =>
        cases s with
        | cons x s =>
          have HF : Hid (R = false) := Lib.hid (by rw [HR0.out]; simp)
          go_wp2_with fail
          go_ret
          exact ⟨ret_bool HF.out.symm, HE.out⟩
        | nil =>
          go_wp2_with fail
          go_ret
          exact ⟨ret_bool (by rw [HR0.out]; simp), HE.out⟩
  by_cases h5 : k = 5
  · subst h5
    have HR0 : Hid (R = (!(M.any badKey) && !b && Z && s.isEmpty && L.isEmpty)) := Lib.hid (by rw [← HRR.out]; simp)
    have c0 := HV1.out.cell 0
    simp at c0
    have f7 := HV2.out.free 7
    have c7 := HV2.out.cell 7
    simp at c7
    go_upto_region 18 with fail
    replace HE := Lib.hid (HE.out.setCell (p := ⟨S + 1, 7, none⟩) (show w.heap.size ≤ S + 1 by rw [HS.out]; omega) (.slice none 0 0))
    have hv2 := HV2.out.set1 7 (.slice none 0 0)
    have hv1 := HV1.out.oth (p := S + 1) (i := 7) (u := .slice none 0 0) (by omega)
    have htm := HTM.out.keep (w' := w2.setCell ⟨S + 1, 7, none⟩ (.slice none 0 0)) (A' := fun _ => True) (by simp [World.setCell]) (fun g hg _ => ⟨trivial, Below.heap_setCell _ _ _ _ (show g ≠ S + 1 by omega)⟩)
    have hrm := HRM.out.keep (w' := w2.setCell ⟨S + 1, 7, none⟩ (.slice none 0 0)) (A' := fun _ => True) (by simp [World.setCell]) (fun g hg _ => ⟨trivial, Below.heap_setCell _ _ _ _ (show g ≠ S + 1 by omega)⟩)
    clear c0 c7 f7 HV1 HTM HRM HV2
    generalize w2.setCell ⟨S + 1, 7, none⟩ (.slice none 0 0) = w3 at *
    have HV2 : Hid (VAt w3 (S + 1) #[.int .i64 5, .bool b, .bool dn1, .string ⟨dn2.toArray⟩, .int .i64 dn3, .string ⟨s.toArray⟩, .slice la L.length lc, .slice none 0 0]) := Lib.hid hv2
    have HC := Lib.hid (contains_bad _ M cm _ w3 hrm htm hMl HKS.out)
    have d7 := hv1.cell 7
    simp at d7
    clear hv1 hv2 htm hrm
    go_wp2_with fail
    refine (HC.out).mono ?_
    rintro e w4 ⟨rfl, hw4⟩
    obtain ⟨C, hC⟩ : ∃ C, M.any badKey = C := ⟨_, rfl⟩
    have hr0 := HR0.out
    rw [hC] at hr0 ⊢
    replace HR0 := Lib.hid hr0
    replace HV2 := Lib.hid (HV2.out.ext hw4)
    replace HE := Lib.hid (ext_trans HE.out hw4)
    clear hr0 hC d7 hw4
    have hem2 : ((L.length : Int) == 0) = L.isEmpty := by cases L <;> simp <;> omega
    cases C with
    | true =>
      have HF : Hid (R = false) := Lib.hid (by rw [HR0.out]; simp)
      go_wp2_with fail
      go_ret
      exact ⟨ret_bool HF.out.symm, HE.out⟩
    | false =>
      have c1 := HV2.out.cell 1; have c2 := HV2.out.cell 2; have c3 := HV2.out.cell 3; have c4 := HV2.out.cell 4; have c5 := HV2.out.cell 5; have c6 := HV2.out.cell 6; have c7 := HV2.out.cell 7
      simp at c1 c2 c3 c4 c5 c6 c7
      cases b with
      | true =>
        have HF : Hid (R = false) := Lib.hid (by rw [HR0.out]; simp)
        go_wp2_with fail
        go_ret
        exact ⟨ret_bool HF.out.symm, HE.out⟩
      | false =>
        cases Z with
        | false =>
          have HF : Hid (R = false) := Lib.hid (by rw [HR0.out]; simp)
          go_wp2_with fail
          go_ret
          exact ⟨ret_bool HF.out.symm, HE.out⟩
        | true =>
          cases s with
          | cons x s =>
            have HF : Hid (R = false) := Lib.hid (by rw [HR0.out]; simp)
            go_wp2_with fail
            go_ret
            exact ⟨ret_bool HF.out.symm, HE.out⟩
          | nil =>
            go_wp2_with fail
            go_ret
            exact ⟨ret_bool (by rw [HR0.out]; simp), HE.out⟩
  · have HF : Hid (R = false) := Lib.hid (by rw [← HRR.out]; simp [h0, h1, h2, h3, h4, h5])
    have q0 : (k == 0) = false := by simpa using h0
    have q1 : (k == 1) = false := by simpa using h1
    have q2 : (k == 2) = false := by simpa using h2
    have q3 : (k == 3) = false := by simpa using h3
    have q4 : (k == 4) = false := by simpa using h4
    have q5 : (k == 5) = false := by simpa using h5
    have c0 := HV1.out.cell 0
    simp at c0
    go_wp2_with fail
    go_ret
    exact ⟨ret_bool HF.out.symm, HE.out⟩
end Go.Proofs.YtckpndbmpigegaaDoor
end

section
/- the documents' parser: its state in memory; White, fail, is, white, more. -/
set_option linter.unusedVariables false
set_option linter.unusedSimpArgs false
set_option maxRecDepth 100000
namespace Go.Proofs.YtckpndbmpigegaaDoor
open Go.RowKit Go.Mem Orange
theorem white_cases (c : UInt8) : isWhite c = true ↔ c.toNat = 9 ∨ c.toNat = 10 ∨ c.toNat = 13 ∨ c.toNat = 32 := by
  have : ∀ c : Fin 256, isWhite (UInt8.ofFin c) = true ↔ ((UInt8.ofFin c).toNat = 9 ∨ (UInt8.ofFin c).toNat = 10 ∨ (UInt8.ofFin c).toNat = 13 ∨ (UInt8.ofFin c).toNat = 32) := by decide +kernel
  exact this c.toFin
theorem bytes_cell {w : World} {a : Option Addr} {cap : Nat} {xs : List UInt8} (h : Bytes w (.slice a xs.length cap) xs) {i : Nat} (hi : i < xs.length) : ∃ b o, a = some ⟨b, o, none⟩ ∧ ∀ w', Ext w w' → w'.cell? ⟨b, o + i, none⟩ = some (.int .u8 xs[i].toNat) := by
  obtain ⟨a', c', e, h1, h2, h3, h4⟩ := h
  simp only [Value.slice.injEq] at e
  obtain ⟨rfl, -, rfl⟩ := e
  obtain ⟨b, o, rfl, hlt, hc⟩ := h4 (by omega)
  exact ⟨b, o, rfl, fun w' hw => by rw [hw.cell (p := ⟨b, o + i, none⟩) hlt]; exact hc i hi⟩
set_option maxHeartbeats 1600000 in
theorem rwhite_any (v : Value) (xs : List UInt8) (at0 : Int) (w : World) (hb : Bytes w v xs) :
    Calls Tryd.prog 17 #[v, .int .i64 at0] w (fun e w' => e = .returned (.int .i64 (whiteN xs (clampN xs.length at0) : Nat)) ∧ w = w') := by
  have hcl := clampN_eq xs.length at0
  have hcle := clampN_le xs.length at0
  obtain ⟨va, vc, rfl, hnc, hcm, hl47, -⟩ := id hb
  have HB := Lib.hid hb
  clear hb
  obtain ⟨k0, hk0⟩ : ∃ k0, clampN xs.length at0 = k0 := ⟨_, rfl⟩
  rw [hk0] at hcl hcle ⊢
  clear hk0
  obtain ⟨R, hR⟩ : ∃ R, whiteN xs k0 = R := ⟨_, rfl⟩
  rw [hR]
  have HRR := Lib.hid hR
  clear hR
  go_enter Tryd.func17, Tryd.ntmps17
  go_wp2_with fail
  clear hcl
  go_loopw [1] (fun av wr => ∃ k : Nat, av = .int .i64 k ∧ k ≤ xs.length ∧ whiteN xs k = R ∧ w = wr) (fun av _ => xs.length - (intOf av).toNat)
  case atStart => exact ⟨k0, rfl, hcle, HRR.out, rfl⟩
  case round =>
    obtain ⟨k, rfl, hk, hw, rfl⟩ := hrel
    have HW := Lib.hid hw
    clear hw
    by_cases hlt : k < xs.length
    · have hlti : (k : Int) < xs.length := by omega
      have hk0' : (0 : Int) ≤ k := by omega
      obtain ⟨b, o, rfl, hcell⟩ := bytes_cell HB.out hlt
      have hc := hcell w (ext_refl w)
      clear hcell
      cases hq : isWhite xs[k] with
      | true =>
        have HN : Hid (whiteN xs (k + 1) = R) := Lib.hid (by have := HW.out; rw [whiteN_endQ, endQ_step hlt hq] at this; exact this)
        have hcs := (white_cases xs[k]).1 hq
        have e9 : IntKind.i64.wrap ((k : Int) + 1) = ((k + 1 : Nat) : Int) := by rw [IntWalk.i64_in _ (by omega)]; omega
        clear hq
        generalize xs[k] = x at *
        rcases hcs with h | h | h | h
        · go_wp2_with fail
          go_roundw
          case rel => exact ⟨k + 1, by go_num, by omega, HN.out, by first | rfl | trivial⟩
          case measure => simp [intOf]; omega
        · go_wp2_with fail
          go_roundw
          case rel => exact ⟨k + 1, by go_num, by omega, HN.out, by first | rfl | trivial⟩
          case measure => simp [intOf]; omega
        · go_wp2_with fail
          go_roundw
          case rel => exact ⟨k + 1, by go_num, by omega, HN.out, by first | rfl | trivial⟩
          case measure => simp [intOf]; omega
        · go_wp2_with fail
          go_roundw
          case rel => exact ⟨k + 1, by go_num, by omega, HN.out, by first | rfl | trivial⟩
          case measure => simp [intOf]; omega
      | false =>
        have HF : Hid ((k : Int) = (R : Nat)) := Lib.hid (by have := HW.out; rw [whiteN_endQ, endQ_stop hlt hq] at this; omega)
        have hcs : ¬ (xs[k].toNat = 9 ∨ xs[k].toNat = 10 ∨ xs[k].toNat = 13 ∨ xs[k].toNat = 32) := fun h => by rw [(white_cases xs[k]).2 h] at hq; cases hq
        clear hq
        generalize xs[k] = x at *
        have n1 : ((x.toNat : Int) == 9) = false := by simp; omega
        have n2 : ((x.toNat : Int) == 10) = false := by simp; omega
        have n3 : ((x.toNat : Int) == 13) = false := by simp; omega
        have n4 : ((x.toNat : Int) == 32) = false := by simp; omega
        clear hcs
        go_wp2_with fail
        go_ret
        exact ⟨ret_int HF.out, rfl⟩
    · obtain rfl : k = xs.length := by omega
      have hnlt : ¬ ((xs.length : Int) < (xs.length : Int)) := by omega
      have HF : Hid ((xs.length : Int) = (R : Nat)) := Lib.hid (by have := HW.out; rw [whiteN_endQ, endQ_end rfl] at this; omega)
      go_wp2_with fail
      go_ret
      exact ⟨ret_int HF.out, rfl⟩
/-- the state's block -/
def SAt (w : World) (p : Nat) (v : Value) (n a e : Int) : Prop := w.heap[p]? = some (.cells #[v, .int .i64 n, .int .i64 a, .int .i64 e] 57 (0, 0))
theorem SAt.cells {w : World} {p : Nat} {v : Value} {n a e : Int} (h : SAt w p v n a e) : w.cell? ⟨p, 0, none⟩ = some v ∧ w.cell? ⟨p, 1, none⟩ = some (.int .i64 n) ∧ w.cell? ⟨p, 2, none⟩ = some (.int .i64 a) ∧ w.cell? ⟨p, 3, none⟩ = some (.int .i64 e) ∧ w.frozen? ⟨p, 1, none⟩ = false ∧ w.frozen? ⟨p, 2, none⟩ = false ∧ w.frozen? ⟨p, 3, none⟩ = false ∧ p < w.heap.size :=
  ⟨by rw [cell_of_cells h]; rfl, by rw [cell_of_cells h]; rfl, by rw [cell_of_cells h]; rfl, by rw [cell_of_cells h]; rfl, free_of_cells h, free_of_cells h, free_of_cells h, (Array.getElem?_eq_some_iff.1 h).1⟩
theorem SAt.ext {w w' : World} {p : Nat} {v : Value} {n a e : Int} (h : SAt w p v n a e) (hb : Ext w w') : SAt w' p v n a e := by
  unfold SAt; rw [hb.block _ (Array.getElem?_eq_some_iff.1 h).1]; exact h
/-- a state over these bytes, at this place, so many values met, and the error -/
def SS (w : World) (p : Nat) (v : Value) (xs : List UInt8) (a n : Nat) (e : Int) : Prop := SAt w p v n a e ∧ BytesN p w v xs ∧ a ≤ xs.length
theorem SS.ext {w w' : World} {p : Nat} {v : Value} {xs : List UInt8} {a n : Nat} {e : Int} (h : SS w p v xs a n e) (hb : Ext w w') : SS w' p v xs a n e := ⟨h.1.ext hb, h.2.1.kept (KeptP.ofExt hb), h.2.2⟩
theorem SS.setA {w : World} {p : Nat} {v : Value} {xs : List UInt8} {a n : Nat} {e : Int} (h : SS w p v xs a n e) (a' : Nat) (ha : a' ≤ xs.length) : SS (w.setCell ⟨p, 2, none⟩ (.int .i64 a')) p v xs a' n e :=
  ⟨setCell_heap_self h.1, h.2.1.kept (KeptP.set _), ha⟩
theorem SS.setN {w : World} {p : Nat} {v : Value} {xs : List UInt8} {a n : Nat} {e : Int} (h : SS w p v xs a n e) (n' : Nat) : SS (w.setCell ⟨p, 1, none⟩ (.int .i64 n')) p v xs a n' e :=
  ⟨setCell_heap_self h.1, h.2.1.kept (KeptP.set _), h.2.2⟩
theorem SS.setE {w : World} {p : Nat} {v : Value} {xs : List UInt8} {a n : Nat} {e : Int} (h : SS w p v xs a n e) (e' : Int) : SS (w.setCell ⟨p, 3, none⟩ (.int .i64 e')) p v xs a n e' :=
  ⟨setCell_heap_self h.1, h.2.1.kept (KeptP.set _), h.2.2⟩
theorem KeptP.toExt {p : Nat} {w w1 w2 : World} (k : KeptP p w w1) (h : Ext w1 w2) : KeptP p w w2 := Kept.trans k (Kept.ofBelow (h.mono k.size))
set_option maxHeartbeats 3200000 in
theorem swhite_any (p : Nat) (v : Value) (xs : List UInt8) (a n : Nat) (e : Int) (w : World) (h : SS w p v xs a n e) :
    Calls Tryd.prog 35 #[.pointer (some ⟨p, 0, none⟩)] w fun en w' => en = .returned (.tuple #[]) ∧ SS w' p v xs (whiteN xs a) n e ∧ KeptP p w w' := by
  have HP := Lib.hid h
  have HB := Lib.hid h.2.1.bytes
  have hcl := clampN_nat xs.length a h.2.2
  have HCL := Lib.hid hcl
  clear h hcl
  go_enter Tryd.func35, Tryd.ntmps35
  go_wp2_with fail
  refine Grow.wp_region_tailW (G := Ext) (B := fun w' => Ext w w') (anc := fun _ => []) (I := fun j => if j = 9 then some (Grow.Spec.val Ext (.int .i64 (whiteN xs a : Nat))) else none) 12 (by kernel_rfl) (by kernel_rfl) (by kernel_rfl) ?_ ?_ ?_
  · exact fun w w' h hg => ext_trans h hg
  · exact (ext_refl _).drew
  · simp only [List.take_succ_cons, List.take_zero, List.drop_succ_cons, List.drop_zero]
    repeat
      (refine Grow.Wk.step (fun K hK => ?_)
       first
       | (refine Grow.step_read (by rfl) (by rfl) ext_refl ?_
          apply Exists.intro
          refine ⟨fun w hB hF => ?_, ?_⟩
          · obtain ⟨c0, c1, c2, c3, f1, f2, f3, hpl⟩ := (HP.out.ext hB).1.cells
            go_simp
            try exact rfl
          go_simp
          refine hK _ _ ?_
          clear hK K)
       | (refine Grow.step_off (by rfl) ?_
          go_simp
          refine hK _ _ ?_
          clear hK K))
    refine Grow.Wk.step (fun K hK => ?_)
    refine Grow.step_rel (by rfl) (by rfl) (fun w' hB hF => ?_) (fun v hv => ?_)
    · go_simp
      refine Grow.relUpon_enter ((rwhite_any _ xs a w' (HB.out.ext hB)).mono ?_)
      rintro en w'' ⟨rfl, rfl⟩
      exact ⟨_, rfl, ext_refl _, by rw [HCL.out]; rfl, trivial⟩
    obtain rfl : v = _ := hv
    go_simp
    refine hK _ _ ?_
    clear hK K
    repeat
      (refine Grow.Wk.step (fun K hK => ?_)
       first
       | (refine Grow.step_read (by rfl) (by rfl) ext_refl ?_
          apply Exists.intro
          refine ⟨fun w hB hF => ?_, ?_⟩
          · obtain ⟨c0, c1, c2, c3, f1, f2, f3, hpl⟩ := (HP.out.ext hB).1.cells
            go_simp
            try exact rfl
          go_simp
          refine hK _ _ ?_
          clear hK K)
       | (refine Grow.step_off (by rfl) ?_
          go_simp
          refine hK _ _ ?_
          clear hK K))
    refine Grow.Wk.nil ?_
    intro w3 hB hF
    clear hF
    obtain ⟨c0, c1, c2, c3, f1, f2, f3, hpl⟩ := (HP.out.ext hB).1.cells
    go_wp2_with fail
    go_end0
    exact ⟨rfl, (HP.out.ext hB).setA _ (whiteN_le xs a), (KeptP.ofExt hB).trans (KeptP.set _)⟩
/-- what was laid anew leaves the state as it was -/
theorem SS.fresh {p : Nat} {v : Value} {xs : List UInt8} {a a' n n' : Nat} {e e' : Int} {w w1 w2 : World} (h0 : SS w p v xs a n e) (h1 : SS w1 p v xs a' n' e') (k : KeptP p w w1) (hb : Below w.heap.size w1 w2) : SS w2 p v xs a' n' e' ∧ KeptP p w w2 := by
  have hk : KeptP p w w2 := Kept.trans k (Kept.ofBelow hb)
  refine ⟨⟨?_, h0.2.1.kept hk, h1.2.2⟩, hk⟩
  have := h0.1.cells.2.2.2.2.2.2.2
  unfold SAt; rw [hb.block _ this]; exact h1.1
-- the end of a function whose result lies in block S: VAt HV2 at w2
/-- what 'fail' leaves: the first error stays -/
theorem fail_any (p : Nat) (v : Value) (xs : List UInt8) (a n : Nat) (er : Int) (b : Nat) (w : World) (h : SS w p v xs a n 0) (hb : b ≤ xs.length) :
    Calls Tryd.prog 36 #[.pointer (some ⟨p, 0, none⟩), .int .i64 er, .int .i64 b] w fun en w' => en = .returned (.agg zeroV) ∧ SS w' p v xs b n er ∧ KeptP p w w' := by
  have hv := VAt.new w zeroV
  have hx : Ext w (w.alloc (.cells zeroV 29)) := (ext_refl w).alloc (Nat.le_refl _) _
  have HP0 := Lib.hid h
  have HP := Lib.hid (h.ext hx)
  have hpw : p < w.heap.size := h.1.cells.2.2.2.2.2.2.2
  clear h
  simp only [zeroV, cellsV, Num.zero] at hv hx HP ⊢
  go_enter Tryd.func36, Tryd.ntmps36
  go_upto_region 1 with fail
  obtain ⟨S, hS⟩ : ∃ S, w.heap.size = S := ⟨_, rfl⟩
  rw [hS] at hv hpw ⊢
  generalize w.alloc (.cells #[.int .i64 0, .bool false, .bool false, .string ⟨#[]⟩, .int .i64 0, .string ⟨#[]⟩, .slice none 0 0, .slice none 0 0] 29) = w1 at *
  obtain ⟨c0, c1, c2, c3, f1, f2, f3, hpl⟩ := HP.out.1.cells
  have HS1 := Lib.hid ((HP.out.setE er).setA b hb)
  have HK : Hid (KeptP p w ((w1.setCell ⟨p, 3, none⟩ (.int .i64 er)).setCell ⟨p, 2, none⟩ (.int .i64 b))) := Lib.hid (((KeptP.ofExt hx).trans (KeptP.set _)).trans (KeptP.set _))
  have hv2 := (hv.oth (p := p) (i := 3) (u := .int .i64 er) (by omega)).oth (p := p) (i := 2) (u := .int .i64 b) (by omega)
  clear hx
  go_upto_region 4 with fail
  clear c0 c1 c2 c3 f1 f2 f3 HP hv
  generalize (w1.setCell ⟨p, 3, none⟩ (.int .i64 er)).setCell ⟨p, 2, none⟩ (.int .i64 b) = w2 at *
  simp only [noL] at hv2
  have HV2 := Lib.hid hv2
  have HSS := Lib.hid hS
  clear hv2 hS
  have y0 := HV2.out.cell 0; have y1 := HV2.out.cell 1; have y2 := HV2.out.cell 2; have y3 := HV2.out.cell 3; have y4 := HV2.out.cell 4; have y5 := HV2.out.cell 5; have y6 := HV2.out.cell 6; have y7 := HV2.out.cell 7
  have g0 := HV2.out.free 0; have g1 := HV2.out.free 1; have g2 := HV2.out.free 2; have g3 := HV2.out.free 3; have g4 := HV2.out.free 4; have g5 := HV2.out.free 5; have g6 := HV2.out.free 6; have g7 := HV2.out.free 7
  simp at y0 y1 y2 y3 y4 y5 y6 y7
  go_wp2_with fail
  have hV := VAt.store8 HV2.out (.int .i64 0) (.bool false) (.bool false) (.string ⟨#[]⟩) (.int .i64 0) (.string ⟨#[]⟩) (.slice none 0 0) (.slice none 0 0)
  have HV := Lib.hid hV
  have v0 := HV.out.cell 0; have v1 := HV.out.cell 1; have v2 := HV.out.cell 2; have v3 := HV.out.cell 3; have v4 := HV.out.cell 4; have v5 := HV.out.cell 5; have v6 := HV.out.cell 6; have v7 := HV.out.cell 7
  simp only [List.getElem?_toArray, List.getElem?_cons_zero, List.getElem?_cons_succ] at v0 v1 v2 v3 v4 v5 v6 v7
  refine bodyPost_ret (v := .agg #[.int .i64 0, .bool false, .bool false, .string ⟨#[]⟩, .int .i64 0, .string ⟨#[]⟩, .slice none 0 0, .slice none 0 0]) (by simp [results, Tryd.results36, go_sem, v0, v1, v2, v3, v4, v5, v6, v7]) rfl ?_
  have hfin := HP0.out.fresh HS1.out HK.out (below_store8 (p := S) (Below.refl _ w2) (by rw [HSS.out]; exact Nat.le_refl _) (.int .i64 0) (.bool false) (.bool false) (.string ⟨#[]⟩) (.int .i64 0) (.string ⟨#[]⟩) (.slice none 0 0) (.slice none 0 0))
  exact ⟨rfl, hfin.1, hfin.2⟩
set_option maxHeartbeats 3200000 in
theorem is_yes (p : Nat) (v : Value) (xs : List UInt8) (a n : Nat) (e : Int) (c : UInt8) (w : World) (h : SS w p v xs a n e) (hc : xs[a]? = some c) :
    Calls Tryd.prog 39 #[.pointer (some ⟨p, 0, none⟩), .int .u8 c.toNat] w fun en w' => en = .returned (.bool true) ∧ SS w' p v xs (a + 1) n e ∧ KeptP p w w' := by
  have HP := Lib.hid h
  obtain ⟨hlt, hget⟩ := List.getElem?_eq_some_iff.1 hc
  have hx := h.2.1.len
  obtain ⟨va, vc, rfl, hnc, hcm, hl47, -⟩ := id h.2.1.bytes
  obtain ⟨b, o, rfl, hcell⟩ := bytes_cell h.2.1.bytes hlt
  rw [hget] at hcell
  have HC := Lib.hid hcell
  have hai : (a : Int) < xs.length := by omega
  have hai0 : (0 : Int) ≤ a := by omega
  have HLE := Lib.hid hlt
  clear h hcell hget hc hlt
  go_enter Tryd.func39, Tryd.ntmps39
  go_wp2_with fail
  refine Grow.wp_region_litW (G := Ext) (B := fun w' => Ext w w') (anc := fun _ => []) (I := fun _ => none) (by kernel_rfl) (by kernel_rfl) (by kernel_rfl) ?_ ?_ ?_
  · exact fun w w' h hg => ext_trans h hg
  · exact (ext_refl _).drew
  repeat
    (refine Grow.Wk.step (fun K hK => ?_)
     first
     | (refine Grow.step_read (by rfl) (by rfl) ext_refl ?_
        apply Exists.intro
        refine ⟨fun w hB hF => ?_, ?_⟩
        · obtain ⟨c0, c1, c2, c3, f1, f2, f3, hpl⟩ := (HP.out.ext hB).1.cells; have cc := HC.out _ hB
          go_simp
          try exact rfl
        go_simp
        refine hK _ _ ?_
        clear hK K)
     | (refine Grow.step_off (by rfl) ?_
        go_simp
        refine hK _ _ ?_
        clear hK K))
  refine Grow.Wk.nil ?_
  intro w3 hB hF
  clear hF
  obtain ⟨c0, c1, c2, c3, f1, f2, f3, hpl⟩ := (HP.out.ext hB).1.cells
  have e1 : IntKind.i64.wrap ((a : Int) + 1) = ((a + 1 : Nat) : Int) := by rw [IntWalk.i64_in _ (by omega)]; omega
  go_wp2_with fail
  go_ret
  exact ⟨rfl, (HP.out.ext hB).setA (a + 1) HLE.out, (KeptP.ofExt hB).trans (KeptP.set _)⟩
set_option maxHeartbeats 3200000 in
theorem is_no (p : Nat) (v : Value) (xs : List UInt8) (a n : Nat) (e : Int) (c : UInt8) (w : World) (h : SS w p v xs a n e) (hc : ¬ xs[a]? = some c) :
    Calls Tryd.prog 39 #[.pointer (some ⟨p, 0, none⟩), .int .u8 c.toNat] w fun en w' => en = .returned (.bool false) ∧ Ext w w' := by
  have HP := Lib.hid h
  have hx := h.2.1.len
  obtain ⟨va, vc, rfl, hnc, hcm, hl47, -⟩ := id h.2.1.bytes
  by_cases hlt : a < xs.length
  · obtain ⟨b, o, rfl, hcell⟩ := bytes_cell h.2.1.bytes hlt
    have hne : ((xs[a].toNat : Nat) : Int) ≠ c.toNat := fun e => hc (by rw [List.getElem?_eq_getElem hlt]; congr 1; exact UInt8.toNat_inj.1 (by omega))
    generalize xs[a] = x at *
    have HC := Lib.hid hcell
    have hnb : (((x.toNat : Nat) : Int) == c.toNat) = false := by simpa using hne
    have hai : (a : Int) < xs.length := by omega
    have hai0 : (0 : Int) ≤ a := by omega
    clear h hcell hc hne
    go_enter Tryd.func39, Tryd.ntmps39
    go_wp2_with fail
    refine Grow.wp_region_litW (G := Ext) (B := fun w' => Ext w w') (anc := fun _ => []) (I := fun _ => none) (by kernel_rfl) (by kernel_rfl) (by kernel_rfl) ?_ ?_ ?_
    · exact fun w w' h hg => ext_trans h hg
    · exact (ext_refl _).drew
    repeat
      (refine Grow.Wk.step (fun K hK => ?_)
       first
       | (refine Grow.step_read (by rfl) (by rfl) ext_refl ?_
          apply Exists.intro
          refine ⟨fun w hB hF => ?_, ?_⟩
          · obtain ⟨c0, c1, c2, c3, f1, f2, f3, hpl⟩ := (HP.out.ext hB).1.cells; have cc := HC.out _ hB
            go_simp
            try exact rfl
          go_simp
          refine hK _ _ ?_
          clear hK K)
       | (refine Grow.step_off (by rfl) ?_
          go_simp
          refine hK _ _ ?_
          clear hK K))
    refine Grow.Wk.nil ?_
    intro w3 hB hF
    clear hF
    go_wp2_with fail
    go_ret
    exact ⟨rfl, hB⟩
  · have hai : ¬ (a : Int) < xs.length := by omega
    clear h hc
    go_enter Tryd.func39, Tryd.ntmps39
    go_wp2_with fail
    refine Grow.wp_region_litW (G := Ext) (B := fun w' => Ext w w') (anc := fun _ => []) (I := fun _ => none) (by kernel_rfl) (by kernel_rfl) (by kernel_rfl) ?_ ?_ ?_
    · exact fun w w' h hg => ext_trans h hg
    · exact (ext_refl _).drew
    repeat
      (refine Grow.Wk.step (fun K hK => ?_)
       first
       | (refine Grow.step_read (by rfl) (by rfl) ext_refl ?_
          apply Exists.intro
          refine ⟨fun w hB hF => ?_, ?_⟩
          · obtain ⟨c0, c1, c2, c3, f1, f2, f3, hpl⟩ := (HP.out.ext hB).1.cells
            go_simp
            try exact rfl
          go_simp
          refine hK _ _ ?_
          clear hK K)
       | (refine Grow.step_off (by rfl) ?_
          go_simp
          refine hK _ _ ?_
          clear hK K))
    refine Grow.Wk.nil ?_
    intro w3 hB hF
    clear hF
    go_wp2_with fail
    go_ret
    exact ⟨rfl, hB⟩
/-- behind white: a comma, the end, or an error -/
theorem more_comma (p : Nat) (v : Value) (xs : List UInt8) (a n : Nat) (c : UInt8) (w : World) (h : SS w p v xs a n 0) (hc : xs[whiteN xs a]? = some 44) :
    Calls Tryd.prog 40 #[.pointer (some ⟨p, 0, none⟩), .int .u8 c.toNat] w fun en w' => en = .returned (.bool true) ∧ SS w' p v xs (whiteN xs a + 1) n 0 ∧ KeptP p w w' := by
  have HP := Lib.hid h
  have HC := Lib.hid hc
  clear h hc
  go_enter Tryd.func40, Tryd.ntmps40
  go_wp2_with fail
  refine (swhite_any p v xs a n 0 w HP.out).mono ?_
  rintro e w1 ⟨rfl, hs1, hk1⟩
  go_wp2_with fail
  refine (is_yes p v xs _ n 0 44 w1 hs1 HC.out).mono ?_
  rintro e w2 ⟨rfl, hs2, hk2⟩
  go_wp2_with fail
  go_ret
  exact ⟨rfl, hs2, hk1.trans hk2⟩
theorem more_end (p : Nat) (v : Value) (xs : List UInt8) (a n : Nat) (c : UInt8) (w : World) (h : SS w p v xs a n 0) (h44 : ¬ xs[whiteN xs a]? = some 44) (hc : xs[whiteN xs a]? = some c) :
    Calls Tryd.prog 40 #[.pointer (some ⟨p, 0, none⟩), .int .u8 c.toNat] w fun en w' => en = .returned (.bool false) ∧ SS w' p v xs (whiteN xs a + 1) n 0 ∧ KeptP p w w' := by
  have HP := Lib.hid h
  have HC := Lib.hid hc
  have H44 := Lib.hid h44
  clear h hc h44
  go_enter Tryd.func40, Tryd.ntmps40
  go_wp2_with fail
  refine (swhite_any p v xs a n 0 w HP.out).mono ?_
  rintro e w1 ⟨rfl, hs1, hk1⟩
  go_wp2_with fail
  refine (is_no p v xs _ n 0 44 w1 hs1 H44.out).mono ?_
  rintro e w2 ⟨rfl, hx2⟩
  have hs2 := hs1.ext hx2
  go_wp2_with fail
  refine (is_yes p v xs _ n 0 c w2 hs2 HC.out).mono ?_
  rintro e w3 ⟨rfl, hs3, hk3⟩
  go_wp2_with fail
  go_ret
  exact ⟨rfl, hs3, (hk1.toExt hx2).trans hk3⟩
theorem more_bad (p : Nat) (v : Value) (xs : List UInt8) (a n : Nat) (c : UInt8) (w : World) (h : SS w p v xs a n 0) (h44 : ¬ xs[whiteN xs a]? = some 44) (hc : ¬ xs[whiteN xs a]? = some c) :
    Calls Tryd.prog 40 #[.pointer (some ⟨p, 0, none⟩), .int .u8 c.toNat] w fun en w' => en = .returned (.bool false) ∧ SS w' p v xs (whiteN xs a) n 2 ∧ KeptP p w w' := by
  have HP := Lib.hid h
  have HC := Lib.hid hc
  have H44 := Lib.hid h44
  clear h hc h44
  go_enter Tryd.func40, Tryd.ntmps40
  go_wp2_with fail
  refine (swhite_any p v xs a n 0 w HP.out).mono ?_
  rintro e w1 ⟨rfl, hs1, hk1⟩
  go_wp2_with fail
  refine (is_no p v xs _ n 0 44 w1 hs1 H44.out).mono ?_
  rintro e w2 ⟨rfl, hx2⟩
  have hs2 := hs1.ext hx2
  go_wp2_with fail
  refine (is_no p v xs _ n 0 c w2 hs2 HC.out).mono ?_
  rintro e w3 ⟨rfl, hx3⟩
  have HS3 := Lib.hid (hs2.ext hx3)
  obtain ⟨c0, c1, c2, c3, f1, f2, f3, hpl⟩ := HS3.out.1.cells
  have HK3 := Lib.hid ((hk1.toExt hx2).toExt hx3)
  clear hs1 hk1 hs2 hx2 hx3
  go_wp2_with fail
  refine (fail_any p v xs _ n 2 (whiteN xs a) w3 HS3.out (whiteN_le xs a)).mono ?_
  rintro e w4 ⟨rfl, hs4, hk4⟩
  clear c0 c1 c2 c3 f1 f2 f3
  go_wp2_with fail
  go_ret
  exact ⟨rfl, hs4, HK3.out.trans hk4⟩
end Go.Proofs.YtckpndbmpigegaaDoor
end

section
/- orangeryref02: what digit, run, small, Sane, form and told do. -/
set_option linter.unusedVariables false
set_option linter.unusedSimpArgs false
set_option maxRecDepth 100000
namespace Go.Proofs.YtckpndbmpigegaaDoor
open Go.RowKit Go.Mem Orange

theorem r2digit_any (c : UInt8) (w : World) :
    Calls Tryd.prog 97 #[.int .u8 c.toNat] w fun e w' => e = .returned (.bool (isDig c)) ∧ w = w' := by
  have hd : isDig c = (decide (48 ≤ c.toNat) && decide (c.toNat ≤ 57)) := rfl
  have HD := Lib.hid hd
  clear hd
  by_cases h1 : 48 ≤ c.toNat
  · go_enter Tryd.func97, Tryd.ntmps97
    go_wp2_with fail
    go_ret
    exact ⟨ret_bool (by rw [HD.out]; simp [h1]; try omega), rfl⟩
  · go_enter Tryd.func97, Tryd.ntmps97
    go_wp2_with fail
    go_ret
    exact ⟨ret_bool (by rw [HD.out]; simp [h1]; try omega), rfl⟩

theorem trimL0_cons (c : UInt8) (t : List UInt8) : trimL0 (c :: t) = if c = 48 then trimL0 t else c :: t := by
  unfold trimL0; rw [List.dropWhile_cons]
  by_cases h : c = 48 <;> simp [h]
theorem trimR0_snoc (t : List UInt8) (c : UInt8) : trimR0 (t ++ [c]) = if c = 48 then trimR0 t else t ++ [c] := by
  unfold trimR0; rw [List.reverse_append, List.reverse_singleton, List.singleton_append, List.dropWhile_cons]
  by_cases h : c = 48 <;> simp [h]
theorem trimL0_nil : trimL0 [] = [] := rfl
theorem trimR0_nil : trimR0 [] = [] := rfl
def formG (neg : Bool) (x : Int) (G : List UInt8) : Num := if trimR0 G = [] then Num.zero else ⟨neg, trimR0 G, x + G.length - (trimR0 G).length⟩
set_option maxHeartbeats 1600000 in
theorem r2form_any (neg : Bool) (l : List UInt8) (x : Int) (w : World) (hl : l.length ≤ 1000000) (hx1 : -1000000000 ≤ x) (hx2 : x ≤ 1000000000) :
    Calls Tryd.prog 88 #[.bool neg, .string ⟨l.toArray⟩, .int .i64 x] w fun e w' => e = .returned (.agg #[.bool (formR neg l x).neg, .string ⟨(formR neg l x).digits.toArray⟩, .int .i64 (formR neg l x).exp]) ∧ Ext w w' := by
  have hn0 := NumAt.new w Num.zero
  have hE : Ext w (w.alloc (.cells #[.bool false, .string ⟨#[]⟩, .int .i64 0] 25)) := (ext_refl w).alloc (Nat.le_refl _) _
  go_enter Tryd.func88, Tryd.ntmps88
  go_wp2_with fail
  simp only [Num.zero] at hn0
  generalize w.alloc (.cells #[.bool false, .string ⟨#[]⟩, .int .i64 0] 25) = w1 at *
  have HE := Lib.hid hE
  have HN := Lib.hid hn0
  clear hE hn0
  go_loop [1] (fun sv => ∃ m : List UInt8, sv = .string ⟨m.toArray⟩ ∧ trimL0 l = trimL0 m ∧ m.length ≤ l.length) (fun sv => slen sv)
  case atStart => exact ⟨l, rfl, rfl, Nat.le_refl _⟩
  case round =>
    obtain ⟨m, rfl, hm, hml⟩ := hrel
    cases m with
    | nil =>
      have HG : Hid (trimL0 l = []) := Lib.hid hm
      clear hm
      go_wp2_with fail
      -- behind the first loop: HG : Hid (trimL0 l = ([] : List UInt8))
      have HF : Hid (formR neg l x = formG neg x (([] : List UInt8))) := Lib.hid (by unfold formR shortR formG; rw [HG.out])
      obtain ⟨G, hG⟩ : ∃ G, (([] : List UInt8)) = G := ⟨_, rfl⟩
      have hGl : G.length ≤ l.length := by rw [← hG]; exact hml
      rw [hG] at HF
      clear HG
      go_loop [1, 2] (fun sv xv => ∃ (n : List UInt8) (y : Int), sv = .string ⟨n.toArray⟩ ∧ xv = .int .i64 y ∧ trimR0 G = trimR0 n ∧ n.length ≤ G.length ∧ y + n.length = x + G.length) (fun sv _ => slen sv)
      case atStart => exact ⟨G, x, by rw [← hG], rfl, rfl, Nat.le_refl _, rfl⟩
      case round =>
        obtain ⟨n, y, rfl, rfl, hn, hnl, hy⟩ := hrel
        rcases snoc_cases n with rfl | ⟨v, d, hv, hvl, hgd, hex⟩
        · have HN2 : Hid (formR neg l x = Num.zero) := Lib.hid (by rw [HF.out, formG, if_pos (by rw [hn]; rfl)])
          clear hn hG
          obtain ⟨c0, c1, c2, f0, f1, f2, hp⟩ := HN.out.cells
          go_wp2_with fail
          have hN := (HN.out.store Num.zero).cells
          simp only [Num.zero] at hN
          obtain ⟨d0, d1, d2, _⟩ := hN
          exact bodyPost_ret (v := .agg #[.bool false, .string ⟨#[]⟩, .int .i64 0]) (by simp [results, Tryd.results88, go_sem, d0, d1, d2]) rfl ⟨by rw [HN2.out]; rfl, below_store HE.out (Nat.le_refl _) _ _ _⟩
        · have hm2 := trimR0_snoc v d
          rw [← hv] at hm2
          by_cases hd : d = 48
          · have hd2 : ((d.toNat : Int) == 48) = true := by rw [hd]; rfl
            have HY : Hid (y + 1 + v.length = x + G.length) := Lib.hid (by omega)
            have hyb : y ≤ 100000000000 := by omega
            have hyc : -100000000000 ≤ y := by omega
            have HH : Hid (trimR0 G = trimR0 v) := Lib.hid (by rw [hn, hm2, if_pos hd])
            have hvb : v.length < 1000000 := by omega
            have HVL : Hid (v.length ≤ G.length) := Lib.hid (by omega)
            have HNL := Lib.hid (sx_size n)
            clear hd hm2 hn hy hG hnl hv
            go_wp2_with fail
            go_round
            case rel => exact ⟨v, y + 1, rfl, by go_num, HH.out, HVL.out, HY.out⟩
            case measure => simp only [slen]; rw [HNL.out, sx_size, hvl]; omega
          · have hd2 : ((d.toNat : Int) == 48) = false := by
              have : ¬ d.toNat = 48 := fun e => hd (UInt8.toNat_inj.1 e)
              simp; omega
            have HH : Hid (formR neg l x = ⟨neg, n, y⟩) := Lib.hid (by
              rw [HF.out, formG, hn, hm2, if_neg hd, if_neg (by rw [hv]; simp)]
              congr 1
              omega)
            have hemp : n.isEmpty = false := by rw [hv]; simp
            have hvb : v.length < 1000000 := by omega
            obtain ⟨c0, c1, c2, f0, f1, f2, hp⟩ := HN.out.cells
            clear hd hm2 hn hG hy hex hv
            go_wp2_with fail
            have hN := (HN.out.store ⟨neg, n, y⟩).cells
            simp only at hN
            obtain ⟨d0, d1, d2, _⟩ := hN
            exact bodyPost_ret (v := .agg #[.bool neg, .string ⟨n.toArray⟩, .int .i64 y]) (by simp [results, Tryd.results88, go_sem, d0, d1, d2]) rfl ⟨by rw [HH.out], below_store HE.out (Nat.le_refl _) _ _ _⟩
    | cons c u =>
      have hg := get0 c u
      have hd := drop1 c u (u.length + 1) rfl
      have hm2 := trimL0_cons c u
      have hsz := sx_size (c :: u)
      by_cases hc : c = 48
      · have hc2 : ((c.toNat : Int) == 48) = true := by rw [hc]; rfl
        have HH : Hid (trimL0 l = trimL0 u) := Lib.hid (by rw [hm, hm2, if_pos hc])
        have hul : u.length + 1 ≤ l.length := by simpa using hml
        clear hm hm2 hc hml
        have HSZ := Lib.hid hsz
        clear hsz
        go_wp2_with fail
        go_round
        case rel => exact ⟨u, rfl, HH.out, by omega⟩
        case measure => simp only [slen]; rw [HSZ.out, sx_size]; simp
      · have hc2 : ((c.toNat : Int) == 48) = false := by
          have : ¬ c.toNat = 48 := fun e => hc (UInt8.toNat_inj.1 e)
          simp; omega
        have HG : Hid (trimL0 l = c :: u) := Lib.hid (by rw [hm, hm2, if_neg hc])
        clear hm hm2 hc hsz
        go_wp2_with fail
        -- behind the first loop: HG : Hid (trimL0 l = c :: u)
        have HF : Hid (formR neg l x = formG neg x (c :: u)) := Lib.hid (by unfold formR shortR formG; rw [HG.out])
        obtain ⟨G, hG⟩ : ∃ G, (c :: u) = G := ⟨_, rfl⟩
        have hGl : G.length ≤ l.length := by rw [← hG]; exact hml
        rw [hG] at HF
        clear HG
        go_loop [1, 2] (fun sv xv => ∃ (n : List UInt8) (y : Int), sv = .string ⟨n.toArray⟩ ∧ xv = .int .i64 y ∧ trimR0 G = trimR0 n ∧ n.length ≤ G.length ∧ y + n.length = x + G.length) (fun sv _ => slen sv)
        case atStart => exact ⟨G, x, by rw [← hG], rfl, rfl, Nat.le_refl _, rfl⟩
        case round =>
          obtain ⟨n, y, rfl, rfl, hn, hnl, hy⟩ := hrel
          rcases snoc_cases n with rfl | ⟨v, d, hv, hvl, hgd, hex⟩
          · have HN2 : Hid (formR neg l x = Num.zero) := Lib.hid (by rw [HF.out, formG, if_pos (by rw [hn]; rfl)])
            clear hn hG
            obtain ⟨c0, c1, c2, f0, f1, f2, hp⟩ := HN.out.cells
            go_wp2_with fail
            have hN := (HN.out.store Num.zero).cells
            simp only [Num.zero] at hN
            obtain ⟨d0, d1, d2, _⟩ := hN
            exact bodyPost_ret (v := .agg #[.bool false, .string ⟨#[]⟩, .int .i64 0]) (by simp [results, Tryd.results88, go_sem, d0, d1, d2]) rfl ⟨by rw [HN2.out]; rfl, below_store HE.out (Nat.le_refl _) _ _ _⟩
          · have hm2 := trimR0_snoc v d
            rw [← hv] at hm2
            by_cases hd : d = 48
            · have hd2 : ((d.toNat : Int) == 48) = true := by rw [hd]; rfl
              have HY : Hid (y + 1 + v.length = x + G.length) := Lib.hid (by omega)
              have hyb : y ≤ 100000000000 := by omega
              have hyc : -100000000000 ≤ y := by omega
              have HH : Hid (trimR0 G = trimR0 v) := Lib.hid (by rw [hn, hm2, if_pos hd])
              have hvb : v.length < 1000000 := by omega
              have HVL : Hid (v.length ≤ G.length) := Lib.hid (by omega)
              have HNL := Lib.hid (sx_size n)
              clear hd hm2 hn hy hG hnl hv
              go_wp2_with fail
              go_round
              case rel => exact ⟨v, y + 1, rfl, by go_num, HH.out, HVL.out, HY.out⟩
              case measure => simp only [slen]; rw [HNL.out, sx_size, hvl]; omega
            · have hd2 : ((d.toNat : Int) == 48) = false := by
                have : ¬ d.toNat = 48 := fun e => hd (UInt8.toNat_inj.1 e)
                simp; omega
              have HH : Hid (formR neg l x = ⟨neg, n, y⟩) := Lib.hid (by
                rw [HF.out, formG, hn, hm2, if_neg hd, if_neg (by rw [hv]; simp)]
                congr 1
                omega)
              have hemp : n.isEmpty = false := by rw [hv]; simp
              have hvb : v.length < 1000000 := by omega
              obtain ⟨c0, c1, c2, f0, f1, f2, hp⟩ := HN.out.cells
              clear hd hm2 hn hG hy hex hv
              go_wp2_with fail
              have hN := (HN.out.store ⟨neg, n, y⟩).cells
              simp only at hN
              obtain ⟨d0, d1, d2, _⟩ := hN
              exact bodyPost_ret (v := .agg #[.bool neg, .string ⟨n.toArray⟩, .int .i64 y]) (by simp [results, Tryd.results88, go_sem, d0, d1, d2]) rfl ⟨by rw [HH.out], below_store HE.out (Nat.le_refl _) _ _ _⟩
theorem sane_cons (neg : Bool) (c : UInt8) (t : List UInt8) (x : Int) (z : UInt8) (hz : (c :: t).getLast? = some z) : sane ⟨neg, c :: t, x⟩ = ((c :: t).all isDig && decide (t.length + 1 ≤ 40) && decide (-400 ≤ (t.length : Int) + 1 + x) && decide ((t.length : Int) + 1 + x ≤ 400) && decide (c ≠ 48) && decide (z ≠ 48)) := by
  have hlen : (c :: t).length = t.length + 1 := rfl
  have e1 : (some c != some (48 : UInt8)) = decide (c ≠ 48) := by rw [Bool.eq_iff_iff]; simp
  have e2 : (some z != some (48 : UInt8)) = decide (z ≠ 48) := by rw [Bool.eq_iff_iff]; simp
  simp only [sane, hlen, height]
  rw [if_neg (by omega), hz, List.head?_cons, e1, e2]
  by_cases h1 : (c :: t).all isDig = true
  · rw [h1]
    by_cases h2 : t.length + 1 ≤ 40
    · rw [if_neg (by simp; omega)]
      by_cases h3 : x < -800 ∨ 800 < x
      · rw [if_pos (by simpa using h3)]
        rw [eq_comm, Bool.eq_false_iff]
        simp; omega
      · rw [if_neg (by simpa using h3)]
        simp [h2]
    · rw [if_pos (by simp; omega)]; simp; omega
  · have h1' : (c :: t).all isDig = false := by simpa using h1
    rw [h1', if_pos (by simp)]; simp
set_option maxHeartbeats 1600000 in
theorem r2sane_any (d : Num) (w : World) (hl : d.digits.length ≤ 140737488355328) :
    Calls Tryd.prog 98 #[.agg #[.bool d.neg, .string ⟨d.digits.toArray⟩, .int .i64 d.exp]] w fun e w' => e = .returned (.bool (sane d)) ∧ Ext w w' := by
  obtain ⟨neg, l, x⟩ := d
  have hE : Ext w (w.alloc (.cells #[.bool neg, .string ⟨l.toArray⟩, .int .i64 x] 25)) := (ext_refl w).alloc (Nat.le_refl _) _
  cases l with
  | nil =>
    cases neg with
    | true =>
      go_enter Tryd.func98, Tryd.ntmps98
      go_wp2_with fail
      go_ret
      exact ⟨rfl, hE⟩
    | false =>
      by_cases hx : x = 0
      · subst hx
        go_enter Tryd.func98, Tryd.ntmps98
        go_wp2_with fail
        go_ret
        exact ⟨rfl, hE⟩
      · have hx0 : (x == 0) = false := by simpa using hx
        have hs : Hid (sane ⟨false, [], x⟩ = false) := Lib.hid (by simp [sane, hx])
        clear hx
        go_enter Tryd.func98, Tryd.ntmps98
        go_wp2_with fail
        go_ret
        exact ⟨ret_bool hs.out.symm, hE⟩
  | cons c t =>
    obtain ⟨z, hz⟩ : ∃ z, (c :: t).getLast? = some z := by cases h : (c :: t).getLast? with | none => simp at h | some z => exact ⟨z, rfl⟩
    have HS := Lib.hid (sane_cons neg c t x z hz)
    have hz2 : ∀ h, (ByteArray.mk (c :: t).toArray)[t.length]'h = z := fun h => by
      rw [List.getLast?_eq_getElem?] at hz
      simp only [List.length_cons, Nat.add_sub_cancel] at hz
      have h2 := sx_get (c :: t) t.length (by simp)
      rw [List.getElem?_eq_getElem (by simp)] at hz
      rw [h2]; simpa using hz
    have h0 : ∀ h, (ByteArray.mk (c :: t).toArray)[0]'h = c := fun _ => rfl
    have hlc : (c :: t).length = t.length + 1 := rfl
    have hl1 : t.length < 140737488355328 := by simp at hl; omega
    have hne : (((t.length : Int) + 1) == 0) = false := by simp; omega
    clear hz hl
    generalize c :: t = L at *
    have hblk := heap_alloc_new w (.cells #[.bool neg, .string ⟨L.toArray⟩, .int .i64 x] 25)
    go_enter Tryd.func98, Tryd.ntmps98
    go_wp2_with fail
    generalize w.alloc (.cells #[.bool neg, .string ⟨L.toArray⟩, .int .i64 x] 25) = w0 at *
    have HB := Lib.hid hblk
    have c1 : w0.cell? ⟨w.heap.size, 1, none⟩ = some (.string ⟨L.toArray⟩) := by rw [cell_of_cells hblk]; rfl
    have c2 : w0.cell? ⟨w.heap.size, 2, none⟩ = some (.int .i64 x) := by rw [cell_of_cells hblk]; rfl
    clear hblk
    go_loop [4] (fun kv => ∃ k : Nat, kv = .int .i64 k ∧ k ≤ t.length + 1 ∧ ∀ i, (h : i < L.length) → i < k → isDig L[i] = true) (fun kv => t.length + 1 - (intOf kv).toNat)
    case atStart => exact ⟨0, rfl, by omega, fun i _ h => by omega⟩
    case round =>
      obtain ⟨k, rfl, hk, hall⟩ := hrel
      have HA := Lib.hid hall
      clear hall
      by_cases hlt : k < t.length + 1
      · have hkl : k < L.length := by omega
        have hg := sx_get L k hkl
        have HN : Hid (isDig L[k] = true → ∀ i, (h : i < L.length) → i < k + 1 → isDig L[i] = true) := Lib.hid (fun hd i h hi => by
          by_cases e : i = k
          · subst e; exact hd
          · exact HA.out i h (by omega))
        have HF : Hid (isDig L[k] = false → sane ⟨neg, L, x⟩ = false) := Lib.hid (fun hd => by
          have : L.all isDig = false := by
            rw [Bool.eq_false_iff]; intro h
            have := List.all_eq_true.1 h _ (List.getElem_mem hkl)
            rw [hd] at this; cases this
          rw [HS.out, this]; simp)
        generalize L[k] = d at *
        go_wp2_with fail
        refine (r2digit_any d _).mono ?_
        rintro e w1 ⟨rfl, rfl⟩
        cases hd : isDig d with
        | true =>
          go_wp2_with fail
          go_round
          case rel => exact ⟨k + 1, by go_num, by omega, HN.out hd⟩
          case measure => simp [intOf]; omega
        | false =>
          have HS2 := Lib.hid (HF.out hd)
          go_wp2_with fail
          go_ret
          exact ⟨ret_bool HS2.out.symm, hE⟩
      · obtain rfl : k = t.length + 1 := by omega
        have hal : L.all isDig = true := by
          rw [List.all_eq_true]; intro y hy
          obtain ⟨i, hi, rfl⟩ := List.getElem_of_mem hy
          exact HA.out i hi (by omega)
        have HS2 := HS.out
        rw [hal, Bool.true_and] at HS2
        have hs := Lib.hid HS2
        clear HS2 HS HA hal hk hlt
        by_cases h40 : t.length + 1 ≤ 40
        · by_cases h1 : -1000 ≤ x
          · by_cases h2 : x ≤ 1000
            · by_cases h3 : -400 ≤ (t.length : Int) + 1 + x
              · by_cases h4 : (t.length : Int) + 1 + x ≤ 400
                · by_cases h5 : c = 48
                  · have h5n : c.toNat = 48 := by rw [h5]; rfl
                    have H5 := Lib.hid h5
                    clear h5
                    (go_wp2_with fail
                     go_ret
                     exact ⟨ret_bool (by rw [hs.out]; symm; rw [Bool.eq_false_iff]; (try rw [H5.out]); simp; try omega), hE⟩)
                  · have h5n : ((c.toNat : Int) != 48) = true := by
                      have : ¬ c.toNat = 48 := fun e => h5 (UInt8.toNat_inj.1 e)
                      simp; omega
                    have H5 := Lib.hid h5
                    clear h5
                    go_wp2_with fail
                    go_ret
                    refine ⟨ret_bool ?_, hE⟩
                    rw [hs.out]
                    have e1 : ((z.toNat : Int) != 48) = decide (z ≠ 48) := by
                      rw [Bool.eq_iff_iff]; simp [← UInt8.toNat_inj]; omega
                    rw [e1]
                    simp [h40, h3, h4, H5.out]
                · (go_wp2_with fail
                   go_ret
                   exact ⟨ret_bool (by rw [hs.out]; symm; rw [Bool.eq_false_iff]; (try rw [H5.out]); simp; try omega), hE⟩)
              · (go_wp2_with fail
                 go_ret
                 exact ⟨ret_bool (by rw [hs.out]; symm; rw [Bool.eq_false_iff]; (try rw [H5.out]); simp; try omega), hE⟩)
            · (go_wp2_with fail
               go_ret
               exact ⟨ret_bool (by rw [hs.out]; symm; rw [Bool.eq_false_iff]; (try rw [H5.out]); simp; try omega), hE⟩)
          · (go_wp2_with fail
             go_ret
             exact ⟨ret_bool (by rw [hs.out]; symm; rw [Bool.eq_false_iff]; (try rw [H5.out]); simp; try omega), hE⟩)
        · (go_wp2_with fail
           go_ret
           exact ⟨ret_bool (by rw [hs.out]; symm; rw [Bool.eq_false_iff]; (try rw [H5.out]); simp; try omega), hE⟩)
set_option maxHeartbeats 800000 in
theorem r2told_any (d : Num) (w : World) (hl : d.digits.length ≤ 140737488355328) :
    Calls Tryd.prog 87 #[.agg #[.bool d.neg, .string ⟨d.digits.toArray⟩, .int .i64 d.exp]] w fun e w' => e = .returned (.tuple #[.agg #[.bool (toldP d).1.neg, .string ⟨(toldP d).1.digits.toArray⟩, .int .i64 (toldP d).1.exp], .int .i64 (toldP d).2]) ∧ Ext w w' := by
  have hm0 := NumAt.new w d
  have hE0 : Ext w (w.alloc (.cells #[.bool d.neg, .string ⟨d.digits.toArray⟩, .int .i64 d.exp] 25)) := (ext_refl w).alloc (Nat.le_refl _) _
  have hm1 := NumAt.new (w.alloc (.cells #[.bool d.neg, .string ⟨d.digits.toArray⟩, .int .i64 d.exp] 25)) Num.zero
  have hE1 : Ext (w.alloc (.cells #[.bool d.neg, .string ⟨d.digits.toArray⟩, .int .i64 d.exp] 25)) ((w.alloc (.cells #[.bool d.neg, .string ⟨d.digits.toArray⟩, .int .i64 d.exp] 25)).alloc (.cells #[.bool false, .string ⟨#[]⟩, .int .i64 0] 25)) := (ext_refl _).alloc (Nat.le_refl _) _
  have hs : (w.alloc (.cells #[.bool d.neg, .string ⟨d.digits.toArray⟩, .int .i64 d.exp] 25)).heap.size = w.heap.size + 1 := by simp
  simp only [Num.zero] at hm1
  have hm2 := hm0.ext hE1
  rw [hs] at hm1
  have hE := ext_trans hE0 hE1
  clear hE0 hE1 hm0 hs
  go_enter Tryd.func87, Tryd.ntmps87
  go_wp2_with fail
  generalize (w.alloc (.cells #[.bool d.neg, .string ⟨d.digits.toArray⟩, .int .i64 d.exp] 25)).alloc (.cells #[.bool false, .string ⟨#[]⟩, .int .i64 0] 25) = w1 at *
  refine (r2sane_any d _ hl).mono ?_
  rintro e w2 ⟨rfl, hw2⟩
  have hm3 := (hm2.ext hw2).cells
  have hm4 := hm1.ext hw2
  obtain ⟨c0, c1, c2, f0, f1, f2, hp⟩ := hm3
  obtain ⟨d0, d1, d2, g0, g1, g2, hq⟩ := hm4.cells
  have hE2 := ext_trans hE hw2
  have HM := Lib.hid hm4
  clear hE hw2 hm1 hm2 hm4
  cases hs : sane d with
  | true =>
    have HT : Hid (toldP d = (d, 0)) := Lib.hid (by rw [toldP, if_pos hs])
    go_wp2_with fail
    have hN := (HM.out.store d).cells
    obtain ⟨d0, d1, d2, _⟩ := hN
    exact bodyPost_ret (v := .tuple #[.agg #[.bool d.neg, .string ⟨d.digits.toArray⟩, .int .i64 d.exp], .int .i64 0]) (by simp [results, Tryd.results87, go_sem, d0, d1, d2]) rfl ⟨by rw [HT.out], below_store hE2 (by omega) _ _ _⟩
  | false =>
    have HT : Hid (toldP d = (Num.zero, 4)) := Lib.hid (by rw [toldP, if_neg (by rw [hs]; decide)])
    go_wp2_with fail
    have hN := (HM.out.store Num.zero).cells
    simp only [Num.zero] at hN
    obtain ⟨d0, d1, d2, _⟩ := hN
    exact bodyPost_ret (v := .tuple #[.agg #[.bool false, .string ⟨#[]⟩, .int .i64 0], .int .i64 4]) (by simp [results, Tryd.results87, go_sem, d0, d1, d2]) rfl ⟨by rw [HT.out]; rfl, below_store hE2 (by omega) _ _ _⟩
end Go.Proofs.YtckpndbmpigegaaDoor
end
