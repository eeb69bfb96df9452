/- parse: where the parser's places lie, and that an error is one (plain). -/
import Derived.Test.YtckpndbmpigegaaDoorPaV
set_option linter.unusedVariables false
set_option linter.unusedSimpArgs false
set_option maxRecDepth 100000
namespace Go.Proofs.YtckpndbmpigegaaDoor
open Go.RowKit Go.Mem Orange
/-- a place in the text; an error that is one -/
def Fine {α : Type} (xs : List UInt8) : PR α → Prop
  | .ok _ a _ => a ≤ xs.length
  | .err e b => e ≠ 0 ∧ b ≤ xs.length
theorem Fine.map {α β : Type} {xs : List UInt8} {f : α → β} {r : PR α} (h : Fine xs r) : Fine xs (r.map f) := by cases r <;> exact h
theorem textL_fine (xs : List UInt8) (n : Nat) : ∀ (f a : Nat) (out : List UInt8), a ≤ xs.length → Fine xs (textL xs n f a out)
  | 0, a, _, h => ⟨by decide, h⟩
  | f + 1, a, out, h => by
    rw [textL]
    split
    · rename_i h1
      exact (peekP_some h1 (by decide)).2
    split
    · exact ⟨by decide, h⟩
    rename_i h2
    have hne : (xs.drop a) ≠ [] := fun e => by rw [e] at h2; exact h2 (fun h => absurd h.1 (by decide))
    have hlt : a < xs.length := by
      rcases Nat.lt_or_ge a xs.length with h' | h'
      · exact h'
      · exact absurd (List.drop_of_length_le h') hne
    split
    · split
      · exact ⟨by decide, h⟩
      · refine textL_fine xs n f _ _ ?_
        have := escape_le (xs.drop (a + 1))
        rw [List.length_drop] at this
        omega
    · refine textL_fine xs n f _ _ ?_
      have := next_le (xs.drop a)
      rw [List.length_drop] at this
      omega
theorem textP_fine {xs : List UInt8} {a n : Nat} (h : a ≤ xs.length) : Fine xs (textP xs a n) := by
  rw [textP]
  split
  · rename_i h1
    obtain ⟨hl, _⟩ := List.getElem?_eq_some_iff.1 h1
    exact textL_fine xs n _ _ _ hl
  · exact ⟨by decide, h⟩
theorem listP_fine {σ : Type} {xs : List UInt8} {c : UInt8} {item : σ → Nat → Nat → PR σ} (hi : ∀ s a n, a ≤ xs.length → Fine xs (item s a n)) : ∀ (f : Nat) (s : σ) (a n : Nat), a ≤ xs.length → Fine xs (listP xs c item f s a n)
  | 0, _, _, _, h => ⟨by decide, h⟩
  | f + 1, s, a, n, h => by
    rw [listP]
    have h1 := hi s a n h
    cases hr : item s a n with
    | err e b => rw [hr] at h1; exact h1
    | ok s1 a1 n1 =>
      simp only
      split
      · rename_i h44
        exact listP_fine hi f _ _ _ (peekP_some h44 (by decide)).2
      split
      · rename_i hc
        obtain ⟨hl, _⟩ := List.getElem?_eq_some_iff.1 hc
        exact hl
      · exact ⟨by decide, whiteN_le _ _⟩
theorem openP_fine {σ : Type} {xs : List UInt8} {c : UInt8} (hc : c ≠ 0) {item : σ → Nat → Nat → PR σ} (hi : ∀ s a n, a ≤ xs.length → Fine xs (item s a n)) (s : σ) (a n : Nat) : Fine xs (openP xs c item s a n) := by
  rw [openP]
  split
  · rename_i h1
    exact (peekP_some h1 hc).2
  · exact listP_fine hi _ _ _ _ (whiteN_le _ _)
theorem itemA_fine {xs : List UInt8} {r : Nat → Nat → PR Tree} (hr : ∀ a n, a ≤ xs.length → Fine xs (r a n)) (acc : List Tree) (a n : Nat) (h : a ≤ xs.length) : Fine xs (itemA r acc a n) := (hr a n h).map
theorem itemO_fine {xs : List UInt8} {r : Nat → Nat → PR Tree} (hr : ∀ a n, a ≤ xs.length → Fine xs (r a n)) (acc : List (List UInt8 × Tree)) (a n : Nat) (h : a ≤ xs.length) : Fine xs (itemO xs r acc a n) := by
  unfold itemO
  have h1 := textP_fine (n := n) (whiteN_le xs a)
  cases ht : textP xs (whiteN xs a) n with
  | err e b => rw [ht] at h1; exact h1
  | ok key a1 n1 =>
    simp only
    split
    · exact ⟨by decide, whiteN_le _ _⟩
    split
    · rename_i h58
      obtain ⟨hl, _⟩ := List.getElem?_eq_some_iff.1 h58
      exact (hr _ _ hl).map
    · exact ⟨by decide, whiteN_le _ _⟩
theorem valueP_fine {xs : List UInt8} : ∀ (f deep a n : Nat), a ≤ xs.length → Fine xs (valueP xs f deep a n)
  | 0, _, _, _, h => ⟨by decide, h⟩
  | f + 1, deep, a, n, h => by
    have hwl := whiteN_le xs a
    have hword : ∀ (s : List UInt8) t0, Fine xs (wordP xs s t0 (whiteN xs a) (n + 1)) := fun s t0 => by
      unfold wordP
      split
      · rename_i h1
        have := congrArg List.length h1
        rw [List.length_take, List.length_drop] at this
        show _ ≤ _
        omega
      · exact ⟨by decide, hwl⟩
    rw [valueP]
    split
    · exact ⟨by decide, hwl⟩
    split
    · exact ⟨by decide, hwl⟩
    split
    · exact hword _ _
    split
    · exact hword _ _
    split
    · exact hword _ _
    split
    · exact (textP_fine hwl).map
    split
    · split
      · exact ⟨by decide, hwl⟩
      · exact (openP_fine (by decide) (fun s a n h => itemA_fine (fun a n h => valueP_fine f _ _ _ h) s a n h) _ _ _).map
    split
    · split
      · exact ⟨by decide, hwl⟩
      · exact (openP_fine (by decide) (fun s a n h => itemO_fine (fun a n h => valueP_fine f _ _ _ h) s a n h) _ _ _).map
    · unfold numP
      simp only
      split
      · exact (numEnd_bd xs _ hwl).2
      · rename_i h9
        exact ⟨h9, hwl⟩
theorem oneP_fine (xs : List UInt8) (a : Int) : Fine xs (oneP xs a) := valueP_fine 65 0 _ _ (clampN_le _ _)
end Go.Proofs.YtckpndbmpigegaaDoor
