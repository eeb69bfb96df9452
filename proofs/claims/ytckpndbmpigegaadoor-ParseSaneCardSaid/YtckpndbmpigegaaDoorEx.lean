/- value: what the documents' Exact says. -/
import Derived.Test.YtckpndbmpigegaaDoorPaZ
set_option linter.unusedVariables false
set_option linter.unusedSimpArgs false
set_option maxRecDepth 100000
namespace Orange
mutual
def exactT : Tree → Tree → Bool
  | .mk k b d s l m, .mk k' b' d' s' l' m' => decide (k = k') && (b == b') && decide (d = d') && decide (s = s') && exactL l l' && exactM m m'
def exactL : List Tree → List Tree → Bool
  | [], [] => true
  | t :: l, t' :: l' => exactT t t' && exactL l l'
  | [], _ :: _ => false
  | _ :: _, [] => false
def exactM : List (List UInt8 × Tree) → List (List UInt8 × Tree) → Bool
  | [], [] => true
  | (k, t) :: l, (k', t') :: l' => decide (k = k') && exactT t t' && exactM l l'
  | [], _ :: _ => false
  | _ :: _, [] => false
end
theorem exactL_len : ∀ (l l' : List Tree), exactL l l' = true → l.length = l'.length
  | [], [], _ => rfl
  | t :: l, t' :: l', h => by rw [exactL, Bool.and_eq_true] at h; simp [exactL_len l l' h.2]
  | [], _ :: _, h => by rw [exactL] at h; cases h
  | _ :: _, [], h => by rw [exactL] at h; cases h
theorem exactM_len : ∀ (l l' : List (List UInt8 × Tree)), exactM l l' = true → l.length = l'.length
  | [], [], _ => rfl
  | (k, t) :: l, (k', t') :: l', h => by rw [exactM, Bool.and_eq_true] at h; simp [exactM_len l l' h.2]
  | [], _ :: _, h => by rw [exactM] at h; cases h
  | _ :: _, [], h => by rw [exactM] at h; cases h
mutual
theorem exactT_refl : ∀ t : Tree, exactT t t = true
  | .mk k b d s l m => by rw [exactT, exactL_refl l, exactM_refl m]; simp
theorem exactL_refl : ∀ l : List Tree, exactL l l = true
  | [] => by rw [exactL]
  | t :: l => by rw [exactL, exactT_refl t, exactL_refl l]; rfl
theorem exactM_refl : ∀ m : List (List UInt8 × Tree), exactM m m = true
  | [] => by rw [exactM]
  | (k, t) :: m => by rw [exactM, exactT_refl t, exactM_refl m]; simp
end
mutual
theorem exactT_eq : ∀ (t u : Tree), exactT t u = true → t = u
  | .mk k b d s l m, .mk k' b' d' s' l' m', h => by
    rw [exactT] at h
    simp only [Bool.and_eq_true, decide_eq_true_eq, beq_iff_eq] at h
    obtain ⟨⟨⟨⟨⟨rfl, rfl⟩, rfl⟩, rfl⟩, h5⟩, h6⟩ := h
    rw [exactL_eq l l' h5, exactM_eq m m' h6]
theorem exactL_eq : ∀ (l l' : List Tree), exactL l l' = true → l = l'
  | [], [], _ => rfl
  | t :: l, t' :: l', h => by rw [exactL, Bool.and_eq_true] at h; rw [exactT_eq t t' h.1, exactL_eq l l' h.2]
  | [], _ :: _, h => by rw [exactL] at h; cases h
  | _ :: _, [], h => by rw [exactL] at h; cases h
theorem exactM_eq : ∀ (l l' : List (List UInt8 × Tree)), exactM l l' = true → l = l'
  | [], [], _ => rfl
  | (k, t) :: l, (k', t') :: l', h => by
    rw [exactM, Bool.and_eq_true, Bool.and_eq_true, decide_eq_true_eq] at h
    rw [h.1.1, exactT_eq t t' h.1.2, exactM_eq l l' h.2]
  | [], _ :: _, h => by rw [exactM] at h; cases h
  | _ :: _, [], h => by rw [exactM] at h; cases h
end
end Orange
namespace Go.Proofs.YtckpndbmpigegaaDoor
open Go.RowKit Go.Mem Orange
/-- an element's cells -/
theorem TL.at {w : World} {A : Nat → Prop} : ∀ {l : List Tree} {cs : List Value} (i : Nat) (hi : i < l.length), TL w A l cs → ∃ c, TV w A l[i] c ∧ ∀ j, j < 8 → cs[i * 8 + j]? = c[j]?
  | t :: l, _, 0, hi, .cons (c := c) h1 h2 => ⟨c, h1, fun j hj => by
      rw [Nat.zero_mul, Nat.zero_add, List.getElem?_append_left (by rw [Array.length_toList, h1.size]; exact hj)]; simp⟩
  | t :: l, _, i + 1, hi, .cons (c := c0) h1 h2 => by
    obtain ⟨c, h3, h4⟩ := TL.at i (by simpa using hi) h2
    refine ⟨c, h3, fun j hj => ?_⟩
    rw [List.getElem?_append_right (by rw [Array.length_toList, h1.size]; omega), Array.length_toList, h1.size, ← h4 j hj]
    congr 1; omega
theorem TM.at {w : World} {A : Nat → Prop} : ∀ {l : List (List UInt8 × Tree)} {cs : List Value} (i : Nat) (hi : i < l.length), TM w A l cs → ∃ c, TV w A l[i].2 c ∧ cs[i * 9]? = some (.string ⟨l[i].1.toArray⟩) ∧ ∀ j, j < 8 → cs[i * 9 + 1 + j]? = c[j]?
  | (k, t) :: l, _, 0, hi, .cons (c := c) h1 h2 => ⟨c, h1, by simp, fun j hj => by
      rw [Nat.zero_mul, Nat.zero_add, List.cons_append, Nat.add_comm 1 j, List.getElem?_cons_succ, List.getElem?_append_left (by rw [Array.length_toList, h1.size]; exact hj)]; simp⟩
  | (k, t) :: l, _, i + 1, hi, .cons (c := c0) h1 h2 => by
    obtain ⟨c, h3, h4, h5⟩ := TM.at i (by simpa using hi) h2
    have hlen : (Value.string ⟨k.toArray⟩ :: c0.toList).length = 9 := by simp [h1.size]
    refine ⟨c, h3, ?_, fun j hj => ?_⟩
    · rw [List.getElem?_append_right (by rw [hlen]; omega), hlen, show (i + 1) * 9 - 9 = i * 9 by omega]; simpa using h4
    · rw [List.getElem?_append_right (by rw [hlen]; omega), hlen, ← h5 j hj]
      congr 1; omega
/-- a row's cells in memory -/
theorem RowAt.cells {w : World} {A : Nat → Prop} {z n : Nat} {a : Option Addr} {m cap : Nat} {cs : List Value} (h : RowAt w A z (.slice a m cap) n cs) (hn : 0 < n) : ∃ g o, a = some ⟨g, o, none⟩ ∧ g < w.heap.size ∧ ∀ i u, cs[i]? = some u → w.cell? ⟨g, o + i, none⟩ = some u := by
  obtain ⟨h0, a', c', e, h1, h2, h3⟩ := h
  simp only [Value.slice.injEq] at e
  obtain ⟨rfl, _, _⟩ := e
  obtain ⟨g, o, rfl, _, hlt, hc⟩ := h3 hn
  refine ⟨g, o, rfl, hlt, fun i u hu => ?_⟩
  obtain ⟨hi, rfl⟩ := List.getElem?_eq_some_iff.1 hu
  exact hc i hi
set_option maxHeartbeats 1600000 in
theorem neq_num (a b : Num) (w : World) : (binOp .neq 25 (.agg #[.bool a.neg, .string ⟨a.digits.toArray⟩, .int .i64 a.exp]) (.agg #[.bool b.neg, .string ⟨b.digits.toArray⟩, .int .i64 b.exp])).run Tryd.prog w = .ok (.bool (!decide (a = b))) w := by
  obtain ⟨a3, a4, a5⟩ := a
  obtain ⟨b3, b4, b5⟩ := b
  simp only [Num.mk.injEq]
  by_cases h3 : a3 = b3
  · by_cases h4 : a4 = b4
    · by_cases h5 : a5 = b5
      · subst h3; subst h4; subst h5
        go_simp
      · have q5 : (a5 == b5) = false := by simpa using h5
        subst h3; subst h4
        go_simp
    · have q4 : (a4 == b4) = false := by simpa using h4
      subst h3
      go_simp
  · have q3 : (a3 == b3) = false := by simpa using h3
    go_simp
end Go.Proofs.YtckpndbmpigegaaDoor
