/- Words of queries: plain definitions. -/
import Derived.Test.YtglcpfnfldaimaaDoorDec
import Derived.Test.YtglcpfnfldaimaaDoorUtfM
import Derived.Test.YtglcpfnfldaimaaDoorEsc
import Derived.Laws.RangeAny
set_option linter.unusedVariables false
set_option linter.unusedSimpArgs false
set_option maxRecDepth 100000
namespace Orange
open Go

/-- may a name begin by a character? -/
def letterR (r : Int) : Bool := (decide (97 ≤ r) && decide (r ≤ 122)) || (decide (65 ≤ r) && decide (r ≤ 90)) || decide (r = 95) || decide (127 < r)
def nameB (c : UInt8) : Bool := letterR c.toNat || isDig c
def nameLen (l : List UInt8) : Nat := (l.takeWhile nameB).length
def nameOk (l : List UInt8) : Bool := decide (check (l.take (nameLen l)) < 0)

/-- may a byte be in a number? -/
def numOk (behind : Bool) (c : UInt8) (t : List UInt8) : Bool :=
  isDig c || isE c || (decide (c.toNat = 43 ∨ c.toNat = 45) && behind) || (decide (c.toNat = 46) && decide (t.head? ≠ some 46))
def numLen (behind : Bool) : List UInt8 → Nat
  | [] => 0
  | c :: t => if numOk behind c t then numLen (isE c) t + 1 else 0

theorem get_list (l : List UInt8) (i : Nat) (h : i < l.length) : (ByteArray.mk l.toArray).get! i = l[i] := by
  simp [ByteArray.get!, h]
/-- the bytes of a character above 127 are above 127 -/
theorem decode_span (s : ByteArray) (pos : Nat) (h : pos < s.size) (ha : 128 ≤ (s[pos]'h).toNat) (k : Nat) (hk : k < (Utf8.decode s pos).2) : pos + k < s.size ∧ 128 ≤ (s.get! (pos + k)).toNat := by
  have hn : ¬ (s[pos]'h).toNat < 128 := by omega
  have hg : s.get! pos = s[pos] := by have := get_at s pos h; simpa using this
  simp only [Utf8.decode, Nat.add_zero, hg, hn, if_false] at hk
  have h0 : k = 0 → pos + k < s.size ∧ 128 ≤ (s.get! (pos + k)).toNat := by rintro rfl; exact ⟨h, by rw [Nat.add_zero, hg]; exact ha⟩
  have hc : ∀ j, (decide (pos + j < s.size) && ((s.get! (pos + j)).toNat / 64 == 2)) = true → pos + j < s.size ∧ 128 ≤ (s.get! (pos + j)).toNat := by
    intro j hj
    simp only [Bool.and_eq_true, decide_eq_true_eq, beq_iff_eq] at hj
    exact ⟨hj.1, by omega⟩
  split at hk
  · rename_i hh
    simp only [Bool.and_eq_true] at hh
    have hk2 : k < 2 := by split at hk <;> simp at hk <;> omega
    rcases (by omega : k = 0 ∨ k = 1) with rfl | rfl
    · exact h0 rfl
    · exact hc 1 (by simpa using hh.2)
  split at hk
  · rename_i hh
    simp only [Bool.and_eq_true] at hh
    have hk2 : k < 3 := by split at hk <;> simp at hk <;> omega
    rcases (by omega : k = 0 ∨ k = 1 ∨ k = 2) with rfl | rfl | rfl
    · exact h0 rfl
    · exact hc 1 (by simpa using hh.1.2)
    · exact hc 2 (by simpa using hh.2)
  split at hk
  · rename_i hh
    simp only [Bool.and_eq_true] at hh
    have hk2 : k < 4 := by split at hk <;> simp at hk <;> omega
    rcases (by omega : k = 0 ∨ k = 1 ∨ k = 2 ∨ k = 3) with rfl | rfl | rfl | rfl
    · exact h0 rfl
    · exact hc 1 (by simpa using hh.1.1.2)
    · exact hc 2 (by simpa using hh.1.2)
    · exact hc 3 (by simpa using hh.2)
  · exact h0 (by simp at hk; omega)
theorem nameB_high (c : UInt8) (h : 128 ≤ c.toNat) : nameB c = true := by
  unfold nameB letterR
  have : decide (127 < (c.toNat : Int)) = true := by simp; omega
  rw [this]; simp
theorem nameLen_ge (l : List UInt8) (n : Nat) (hn : n ≤ l.length) (h : ∀ i, (hi : i < l.length) → i < n → nameB l[i] = true) : n ≤ nameLen l := by
  induction l generalizing n with
  | nil => simp at hn; omega
  | cons c t ih =>
    cases n with
    | zero => omega
    | succ n =>
      have h0 := h 0 (by simp) (by omega)
      simp only [List.getElem_cons_zero] at h0
      unfold nameLen
      rw [List.takeWhile_cons, if_pos h0, List.length_cons]
      have := ih n (by simpa using hn) (fun i hi hin => by have := h (i + 1) (by simp; omega) (by omega); simpa using this)
      unfold nameLen at this; omega
theorem nameLen_at (l : List UInt8) (n : Nat) (hn : n < l.length) (h : ∀ i, (hi : i < l.length) → i < n → nameB l[i] = true) (hs : nameB l[n] = false) : nameLen l = n := by
  induction l generalizing n with
  | nil => simp at hn
  | cons c t ih =>
    cases n with
    | zero =>
      simp only [List.getElem_cons_zero] at hs
      unfold nameLen; rw [List.takeWhile_cons, hs]; rfl
    | succ n =>
      have h0 := h 0 (by simp) (by omega)
      simp only [List.getElem_cons_zero] at h0
      have := ih n (by simpa using hn) (fun i hi hin => by have := h (i + 1) (by simp; omega) (by omega); simpa using this) (by simpa using hs)
      unfold nameLen at this ⊢
      rw [List.takeWhile_cons, if_pos h0, List.length_cons, this]
theorem nameLen_le (l : List UInt8) : nameLen l ≤ l.length := (List.takeWhile_sublist (p := nameB) (l := l)).length_le
theorem numLen_le : ∀ (b : Bool) (l : List UInt8), numLen b l ≤ l.length
  | _, [] => by simp [numLen]
  | b, c :: t => by rw [numLen]; split <;> simp; exact numLen_le _ t
end Orange
