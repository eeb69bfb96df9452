/- Strings as lists of bytes: small laws. -/
import Derived.Test.YtckpndbmpigegaaDoorMem
set_option linter.unusedVariables false
set_option linter.unusedSimpArgs false
set_option maxRecDepth 100000
namespace Go.Mem
theorem sx_ext {a b : ByteArray} (h : a.data.toList = b.data.toList) : a = b := by
  cases a; cases b; congr 1; exact Array.toList_inj.1 h
/-- s[f:u] -/
theorem sx_mid (l : List UInt8) (f u : Nat) : ByteArray.extract ⟨l.toArray⟩ f u = ⟨((l.take u).drop f).toArray⟩ := by
  apply sx_ext
  simp [ByteArray.data_extract, Array.toList_extract, List.extract_eq_take_drop, List.drop_take]
theorem sx_sub (l : List UInt8) (k m : Nat) : ByteArray.extract ⟨l.toArray⟩ k (k + m) = ⟨((l.drop k).take m).toArray⟩ := by
  rw [sx_mid, List.drop_take, Nat.add_sub_cancel_left]
theorem sx_take (l : List UInt8) (n : Nat) : ByteArray.extract ⟨l.toArray⟩ 0 n = ⟨(l.take n).toArray⟩ := by
  rw [sx_mid]; rfl
theorem sx_drop (l : List UInt8) (n m : Nat) (h : l.length ≤ m) : ByteArray.extract ⟨l.toArray⟩ n m = ⟨(l.drop n).toArray⟩ := by
  rw [sx_mid, List.take_of_length_le h]
theorem sx_one (l : List UInt8) (k : Nat) (h : k < l.length) : ByteArray.extract ⟨l.toArray⟩ k (k + 1) = ⟨[l[k]].toArray⟩ := by
  rw [sx_mid]
  congr 1
  rw [List.take_succ_eq_append_getElem h, List.drop_append_of_le_length (by simp; omega), List.drop_eq_nil_of_le (by simp; omega)]; rfl
theorem sx_get (l : List UInt8) (i : Nat) (h : i < l.length) : (ByteArray.mk l.toArray)[i]'(by show i < l.toArray.size; simpa using h) = l[i] := rfl
theorem sx_size (l : List UInt8) : (ByteArray.mk l.toArray).size = l.length := by show l.toArray.size = _; simp
theorem sx_app (a b : List UInt8) : (ByteArray.mk a.toArray) ++ (ByteArray.mk b.toArray) = ⟨(a ++ b).toArray⟩ := by
  apply sx_ext; simp
theorem sx_of (s : ByteArray) : ∃ l : List UInt8, s = ⟨l.toArray⟩ := ⟨s.data.toList, by apply sx_ext; simp⟩
theorem ret_str {a b : List UInt8} (h : a = b) : Ending.returned (.string ⟨a.toArray⟩) = .returned (.string ⟨b.toArray⟩) := by rw [h]
theorem b_ne (c k : UInt8) (z : Int) (hz : (k.toNat : Int) = z) (h : c ≠ k) : ((c.toNat : Int) == z) = false := by
  subst hz
  have : ¬ c.toNat = k.toNat := fun e => h (UInt8.toNat_inj.1 e)
  simp; omega
theorem b_eq (c k : UInt8) (z : Int) (hz : (k.toNat : Int) = z) (h : c = k) : ((c.toNat : Int) == z) = true := by subst h; subst hz; simp
/-- a list is empty, or has a last byte -/
theorem snoc_cases (n : List UInt8) : n = [] ∨ ∃ v d, n = v ++ [d] ∧ n.length = v.length + 1 ∧ (∀ h, (ByteArray.mk n.toArray)[v.length]'h = d) ∧ ByteArray.extract ⟨n.toArray⟩ 0 v.length = ⟨v.toArray⟩ := by
  rcases List.eq_nil_or_concat n with h | ⟨v, d, h⟩
  · exact .inl h
  · rw [List.concat_eq_append] at h
    refine .inr ⟨v, d, h, by rw [h]; simp, fun hh => ?_, ?_⟩
    · subst h
      have := sx_get (v ++ [d]) v.length (by simp)
      rw [this]; simp
    · subst h; rw [sx_take, List.take_left]
/-- how long a slot's text is: for a loop's measure -/
def slen : Value → Nat | .string s => s.size | _ => 0
theorem slen_mk (l : List UInt8) : slen (.string ⟨l.toArray⟩) = l.length := sx_size l
end Go.Mem
