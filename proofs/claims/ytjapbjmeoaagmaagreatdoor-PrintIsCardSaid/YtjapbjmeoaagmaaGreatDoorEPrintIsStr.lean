/- A text of this proof. -/
import Derived.Test.YtjapbjmeoaagmaaGreatDoorEPrintIsMem
set_option linter.unusedVariables false
set_option linter.unusedSimpArgs false
set_option maxRecDepth 100000
namespace Go.Mem
theorem sx_ext {a b : ByteArray} (h : a.data.toList = b.data.toList) : a = b := by
 cases a; cases b; congr 1; exact Array.toList_inj.1 h
theorem sx_mid (l : List UInt8) (f u : Nat) : ByteArray.extract ⟨l.toArray⟩ f u = ⟨((l.take u).drop f).toArray⟩ := by
 apply sx_ext
 simp [ByteArray.data_extract, Array.toList_extract, List.extract_eq_take_drop, List.drop_take]
theorem sx_take (l : List UInt8) (n : Nat) : ByteArray.extract ⟨l.toArray⟩ 0 n = ⟨(l.take n).toArray⟩ := by
 rw [sx_mid]; rfl
theorem sx_drop (l : List UInt8) (n m : Nat) (h : l.length ≤ m) : ByteArray.extract ⟨l.toArray⟩ n m = ⟨(l.drop n).toArray⟩ := by
 rw [sx_mid, List.take_of_length_le h]
theorem sx_get (l : List UInt8) (i : Nat) (h : i < l.length) : (ByteArray.mk l.toArray)[i]'(by show i < l.toArray.size; simpa using h) = l[i] := rfl
theorem sx_size (l : List UInt8) : (ByteArray.mk l.toArray).size = l.length := by show l.toArray.size = _; simp
theorem sx_app (a b : List UInt8) : (ByteArray.mk a.toArray) ++ (ByteArray.mk b.toArray) = ⟨(a ++ b).toArray⟩ := by
 apply sx_ext; simp
theorem ret_str {a b : List UInt8} (h : a = b) : Ending.returned (.string ⟨a.toArray⟩) = .returned (.string ⟨b.toArray⟩) := by rw [h]
end Go.Mem
