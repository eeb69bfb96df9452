/- A text of this proof. -/
import Derived.Test.YtjapbjmeoaagmaaGreatDoorEValueAtMem
set_option linter.unusedVariables false
set_option linter.unusedSimpArgs false
set_option maxRecDepth 100000
namespace Go.Mem
theorem sx_get (l : List UInt8) (i : Nat) (h : i < l.length) : (ByteArray.mk l.toArray)[i]'(by show i < l.toArray.size; simpa using h) = l[i] := rfl
theorem b_ne (c k : UInt8) (z : Int) (hz : (k.toNat : Int) = z) (h : c ≠ k) : ((c.toNat : Int) == z) = false := by
 subst hz; have : ¬ c.toNat = k.toNat := fun e => h (UInt8.toNat_inj.1 e); simp; omega
end Go.Mem
