/- A text of this proof. -/
import Derived.Test.YtjapbjmeoaagmaaGreatDoorEValueAtDec
set_option linter.unusedVariables false
set_option linter.unusedSimpArgs false
set_option maxRecDepth 100000
namespace Orange
def digV (c : UInt8) : Nat := c.toNat - 48
def val : List UInt8 → Nat
 | [] => 0
 | c :: t => digV c * 10 ^ t.length + val t
def allD (l : List UInt8) : Prop := ∀ c ∈ l, isDig c = true
theorem allD.nil : allD [] := fun _ h => absurd h (by simp)
theorem allD.cons {c : UInt8} {t : List UInt8} (h : allD (c :: t)) : isDig c = true ∧ allD t := ⟨h c (List.mem_cons_self ..), fun x hx => h x (List.mem_cons_of_mem _ hx)⟩
theorem allD.app {a b : List UInt8} (ha : allD a) (hb : allD b) : allD (a ++ b) := fun x hx => (List.mem_append.1 hx).elim (ha x) (hb x)
def dgt (k : Nat) : UInt8 := UInt8.ofNat (48 + k)
def digs (N : Nat) : List UInt8 := if h : N = 0 then [] else digs (N / 10) ++ [dgt (N % 10)]
termination_by N
decreasing_by omega
theorem digs_zero : digs 0 = [] := by rw [digs]; simp
theorem digs_pos {N : Nat} (h : N ≠ 0) : digs N = digs (N / 10) ++ [dgt (N % 10)] := by rw [digs, dif_neg h]
def low (a b : Num) : Int := min a.exp b.exp
def under (d : Num) (m : Int) : Prop := d.digits = [] ∨ m ≤ d.exp
theorem under.low {a b : Num} : under a (low a b) ∧ under b (low a b) := ⟨.inr (by unfold Orange.low; omega), .inr (by unfold Orange.low; omega)⟩
theorem under.deep {d : Num} {m n : Int} (h : under d m) (hn : n ≤ m) : under d n := h.elim .inl (fun h => .inr (by omega))
end Orange
