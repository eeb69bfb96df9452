/- Equality of numbers in boxes; a new box. -/
import Derived.Test.YtpheohgceepboaaDoorDecC
set_option linter.unusedVariables false
set_option linter.unusedSimpArgs false
set_option maxRecDepth 100000
namespace Go.Proofs.YtpheohgceepboaaDoor
open Go.RowKit Go.Mem Orange

theorem eql_dec (a b : Num) (w : World) : (binOp .eql 25 (.agg #[.bool a.neg, .string ⟨a.digits.toArray⟩, .int .i64 a.exp]) (.agg #[.bool b.neg, .string ⟨b.digits.toArray⟩, .int .i64 b.exp])).run Tryd.prog w = .ok (.bool (decide (a = b))) w := by
  obtain ⟨a1, a2, a3⟩ := a
  obtain ⟨b1, b2, b3⟩ := b
  simp only [Num.mk.injEq]
  by_cases h1 : a1 = b1
  · by_cases h2 : a2 = b2
    · by_cases h3 : a3 = b3
      · subst h1; subst h2; subst h3
        go_simp
      · have q3 : (a3 == b3) = false := by simpa using h3
        subst h1; subst h2
        go_simp
    · have q2 : (a2 == b2) = false := by simpa using h2
      subst h1
      go_simp
  · have q1 : (a1 == b1) = false := by simpa using h1
    go_simp
theorem neq_dec (a b : Num) (w : World) : (binOp .neq 25 (.agg #[.bool a.neg, .string ⟨a.digits.toArray⟩, .int .i64 a.exp]) (.agg #[.bool b.neg, .string ⟨b.digits.toArray⟩, .int .i64 b.exp])).run Tryd.prog w = .ok (.bool (decide (a ≠ b))) w := by
  obtain ⟨a1, a2, a3⟩ := a
  obtain ⟨b1, b2, b3⟩ := b
  simp only [ne_eq, Num.mk.injEq]
  by_cases h1 : a1 = b1
  · by_cases h2 : a2 = b2
    · by_cases h3 : a3 = b3
      · subst h1; subst h2; subst h3
        go_simp
      · have q3 : (a3 == b3) = false := by simpa using h3
        subst h1; subst h2
        go_simp
    · have q2 : (a2 == b2) = false := by simpa using h2
      subst h1
      go_simp
  · have q1 : (a1 == b1) = false := by simpa using h1
    go_simp
theorem eql_same (a : Num) (w : World) : (binOp .eql 25 (.agg #[.bool a.neg, .string ⟨a.digits.toArray⟩, .int .i64 a.exp]) (.agg #[.bool a.neg, .string ⟨a.digits.toArray⟩, .int .i64 a.exp])).run Tryd.prog w = .ok (.bool true) w := by
  rw [eql_dec, decide_eq_true rfl]
theorem nql_dec (a : Num) (w : World) : (binOp .neq 25 (.agg #[.bool a.neg, .string ⟨a.digits.toArray⟩, .int .i64 a.exp]) (.agg #[.bool a.neg, .string ⟨a.digits.toArray⟩, .int .i64 a.exp])).run Tryd.prog w = .ok (.bool false) w := by
  rw [neq_dec, decide_eq_false (fun h => h rfl)]
theorem ext_newnum (w : World) (d : Num) : Ext w (w.alloc (.cells #[.bool d.neg, .string ⟨d.digits.toArray⟩, .int .i64 d.exp] 25)) := (ext_refl w).alloc (Nat.le_refl _) _
end Go.Proofs.YtpheohgceepboaaDoor
