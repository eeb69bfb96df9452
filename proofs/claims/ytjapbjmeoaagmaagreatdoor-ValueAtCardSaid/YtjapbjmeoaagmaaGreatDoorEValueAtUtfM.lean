/- A text of this proof. -/
import Derived.Test.YtjapbjmeoaagmaaGreatDoorEValueAtUtf
set_option linter.unusedVariables false
set_option linter.unusedSimpArgs false
set_option maxRecDepth 100000
namespace Orange
theorem next_le (b : List UInt8) : (next b).2 ≤ 4 ∧ (next b).2 ≤ b.length := by
 rcases next_spec b with h | ⟨_, h2, t, h3⟩
 · simp [h]
 · have h4 := enc_pos (next b).1; have h5 : b.length = (enc (next b).1).length + t.length := by rw [← List.length_append, ← h3]
   omega
def checkF : Nat → List UInt8 → Int → Int
 | f + 1, x :: t, i => if (next (x :: t)).2 = 0 then i else checkF f ((x :: t).drop (next (x :: t)).2) (i + ((next (x :: t)).2 : Int))
 | _, _, _ => -1
def checkL (b : List UInt8) (i : Int) : Int := checkF b.length b i
def check (b : List UInt8) : Int := checkL b 0
theorem checkF_eq : ∀ (f : Nat) (b : List UInt8) (i : Int), b.length ≤ f → checkF f b i = checkL b i := by
 intro f; induction f using Nat.strongRecOn with
 | _ f ih =>
   intro b i hb; match f, b, hb with
   | 0, [], _ => rfl
   | _ + 1, [], _ => rfl
   | f + 1, x :: t, hb =>
     rw [checkL, List.length_cons, checkF, checkF]; by_cases h : (next (x :: t)).2 = 0
     · rw [if_pos h, if_pos h]
     · rw [if_neg h, if_neg h]; have hl : ((x :: t).drop (next (x :: t)).2).length ≤ t.length := by simp; omega
       have hb' : t.length ≤ f := by simpa using hb
       rw [ih f (by omega) _ _ (by omega)]; by_cases hf : t.length = f
       · rw [hf, ih f (by omega) _ _ (by omega)]
       · rw [ih t.length (by omega) _ _ hl]
theorem checkL_nil (i : Int) : checkL [] i = -1 := rfl
theorem checkL_cons (x : UInt8) (t : List UInt8) (i : Int) : checkL (x :: t) i = if (next (x :: t)).2 = 0 then i else checkL ((x :: t).drop (next (x :: t)).2) (i + ((next (x :: t)).2 : Int)) := by
 rw [checkL, List.length_cons, checkF]; by_cases h : (next (x :: t)).2 = 0
 · rw [if_pos h, if_pos h]
 · rw [if_neg h, if_neg h, checkF_eq _ _ _ (by simp; omega)]
end Orange
