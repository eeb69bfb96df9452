/- A text of this proof. -/
import Derived.Test.YtjapbjmeoaagmaaGreatDoorEValueAtGrowT
set_option linter.unusedVariables false
set_option linter.unusedSimpArgs false
set_option maxRecDepth 100000
namespace Go.Grow
section
variable {P : Program} {ops : Array Oper} {G : World → World → Prop} {B : World → Prop} {anc : Nat → List Nat}
structure Wk (P : Program) (ops : Array Oper) (G : World → World → Prop) (B : World → Prop) (anc : Nat → List Nat) (I : Nat → Act → Option (Spec G)) (Q : Act → Env → Prop) (l : List Oper) (k : Nat) (a : Act) (F : Env) : Prop where
 out : walk P ops G B anc I Q l k a F
theorem Wk.step {I : Nat → Act → Option (Spec G)} {Q : Act → Env → Prop} {o : Oper} {rest : List Oper} {k : Nat} {a : Act} {F : Env} (h : ∀ K : Act → Env → Prop, (∀ a F, Wk P ops G B anc I Q rest (k + 1) a F → K a F) → Step P ops G B anc I o k a F K) : Wk P ops G B anc I Q (o :: rest) k a F :=
 ⟨walk_step (fun K hK => h K (fun a F w => hK a F w.out))⟩
theorem Wk.nil {I : Nat → Act → Option (Spec G)} {Q : Act → Env → Prop} {k : Nat} {a : Act} {F : Env} (h : Q a F) : Wk P ops G B anc I Q [] k a F := ⟨h⟩
theorem wp_region_litW {id : Nat} {Q : Exit → Act → World → Prop} {a : Act} {w : World} {l : List Oper} {I : Nat → Option (Spec G)} (hm : P.follows .mixedOrders = true) (hB : Region.lexB .any l.toArray = true) (hA : ancOk .any l.toArray anc = true)
 (hlast : ∀ w w', B w → G w w' → B w') (hw : B w.drew)
 (h : Wk P l.toArray G B anc (fun j _ => I j) (fun a' F => ∀ w', B w' → (∀ k, F k w') → Q .normal a' w') l 0 a (fun _ _ => True)) : (Code.region id l.toArray true).wp P Q a w := wp_region_lit hm hB hA hlast hw h.out
end
end Go.Grow
