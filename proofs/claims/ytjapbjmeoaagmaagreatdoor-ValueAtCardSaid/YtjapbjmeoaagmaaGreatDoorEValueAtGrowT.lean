/- A text of this proof. -/
import Derived.Test.YtjapbjmeoaagmaaGreatDoorEValueAtGrow
import Derived.Test.YtjapbjmeoaagmaaGreatDoorEValueAtMem
set_option linter.unusedVariables false
set_option linter.unusedSimpArgs false
set_option maxRecDepth 100000
namespace Go.Grow
open Go.Mem Go.RowKit
section
variable {P : Program} {ops : Array Oper} {G : World → World → Prop} {B : World → Prop} {anc : Nat → List Nat} {I : Nat → Act → Option (Spec G)} {Q : Act → Env → Prop} {o : Oper} {rest : List Oper} {k : Nat} {a : Act} {F : Env} {K : Act → Env → Prop}
def Step (P : Program) (ops : Array Oper) (G : World → World → Prop) (B : World → Prop) (anc : Nat → List Nat) (I : Nat → Act → Option (Spec G)) (o : Oper) (k : Nat) (a : Act) (F : Env) (K : Act → Env → Prop) : Prop :=
 (Region.wanted o (yielded ops a.tmps) = false ∧ K (a.put o.dst undef) F) ∨
 (Region.wanted o (yielded ops a.tmps) = true ∧ ((∃ s, I k a = some s ∧ relStep P G B (anc k) s o a F ∧ ∀ v, s.S v → K (a.put o.dst v) (upd F k (s.R v))) ∨
   (I k a = none ∧ ∃ v, detStep P G B (anc k) v o a F ∧ K (a.put o.dst v) F)))
theorem walk_step (h : ∀ K : Act → Env → Prop, (∀ a F, walk P ops G B anc I Q rest (k + 1) a F → K a F) → Step P ops G B anc I o k a F K) : walk P ops G B anc I Q (o :: rest) k a F := by
 unfold walk; rcases h _ (fun _ _ h => h) with ⟨h1, h2⟩ | ⟨h1, ⟨s, h2, h3⟩ | ⟨h2, h3⟩⟩
 · rw [if_neg (by simp [h1])]; exact h2
 · rw [if_pos h1]; simp only [h2]; exact h3
 · rw [if_pos h1]; simp only [h2]; exact h3
theorem step_off (hg : Region.wanted o (yielded ops a.tmps) = false) (h : K (a.put o.dst undef) F) : Step P ops G B anc I o k a F K := .inl ⟨hg, h⟩
theorem step_read (hg : Region.wanted o (yielded ops a.tmps) = true) (hI : I k a = none) (hG : ∀ w, G w w) (h : ∃ u, (∀ w, B w → facts (anc k) F w → (execOp a.eval o).run P w = .ok (.value u) w) ∧ K (a.put o.dst u) F) : Step P ops G B anc I o k a F K := by
 obtain ⟨u, hrun, h⟩ := h; refine .inr ⟨hg, .inr ⟨hI, u, fun w hb hf => ?_, h⟩⟩; rw [hrun w hb hf]; exact ⟨hG w, rfl⟩
theorem step_rel {s : Spec G} (hg : Region.wanted o (yielded ops a.tmps) = true) (hI : I k a = some s) (hrun : ∀ w, B w → facts (anc k) F w → relUpon P G s.S s.R w ((execOp a.eval o).run P w)) (h : ∀ v, s.S v → K (a.put o.dst v) (upd F k (s.R v))) : Step P ops G B anc I o k a F K :=
 .inr ⟨hg, .inl ⟨s, hI, hrun, h⟩⟩
theorem relUpon_value {S : Value → Prop} {R : Value → World → Prop} {w w' : World} {u : Value} (hG : G w w') (hS : S u) (hR : R u w') : relUpon P G S R w (.ok (.value u) w') := ⟨hG, hS, hR⟩
theorem relUpon_enter {S : Value → Prop} {R : Value → World → Prop} {w w' : World} {f : FuncId} {args : Array Value} (h : Calls P f args w' (fun e w'' => ∃ v, e = .returned v ∧ G w w'' ∧ S v ∧ R v w'')) : relUpon P G S R w (.ok (.enter f args) w') := h
end
def Spec.val (G : World → World → Prop) (u : Value) : Spec G := ⟨fun v => v = u, fun _ _ => True, ⟨u, rfl⟩, fun _ _ _ _ _ => trivial⟩
def Spec.slice (n c : Nat) (o : Obj) : Spec Ext := ⟨fun v => ∃ b, v = .slice (some ⟨b, 0, none⟩) n c, fun v w => ∃ b, v = .slice (some ⟨b, 0, none⟩) n c ∧ b < w.heap.size ∧ w.heap[b]? = some o, ⟨_, 0, rfl⟩,
 fun v w w' ⟨b, e, h1, h2⟩ hg => ⟨b, e, Nat.lt_of_lt_of_le h1 hg.size, by rw [hg.block b h1]; exact h2⟩⟩
end Go.Grow
