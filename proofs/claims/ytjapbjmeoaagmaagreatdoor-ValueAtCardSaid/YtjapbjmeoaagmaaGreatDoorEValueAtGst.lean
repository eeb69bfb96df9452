/- A text of this proof. -/
import Derived.Test.YtjapbjmeoaagmaaGreatDoorEValueAtGrowT
import Derived.Test.YtjapbjmeoaagmaaGreatDoorEValueAtDecC
set_option linter.unusedVariables false
set_option linter.unusedSimpArgs false
set_option maxRecDepth 100000
namespace Go.Grow
open Go.Mem Go.RowKit
def Gst (base : Nat) (Z D : Obj) (w w' : World) : Prop := Below base w w' ∧ ∀ b, b < w.heap.size → (w'.heap[b]? = w.heap[b]? ∨ (base ≤ b ∧ w.heap[b]? = some Z ∧ w'.heap[b]? = some D))
theorem Gst.ofExt {base : Nat} {Z D : Obj} {w w' : World} (h : Ext w w') (hb : base ≤ w.heap.size) : Gst base Z D w w' := ⟨h.mono hb, fun b hlt => .inl (h.block b hlt)⟩
theorem Gst.refl {base : Nat} {Z D : Obj} (w : World) : Gst base Z D w w := ⟨Below.refl _ _, fun b hb => .inl rfl⟩
theorem Gst.trans {base : Nat} {Z D : Obj} {w w' w'' : World} (h : Gst base Z D w w') (h' : Gst base Z D w' w'') : Gst base Z D w w'' := by
 refine ⟨h.1.trans h'.1, fun b hb => ?_⟩; have hb' : b < w'.heap.size := Nat.lt_of_lt_of_le hb h.1.size; rcases h.2 b hb with e | ⟨h0, e1, e2⟩
 · rcases h'.2 b hb' with e' | ⟨h0', e1', e2'⟩
   · exact .inl (e'.trans e)
   · exact .inr ⟨h0', e ▸ e1', e2'⟩
 · rcases h'.2 b hb' with e' | ⟨h0', e1', e2'⟩
   · exact .inr ⟨h0, e1, e'.trans e2⟩
   · exact .inr ⟨h0, e1, e2'⟩
end Go.Grow
namespace Go.Proofs.YtjapbjmeoaagmaaGreatDoor
open Go.RowKit Go.Mem Orange Go.Grow
end Go.Proofs.YtjapbjmeoaagmaaGreatDoor
