/- A text of this proof. -/
import Derived.Test.YtjapbjmeoaagmaaGreatDoorEPrintIsGrowT
import Derived.Test.YtjapbjmeoaagmaaGreatDoorEPrintIsDecC
set_option linter.unusedVariables false
set_option linter.unusedSimpArgs false
set_option maxRecDepth 100000
namespace Go.Grow
open Go.Mem Go.RowKit
def Gst (base : Nat) (Z D : Obj) (w w' : World) : Prop := Below base w w' ∧ ∀ b, b < w.heap.size → (w'.heap[b]? = w.heap[b]? ∨ (base ≤ b ∧ w.heap[b]? = some Z ∧ w'.heap[b]? = some D))
theorem Gst.ofExt {base : Nat} {Z D : Obj} {w w' : World} (h : Ext w w') (hb : base ≤ w.heap.size) : Gst base Z D w w' := ⟨h.mono hb, fun b hlt => .inl (h.block b hlt)⟩
theorem Gst.refl {base : Nat} {Z D : Obj} (w : World) : Gst base Z D w w := ⟨Below.refl _ _, fun b hb => .inl rfl⟩
theorem Gst.trans {base : Nat} {Z D : Obj} {w w' w'' : World} (h : Gst base Z D w w') (h' : Gst base Z D w' w'') : Gst base Z D w w'' := by
 refine ⟨h.1.trans h'.1, fun b hb => ?_⟩; have hb' : b < w'.heap.size := Nat.lt_of_lt_of_le hb h.1.size; rcases h.2 b hb with e | ⟨h0, e1, e2⟩
 · rcases h'.2 b hb' with e' | ⟨h0', e1', e2'⟩
   · exact .inl (e'.trans e)
   · exact .inr ⟨h0', e ▸ e1', e2'⟩
 · rcases h'.2 b hb' with e' | ⟨h0', e1', e2'⟩
   · exact .inr ⟨h0, e1, e'.trans e2⟩
   · exact .inr ⟨h0, e1, e2'⟩
theorem Gst.keepsD {base : Nat} {Z D : Obj} {w w' : World} (h : Gst base Z D w w') {p : Nat} (hp : p < w.heap.size) (hd : w.heap[p]? = some D) : w'.heap[p]? = some D := by
 rcases h.2 p hp with e | ⟨_, _, e⟩
 · exact e.trans hd
 · exact e
def specAlloc (base : Nat) (Z D : Obj) : Spec (Gst base Z D) := ⟨fun v => ∃ p, v = .pointer (some ⟨p, 0, none⟩), fun v w => ∃ p, v = .pointer (some ⟨p, 0, none⟩) ∧ base ≤ p ∧ p < w.heap.size ∧ (w.heap[p]? = some Z ∨ w.heap[p]? = some D), ⟨_, 0, rfl⟩,
 fun v w w' ⟨p, e, h1, h2, h3⟩ hg => ⟨p, e, h1, Nat.lt_of_lt_of_le h2 hg.1.size, by
  rcases h3 with h3 | h3
  · rcases hg.2 p h2 with q | ⟨_, _, q⟩
    · exact .inl (q.trans h3)
    · exact .inr q
  · exact .inr (hg.keepsD h2 h3)⟩⟩
def specStore (base : Nat) (Z D : Obj) (v0 : Value) : Spec (Gst base Z D) := ⟨fun v => v = undef, fun _ w => ∀ p, v0 = .pointer (some ⟨p, 0, none⟩) → base ≤ p ∧ p < w.heap.size ∧ w.heap[p]? = some D, ⟨_, rfl⟩,
 fun v w w' h hg p e => ⟨(h p e).1, Nat.lt_of_lt_of_le (h p e).2.1 hg.1.size, hg.keepsD (h p e).2.1 (h p e).2.2⟩⟩
def specV (G : World → World → Prop) (u : Value) : Spec G := Spec.val G u
end Go.Grow
namespace Go.Proofs.YtjapbjmeoaagmaaGreatDoor
open Go.RowKit Go.Mem Orange Go.Grow
abbrev numObj (d : Num) : Obj := .cells #[.bool d.neg, .string ⟨d.digits.toArray⟩, .int .i64 d.exp] 23 (0, 0)
theorem gst_store {w : World} {base p : Nat} {d0 d : Num} (h : NumAt w p d0) (hp : base ≤ p) (hz : d0 = Num.zero ∨ d0 = d) :
 Gst base (numObj Num.zero) (numObj d) w (((w.setCell ⟨p, 0, none⟩ (.bool d.neg)).setCell ⟨p, 1, none⟩ (.string ⟨d.digits.toArray⟩)).setCell ⟨p, 2, none⟩ (.int .i64 d.exp)) := by
 refine ⟨below_store (Below.refl _ _) hp _ _ _, fun b hb => ?_⟩; by_cases e : b = p
 · subst e; have hn : _ := h.store d; rcases hz with e | e
   · subst e; exact .inr ⟨hp, h, hn⟩
   · subst e; exact .inl (hn.trans h.symm)
 · exact .inl (by rw [Below.heap_setCell _ _ _ _ e, Below.heap_setCell _ _ _ _ e, Below.heap_setCell _ _ _ _ e])
end Go.Proofs.YtjapbjmeoaagmaaGreatDoor
