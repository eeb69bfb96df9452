/- A region that draws its order, makes bytes, parses, and lays the value into a new variable that nobody reads. -/
import Derived.Test.YtckpndbmpigegaaDoorPaAp
set_option linter.unusedVariables false
set_option linter.unusedSimpArgs false
set_option maxRecDepth 100000
namespace Go.Proofs.YtckpndbmpigegaaDoor
open Go.RowKit Go.Mem Orange
/-- below base nothing turns; above it nothing but variables that hold a value -/
structure GW (base : Nat) (w w' : World) : Prop where
  below : Below base w w'
  block : ∀ b, b < w.heap.size → (w'.heap[b]? = w.heap[b]? ∨ ∃ c c', VAt w b c ∧ VAt w' b c' ∧ c.size = 8 ∧ c'.size = 8)
theorem GW.ofExt {base : Nat} {w w' : World} (h : Ext w w') (hb : base ≤ w.heap.size) : GW base w w' := ⟨h.mono hb, fun b hlt => .inl (h.block b hlt)⟩
theorem GW.refl {base : Nat} (w : World) : GW base w w := ⟨Below.refl _ _, fun b hb => .inl rfl⟩
theorem GW.trans {base : Nat} {w w1 w2 : World} (h : GW base w w1) (k : GW base w1 w2) : GW base w w2 := by
  refine ⟨h.below.trans k.below, fun b hb => ?_⟩
  have hb1 := Nat.lt_of_lt_of_le hb h.below.size
  rcases h.block b hb with e | ⟨c, c', h1, h2, h3, h4⟩
  · rcases k.block b hb1 with e' | ⟨c, c', h1, h2, h3, h4⟩
    · exact .inl (e'.trans e)
    · exact .inr ⟨c, c', by unfold VAt at h1 ⊢; rw [← e]; exact h1, h2, h3, h4⟩
  · rcases k.block b hb1 with e' | ⟨d, d', i1, i2, i3, i4⟩
    · exact .inr ⟨c, c', h1, by unfold VAt at h2 ⊢; rw [e']; exact h2, h3, h4⟩
    · exact .inr ⟨c, d', h1, i2, h3, i4⟩
theorem bytes_block {w w' : World} {g o n cap : Nat} {ys : List UInt8} (h : Bytes w (.slice (some ⟨g, o, none⟩) n cap) ys) (hs : w.heap.size ≤ w'.heap.size) (he : w'.heap[g]? = w.heap[g]?) : Bytes w' (.slice (some ⟨g, o, none⟩) n cap) ys := by
  obtain ⟨a, c, e, h1, h2, h3, h4⟩ := h
  simp only [Value.slice.injEq] at e
  obtain ⟨rfl, rfl, rfl⟩ := e
  refine ⟨_, _, rfl, h1, h2, h3, fun hn => ?_⟩
  obtain ⟨b', o', e, hlt, hc⟩ := h4 hn
  simp only [Option.some.injEq, Addr.mk.injEq, and_true] at e
  obtain ⟨rfl, rfl⟩ := e
  refine ⟨g, o, rfl, Nat.lt_of_lt_of_le hlt hs, fun i hi => ?_⟩
  rw [World.cell?_of_block (w := w) (a := ⟨g, o + i, none⟩) he]
  exact hc i hi
def specU (base : Nat) (ys : List UInt8) : Grow.Spec (GW base) :=
  ⟨fun v => ∃ a c, v = .slice a ys.length c, fun v w => ∃ g cap cur fr, v = .slice (some ⟨g, 0, none⟩) ys.length cap ∧ w.heap[g]? = some (.cells cur 5 fr) ∧ Bytes w v ys, ⟨_, none, 0, rfl⟩,
    fun v w w' ⟨g, cap, cur, fr, e, h1, h2⟩ hg => by
      have hlt := (Array.getElem?_eq_some_iff.1 h1).1
      rcases hg.block g hlt with e1 | ⟨c, c', h3, _⟩
      · subst e
        exact ⟨g, cap, cur, fr, rfl, e1.trans h1, bytes_block h2 hg.below.size e1⟩
      · unfold VAt at h3
        rw [h1] at h3
        simp at h3⟩
def specBox (base : Nat) : Grow.Spec (GW base) :=
  ⟨fun v => ∃ p, v = .pointer (some ⟨p, 0, none⟩), fun v w => ∃ p c, v = .pointer (some ⟨p, 0, none⟩) ∧ base ≤ p ∧ VAt w p c ∧ c.size = 8, ⟨_, 0, rfl⟩,
    fun v w w' ⟨p, c, e, h0, h1, h2⟩ hg => by
      rcases hg.block p h1.lt with e1 | ⟨c, c', _, h4, _, h6⟩
      · exact ⟨p, c, e, h0, by unfold VAt at h1 ⊢; rw [e1]; exact h1, h2⟩
      · exact ⟨p, c', e, h0, h4, h6⟩⟩
def specT (base : Nat) (e k : Int) : Grow.Spec (GW base) :=
  ⟨fun v => ∃ a1 c1 a2 c2, v = .tuple #[.agg (cellsV 0 false Num.zero [] (.slice a1 0 c1) (.slice a2 0 c2)), .int .i64 e, .int .i64 k], fun _ _ => True, ⟨_, none, 0, none, 0, rfl⟩, fun _ _ _ _ _ => trivial⟩
def specN (base : Nat) : Grow.Spec (GW base) := ⟨fun v => v = undef, fun _ _ => True, ⟨_, rfl⟩, fun _ _ _ _ _ => trivial⟩
theorem gw_store {base p : Nat} {w : World} {c : Array Value} {us : List Value} (h : VAt w p c) (hp : base ≤ p) (h8 : c.size = 8) : GW base w (storeL w p 0 us) := by
  have hk := storeL_kept us (w := w) (g := p) (k := 0) (B := base)
  refine ⟨hk.below hp, fun b hb => ?_⟩
  by_cases e : b = p
  · subst e
    exact .inr ⟨c, putL c 0 us, h, storeL_self us h, h8, by rw [putL_size]; exact h8⟩
  · exact .inl (storeL_other us e)
theorem eight_cells {w : World} {p : Nat} {c : Array Value} (h : VAt w p c) (h8 : c.size = 8) (i : Nat) (hi : i < 8) : ∃ u, w.cell? ⟨p, i, none⟩ = some u := ⟨c[i], by rw [h.cell i]; simp [h8, hi]⟩
end Go.Proofs.YtckpndbmpigegaaDoor
