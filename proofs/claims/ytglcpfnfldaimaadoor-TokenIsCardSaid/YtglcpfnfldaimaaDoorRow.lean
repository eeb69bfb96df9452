/- Slices whose elements are one cell each: as a list of values. -/
import Derived.Test.YtglcpfnfldaimaaDoorConv
set_option linter.unusedVariables false
set_option maxRecDepth 100000
namespace Go.Mem
open Go.RowKit

/-- a slice value that reads as a list of values of one cell each -/
def Row (w : World) (v : Value) (vs : List Value) : Prop :=
  ∃ a cap, v = .slice a vs.length cap ∧ vs.length ≤ cap ∧ cap ≤ 9223372036854775807 ∧
    (0 < vs.length → ∃ b o, a = some ⟨b, o, none⟩ ∧ b < w.heap.size ∧ ∀ i, (h : i < vs.length) → w.cell? ⟨b, o + i, none⟩ = some vs[i])
theorem Row.ext {w w' : World} {v : Value} {vs : List Value} (h : Row w v vs) (hb : Ext w w') : Row w' v vs := by
  obtain ⟨a, cap, e, h1, h2, h3⟩ := h
  refine ⟨a, cap, e, h1, h2, fun hn => ?_⟩
  obtain ⟨b, o, rfl, hlt, hc⟩ := h3 hn
  refine ⟨b, o, rfl, Nat.lt_of_lt_of_le hlt hb.size, fun i hi => ?_⟩
  rw [hb.cell (p := ⟨b, o + i, none⟩) hlt]
  exact hc i hi

/-- such a slice of the call's own -/
def OwnV (w : World) (base : Nat) (e : TypeId) (v : Value) (vs : List Value) : Prop := w.ownsRow base e 1 v vs.length vs
theorem OwnV.nil (w : World) (base : Nat) (e : TypeId) : OwnV w base e (.slice none 0 0) [] := World.ownsRow_nil w base e 1
theorem OwnV.ext {w w' : World} {base : Nat} {e : TypeId} {v : Value} {vs : List Value} (h : OwnV w base e v vs) (hb : Ext w w') : OwnV w' base e v vs := by
  obtain ⟨h1, h2⟩ := h
  refine ⟨h1, ?_⟩
  rcases h2 with h2 | ⟨g, cap, cur, rfl, hbg, hg, r⟩
  · exact .inl h2
  · exact .inr ⟨g, cap, cur, rfl, hbg, by rw [hb.block g (Array.getElem?_eq_some_iff.1 hg).1]; exact hg, r⟩
theorem OwnV.shape {w : World} {base : Nat} {e : TypeId} {v : Value} {vs : List Value} (h : OwnV w base e v vs) : ∃ a c, v = .slice a vs.length c := by
  rcases h.2 with ⟨rfl, h0⟩ | ⟨g, cap, cur, rfl, _⟩
  · exact ⟨_, _, by rw [h0]⟩
  · exact ⟨_, _, rfl⟩
theorem OwnV.row {w : World} {base : Nat} {e : TypeId} {v : Value} {vs : List Value} (h : OwnV w base e v vs) : Row w v vs := by
  obtain ⟨h1, h2⟩ := h
  rcases h2 with ⟨rfl, h0⟩ | ⟨g, cap, cur, rfl, hb, hg, hnc, hcm, hcs, ht⟩
  · exact ⟨none, 0, by rw [h0], by omega, by omega, fun hn => by omega⟩
  · have hcm' : cap ≤ 9223372036854775807 := by simpa [maxLen] using hcm
    refine ⟨_, _, rfl, hnc, hcm', fun hn => ⟨g, 0, rfl, (Array.getElem?_eq_some_iff.1 hg).1, fun i hi => ?_⟩⟩
    have hc : vs[i]? = some vs[i] := by simp [hi]
    rw [Nat.mul_one] at ht
    conv at hc => lhs; rw [← ht]
    rw [List.getElem?_take] at hc
    simp only [hi, if_true, Array.getElem?_toList] at hc
    simp [World.cell?, hg, hc]
section
variable {P : Program}
/-- append of one value -/
theorem wpList_append_one {ops : Array Oper} {rest : List Oper} {o : Oper} {a : Act} {w : World} {Q : Exit → Act → World → Prop} (hgd : Region.wanted o (yielded ops a.tmps) = true) (s xo : Operand) (t tx : TypeId)
    (ho : o.op = .call { callee := .builtin .append, args := #[s, xo], argTypes := #[t, tx] })
    (base : Nat) (e : TypeId) (i : TypeInfo) (z : Value) (bytes : Nat) (ht : P.underlying t = some (.slice e)) (hi : P.info? e = some i) (hz : i.zero = some z) (hsize : i.size = 1) (hby : i.bytes = bytes) (hzs : z.cells.size = 1)
    (htx : ∃ e', P.underlying tx = some (.slice e'))
    (v : Value) (vs : List Value) (hs : a.eval s = v) (hown : OwnV w base e v vs) (g : Nat) (u : Value) (te : TypeId) (fr : Nat × Nat) (hx : a.eval xo = .slice (some ⟨g, 0, none⟩) 1 1) (hg : w.heap[g]? = some (.cells #[u] te fr)) (hu : u.oneCell' = true)
    (hl : (vs.length + 1) * bytes ≤ 140737488355328) (hl2 : vs.length < 140737488355328) (hbase : base ≤ w.heap.size)
    (h : ∀ a' c' w', OwnV w' base e (.slice a' (vs.length + 1) c') (vs ++ [u]) → Below base w w' → wpList P ops Q rest (a.put o.dst (.slice a' (vs.length + 1) c')) w') : wpList P ops Q (o :: rest) a w := by
  obtain ⟨e', htx⟩ := htx
  refine wpList_append_src w hgd s xo t tx ho base e i z 1 bytes ht hi hz hsize hby hzs (by decide) v _ vs hs hown _ 1 [u] hx (Src.ofSlice w htx ⟨g, 0, none⟩ 1 1 [u] rfl ?_ ?_) (by simp only [maxLen]; omega) hl hbase ?_
  · intro j x hj
    have hj0 : j = 0 := by
      rcases Nat.eq_zero_or_pos j with h | h
      · exact h
      · rw [List.getElem?_eq_none (by simp; omega)] at hj; cases hj
    subst hj0
    simp only [List.getElem?_cons_zero, Option.some.injEq] at hj
    subst hj
    simp [World.cell?, Addr.add, hg]
  · intro x hx
    rw [List.mem_singleton.1 hx]
    exact hu
  · intro v' w' ho' hgr
    have hk : OwnV w' base e v' (vs ++ [u]) := by unfold OwnV; rw [List.length_append]; exact ho'
    obtain ⟨a', c', rfl⟩ := hk.shape
    rw [List.length_append] at hk ⊢
    exact h a' c' w' hk (Below.ofGrown hgr hown hbase)
end
end Go.Mem
