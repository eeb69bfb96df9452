/- append of bytes onto bytes of the call's own: one law. -/
import Derived.Test.YtckpndbmpigegaaDoorWUtfC
import Derived.Test.YtckpndbmpigegaaDoorGrowT
set_option linter.unusedVariables false
set_option maxRecDepth 100000
namespace Go.Proofs.YtckpndbmpigegaaDoor
open Go.RowKit Go.Mem

theorem bytes_new (w : World) (cs : Array Value) (e : TypeId) (xs : List UInt8) (h : cs.toList = cells8 xs) (n : Nat) (hn : n = xs.length) (hl : n ≤ 140737488355328) :
    Bytes (w.alloc (.cells cs e)) (.slice (some ⟨w.heap.size, 0, none⟩) n n) xs := by
  refine Bytes.mk ?_ hn (Nat.le_refl _) (by omega) hl
  intro _
  refine ⟨w.heap.size, 0, rfl, by simp, fun i hi => ?_⟩
  rw [cell_of_cells (heap_alloc_new _ _), ← Array.getElem?_toList, h, Nat.zero_add]
  simp [cells8, hi]


theorem own8_shape {w : World} {base : Nat} {e : TypeId} {v : Value} {l : List UInt8} (h : OwnB w base e v l) : ∃ a c, v = .slice a l.length c := by
  rcases h.2 with ⟨rfl, h0⟩ | ⟨g, cap, cur, rfl, _⟩
  · rw [h0]; exact ⟨_, _, rfl⟩
  · exact ⟨_, _, rfl⟩
theorem ownB_new (w : World) (cs : Array Value) (e : TypeId) (xs : List UInt8) (h : cs.toList = cells8 xs) (n : Nat) (hn : n = xs.length) (hl : n ≤ 140737488355328) : OwnB (w.alloc (.cells cs e)) w.heap.size e (.slice (some ⟨w.heap.size, 0, none⟩) n n) xs := by
  subst hn
  have hsz : cs.size = xs.length := by have := congrArg List.length h; simpa using this
  refine ⟨by simp, .inr ⟨w.heap.size, xs.length, cs, rfl, Nat.le_refl _, heap_alloc_new _ _, Nat.le_refl _, by simp only [maxLen]; omega, by omega, ?_⟩⟩
  rw [h, Nat.mul_one, List.take_of_length_le (by simp)]

theorem wpList_append_bytes {ops : Array Oper} {rest : List Oper} {o : Oper} {a : Act} {w : World} {Q : Exit → Act → World → Prop} (hgd : Region.wanted o (yielded ops a.tmps) = true) (s xo : Operand)
    (ho : o.op = .call { callee := .builtin .append, args := #[s, xo], argTypes := #[22, 22] })
    (base : Nat) (v : Value) (xs : List UInt8) (hs : a.eval s = v) (hown : OwnB w base 5 v xs) (x : Value) (ys : List UInt8) (hx : a.eval xo = x) (hy : Bytes w x ys)
    (hl : xs.length + ys.length ≤ 140737488355328) (hbase : base ≤ w.heap.size)
    (h : ∀ a' c' w', OwnB w' base 5 (.slice a' (xs.length + ys.length) c') (xs ++ ys) → Below base w w' → wpList Tryd.prog ops Q rest (a.put o.dst (.slice a' (xs.length + ys.length) c')) w') : wpList Tryd.prog ops Q (o :: rest) a w := by
  obtain ⟨i0, hi, hz0, hz1, hz2⟩ := info_parts info8
  refine wpList_append_src w hgd s xo 22 22 ho base 5 i0 (.int .u8 0) 1 1 Tryd.underlying22 hi hz0 hz1 hz2 rfl (by decide) v _ _ hs hown x _ _ hx (hy.src Tryd.underlying22) (by simp only [maxLen]; omega) (by omega) hbase ?_
  intro v' w' ho' hg
  have hk : OwnB w' base 5 v' (xs ++ ys) := by unfold OwnB; rw [cells8_append, List.length_append]; exact ho'
  obtain ⟨a', c', rfl⟩ := own8_shape hk
  rw [List.length_append] at hk ⊢
  exact h a' c' w' hk (Below.ofGrown hg hown hbase)
/-- bytes that are known -/
def specBytes (ys : List UInt8) : Grow.Spec Ext := ⟨fun v => ∃ a c, v = .slice a ys.length c, fun v w => Bytes w v ys, ⟨.slice none ys.length 0, none, 0, rfl⟩, fun v w w' h hg => h.ext hg⟩
theorem drop_cons {xs : List UInt8} {i : Nat} (h : i < xs.length) : ∃ x t, xs.drop i = x :: t := by
  cases h' : xs.drop i with
  | nil => simp at h'; omega
  | cons x t => exact ⟨x, t, rfl⟩

theorem cell0_of {w : World} {b o n cap : Nat} {xs t : List UInt8} {x : UInt8} (h : Bytes w (.slice (some ⟨b, o, none⟩) n cap) xs) (e : xs = x :: t) : w.cell? ⟨b, o, none⟩ = some (.int .u8 x.toNat) := by
  subst e
  obtain ⟨a', c', e1, _, _, _, h4⟩ := h
  simp only [Value.slice.injEq] at e1
  obtain ⟨rfl, _, rfl⟩ := e1
  obtain ⟨b', o', e, hlt, hc⟩ := h4 (by simp)
  simp only [Option.some.injEq, Addr.mk.injEq, and_true] at e
  obtain ⟨rfl, rfl⟩ := e
  have := hc 0 (by simp)
  simpa using this

end Go.Proofs.YtckpndbmpigegaaDoor
