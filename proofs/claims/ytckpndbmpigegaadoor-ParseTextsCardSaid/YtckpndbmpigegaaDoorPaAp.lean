/- append onto a full slice of bytes. -/
import Derived.Test.YtckpndbmpigegaaDoorApp
import Derived.Test.YtckpndbmpigegaaDoorPaZ
set_option linter.unusedVariables false
set_option linter.unusedSimpArgs false
set_option maxRecDepth 100000
namespace Go.Proofs.YtckpndbmpigegaaDoor
open Go.RowKit Go.Mem Orange
/-- a slice that is full, or of the call's own -/
def AppB (w : World) (base : Nat) (v : Value) (xs : List UInt8) : Prop :=
  OwnB w base 5 v xs ∨ ((∃ b, v = .slice (some ⟨b, 0, none⟩) xs.length xs.length) ∧ Bytes w v xs)
theorem AppB.bytes {w : World} {base : Nat} {v : Value} {xs : List UInt8} (h : AppB w base v xs) (hl : xs.length ≤ 140737488355328) : Bytes w v xs := by
  rcases h with h | h
  · exact h.bytes hl
  · exact h.2
theorem AppB.ext {w w' : World} {base : Nat} {v : Value} {xs : List UInt8} (h : AppB w base v xs) (hb : Ext w w') : AppB w' base v xs := by
  rcases h with h | ⟨h1, h2⟩
  · exact .inl (h.ext hb)
  · exact .inr ⟨h1, h2.ext hb⟩
theorem wpList_append_anyB {ops : Array Oper} {rest : List Oper} {o : Oper} {a : Act} {w : World} {Q : Exit → Act → World → Prop} (hgd : Region.wanted o (yielded ops a.tmps) = true) (s xo : Operand)
    (ho : o.op = .call { callee := .builtin .append, args := #[s, xo], argTypes := #[22, 22] })
    (base : Nat) (v : Value) (xs : List UInt8) (hs : a.eval s = v) (hown : AppB w base v xs) (x : Value) (ys : List UInt8) (hx : a.eval xo = x) (hy : Bytes w x ys) (hy0 : 0 < ys.length)
    (hl : xs.length + ys.length ≤ 70368744177664) (hbase : base ≤ w.heap.size)
    (h : ∀ a' c' w', AppB w' base (.slice a' (xs.length + ys.length) c') (xs ++ ys) → Below base w w' → wpList Tryd.prog ops Q rest (a.put o.dst (.slice a' (xs.length + ys.length) c')) w') : wpList Tryd.prog ops Q (o :: rest) a w := by
  rcases hown with hown | ⟨⟨b, rfl⟩, hb⟩
  · exact wpList_append_bytes hgd s xo ho base v xs hs hown x ys hx hy (by omega) hbase (fun a' c' w' h1 h2 => h a' c' w' (.inl h1) h2)
  · obtain ⟨i0, hi, hz0, hz1, hz2⟩ := info_parts info8
    obtain ⟨a0, c0, e0, h1, h2, h3, h4⟩ := hb
    simp only [Value.slice.injEq] at e0
    obtain ⟨rfl, _, rfl⟩ := e0
    have hcells : ∀ j u, (cells8 xs)[j]? = some u → w.cell? ((⟨b, 0, none⟩ : Addr).add j) = some u := fun j u hu => by
      obtain ⟨hj, rfl⟩ := cells8_at hu
      obtain ⟨b', o', e1, _, hc⟩ := h4 (by omega)
      simp only [Option.some.injEq, Addr.mk.injEq, and_true] at e1
      obtain ⟨rfl, rfl⟩ := e1
      have := hc j hj
      rw [show (⟨b, 0, none⟩ : Addr).add j = ⟨b, 0 + j, none⟩ by simp only [Addr.add]; split <;> simp_all]
      exact this
    have hr := run_append_grow_src (P := Tryd.prog) w 22 22 o.type 5 i0 (.int .u8 0) Tryd.underlying22 hi hz0 (some ⟨b, 0, none⟩) xs.length xs.length (cells8 xs)
      (by rw [hz1]; exact run_firstCells_some w.drew 1 xs.length ⟨b, 0, none⟩ xs.length xs.length (cells8 xs) (by simp) (by simpa using hcells)) x ys.length (cells8 ys) (by rw [hz1]; exact hy.src Tryd.underlying22) (by omega) (by omega) (growslice_fits (by omega) (by rw [hz2]; omega))
    have hge := grownCap_ge w (xs.length + ys.length) xs.length 5
    have hcm : grownCap w (xs.length + ys.length) xs.length 5 ≤ maxLen := grownCap_le_maxLen w (xs.length + ys.length) xs.length 5 (by simp only [maxLen]; omega)
    unfold wpList
    rw [if_pos hgd]
    refine .inl ?_
    unfold Oper.wp execOp
    simp only [ho, resolve, invoke, builtin, Sem.run_bind, Sem.run_pure, Result.andThen_ok, List.map_toArray, List.map_cons, List.map_nil, hs, hx, hr]
    refine h _ _ _ (.inl ?_) (((Below.refl base w).drew).alloc hbase _)
    refine ⟨by simp [cells8], .inr ⟨w.heap.size, _, _, by rw [List.length_append], hbase, heap_alloc_new w.drew _, by rw [List.length_append]; exact hge, hcm, ?_, ?_⟩⟩
    · simp only [Array.size_append, List.size_toArray, List.length_append, cells8_length, size_zeroCells]
      show _ + _ * 1 = _
      omega
    · simp only [Array.toList_append]
      rw [← cells8_append, List.length_append, Nat.mul_one]
      have : (xs.length + ys.length) = (cells8 (xs ++ ys)).length := by simp
      rw [this]
      exact List.take_left
end Go.Proofs.YtckpndbmpigegaaDoor
