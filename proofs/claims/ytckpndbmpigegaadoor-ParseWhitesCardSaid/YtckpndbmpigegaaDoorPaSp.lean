/- append onto bytes of the call's own, in whatever block: of bytes and of a string. -/
import Derived.Test.YtckpndbmpigegaaDoorPaZ
import Derived.Laws.IdiomCopy
set_option linter.unusedVariables false
set_option linter.unusedSimpArgs false
set_option maxRecDepth 100000
namespace Go.Proofs.YtckpndbmpigegaaDoor
open Go.RowKit Go.Mem Orange
theorem isSome_cells (b : Nat) : ∀ (vs : List Value) (o : Nat) (w : World) (x : Addr), (w.cell? x).isSome = true → ((w.setCells b o vs).cell? x).isSome = true
  | [], _, _, _, h => h
  | v :: vs, o, w, x, h => by
    refine isSome_cells b vs (o + 1) _ x ?_
    by_cases e : (⟨b, o, none⟩ : Addr) = x
    · obtain ⟨u, hu⟩ := Option.isSome_iff_exists.1 h
      rw [← e, World.cell?_setCell_same _ _ _ (by rw [e]; exact hu)]
      rfl
    · rw [World.cell?_setCell_other _ _ _ _ e]; exact h
/-- bytes in a block of the call's own whose cells may be written -/
def AppC (w : World) (base : Nat) (v : Value) (xs : List UInt8) : Prop :=
  ∃ g cap, v = .slice (some ⟨g, 0, none⟩) xs.length cap ∧ base ≤ g ∧ g < w.heap.size ∧ xs.length ≤ cap ∧ cap ≤ 9223372036854775807 ∧
    (∀ i, (h : i < xs.length) → w.cell? ⟨g, i, none⟩ = some (.int .u8 xs[i].toNat)) ∧ (∀ j, j < cap → (w.cell? ⟨g, j, none⟩).isSome = true) ∧ (∀ j, j < cap → w.frozen? ⟨g, j, none⟩ = false)
theorem AppC.bytes {w : World} {base : Nat} {v : Value} {xs : List UInt8} (h : AppC w base v xs) (hl : xs.length ≤ 140737488355328) : Bytes w v xs := by
  obtain ⟨g, cap, rfl, h1, h2, h3, h4, h5, _⟩ := h
  exact ⟨_, _, rfl, h3, h4, hl, fun hn => ⟨g, 0, rfl, h2, fun i hi => by rw [Nat.zero_add]; exact h5 i hi⟩⟩
theorem AppC.ext {w w' : World} {base : Nat} {v : Value} {xs : List UInt8} (h : AppC w base v xs) (hb : Ext w w') : AppC w' base v xs := by
  obtain ⟨g, cap, rfl, h1, h2, h3, h4, h5, h6, h7⟩ := h
  refine ⟨g, cap, rfl, h1, Nat.lt_of_lt_of_le h2 hb.size, h3, h4, fun i hi => ?_, fun j hj => ?_, fun j hj => ?_⟩
  · rw [hb.cell (p := ⟨g, i, none⟩) h2]; exact h5 i hi
  · rw [hb.cell (p := ⟨g, j, none⟩) h2]; exact h6 j hj
  · have : w'.frozen? ⟨g, j, none⟩ = w.frozen? ⟨g, j, none⟩ := by unfold World.frozen?; rw [show w'.heap[(⟨g, j, none⟩ : Addr).block]? = w.heap[(⟨g, j, none⟩ : Addr).block]? from hb.block g h2]
    rw [this]; exact h7 j hj
theorem below_setCells_c {B g : Nat} (hg : B ≤ g) : ∀ (vs : List Value) (o : Nat) (w : World), Below B w (w.setCells g o vs)
  | [], _, w => Below.refl B w
  | v :: r, o, w => ((Below.refl B w).setCell (p := ⟨g, o, none⟩) hg v).trans (below_setCells_c hg r (o + 1) _)
/-- '[]byte(s)' is one -/
theorem wpList_appc_of_string {ops : Array Oper} {rest : List Oper} {o : Oper} {a : Act} {Q : Exit → Act → World → Prop} (w : World) (hgd : Region.wanted o (yielded ops a.tmps) = true) (x : Operand) (ho : o.op = .convert 9 22 x)
    (xs : List UInt8) (hx : a.eval x = .string ⟨xs.toArray⟩) (hl : xs.length ≤ 140737488355328)
    (h : ∀ c' w', Ext w w' → AppC w' w.heap.size (.slice (some ⟨w.heap.size, 0, none⟩) xs.length c') xs → wpList Tryd.prog ops Q rest (a.put o.dst (.slice (some ⟨w.heap.size, 0, none⟩) xs.length c')) w') : wpList Tryd.prog ops Q (o :: rest) a w := by
  unfold wpList
  rw [if_pos hgd]
  refine .inl ?_
  unfold Oper.wp execOp
  have hs : (ByteArray.mk xs.toArray).size = xs.length := by show xs.toArray.size = _; simp
  have hr := run_bytes_of_string (P := Tryd.prog) w 9 22 5 ⟨xs.toArray⟩ Tryd.underlying9 Tryd.underlying22 Tryd.underlying5
  have hge := grownCap_ge w xs.length 0 5
  have hm := grownCap_le_maxLen w xs.length 0 5 (by simp only [maxLen]; omega)
  rw [hs] at hr
  simp only [ho, Sem.run_bind, Sem.run_pure, hx, hr, Result.andThen_ok]
  generalize grownCap w xs.length 0 5 = cap at *
  have hsz : (bytesRow ⟨xs.toArray⟩ cap).size = cap := by simp [bytesRow]; rw [hs]; omega
  refine h cap _ (((ext_refl w).drew).alloc (by simp) _) ⟨w.heap.size, cap, rfl, Nat.le_refl _, by simp, hge, by simpa [maxLen] using hm, fun i hi => ?_, fun j hj => ?_, fun j hj => ?_⟩
  · obtain ⟨b', o', e, hlt, hc⟩ := bytes_of_string_at w.drew ⟨xs.toArray⟩ 5 cap ((bytesRow ⟨xs.toArray⟩ cap).size, (bytesRow ⟨xs.toArray⟩ cap).size + 1) (by rw [hs]; exact hge) (by simp; omega)
    simp only [Option.some.injEq, Addr.mk.injEq, and_true] at e
    obtain ⟨e1, e2⟩ := e
    subst e1; subst e2
    have := hc i (by simpa using hi)
    rw [Nat.zero_add] at this
    simpa using this
  · have hb : (w.drew.alloc (.cells (bytesRow ⟨xs.toArray⟩ cap) 5 ((bytesRow ⟨xs.toArray⟩ cap).size, (bytesRow ⟨xs.toArray⟩ cap).size + 1))).heap[w.heap.size]? = some (.cells (bytesRow ⟨xs.toArray⟩ cap) 5 ((bytesRow ⟨xs.toArray⟩ cap).size, (bytesRow ⟨xs.toArray⟩ cap).size + 1)) := heap_alloc_new w.drew _
    rw [cell_of_cells hb]
    simp [hsz, hj]
  · have hb : (w.drew.alloc (.cells (bytesRow ⟨xs.toArray⟩ cap) 5 ((bytesRow ⟨xs.toArray⟩ cap).size, (bytesRow ⟨xs.toArray⟩ cap).size + 1))).heap[w.heap.size]? = some (.cells (bytesRow ⟨xs.toArray⟩ cap) 5 ((bytesRow ⟨xs.toArray⟩ cap).size, (bytesRow ⟨xs.toArray⟩ cap).size + 1)) := heap_alloc_new w.drew _
    unfold World.frozen?
    rw [hb, hsz]
    simp; omega
theorem wpList_appc {ops : Array Oper} {rest : List Oper} {o : Oper} {a : Act} {w : World} {Q : Exit → Act → World → Prop} (hgd : Region.wanted o (yielded ops a.tmps) = true) (s xo : Operand) (tx : TypeId)
    (ho : o.op = .call { callee := .builtin .append, args := #[s, xo], argTypes := #[22, tx] })
    (base : Nat) (v : Value) (xs : List UInt8) (hs : a.eval s = v) (hown : AppC w base v xs) (x : Value) (ys : List UInt8) (hx : a.eval xo = x) (hy : Src Tryd.prog 1 tx x ys.length (cells8 ys) w)
    (hl : xs.length + ys.length ≤ 140737488355328) (hbase : base ≤ w.heap.size)
    (h : ∀ g' c' w', AppC w' base (.slice (some ⟨g', 0, none⟩) (xs.length + ys.length) c') (xs ++ ys) → Below base w w' → wpList Tryd.prog ops Q rest (a.put o.dst (.slice (some ⟨g', 0, none⟩) (xs.length + ys.length) c')) w') : wpList Tryd.prog ops Q (o :: rest) a w := by
  obtain ⟨i0, hi, hz0, hz1, hz2⟩ := info_parts info8
  obtain ⟨g, cap, rfl, h1, h2, h3, h4, h5, h6, h7⟩ := hown
  have hy1 : Src Tryd.prog i0.size tx x ys.length (cells8 ys) w := by rw [hz1]; exact hy
  unfold wpList
  rw [if_pos hgd]
  refine .inl ?_
  unfold Oper.wp execOp
  by_cases hroom : xs.length + ys.length ≤ cap
  · have hr := run_append_room_src (P := Tryd.prog) w 22 tx o.type 5 i0 Tryd.underlying22 hi g 0 xs.length cap x ys.length (cells8 ys) hy1 hroom
      (fun j hj => by rw [hz1, Nat.mul_one, Nat.zero_add]; exact h6 _ (by simp at hj; omega)) (fun j hj => by rw [hz1, Nat.mul_one, Nat.zero_add]; exact h7 _ (by simp at hj; omega))
    rw [hz1, Nat.mul_one, Nat.zero_add] at hr
    simp only [ho, resolve, invoke, builtin, Sem.run_bind, Sem.run_pure, Result.andThen_ok, List.map_toArray, List.map_cons, List.map_nil, hs, hx, hr]
    have hbel := below_setCells_c h1 (cells8 ys) xs.length w
    refine h g cap _ ⟨g, cap, by rw [List.length_append], h1, Nat.lt_of_lt_of_le h2 hbel.size, by rw [List.length_append]; exact hroom, h4, fun i hi => ?_, fun j hj => isSome_cells g _ _ _ _ (h6 j hj), fun j hj => by rw [World.frozen?_setCells]; exact h7 j hj⟩ hbel
    by_cases hlt : i < xs.length
    · rw [World.cell?_setCells_out g _ _ _ _ (fun _ _ => .inl hlt), h5 i hlt]
      simp [List.getElem_append_left, hlt]
    · have hj : i - xs.length < (cells8 ys).length := by rw [List.length_append] at hi; simp; omega
      have := World.cell?_setCells_in g (cells8 ys) xs.length w (fun j hj => h6 _ (by simp at hj; omega)) (i - xs.length) hj
      rw [show xs.length + (i - xs.length) = i by omega] at this
      rw [this, List.getElem_append_right (by omega)]
      simp [cells8]
  · have hcells : ∀ j u, (cells8 xs)[j]? = some u → w.cell? ((⟨g, 0, none⟩ : Addr).add j) = some u := fun j u hu => by
      obtain ⟨hj, rfl⟩ := cells8_at hu
      rw [show (⟨g, 0, none⟩ : Addr).add j = ⟨g, 0 + j, none⟩ by simp only [Addr.add]; split <;> simp_all, Nat.zero_add]
      exact h5 j hj
    have hr := run_append_grow_src (P := Tryd.prog) w 22 tx o.type 5 i0 (.int .u8 0) Tryd.underlying22 hi hz0 (some ⟨g, 0, none⟩) xs.length cap (cells8 xs)
      (by rw [hz1]; exact run_firstCells_some w.drew 1 xs.length ⟨g, 0, none⟩ xs.length cap (cells8 xs) (by simp) (by simpa using hcells)) x ys.length (cells8 ys) hy1 (by omega) (by omega) (growslice_fits (by omega) (by rw [hz2]; omega))
    have hge := grownCap_ge w (xs.length + ys.length) cap 5
    have hcm := grownCap_le_maxLen w (xs.length + ys.length) cap 5 (by simp only [maxLen]; omega)
    simp only [ho, resolve, invoke, builtin, Sem.run_bind, Sem.run_pure, Result.andThen_ok, List.map_toArray, List.map_cons, List.map_nil, hs, hx, hr]
    generalize grownCap w (xs.length + ys.length) cap 5 = C at *
    have hb := heap_alloc_new w.drew (.cells ((cells8 xs ++ cells8 ys).toArray ++ Builtin.zeroCells (Value.int .u8 0).cells (C - (xs.length + ys.length))) 5)
    have hsz : ((cells8 xs ++ cells8 ys).toArray ++ Builtin.zeroCells (Value.int .u8 0).cells (C - (xs.length + ys.length))).size = C := by
      simp only [Array.size_append, List.size_toArray, List.length_append, cells8_length, size_zeroCells]
      show _ + _ * 1 = _
      omega
    refine h _ _ _ ⟨w.heap.size, C, by rw [List.length_append], hbase, by simp, by rw [List.length_append]; exact hge, by simpa [maxLen] using hcm, fun i hi => ?_, fun j hj => ?_, fun j hj => ?_⟩ (((Below.refl base w).drew).alloc hbase _)
    · have hb' : (w.drew.alloc (.cells ((cells8 xs ++ cells8 ys).toArray ++ Builtin.zeroCells (Value.int .u8 0).cells (C - (xs.length + ys.length))) 5)).heap[w.heap.size]? = _ := hb
      rw [cell_of_cells hb', Array.getElem?_append_left (by simpa using hi), ← cells8_append]
      have hlm : i < (cells8 (xs ++ ys)).length := by simpa using hi
      rw [List.getElem?_toArray, List.getElem?_eq_getElem hlm]
      simp only [cells8, List.getElem_map]
    · have hb' : (w.drew.alloc (.cells ((cells8 xs ++ cells8 ys).toArray ++ Builtin.zeroCells (Value.int .u8 0).cells (C - (xs.length + ys.length))) 5)).heap[w.heap.size]? = _ := hb
      rw [cell_of_cells hb', Array.getElem?_eq_getElem (by rw [hsz]; exact hj)]
      rfl
    · have hb' : (w.drew.alloc (.cells ((cells8 xs ++ cells8 ys).toArray ++ Builtin.zeroCells (Value.int .u8 0).cells (C - (xs.length + ys.length))) 5)).heap[w.heap.size]? = _ := hb
      unfold World.frozen?
      rw [hb']
      simp
theorem str_src (w : World) (s : List UInt8) : Src Tryd.prog 1 9 (.string ⟨s.toArray⟩) s.length (cells8 s) w := by
  have := Src.ofString w (P := Tryd.prog) (tx := 9) Tryd.underlying9 ⟨s.toArray⟩
  exact this
end Go.Proofs.YtckpndbmpigegaaDoor
