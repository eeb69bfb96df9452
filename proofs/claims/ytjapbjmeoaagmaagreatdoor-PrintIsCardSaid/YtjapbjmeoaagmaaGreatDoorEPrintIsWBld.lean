/- A text of this proof. -/
import Derived.Test.YtjapbjmeoaagmaaGreatDoorProg
import Derived.Test.YtjapbjmeoaagmaaGreatDoorEPrintIsConv
import Derived.Test.YtjapbjmeoaagmaaGreatDoorEPrintIsApp
import Derived.Lib.Builder
import Derived.Lib.UnsafeStr
import Derived.Laws.Externs
import Derived.Test.YtjapbjmeoaagmaaGreatDoorEPrintIsSh
set_option linter.unusedVariables false
set_option linter.unusedSimpArgs false
set_option maxRecDepth 100000
namespace Go.Proofs.YtjapbjmeoaagmaaGreatDoor
open Go.RowKit Go.Mem
def Bld (w : World) (base b : Nat) (t : TypeId) (ex : List Value) (l : List UInt8) : Prop :=
 ∃ p v, w.heap[b]? = some (.cells (p :: v :: ex).toArray t (0, 0)) ∧ (p = .pointer none ∨ p = .pointer (some ⟨b, 0, none⟩)) ∧ b < base ∧ OwnB w base 5 v l
theorem heap_setCell_same {w : World} {b i : Nat} {c : Array Value} {t : TypeId} {fr : Nat × Nat} (u : Value) (h : w.heap[b]? = some (.cells c t fr)) : (w.setCell ⟨b, i, none⟩ u).heap[b]? = some (.cells (c.setIfInBounds i u) t fr) := by
 simp [World.setCell, Array.getElem?_modify, h]
def BldT (t : TypeId) (n : Nat) : Prop := liesAt Tryz.prog Tryz.prog.depth t (n / Tryz.prog.cellsOf t) 0 80 1 = true ∧ 2 ≤ n
theorem sizeBld : (Tryz.prog.info? 80).map (·.size) = some 2 := by kernel_rfl
theorem bldT_plain : BldT 80 2 := ⟨by kernel_rfl, by decide⟩
theorem copyCheck_any (b : Nat) (t : TypeId) (ex : List Value) (p v : Value) (w : World) (ht : BldT t (ex.length + 2)) (h : w.heap[b]? = some (.cells (p :: v :: ex).toArray t (0, 0))) (hp : p = .pointer none ∨ p = .pointer (some ⟨b, 0, none⟩)) :
 Calls Tryz.prog 85 #[.pointer (some ⟨b, 0, none⟩)] w fun e w' => e = .returned (.tuple #[]) ∧ w'.heap[b]? = some (.cells (.pointer (some ⟨b, 0, none⟩) :: v :: ex).toArray t (0, 0)) ∧ (∀ k, k ≠ b → w'.heap[k]? = w.heap[k]?) ∧ Kept (w.heap.size) b w w' ∧ w'.heap.size = w.heap.size := by
 have hc0 : w.cell? ⟨b, 0, none⟩ = some p := by rw [cell_of_cells h]; simp
 have hf0 : w.frozen? ⟨b, 0, none⟩ = false := free_of_cells h; have hs := heap_setCell_same (i := 0) (.pointer (some ⟨b, 0, none⟩)) h; have hc1 : (w.setCell ⟨b, 0, none⟩ (.pointer (some ⟨b, 0, none⟩))).cell? ⟨b, 0, none⟩ = some (.pointer (some ⟨b, 0, none⟩)) := by rw [cell_of_cells hs]; simp
 have hsh : w.shape? b = some (t, ex.length + 2) := by simp [World.shape?, h]
 obtain ⟨j, hj, hjs⟩ := Option.map_eq_some_iff.1 sizeBld; have HS := Hd hs; have H := Hd h; have HSH := Hd hsh; have HJ := Hd hj; have HJS := Hd hjs; have HT := Hd ht; clear hs h hsh hj hjs ht; rcases hp with rfl | rfl
 · go_enter Tryz.func85, Tryz.ntmps85
   go_wp2
   rw [Lib.run_to_unsafe w ⟨b, 0, none⟩ Tryz.underlying78 Tryz.underlying127 HJ.out (by rw [HJS.out]; decide) HSH.out (by have := HT.out.2; show 0 < _; omega)]; simp only [Result.andThen]; rw [Oper.upon_value]; go_wp2
   rw [run_callFunc_extern Tryz.func104 (by kernel_rfl) (by kernel_rfl) (by kernel_rfl) (e := Extern.AbiNoEscape.same) (by kernel_rfl)]; rw [Lib.run_noEscape]; simp only [Result.andThen]; rw [Oper.upon_value]; go_wp2
   rw [Lib.run_from_unsafe w ⟨b, 0, none⟩ Tryz.underlying127 Tryz.underlying78 HJ.out HSH.out HT.out.1]; simp only [Result.andThen]; rw [Oper.upon_value]; go_wp2
   go_end0
   refine ⟨rfl, ?_, fun k hk => Below.heap_setCell _ _ _ _ hk, Kept.setCell _, by simp⟩; rw [HS.out]; simp
 · go_enter Tryz.func85, Tryz.ntmps85
   go_wp2
   rw [Lib.run_neq_ptr_same w _ Tryz.underlying78 HJ.out]; go_wp2
   go_end0
   exact ⟨rfl, H.out, fun _ _ => rfl, Kept.refl _ _ _, rfl⟩
theorem own_kept {w w' : World} {base : Nat} {e : TypeId} {v : Value} {l : List UInt8} {b : Nat} (h : OwnB w base e v l) (hk : ∀ k, k ≠ b → w'.heap[k]? = w.heap[k]?) (hb : b < base) : OwnB w' base e v l := by
 refine ⟨h.1, ?_⟩; rcases h.2 with h | ⟨g, cap, cur, ev, hbg, hg, r⟩
 · exact .inl h
 · exact .inr ⟨g, cap, cur, ev, hbg, by rw [hk g (by omega)]; exact hg, r⟩
theorem own_shape' {w : World} {base : Nat} {e : TypeId} {size : Nat} {v : Value} {n : Nat} {xs : List Value} (h : w.ownsRow base e size v n xs) : ∃ a c, v = .slice a n c := by
 rcases h.2 with ⟨rfl, rfl⟩ | ⟨g, cap, cur, rfl, _⟩
 · exact ⟨_, _, rfl⟩
 · exact ⟨_, _, rfl⟩
set_option maxHeartbeats 1600000 in
theorem writeByte_any (base b : Nat) (t : TypeId) (ex : List Value) (l : List UInt8) (c : UInt8) (w : World) (ht : BldT t (ex.length + 2)) (h : Bld w base b t ex l) (hl : l.length + 1 ≤ 140737488355328) (hbase : base ≤ w.heap.size) :
 Calls Tryz.prog 62 #[.pointer (some ⟨b, 0, none⟩), .int .u8 c.toNat] w fun e w' => e = .returned .nilIface ∧ Bld w' base b t ex (l ++ [c]) ∧ Kept base b w w' := by
 obtain ⟨p, v, hb, hp, hbb, hown⟩ := h; obtain ⟨i0, hi, hz0, hz1, hz2⟩ := info_parts info8; have HC := Hd (copyCheck_any b t ex p v w ht hb hp); clear ht; go_enter Tryz.func62, Tryz.ntmps62
 have HB := Hd hb; clear hb; go_wp2_with (first
  | (go_at_call 85; refine HC.out.mono ?_; rintro e w1 ⟨rfl, h1, hk1, hkk, -⟩; have hsz := hkk.size; have hown1 := own_kept hown hk1 hbb; have hc1 : w1.cell? ⟨b, 1, none⟩ = some v := (by rw [cell_of_cells h1]; simp); have hb1 : b < w1.heap.size := lt_of_block h1; have hown2 : OwnB (w1.alloc (.cells #[.int .u8 c.toNat] 5)) base 5 v l := OwnB.ext hown1 ((ext_refl w1).alloc (Nat.le_refl _) _); have hbs : base ≤ (w1.alloc (.cells #[.int .u8 c.toNat] 5)).heap.size := (by simp; omega); have H1 := Hd h1; clear h1)
  | (at_builtin; refine wpList_append_src _ rfl _ _ 56 56 rfl base 5 i0 (.int .u8 0) 1 1 Tryz.underlying56 hi hz0 hz1 hz2 rfl (by decide) v _ _ rfl hown2 _ 1 [.int .u8 c.toNat] rfl (Src.ofSlice _ Tryz.underlying56 ⟨w1.heap.size, 0, none⟩ 1 1 _ rfl (cell_of_block1 (heap_alloc_new _ _)) (one_of1 rfl)) (by simp only [maxLen]; omega) (by omega) hbs ?_; intro v5 w5 hown5 hgr5; obtain ⟨a5, c5, rfl⟩ := own_shape' hown5; have h5 : w5.heap[b]? = some (.cells (.pointer (some ⟨b, 0, none⟩) :: v :: ex).toArray t (0, 0)) := (by rw [hgr5.block b (by simp; omega) (fun e => by have := (hown2.lt b e.symm).1; omega), Below.heap_alloc _ _ _ hb1]; exact H1.out); have hc5 : w5.cell? ⟨b, 1, none⟩ = some v := (by rw [cell_of_cells h5]; simp); have hf5 : w5.frozen? ⟨b, 1, none⟩ = false := free_of_cells h5; have H5 := Hd h5; clear h5))
 go_ret; have hk2 : Kept base b w1 (w1.alloc (.cells #[.int .u8 c.toNat] 5)) := Kept.ofBelow ((Below.refl base w1).alloc (by omega) _); have hk3 : Kept base b (w1.alloc (.cells #[.int .u8 c.toNat] 5)) w5 := Kept.ofBelow (Below.ofGrown hgr5 hown2 hbs)
 refine ⟨rfl, ⟨.pointer (some ⟨b, 0, none⟩), .slice a5 (l.length + 1) c5, ?_, .inr rfl, hbb, ?_⟩, (((hkk.mono hbase).trans hk2).trans hk3).trans (Kept.setCell _)⟩
 · rw [heap_setCell_same _ H5.out]; simp
 · unfold OwnB; rw [cells8_append, List.length_append]; exact ownsRow_setCell_below hown5 hbb _
set_option maxHeartbeats 1600000 in
theorem writeString_any (base b : Nat) (t : TypeId) (ex : List Value) (l : List UInt8) (s : ByteArray) (w : World) (ht : BldT t (ex.length + 2)) (h : Bld w base b t ex l) (hl : l.length + s.size ≤ 140737488355328) (hbase : base ≤ w.heap.size) :
 Calls Tryz.prog 63 #[.pointer (some ⟨b, 0, none⟩), .string s] w fun e w' => e = .returned (.tuple #[.int .i64 s.size, .nilIface]) ∧ Bld w' base b t ex (l ++ s.data.toList) ∧ Kept base b w w' := by
 obtain ⟨p, v, hb, hp, hbb, hown⟩ := h; obtain ⟨i0, hi, hz0, hz1, hz2⟩ := info_parts info8; have HC := Hd (copyCheck_any b t ex p v w ht hb hp); have hsl : s.data.toList.length = s.size := Array.length_toList; have hcl : Go.byteCells s = cells8 s.data.toList := rfl; have HSL := Hd hsl; have HCL := Hd hcl; clear ht hsl hcl; go_enter Tryz.func63, Tryz.ntmps63
 have HB := Hd hb; clear hb; go_wp2_with (first
  | (go_at_call 85; refine HC.out.mono ?_; rintro e w1 ⟨rfl, h1, hk1, hkk, -⟩; have hsz := hkk.size; have hown1 := own_kept hown hk1 hbb; have hc1 : w1.cell? ⟨b, 1, none⟩ = some v := (by rw [cell_of_cells h1]; simp); have hb1 : b < w1.heap.size := lt_of_block h1; have hbs : base ≤ w1.heap.size := (by omega); have H1 := Hd h1; clear h1)
  | (at_builtin; refine wpList_append_src _ rfl _ _ 56 9 rfl base 5 i0 (.int .u8 0) 1 1 Tryz.underlying56 hi hz0 hz1 hz2 rfl (by decide) v _ _ rfl hown1 _ s.size _ rfl (Src.ofString _ Tryz.underlying9 s) (by simp only [maxLen]; omega) (by omega) hbs ?_; intro v5 w5 hown5 hgr5; have hown6 : OwnB w5 base 5 v5 (l ++ s.data.toList) := (by unfold OwnB; rw [cells8_append, List.length_append, HSL.out, ← HCL.out]; exact hown5); obtain ⟨a5, c5, rfl⟩ := own8_shape hown6; have h5 : w5.heap[b]? = some (.cells (.pointer (some ⟨b, 0, none⟩) :: v :: ex).toArray t (0, 0)) := (by rw [hgr5.block b hb1 (fun e => by have := (hown1.lt b e.symm).1; omega)]; exact H1.out); have hc5 : w5.cell? ⟨b, 1, none⟩ = some v := (by rw [cell_of_cells h5]; simp); have hf5 : w5.frozen? ⟨b, 1, none⟩ = false := free_of_cells h5; have H5 := Hd h5; clear h5))
 go_ret2; have hk3 : Kept base b w1 w5 := Kept.ofBelow (Below.ofGrown hgr5 hown1 hbs); have hlen : (l ++ s.data.toList).length = l.length + s.size := by rw [List.length_append, HSL.out]
 rw [hlen] at hown6; refine ⟨rfl, ⟨.pointer (some ⟨b, 0, none⟩), .slice a5 (l.length + s.size) c5, ?_, .inr rfl, hbb, ?_⟩, ((hkk.mono hbase).trans hk3).trans (Kept.setCell _)⟩
 · rw [heap_setCell_same _ H5.out]; simp
 · exact ownsRow_setCell_below hown6 hbb _
end Go.Proofs.YtjapbjmeoaagmaaGreatDoor
