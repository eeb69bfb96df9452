/- A text of this proof. -/
import Derived.Test.YtjapbjmeoaagmaaGreatDoorEPrintIsWBldS
import Derived.Test.YtjapbjmeoaagmaaGreatDoorEPrintIsPaR
import Derived.Test.YtjapbjmeoaagmaaGreatDoorEPrintIsSh
set_option linter.unusedVariables false
set_option linter.unusedSimpArgs false
set_option maxRecDepth 100000
namespace Go.Mem
open Go.RowKit
section
variable {P : Program} {w : World}
theorem wpList_append_told {ops : Array Oper} {rest : List Oper} {o : Oper} {a : Act} {Q : Exit → Act → World → Prop} (hgd : Region.wanted o (yielded ops a.tmps) = true) (s xo : Operand) (t tx : TypeId)
 (ho : o.op = .call { callee := .builtin .append, args := #[s, xo], argTypes := #[t, tx] })
 (base : Nat) (e : TypeId) (i : TypeInfo) (z : Value) (size bytes : Nat) (ht : P.underlying t = some (.slice e)) (hi : P.info? e = some i) (hz : i.zero = some z)
 (hsize : i.size = size) (hby : i.bytes = bytes) (hzs : z.cells.size = size) (hsz : 0 < size)
 (v : Value) (n : Nat) (xs : List Value) (hs : a.eval s = v) (hown : w.ownsRow base e size v n xs)
 (x : Value) (m : Nat) (news : List Value) (hx : a.eval xo = x) (hsrc : Src P size tx x m news w)
 (h63 : n + m ≤ maxLen) (hbytes : (n + m) * bytes ≤ 140737488355328) (hbase : base ≤ w.heap.size)
 (h : ∀ v' w', w'.ownsRow base e size v' (n + m) (xs ++ news) → w.grownBy w' v.ownBlock → (v'.ownBlock = v.ownBlock ∨ v'.ownBlock = some w.heap.size) → wpList P ops Q rest (a.put o.dst v') w') : wpList P ops Q (o :: rest) a w := by
 obtain ⟨v', w', hr, h2, h3, h4⟩ := run_append_own (P := P) w base t tx o.type e i z size bytes ht hi hz hsize hby hzs hsz v n xs hown x m news hsrc h63 hbytes hbase; unfold wpList; rw [if_pos hgd]; refine .inl ?_; unfold Oper.wp execOp; simp only [ho, resolve, invoke, builtin, Sem.run_bind, Sem.run_pure, Result.andThen_ok, List.map_toArray, List.map_cons, List.map_nil, hs, hx, hr]
 exact h v' w' h2 h3 h4
end
end Go.Mem
namespace Go.Proofs.YtjapbjmeoaagmaaGreatDoor
open Go.RowKit Go.Mem
def Bd (w : World) (b : Nat) (t : TypeId) (ex : List Value) (l : List UInt8) (o : Option Nat) : Prop :=
 ∃ p v, w.heap[b]? = some (.cells (p :: v :: ex).toArray t (0, 0)) ∧ (p = .pointer none ∨ p = .pointer (some ⟨b, 0, none⟩)) ∧ v.ownBlock = o ∧ OwnB w (b + 1) 5 v l
structure KB (b : Nat) (o o' : Option Nat) (w w' : World) : Prop where
 os : w'.os = w.os
 tape : w'.tape = w.tape
 output : w'.output = w.output
 size : w.heap.size ≤ w'.heap.size
 block : ∀ k, k < w.heap.size → k ≠ b → o ≠ some k → w'.heap[k]? = w.heap[k]?
 new : ∀ k, o' = some k → o = some k ∨ w.heap.size ≤ k
theorem KB.refl (b : Nat) (o : Option Nat) (w : World) : KB b o o w w := ⟨rfl, rfl, rfl, Nat.le_refl _, fun _ _ _ _ => rfl, fun _ h => .inl h⟩
theorem KB.trans {b : Nat} {o o1 o2 : Option Nat} {w w1 w2 : World} (h : KB b o o1 w w1) (k : KB b o1 o2 w1 w2) : KB b o o2 w w2 :=
 ⟨k.os.trans h.os, k.tape.trans h.tape, k.output.trans h.output, Nat.le_trans h.size k.size, fun i hi hb ho => by
   rw [k.block i (Nat.lt_of_lt_of_le hi h.size) hb (fun e => by
    rcases h.new i e with h' | h'
    · exact ho h'
    · omega), h.block i hi hb ho], fun i e => by
   rcases k.new i e with h' | h'
   · exact h.new i h'
   · exact .inr (Nat.le_trans h.size h')⟩
theorem KB.ofExt {b : Nat} {o : Option Nat} {w w' : World} (h : Ext w w') : KB b o o w w' := ⟨h.os, h.tape, h.output, h.size, fun k hk _ _ => h.block k hk, fun _ h => .inl h⟩
theorem KB.ext {b : Nat} {o o' : Option Nat} {w w1 w2 : World} (h : KB b o o' w w1) (k : Ext w1 w2) : KB b o o' w w2 := h.trans (KB.ofExt k)
theorem KB.below {b B : Nat} {o o' : Option Nat} {w w' : World} (h : KB b o o' w w') (hB : B ≤ w.heap.size) (hb : B ≤ b) (ho : ∀ k, o = some k → B ≤ k) : Below B w w' :=
 ⟨h.os, h.tape, h.output, h.size, fun k hk => h.block k (by omega) (by omega) (fun e => by have := ho k e; omega)⟩
theorem Bd.ext {w w' : World} {b : Nat} {t : TypeId} {ex : List Value} {l : List UInt8} {o : Option Nat} (h : Bd w b t ex l o) (hx : Ext w w') : Bd w' b t ex l o := by
 obtain ⟨p, v, h1, h2, h3, h4⟩ := h; exact ⟨p, v, by rw [hx.block b (lt_of_block h1)]; exact h1, h2, h3, h4.ext hx⟩
theorem Bd.lt {w : World} {b : Nat} {t : TypeId} {ex : List Value} {l : List UInt8} {o : Option Nat} (h : Bd w b t ex l o) : b < w.heap.size := by
 obtain ⟨p, v, h1, _⟩ := h; exact lt_of_block h1
theorem Bd.own {w : World} {b : Nat} {t : TypeId} {ex : List Value} {l : List UInt8} {o : Option Nat} (h : Bd w b t ex l o) : ∀ k, o = some k → b < k ∧ k < w.heap.size := by
 obtain ⟨p, v, h1, h2, h3, h4⟩ := h; intro k e; have := h4.lt k (h3.trans e); omega
theorem Bd.cell {w : World} {b : Nat} {t : TypeId} {ex : List Value} {l : List UInt8} {o : Option Nat} (h : Bd w b t ex l o) (i : Nat) : w.cell? ⟨b, i + 2, none⟩ = ex[i]? := by
 obtain ⟨p, v, h1, _⟩ := h; rw [cell_of_cells h1]; simp
theorem Bd.free {w : World} {b : Nat} {t : TypeId} {ex : List Value} {l : List UInt8} {o : Option Nat} (h : Bd w b t ex l o) (i : Nat) : w.frozen? ⟨b, i, none⟩ = false := by
 obtain ⟨p, v, h1, _⟩ := h; exact free_of_cells h1
theorem Bd.set {w : World} {b : Nat} {t : TypeId} {ex : List Value} {l : List UInt8} {o : Option Nat} (h : Bd w b t ex l o) (i : Nat) (u : Value) : Bd (w.setCell ⟨b, i + 2, none⟩ u) b t (ex.set i u) l o ∧ KB b o o w (w.setCell ⟨b, i + 2, none⟩ u) := by
 obtain ⟨p, v, h1, h2, h3, h4⟩ := h; refine ⟨⟨p, v, ?_, h2, h3, ?_⟩, rfl, rfl, rfl, by simp [World.setCell], fun k _ hk _ => Below.heap_setCell _ _ _ _ hk, fun _ h => .inl h⟩
 · rw [heap_setCell_same _ h1]; simp
 · exact ownsRow_setCell_below h4 (Nat.lt_succ_self b) _
set_option maxHeartbeats 1600000 in
theorem wByte (b : Nat) (t : TypeId) (ex : List Value) (l : List UInt8) (o : Option Nat) (n : Int) (c : UInt8) (w : World) (hn : (c.toNat : Int) = n) (ht : BldT t (ex.length + 2)) (h : Bd w b t ex l o) (hl : l.length + 1 ≤ 140737488355328) :
 Calls Tryz.prog 62 #[.pointer (some ⟨b, 0, none⟩), .int .u8 n] w fun e w' => e = .returned .nilIface ∧ ∃ o', Bd w' b t ex (l ++ [c]) o' ∧ KB b o o' w w' := by
 subst hn; have hlt := h.lt; obtain ⟨p, v, hb, hp, hvo, hown⟩ := h; have hbase : b + 1 ≤ w.heap.size := hlt; obtain ⟨i0, hi, hz0, hz1, hz2⟩ := info_parts info8; have HC := Hd (copyCheck_any b t ex p v w ht hb hp); clear ht; go_enter Tryz.func62, Tryz.ntmps62
 have HB := Hd hb; clear hb; go_wp2_with (first
  | (go_at_call 85; refine HC.out.mono ?_; rintro e w1 ⟨rfl, h1, hk1, hkk, -⟩; have hsz := hkk.size; have hown1 := own_kept hown hk1 (Nat.lt_succ_self b); have hc1 : w1.cell? ⟨b, 1, none⟩ = some v := (by rw [cell_of_cells h1]; simp); have hb1 : b < w1.heap.size := lt_of_block h1; have hown2 : OwnB (w1.alloc (.cells #[.int .u8 c.toNat] 5)) (b + 1) 5 v l := OwnB.ext hown1 ((ext_refl w1).alloc (Nat.le_refl _) _); have hbs : b + 1 ≤ (w1.alloc (.cells #[.int .u8 c.toNat] 5)).heap.size := (by simp; omega); have H1 := Hd h1; clear h1)
  | (at_builtin; refine wpList_append_told rfl _ _ 56 56 rfl (b + 1) 5 i0 (.int .u8 0) 1 1 Tryz.underlying56 hi hz0 hz1 hz2 rfl (by decide) v _ _ rfl hown2 _ 1 [.int .u8 c.toNat] rfl (Src.ofSlice _ Tryz.underlying56 ⟨w1.heap.size, 0, none⟩ 1 1 _ rfl (cell_of_block1 (heap_alloc_new _ _)) (one_of1 rfl)) (by simp only [maxLen]; omega) (by omega) hbs ?_; intro v5 w5 hown5 hgr5 hnw5; obtain ⟨a5, c5, rfl⟩ := own_shape' hown5; have h5 : w5.heap[b]? = some (.cells (.pointer (some ⟨b, 0, none⟩) :: v :: ex).toArray t (0, 0)) := (by rw [hgr5.block b (by simp; omega) (fun e => by have := (hown2.lt b e.symm).1; omega), Below.heap_alloc _ _ _ hb1]; exact H1.out); have hc5 : w5.cell? ⟨b, 1, none⟩ = some v := (by rw [cell_of_cells h5]; simp); have hf5 : w5.frozen? ⟨b, 1, none⟩ = false := free_of_cells h5; have H5 := Hd h5; clear h5))
 go_ret; refine ⟨rfl, _, ⟨.pointer (some ⟨b, 0, none⟩), .slice a5 (l.length + 1) c5, ?_, .inr rfl, rfl, ?_⟩, ?_⟩
 · rw [heap_setCell_same _ H5.out]; simp
 · unfold OwnB; rw [cells8_append, List.length_append]; exact ownsRow_setCell_below hown5 (Nat.lt_succ_self b) _
 · refine ⟨?_, ?_, ?_, ?_, fun k hk hkb hko => ?_, fun k e => ?_⟩
   · exact (hgr5.os).trans hkk.os
   · exact (hgr5.tape).trans hkk.tape
   · exact (hgr5.output).trans hkk.output
   · have := hgr5.size; simp [World.setCell] at this ⊢
     omega
   · rw [Below.heap_setCell _ _ _ _ hkb, hgr5.block k (by simp; omega) (fun e => hko (hvo.symm.trans e.symm)), Below.heap_alloc _ _ _ (by omega), hk1 k hkb]
   · rcases hnw5 with h' | h'
     · exact .inl (hvo.symm.trans (h'.symm.trans e))
     · right
       have := h'.symm.trans e; simp at this; omega
set_option maxHeartbeats 1600000 in
theorem wString (b : Nat) (t : TypeId) (ex : List Value) (l : List UInt8) (o : Option Nat) (s : ByteArray) (w : World) (ht : BldT t (ex.length + 2)) (h : Bd w b t ex l o) (hl : l.length + s.size ≤ 140737488355328) :
 Calls Tryz.prog 63 #[.pointer (some ⟨b, 0, none⟩), .string s] w fun e w' => e = .returned (.tuple #[.int .i64 s.size, .nilIface]) ∧ ∃ o', Bd w' b t ex (l ++ s.data.toList) o' ∧ KB b o o' w w' := by
 have hlt := h.lt; obtain ⟨p, v, hb, hp, hvo, hown⟩ := h; have hbase : b + 1 ≤ w.heap.size := hlt; obtain ⟨i0, hi, hz0, hz1, hz2⟩ := info_parts info8; have HC := Hd (copyCheck_any b t ex p v w ht hb hp); have hsl : s.data.toList.length = s.size := Array.length_toList; have hcl : Go.byteCells s = cells8 s.data.toList := rfl; have HSL := Hd hsl; have HCL := Hd hcl; clear ht hsl hcl
 go_enter Tryz.func63, Tryz.ntmps63
 have HB := Hd hb; clear hb; go_wp2_with (first
  | (go_at_call 85; refine HC.out.mono ?_; rintro e w1 ⟨rfl, h1, hk1, hkk, -⟩; have hsz := hkk.size; have hown1 := own_kept hown hk1 (Nat.lt_succ_self b); have hc1 : w1.cell? ⟨b, 1, none⟩ = some v := (by rw [cell_of_cells h1]; simp); have hb1 : b < w1.heap.size := lt_of_block h1; have hbs : b + 1 ≤ w1.heap.size := (by omega); have H1 := Hd h1; clear h1)
  | (at_builtin; refine wpList_append_told rfl _ _ 56 9 rfl (b + 1) 5 i0 (.int .u8 0) 1 1 Tryz.underlying56 hi hz0 hz1 hz2 rfl (by decide) v _ _ rfl hown1 _ s.size _ rfl (Src.ofString _ Tryz.underlying9 s) (by simp only [maxLen]; omega) (by omega) hbs ?_; intro v5 w5 hown5 hgr5 hnw5; have hown6 : OwnB w5 (b + 1) 5 v5 (l ++ s.data.toList) := (by unfold OwnB; rw [cells8_append, List.length_append, HSL.out, ← HCL.out]; exact hown5); obtain ⟨a5, c5, rfl⟩ := own8_shape hown6; have h5 : w5.heap[b]? = some (.cells (.pointer (some ⟨b, 0, none⟩) :: v :: ex).toArray t (0, 0)) := (by rw [hgr5.block b hb1 (fun e => by have := (hown1.lt b e.symm).1; omega)]; exact H1.out); have hc5 : w5.cell? ⟨b, 1, none⟩ = some v := (by rw [cell_of_cells h5]; simp); have hf5 : w5.frozen? ⟨b, 1, none⟩ = false := free_of_cells h5; have H5 := Hd h5; clear h5))
 go_ret2; have hlen : (l ++ s.data.toList).length = l.length + s.size := by rw [List.length_append, HSL.out]
 rw [hlen] at hown6 hnw5; refine ⟨rfl, _, ⟨.pointer (some ⟨b, 0, none⟩), .slice a5 (l.length + s.size) c5, ?_, .inr rfl, rfl, ?_⟩, ?_⟩
 · rw [heap_setCell_same _ H5.out]; simp
 · exact ownsRow_setCell_below hown6 (Nat.lt_succ_self b) _
 · refine ⟨?_, ?_, ?_, ?_, fun k hk hkb hko => ?_, fun k e => ?_⟩
   · exact (hgr5.os).trans hkk.os
   · exact (hgr5.tape).trans hkk.tape
   · exact (hgr5.output).trans hkk.output
   · have := hgr5.size; simp [World.setCell] at this ⊢
     omega
   · rw [Below.heap_setCell _ _ _ _ hkb, hgr5.block k (by omega) (fun e => hko (hvo.symm.trans e.symm)), hk1 k hkb]
   · rcases hnw5 with h' | h'
     · exact .inl (hvo.symm.trans (h'.symm.trans e))
     · right
       have := h'.symm.trans e; simp at this; omega
end Go.Proofs.YtjapbjmeoaagmaaGreatDoor
