/- A text of this proof. -/
import Derived.Test.YtjapbjmeoaagmaaGreatDoorEPrintIsPaA
import Derived.Test.YtjapbjmeoaagmaaGreatDoorEPrintIsSh
import Derived.Test.YtjapbjmeoaagmaaGreatDoorEPrintIsSi
set_option linter.unusedVariables false
set_option linter.unusedSimpArgs false
set_option maxRecDepth 100000
namespace Go.Proofs.YtjapbjmeoaagmaaGreatDoor
open Go.RowKit Go.Mem Orange
def StB (p : Nat) (v : Value) (xs : List UInt8) (deep S : Nat) (w0 : World) (acc : List Tree) (w : World) : Prop :=
 StA (S + 4) (S + 3) acc w ∧ Box1 w S 111 (.pointer (some ⟨p, 0, none⟩)) ∧ Box1 w (S + 1) 3 (.int .i64 deep) ∧ VAt w (S + 2) zeroV ∧ Kept S p w0 w ∧ S + 4 ≤ w.heap.size
theorem heap8 {w : World} {q k : Nat} {a b c d e f g i : Value} (hk : k ≠ q) : ((((((((w.setCell ⟨q, 0, none⟩ a).setCell ⟨q, 1, none⟩ b).setCell ⟨q, 2, none⟩ c).setCell ⟨q, 3, none⟩ d).setCell ⟨q, 4, none⟩ e).setCell ⟨q, 5, none⟩ f).setCell ⟨q, 6, none⟩ g).setCell ⟨q, 7, none⟩ i).heap[k]? = w.heap[k]? := by
 rw [Below.heap_setCell _ _ _ _ hk, Below.heap_setCell _ _ _ _ hk, Below.heap_setCell _ _ _ _ hk, Below.heap_setCell _ _ _ _ hk, Below.heap_setCell _ _ _ _ hk, Below.heap_setCell _ _ _ _ hk, Below.heap_setCell _ _ _ _ hk, Below.heap_setCell _ _ _ _ hk]
theorem alloc_size1 (w : World) (o : Obj) : (w.alloc o).heap.size = w.heap.size + 1 := by simp
set_option maxHeartbeats 6400000 in
theorem array_any (p : Nat) (v : Value) (xs : List UInt8) (deep : Nat) (hdp : deep < 64) (r : Nat → Nat → PR Tree)
 (hval : ∀ a n w, PS w p v xs a n → n ≤ 4096 → Calls Tryz.prog 94 #[.pointer (some ⟨p, 0, none⟩), .int .i64 (deep + 1 : Nat)] w (fun e w' => EndW p v xs w e w' (r a n)))
 (hmono : ∀ a n t a' n', a ≤ xs.length → r a n = .ok t a' n' → a ≤ a' ∧ n' ≤ 4096)
 (a n : Nat) (w : World) (h : PS w p v xs a n) (ho : xs[a]? = some 91) (hn4 : n ≤ 4096) :
 Calls Tryz.prog 124 #[.pointer (some ⟨p, 0, none⟩), .int .i64 (deep : Nat)] w (fun e w' => EndW p v xs w e w' ((openP xs 93 (itemA r) [] a n).map tArr)) := by
 have hpw : p < w.heap.size := h.1.cells.2.2.2.2.2.2; have hx := h.2.1.len; go_enter Tryz.func124, Tryz.ntmps124
 go_wp2_with fail; simp only [Nat.add_assoc, Nat.reduceAdd]
 generalize hw1 : (((w.alloc (.cells #[.pointer (some ⟨p, 0, none⟩)] 111)).alloc (.cells #[.int .i64 deep] 3)).alloc (.cells #[.int .i64 0, .bool false, .bool false, .string ⟨#[]⟩, .int .i64 0, .string ⟨#[]⟩, .slice none 0 0, .slice none 0 0] 27)).alloc (.cells #[.int .i64 4, .bool false, .bool false, .string ⟨#[]⟩, .int .i64 0, .string ⟨#[]⟩, .slice none 0 0, .slice none 0 0] 27) = w1 at *
 have hsz : w1.heap.size = w.heap.size + 4 := by rw [← hw1]; simp
 have hE : Ext w w1 := by
  rw [← hw1]; exact ((((ext_refl w).alloc (by simp) _).alloc (by simp) _).alloc (by simp; omega) _).alloc (by simp; omega) _
 have hbp : Box1 w1 w.heap.size 111 (.pointer (some ⟨p, 0, none⟩)) := by
  unfold Box1; rw [← hw1, heap_alloc_old _ _ (by simp; omega), heap_alloc_old _ _ (by simp; omega), heap_alloc_old _ _ (by simp)]; exact heap_alloc_new _ _
 have hbd : Box1 w1 (w.heap.size + 1) 3 (.int .i64 deep) := by
  unfold Box1; rw [← hw1, heap_alloc_old _ _ (by simp), heap_alloc_old _ _ (by simp)]; have := heap_alloc_new (w.alloc (.cells #[.pointer (some ⟨p, 0, none⟩)] 111)) (.cells #[.int .i64 deep] 3); simpa using this
 have hvr : VAt w1 (w.heap.size + 2) zeroV := by
  unfold VAt; rw [← hw1, heap_alloc_old _ _ (by simp)]; have := heap_alloc_new ((w.alloc (.cells #[.pointer (some ⟨p, 0, none⟩)] 111)).alloc (.cells #[.int .i64 deep] 3)) (.cells zeroV 27); rw [alloc_size1, alloc_size1] at this; exact this
 have hvq : VAt w1 (w.heap.size + 3) (cellsV 4 false Num.zero [] noL noL) := by
  unfold VAt; rw [← hw1]; have := heap_alloc_new (((w.alloc (.cells #[.pointer (some ⟨p, 0, none⟩)] 111)).alloc (.cells #[.int .i64 deep] 3)).alloc (.cells zeroV 27)) (.cells (cellsV 4 false Num.zero [] noL noL) 27); rw [alloc_size1, alloc_size1, alloc_size1] at this; exact this
 clear hw1; have hst : StB p v xs deep w.heap.size w [] w1 := ⟨⟨noL, [], hvq, World.ownsRow_nil _ _ _ _, .nil⟩, hbp, hbd, hvr, (KeptP.ofExt hE), by omega⟩
 have HLIST := list_any p v xs w.heap.size hpw (StB p v xs deep w.heap.size w) (itemA r) 91 93 (by decide) 156 #[.pointer (some ⟨w.heap.size + 3, 0, none⟩), .pointer (some ⟨w.heap.size, 0, none⟩), .pointer (some ⟨w.heap.size + 1, 0, none⟩)]
  (fun w => by rfl)
  (fun s w2 w3 h2 _ hk => by
    obtain ⟨i1, i2, i3, i4, i5, i6⟩ := h2; exact ⟨i1.kept hk (by omega) (by omega), i2.kept hk (by omega), i3.kept hk (by omega), i4.kept hk (by omega), i5.trans (hk.mono (by omega)), Nat.le_trans i6 hk.size⟩)
  (fun s a n s' a' n' ha hi => by
    unfold itemA at hi; cases hr : r a n with
    | ok t a1 n1 =>
      rw [hr] at hi; simp only [PR.map, PR.ok.injEq] at hi; have := hmono a n t a1 n1 ha hr; omega
    | err e b => rw [hr] at hi; cases hi)
  (fun s a n => s.length ≤ a ∧ n ≤ 4096)
  (fun s a n s' a' n' b ha hj hi hb => by
    unfold itemA at hi; cases hr : r a n with
    | ok t a1 n1 =>
      rw [hr] at hi; simp only [PR.map, PR.ok.injEq] at hi; obtain ⟨rfl, rfl, rfl⟩ := hi; have := hmono a n t a1 n1 ha hr; refine ⟨?_, by omega⟩; simp; omega
    | err e b => rw [hr] at hi; cases hi)
  (fun s a n w2 hps h2 hB hj => by
    obtain ⟨i1, i2, i3, i4, i5, i6⟩ := h2; have hal := hps.2.2; have HA := array1_any p v xs w.heap.size (w.heap.size + 4) (w.heap.size + 3) w.heap.size (w.heap.size + 1) deep hpw (by omega) w rfl h.2.1 (by omega) (by omega) (by omega) hdp r hval s a n w2 hps i5 i1 i6 (by omega) hj.2 (by omega) i2 i3; refine HA.mono fun e w3 hend => ?_; cases hi : itemA r s a n with
    | ok s' a' n' =>
      rw [hi] at hend; obtain ⟨rfl, j1, j2, j3⟩ := hend; exact ⟨rfl, j1, ⟨j2, j3.box i2 (by omega) (by omega) (by omega), j3.box i3 (by omega) (by omega) (by omega), j3.vat i4 (by omega) (by omega) (by omega), i5.trans (j3.kept (by omega) (by omega)), Nat.le_trans i6 j3.size⟩, j3.kept (by omega) (by omega)⟩
    | err er b =>
      rw [hi] at hend; exact ⟨hend.1, hend.2.mono (by omega)⟩)
  [] a n w1 (h.ext hE) (fun b hb => ⟨by simp, hn4⟩) hst (by omega) ho
 refine HLIST.mono ?_; intro e w2 hend; cases hop : openP xs 93 (itemA r) [] a n with
 | err er b =>
   rw [hop] at hend; obtain ⟨rfl, hk⟩ := hend; go_wp2_with fail; refine ⟨rfl, ?_⟩; rw [hop]; exact ⟨rfl, Kept.trans (KeptP.ofExt hE) hk⟩
 | ok acc a1 n1 =>
   rw [hop] at hend; obtain ⟨rfl, hps, ⟨⟨vL, cs, hv, hown, htl⟩, i2, i3, i4, i5, i6⟩, hk⟩ := hend; have HV := Hd hv; have HR := Hd i4; obtain ⟨vA, vC, hvL⟩ : ∃ a c, vL = .slice a acc.length c := by
    rcases hown.2 with ⟨e, h0⟩ | ⟨g, cap, cur, e, _⟩
    · exact ⟨none, 0, by rw [e, h0]⟩
    · exact ⟨_, _, e⟩
   subst hvL; obtain ⟨q0, q1, q2, q3, q4, q5, q6, q7⟩ := HV.out.c8; have r0 := HR.out.cell 0; have r1 := HR.out.cell 1; have r2 := HR.out.cell 2; have r3 := HR.out.cell 3; have r4 := HR.out.cell 4; have r5 := HR.out.cell 5; have r6 := HR.out.cell 6; have r7 := HR.out.cell 7; obtain ⟨s0, s1, s2, s3, s4, s5, s6, s7⟩ := HR.out.f8; simp at r0 r1 r2 r3 r4 r5 r6 r7; go_wp2_with fail
   have hV := VAt.store8 HR.out (.int .i64 4) (.bool false) (.bool Num.zero.neg) (.string ⟨Num.zero.digits.toArray⟩) (.int .i64 Num.zero.exp) (.string ⟨#[]⟩) (.slice vA acc.length vC) noL; refine bodyPost_ret (results_cell_row rfl _ _ _ _ _ (0, 0) _ rfl hV Tryz.underlying27 rfl (by kernel_rfl)) rfl ?_; rw [hop]
   have hend := PS.fresh h hps (Kept.trans (KeptP.ofExt hE) hk) (below_store8 (B := w.heap.size) (p := w.heap.size + 2) (Below.refl _ w2) (by omega) (.int .i64 4) (.bool false) (.bool Num.zero.neg) (.string ⟨Num.zero.digits.toArray⟩) (.int .i64 Num.zero.exp) (.string ⟨#[]⟩) (.slice vA acc.length vC) noL); refine ⟨_, rfl, ?_, hend.1, hend.2⟩
   have hsame := fun k (hk : k ≠ w.heap.size + 2) => heap8 (w := w2) (a := .int .i64 4) (b := .bool false) (c := .bool Num.zero.neg) (d := .string ⟨Num.zero.digits.toArray⟩) (e := .int .i64 Num.zero.exp) (f := .string ⟨#[]⟩) (g := .slice vA acc.length vC) (i := noL) hk
   refine TV.keep (w := w2) (A := fun g => w.heap.size + 4 ≤ g) (by simp [World.setCell]) (fun g hg hlt => ⟨by omega, hsame g (by omega)⟩) ?_; exact .mk (htl.keep (Nat.le_refl _) (fun g hg _ => ⟨hg.1, rfl⟩)) (RowAt.own hown (by decide) (fun g _ hg _ => hg)) .nil (RowAt.nil _ _ _ _ _ (by omega))
end Go.Proofs.YtjapbjmeoaagmaaGreatDoor
