/- A text of this proof. -/
import Derived.Test.YtjapbjmeoaagmaaGreatDoorEPrintIsPaJ
import Derived.Test.YtjapbjmeoaagmaaGreatDoorEPrintIsSh
import Derived.Test.YtjapbjmeoaagmaaGreatDoorEPrintIsSi
set_option linter.unusedVariables false
set_option linter.unusedSimpArgs false
set_option maxRecDepth 100000
namespace Go.Proofs.YtjapbjmeoaagmaaGreatDoor
open Go.RowKit Go.Mem Orange
def StP (p deep S : Nat) (w0 : World) (acc : List (List UInt8 × Tree)) (w : World) : Prop :=
 StO p (S + 6) (S + 3) S (S + 1) (S + 5) (S + 4) deep acc w ∧ VAt w (S + 2) zeroV ∧ Kept S p w0 w ∧ S + 6 ≤ w.heap.size
theorem itemO_ok {xs : List UInt8} {r : Nat → Nat → PR Tree} (hmono : ∀ a n t a' n', a ≤ xs.length → r a n = .ok t a' n' → a ≤ a' ∧ n' ≤ 4096) {acc acc' : List (List UInt8 × Tree)} {a n a' n' : Nat} (ha : a ≤ xs.length) (h : itemO xs r acc a n = .ok acc' a' n') : a ≤ a' ∧ n' ≤ 4096 ∧ ∃ k t, acc' = acc ++ [(k, t)] := by
 unfold itemO at h; have hw := whiteN_ge xs a ha; cases ht : textP xs (whiteN xs a) n with
 | err e b => rw [ht] at h; cases h
 | ok key a1 n1 =>
   rw [ht] at h; simp only at h; split at h
   · cases h
   split at h
   · rename_i h58
     obtain ⟨hlt, _⟩ := List.getElem?_eq_some_iff.1 h58; obtain ⟨h1, _, _⟩ := textP_ok ht; cases hr : r (whiteN xs a1 + 1) n1 with
     | ok t a2 n2 =>
       rw [hr] at h; simp only [PR.map, PR.ok.injEq] at h; obtain ⟨rfl, rfl, rfl⟩ := h; obtain ⟨h2, h9⟩ := hmono _ _ _ _ _ (by omega) hr; have h3 : a1 ≤ whiteN xs a1 := by
        by_cases h4 : a1 ≤ xs.length
        · exact whiteN_ge xs a1 h4
        · exfalso
          have : whiteN xs a1 = xs.length := by unfold whiteN; rw [List.drop_of_length_le (by omega)]; simp
          omega
       exact ⟨by omega, h9, _, _, rfl⟩
     | err e b => rw [hr] at h; cases h
   · cases h
set_option maxHeartbeats 6400000 in
theorem object_any (p : Nat) (v : Value) (xs : List UInt8) (deep : Nat) (hdp : deep < 64) (r : Nat → Nat → PR Tree)
 (hval : ∀ a n w, PS w p v xs a n → n ≤ 4096 → Calls Tryz.prog 94 #[.pointer (some ⟨p, 0, none⟩), .int .i64 (deep + 1 : Nat)] w (fun e w' => EndW p v xs w e w' (r a n)))
 (hmono : ∀ a n t a' n', a ≤ xs.length → r a n = .ok t a' n' → a ≤ a' ∧ n' ≤ 4096)
 (a n : Nat) (w : World) (h : PS w p v xs a n) (ho : xs[a]? = some 123) (hn4 : n ≤ 4096) :
 Calls Tryz.prog 125 #[.pointer (some ⟨p, 0, none⟩), .int .i64 (deep : Nat)] w (fun e w' => EndW p v xs w e w' ((openP xs 125 (itemO xs r) [] a n).map tObj)) := by
 have hpw : p < w.heap.size := h.1.cells.2.2.2.2.2.2; have hx := h.2.1.len; have hmm := @run_makeMap Tryz.prog; go_enter Tryz.func125, Tryz.ntmps125
 go_wp2_with fail; simp only [Nat.add_assoc, Nat.reduceAdd]
 generalize hw1 : (((((w.alloc (.cells #[.pointer (some ⟨p, 0, none⟩)] 111)).alloc (.cells #[.int .i64 deep] 3)).alloc (.cells #[.int .i64 0, .bool false, .bool false, .string ⟨#[]⟩, .int .i64 0, .string ⟨#[]⟩, .slice none 0 0, .slice none 0 0] 27)).alloc (.cells #[.int .i64 5, .bool false, .bool false, .string ⟨#[]⟩, .int .i64 0, .string ⟨#[]⟩, .slice none 0 0, .slice none 0 0] 27)).alloc (.map #[] 0)).alloc (.cells #[.map (some (w.heap.size + 4))] 126) = w1 at *
 have hsz : w1.heap.size = w.heap.size + 6 := by rw [← hw1]; simp
 have hE : Ext w w1 := by
  rw [← hw1]; exact ((((((ext_refl w).alloc (by simp) _).alloc (by simp) _).alloc (by simp <;> omega) _).alloc (by simp <;> omega) _).alloc (by simp <;> omega) _).alloc (by simp <;> omega) _
 have hbp : Box1 w1 w.heap.size 111 (.pointer (some ⟨p, 0, none⟩)) := by
  unfold Box1; rw [← hw1, heap_alloc_old _ _ (by simp <;> omega), heap_alloc_old _ _ (by simp <;> omega), heap_alloc_old _ _ (by simp <;> omega), heap_alloc_old _ _ (by simp <;> omega), heap_alloc_old _ _ (by simp)]; exact heap_alloc_new _ _
 have hbd : Box1 w1 (w.heap.size + 1) 3 (.int .i64 deep) := by
  unfold Box1; rw [← hw1, heap_alloc_old _ _ (by simp <;> omega), heap_alloc_old _ _ (by simp <;> omega), heap_alloc_old _ _ (by simp), heap_alloc_old _ _ (by simp)]; have := heap_alloc_new (w.alloc (.cells #[.pointer (some ⟨p, 0, none⟩)] 111)) (.cells #[.int .i64 deep] 3); simpa using this
 have hvr : VAt w1 (w.heap.size + 2) zeroV := by
  unfold VAt; rw [← hw1, heap_alloc_old _ _ (by simp <;> omega), heap_alloc_old _ _ (by simp), heap_alloc_old _ _ (by simp)]; have := heap_alloc_new ((w.alloc (.cells #[.pointer (some ⟨p, 0, none⟩)] 111)).alloc (.cells #[.int .i64 deep] 3)) (.cells zeroV 27); rw [alloc_size1, alloc_size1] at this; exact this
 have hvq : VAt w1 (w.heap.size + 3) (cellsV 5 false Num.zero [] noL noL) := by
  unfold VAt; rw [← hw1, heap_alloc_old _ _ (by simp), heap_alloc_old _ _ (by simp)]; have := heap_alloc_new (((w.alloc (.cells #[.pointer (some ⟨p, 0, none⟩)] 111)).alloc (.cells #[.int .i64 deep] 3)).alloc (.cells zeroV 27)) (.cells (cellsV 5 false Num.zero [] noL noL) 27); rw [alloc_size1, alloc_size1, alloc_size1] at this; exact this
 have hset : SetAt w1 (w.heap.size + 4) [] := by
  have h4 := SetAt.new ((((w.alloc (.cells #[.pointer (some ⟨p, 0, none⟩)] 111)).alloc (.cells #[.int .i64 deep] 3)).alloc (.cells zeroV 27)).alloc (.cells (cellsV 5 false Num.zero [] noL noL) 27)); rw [alloc_size1, alloc_size1, alloc_size1, alloc_size1] at h4; refine h4.same ?_; rw [← hw1, heap_alloc_old _ _ (by simp)]; rfl
 have hbx : Box1 w1 (w.heap.size + 5) 126 (.map (some (w.heap.size + 4))) := by
  unfold Box1; rw [← hw1]; have := heap_alloc_new (((((w.alloc (.cells #[.pointer (some ⟨p, 0, none⟩)] 111)).alloc (.cells #[.int .i64 deep] 3)).alloc (.cells zeroV 27)).alloc (.cells (cellsV 5 false Num.zero [] noL noL) 27)).alloc (.map #[] 0)) (.cells #[.map (some (w.heap.size + 4))] 126); rw [alloc_size1, alloc_size1, alloc_size1, alloc_size1, alloc_size1] at this; exact this
 clear hw1; have L : ObjLay p w.heap.size (w.heap.size + 6) (w.heap.size + 3) w.heap.size (w.heap.size + 1) (w.heap.size + 5) (w.heap.size + 4) := ⟨hpw, by omega, by omega, by omega, by omega, by omega, by omega⟩
 have hst : StP p deep w.heap.size w [] w1 := ⟨⟨noL, [], [], ⟨hvq, World.ownsRow_nil _ _ _ _, .nil, hbp, hbd, hbx, hset⟩, by simp, fun k => by simp⟩, hvr, (KeptP.ofExt hE), by omega⟩
 have HLIST := list_any p v xs w.heap.size hpw (StP p deep w.heap.size w) (itemO xs r) 123 125 (by decide) 157 #[.pointer (some ⟨w.heap.size, 0, none⟩), .pointer (some ⟨w.heap.size + 5, 0, none⟩), .pointer (some ⟨w.heap.size + 3, 0, none⟩), .pointer (some ⟨w.heap.size + 1, 0, none⟩)]
  (fun w => by rfl)
  (fun s w2 w3 h2 _ hk => by
    obtain ⟨⟨vM, cs, keys, i1, i2, i3⟩, i4, i5, i6⟩ := h2; exact ⟨⟨vM, cs, keys, i1.kept L hk, i2, i3⟩, i4.kept hk (by omega), i5.trans (hk.mono (by omega)), Nat.le_trans i6 hk.size⟩)
  (fun s a n s' a' n' ha hi => (itemO_ok hmono ha hi).1)
  (fun s a n => s.length ≤ a ∧ n ≤ 4096)
  (fun s a n s' a' n' b ha hj hi hb => by
    obtain ⟨h1, h9, k, t, rfl⟩ := itemO_ok hmono ha hi; refine ⟨?_, h9⟩; simp; omega)
  (fun s a n w2 hps h2 hB hj => by
    obtain ⟨i1, i4, i5, i6⟩ := h2; have hal := hps.2.2; have HA := object1_any p v xs w.heap.size (w.heap.size + 6) (w.heap.size + 3) w.heap.size (w.heap.size + 1) (w.heap.size + 5) (w.heap.size + 4) deep L w rfl h.2.1 hdp r hval s a n w2 hps i5 i1 i6 (by omega) hj.2; refine HA.mono fun e w3 hend => ?_; cases hi : itemO xs r s a n with
    | ok s' a' n' =>
      rw [hi] at hend; obtain ⟨rfl, j1, j2, j3⟩ := hend; have hk3 := j3.kept (B := w.heap.size) (by omega) (by omega) (by omega); refine ⟨rfl, j1, ⟨j2, ?_, i5.trans hk3, Nat.le_trans i6 j3.size⟩, hk3⟩; unfold VAt; rw [j3.block _ (by omega) (by omega) (by omega) (by omega)]; exact i4
    | err er b =>
      rw [hi] at hend; exact ⟨hend.1, hend.2.kept (by omega) (by omega) (by omega)⟩)
  [] a n w1 (h.ext hE) (fun b hb => ⟨by simp, hn4⟩) hst (by omega) ho
 refine HLIST.mono ?_; intro e w2 hend; cases hop : openP xs 125 (itemO xs r) [] a n with
 | err er b =>
   rw [hop] at hend; obtain ⟨rfl, hk⟩ := hend; go_wp2_with fail; refine ⟨rfl, ?_⟩; rw [hop]; exact ⟨rfl, Kept.trans (KeptP.ofExt hE) hk⟩
 | ok acc a1 n1 =>
   rw [hop] at hend; obtain ⟨rfl, hps, ⟨⟨vL, cs, keys, hob, _, _⟩, i4, i5, i6⟩, hk⟩ := hend; have hown := hob.own; have htl := hob.tm; have HV := Hd hob.v; have HR := Hd i4; obtain ⟨vA, vC, hvL⟩ : ∃ a c, vL = .slice a acc.length c := by
    rcases hown.2 with ⟨e, h0⟩ | ⟨g, cap, cur, e, _⟩
    · exact ⟨none, 0, by rw [e, h0]⟩
    · exact ⟨_, _, e⟩
   subst hvL; obtain ⟨q0, q1, q2, q3, q4, q5, q6, q7⟩ := HV.out.c8; have r0 := HR.out.cell 0; have r1 := HR.out.cell 1; have r2 := HR.out.cell 2; have r3 := HR.out.cell 3; have r4 := HR.out.cell 4; have r5 := HR.out.cell 5; have r6 := HR.out.cell 6; have r7 := HR.out.cell 7; obtain ⟨s0, s1, s2, s3, s4, s5, s6, s7⟩ := HR.out.f8; simp at r0 r1 r2 r3 r4 r5 r6 r7; go_wp2_with fail
   have hV := VAt.store8 HR.out (.int .i64 5) (.bool false) (.bool Num.zero.neg) (.string ⟨Num.zero.digits.toArray⟩) (.int .i64 Num.zero.exp) (.string ⟨#[]⟩) noL (.slice vA acc.length vC); refine bodyPost_ret (results_cell_row rfl _ _ _ _ _ (0, 0) _ rfl hV Tryz.underlying27 rfl (by kernel_rfl)) rfl ?_; rw [hop]
   have hend := PS.fresh h hps (Kept.trans (KeptP.ofExt hE) hk) (below_store8 (B := w.heap.size) (p := w.heap.size + 2) (Below.refl _ w2) (by omega) (.int .i64 5) (.bool false) (.bool Num.zero.neg) (.string ⟨Num.zero.digits.toArray⟩) (.int .i64 Num.zero.exp) (.string ⟨#[]⟩) noL (.slice vA acc.length vC)); refine ⟨_, rfl, ?_, hend.1, hend.2⟩
   have hsame := fun k (hk : k ≠ w.heap.size + 2) => heap8 (w := w2) (a := .int .i64 5) (b := .bool false) (c := .bool Num.zero.neg) (d := .string ⟨Num.zero.digits.toArray⟩) (e := .int .i64 Num.zero.exp) (f := .string ⟨#[]⟩) (g := noL) (i := .slice vA acc.length vC) hk
   refine TV.keep (w := w2) (A := fun g => w.heap.size + 6 ≤ g) (by simp [World.setCell]) (fun g hg hlt => ⟨by omega, hsame g (by omega)⟩) ?_; exact .mk .nil (RowAt.nil _ _ _ _ _ (by omega)) (htl.keep (Nat.le_refl _) (fun g hg _ => ⟨hg.1, rfl⟩)) (RowAt.own hown (by decide) (fun g _ hg _ => hg))
end Go.Proofs.YtjapbjmeoaagmaaGreatDoor
