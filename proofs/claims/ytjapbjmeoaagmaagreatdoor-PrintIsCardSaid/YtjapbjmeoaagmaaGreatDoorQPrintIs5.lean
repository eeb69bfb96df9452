/- Several texts of this proof in one. -/
import Derived.Test.YtjapbjmeoaagmaaGreatDoorQPrintIs4
import Derived.Test.YtjapbjmeoaagmaaGreatDoorQPrintIs2
import Derived.Test.YtjapbjmeoaagmaaGreatDoorQPrintIs1
import Derived.Deep.CutBlock
import Derived.Test.YtjapbjmeoaagmaaGreatDoorQPrintIs3
import Derived.Test.YtjapbjmeoaagmaaGreatDoorRows
import Derived.SizedLaws
import Derived.LaidMore
import Derived.MakeChecks
import Derived.Lib.LaidTab
import Derived.Stop.LaidErr
import Derived.Lib.SmallJoins
import Derived.JoinedOf
import Derived.Test.YtjapbjmeoaagmaaGreatDoorChecked
import Derived.Test.YtjapbjmeoaagmaaGreatDoorEPrintIsSh
import Derived.Test.YtjapbjmeoaagmaaGreatDoorEPrintIsSi
set_option linter.unusedVariables false
set_option linter.unusedSimpArgs false
set_option maxRecDepth 100000
section
set_option maxRecDepth 100000
namespace Go.Proofs.YtjapbjmeoaagmaaGreatDoor
open Go.RowKit Go.Mem Orange
abbrev zM9 : Array Value := #[.string ⟨#[]⟩, .int .i64 0, .bool false, .bool false, .string ⟨#[]⟩, .int .i64 0, .string ⟨#[]⟩, .slice none 0 0, .slice none 0 0]
theorem MAt.store9 {w : World} {q : Nat} {x0 x1 x2 x3 x4 x5 x6 x7 x8 : Value} (h : MAt w q #[x0, x1, x2, x3, x4, x5, x6, x7, x8]) (a b c d e f g i j : Value) : MAt (((((((((w.setCell ⟨q, 0, none⟩ a).setCell ⟨q, 1, none⟩ b).setCell ⟨q, 2, none⟩ c).setCell ⟨q, 3, none⟩ d).setCell ⟨q, 4, none⟩ e).setCell ⟨q, 5, none⟩ f).setCell ⟨q, 6, none⟩ g).setCell ⟨q, 7, none⟩ i).setCell ⟨q, 8, none⟩ j) q #[a, b, c, d, e, f, g, i, j] := by
 unfold MAt at h ⊢; simp [World.setCell, Array.getElem?_modify, h]
theorem MAt.free {w : World} {q : Nat} {c : Array Value} (h : MAt w q c) (i : Nat) : w.frozen? ⟨q, i, none⟩ = false := free_of_cells h
theorem KeptP.store9 {q : Nat} {w : World} (a b c d e f g i j : Value) : KeptP q w (((((((((w.setCell ⟨q, 0, none⟩ a).setCell ⟨q, 1, none⟩ b).setCell ⟨q, 2, none⟩ c).setCell ⟨q, 3, none⟩ d).setCell ⟨q, 4, none⟩ e).setCell ⟨q, 5, none⟩ f).setCell ⟨q, 6, none⟩ g).setCell ⟨q, 7, none⟩ i).setCell ⟨q, 8, none⟩ j) :=
 (KeptP.store8 a b c d e f g i).trans (KeptP.set j)
theorem heap9 {w : World} {q k : Nat} {a b c d e f g i j : Value} (hk : k ≠ q) : (((((((((w.setCell ⟨q, 0, none⟩ a).setCell ⟨q, 1, none⟩ b).setCell ⟨q, 2, none⟩ c).setCell ⟨q, 3, none⟩ d).setCell ⟨q, 4, none⟩ e).setCell ⟨q, 5, none⟩ f).setCell ⟨q, 6, none⟩ g).setCell ⟨q, 7, none⟩ i).setCell ⟨q, 8, none⟩ j).heap[k]? = w.heap[k]? := by
 rw [Below.heap_setCell _ _ _ _ hk]; exact heap8 hk
def specTA {G : Nat → World → World → Prop} {p : Nat} (hk : ∀ i w w', G i w w' → KeptP p w w') (A : Nat → Prop) (hp : ∀ g, A g → g ≠ p) (X : Tree) : GrowS.Spec G :=
 ⟨fun v => ∃ k b' d s a1 n1 c1 a2 n2 c2, v = .agg (cellsV k b' d s (.slice a1 n1 c1) (.slice a2 n2 c2)), fun v w => ∃ c, v = .agg c ∧ TV w A X c, ⟨_, 0, false, Num.zero, [], none, 0, 0, none, 0, 0, rfl⟩,
   fun i v w w' ⟨c, e, h⟩ hg => ⟨c, e, h.keep (hk _ _ _ hg).size (fun g hgA hlt => ⟨hgA, (hk _ _ _ hg).block g hlt (hp g hgA)⟩)⟩⟩
def specBox (P0 : Nat) (T : Tree) (v : Value) : GrowS.Spec (fun _ => Ext) :=
 ⟨fun u => ∃ p, u = .pointer (some ⟨p, 0, none⟩), fun u w => ∃ p, u = .pointer (some ⟨p, 0, none⟩) ∧ P0 ≤ p ∧ MAt w p zM9 ∧ ∃ c, v = .agg c ∧ TV w (fun g => P0 ≤ g ∧ g ≠ p) T c, ⟨_, 0, rfl⟩,
   fun i u w w' ⟨p, e, h1, h2, c, e2, h3⟩ hg => ⟨p, e, h1, h2.ext hg, c, e2, h3.keep hg.size (fun g hgA hlt => ⟨hgA, hg.block g hlt⟩)⟩⟩
def R3Srt (t : Tree) : Prop := ∀ (c : Array Value) (A : Nat → Prop) (w : World), TV w A t c → weightT t ≤ 1000000 →
 Calls Tryz.prog 79 #[.agg c] w (fun e w' => ∃ c', e = .returned (.agg c') ∧ TV w' (fun g => w.heap.size ≤ g) (sortedT t) c' ∧ Ext w w')
set_option maxHeartbeats 6400000 in
theorem r3srt_step (t : Tree) (ih : ∀ x ∈ t.ins, R3Srt x) : R3Srt t := by
 intro c A w h hwt; obtain ⟨kk, bb, d, ss, la, ln, lc, ma, mn, mc, rfl⟩ := h.eight; obtain ⟨cl, cm, htl, hrl, htm, hrm, hk, hb, hd1, hd2, hd3, hss⟩ := tv_rows h; obtain ⟨_, a1, c1, ea, hl1, hl2, -⟩ := id hrl; simp only [Value.slice.injEq] at ea; obtain ⟨rfl, eln, rfl⟩ := ea; subst eln; obtain ⟨_, a2, c2, ea, hm1, hm2, -⟩ := id hrm; simp only [Value.slice.injEq] at ea; obtain ⟨rfl, emn, rfl⟩ := ea
 subst emn; obtain ⟨tk, tb, tn, ts, tl, tm⟩ := t; obtain ⟨d1, d2, d3⟩ := d; obtain ⟨n1, n2, n3⟩ := tn; simp only [Tree.kind, Tree.bit, Tree.num, Tree.str, Tree.list, Tree.mems] at hk hb hd1 hd2 hd3 hss htl hrl htm hrm hl1 hm1 h ⊢; subst hk hb hd1 hd2 hd3 hss; rw [weightT] at hwt; have hwl := wlenL tl; have hwm := wlenM tm; have hll : tl.length ≤ 1000000 := by omega
 have hml : tm.length ≤ 1000000 := by omega
 have IHL : Hid (∀ x ∈ tl, R3Srt x ∧ weightT x ≤ 1000000) := Hd (fun x hx => by
  refine ⟨ih x (List.mem_append_left _ hx), ?_⟩; obtain ⟨i, hi, rfl⟩ := List.getElem_of_mem hx; have := weightL_mem hi; omega)
 have IHM : Hid (∀ x ∈ tm, R3Srt x.2 ∧ weightT x.2 ≤ 1000000 ∧ x.1.length ≤ 1000000) := Hd (fun x hx => by
  obtain ⟨i, hi, rfl⟩ := List.getElem_of_mem hx; have := weightM_mem hi; exact ⟨ih _ (List.mem_append_right _ (List.mem_map.2 ⟨_, hx, rfl⟩)), by omega, by omega⟩)
 clear ih hwl hwm hwt; obtain ⟨wA, ewA⟩ : ∃ W, w.alloc (.cells (cellsV kk bb ⟨d1, d2, d3⟩ ss (.slice la tl.length lc) (.slice ma tm.length mc)) 27) = W := ⟨_, rfl⟩
 have nwA : wA.heap[w.heap.size]? = some (.cells (cellsV kk bb ⟨d1, d2, d3⟩ ss (.slice la tl.length lc) (.slice ma tm.length mc)) 27) := by rw [← ewA]; exact heap_alloc_new _ _
 have xwA : Ext w wA := by rw [← ewA]; exact (ext_refl _).alloc (Nat.le_refl _) _
 have swA : wA.heap.size = w.heap.size + 1 := by rw [← ewA]; simp
 obtain ⟨wB, ewB⟩ : ∃ W, wA.alloc (.cells zeroV 27) = W := ⟨_, rfl⟩
 have nwB : wB.heap[wA.heap.size]? = some (.cells zeroV 27) := by rw [← ewB]; exact heap_alloc_new _ _
 have xwB : Ext wA wB := by rw [← ewB]; exact (ext_refl _).alloc (Nat.le_refl _) _
 have swB : wB.heap.size = wA.heap.size + 1 := by rw [← ewB]; simp
 have hE := ext_trans xwA xwB; rw [swA] at nwB; have HC : Hid (VAt wB w.heap.size (cellsV kk bb ⟨d1, d2, d3⟩ ss (.slice la tl.length lc) (.slice ma tm.length mc))) := Hd (VAt.ext nwA xwB); have HV : Hid (VAt wB (w.heap.size + 1) zeroV) := Hd nwB; have HTL := Hd (htl.keep (w' := wB) (A' := fun g => g < w.heap.size) hE.size (fun g hg hlt => ⟨hlt, hE.block g hlt⟩))
 have HRL := Hd (hrl.keep (w' := wB) (A' := fun g => g < w.heap.size) hE.size (fun g hg hlt => ⟨hlt, hE.block g hlt⟩)); have HTM := Hd (htm.keep (w' := wB) (A' := fun g => g < w.heap.size) hE.size (fun g hg hlt => ⟨hlt, hE.block g hlt⟩)); have HRM := Hd (hrm.keep (w' := wB) (A' := fun g => g < w.heap.size) hE.size (fun g hg hlt => ⟨hlt, hE.block g hlt⟩)); have EA := Hd ewA; have EB := Hd ewB
 have HE := Hd hE; have hBsz : wB.heap.size = w.heap.size + 2 := by rw [swB, swA]
 clear htl hrl htm hrm h hE nwA nwB xwA xwB ewA ewB swA swB; simp only [cellsV, zeroV, noL, Num.zero] at HC HV EA EB ⊢; go_enter Tryz.func79, Tryz.ntmps79
 go_upto_region 1 with fail; rw [EA.out, EB.out]; obtain ⟨S, hS⟩ := Ex w.heap.size; rw [hS] at HC HV HTL HRL HTM HRM hBsz ⊢; have HS := Hd hS; clear hS EA EB; obtain ⟨c0, c1, c2, c3, c4, c5, c6, c7⟩ := HC.out.c8; go_upto_region 4 with fail; clear c0 c1 c2 c3 c4 c5 c6 c7
 have hx1 : Ext wB (wB.alloc (.cells (cellsV kk bb ⟨d1, d2, d3⟩ ss (.slice none 0 0) noL) 27)) := (ext_refl _).alloc (Nat.le_refl _) _; have hq1 := VAt.new wB (cellsV kk bb ⟨d1, d2, d3⟩ ss (.slice none 0 0) noL); have hsz1 : (wB.alloc (.cells (cellsV kk bb ⟨d1, d2, d3⟩ ss (.slice none 0 0) noL) 27)).heap.size = S + 3 := by simp [hBsz]
 rw [hBsz] at hq1; simp only [cellsV, noL] at hx1 hq1 hsz1; generalize wB.alloc (.cells #[.int .i64 kk, .bool bb, .bool d1, .string ⟨d2.toArray⟩, .int .i64 d3, .string ⟨ss.toArray⟩, .slice none 0 0, .slice none 0 0] 27) = w1 at *; have HX1 := Hd hx1; have HQ1 := Hd hq1; have HC1 := Hd (HC.out.ext hx1); have HBS := Hd hBsz; clear hx1 hq1 hBsz; have c6 := HC1.out.cell 6; simp at c6; go_wp2_with fail
 clear c6; go_loopw [4] (fun iv wr => ∃ (i : Nat) (vL : Value), iv = .int .i64 i ∧ i ≤ tl.length ∧ VAt wr (S + 2) #[.int .i64 kk, .bool bb, .bool d1, .string ⟨d2.toArray⟩, .int .i64 d3, .string ⟨ss.toArray⟩, vL, .slice none 0 0] ∧ OwL (S + 3) vL (sortedL (tl.take i)) wr ∧ Kept (S + 3) (S + 2) w1 wr) (fun iv _ => 2000000 - (intOf iv).toNat)
 case atStart => exact ⟨0, .slice none 0 0, rfl, by omega, HQ1.out, by rw [List.take_zero, sortedL]; exact OwL.nil _ _, Kept.refl _ _ _⟩
 case round =>
  obtain ⟨i, vL, rfl, hi, hv, how, hkp⟩ := hrel; have HV1 := Hd hv; have HOW := Hd how; have HKP := Hd hkp; clear hv how hkp; have c6 : wr.cell? ⟨S, 6, none⟩ = some (.slice la tl.length lc) := by
   have h : VAt wr S #[.int .i64 kk, .bool bb, .bool d1, .string ⟨d2.toArray⟩, .int .i64 d3, .string ⟨ss.toArray⟩, .slice la tl.length lc, .slice ma tm.length mc] := by unfold VAt; rw [HKP.out.block S (by omega) (by omega)]; exact HC1.out
   have := h.cell 6; simpa using this
  by_cases hlt : i < tl.length
  · have hlti : (i : Int) < tl.length := by omega
    have hi0 : (0 : Int) ≤ i := by omega
    obtain ⟨vA, vC, hvL⟩ := HOW.out.shape; rw [show (sortedL (tl.take i)).length = i by rw [sortedL_map, List.length_map, List.length_take]; omega] at hvL; subst hvL; have hblk : ∀ g, g < S → g < wB.heap.size → wr.heap[g]? = wB.heap[g]? := fun g hg hlt => (HKP.out.block g (by omega) (by omega)).trans (HX1.out.block g hlt)
    obtain ⟨g, o, xk, xb, xd, xs, xa1, xn1, xc1, xa2, xn2, xc2, rfl, htx, hcell⟩ := row_elem HRL.out HTL.out rfl i hlt; have htx2 := htx.keep (w' := wr) (A' := fun _ => True) (Nat.le_trans HX1.out.size HKP.out.size) (fun g hg hlt => ⟨trivial, hblk g hg hlt⟩); have HTX := Hd htx2; have HIH := Hd (IHL.out tl[i] (List.getElem_mem hlt))
    have HTK : Hid (sortedL (tl.take (i + 1)) = sortedL (tl.take i) ++ [sortedT tl[i]]) := Hd (by rw [sortedL_map, sortedL_map, List.take_succ_eq_append_getElem hlt, List.map_append]; rfl); generalize tl[i] = x at *
    have HC2 : Hid (VAt wr S #[.int .i64 kk, .bool bb, .bool d1, .string ⟨d2.toArray⟩, .int .i64 d3, .string ⟨ss.toArray⟩, .slice (some ⟨g, o, none⟩) tl.length lc, .slice ma tm.length mc]) := Hd (by unfold VAt; rw [HKP.out.block S (by omega) (by omega)]; exact HC1.out); have hrs : S + 3 ≤ wr.heap.size := Nat.le_trans (Nat.le_of_eq hsz1.symm) HKP.out.size
    have HX0 : Hid (∀ w', Ext wr w' → w'.cell? ⟨g, o + i * 8, none⟩ = some (.int .i64 xk) ∧ w'.cell? ⟨g, o + i * 8 + 1, none⟩ = some (.bool xb) ∧ w'.cell? ⟨g, o + i * 8 + 2, none⟩ = some (.bool xd.neg) ∧ w'.cell? ⟨g, o + i * 8 + 3, none⟩ = some (.string ⟨xd.digits.toArray⟩) ∧ w'.cell? ⟨g, o + i * 8 + 4, none⟩ = some (.int .i64 xd.exp) ∧ w'.cell? ⟨g, o + i * 8 + 5, none⟩ = some (.string ⟨xs.toArray⟩) ∧ w'.cell? ⟨g, o + i * 8 + 6, none⟩ = some (.slice xa1 xn1 xc1) ∧ w'.cell? ⟨g, o + i * 8 + 7, none⟩ = some (.slice xa2 xn2 xc2)) := Hd (fun w' hw => hcell w' (fun g hg hlt => (hw.block g (Nat.lt_of_lt_of_le hlt (Nat.le_trans HX1.out.size HKP.out.size))).trans (hblk g hg hlt)))
    clear hblk htx hcell htx2; go_upto_region 7 with fail; have HV5 := HV1; have HOW5 := HOW; have HK5 := HKP
    have HCALL : Hid (∀ w', Ext wr w' → Calls Tryz.prog 79 #[.agg #[.int .i64 xk, .bool xb, .bool xd.neg, .string ⟨xd.digits.toArray⟩, .int .i64 xd.exp, .string ⟨xs.toArray⟩, .slice xa1 xn1 xc1, .slice xa2 xn2 xc2]] w' (fun e w'' => ∃ c', e = .returned (.agg c') ∧ TV w'' (fun g => w'.heap.size ≤ g) (sortedT x) c' ∧ Ext w' w'')) := Hd (fun w' hw =>
     HIH.out.1 _ (fun _ => True) w' (HTX.out.keep hw.size (fun g _ hlt => ⟨trivial, hw.block g hlt⟩)) HIH.out.2)
    obtain ⟨T, hT⟩ := Ex (sortedT x); rw [hT] at HCALL HTK; have hq1 : S + 2 < wr.heap.size := by omega
    clear HTX HIH hT; replace HX0 := HX0; have h0 : ∀ w w', Ext w w' → KeptP (S + 2) w w' := fun _ _ => KeptP.ofExt; refine GrowS.wp_region_restT (G0 := Ext) (G1 := Ext) (B0 := fun w' => Ext wr w') (B1 := fun w' => Ext wr w') (E := fun _ _ => False) (anc := fun j => if j = 8 then [7] else if j = 99 then [7] else [])
     (I := fun j => if j = 7 then some (specTV h0 h0 hq1 T True) else if j = 8 then some (specNewL h0 h0 hq1 T) else none) 7 9 (fun j => ([[], [0], [], [2], [], [2, 3, 4], [2, 3, 4, 5], [2, 3, 4, 5, 6], [2, 3, 4, 5, 6, 7], [0, 1, 2, 3, 4, 5, 6, 7, 8], [0, 1, 2, 3, 4, 5, 6, 7, 8, 9], [0, 1, 2, 3, 4, 5, 6, 7, 8, 9, 10]] : List (List Nat)).getD j []) #[true, true, true, true, true, true, true, true, true, false, false, false]
     (by kernel_rfl) (by kernel_rfl) (by kernel_rfl) (by kernel_rfl) (by kernel_rfl) (by kernel_rfl) ?_ ?_ ?_ ?_ ?_ ?_
    · exact fun w w' h hg => ext_trans h hg
    · exact fun w w' h hg => ext_trans h hg
    · exact fun w w' h hg => ext_trans h hg
    · exact fun _ _ _ _ h => h.elim
    · exact (ext_refl _).drew
    have HBK : Hid (∀ {k : Nat} w', GrowS.atS 7 (fun w' => Ext wr w') (fun w' => Ext wr w') k w' → Ext wr w') := Hd (fun w' h => by
     unfold GrowS.atS at h; split at h
     · exact h
     · rcases h with h | h <;> exact h)
    simp only [List.take_succ_cons, List.take_zero, List.drop_succ_cons, List.drop_zero]; repeat
     (refine GrowS.Wk.step (fun K hK => ?_)
      first
      | (refine GrowS.step_read (by rfl) (by rfl) (fun w => ext_refl w) ?_
         apply Exists.intro; refine ⟨fun w hB hF => ?_, ?_⟩
         · replace hB := HBK.out w hB; have q6 := (HV5.out.ext hB).cell 6; have f6 := (HV5.out.ext hB).free 6; have n6 := (HC2.out.ext hB).cell 6; obtain ⟨x0, x1, x2, x3, x4, x5, x6, x7⟩ := HX0.out w hB; simp at q6 n6; go_simp; try exact rfl
         go_simp; refine hK _ _ ?_; clear hK K)
      | (refine GrowS.step_off (by rfl) ?_
         go_simp; refine hK _ _ ?_; clear hK K))
    refine GrowS.Wk.step (fun K hK => ?_); refine GrowS.step_rel (by rfl) (by rfl) (fun w' hB hF => ?_) (fun v hv => ?_)
    · replace hB := HBK.out w' hB; go_simp; refine GrowS.relUpon_enter ((HCALL.out w' hB).mono ?_); rintro e w'' ⟨c', rfl, htv, hx⟩; obtain ⟨rk, rb, rd, rs, ra1, rn1, rc1, ra2, rn2, rc2, rfl⟩ := htv.eight; exact .inl ⟨_, rfl, hx, ⟨_, _, _, _, _, _, _, _, _, _, rfl⟩, trivial, _, rfl, htv.keep (Nat.le_refl _) (fun g hg _ => ⟨Nat.le_trans hB.size hg, rfl⟩)⟩
    obtain ⟨rk, rb, rd, rs, ra1, rn1, rc1, ra2, rn2, rc2, rfl⟩ := hv; go_simp; refine hK _ _ ?_; clear hK K; refine GrowS.Wk.step (fun K hK => ?_); refine GrowS.step_rel (by rfl) (by rfl) (fun w' hB hF => ?_) (fun v hv => ?_)
    · replace hB := HBK.out w' hB; obtain ⟨_, c', ec, htv⟩ : True ∧ ∃ c', Value.agg (cellsV rk rb rd rs (.slice ra1 rn1 rc1) (.slice ra2 rn2 rc2)) = .agg c' ∧ TV w' (fun g => wr.heap.size ≤ g) T c' := hF 7 (by simp); simp only [Value.agg.injEq] at ec; subst ec
      have HTVN := Hd (htv.keep (w' := w'.alloc (.cells (cellsV rk rb rd rs (.slice ra1 rn1 rc1) (.slice ra2 rn2 rc2)) 27)) (A' := fun g => wr.heap.size ≤ g) (by simp) (fun g hg hlt => ⟨hg, ((ext_refl w').alloc (Nat.le_refl _) _).block g hlt⟩)); clear htv hF; simp only [cellsV] at HTVN ⊢; go_simp
      exact GrowS.relUpon_value ((ext_refl w').alloc (Nat.le_refl _) _) ⟨_, rfl⟩ ⟨_, _, rfl, hB.size, heap_alloc_new _ _, HTVN.out⟩
    obtain ⟨gn, rfl⟩ := hv; go_simp; refine hK _ _ ?_; clear hK K; refine GrowS.Wk.nil ?_; intro w3 hB hF; replace hB : Ext wr w3 := hB; obtain ⟨gn', cn, eg, hgn, hnew, htv⟩ := hF 8; simp only [Value.slice.injEq, Option.some.injEq, Addr.mk.injEq, and_true] at eg; subst eg; clear hF HBK h0; obtain ⟨cs, hown, htl⟩ := HOW5.out.ext hB
    rw [show (sortedL (tl.take i)).length = i by rw [sortedL_map, List.length_map, List.length_take]; omega] at hown; show wpAny _ _ _ _ (2 + 1) _ _ _; refine wpAny_one 9 (by kernel_rfl) ?_
    refine wpOp_append rfl (by rfl) _ _ _ _ rfl (S + 3) 27 _ _ 8 112 (by kernel_rfl) (by rfl) (by rfl) (by rfl) (by kernel_rfl) (by rfl) (by decide) _ i cs (by rfl) hown _ 1 cn.toList (by rfl) (src_one (e' := 27) (by kernel_rfl) hnew htv.size (TV.one htv)) (by simp only [maxLen]; omega) (by omega) (Nat.le_trans hrs hB.size) ?_; intro v' w4 hown4 hgr hor
    have hqo : some (S + 2) ≠ (Value.slice vA i vC).ownBlock := fun e => by have := (hown.lt _ e.symm).1; omega
    have hv3 := HV5.out.ext hB; have hv4 : VAt w4 (S + 2) #[.int .i64 kk, .bool bb, .bool d1, .string ⟨d2.toArray⟩, .int .i64 d3, .string ⟨ss.toArray⟩, .slice vA i vC, .slice none 0 0] := by
     unfold VAt; rw [hgr.block (S + 2) hv3.lt hqo]; exact hv3
    have hlt5 : ∀ k, (Value.slice vA i vC).ownBlock = some k → k < wr.heap.size := fun k e => by
     obtain ⟨cs', h1, _⟩ := HOW5.out; exact (h1.lt k e).2
    have how4 : OwL (S + 3) v' (sortedL (tl.take (i + 1))) w4 := by
     rw [HTK.out]; refine OwL.push hown htl (by rw [sortedL_map, List.length_map, List.length_take]; omega) (htv.keep (Nat.le_refl _) (fun g hg _ => ⟨⟨by omega, fun e => by have := hlt5 g e; omega⟩, rfl⟩)) hown4 hgr hor
    obtain ⟨v4A, v4C, ev4⟩ := how4.shape; rw [show (sortedL (tl.take (i + 1))).length = i + 1 by rw [sortedL_map, List.length_map, List.length_take]; omega] at ev4; subst ev4
    have hk4 : Kept (S + 3) (S + 2) w1 w4 := (HK5.out.trans (Kept.ofBelow (hB.mono (by omega)))).trans ⟨hgr.os, hgr.tape, hgr.output, hgr.size, fun k hk _ => hgr.block k (by have := hB.size; omega) (fun e => by have := (hown.lt k e.symm).1; omega)⟩; have HV4 := Hd (hv4.set1 6 (.slice v4A (i + 1) v4C)); have HOW4 := Hd (how4.setc (q := S + 2) (i := 6) (u := .slice v4A (i + 1) v4C) (by omega))
    have HK4 := Hd (hk4.trans (Kept.setCell (B := S + 3) (p := S + 2) (o := 6) (.slice v4A (i + 1) v4C))); have f6 := hv4.free 6; have q6 := hv4.cell 6; simp at q6; clear hv3 hv4 how4 hk4 hown4 hgr hor hqo hlt5 hown htl htv hnew hB; refine wpAny_one 10 (by kernel_rfl) ?_; refine wpOp_now rfl (by rfl) ?_; unfold Oper.wp; go_simp; refine wpAny_one 11 (by kernel_rfl) ?_; refine wpOp_now rfl (by rfl) ?_
    unfold Oper.wp; go_simp; show wpAny _ _ _ _ 0 _ _ _; refine ⟨by decide +kernel, ?_⟩; have w9 : IntKind.i64.wrap ((i : Int) + 1) = ((i + 1 : Nat) : Int) := by rw [IntWalk.i64_in _ (by omega)]; omega
    clear q6 f6; go_wp2_with fail; go_roundw
    case rel => exact ⟨i + 1, _, by go_num, by omega, by simpa using HV4.out, HOW4.out, HK4.out⟩
    case measure => simp [intOf]; omega
  · have hnlt : ¬ ((i : Int) < tl.length) := by omega
    obtain rfl : i = tl.length := by omega
    have how2 := HOW.out; rw [List.take_length] at how2; obtain ⟨vA, vC, hvL⟩ := how2.shape; rw [show (sortedL tl).length = tl.length by rw [sortedL_map, List.length_map]] at hvL; subst hvL; have HLF := Hd (LFix.ofOwn how2); clear how2 HOW; have HC2 : Hid (VAt wr S _) := Hd (by unfold VAt; rw [HKP.out.block S (by omega) (by omega)]; exact HC1.out); have c7 := HC2.out.cell 7; simp at c7
    go_wp2_with fail; obtain ⟨csl, htl2, hrl2⟩ := HLF.out; have HTL2 : Hid (TL wr (fun g => S + 3 ≤ g) (sortedL tl) csl) := Hd (htl2.keep (Nat.le_refl _) (fun g hg _ => ⟨hg.1, rfl⟩)); have HRL2 : Hid (RowAt wr (fun g => S + 3 ≤ g) 8 (.slice vA tl.length vC) (sortedL tl).length csl) := Hd (hrl2.keep (Nat.le_refl _) (fun g hg _ => ⟨hg.1, rfl⟩)); have HKP0 := HKP; clear htl2 hrl2 HLF c7
    go_loopw [5] (fun iv wx => ∃ (i : Nat) (mA : Option Addr) (mC : Nat) (ms : List (List Value)) (csl : List Value), iv = .int .i64 i ∧ i ≤ tm.length ∧ VAt wx (S + 2) #[.int .i64 kk, .bool bb, .bool d1, .string ⟨d2.toArray⟩, .int .i64 d3, .string ⟨ss.toArray⟩, .slice vA tl.length vC, .slice mA i mC] ∧ TMc wx (fun g => S + 3 ≤ g) (sortM (sortedM (tm.take i))) ms ∧ RowAt wx (fun g => S + 3 ≤ g) 9 (.slice mA i mC) i ms.flatten ∧ TL wx (fun g => S + 3 ≤ g) (sortedL tl) csl ∧ RowAt wx (fun g => S + 3 ≤ g) 8 (.slice vA tl.length vC) (sortedL tl).length csl ∧ Kept (S + 3) (S + 2) w1 wx) (fun iv _ => 2000000 - (intOf iv).toNat)
    case atStart => exact ⟨0, none, 0, [], csl, rfl, by omega, HV1.out, by rw [List.take_zero, sortedM]; exact ⟨rfl, fun i hi => absurd hi (by simp [sortM])⟩, RowAt.nil _ _ _ _ _ (by omega), HTL2.out, HRL2.out, HKP.out⟩
    case round =>
     clear HV1 HKP HTL2 HRL2 HC2 csl HKP0; obtain ⟨i, mA, mC, ms, csl, rfl, hi, hv, htm2, hrm2, htl2, hrl2, hkp⟩ := hrel; have HV1 := Hd hv; have HTM2 := Hd htm2; have HRM2 := Hd hrm2; have HTL2 := Hd htl2; have HRL2 := Hd hrl2; have HKP := Hd hkp
     have HC2 : Hid (VAt wr S #[.int .i64 kk, .bool bb, .bool d1, .string ⟨d2.toArray⟩, .int .i64 d3, .string ⟨ss.toArray⟩, .slice la tl.length lc, .slice ma tm.length mc]) := Hd (by unfold VAt; rw [hkp.block S (by omega) (by omega)]; exact HC1.out); clear hv htm2 hrm2 htl2 hrl2 hkp; have c7 := HC2.out.cell 7; simp at c7; by_cases hlt : i < tm.length
     · have hlti : (i : Int) < tm.length := by omega
       have hi0 : (0 : Int) ≤ i := by omega
       have hblk : ∀ w', Ext wr w' → ∀ g, g < S → g < wB.heap.size → w'.heap[g]? = wB.heap[g]? := fun w' hw g hg hlt => (hw.block g (Nat.lt_of_lt_of_le hlt (Nat.le_trans HX1.out.size HKP.out.size))).trans ((HKP.out.block g (by omega) (by omega)).trans (HX1.out.block g hlt)); obtain ⟨g, o, xk, xb, xd, xs, xa1, xn1, xc1, xa2, xn2, xc2, rfl, htx, hcell⟩ := mem_elem HRM.out HTM.out rfl i hlt
       have HXM := Hd (fun w' (hw : Ext wr w') => hcell w' (hblk w' hw)); have HTX := Hd (htx.keep (w' := wr) (A' := fun _ => True) (Nat.le_trans HX1.out.size HKP.out.size) (fun g hg hlt => ⟨trivial, hblk wr (ext_refl _) g hg hlt⟩)); have HIH := Hd (IHM.out tm[i] (List.getElem_mem hlt))
       have HTK : Hid (sortM (sortedM (tm.take (i + 1))) = insM (tm[i].1, sortedT tm[i].2) (sortM (sortedM (tm.take i)))) := Hd (by rw [← sortM_snoc]; congr 1; rw [sortedM_map, sortedM_map, List.take_succ_eq_append_getElem hlt, List.map_append]; rfl); clear hblk htx hcell; generalize tm[i].1 = key at *; generalize tm[i].2 = x at *; obtain ⟨P0, hP0⟩ := Ex wr.heap.size; have HP0 := Hd hP0
       have hS3 : S + 3 ≤ P0 := by rw [← hP0]; exact Nat.le_trans (Nat.le_of_eq hsz1.symm) HKP.out.size
       clear hP0; have HCALL : Hid (∀ w', Ext wr w' → Calls Tryz.prog 79 #[.agg (cellsV xk xb xd xs (.slice xa1 xn1 xc1) (.slice xa2 xn2 xc2))] w' (fun e w'' => ∃ c', e = .returned (.agg c') ∧ TV w'' (fun g => w'.heap.size ≤ g) (sortedT x) c' ∧ Ext w' w'')) := Hd (fun w' hw =>
        HIH.out.1 _ (fun _ => True) w' (HTX.out.keep hw.size (fun g _ hlt => ⟨trivial, hw.block g hlt⟩)) HIH.out.2.1)
       obtain ⟨T, hT⟩ := Ex (sortedT x); rw [hT] at HCALL HTK; have HKB := Hd HIH.out.2.2; clear HTX HIH hT; go_upto_region 11 with fail; clear c7; go_cut [6] (fun s6 wx => ∃ (p : Nat) (cT : Array Value), s6 = .pointer (some ⟨p, 0, none⟩) ∧ Ext wr wx ∧ P0 ≤ p ∧ cT.size = 8 ∧ MAt wx p (.string ⟨key.toArray⟩ :: cT.toList).toArray ∧ TV wx (fun g => P0 ≤ g ∧ g ≠ p) T cT)
       case first =>
        refine GrowS.wp_region_two 12 14 (by decide) (by decide) (by decide) (by kernel_rfl) ?_ ?_
        · simp only [GrowS.moreL, List.modify_succ_cons, List.modify_zero_cons, List.push_toArray, List.cons_append, List.nil_append]; show wpAny _ _ _ _ 16 (Array.replicate 16 false) _ _
          have hk : ∀ i w w', GrowS.g3 14 15 (fun i => i == 12) (fun w w' => Ext w w' ∧ w'.heap.size = w.heap.size) (fun w w' => Ext w w' ∧ MAt w' w.heap.size zM9) Ext (fun w w' => KeptP P0 w w' ∧ ∃ cx : Array Value, cx.size = 8 ∧ MAt w' P0 (.string ⟨key.toArray⟩ :: cx.toList).toArray ∧ TV w' (fun g => P0 + 1 ≤ g) T cx) i w w' → KeptP P0 w w' := fun i w w' h => by
           unfold GrowS.g3 at h; split at h
           · exact KeptP.ofExt h.1
           · split at h
             · exact h.1
             · split at h
               · exact KeptP.ofExt h
               · exact KeptP.ofExt h.1
          refine GrowS.any_ord (G := GrowS.g3 14 15 (fun i => i == 12) (fun w w' => Ext w w' ∧ w'.heap.size = w.heap.size) (fun w w' => Ext w w' ∧ MAt w' w.heap.size zM9) Ext (fun w w' => KeptP P0 w w' ∧ ∃ cx : Array Value, cx.size = 8 ∧ MAt w' P0 (.string ⟨key.toArray⟩ :: cx.toList).toArray ∧ TV w' (fun g => P0 + 1 ≤ g) T cx))
           (B := GrowS.at3 14 15 (fun i => i == 12) (fun w' => Ext wr w' ∧ w'.heap.size = P0) (fun w' => Ext wr w' ∧ MAt w' P0 zM9) (fun w' => Ext wr w' ∧ ∃ cx : Array Value, cx.size = 8 ∧ MAt w' P0 (.string ⟨key.toArray⟩ :: cx.toList).toArray ∧ TV w' (fun g => P0 + 1 ≤ g) T cx)) (E := fun _ _ => False) (anc := fun j => if j = 15 then [12] else [])
           (I := fun j _ => if j = 12 then some (specTA hk (fun g => P0 + 1 ≤ g) (by intro g hg; omega) T) else if j = 14 then some (GrowS.Spec.val _ (.pointer (some ⟨P0, 0, none⟩))) else if j = 15 then some (GrowS.Spec.val _ undef) else none)
           [0, 1, 2, 3, 4, 5, 6, 7, 8, 9, 10, 11, 14, 12, 13, 15] (Array.replicate 16 false) (Array.replicate 16 true) (fun _ _ _ _ _ _ _ _ _ _ => rfl) (by kernel_rfl) (by kernel_rfl) GrowS.closed_none
           (GrowS.inv3_ok (al := 14) (st := 15) (by decide) (by kernel_rfl) (by kernel_rfl) (by kernel_rfl) (by kernel_rfl) ?_ ?_ ?_ ?_ ?_ ?_ ?_) ?_ ?_ ?_
          · exact fun w w' h hg => ⟨ext_trans h.1 hg.1, hg.2.trans h.2⟩
          · exact fun w w' h hg => ⟨ext_trans h.1 hg.1, h.2.ext hg.1⟩
          · exact fun w w' h hg => ⟨ext_trans h.1 hg.1, by obtain ⟨cx, h1, h2, h3⟩ := h.2; exact ⟨cx, h1, h2.ext hg.1, h3.keep hg.1.size (fun g hgA hlt => ⟨hgA, hg.1.block g hlt⟩)⟩⟩
          · exact fun w w' h hg => ⟨ext_trans h.1 hg.1, by rw [← h.2]; exact hg.2⟩
          · exact fun w w' h hg => ⟨ext_trans h.1 hg, h.2.ext hg⟩
          · exact fun w w' h hg => ⟨ext_trans h.1 hg, by obtain ⟨cx, h1, h2, h3⟩ := h.2; exact ⟨cx, h1, h2.ext hg, h3.keep hg.size (fun g hgA hlt => ⟨hgA, hg.block g hlt⟩)⟩⟩
          · exact fun w w' h hg => ⟨ext_keptP h.1 hg.1 (by have := HP0.out; omega), hg.2⟩
          · exact fun _ _ _ _ h => h.elim
          · exact ⟨by unfold GrowS.inv3; simp; exact ⟨(ext_refl _).drew, HP0.out⟩, GrowS.closed_none, by kernel_rfl⟩
          · refine GrowS.WkO.out ?_; repeat
             (refine GrowS.WkO.step (by rfl) (fun K hK => ?_)
              first
              | (refine GrowS.step_read (by rfl) (by rfl) (fun w => ⟨ext_refl w, rfl⟩) ?_
                 apply Exists.intro; refine ⟨fun w hB hF => ?_, ?_⟩
                 · have hX : Ext wr w := (by have h3 : _ ∨ _ ∨ _ := hB; rcases h3 with h3 | h3 | h3 <;> exact h3.1); have c7 := (HC2.out.ext hX).cell 7; simp at c7; obtain ⟨x0, x1, x2, x3, x4, x5, x6, x7, x8⟩ := HXM.out w hX; go_simp; try exact rfl
                 go_simp; refine hK _ _ ?_; clear hK K)
              | (refine GrowS.step_off (by rfl) ?_
                 go_simp; refine hK _ _ ?_; clear hK K))
            refine GrowS.WkO.step (by rfl) (fun K hK => ?_); refine GrowS.step_rel (by rfl) (by rfl) (fun w' hB hF => ?_) (fun v hv => ?_)
            · replace hB : Ext wr w' ∧ w'.heap.size = P0 := hB; go_simp; exact GrowS.relUpon_value ⟨(ext_refl w').alloc (Nat.le_refl _) _, heap_alloc_new _ _⟩ rfl trivial
            obtain rfl : v = .pointer (some ⟨P0, 0, none⟩) := hv; go_simp; refine hK _ _ ?_; clear hK K; refine GrowS.WkO.step (by rfl) (fun K hK => ?_); refine GrowS.step_rel (by rfl) (by rfl) (fun w' hB hF => ?_) (fun v hv => ?_)
            · have hX : Ext wr w' ∧ P0 < w'.heap.size := (by
               have h3 : (Ext wr w' ∧ MAt w' P0 zM9) ∨ (Ext wr w' ∧ ∃ cx : Array Value, cx.size = 8 ∧ MAt w' P0 (.string ⟨key.toArray⟩ :: cx.toList).toArray ∧ TV w' (fun g => P0 + 1 ≤ g) T cx) := hB; rcases h3 with h3 | ⟨h3, cx, _, h4, _⟩
               · exact ⟨h3.1, h3.2.lt⟩
               · exact ⟨h3, h4.lt⟩)
              go_simp; refine GrowS.relUpon_enter ((HCALL.out w' hX.1).mono ?_); rintro e w'' ⟨c', rfl, htv, hw''⟩; obtain ⟨yk, yb, yd, ys, ya1, yn1, yc1, ya2, yn2, yc2, rfl⟩ := htv.eight; exact .inl ⟨_, rfl, hw'', ⟨_, _, _, _, _, _, _, _, _, _, rfl⟩, _, rfl, htv.keep (Nat.le_refl _) (fun g hg _ => ⟨by omega, rfl⟩)⟩
            obtain ⟨yk, yb, yd, ys, ya1, yn1, yc1, ya2, yn2, yc2, rfl⟩ := hv; go_simp; refine hK _ _ ?_; clear hK K; repeat
             (refine GrowS.WkO.step (by rfl) (fun K hK => ?_)
              first
              | (refine GrowS.step_read (by rfl) (by rfl) (fun w => ⟨ext_refl w, rfl⟩) ?_
                 apply Exists.intro; refine ⟨fun w hB hF => ?_, ?_⟩
                 · skip
                   go_simp; try exact rfl
                 go_simp; refine hK _ _ ?_; clear hK K)
              | (refine GrowS.step_off (by rfl) ?_
                 go_simp; refine hK _ _ ?_; clear hK K))
            refine GrowS.WkO.step (by rfl) (fun K hK => ?_); refine GrowS.step_rel (by rfl) (by rfl) (fun w' hB hF => ?_) (fun v hv => ?_)
            · replace hB : Ext wr w' ∧ MAt w' P0 zM9 := hB; obtain ⟨c', ec, htv⟩ := hF 12 (by simp); simp only [Value.agg.injEq] at ec; subst ec; have HMW := Hd hB.2; have HST := Hd (MAt.store9 HMW.out (.string ⟨key.toArray⟩) (.int .i64 yk) (.bool yb) (.bool yd.neg) (.string ⟨yd.digits.toArray⟩) (.int .i64 yd.exp) (.string ⟨ys.toArray⟩) (.slice ya1 yn1 yc1) (.slice ya2 yn2 yc2)); have HTV := Hd htv
              clear htv hF hB; have q0 := HMW.out.cell 0; have q1 := HMW.out.cell 1; have q2 := HMW.out.cell 2; have q3 := HMW.out.cell 3; have q4 := HMW.out.cell 4; have q5 := HMW.out.cell 5; have q6 := HMW.out.cell 6; have q7 := HMW.out.cell 7; have q8 := HMW.out.cell 8; have f0 := HMW.out.free 0; have f1 := HMW.out.free 1; have f2 := HMW.out.free 2; have f3 := HMW.out.free 3; have f4 := HMW.out.free 4; have f5 := HMW.out.free 5; have f6 := HMW.out.free 6; have f7 := HMW.out.free 7; have f8 := HMW.out.free 8; simp at q0 q1 q2 q3 q4 q5 q6 q7 q8; go_simp
              exact ⟨⟨KeptP.store9 _ _ _ _ _ _ _ _ _, _, rfl, HST.out, HTV.out.keep (by simp [World.setCell]) (fun g hg hlt => ⟨hg, heap9 (by omega)⟩)⟩, rfl, trivial⟩
            obtain rfl : v = undef := hv; go_simp; refine hK _ _ ?_; clear hK K; refine GrowS.WkO.nil ?_; intro w4 hI4 hF; have h4 := hI4.1; clear hF hI4; unfold GrowS.inv3 at h4; rw [if_pos (by decide)] at h4; obtain ⟨hE4, cx, hz4, hv4, ht4⟩ := h4; go_wp2_with fail; go_meet; exact ⟨P0, cx, rfl, hE4, Nat.le_refl _, hz4, hv4, ht4.keep (Nat.le_refl _) (fun g hg _ => ⟨by omega, rfl⟩)⟩
        · simp only [GrowS.moreL, List.modify_succ_cons, List.modify_zero_cons, List.push_toArray, List.cons_append, List.nil_append]; have hk0 : ∀ (i : Nat) (w w' : World), Ext w w' → KeptP S w w' := fun _ _ _ h => KeptP.ofExt h; refine GrowS.any_restTA (G := fun _ => Ext) (B := fun _ w' => Ext wr w') (E := fun _ _ => False) (anc := fun j => if j = 14 then [12] else []) (Inv := fun _ w' => Ext wr w')
           (I := GrowS.withSlots (fun j => if j = 12 then some (specTA hk0 (fun g => P0 ≤ g) (by intro g hg; omega) T) else none) (fun j => if j = 14 then some 49 else none) (fun _ v => specBox P0 T v))
           15 (fun j => if j = 15 then [0, 1, 2, 3, 4, 5, 6, 7, 8, 9, 10, 11, 12, 13, 14] else []) #[true, true, true, true, true, true, true, true, true, true, true, true, true, true, true, false] (GrowS.withSlots_keepsA (by kernel_rfl)) (by kernel_rfl) (by kernel_rfl) (GrowS.inv_const fun _ _ h hg => ext_trans h hg) ?_ ?_ ?_
          · exact fun _ _ _ _ h => h.elim
          · exact (ext_refl _).drew
          · refine GrowS.Wk.out ?_; simp only [List.take_succ_cons, List.take_zero, List.drop_succ_cons, List.drop_zero]; repeat
             (refine GrowS.Wk.step (fun K hK => ?_)
              first
              | (refine GrowS.step_read (by rfl) (by rfl) (fun w => ext_refl w) ?_
                 apply Exists.intro; refine ⟨fun w hB hF => ?_, ?_⟩
                 · replace hB : Ext wr w := hB; have c7 := (HC2.out.ext hB).cell 7; simp at c7; obtain ⟨x0, x1, x2, x3, x4, x5, x6, x7, x8⟩ := HXM.out w hB; go_simp; try exact rfl
                 go_simp; refine hK _ _ ?_; clear hK K)
              | (refine GrowS.step_off (by rfl) ?_
                 go_simp; refine hK _ _ ?_; clear hK K))
            refine GrowS.Wk.step (fun K hK => ?_); refine GrowS.step_rel (by rfl) (by rfl) (fun w' hB hF => ?_) (fun v hv => ?_)
            · replace hB : Ext wr w' := hB; go_simp; refine GrowS.relUpon_enter ((HCALL.out w' hB).mono ?_); rintro e w'' ⟨c', rfl, htv, hw''⟩; obtain ⟨yk, yb, yd, ys, ya1, yn1, yc1, ya2, yn2, yc2, rfl⟩ := htv.eight; exact .inl ⟨_, rfl, hw'', ⟨_, _, _, _, _, _, _, _, _, _, rfl⟩, _, rfl, htv.keep (Nat.le_refl _) (fun g hg _ => ⟨by have := hB.size; have := HP0.out; omega, rfl⟩)⟩
            obtain ⟨yk, yb, yd, ys, ya1, yn1, yc1, ya2, yn2, yc2, rfl⟩ := hv; go_simp; refine hK _ _ ?_; clear hK K; repeat
             (refine GrowS.Wk.step (fun K hK => ?_)
              first
              | (refine GrowS.step_read (by rfl) (by rfl) (fun w => ext_refl w) ?_
                 apply Exists.intro; refine ⟨fun w hB hF => ?_, ?_⟩
                 · skip
                   go_simp; try exact rfl
                 go_simp; refine hK _ _ ?_; clear hK K)
              | (refine GrowS.step_off (by rfl) ?_
                 go_simp; refine hK _ _ ?_; clear hK K))
            refine GrowS.Wk.step (fun K hK => ?_); refine GrowS.step_rel (by rfl) (by rfl) (fun w' hB hF => ?_) (fun v hv => ?_)
            · replace hB : Ext wr w' := hB; obtain ⟨c', ec, htv⟩ := hF 12 (by simp); simp only [Value.agg.injEq] at ec; subst ec; have HTV := Hd htv; clear htv hF; go_simp
              exact GrowS.relUpon_value ((ext_refl w').alloc (Nat.le_refl _) _) ⟨_, rfl⟩ ⟨_, rfl, by have := hB.size; have := HP0.out; omega, heap_alloc_new _ _, _, rfl, HTV.out.keep (by simp) (fun g hg hlt => ⟨⟨hg, by omega⟩, ((ext_refl w').alloc (Nat.le_refl _) _).block g hlt⟩)⟩
            obtain ⟨p, rfl⟩ := hv; go_simp; refine hK _ _ ?_; clear hK K; refine GrowS.Wk.nil ?_; intro w3 hE3 hF3; obtain ⟨p', ep, hp0, hm3, c', ec, htv⟩ := hF3 14; obtain rfl : p' = p := by simp only [Value.pointer.injEq, Option.some.injEq, Addr.mk.injEq, and_true] at ep; exact ep.symm
            have ec2 : Value.agg (cellsV yk yb yd ys (.slice ya1 yn1 yc1) (.slice ya2 yn2 yc2)) = .agg c' := ec; simp only [Value.agg.injEq] at ec2; subst ec2; have HMW := Hd hm3; have HST := Hd (MAt.store9 HMW.out (.string ⟨key.toArray⟩) (.int .i64 yk) (.bool yb) (.bool yd.neg) (.string ⟨yd.digits.toArray⟩) (.int .i64 yd.exp) (.string ⟨ys.toArray⟩) (.slice ya1 yn1 yc1) (.slice ya2 yn2 yc2))
            have HTV := Hd htv; have HE3 := Hd hE3; clear htv hF3 ec ep hm3 hE3 hk0
            have q0 := HMW.out.cell 0; have q1 := HMW.out.cell 1; have q2 := HMW.out.cell 2; have q3 := HMW.out.cell 3; have q4 := HMW.out.cell 4; have q5 := HMW.out.cell 5; have q6 := HMW.out.cell 6; have q7 := HMW.out.cell 7; have q8 := HMW.out.cell 8; have f0 := HMW.out.free 0; have f1 := HMW.out.free 1; have f2 := HMW.out.free 2; have f3 := HMW.out.free 3; have f4 := HMW.out.free 4; have f5 := HMW.out.free 5; have f6 := HMW.out.free 6; have f7 := HMW.out.free 7; have f8 := HMW.out.free 8; simp at q0 q1 q2 q3 q4 q5 q6 q7 q8; show wpAny _ _ _ _ (0 + 1) _ _ _
            refine wpAny_one 15 (by kernel_rfl) ?_; refine wpOp_now rfl (by rfl) ?_; unfold Oper.wp; go_simp; show wpAny _ _ _ _ 0 _ _ _; refine ⟨by decide +kernel, ?_⟩; go_wp2_with fail; go_meet; exact ⟨p', _, rfl, ext_keptP HE3.out (KeptP.store9 _ _ _ _ _ _ _ _ _) (by have := HP0.out; omega), hp0, rfl, HST.out, HTV.out.keep (by simp [World.setCell]) (fun g hg hlt => ⟨hg, heap9 hg.2⟩)⟩
       case rest =>
        obtain ⟨p, cT, rfl, hE4, hp0, hz4, hm4, ht4⟩ := hcut; obtain ⟨w4, rfl⟩ : ∃ w4, w4 = wc := ⟨_, rfl⟩
        have hsz : S + 3 ≤ wr.heap.size := by rw [HP0.out]; exact hS3
        have HM4 := Hd hm4; have HT4 := Hd ht4; have HV4 := Hd (HV1.out.ext hE4); have HTM4 := Hd (HTM2.out.keep (w' := w4) (A' := fun g => S + 3 ≤ g) hE4.size (fun g hg hlt => ⟨hg, hE4.block g hlt⟩)); have HRM4 := Hd (HRM2.out.keep (w' := w4) (A' := fun g => S + 3 ≤ g) hE4.size (fun g hg hlt => ⟨hg, hE4.block g hlt⟩))
        have HTL4 := Hd (HTL2.out.keep (w' := w4) (A' := fun g => S + 3 ≤ g) hE4.size (fun g hg hlt => ⟨hg, hE4.block g hlt⟩)); have HRL4 := Hd (HRL2.out.keep (w' := w4) (A' := fun g => S + 3 ≤ g) hE4.size (fun g hg hlt => ⟨hg, hE4.block g hlt⟩)); have HKP4 := Hd (HKP.out.trans (Kept.ofBelow (hE4.mono hsz))); have HSZ4 : Hid (S + 3 ≤ w4.heap.size) := Hd (Nat.le_trans hsz hE4.size)
        obtain ⟨M, hM⟩ := Ex (sortM (sortedM (tm.take i))); rw [hM] at HTM4 HTK; have HWK : Hid (Weak M) := Hd (by rw [← hM]; exact sortM_weak _); have HML : Hid (M.length = i) := Hd (by rw [← hM, (sortM_perm _).length_eq, sortedM_map, List.length_map, List.length_take]; omega); have HKM : Hid (∀ j (h : j < M.length), M[j].1.length ≤ 1000000) := Hd (fun j h => by
         have h1 : M[j] ∈ sortM (sortedM (tm.take i)) := by rw [hM]; exact List.getElem_mem h
         have h2 := (sortM_perm _).mem_iff.1 h1; rw [sortedM_map] at h2; obtain ⟨q, hq, e⟩ := List.mem_map.1 h2; rw [← e]; exact (IHM.out q (List.mem_of_mem_take hq)).2.2)
        have hp3 : S + 3 ≤ p := by omega
        clear hM hE4 hm4 ht4 HV1 HTM2 HRM2 HTL2 HRL2 HKP HC2 HXM HCALL hp0 hz4 hsz; have c7 := HV4.out.cell 7; simp at c7; go_upto_block 4 with fail
        go_cut [7] (fun kv wx => ∃ k : Nat, kv = .int .i64 k ∧ k ≤ i ∧ Ext w4 wx ∧ (∀ j (h : j < M.length), k ≤ j → keyLess key M[j].1 = true) ∧ (∀ (h : 0 < k) (h' : k - 1 < M.length), keyLess key (M[k - 1]).1 = false))
        case first =>
         clear c7; go_wp2_with fail; go_loopw [7] (fun kv wx => ∃ k : Nat, kv = .int .i64 k ∧ k ≤ i ∧ Ext w4 wx ∧ ∀ j (h : j < M.length), k ≤ j → keyLess key M[j].1 = true) (fun kv _ => (intOf kv).toNat)
         case atStart => exact ⟨i, rfl, Nat.le_refl _, ext_refl _, fun j h hj => by have := HML.out; omega⟩
         case round =>
          obtain ⟨k, rfl, hk, hEx, hall⟩ := hrel; have HEX := Hd hEx; have HALL := Hd hall; clear hEx hall; by_cases hk0 : 0 < k
          · have hki : (0 : Int) < k := by omega
            have hkm : k - 1 < M.length := by have := HML.out; omega
            have esub : IntKind.i64.wrap ((k : Int) - 1) = ((k - 1 : Nat) : Int) := by rw [IntWalk.i64_in _ (by omega)]; omega
            obtain ⟨g', o', yk, yb, yd, ys, ya1, yn1, yc1, ya2, yn2, yc2, ea, -, hcm⟩ := mem_elem HRM4.out (TMc.tm HTM4.out) (HML.out.symm) (k - 1) hkm; subst ea; have HY0 := Hd (fun w' (hw : Ext w4 w') => (hcm w' (fun g _ hg => hw.block g hg)).1); have HKY := Hd (HKM.out (k - 1) hkm); obtain ⟨ky, hky⟩ := Ex ((M[k - 1]).1); have hy := HY0.out; have hkl := HKY.out; rw [hky] at hy hkl; replace HY0 := Hd hy
            obtain ⟨bq, hbq⟩ := Ex (keyLess key ky); have HLS : Hid (∀ w' : World, Calls Tryz.prog 99 #[.string ⟨key.toArray⟩, .string ⟨ky.toArray⟩] w' (fun e w'' => e = .returned (.bool bq) ∧ Ext w' w'')) := Hd (fun w' => by
             have h1 := refless_any ⟨key.toArray⟩ ⟨ky.toArray⟩ w' (by rw [sx_size]; have := HKB.out; omega) (by rw [sx_size]; omega); rw [← hbq]; exact h1)
            have HBQ : Hid (keyLess key (M[k - 1]).1 = bq) := Hd (by rw [hky]; exact hbq); have hj0 : (0 : Int) ≤ ((k - 1 : Nat) : Int) := by omega
            have hji : ((k - 1 : Nat) : Int) < i := by omega
            clear hcm hky hbq hy hkl HKY; obtain ⟨k1, hk1⟩ := Ex (k - 1); have HK1 := Hd hk1; rw [hk1] at esub hj0 hji HY0; clear hk1; go_upto_region 13 with fail; refine Grow.wp_region_litW (G := Ext) (B := fun w' => Ext wr w') (anc := fun _ => []) (I := fun j => if j = 12 then some (Grow.Spec.val Ext (.bool bq)) else none) (by kernel_rfl) (by kernel_rfl) (by kernel_rfl) ?_ ?_ ?_
            · exact fun w w' h hg => ext_trans h hg
            · exact (ext_refl _).drew
            repeat
             (refine Grow.Wk.step (fun K hK => ?_)
              first
              | (refine Grow.step_read (by rfl) (by rfl) (fun w => ext_refl w) ?_
                 apply Exists.intro; refine ⟨fun w hB hF => ?_, ?_⟩
                 · first | (replace hB : Ext _ w := hB; have c7 := (HV4.out.ext (ext_trans HEX.out hB)).cell 7; simp at c7; have m0 := (HM4.out.ext (ext_trans HEX.out hB)).cell 0; simp at m0; have y0 := HY0.out w (ext_trans HEX.out hB)) | skip
                   go_simp; try exact rfl
                 go_simp; refine hK _ _ ?_; clear hK K)
              | (refine Grow.step_off (by rfl) ?_
                 go_simp; refine hK _ _ ?_; clear hK K))
            refine Grow.Wk.step (fun K hK => ?_); refine Grow.step_rel (by rfl) (by rfl) (fun w' hB hF => ?_) (fun v hv => ?_)
            · go_simp; refine Grow.relUpon_enter ((HLS.out w').mono ?_); rintro e w'' ⟨rfl, hw''⟩; exact ⟨_, rfl, hw'', rfl, trivial⟩
            obtain rfl : v = _ := hv; go_simp; refine hK _ _ ?_; clear hK K; repeat
             (refine Grow.Wk.step (fun K hK => ?_)
              first
              | (refine Grow.step_read (by rfl) (by rfl) (fun w => ext_refl w) ?_
                 apply Exists.intro; refine ⟨fun w hB hF => ?_, ?_⟩
                 · skip
                   go_simp; try exact rfl
                 go_simp; refine hK _ _ ?_; clear hK K)
              | (refine Grow.step_off (by rfl) ?_
                 go_simp; refine hK _ _ ?_; clear hK K))
            refine Grow.Wk.nil ?_; intro wv hB hF; have HBX := Hd (ext_trans HEX.out hB); clear hF hB; cases bq with
            | true =>
              go_wp2_with fail; go_roundw
              case rel => exact ⟨k1, by go_num, by have := HK1.out; omega, HBX.out, fun j h hj => by
               by_cases e : j = k - 1
               · subst e; exact HBQ.out
               · exact HALL.out j h (by have := HK1.out; omega)⟩
              case measure => have := HK1.out; simp [intOf]; omega
            | false =>
              go_wp2_with fail; go_meet; exact ⟨k, rfl, hk, HBX.out, HALL.out, fun _ _ => HBQ.out⟩
          · obtain rfl : k = 0 := by omega
            go_upto_region 13 with fail; refine Grow.wp_region_litW (G := Ext) (B := fun w' => Ext wr w') (anc := fun _ => []) (I := fun j => none) (by kernel_rfl) (by kernel_rfl) (by kernel_rfl) ?_ ?_ ?_
            · exact fun w w' h hg => ext_trans h hg
            · exact (ext_refl _).drew
            repeat
             (refine Grow.Wk.step (fun K hK => ?_)
              first
              | (refine Grow.step_read (by rfl) (by rfl) (fun w => ext_refl w) ?_
                 apply Exists.intro; refine ⟨fun w hB hF => ?_, ?_⟩
                 · skip
                   go_simp; try exact rfl
                 go_simp; refine hK _ _ ?_; clear hK K)
              | (refine Grow.step_off (by rfl) ?_
                 go_simp; refine hK _ _ ?_; clear hK K))
            refine Grow.Wk.nil ?_; intro wv hB hF; have HBX := Hd (ext_trans HEX.out hB); clear hF hB; go_wp2_with fail; go_meet; exact ⟨0, rfl, hk, HBX.out, HALL.out, fun h => absurd h (by omega)⟩
        case rest =>
         obtain ⟨k, rfl, hk, hE5, h1, h2⟩ := hcut; have HINS : Hid (insM (key, T) M = M.take k ++ (key, T) :: M.drop k) := Hd (insM_at HWK.out (by rw [HML.out]; exact hk) h1 h2); obtain ⟨w5, rfl⟩ : ∃ w5, w5 = wc := ⟨_, rfl⟩
         have HE5 := Hd hE5; obtain ⟨tk, tb, td, ts, ta1, tn1, tc1, ta2, tn2, tc2, rfl⟩ := HT4.out.eight; have HM5 : Hid (MAt w5 p #[.string ⟨key.toArray⟩, .int .i64 tk, .bool tb, .bool td.neg, .string ⟨td.digits.toArray⟩, .int .i64 td.exp, .string ⟨ts.toArray⟩, .slice ta1 tn1 tc1, .slice ta2 tn2 tc2]) := Hd (HM4.out.ext hE5)
         have HT5 := Hd (HT4.out.keep (w' := w5) (A' := fun g => S + 3 ≤ g) hE5.size (fun g hg hlt => ⟨by omega, hE5.block g hlt⟩)); have HV5 := Hd (HV4.out.ext hE5); have HTM5 := Hd (HTM4.out.keep (w' := w5) (A' := fun g => S + 3 ≤ g) hE5.size (fun g hg hlt => ⟨hg, hE5.block g hlt⟩)); have HRM5 := Hd (HRM4.out.keep (w' := w5) (A' := fun g => S + 3 ≤ g) hE5.size (fun g hg hlt => ⟨hg, hE5.block g hlt⟩))
         have HTL5 := Hd (HTL4.out.keep (w' := w5) (A' := fun g => S + 3 ≤ g) hE5.size (fun g hg hlt => ⟨hg, hE5.block g hlt⟩)); have HRL5 := Hd (HRL4.out.keep (w' := w5) (A' := fun g => S + 3 ≤ g) hE5.size (fun g hg hlt => ⟨hg, hE5.block g hlt⟩)); have HKP5 := Hd (HKP4.out.trans (Kept.ofBelow (hE5.mono HSZ4.out))); have HSZ5 : Hid (S + 3 ≤ w5.heap.size) := Hd (Nat.le_trans HSZ4.out hE5.size)
         have hcap : i ≤ mC := by
          obtain ⟨_, a', c', e, h1, _⟩ := HRM5.out; simp only [Value.slice.injEq] at e; obtain ⟨rfl, -, rfl⟩ := e; exact h1
         clear hE5 h1 h2 HM4 HT4 HV4 HTM4 HRM4 HTL4 HRL4 HKP4 HSZ4 c7; obtain ⟨Bz, hBz⟩ := Ex w5.heap.size; have HBZ := Hd hBz; have HON : Hid (∀ u ∈ ms.flatten, u.oneCell' = true) := Hd (TM.one (TMc.tm HTM5.out)); have HNI := Hd (TMc.nine HTM5.out); have HMS : Hid (ms.length = i) := Hd (by rw [← HTM5.out.1]; exact HML.out); have hown0 : w5.ownsRow Bz 43 9 (.slice none 0 0) 0 [] := World.ownsRow_nil _ _ _ _
         have HO0 := Hd hown0; have HS1 := Hd ((HRM5.out.take hk).src (P := Tryz.prog) (tx := 25) (e' := 43) (by kernel_rfl) (by decide) (fun u hu => HON.out u (List.mem_of_mem_take hu))); clear hBz hown0; have hki : (k : Int) ≤ i := by omega
         have hk0 : (0 : Int) ≤ k := by omega
         have hkc : (k : Int) ≤ mC := by omega
         have hic : (i : Int) ≤ mC := by omega
         have c7 := HV5.out.cell 7; simp at c7; go_upto_region 17 with (first
          | (at_builtin; refine wpList_append_src _ rfl _ _ 25 25 rfl Bz 43 _ _ 9 128 (by kernel_rfl) (by rfl) (by rfl) (by rfl) (by kernel_rfl) (by rfl) (by decide) _ 0 [] rfl HO0.out _ k _ rfl HS1.out (by simp only [maxLen]; omega) (by omega) (Nat.le_of_eq HBZ.out.symm) ?_; intro v1 w6 ho1 hg1)
          | fail)
         have hB6 : Below Bz w5 w6 := Below.ofGrown hg1 HO0.out (Nat.le_of_eq HBZ.out.symm); obtain ⟨v1a, v1c, rfl⟩ := ownsRow_shape ho1; have hpB : p < Bz := by rw [← HBZ.out]; exact HM5.out.lt
         have hSB : S + 3 ≤ Bz := by rw [← HBZ.out]; exact HSZ5.out
         have hs6 : Bz ≤ w6.heap.size := Nat.le_trans (Nat.le_of_eq HBZ.out.symm) hB6.size; have HM6 : Hid (MAt w6 p #[.string ⟨key.toArray⟩, .int .i64 tk, .bool tb, .bool td.neg, .string ⟨td.digits.toArray⟩, .int .i64 td.exp, .string ⟨ts.toArray⟩, .slice ta1 tn1 tc1, .slice ta2 tn2 tc2]) := Hd (by unfold MAt; rw [hB6.block p hpB]; exact HM5.out)
         have hx7 : Ext w6 (w6.alloc (.cells #[.string ⟨key.toArray⟩, .int .i64 tk, .bool tb, .bool td.neg, .string ⟨td.digits.toArray⟩, .int .i64 td.exp, .string ⟨ts.toArray⟩, .slice ta1 tn1 tc1, .slice ta2 tn2 tc2] 43)) := (ext_refl _).alloc (Nat.le_refl _) _; have HO7 := Hd (ownsRow_ext ho1 hx7)
         have HS7 : Hid (Src Tryz.prog 9 25 (.slice (some ⟨w6.heap.size, 0, none⟩) 1 1) 1 [.string ⟨key.toArray⟩, .int .i64 tk, .bool tb, .bool td.neg, .string ⟨td.digits.toArray⟩, .int .i64 td.exp, .string ⟨ts.toArray⟩, .slice ta1 tn1 tc1, .slice ta2 tn2 tc2] (w6.alloc (.cells #[.string ⟨key.toArray⟩, .int .i64 tk, .bool tb, .bool td.neg, .string ⟨td.digits.toArray⟩, .int .i64 td.exp, .string ⟨ts.toArray⟩, .slice ta1 tn1 tc1, .slice ta2 tn2 tc2] 43))) := Hd (src_one (e' := 43) (by kernel_rfl) (heap_alloc_new _ _) rfl (by intro u hu; simp at hu; rcases hu with rfl | rfl | rfl | rfl | rfl | rfl | rfl | rfl | rfl <;> rfl))
         have HB6 := Hd hB6; have HS6 := Hd (Nat.le_trans hs6 hx7.size); clear hB6 hg1 ho1 hx7 c7; have q0 := HM6.out.cell 0; have q1 := HM6.out.cell 1; have q2 := HM6.out.cell 2; have q3 := HM6.out.cell 3; have q4 := HM6.out.cell 4; have q5 := HM6.out.cell 5; have q6 := HM6.out.cell 6; have q7 := HM6.out.cell 7; have q8 := HM6.out.cell 8; simp at q0 q1 q2 q3 q4 q5 q6 q7 q8; go_upto_region 18 with (first
          | (at_builtin; refine wpList_append_src _ rfl _ _ 25 25 rfl Bz 43 _ _ 9 128 (by kernel_rfl) (by rfl) (by rfl) (by rfl) (by kernel_rfl) (by rfl) (by decide) _ (0 + k) _ rfl HO7.out _ 1 _ rfl HS7.out (by simp only [maxLen]; omega) (by omega) HS6.out ?_; intro v2 w8 ho2 hg2)
          | fail)
         clear q0 q1 q2 q3 q4 q5 q6 q7 q8; have hB8 : Below Bz w5 w8 := (HB6.out.alloc hs6 _).trans (Below.ofGrown hg2 HO7.out HS6.out); obtain ⟨v2a, v2c, rfl⟩ := ownsRow_shape ho2; have HB8 := Hd hB8; have HO8 := Hd ho2; have HV8 : Hid (VAt w8 (S + 2) _) := Hd (by unfold VAt; rw [hB8.block (S + 2) (by omega)]; exact HV5.out)
         have HRM8 := Hd (HRM5.out.keep (w' := w8) (A' := fun g => S + 3 ≤ g) hB8.size (fun g hg hlt => ⟨hg, hB8.block g (by rw [← HBZ.out]; exact hlt)⟩)); have hs8 : Bz ≤ w8.heap.size := Nat.le_trans (Nat.le_of_eq HBZ.out.symm) hB8.size; clear hB8 ho2 hg2 HM6 HO7 HS7 HB6 HS6 HS1; have c7 := HV8.out.cell 7; simp at c7
         have w9w : IntKind.i64.wrap ((i : Int) + 1) = ((i + 1 : Nat) : Int) := by rw [IntWalk.i64_in _ (by omega)]; omega
         by_cases hkn : k < i
         · obtain ⟨_, a', c', e, h1, h2, h3⟩ := id HRM8.out; simp only [Value.slice.injEq] at e; obtain ⟨rfl, -, rfl⟩ := e; obtain ⟨g', o', rfl, -, -, -⟩ := h3 (by omega); have hne : ¬ mC = k := by omega
           have HS8 := Hd ((HRM8.out.drop (a' := some ⟨g', o' + k * 9, none⟩) hk (fun g o e _ => by simp only [Option.some.injEq, Addr.mk.injEq, and_true] at e; obtain ⟨rfl, rfl⟩ := e; rfl)).src (P := Tryz.prog) (tx := 25) (e' := 43) (by kernel_rfl) (by decide) (fun u hu => HON.out u (List.mem_of_mem_drop hu))); clear h1 h2 h3; go_upto_region 19 with (first
            | (at_builtin; refine wpList_append_src _ rfl _ _ 25 25 rfl Bz 43 _ _ 9 128 (by kernel_rfl) (by rfl) (by rfl) (by rfl) (by kernel_rfl) (by rfl) (by decide) _ (0 + k + 1) _ rfl HO8.out _ (i - k) _ rfl HS8.out (by simp only [maxLen]; omega) (by omega) hs8 ?_; intro v3 w9 ho3 hg3)
            | fail)
           have hB9 : Below Bz w5 w9 := HB8.out.trans (Below.ofGrown hg3 HO8.out hs8); rw [show 0 + k + 1 + (i - k) = i + 1 by omega] at ho3; obtain ⟨v3a, v3c, rfl⟩ := ownsRow_shape ho3
           have hfl : [] ++ ms.flatten.take (k * 9) ++ [.string ⟨key.toArray⟩, .int .i64 tk, .bool tb, .bool td.neg, .string ⟨td.digits.toArray⟩, .int .i64 td.exp, .string ⟨ts.toArray⟩, .slice ta1 tn1 tc1, .slice ta2 tn2 tc2] ++ ms.flatten.drop (k * 9) = (ms.take k ++ (.string ⟨key.toArray⟩ :: (cellsV tk tb td ts (.slice ta1 tn1 tc1) (.slice ta2 tn2 tc2)).toList) :: ms.drop k).flatten := by
            obtain ⟨e1, e2⟩ := flat_cut (ms := ms) (z := 9) HNI.out (k := k) (by rw [HMS.out]; exact hk); rw [List.flatten_append, List.flatten_cons, e1, e2]; simp [cellsV]
           have hkB : ∀ g, S + 3 ≤ g → g < w5.heap.size → S + 3 ≤ g ∧ w9.heap[g]? = w5.heap[g]? := fun g hg hlt => ⟨hg, hB9.block g (by rw [← HBZ.out]; exact hlt)⟩; have HTM9 : Hid (TMc w9 (fun g => S + 3 ≤ g) (sortM (sortedM (tm.take (i + 1)))) (ms.take k ++ (.string ⟨key.toArray⟩ :: (cellsV tk tb td ts (.slice ta1 tn1 tc1) (.slice ta2 tn2 tc2)).toList) :: ms.drop k)) := Hd (by
            rw [HTK.out, HINS.out]; have hm := HTM5.out.keep (w' := w9) (A' := fun g => S + 3 ≤ g) hB9.size hkB; exact (hm.take k).app ((TMc.one (HT5.out.keep (w' := w9) (A' := fun g => S + 3 ≤ g) hB9.size hkB)).app (hm.drop k)))
           have HRM9 : Hid (RowAt w9 (fun g => S + 3 ≤ g) 9 (.slice v3a (i + 1) v3c) (i + 1) (ms.take k ++ (.string ⟨key.toArray⟩ :: (cellsV tk tb td ts (.slice ta1 tn1 tc1) (.slice ta2 tn2 tc2)).toList) :: ms.drop k).flatten) := Hd (by
            rw [← hfl]; exact RowAt.own ho3 (by decide) (fun g _ hg _ => by omega))
           have HTL9 := Hd (HTL5.out.keep (w' := w9) (A' := fun g => S + 3 ≤ g) hB9.size hkB); have HRL9 := Hd (HRL5.out.keep (w' := w9) (A' := fun g => S + 3 ≤ g) hB9.size hkB); have HKP9 := Hd (HKP5.out.trans (Kept.ofBelow (hB9.mono hSB)))
           have hv9 : VAt w9 (S + 2) #[.int .i64 kk, .bool bb, .bool d1, .string ⟨d2.toArray⟩, .int .i64 d3, .string ⟨ss.toArray⟩, .slice vA tl.length vC, .slice (some ⟨g', o', none⟩) i mC] := (hB9.block (S + 2) (by omega)).trans HV5.out; have HV9 := Hd (hv9.set1 7 (.slice v3a (i + 1) v3c)); have q7 := hv9.cell 7; have f7 := hv9.free 7; simp at q7; clear hB9 hfl hkB hv9 ho3 hg3 c7; go_wp2_with fail; go_roundw
           case rel =>
            refine ⟨i + 1, v3a, v3c, (ms.take k ++ (.string ⟨key.toArray⟩ :: (cellsV tk tb td ts (.slice ta1 tn1 tc1) (.slice ta2 tn2 tc2)).toList) :: ms.drop k), csl, by go_num, by omega, by simpa using HV9.out, ?_, ?_, ?_, ?_, HKP9.out.trans (Kept.setCell (B := S + 3) (p := S + 2) (o := 7) (.slice v3a (i + 1) v3c))⟩
            · exact HTM9.out.keep (Nat.le_of_eq setc_size.symm) (fun g hg _ => ⟨hg, setc_block (by omega)⟩)
            · exact HRM9.out.keep (Nat.le_of_eq setc_size.symm) (fun g hg _ => ⟨hg, setc_block (by omega)⟩)
            · exact HTL9.out.keep (Nat.le_of_eq setc_size.symm) (fun g hg _ => ⟨hg, setc_block (by omega)⟩)
            · exact HRL9.out.keep (Nat.le_of_eq setc_size.symm) (fun g hg _ => ⟨hg, setc_block (by omega)⟩)
           case measure => simp [intOf]; omega
         · have HS8 := Hd (fun X => (HRM8.out.drop (a' := X) hk (fun g o e h => absurd h hkn)).src (P := Tryz.prog) (tx := 25) (e' := 43) (by kernel_rfl) (by decide) (fun u hu => HON.out u (List.mem_of_mem_drop hu))); go_upto_region 19 with (first
            | (at_builtin; refine wpList_append_src _ rfl _ _ 25 25 rfl Bz 43 _ _ 9 128 (by kernel_rfl) (by rfl) (by rfl) (by rfl) (by kernel_rfl) (by rfl) (by decide) _ (0 + k + 1) _ rfl HO8.out _ (i - k) _ rfl (HS8.out _) (by simp only [maxLen]; omega) (by omega) hs8 ?_; intro v3 w9 ho3 hg3)
            | fail)
           have hB9 : Below Bz w5 w9 := HB8.out.trans (Below.ofGrown hg3 HO8.out hs8); rw [show 0 + k + 1 + (i - k) = i + 1 by omega] at ho3; obtain ⟨v3a, v3c, rfl⟩ := ownsRow_shape ho3
           have hfl : [] ++ ms.flatten.take (k * 9) ++ [.string ⟨key.toArray⟩, .int .i64 tk, .bool tb, .bool td.neg, .string ⟨td.digits.toArray⟩, .int .i64 td.exp, .string ⟨ts.toArray⟩, .slice ta1 tn1 tc1, .slice ta2 tn2 tc2] ++ ms.flatten.drop (k * 9) = (ms.take k ++ (.string ⟨key.toArray⟩ :: (cellsV tk tb td ts (.slice ta1 tn1 tc1) (.slice ta2 tn2 tc2)).toList) :: ms.drop k).flatten := by
            obtain ⟨e1, e2⟩ := flat_cut (ms := ms) (z := 9) HNI.out (k := k) (by rw [HMS.out]; exact hk); rw [List.flatten_append, List.flatten_cons, e1, e2]; simp [cellsV]
           have hkB : ∀ g, S + 3 ≤ g → g < w5.heap.size → S + 3 ≤ g ∧ w9.heap[g]? = w5.heap[g]? := fun g hg hlt => ⟨hg, hB9.block g (by rw [← HBZ.out]; exact hlt)⟩; have HTM9 : Hid (TMc w9 (fun g => S + 3 ≤ g) (sortM (sortedM (tm.take (i + 1)))) (ms.take k ++ (.string ⟨key.toArray⟩ :: (cellsV tk tb td ts (.slice ta1 tn1 tc1) (.slice ta2 tn2 tc2)).toList) :: ms.drop k)) := Hd (by
            rw [HTK.out, HINS.out]; have hm := HTM5.out.keep (w' := w9) (A' := fun g => S + 3 ≤ g) hB9.size hkB; exact (hm.take k).app ((TMc.one (HT5.out.keep (w' := w9) (A' := fun g => S + 3 ≤ g) hB9.size hkB)).app (hm.drop k)))
           have HRM9 : Hid (RowAt w9 (fun g => S + 3 ≤ g) 9 (.slice v3a (i + 1) v3c) (i + 1) (ms.take k ++ (.string ⟨key.toArray⟩ :: (cellsV tk tb td ts (.slice ta1 tn1 tc1) (.slice ta2 tn2 tc2)).toList) :: ms.drop k).flatten) := Hd (by
            rw [← hfl]; exact RowAt.own ho3 (by decide) (fun g _ hg _ => by omega))
           have HTL9 := Hd (HTL5.out.keep (w' := w9) (A' := fun g => S + 3 ≤ g) hB9.size hkB); have HRL9 := Hd (HRL5.out.keep (w' := w9) (A' := fun g => S + 3 ≤ g) hB9.size hkB); have HKP9 := Hd (HKP5.out.trans (Kept.ofBelow (hB9.mono hSB)))
           have hv9 : VAt w9 (S + 2) #[.int .i64 kk, .bool bb, .bool d1, .string ⟨d2.toArray⟩, .int .i64 d3, .string ⟨ss.toArray⟩, .slice vA tl.length vC, .slice mA i mC] := (hB9.block (S + 2) (by omega)).trans HV5.out; have HV9 := Hd (hv9.set1 7 (.slice v3a (i + 1) v3c)); have q7 := hv9.cell 7; have f7 := hv9.free 7; simp at q7; clear hB9 hfl hkB hv9 ho3 hg3 c7; go_wp2_with fail; go_roundw
           case rel =>
            refine ⟨i + 1, v3a, v3c, (ms.take k ++ (.string ⟨key.toArray⟩ :: (cellsV tk tb td ts (.slice ta1 tn1 tc1) (.slice ta2 tn2 tc2)).toList) :: ms.drop k), csl, by go_num, by omega, by simpa using HV9.out, ?_, ?_, ?_, ?_, HKP9.out.trans (Kept.setCell (B := S + 3) (p := S + 2) (o := 7) (.slice v3a (i + 1) v3c))⟩
            · exact HTM9.out.keep (Nat.le_of_eq setc_size.symm) (fun g hg _ => ⟨hg, setc_block (by omega)⟩)
            · exact HRM9.out.keep (Nat.le_of_eq setc_size.symm) (fun g hg _ => ⟨hg, setc_block (by omega)⟩)
            · exact HTL9.out.keep (Nat.le_of_eq setc_size.symm) (fun g hg _ => ⟨hg, setc_block (by omega)⟩)
            · exact HRL9.out.keep (Nat.le_of_eq setc_size.symm) (fun g hg _ => ⟨hg, setc_block (by omega)⟩)
           case measure => simp [intOf]; omega
     · have hnlt : ¬ ((i : Int) < tm.length) := by omega
       obtain rfl : i = tm.length := by omega
       have htm2 := HTM2.out; rw [List.take_length] at htm2; have hml2 : (sortM (sortedM tm)).length = tm.length := by rw [(sortM_perm _).length_eq, sortedM_map, List.length_map]
       have HTVF : Hid (TV wr (fun g => S + 3 ≤ g) (.mk kk bb ⟨d1, d2, d3⟩ ss (sortedL tl) (sortM (sortedM tm))) (cellsV kk bb ⟨d1, d2, d3⟩ ss (.slice vA tl.length vC) (.slice mA tm.length mC))) := Hd (TV.mk HTL2.out HRL2.out (TMc.tm htm2) (by rw [hml2]; exact HRM2.out)); have HR1 : Hid (VAt wr (S + 1) _) := Hd (by unfold VAt; rw [HKP.out.block (S + 1) (by omega) (by omega)]; exact HV.out.ext HX1.out)
       clear htm2 hml2 HTM2 HRM2 HTL2 HRL2; obtain ⟨v0, v1, v2, v3, v4, v5, v6, v7⟩ := HV1.out.c8; obtain ⟨u0, u1, u2, u3, u4, u5, u6, u7⟩ := HR1.out.c8; obtain ⟨f0, f1, f2, f3, f4, f5, f6, f7⟩ := HR1.out.f8; go_wp2_with fail; clear v0 v1 v2 v3 v4 v5 v6 v7 u0 u1 u2 u3 u4 u5 u6 u7 f0 f1 f2 f3 f4 f5 f6 f7
       have hV := VAt.store8 HR1.out (.int .i64 kk) (.bool bb) (.bool d1) (.string ⟨d2.toArray⟩) (.int .i64 d3) (.string ⟨ss.toArray⟩) (.slice vA tl.length vC) (.slice mA tm.length mC); have HV := Hd hV; obtain ⟨v0, v1, v2, v3, v4, v5, v6, v7⟩ := HV.out.c8
       refine bodyPost_ret (v := .agg #[.int .i64 kk, .bool bb, .bool d1, .string ⟨d2.toArray⟩, .int .i64 d3, .string ⟨ss.toArray⟩, .slice vA tl.length vC, .slice mA tm.length mC]) (by simp [results, Tryz.results79, go_sem, v0, v1, v2, v3, v4, v5, v6, v7]) rfl ?_; rw [sortedT]
       exact ⟨_, rfl, HTVF.out.keep (by simp [World.setCell]) (fun g hg hlt => ⟨by rw [HS.out]; omega, heap8 (by omega)⟩), ext_set8 ((ext_trans HE.out HX1.out).trans (by rw [HS.out]; exact (HKP.out.mono (by omega)).below (by omega))) (by rw [HS.out]; omega)⟩
theorem r3srt_all : ∀ (N : Nat) (t : Tree), SizeOf.sizeOf t < N → R3Srt t
 | 0, _, h => by omega
 | N + 1, t, h => r3srt_step t (fun x hx => r3srt_all N x (by have := ins_size hx; omega))
theorem r3sorted_any (t : Tree) (c : Array Value) (A : Nat → Prop) (w : World) (h : TV w A t c) (hw : weightT t ≤ 1000000) :
 Calls Tryz.prog 79 #[.agg c] w (fun e w' => ∃ c', e = .returned (.agg c') ∧ TV w' (fun g => w.heap.size ≤ g) (sortedT t) c' ∧ Ext w w') :=
 r3srt_all _ t (Nat.lt_succ_self _) c A w h hw
set_option maxHeartbeats 3200000 in
theorem r5told_any (t : Tree) (c : Array Value) (A : Nat → Prop) (by' : Int) (w : World) (h : TV w A t c) (hw : weightT t ≤ 1000000) (h0 : -1 ≤ by') (h1 : by' ≤ 16) :
 Calls Tryz.prog 76 #[.agg c, .int .i64 by'] w (fun e w' => e = .returned (.tuple #[.string ⟨(shortT (toldT by' t)).1.toArray⟩, .int .i64 (shortT (toldT by' t)).2]) ∧ Ext w w') := by
 obtain ⟨R, hR⟩ := Ex (shortT (toldT by' t)); rw [hR]; obtain ⟨kk, bb, d, ss, la, ln, lc, ma, mn, mc, rfl⟩ := h.eight; obtain ⟨wA, ewA⟩ : ∃ W, w.alloc (.cells (cellsV kk bb d ss (.slice la ln lc) (.slice ma mn mc)) 27) = W := ⟨_, rfl⟩
 have nwA : wA.heap[w.heap.size]? = some (.cells (cellsV kk bb d ss (.slice la ln lc) (.slice ma mn mc)) 27) := by rw [← ewA]; exact heap_alloc_new _ _
 have xwA : Ext w wA := by rw [← ewA]; exact (ext_refl _).alloc (Nat.le_refl _) _
 have swA : wA.heap.size = w.heap.size + 1 := by rw [← ewA]; simp
 have HTV := Hd (h.keep (w' := wA) (A' := A) xwA.size (fun g hg hlt => ⟨hg, xwA.block g hlt⟩)); have HC : Hid (VAt wA w.heap.size (cellsV kk bb d ss (.slice la ln lc) (.slice ma mn mc))) := Hd nwA; have HE := Hd xwA; have EA := Hd ewA; clear h nwA xwA ewA swA; simp only [cellsV] at HC EA HTV ⊢; go_enter Tryz.func76, Tryz.ntmps76
 have HR := Hd hR; clear hR; go_upto_region 1 with fail; rw [EA.out]; obtain ⟨S, hS⟩ := Ex w.heap.size; rw [hS] at HC ⊢; have HS := Hd hS; clear hS EA; obtain ⟨c0, c1, c2, c3, c4, c5, c6, c7⟩ := HC.out.c8; go_wp2_with fail; refine (r3Sane_any t _ A _ hw HTV.out).mono ?_; rintro e w2 ⟨rfl, hx2⟩; have HC2 := Hd (HC.out.ext hx2)
 have HTV2 := Hd (HTV.out.keep (w' := w2) (A' := A) hx2.size (fun g hg hlt => ⟨hg, hx2.block g hlt⟩)); have HE2 := Hd (ext_trans HE.out hx2); clear c0 c1 c2 c3 c4 c5 c6 c7; clear hx2; have hR := HR.out; unfold toldT at hR; cases hsn : saneT 0 0 t with
 | mk er m =>
   rw [hsn] at hR; simp only at hR ⊢; by_cases he : er = 0
   · subst he; rw [if_neg (by simp)] at hR; clear HR; replace hR := Hd hR; have HSS := Hd (OkT.saneP (sane_sorted hsn).1); clear hsn; obtain ⟨c0, c1, c2, c3, c4, c5, c6, c7⟩ := HC2.out.c8; go_wp2_with fail; refine (r3sorted_any t _ A w2 HTV2.out hw).mono ?_; rintro e w4 ⟨c4, rfl, htv4, hx4⟩; have HTV4 := Hd htv4; have HX4 := Hd hx4
     obtain ⟨k4, b4, e4, s4, l4a, l4n, l4c, m4a, m4n, m4c, rfl⟩ := htv4.eight; clear htv4 hx4; clear c0 c1 c2 c3 c4 c5 c6 c7; simp only [cellsV]; go_wp2_with fail; refine (text5_any (sortedT t) by' 0 _ _ w4 (by omega) (by omega) (by rw [weightT_sorted]; omega) HSS.out HTV4.out).mono ?_; rintro e w5 ⟨rfl, hw5⟩; have HX5 := Hd (ext_trans HX4.out hw5); clear hw5
     obtain ⟨tx, htx⟩ := Ex (outT by' 0 (sortedT t)); have hlen : tx.length ≤ 140000000000000 := by rw [← htx]; exact out_big5 (by omega) (by rw [weightT_sorted]; omega)
     replace hR := Hd (hR.out); rw [htx] at hR ⊢; have hr := hR.out; unfold shortT at hr; rw [if_neg (by simp)] at hr; simp only at hr; clear hR htx; by_cases hb : 65536 < tx.length
     · have hb2 : (65536 : Int) < tx.length := by omega
       rw [if_pos hb] at hr; have HR := Hd hr; clear hr; go_wp2_with fail; go_ret2; rw [← HR.out]; exact ⟨rfl, ext_trans HE2.out HX5.out⟩
     · have hb2 : ¬ (65536 : Int) < tx.length := by omega
       rw [if_neg hb] at hr; have HR := Hd hr; clear hr; go_wp2_with fail; go_ret2; rw [← HR.out]; exact ⟨rfl, ext_trans HE2.out HX5.out⟩
   · have hne : (er != 0) = true := by simpa using he
     rw [if_pos (by simpa using he)] at hR; have HF : Hid (R = ([], er)) := Hd (by rw [← hR]; unfold shortT; rw [if_pos he]); clear hsn HR hR; go_wp2_with fail; go_ret2; rw [HF.out]; exact ⟨rfl, HE2.out⟩
theorem r5Value_any (t : Tree) (c : Array Value) (A : Nat → Prop) (w : World) (h : TV w A t c) (hw : weightT t ≤ 1000000) :
 Calls Tryz.prog 37 #[.agg c] w (fun e w' => e = .returned (.tuple #[.string ⟨(printT t).1.toArray⟩, .int .i64 (printT t).2]) ∧ Ext w w') := by
 obtain ⟨kk, bb, d, ss, la, ln, lc, ma, mn, mc, rfl⟩ := h.eight; obtain ⟨wA, ewA⟩ : ∃ W, w.alloc (.cells (cellsV kk bb d ss (.slice la ln lc) (.slice ma mn mc)) 27) = W := ⟨_, rfl⟩
 have nwA : wA.heap[w.heap.size]? = some (.cells (cellsV kk bb d ss (.slice la ln lc) (.slice ma mn mc)) 27) := by rw [← ewA]; exact heap_alloc_new _ _
 have xwA : Ext w wA := by rw [← ewA]; exact (ext_refl _).alloc (Nat.le_refl _) _
 have swA : wA.heap.size = w.heap.size + 1 := by rw [← ewA]; simp
 have HTV := Hd (h.keep (w' := wA) (A' := A) xwA.size (fun g hg hlt => ⟨hg, xwA.block g hlt⟩)); have HC : Hid (VAt wA w.heap.size (cellsV kk bb d ss (.slice la ln lc) (.slice ma mn mc))) := Hd nwA; have HE := Hd xwA; have EA := Hd ewA; clear h nwA xwA ewA swA; simp only [cellsV] at HC EA HTV ⊢; go_enter Tryz.func37, Tryz.ntmps37
 go_upto_region 1 with fail; rw [EA.out]; obtain ⟨S, hS⟩ := Ex w.heap.size; rw [hS] at HC ⊢; have HS := Hd hS; clear hS EA; obtain ⟨c0, c1, c2, c3, c4, c5, c6, c7⟩ := HC.out.c8; go_wp2_with fail; refine (r5told_any t _ A (-1) _ HTV.out hw (by omega) (by omega)).mono ?_; rintro e w2 ⟨rfl, hx2⟩; have HE2 := Hd (ext_trans HE.out hx2); clear c0 c1 c2 c3 c4 c5 c6 c7; clear hx2; go_wp2_with fail; go_ret2
 exact ⟨rfl, HE2.out⟩
theorem r5Pretty_any (t : Tree) (c : Array Value) (A : Nat → Prop) (by' : Int) (w : World) (h : TV w A t c) (hw : weightT t ≤ 1000000) :
 Calls Tryz.prog 38 #[.agg c, .int .i64 by'] w (fun e w' => e = .returned (.tuple #[.string ⟨(prettyT t by').1.toArray⟩, .int .i64 (prettyT t by').2]) ∧ Ext w w') := by
 obtain ⟨kk, bb, d, ss, la, ln, lc, ma, mn, mc, rfl⟩ := h.eight; obtain ⟨wA, ewA⟩ : ∃ W, w.alloc (.cells (cellsV kk bb d ss (.slice la ln lc) (.slice ma mn mc)) 27) = W := ⟨_, rfl⟩
 have nwA : wA.heap[w.heap.size]? = some (.cells (cellsV kk bb d ss (.slice la ln lc) (.slice ma mn mc)) 27) := by rw [← ewA]; exact heap_alloc_new _ _
 have xwA : Ext w wA := by rw [← ewA]; exact (ext_refl _).alloc (Nat.le_refl _) _
 have swA : wA.heap.size = w.heap.size + 1 := by rw [← ewA]; simp
 have HTV := Hd (h.keep (w' := wA) (A' := A) xwA.size (fun g hg hlt => ⟨hg, xwA.block g hlt⟩)); have HC : Hid (VAt wA w.heap.size (cellsV kk bb d ss (.slice la ln lc) (.slice ma mn mc))) := Hd nwA; have HE := Hd xwA; have EA := Hd ewA; clear h nwA xwA ewA swA; simp only [cellsV] at HC EA HTV ⊢; obtain ⟨R, hR⟩ := Ex (prettyT t by'); rw [hR]; have HR := Hd hR; clear hR
 go_enter Tryz.func38, Tryz.ntmps38
 go_upto_region 1 with fail; rw [EA.out]; obtain ⟨S, hS⟩ := Ex w.heap.size; rw [hS] at HC ⊢; have HS := Hd hS; clear hS EA; obtain ⟨c0, c1, c2, c3, c4, c5, c6, c7⟩ := HC.out.c8; by_cases h0 : by' < 0
 · have hr := HR.out; unfold prettyT at hr; rw [if_pos (.inl h0)] at hr; subst hr; clear HR; go_wp2_with fail; go_ret2; exact ⟨rfl, HE.out⟩
 · by_cases h1 : 16 < by'
   · have hr := HR.out; unfold prettyT at hr; rw [if_pos (.inr h1)] at hr; subst hr; clear HR; go_wp2_with fail; go_ret2; exact ⟨rfl, HE.out⟩
   · have hr := HR.out; unfold prettyT at hr; rw [if_neg (by omega)] at hr; replace HR := Hd hr; clear hr; go_wp2_with fail; refine (r5told_any t _ A by' _ HTV.out hw (by omega) (by omega)).mono ?_; rintro e w2 ⟨rfl, hx2⟩; have HE2 := Hd (ext_trans HE.out hx2); clear c0 c1 c2 c3 c4 c5 c6 c7; clear hx2; rw [HR.out]; go_wp2_with fail; go_ret2; exact ⟨rfl, HE2.out⟩
set_option maxHeartbeats 3200000 in
theorem r5Size_any (t : Tree) (c : Array Value) (A : Nat → Prop) (w : World) (h : TV w A t c) (hw : weightT t ≤ 1000000) :
 Calls Tryz.prog 41 #[.agg c] w (fun e w' => e = .returned (.int .i64 ((toldT (-1) t).1.length : Nat)) ∧ Ext w w') := by
 obtain ⟨R, hR⟩ := Ex (toldT (-1) t); rw [hR]; have HR := Hd hR; clear hR; obtain ⟨kk, bb, d, ss, la, ln, lc, ma, mn, mc, rfl⟩ := h.eight; obtain ⟨wA, ewA⟩ : ∃ W, w.alloc (.cells (cellsV kk bb d ss (.slice la ln lc) (.slice ma mn mc)) 27) = W := ⟨_, rfl⟩
 have nwA : wA.heap[w.heap.size]? = some (.cells (cellsV kk bb d ss (.slice la ln lc) (.slice ma mn mc)) 27) := by rw [← ewA]; exact heap_alloc_new _ _
 have xwA : Ext w wA := by rw [← ewA]; exact (ext_refl _).alloc (Nat.le_refl _) _
 have swA : wA.heap.size = w.heap.size + 1 := by rw [← ewA]; simp
 have HTV := Hd (h.keep (w' := wA) (A' := A) xwA.size (fun g hg hlt => ⟨hg, xwA.block g hlt⟩)); have HC : Hid (VAt wA w.heap.size (cellsV kk bb d ss (.slice la ln lc) (.slice ma mn mc))) := Hd nwA; have HE := Hd xwA; have EA := Hd ewA; clear h nwA xwA ewA swA; simp only [cellsV] at HC EA HTV ⊢; go_enter Tryz.func41, Tryz.ntmps41
 go_upto_region 1 with fail; rw [EA.out]; obtain ⟨S, hS⟩ := Ex w.heap.size; rw [hS] at HC ⊢; have HS := Hd hS; clear hS EA; obtain ⟨c0, c1, c2, c3, c4, c5, c6, c7⟩ := HC.out.c8; go_wp2_with fail; refine (r3Sane_any t _ A _ hw HTV.out).mono ?_; rintro e w2 ⟨rfl, hx2⟩; have HC2 := Hd (HC.out.ext hx2); have HTV2 := Hd (HTV.out.keep (w' := w2) (A' := A) hx2.size (fun g hg hlt => ⟨hg, hx2.block g hlt⟩))
 have HE2 := Hd (ext_trans HE.out hx2); clear c0 c1 c2 c3 c4 c5 c6 c7; clear hx2; have hR := HR.out; unfold toldT at hR; cases hsn : saneT 0 0 t with
 | mk er m =>
   rw [hsn] at hR; simp only at hR ⊢; by_cases he : er = 0
   · subst he; rw [if_neg (by simp)] at hR; clear HR; replace hR := Hd hR; have HSS := Hd (OkT.saneP (sane_sorted hsn).1); clear hsn; obtain ⟨c0, c1, c2, c3, c4, c5, c6, c7⟩ := HC2.out.c8; go_wp2_with fail; refine (r3sorted_any t _ A w2 HTV2.out hw).mono ?_; rintro e w4 ⟨c4, rfl, htv4, hx4⟩; have HTV4 := Hd htv4; have HX4 := Hd hx4
     obtain ⟨k4, b4, e4, s4, l4a, l4n, l4c, m4a, m4n, m4c, rfl⟩ := htv4.eight; clear htv4 hx4; clear c0 c1 c2 c3 c4 c5 c6 c7; simp only [cellsV]; go_wp2_with fail; refine (text5_any (sortedT t) (-1) 0 _ _ w4 (by omega) (by omega) (by rw [weightT_sorted]; omega) HSS.out HTV4.out).mono ?_; rintro e w5 ⟨rfl, hw5⟩; have HX5 := Hd (ext_trans HX4.out hw5); clear hw5
     obtain ⟨tx, htx⟩ := Ex (outT (-1) 0 (sortedT t)); have hlen : tx.length ≤ 140000000000000 := by rw [← htx]; exact out_big5 (by omega) (by rw [weightT_sorted]; omega)
     replace hR := Hd (hR.out); rw [htx] at hR ⊢; have HR := Hd hR.out; clear hR htx; go_wp2_with fail; go_ret; rw [← HR.out]; exact ⟨rfl, ext_trans HE2.out HX5.out⟩
   · have hne : (er != 0) = true := by simpa using he
     rw [if_pos (by simpa using he)] at hR; have HF := Hd hR; clear hsn HR hR; go_wp2_with fail; go_ret; rw [← HF.out]; exact ⟨rfl, HE2.out⟩
end Go.Proofs.YtjapbjmeoaagmaaGreatDoor
end

section
set_option maxRecDepth 100000
namespace Go.Proofs.YtjapbjmeoaagmaaGreatDoor
open Go.RowKit Go.Mem
theorem tab_of {W : World} (h : laidMetH Tryz.prog Rows.printBackRow.laid W) : Tab W := by
 rw [MakeChecks.laidMetH_plain _ _ _ (by kernel_rfl)] at h
 have h' : laidMet Tryz.prog (("math/bits.deBruijn32tab", Rows.laid_math_bits_deBruijn32tab) :: ("math/bits.deBruijn64tab", Rows.laid_math_bits_deBruijn64tab) :: ("internal/strconv.uint64pow10", Lib.tabData .u64 Lib.pow10Tab) :: [("unicode/utf8.acceptRanges", Rows.laid_unicode_utf8_acceptRanges), ("unicode/utf8.first", Rows.laid_unicode_utf8_first)]) W := h
 exact Lib.tabIs_of_head (g := 0) (t := 219) (n := 20) (by kernel_rfl) (by kernel_rfl) (by kernel_rfl) Tryz.underlying178 (by kernel_rfl) (by kernel_rfl) (laidMet.tail (laidMet.tail h'))
end Go.Proofs.YtjapbjmeoaagmaaGreatDoor
end

section
set_option maxRecDepth 100000
namespace Go
theorem grown_add (P : Program) : ∀ (n m : Nat) (s : List TypeId), P.grown (n + m) s = P.grown m (P.grown n s)
 | 0, m, s => by rw [Nat.zero_add]; rfl
 | n + 1, m, s => by
   rw [show n + 1 + m = (n + m) + 1 by omega]; show P.grown (n + m) (P.grow s) = P.grown m (P.grown n (P.grow s)); exact grown_add P n m _
theorem grown_fix (P : Program) {s : List TypeId} (h : P.grow s = s) : ∀ m, P.grown m s = s
 | 0 => rfl
 | m + 1 => by
   show P.grown m (P.grow s) = s; rw [h]; exact grown_fix P h m
theorem book_of {P : Program} {t : TypeId} {L : List TypeId} (n : Nat) (h1 : P.grown n [t] = L) (h2 : P.grow L = L) (hn : n ≤ P.types.size) : P.book t = L := by
 unfold Program.book; obtain ⟨m, hm⟩ : ∃ m, P.types.size = n + m := ⟨P.types.size - n, by omega⟩
 rw [hm, grown_add, h1, grown_fix P h2]
theorem joined_of {P : Program} {f : FuncId} {fn : Func} {s : ChangeSpec} {c : OpenClaim}
 (k1 : (c.wf (OpenSpec.ofChange s) && laidOutB P && mapsRowed P) = true) (k4 : fn.params.all (P.readableRec ·) = true)
 (k5 : (namedTie P c.named s.vars && (c.stops == []) && (P.stops == []) && (c.knobs == []) && (P.stopKnobs == []) && (c.inPlace == P.inPlace f) && (c.unfollowed == P.unfollowed f) && (c.recurses == P.recurses f) && (c.named == P.varsNamed f)) = true)
 (k6 : (c.maps == (fn.params.toList ++ s.plain.varTypes P).any (P.mapsRec ·)) = true) (k7 : (c.ifaces == (fn.params.toList ++ s.plain.varTypes P).any (P.ifacesRec ·)) = true) (k8 : (c.mapsOut == P.mapsAmong fn.resultTypes.toList) = true)
 (k9 : (c.loops == (fn.params.toList ++ s.plain.varTypes P).any (P.loopsFrom ·)) = true) (k10 : (c.wideKeys == (fn.params.toList ++ s.plain.varTypes P ++ fn.resultTypes.toList).any (P.wideKeysFrom ·)) = true)
 (k11 : (s.vars.all (P.varReadable ·) && fn.resultTypes.all (fun t => P.readableRec t && decide (t < P.types.size)) && (c.ifacesOut == fn.resultTypes.toList.any (P.ifacesRec ·)) && (c.loopsOut == fn.resultTypes.toList.any (P.loopsFrom ·)) && (c.plainKeys == P.plainKeys) && c.shortTexts.isNone && P.stopsHeard && P.mayEnter && (c.lifted == P.liftsFinal) && (P.make == some c.make) && (c.kinds == (if c.domain.isEmpty then [] else fn.params.toList.map fun t => match P.underlying t with | some (.int k) => some k | _ => none)) && (c.pinned == c.pinnedBy)) = true)
 (k12 : (c.veiled == (fn.params.toList ++ s.plain.varTypes P ++ fn.resultTypes.toList).any (P.veiledRec ·)) = true) (k13 : c.veiledFits P fn.params.toList (fn.params.toList ++ s.plain.varTypes P ++ fn.resultTypes.toList) = true) : joinedFacts P f fn s c = true := by
 simp only [Bool.and_eq_true] at k1 k5 k11; simp only [joinedFacts, Bool.and_eq_true]; obtain ⟨⟨a1, a2⟩, a3⟩ := k1; obtain ⟨⟨⟨⟨⟨⟨⟨⟨b1, b2⟩, b3⟩, b4⟩, b5⟩, b6⟩, b7⟩, b8⟩, b9⟩ := k5; obtain ⟨⟨⟨⟨⟨⟨⟨⟨⟨⟨⟨c1, c2⟩, c3⟩, c4⟩, c5⟩, c6⟩, c7⟩, c8⟩, c9⟩, c10⟩, c11⟩, c12⟩ := k11; refine ⟨⟨?_, k12⟩, k13⟩
 simp only [a1, a2, a3, k4, b1, b2, b3, b4, b5, b6, b7, b8, b9, k6, k7, k8, k9, k10, c1, c2, c3, c4, c5, c6, c7, c8, c9, c10, c12, and_self]; exact ⟨⟨trivial, c11⟩, trivial⟩
theorem veiledFits_of {P : Program} {c : OpenClaim} {ps ts : List TypeId} (hs : c.start = .entering) (h1 : ts.all (P.veiledOwn ·) = true) (h2 : (c.laid.filterMap fun x => (P.globalNamed x.1).bind fun g => (P.globals[g]?).map (·.type)).all (P.veiledOwn ·) = true) : c.veiledFits P ps ts = true := by
 unfold OpenClaim.veiledFits; rw [hs]; simp only [List.all_append, h1, h2, Bool.and_self, Bool.true_or, Bool.and_true]
end Go
namespace Go.Proofs.YtjapbjmeoaagmaaGreatDoor
open Go
theorem bookV : Tryz.prog.book 27 = [27, 3, 4, 23, 9, 24, 25, 43] := book_of 2 (by kernel_rfl) (by kernel_rfl) (by decide +kernel)
theorem bookL : Tryz.prog.book 24 = [24, 27, 3, 4, 23, 9, 25, 43] := book_of 3 (by kernel_rfl) (by kernel_rfl) (by decide +kernel)
theorem readV : Tryz.prog.readableRec 27 = true := by unfold Program.readableRec; rw [bookV]; kernel_rfl
theorem mapsV : Tryz.prog.mapsRec 27 = false := by unfold Program.mapsRec; rw [bookV]; kernel_rfl
theorem ifacesV : Tryz.prog.ifacesRec 27 = false := by unfold Program.ifacesRec; rw [bookV]; kernel_rfl
theorem wideV : Tryz.prog.wideKeysFrom 27 = false := by unfold Program.wideKeysFrom; rw [bookV]; kernel_rfl
theorem veiledV : Tryz.prog.veiledRec 27 = false := by unfold Program.veiledRec; rw [bookV]; kernel_rfl
theorem ownV : Tryz.prog.veiledOwn 27 = true := by unfold Program.veiledOwn; rw [veiledV]; rfl
theorem loopsV : Tryz.prog.loopsFrom 27 = true := by
 unfold Program.loopsFrom; rw [bookV]; refine List.any_eq_true.2 ⟨27, List.mem_cons_self, List.any_eq_true.2 ⟨24, ?_, ?_⟩⟩
 · rw [show Tryz.prog.partsOf 27 = [3, 4, 23, 9, 24, 25] by kernel_rfl]; decide +kernel
 · rw [bookL]; decide +kernel
end Go.Proofs.YtjapbjmeoaagmaaGreatDoor
end
