/- A text of this proof. -/
import Derived.Test.YtjapbjmeoaagmaaGreatDoorEPrintIsPaL
import Derived.Test.YtjapbjmeoaagmaaGreatDoorEPrintIsPaR
import Derived.Test.YtjapbjmeoaagmaaGreatDoorEPrintIsSh
set_option linter.unusedVariables false
set_option linter.unusedSimpArgs false
set_option maxRecDepth 100000
namespace Go.Proofs.YtjapbjmeoaagmaaGreatDoor
open Go.RowKit Go.Mem Orange
def EndW (p : Nat) (v : Value) (xs : List UInt8) (w : World) (e : Ending) (w' : World) : PR Tree → Prop
 | .ok t a n => ∃ c, e = .returned (.agg c) ∧ TV w' (fun g => w.heap.size ≤ g) t c ∧ PS w' p v xs a n ∧ KeptP p w w'
 | .err er b => e = .panicked (wrongV er b) ∧ KeptP p w w'
def Box1 (w : World) (q : Nat) (ty : TypeId) (u : Value) : Prop := w.heap[q]? = some (.cells #[u] ty (0, 0))
theorem Box1.lt {w : World} {q : Nat} {ty : TypeId} {u : Value} (h : Box1 w q ty u) : q < w.heap.size := (Array.getElem?_eq_some_iff.1 h).1
theorem Box1.kept {w w' : World} {p q : Nat} {ty : TypeId} {u : Value} (h : Box1 w q ty u) (hb : KeptP p w w') (hq : q ≠ p) : Box1 w' q ty u := by
 unfold Box1; rw [hb.block _ h.lt hq]; exact h
theorem Box1.cell {w : World} {q : Nat} {ty : TypeId} {u : Value} (h : Box1 w q ty u) : w.cell? ⟨q, 0, none⟩ = some u := by rw [cell_of_cells h]; rfl
theorem Box1.free {w : World} {q : Nat} {ty : TypeId} {u : Value} (h : Box1 w q ty u) : w.frozen? ⟨q, 0, none⟩ = false := free_of_cells h
def StA (base q : Nat) (acc : List Tree) (w : World) : Prop :=
 ∃ vL cs, VAt w q (cellsV 4 false Num.zero [] vL noL) ∧ w.ownsRow base 27 8 vL acc.length cs ∧ TL w (fun g => base ≤ g ∧ vL.ownBlock ≠ some g) acc cs
theorem ownsRow_kept {w w' : World} {base p : Nat} {e : TypeId} {z n : Nat} {v : Value} {cs : List Value} (h : w.ownsRow base e z v n cs) (hk : KeptP p w w') (hp : p < base) : w'.ownsRow base e z v n cs := by
 obtain ⟨h1, h2⟩ := h; refine ⟨h1, ?_⟩; rcases h2 with h2 | ⟨g, cap, cur, rfl, hbg, hg, r⟩
 · exact .inl h2
 · exact .inr ⟨g, cap, cur, rfl, hbg, by rw [hk.block g (Array.getElem?_eq_some_iff.1 hg).1 (by omega)]; exact hg, r⟩
theorem StA.kept {base q p : Nat} {acc : List Tree} {w w' : World} (h : StA base q acc w) (hk : KeptP p w w') (hp : p < base) (hq : q ≠ p) : StA base q acc w' := by
 obtain ⟨vL, cs, h1, h2, h3⟩ := h; exact ⟨vL, cs, h1.kept hk hq, ownsRow_kept h2 hk hp, h3.keep hk.size (fun g hg hlt => ⟨hg, hk.block g hlt (by omega)⟩)⟩
theorem TV.kept {w w' : World} {B p : Nat} {t : Tree} {c : Array Value} (h : TV w (fun g => B ≤ g) t c) (hk : KeptP p w w') (hp : p < B) : TV w' (fun g => B ≤ g) t c :=
 h.keep hk.size (fun g hg hlt => ⟨hg, hk.block g hlt (by omega)⟩)
structure KeptQ (base p q : Nat) (w w' : World) : Prop where
 os : w'.os = w.os
 tape : w'.tape = w.tape
 output : w'.output = w.output
 size : w.heap.size ≤ w'.heap.size
 block : ∀ k, k < base → k ≠ p → k ≠ q → w'.heap[k]? = w.heap[k]?
theorem KeptQ.kept {base p q B : Nat} {w w' : World} (h : KeptQ base p q w w') (hb : B ≤ base) (hq : B ≤ q) : Kept B p w w' :=
 ⟨h.os, h.tape, h.output, h.size, fun k hk hp => h.block k (by omega) hp (by omega)⟩
theorem KeptQ.ofP {base p q : Nat} {w w' : World} (h : KeptP p w w') (hb : base ≤ w.heap.size) : KeptQ base p q w w' :=
 ⟨h.os, h.tape, h.output, h.size, fun k hk hp _ => h.block k (by omega) hp⟩
theorem KeptQ.box {base p q b : Nat} {w w' : World} {ty : TypeId} {u : Value} (h : KeptQ base p q w w') (hb : Box1 w b ty u) (h1 : b < base) (h2 : b ≠ p) (h3 : b ≠ q) : Box1 w' b ty u := by
 unfold Box1; rw [h.block b h1 h2 h3]; exact hb
theorem KeptQ.vat {base p q b : Nat} {w w' : World} {c : Array Value} (h : KeptQ base p q w w') (hb : VAt w b c) (h1 : b < base) (h2 : b ≠ p) (h3 : b ≠ q) : VAt w' b c := by
 unfold VAt; rw [h.block b h1 h2 h3]; exact hb
theorem PS.through {w0 w3 w4 W : World} {p g q : Nat} {v : Value} {xs : List UInt8} {a n : Nat} {own : Option Nat} {og oq : Obj} (h : PS w3 p v xs a n) (hgr : w3.grownBy w4 own) (hp : some p ≠ own) (h2 : Two w4 W g q og oq) (hpg : p ≠ g) (hpq : p ≠ q)
 (hb : BytesN p w0 v xs) (hk : Kept w0.heap.size p w0 W) : PS W p v xs a n := by
 refine ⟨?_, hb.kept hk, h.2.2⟩; unfold PAt; rw [h2.block p hpg hpq, hgr.block p h.1.cells.2.2.2.2.2.2 hp]; exact h.1
theorem StA.push {w w3 w4 W : World} {p base q g cap : Nat} {acc : List Tree} {cs : List Value} {t : Tree} {c : Array Value} {vL : Value} {zs : List Value} {cur : Array Value} (hbs : base ≤ w.heap.size) (hk3 : KeptP p w w3) (hqb : q < base)
 (hlt : ∀ k, vL.ownBlock = some k → k < w.heap.size) (htl : TL w3 (fun g => base ≤ g ∧ vL.ownBlock ≠ some g) acc cs) (htv : TV w3 (fun g => w.heap.size ≤ g) t c) (hgr : w3.grownBy w4 vL.ownBlock)
 (hown : w4.ownsRow base 27 8 (.slice (some ⟨g, 0, none⟩) (acc.length + 1) cap) (acc.length + 1) (cs ++ zs)) (hg : w4.heap[g]? = some (.cells cur 27 (0, 0))) (hbg : base ≤ g)
 (hor : some g = vL.ownBlock ∨ g = w3.heap.size) (h2 : Two w4 W g q (.cells (putL cur (acc.length * 8) c.toList) 27 (0, 0)) (.cells (cellsV 4 false Num.zero [] (.slice (some ⟨g, 0, none⟩) (acc.length + 1) cap) noL) 27 (0, 0))) : StA base q (acc ++ [t]) W := by
 have hs := hk3.size; have hsz : w3.heap.size ≤ W.heap.size := by rw [h2.size]; exact hgr.size
 have same : ∀ k, base ≤ k → vL.ownBlock ≠ some k → k < w3.heap.size → W.heap[k]? = w3.heap[k]? := fun k hk hne hkl => by
  rw [h2.block k (by rintro rfl; rcases hor with h | h; exact hne h.symm; omega) (by omega)]; exact hgr.block k hkl (Ne.symm hne)
 refine ⟨_, cs ++ c.toList, h2.atQ, ?_, ?_⟩
 · rw [List.length_append]; exact ownsRow_put hown hg (by have := htl.length; omega) (by simpa using htv.size) h2
 · refine TL.append (htl.keep hsz (fun k hk hkl => ⟨⟨hk.1, ?_⟩, same k hk.1 hk.2 hkl⟩)) (htv.keep hsz (fun k hk hkl => ⟨⟨by omega, ?_⟩, same k (by omega) (fun e => by have := hlt k e; omega) hkl⟩))
   · simp only [Value.ownBlock, ne_eq, Option.some.injEq]; rintro rfl; rcases hor with h | h
     · exact hk.2 h.symm
     · omega
   · simp only [Value.ownBlock, ne_eq, Option.some.injEq]; rintro rfl; rcases hor with h | h
     · have := hlt g h.symm; omega
     · omega
abbrev zeroV : Array Value := cellsV 0 false Num.zero [] noL noL
section
variable {G0 G1 : World → World → Prop} {sp p B : Nat}
def specTV (h0 : ∀ w w', G0 w w' → KeptP p w w') (h1 : ∀ w w', G1 w w' → KeptP p w w') (hp : p < B) (t : Tree) (dead : Prop) : GrowS.Spec (GrowS.gS sp G0 G1) :=
 ⟨fun v => ∃ k b d s a1 n1 c1 a2 n2 c2, v = .agg (cellsV k b d s (.slice a1 n1 c1) (.slice a2 n2 c2)), fun v w => dead ∧ ∃ c, v = .agg c ∧ TV w (fun g => B ≤ g) t c, ⟨_, 0, false, Num.zero, [], none, 0, 0, none, 0, 0, rfl⟩,
   fun i v w w' ⟨hd, c, e, h⟩ hg => ⟨hd, c, e, h.kept (by unfold GrowS.gS at hg; split at hg; exact h1 _ _ hg; exact h0 _ _ hg) hp⟩⟩
def specOne (h0 : ∀ w w', G0 w w' → KeptP p w w') (h1 : ∀ w w', G1 w w' → KeptP p w w') (hp : p < B) (ty : TypeId) (c : Array Value) : GrowS.Spec (GrowS.gS sp G0 G1) :=
 ⟨fun v => ∃ g, v = .slice (some ⟨g, 0, none⟩) 1 1, fun v w => ∃ g, v = .slice (some ⟨g, 0, none⟩) 1 1 ∧ B ≤ g ∧ w.heap[g]? = some (.cells c ty (0, 0)), ⟨_, 0, rfl⟩,
   fun i v w w' ⟨g, e, hg, h⟩ hG => ⟨g, e, hg, by
    have hk : KeptP p w w' := by unfold GrowS.gS at hG; split at hG; exact h1 _ _ hG; exact h0 _ _ hG
    rw [hk.block g (Array.getElem?_eq_some_iff.1 h).1 (by omega)]; exact h⟩⟩
end
set_option maxHeartbeats 6400000 in
theorem array1_any (p : Nat) (v : Value) (xs : List UInt8) (B base q qp qd deep : Nat) (hpB : p < B) (hBq : B ≤ q) (w0 : World) (hB0 : w0.heap.size = B) (hbn : BytesN p w0 v xs) (hqp0 : q ≠ p) (hqpp : qp ≠ p) (hqdp : qd ≠ p) (hdp : deep < 64) (r : Nat → Nat → PR Tree)
 (hval : ∀ a n w, PS w p v xs a n → n ≤ 4096 → Calls Tryz.prog 94 #[.pointer (some ⟨p, 0, none⟩), .int .i64 (deep + 1 : Nat)] w (fun e w' => EndW p v xs w e w' (r a n)))
 (acc : List Tree) (a n : Nat) (w : World) (h : PS w p v xs a n) (hk0 : Kept B p w0 w) (hst : StA base q acc w) (hbs : base ≤ w.heap.size) (hlen : acc.length ≤ 65536) (hn4 : n ≤ 4096) (hqb : q < base) (bp : Box1 w qp 111 (.pointer (some ⟨p, 0, none⟩))) (bd : Box1 w qd 3 (.int .i64 deep)) :
 Calls Tryz.prog 156 #[.pointer (some ⟨q, 0, none⟩), .pointer (some ⟨qp, 0, none⟩), .pointer (some ⟨qd, 0, none⟩)] w (fun e w' =>
  match itemA r acc a n with
  | .ok acc' a' n' => e = .returned (.tuple #[]) ∧ PS w' p v xs a' n' ∧ StA base q acc' w' ∧ KeptQ base p q w w'
  | .err er b => e = .panicked (wrongV er b) ∧ KeptP p w w') := by
 subst hB0; have HBN := Hd hbn; have HK0 := Hd hk0; clear hbn hk0; obtain ⟨vL, cs, hv, hown, htl⟩ := hst; obtain ⟨vA, vC, hvL⟩ : ∃ a c, vL = .slice a acc.length c := by
  rcases hown.2 with ⟨e, h0⟩ | ⟨g, cap, cur, e, _⟩
  · exact ⟨none, 0, by rw [e, h0]⟩
  · exact ⟨_, _, e⟩
 subst hvL; have hpw : p < w.heap.size := h.1.cells.2.2.2.2.2.2; have hpb : p < base := by omega
 have hltr : ∀ k, (Value.slice vA acc.length vC).ownBlock = some k → k < w.heap.size := fun k hk => (hown.lt k hk).2; cases hr : r a n with
 | ok t a1 n1 =>
   have hres : itemA r acc a n = .ok (acc ++ [t]) a1 n1 := by unfold itemA; rw [hr]; rfl
   rw [hres]; have HP := Hd h; have HV := Hd hv; have HBP := Hd bp; have HBD := Hd bd; have HVAL := Hd hval; have HR := Hd hr; have HOWN := Hd hown; have HTL := Hd htl; have e0 : IntKind.i64.wrap ((deep : Int) + 1) = ((deep + 1 : Nat) : Int) := by rw [IntWalk.i64_in _ (by omega)]; omega
   clear h hv bp bd hval hr hres hown htl; go_enter Tryz.func156, Tryz.ntmps156
   go_upto_region 0 with fail; have h0 : ∀ w w', Ext w w' → KeptP p w w' := fun _ _ => KeptP.ofExt; have h1 : ∀ w1 w', (KeptP p w1 w' ∧ PS w' p v xs a1 n1) → KeptP p w1 w' := fun _ _ h => h.1
   refine GrowS.wp_region_restS (G0 := Ext) (G1 := fun w1 w' => KeptP p w1 w' ∧ PS w' p v xs a1 n1) (B0 := fun w' => Ext w w') (B1 := fun w' => KeptP p w w' ∧ PS w' p v xs a1 n1) (E := fun _ _ => False) (anc := fun _ => [])
    (I := fun j => if j = 5 then some (specTV h0 h1 hpw t True) else if j = 7 then some (specOne h0 h1 hpw 27 zeroV) else none) 5 8 #[true, true, true, true, true, true, true, true, false, false, false, false, false]
    (by kernel_rfl) (by kernel_rfl) (by kernel_rfl) (by kernel_rfl) (by kernel_rfl) (by kernel_rfl) ?_ ?_ ?_ ?_ ?_ ?_
   · exact fun w w' h hg => ext_trans h hg
   · exact fun w1 w' h hg => ⟨h.1.trans (KeptP.ofExt hg), h.2.ext hg⟩
   · exact fun w1 w' h hg => ⟨(KeptP.ofExt h).trans hg.1, hg.2⟩
   · exact fun _ _ _ _ h => h.elim
   · exact (ext_refl _).drew
   have HBK : Hid (∀ {k : Nat} w', GrowS.atS 5 (fun w' => Ext w w') (fun w' => KeptP p w w' ∧ PS w' p v xs a1 n1) k w' → KeptP p w w') := Hd (fun w' h => by
    unfold GrowS.atS at h; split at h
    · exact KeptP.ofExt h
    · rcases h with h | h
      · exact KeptP.ofExt h
      · exact h.1)
   simp only [List.take_succ_cons, List.take_zero, List.drop_succ_cons, List.drop_zero]; repeat
    (refine GrowS.Wk.step (fun K hK => ?_)
     first
     | (refine GrowS.step_read (by rfl) (by rfl) (fun w => ext_refl w) ?_
        apply Exists.intro; refine ⟨fun w hB hF => ?_, ?_⟩
        · replace hB := HBK.out w hB; have c0 := (HV.out.kept hB hqp0).cell 6; have f0 := (HV.out.kept hB hqp0).free 6; have c1 := (HBP.out.kept hB hqpp).cell; have f1 := (HBP.out.kept hB hqpp).free; have c2 := (HBD.out.kept hB hqdp).cell; have f2 := (HBD.out.kept hB hqdp).free; simp at c0; go_simp; try exact rfl
        go_simp; refine hK _ _ ?_; clear hK K)
     | (refine GrowS.step_off (by rfl) ?_
        go_simp; refine hK _ _ ?_; clear hK K))
   refine GrowS.Wk.step (fun K hK => ?_); refine GrowS.step_rel (by rfl) (by rfl) (fun w' hB hF => ?_) (fun v hv => ?_)
   · replace hB : Ext w w' := hB; go_simp; refine GrowS.relUpon_enter ((HVAL.out a n w' (HP.out.ext hB) hn4).mono ?_); intro e w'' hend; rw [HR.out] at hend; obtain ⟨c, rfl, htv, hps, hk⟩ := hend; obtain ⟨k, b, d, s, la, ln, lc, ma, mn, mc, rfl⟩ := htv.eight
     exact .inl ⟨_, rfl, ⟨hk, hps⟩, ⟨_, _, _, _, _, _, _, _, _, _, rfl⟩, trivial, _, rfl, htv.keep (Nat.le_refl _) (fun g hg _ => ⟨Nat.le_trans hB.size hg, rfl⟩)⟩
   obtain ⟨k, b, d, s, la, ln, lc, ma, mn, mc, rfl⟩ := hv; go_simp; refine hK _ _ ?_; clear hK K; repeat
    (refine GrowS.Wk.step (fun K hK => ?_)
     first
     | (refine GrowS.step_read (by rfl) (by rfl) (fun w => ext_refl w) ?_
        apply Exists.intro; refine ⟨fun w hB hF => ?_, ?_⟩
        · replace hB := HBK.out w hB; skip
          go_simp; try exact rfl
        go_simp; refine hK _ _ ?_; clear hK K)
     | (refine GrowS.step_off (by rfl) ?_
        go_simp; refine hK _ _ ?_; clear hK K))
   refine GrowS.Wk.step (fun K hK => ?_); refine GrowS.step_rel (by rfl) (by rfl) (fun w' hB hF => ?_) (fun v hv => ?_)
   · replace hB := HBK.out w' hB; go_simp; exact GrowS.relUpon_value ((ext_refl w').alloc (Nat.le_refl _) _) ⟨_, rfl⟩ ⟨_, rfl, hB.size, heap_alloc_new _ _⟩
   obtain ⟨gn, rfl⟩ := hv; go_simp; refine hK _ _ ?_; clear hK K; refine GrowS.Wk.nil ?_; intro w3 hB hF; obtain ⟨_, c, ec, htv⟩ : True ∧ ∃ c, Value.agg (cellsV k b d s (.slice la ln lc) (.slice ma mn mc)) = .agg c ∧ TV w3 (fun g => w.heap.size ≤ g) t c := hF 5; obtain ⟨gn', eg, hgn, hnew⟩ := hF 7; simp only [Value.agg.injEq] at ec; subst ec
   simp only [Value.slice.injEq, Option.some.injEq, Addr.mk.injEq, and_true] at eg; subst eg; obtain ⟨hk3, hps3⟩ := hB; clear hF HBK h0 h1; have hown3 := ownsRow_kept HOWN.out hk3 hpb; show wpAny _ _ _ _ (4 + 1) _ _ _; refine wpAny_one 8 (by kernel_rfl) ?_
   refine wpOp_append rfl (by rfl) _ _ _ _ rfl base 27 _ _ 8 112 (by kernel_rfl) (by rfl) (by rfl) (by rfl) (by kernel_rfl) (by rfl) (by decide) _ acc.length cs (by rfl) hown3 _ 1 zeroV.toList (by rfl) (src_one (e' := 27) (by kernel_rfl) hnew (by rfl) (by simp [Value.oneCell'])) (by simp only [maxLen]; omega) (by omega) (Nat.le_trans hbs hk3.size) ?_; intro v' w4 hown4 hgr hor; have HO4 := Hd hown4
   obtain ⟨hl4, hrow⟩ := hown4; rcases hrow with ⟨_, h0⟩ | ⟨g, cap, cur, rfl, hbg, hg, hnc, hcm, hcs, htk⟩
   · exact absurd h0 (by omega)
   have hqg : q ≠ g := by omega
   have hgq : g ≠ q := by omega
   have hll : (acc.length : Int) < (acc.length : Int) + 1 := by omega
   have hv3 := HV.out.kept hk3 hqp0; have hv4 : VAt w4 q (cellsV 4 false Num.zero [] (.slice vA acc.length vC) noL) := by
    unfold VAt; rw [hgr.block q hv3.lt (fun e => by have := (HOWN.out.lt q e.symm).1; omega)]; exact hv3
   have c0 := hv4.cell 6; have f0 := hv4.free 6; simp at c0; have hor2 : some g = (Value.slice vA acc.length vC).ownBlock ∨ g = w3.heap.size := by
    rcases hor with h | h
    · exact .inl h
    · exact .inr (by simpa [Value.ownBlock] using h)
   have htl3 := HTL.out.keep hk3.size (A' := fun g => base ≤ g ∧ (Value.slice vA acc.length vC).ownBlock ≠ some g) (fun g hg hlt => ⟨hg, hk3.block g hlt (by have := hg.1; omega)⟩); have hcl := HTL.out.length
   have HEND : Hid (∀ W, Two w4 W g q (.cells (putL cur (acc.length * 8) (cellsV k b d s (.slice la ln lc) (.slice ma mn mc)).toList) 27 (0, 0)) (.cells ((cellsV 4 false Num.zero [] (.slice vA acc.length vC) noL).setIfInBounds 6 (.slice (some ⟨g, 0, none⟩) (acc.length + 1) cap)) 27 (0, 0)) → PS W p v xs a1 n1 ∧ StA base q (acc ++ [t]) W ∧ KeptQ base p q w W) := Hd (fun W h2 => by
    have hkQ : KeptQ base p q w W := ⟨h2.os.trans (hgr.os.trans hk3.os), h2.tape.trans (hgr.tape.trans hk3.tape), h2.output.trans (hgr.output.trans hk3.output), Nat.le_trans hk3.size (Nat.le_trans hgr.size (Nat.le_of_eq h2.size.symm)), fun k hk hkp hkq => by
     rw [h2.block k (by omega) hkq, hgr.block k (by have := hk3.size; omega) (fun e => by have := (HOWN.out.lt k e.symm).1; omega)]; exact hk3.block k (by omega) hkp⟩
    have hkB : Kept w0.heap.size p w W := hkQ.kept (by omega) hBq; refine ⟨PS.through hps3 hgr (fun e => by have := (HOWN.out.lt p e.symm).1; omega) h2 (by omega) (by omega) HBN.out (HK0.out.trans hkB), StA.push hbs hk3 hqb hltr htl3 htv hgr HO4.out hg hbg hor2 h2, hkQ⟩)
   have hrow8 : ∀ i, (hi : i < 8) → w4.cell? ⟨g, acc.length * 8 + i, none⟩ = some (zeroV[i]'hi) := fun i hi => by
    have h1 : (cur.toList.take ((acc.length + 1) * 8))[acc.length * 8 + i]? = some (zeroV[i]'hi) := by
     rw [htk, List.getElem?_append_right (by omega), show acc.length * 8 + i - cs.length = i by omega]; simp [hi]
    rw [List.getElem?_take, if_pos (by omega), Array.getElem?_toList] at h1; rw [cell_of_cells hg]; exact h1
   have g0 := hrow8 0 (by decide); have g1 := hrow8 1 (by decide); have g2 := hrow8 2 (by decide); have g3 := hrow8 3 (by decide); have g4 := hrow8 4 (by decide); have g5 := hrow8 5 (by decide); have g6 := hrow8 6 (by decide); have g7 := hrow8 7 (by decide); clear hrow8; simp at g0 g1 g2 g3 g4 g5 g6 g7; have fr : ∀ i, w4.frozen? ⟨g, i, none⟩ = false := fun i => free_of_cells hg
   have z0 := fr (acc.length * 8); have z1 := fr (acc.length * 8 + 1); have z2 := fr (acc.length * 8 + 2); have z3 := fr (acc.length * 8 + 3); have z4 := fr (acc.length * 8 + 4); have z5 := fr (acc.length * 8 + 5); have z6 := fr (acc.length * 8 + 6); have z7 := fr (acc.length * 8 + 7); clear fr
   have HA := HEND.out _ (two_ofA (k := acc.length * 8) (i := 6) (us := (cellsV k b d s (.slice la ln lc) (.slice ma mn mc)).toList) (u := .slice (some ⟨g, 0, none⟩) (acc.length + 1) cap) hg hv4 hgq); have HB := HEND.out _ (two_ofB (k := acc.length * 8) (i := 6) (us := (cellsV k b d s (.slice la ln lc) (.slice ma mn mc)).toList) (u := .slice (some ⟨g, 0, none⟩) (acc.length + 1) cap) hg hv4 hgq)
   simp only [storeL, Nat.add_assoc, Nat.reduceAdd] at HA HB; clear HEND; replace HA := Hd HA; replace HB := Hd HB; any_goals (first
    | refine wpAny_two 9 11 (by decide +kernel) ?_ ?_
    | refine wpAny_two 10 11 (by decide +kernel) ?_ ?_
    | refine wpAny_two 9 12 (by decide +kernel) ?_ ?_
    | refine wpAny_two 10 12 (by decide +kernel) ?_ ?_
    | refine wpAny_one 11 (by decide +kernel) ?_
    | refine wpAny_one 9 (by decide +kernel) ?_
    | refine wpAny_one 12 (by decide +kernel) ?_
    | refine wpAny_one 10 (by decide +kernel) ?_)
   all_goals
    refine wpOp_now rfl (by rfl) ?_; unfold Oper.wp; go_simp
   any_goals (first
    | refine wpAny_two 9 11 (by decide +kernel) ?_ ?_
    | refine wpAny_two 10 11 (by decide +kernel) ?_ ?_
    | refine wpAny_two 9 12 (by decide +kernel) ?_ ?_
    | refine wpAny_two 10 12 (by decide +kernel) ?_ ?_
    | refine wpAny_one 11 (by decide +kernel) ?_
    | refine wpAny_one 9 (by decide +kernel) ?_
    | refine wpAny_one 12 (by decide +kernel) ?_
    | refine wpAny_one 10 (by decide +kernel) ?_)
   all_goals
    refine wpOp_now rfl (by rfl) ?_; unfold Oper.wp; go_simp
   any_goals (first
    | refine wpAny_two 9 11 (by decide +kernel) ?_ ?_
    | refine wpAny_two 10 11 (by decide +kernel) ?_ ?_
    | refine wpAny_two 9 12 (by decide +kernel) ?_ ?_
    | refine wpAny_two 10 12 (by decide +kernel) ?_ ?_
    | refine wpAny_one 11 (by decide +kernel) ?_
    | refine wpAny_one 9 (by decide +kernel) ?_
    | refine wpAny_one 12 (by decide +kernel) ?_
    | refine wpAny_one 10 (by decide +kernel) ?_)
   all_goals
    refine wpOp_now rfl (by rfl) ?_; unfold Oper.wp; go_simp
   any_goals (first
    | refine wpAny_two 9 11 (by decide +kernel) ?_ ?_
    | refine wpAny_two 10 11 (by decide +kernel) ?_ ?_
    | refine wpAny_two 9 12 (by decide +kernel) ?_ ?_
    | refine wpAny_two 10 12 (by decide +kernel) ?_ ?_
    | refine wpAny_one 11 (by decide +kernel) ?_
    | refine wpAny_one 9 (by decide +kernel) ?_
    | refine wpAny_one 12 (by decide +kernel) ?_
    | refine wpAny_one 10 (by decide +kernel) ?_)
   all_goals
    refine wpOp_now rfl (by rfl) ?_; unfold Oper.wp; go_simp
   all_goals refine ⟨by decide +kernel, ?_⟩
   all_goals go_end0
   all_goals refine ⟨rfl, ?_⟩
   all_goals first
    | with_reducible exact HA.out
    | with_reducible exact HB.out
 | err er bb =>
   have hres : itemA r acc a n = .err er bb := by unfold itemA; rw [hr]; rfl
   rw [hres]; have HP := Hd h; have HV := Hd hv; have HBP := Hd bp; have HBD := Hd bd; have HVAL := Hd hval; have HR := Hd hr; have HOWN := Hd hown; have HTL := Hd htl; have e0 : IntKind.i64.wrap ((deep : Int) + 1) = ((deep + 1 : Nat) : Int) := by rw [IntWalk.i64_in _ (by omega)]; omega
   clear h hv bp bd hval hr hres hown htl; go_enter Tryz.func156, Tryz.ntmps156
   go_upto_region 0 with fail; have h0 : ∀ w w', Ext w w' → KeptP p w w' := fun _ _ => KeptP.ofExt; have h1 : ∀ w1 w', KeptP p w1 w' → KeptP p w1 w' := fun _ _ h => h; refine GrowS.wp_region_restS (G0 := Ext) (G1 := fun w1 w' => KeptP p w1 w') (B0 := fun w' => Ext w w') (B1 := fun w' => KeptP p w w') (E := fun ch w' => ch = wrongV er bb ∧ KeptP p w w') (anc := fun _ => [])
    (I := fun j => if j = 5 then some (specTV h0 h1 hpw tNull False) else if j = 7 then some (specOne h0 h1 hpw 27 zeroV) else none) 5 8 #[true, true, true, true, true, true, true, true, false, false, false, false, false]
    (by kernel_rfl) (by kernel_rfl) (by kernel_rfl) (by kernel_rfl) (by kernel_rfl) (by kernel_rfl) ?_ ?_ ?_ ?_ ?_ ?_
   · exact fun w w' h hg => ext_trans h hg
   · exact fun w1 w' h hg => h.trans (KeptP.ofExt hg)
   · exact fun w1 w' h hg => (KeptP.ofExt h).trans hg
   · rintro ch a8 w8 hd8 ⟨rfl, hk8⟩; exact ⟨hd8, rfl, hk8⟩
   · exact (ext_refl _).drew
   have HBK : Hid (∀ {k : Nat} w', GrowS.atS 5 (fun w' => Ext w w') (fun w' => KeptP p w w') k w' → KeptP p w w') := Hd (fun w' h => by
    unfold GrowS.atS at h; split at h
    · exact KeptP.ofExt h
    · rcases h with h | h
      · exact KeptP.ofExt h
      · exact h)
   simp only [List.take_succ_cons, List.take_zero, List.drop_succ_cons, List.drop_zero]; repeat
    (refine GrowS.Wk.step (fun K hK => ?_)
     first
     | (refine GrowS.step_read (by rfl) (by rfl) (fun w => ext_refl w) ?_
        apply Exists.intro; refine ⟨fun w hB hF => ?_, ?_⟩
        · replace hB := HBK.out w hB; have c0 := (HV.out.kept hB hqp0).cell 6; have f0 := (HV.out.kept hB hqp0).free 6; have c1 := (HBP.out.kept hB hqpp).cell; have f1 := (HBP.out.kept hB hqpp).free; have c2 := (HBD.out.kept hB hqdp).cell; have f2 := (HBD.out.kept hB hqdp).free; simp at c0; go_simp; try exact rfl
        go_simp; refine hK _ _ ?_; clear hK K)
     | (refine GrowS.step_off (by rfl) ?_
        go_simp; refine hK _ _ ?_; clear hK K))
   refine GrowS.Wk.step (fun K hK => ?_); refine GrowS.step_rel (by rfl) (by rfl) (fun w' hB hF => ?_) (fun v hv => ?_)
   · replace hB : Ext w w' := hB; go_simp; refine GrowS.relUpon_enter ((HVAL.out a n w' (HP.out.ext hB) hn4).mono ?_); intro e w'' hend; rw [HR.out] at hend; obtain ⟨rfl, hk⟩ := hend; exact .inr ⟨_, rfl, rfl, (KeptP.ofExt hB).trans hk⟩
   obtain ⟨k, b, d, s, la, ln, lc, ma, mn, mc, rfl⟩ := hv; go_simp; refine hK _ _ ?_; clear hK K; repeat
    (refine GrowS.Wk.step (fun K hK => ?_)
     first
     | (refine GrowS.step_read (by rfl) (by rfl) (fun w => ext_refl w) ?_
        apply Exists.intro; refine ⟨fun w hB hF => ?_, ?_⟩
        · replace hB := HBK.out w hB; skip
          go_simp; try exact rfl
        go_simp; refine hK _ _ ?_; clear hK K)
     | (refine GrowS.step_off (by rfl) ?_
        go_simp; refine hK _ _ ?_; clear hK K))
   refine GrowS.Wk.step (fun K hK => ?_); refine GrowS.step_rel (by rfl) (by rfl) (fun w' hB hF => ?_) (fun v hv => ?_)
   · replace hB := HBK.out w' hB; go_simp; exact GrowS.relUpon_value ((ext_refl w').alloc (Nat.le_refl _) _) ⟨_, rfl⟩ ⟨_, rfl, hB.size, heap_alloc_new _ _⟩
   obtain ⟨gn, rfl⟩ := hv; go_simp; refine hK _ _ ?_; clear hK K; refine GrowS.Wk.nil ?_; intro w3 hB hF; exact (hF 5 : False ∧ _).1.elim
end Go.Proofs.YtjapbjmeoaagmaaGreatDoor
