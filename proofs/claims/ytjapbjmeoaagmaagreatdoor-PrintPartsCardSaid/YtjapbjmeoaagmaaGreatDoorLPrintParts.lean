/- PrintParts: an array's text is its elements' between brackets; so an object's of members whose keys rise: whatever the arguments, the law returns true and what came in reads as it did. No condition. -/
import Derived.Test.YtjapbjmeoaagmaaGreatDoorRows
import Derived.Test.YtjapbjmeoaagmaaGreatDoorCards
import Derived.Test.YtjapbjmeoaagmaaGreatDoorTie
import Derived.Test.YtjapbjmeoaagmaaGreatDoorQPrintU3
import Derived.Test.YtjapbjmeoaagmaaGreatDoorQPrintU2
import Derived.ProofKit
import Derived.SizedLaws
import Derived.OpenShut
import Derived.Lay
import Derived.LaidMore
import Derived.SevenTiedAt
import Derived.IntWalk
set_option linter.unusedVariables false
set_option linter.unusedSimpArgs false
set_option maxRecDepth 100000
namespace Go.Proofs.YtjapbjmeoaagmaaGreatDoor.printParts
open Go.ChangeShapes Go.WideShapes Go.ChangeAt Go.RowKit Go.Mem Orange
-- the box of an argument $1: its TV: $2, named by $3 (k b d ..), the world $4 -> $5; leaves HC$3, HTV$3
-- a call's world: hx : Ext w w': carries the boxes ($2: their names) and HE; new name of the world: $1

theorem row_new {w : World} {g z n : Nat} {cs : List Value} {e : TypeId} {C : Array Value} (hg : w.heap[g]? = some (.cells C e (0, 0))) (hC : C.toList = cs) (hn : cs.length = n * z) (hm : n ≤ 1000) : RowAt w (fun _ => True) z (.slice (some ⟨g, 0, none⟩) n n) n cs := by
  refine ⟨hn, _, n, rfl, Nat.le_refl _, by omega, fun _ => ⟨g, 0, rfl, trivial, (Array.getElem?_eq_some_iff.1 hg).1, fun i hi => ?_⟩⟩
  rw [Nat.zero_add, cell_of_cells hg]
  have : cs[i]? = some cs[i] := by simp [hi]
  rw [← this, ← hC]; simp
theorem tv_two {w : World} {g : Nat} {a b : Tree} {ca cb C : Array Value} {e : TypeId} (hg : w.heap[g]? = some (.cells C e (0, 0))) (hC : C.toList = ca.toList ++ cb.toList) (ha : TV w (fun _ => True) a ca) (hb : TV w (fun _ => True) b cb) :
    TV w (fun _ => True) (tArr [a, b]) (cellsV 4 false Num.zero [] (.slice (some ⟨g, 0, none⟩) 2 2) noL) := by
  have htl : TL w (fun _ => True) [a, b] (ca.toList ++ cb.toList) := by
    have := TL.cons ha (TL.cons hb TL.nil)
    simpa using this
  exact TV.mk htl (row_new hg hC (by rw [htl.length]; rfl) (by omega)) .nil (RowAt.nil _ _ _ _ _ (by omega))
theorem tm_two {w : World} {g : Nat} {k1 k2 : List UInt8} {a b : Tree} {ca cb C : Array Value} {e : TypeId} (hg : w.heap[g]? = some (.cells C e (0, 0))) (hC : C.toList = (.string ⟨k1.toArray⟩ :: ca.toList) ++ (.string ⟨k2.toArray⟩ :: cb.toList)) (ha : TV w (fun _ => True) a ca) (hb : TV w (fun _ => True) b cb) :
    TV w (fun _ => True) (tObj [(k1, a), (k2, b)]) (cellsV 5 false Num.zero [] noL (.slice (some ⟨g, 0, none⟩) 2 2)) := by
  have htm : TM w (fun _ => True) [(k1, a), (k2, b)] ((.string ⟨k1.toArray⟩ :: ca.toList) ++ (.string ⟨k2.toArray⟩ :: cb.toList)) := by
    have := TM.cons (k := k1) ha (TM.cons (k := k2) hb TM.nil)
    simpa using this
  exact TV.mk .nil (RowAt.nil _ _ _ _ _ (by omega)) htm (row_new hg hC (by rw [htm.length]; rfl) (by omega))
theorem printT_len (t : Tree) : (printT t).1.length ≤ 65536 := by
  by_cases h : (printT t).2 = 0
  · obtain ⟨_, e1, e2⟩ := printT_zero h
    rw [e1]; exact e2
  · rw [(printT_err h).1]; simp
set_option maxHeartbeats 12800000 in
theorem walk (t : Tree) (c : Array Value) (u : Tree) (c' : Array Value) (w : World) (hT : Tab w) (ht : TV w (fun _ => True) t c) (hok : okT t) (hu : TV w (fun _ => True) u c') (hok' : okT u) :
    Calls Tryz.prog 8 #[.agg c, .agg c'] w fun e w' => e = .returned (.bool true) ∧ Ext w w' := by
  have HTB := Lib.hid hT
  have HOK := Lib.hid hok
  have HOK' := Lib.hid hok'
  clear hT hok hok'
  obtain ⟨kA, bA, dA, sA, laA, lnA, lcA, maA, mnA, mcA, rfl⟩ := ht.eight
  obtain ⟨wA, ewA⟩ : ∃ W, w.alloc (.cells (cellsV kA bA dA sA (.slice laA lnA lcA) (.slice maA mnA mcA)) 27) = W := ⟨_, rfl⟩
  have nwA : wA.heap[w.heap.size]? = some (.cells (cellsV kA bA dA sA (.slice laA lnA lcA) (.slice maA mnA mcA)) 27) := by rw [← ewA]; exact heap_alloc_new _ _
  have xwA : Ext w wA := by rw [← ewA]; exact (ext_refl _).alloc (Nat.le_refl _) _
  have swA : wA.heap.size = w.heap.size + 1 := by rw [← ewA]; simp
  have HCA : Hid (VAt wA w.heap.size (cellsV kA bA dA sA (.slice laA lnA lcA) (.slice maA mnA mcA))) := Lib.hid nwA
  have HTVA := Lib.hid (ht.keep (w' := wA) (A' := fun _ => True) xwA.size (fun g _ hlt => ⟨trivial, xwA.block g hlt⟩))
  have EA := Lib.hid ewA
  clear nwA ewA
  have HU0 := Lib.hid (hu.keep (w' := wA) (A' := fun _ => True) xwA.size (fun g _ hlt => ⟨trivial, xwA.block g hlt⟩))
  clear ht hu
  obtain ⟨kB, bB, dB, sB, laB, lnB, lcB, maB, mnB, mcB, rfl⟩ := HU0.out.eight
  obtain ⟨wB, ewB⟩ : ∃ W, wA.alloc (.cells (cellsV kB bB dB sB (.slice laB lnB lcB) (.slice maB mnB mcB)) 27) = W := ⟨_, rfl⟩
  have nwB : wB.heap[wA.heap.size]? = some (.cells (cellsV kB bB dB sB (.slice laB lnB lcB) (.slice maB mnB mcB)) 27) := by rw [← ewB]; exact heap_alloc_new _ _
  have xwB : Ext wA wB := by rw [← ewB]; exact (ext_refl _).alloc (Nat.le_refl _) _
  have swB : wB.heap.size = wA.heap.size + 1 := by rw [← ewB]; simp
  have HCB : Hid (VAt wB wA.heap.size (cellsV kB bB dB sB (.slice laB lnB lcB) (.slice maB mnB mcB))) := Lib.hid nwB
  have HTVB := Lib.hid (HU0.out.keep (w' := wB) (A' := fun _ => True) xwB.size (fun g _ hlt => ⟨trivial, xwB.block g hlt⟩))
  have EB := Lib.hid ewB
  clear nwB ewB
  rw [swA] at HCB
  replace HCA := Lib.hid (HCA.out.ext xwB)
  replace HTVA := Lib.hid (HTVA.out.keep (A' := fun _ => True) xwB.size (fun g _ hlt => ⟨trivial, xwB.block g hlt⟩))
  have HE := Lib.hid (ext_trans xwA xwB)
  clear HU0 xwA xwB swA swB
  simp only [cellsV] at HCA EA HTVA HCB EB HTVB ⊢
  go_enter Tryz.func8, Tryz.ntmps8
  go_upto_region 1 with fail
  rw [EA.out, EB.out]
  obtain ⟨S, hS⟩ : ∃ S, w.heap.size = S := ⟨_, rfl⟩
  rw [hS] at HCA HCB ⊢
  clear hS EA EB
  go_wp2_with fail
  refine (pawake5 wB (HTB.out.ext HE.out)).mono ?_
  rintro e w1 ⟨rfl, hx1⟩
  replace HCA := Lib.hid (HCA.out.ext hx1)
  replace HTVA := Lib.hid (HTVA.out.keep (A' := fun _ => True) hx1.size (fun g _ hlt => ⟨trivial, hx1.block g hlt⟩))
  replace HCB := Lib.hid (HCB.out.ext hx1)
  replace HTVB := Lib.hid (HTVB.out.keep (A' := fun _ => True) hx1.size (fun g _ hlt => ⟨trivial, hx1.block g hlt⟩))
  replace HE := Lib.hid (ext_trans HE.out hx1)
  clear hx1
  have c0 := HCA.out.cell 0; have c1 := HCA.out.cell 1; have c2 := HCA.out.cell 2; have c3 := HCA.out.cell 3; have c4 := HCA.out.cell 4; have c5 := HCA.out.cell 5; have c6 := HCA.out.cell 6; have c7 := HCA.out.cell 7
  simp at c0 c1 c2 c3 c4 c5 c6 c7
  go_wp2_with fail
  refine (few_any t _ _ 1500 w1 HOK.out (by omega) (by omega) HTVA.out).mono ?_
  rintro e w2 ⟨rfl, hx2⟩
  replace HCA := Lib.hid (HCA.out.ext hx2)
  replace HTVA := Lib.hid (HTVA.out.keep (A' := fun _ => True) hx2.size (fun g _ hlt => ⟨trivial, hx2.block g hlt⟩))
  replace HCB := Lib.hid (HCB.out.ext hx2)
  replace HTVB := Lib.hid (HTVB.out.keep (A' := fun _ => True) hx2.size (fun g _ hlt => ⟨trivial, hx2.block g hlt⟩))
  replace HE := Lib.hid (ext_trans HE.out hx2)
  clear hx2
  clear c0 c1 c2 c3 c4 c5 c6 c7
  by_cases hf : 0 ≤ fewT 0 1500 t
  · have hwt : weightT t ≤ 1500 := by have := fewT_weight t 0 1500 hf; omega
    rw [decide_eq_true hf]
    clear hf
    have d0 := HCB.out.cell 0; have d1 := HCB.out.cell 1; have d2 := HCB.out.cell 2; have d3 := HCB.out.cell 3; have d4 := HCB.out.cell 4; have d5 := HCB.out.cell 5; have d6 := HCB.out.cell 6; have d7 := HCB.out.cell 7
    simp at d0 d1 d2 d3 d4 d5 d6 d7
    go_wp2_with fail
    refine (few_any u _ _ 1500 w2 HOK'.out (by omega) (by omega) HTVB.out).mono ?_
    rintro e w3 ⟨rfl, hx3⟩
    replace HCA := Lib.hid (HCA.out.ext hx3)
    replace HTVA := Lib.hid (HTVA.out.keep (A' := fun _ => True) hx3.size (fun g _ hlt => ⟨trivial, hx3.block g hlt⟩))
    replace HCB := Lib.hid (HCB.out.ext hx3)
    replace HTVB := Lib.hid (HTVB.out.keep (A' := fun _ => True) hx3.size (fun g _ hlt => ⟨trivial, hx3.block g hlt⟩))
    replace HE := Lib.hid (ext_trans HE.out hx3)
    clear hx3
    clear d0 d1 d2 d3 d4 d5 d6 d7
    by_cases hf : 0 ≤ fewT 0 1500 u
    · have hwu : weightT u ≤ 1500 := by have := fewT_weight u 0 1500 hf; omega
      rw [decide_eq_true hf]
      clear hf
      have c0 := HCA.out.cell 0; have c1 := HCA.out.cell 1; have c2 := HCA.out.cell 2; have c3 := HCA.out.cell 3; have c4 := HCA.out.cell 4; have c5 := HCA.out.cell 5; have c6 := HCA.out.cell 6; have c7 := HCA.out.cell 7
      simp at c0 c1 c2 c3 c4 c5 c6 c7
      go_wp2_with fail
      refine (printV_any t _ _ w3 HTVA.out (by omega) (HTB.out.ext HE.out)).mono ?_
      rintro e w4 ⟨rfl, hx4⟩
      replace HCA := Lib.hid (HCA.out.ext hx4)
      replace HTVA := Lib.hid (HTVA.out.keep (A' := fun _ => True) hx4.size (fun g _ hlt => ⟨trivial, hx4.block g hlt⟩))
      replace HCB := Lib.hid (HCB.out.ext hx4)
      replace HTVB := Lib.hid (HTVB.out.keep (A' := fun _ => True) hx4.size (fun g _ hlt => ⟨trivial, hx4.block g hlt⟩))
      replace HE := Lib.hid (ext_trans HE.out hx4)
      clear hx4
      clear c0 c1 c2 c3 c4 c5 c6 c7
      have d0 := HCB.out.cell 0; have d1 := HCB.out.cell 1; have d2 := HCB.out.cell 2; have d3 := HCB.out.cell 3; have d4 := HCB.out.cell 4; have d5 := HCB.out.cell 5; have d6 := HCB.out.cell 6; have d7 := HCB.out.cell 7
      simp at d0 d1 d2 d3 d4 d5 d6 d7
      go_wp2_with fail
      refine (printV_any u _ _ w4 HTVB.out (by omega) (HTB.out.ext HE.out)).mono ?_
      rintro e w5 ⟨rfl, hx5⟩
      replace HCA := Lib.hid (HCA.out.ext hx5)
      replace HTVA := Lib.hid (HTVA.out.keep (A' := fun _ => True) hx5.size (fun g _ hlt => ⟨trivial, hx5.block g hlt⟩))
      replace HCB := Lib.hid (HCB.out.ext hx5)
      replace HTVB := Lib.hid (HTVB.out.keep (A' := fun _ => True) hx5.size (fun g _ hlt => ⟨trivial, hx5.block g hlt⟩))
      replace HE := Lib.hid (ext_trans HE.out hx5)
      clear hx5
      clear d0 d1 d2 d3 d4 d5 d6 d7
      obtain ⟨hp1, hp2⟩ := parts_law hwt hwu
      have hwA : weightT (tArr [t, u]) ≤ 1000000 := by
        rw [tArr, weightT, weightL, weightL, weightL, weightM]; simp [Num.zero]; omega
      have hwO : weightT (tObj [(keyQ, u), (keyP, t)]) ≤ 1000000 := by
        rw [tObj, weightT, weightM, weightM, weightM, weightL]; simp [Num.zero, keyP, keyQ]; omega
      have HP1 := Lib.hid hp1
      have HP2 := Lib.hid hp2
      clear hp1 hp2
      have c0 := HCA.out.cell 0; have c1 := HCA.out.cell 1; have c2 := HCA.out.cell 2; have c3 := HCA.out.cell 3; have c4 := HCA.out.cell 4; have c5 := HCA.out.cell 5; have c6 := HCA.out.cell 6; have c7 := HCA.out.cell 7
      simp at c0 c1 c2 c3 c4 c5 c6 c7
      have d0 := HCB.out.cell 0; have d1 := HCB.out.cell 1; have d2 := HCB.out.cell 2; have d3 := HCB.out.cell 3; have d4 := HCB.out.cell 4; have d5 := HCB.out.cell 5; have d6 := HCB.out.cell 6; have d7 := HCB.out.cell 7
      simp at d0 d1 d2 d3 d4 d5 d6 d7
      have hxA : Ext w5 (w5.alloc (.cells #[.int .i64 kA, .bool bA, .bool dA.neg, .string ⟨dA.digits.toArray⟩, .int .i64 dA.exp, .string ⟨sA.toArray⟩, .slice laA lnA lcA, .slice maA mnA mcA, .int .i64 kB, .bool bB, .bool dB.neg, .string ⟨dB.digits.toArray⟩, .int .i64 dB.exp, .string ⟨sB.toArray⟩, .slice laB lnB lcB, .slice maB mnB mcB] 27)) := (ext_refl _).alloc (Nat.le_refl _) _
      have hgA := heap_alloc_new w5 (.cells #[.int .i64 kA, .bool bA, .bool dA.neg, .string ⟨dA.digits.toArray⟩, .int .i64 dA.exp, .string ⟨sA.toArray⟩, .slice laA lnA lcA, .slice maA mnA mcA, .int .i64 kB, .bool bB, .bool dB.neg, .string ⟨dB.digits.toArray⟩, .int .i64 dB.exp, .string ⟨sB.toArray⟩, .slice laB lnB lcB, .slice maB mnB mcB] 27 (0, 0))
      have HTA := Lib.hid (tv_two hgA rfl (HTVA.out.keep (A' := fun _ => True) hxA.size (fun g _ hlt => ⟨trivial, hxA.block g hlt⟩)) (HTVB.out.keep (A' := fun _ => True) hxA.size (fun g _ hlt => ⟨trivial, hxA.block g hlt⟩)))
      have HXA := Lib.hid hxA
      clear hxA hgA
      go_wp2_with fail
      refine (printV_any (tArr [t, u]) _ _ _ HTA.out hwA (HTB.out.ext (ext_trans HE.out HXA.out))).mono ?_
      rintro e w6 ⟨rfl, hx6⟩
      have hx6' := ext_trans HXA.out hx6
      replace HCA := Lib.hid (HCA.out.ext hx6')
      replace HTVA := Lib.hid (HTVA.out.keep (A' := fun _ => True) hx6'.size (fun g _ hlt => ⟨trivial, hx6'.block g hlt⟩))
      replace HCB := Lib.hid (HCB.out.ext hx6')
      replace HTVB := Lib.hid (HTVB.out.keep (A' := fun _ => True) hx6'.size (fun g _ hlt => ⟨trivial, hx6'.block g hlt⟩))
      replace HE := Lib.hid (ext_trans HE.out hx6')
      clear hx6' hx6 HTA HXA
      clear c0 c1 c2 c3 c4 c5 c6 c7
      clear d0 d1 d2 d3 d4 d5 d6 d7
      have hxA : Ext w6 (w6.alloc (.cells #[.string ⟨#[113]⟩, .int .i64 kB, .bool bB, .bool dB.neg, .string ⟨dB.digits.toArray⟩, .int .i64 dB.exp, .string ⟨sB.toArray⟩, .slice laB lnB lcB, .slice maB mnB mcB, .string ⟨#[112]⟩, .int .i64 kA, .bool bA, .bool dA.neg, .string ⟨dA.digits.toArray⟩, .int .i64 dA.exp, .string ⟨sA.toArray⟩, .slice laA lnA lcA, .slice maA mnA mcA] 43)) := (ext_refl _).alloc (Nat.le_refl _) _
      have hgA := heap_alloc_new w6 (.cells #[.string ⟨#[113]⟩, .int .i64 kB, .bool bB, .bool dB.neg, .string ⟨dB.digits.toArray⟩, .int .i64 dB.exp, .string ⟨sB.toArray⟩, .slice laB lnB lcB, .slice maB mnB mcB, .string ⟨#[112]⟩, .int .i64 kA, .bool bA, .bool dA.neg, .string ⟨dA.digits.toArray⟩, .int .i64 dA.exp, .string ⟨sA.toArray⟩, .slice laA lnA lcA, .slice maA mnA mcA] 43 (0, 0))
      have HTA := Lib.hid (tm_two (k1 := keyQ) (k2 := keyP) hgA rfl (HTVB.out.keep (A' := fun _ => True) hxA.size (fun g _ hlt => ⟨trivial, hxA.block g hlt⟩)) (HTVA.out.keep (A' := fun _ => True) hxA.size (fun g _ hlt => ⟨trivial, hxA.block g hlt⟩)))
      have HXA := Lib.hid hxA
      clear hxA hgA
      have c0 := HCA.out.cell 0; have c1 := HCA.out.cell 1; have c2 := HCA.out.cell 2; have c3 := HCA.out.cell 3; have c4 := HCA.out.cell 4; have c5 := HCA.out.cell 5; have c6 := HCA.out.cell 6; have c7 := HCA.out.cell 7
      simp at c0 c1 c2 c3 c4 c5 c6 c7
      have d0 := HCB.out.cell 0; have d1 := HCB.out.cell 1; have d2 := HCB.out.cell 2; have d3 := HCB.out.cell 3; have d4 := HCB.out.cell 4; have d5 := HCB.out.cell 5; have d6 := HCB.out.cell 6; have d7 := HCB.out.cell 7
      simp at d0 d1 d2 d3 d4 d5 d6 d7
      go_wp2_with fail
      refine (printV_any (tObj [(keyQ, u), (keyP, t)]) _ _ _ HTA.out hwO (HTB.out.ext (ext_trans HE.out HXA.out))).mono ?_
      rintro e w7 ⟨rfl, hx7⟩
      have HE7 := Lib.hid (ext_trans HE.out (ext_trans HXA.out hx7))
      clear hx7 HTA HXA HE
      clear c0 c1 c2 c3 c4 c5 c6 c7
      clear d0 d1 d2 d3 d4 d5 d6 d7
      have hl1 := printT_len t
      have hl2 := printT_len u
      have hp1 := HP1.out
      have hp2 := HP2.out
      clear HP1 HP2
      obtain ⟨la1, r1⟩ : ∃ x, (printT (tArr [t, u])).1 = x := ⟨_, rfl⟩
      obtain ⟨ea1, r2⟩ : ∃ x, (printT (tArr [t, u])).2 = x := ⟨_, rfl⟩
      obtain ⟨lo1, r3⟩ : ∃ x, (printT (tObj [(keyQ, u), (keyP, t)])).1 = x := ⟨_, rfl⟩
      obtain ⟨eo1, r4⟩ : ∃ x, (printT (tObj [(keyQ, u), (keyP, t)])).2 = x := ⟨_, rfl⟩
      obtain ⟨lt1, r5⟩ : ∃ x, (printT t).1 = x := ⟨_, rfl⟩
      obtain ⟨et1, r6⟩ : ∃ x, (printT t).2 = x := ⟨_, rfl⟩
      obtain ⟨lu1, r7⟩ : ∃ x, (printT u).1 = x := ⟨_, rfl⟩
      obtain ⟨eu1, r8⟩ : ∃ x, (printT u).2 = x := ⟨_, rfl⟩
      rw [r1, r2, r3, r4, r5, r6, r7, r8] at hp1
      rw [r2, r6, r8] at hp2
      rw [r5] at hl1
      rw [r7] at hl2
      rw [r1, r2, r3, r4, r5, r6, r7, r8]
      clear r1 r2 r3 r4 r5 r6 r7 r8
      by_cases hz : ea1 = 0
      · have hp3 := hp1 hz
        clear hp1 hp2
        obtain ⟨g1, g2, g3, g4, g5⟩ := hp3
        subst hz g1 g2 g3 g4 g5
        have s1 : ¬ 9223372036854775807 < 1 + lt1.length := by omega
        have s2 : ¬ 9223372036854775807 < 1 + lt1.length + 1 := by omega
        have s3 : ¬ 9223372036854775807 < 1 + lt1.length + 1 + lu1.length := by omega
        have s4 : ¬ 9223372036854775807 < 1 + lt1.length + 1 + lu1.length + 1 := by omega
        have s5 : ¬ 9223372036854775807 < 5 + lt1.length := by omega
        have s6 : ¬ 9223372036854775807 < 5 + lt1.length + 5 := by omega
        have s7 : ¬ 9223372036854775807 < 5 + lt1.length + 5 + lu1.length := by omega
        have s8 : ¬ 9223372036854775807 < 5 + lt1.length + 5 + lu1.length + 1 := by omega
        have hb1 : ByteArray.mk #[91] ++ ByteArray.mk lt1.toArray ++ ByteArray.mk #[44] ++ ByteArray.mk lu1.toArray ++ ByteArray.mk #[93] = ByteArray.mk (91 :: (lt1 ++ (44 :: (lu1 ++ [93])))).toArray := by
          apply ByteArray.ext; simp [ByteArray.data_append]
        have hb2 : ByteArray.mk #[123, 34, 112, 34, 58] ++ ByteArray.mk lt1.toArray ++ ByteArray.mk #[44, 34, 113, 34, 58] ++ ByteArray.mk lu1.toArray ++ ByteArray.mk #[125] = ByteArray.mk (123 :: 34 :: 112 :: 34 :: 58 :: (lt1 ++ (44 :: 34 :: 113 :: 34 :: 58 :: (lu1 ++ [125])))).toArray := by
          apply ByteArray.ext; simp [ByteArray.data_append]
        have hc1 : (ByteArray.mk #[91] ++ ByteArray.mk lt1.toArray ++ ByteArray.mk #[44] ++ ByteArray.mk lu1.toArray ++ ByteArray.mk #[93]).toList = 91 :: (lt1 ++ (44 :: (lu1 ++ [93]))) := by
          rw [hb1]; exact ByteArray.toList_mk _
        have hc2 : (ByteArray.mk #[123, 34, 112, 34, 58] ++ ByteArray.mk lt1.toArray ++ ByteArray.mk #[44, 34, 113, 34, 58] ++ ByteArray.mk lu1.toArray ++ ByteArray.mk #[125]).toList = 123 :: 34 :: 112 :: 34 :: 58 :: (lt1 ++ (44 :: 34 :: 113 :: 34 :: 58 :: (lu1 ++ [125]))) := by
          rw [hb2]; exact ByteArray.toList_mk _
        clear hb1 hb2
        go_wp2_with fail
        go_ret
        exact ⟨rfl, HE7.out⟩
      · have hne : (ea1 != 0) = true := by simpa using hz
        have h3 := hp2 hz
        clear hp1 hp2 hz
        by_cases q3 : ea1 = 3
        · have q3' : (ea1 == 3) = true := by simpa using q3
          clear q3 h3
          go_wp2_with fail
          go_ret
          exact ⟨rfl, HE7.out⟩
        · by_cases q4 : ea1 = 4
          · have q3' : (ea1 == 3) = false := by simpa using q3
            have q4' : (ea1 == 4) = true := by simpa using q4
            clear q3 q4 h3
            go_wp2_with fail
            go_ret
            exact ⟨rfl, HE7.out⟩
          · by_cases q5 : et1 = 0
            · have q3' : (ea1 == 3) = false := by simpa using q3
              have q4' : (ea1 == 4) = false := by simpa using q4
              have q6 : eu1 ≠ 0 := by
                rcases h3 with h | h | h | h
                · exact absurd h q3
                · exact absurd h q4
                · exact absurd q5 h
                · exact h
              have q6' : (eu1 != 0) = true := by simpa using q6
              subst q5
              clear q3 q4 q6 h3
              go_wp2_with fail
              go_ret
              exact ⟨rfl, HE7.out⟩
            · have q3' : (ea1 == 3) = false := by simpa using q3
              have q4' : (ea1 == 4) = false := by simpa using q4
              have q5' : (et1 != 0) = true := by simpa using q5
              clear q3 q4 q5 h3
              go_wp2_with fail
              go_ret
              exact ⟨rfl, HE7.out⟩
    · rw [decide_eq_false hf]
      go_wp2_with fail
      go_ret
      exact ⟨rfl, HE.out⟩
  · rw [decide_eq_false hf]
    go_wp2_with fail
    go_ret
    exact ⟨rfl, HE.out⟩
set_option linter.unusedSimpArgs false
theorem own : ownKnob Tryz.prog.godebug = none := by kernel_rfl
theorem laid : laidOutB Tryz.prog = true := by kernel_rfl
set_option maxHeartbeats 1600000 in
set_option maxRecDepth 100000 in
theorem lifted (os : Os) (started : os.Started) (H : Type) (enc : TypeId × Value → H) :
    ReturnsInHanded {} Tryz.checked os 8 .any (fun w args => (Rows.printPartsSpec.pre enc Tryz.prog Tryz.f8 [] false w args ∧ laidMetH Tryz.prog Rows.printPartsRow.laid w) ∧ sizedMet enc Tryz.prog Tryz.f8 (OpenSpec.ofChange Rows.printPartsSpec) false w args) (Rows.printPartsSpec.post enc Tryz.prog Tryz.f8 false true false false) := by
  refine returnsInHanded_of_change_and (C := Tryz.checked) (X := fun w _ => laidMetH Tryz.prog Rows.printPartsRow.laid w) (fun _ _ _ hh h => h.of_heap hh) own started (by kernel_rfl) Tryz.func8
    (ChangeSpec.witness_shaped (enc := enc) (C := Tryz.checked) (os := os) (X := fun w _ => laidMetH Tryz.prog Rows.printPartsRow.laid w) false (World.laidAll Tryz.prog os Rows.printPartsRow.laid) #[.agg #[.int .i64 0, .bool false, .bool false, .string ⟨#[]⟩, .int .i64 0, .string ⟨#[]⟩, .slice none 0 0, .slice none 0 0], .agg #[.int .i64 0, .bool false, .bool false, .string ⟨#[]⟩, .int .i64 0, .string ⟨#[]⟩, .slice none 0 0, .slice none 0 0]] 8 (World.laidAll_os _ _ _)
      (World.shaped_of_ZipB (by kernel_rfl) (by kernel_rfl)) (by kernel_rfl) (by kernel_rfl) (by kernel_rfl)
      (by rw [MakeChecks.laidMetH_plain _ _ _ (by kernel_rfl)]; exact laidMet_laidAll _ (by kernel_rfl) (by kernel_rfl))) ?_
  intro W base args ds gs before hval0 hW _ hsz0 hX _
  have hT : Tab W := tab_of hX
  have hsz : (DataW.weightsEach Tryz.prog (Tryz.f8.params.toList ++ Rows.printPartsSpec.plain.varTypes Tryz.prog) (ds ++ gs)).all (· ≤ reachBytes) = true := hsz0
  clear hsz0
  have hval : ∀ (j : Nat) t v, Tryz.f8.params[j]? = some t → args[j]? = some v → Value.okWide Tryz.prog W .any base t v := hval0
  have hW' := hW
  obtain ⟨p, q, hA0, hV, rfl, _, _⟩ := hW
  have hA : DataW.TrodAll enc Tryz.prog W 0 (fun _ => true) true Tryz.f8.params.toList args.toList ds p := hA0
  rw [Tryz.params8] at hA hval hsz
  obtain ⟨v0, vs0, d0, ds0, p0, q0, ha0, rfl, rfl, h0, r0⟩ := trodAll_cons hA
  obtain ⟨v1, vs1, d1, ds1, p1, q1, ha1, rfl, rfl, h1, r1⟩ := trodAll_cons r0
  obtain ⟨hb2, rfl, rfl⟩ := trodAll_nil r1
  subst hb2
  subst ha1
  obtain rfl : args = #[v0, v1] := by cases args; simpa using ha0
  obtain ⟨rfl, rfl⟩ := trodVars_none hV
  have hk0 := h0
  obtain ⟨cs0, rfl, _⟩ := okWide_struct Tryz.underlying27 (hval 0 27 v0 rfl rfl)
  obtain ⟨fu0, hf0⟩ := h0
  obtain ⟨t0, ht0, hok0⟩ := trod_val (enc := enc) W fu0 _ d0 p0 hf0 (fun n hn => by simpa using List.all_eq_true.1 hsz _ (DataW.weights_mem_each (j := 0) rfl rfl n hn))
  have hk1 := h1
  obtain ⟨cs1, rfl, _⟩ := okWide_struct Tryz.underlying27 (hval 1 27 v1 rfl rfl)
  obtain ⟨fu1, hf1⟩ := h1
  obtain ⟨t1, ht1, hok1⟩ := trod_val (enc := enc) W fu1 _ d1 p1 hf1 (fun n hn => by simpa using List.all_eq_true.1 hsz _ (DataW.weights_mem_each (j := 1) rfl rfl n hn))
  have hlt := fun x hx => hW'.lt x hx
  simp only [List.append_nil, List.nil_append] at hW' hlt
  refine (walk t0 _ t1 _ W hT ht0 hok0 ht1 hok1).mono fun e W' ⟨he, hb⟩ => ?_
  subst he
  have hargs := (trodAll_cons_mk (Below.trod laid readV (of_decide_eq_true (by kernel_rfl)) hk0 hb (fun x hx => by first | exact hlt x hx | exact absurd hx (List.not_mem_nil) | exact hlt x (by simp [hx]))) (trodAll_cons_mk (Below.trod laid readV (of_decide_eq_true (by kernel_rfl)) hk1 hb (fun x hx => by first | exact hlt x hx | exact absurd hx (List.not_mem_nil) | exact hlt x (by simp [hx]))) trodAll_mk0))
  exact ⟨_, rfl, _, _, _, [], _, [], hW', trodAll_cons_mk (shut_bool Tryz.underlying4 _) trodAll_mk0, hargs, rfl, hb.frame _, fun h => by cases h⟩

theorem closed : joinedFacts Tryz.prog 8 Tryz.f8 Rows.printPartsSpec Rows.printPartsRow = true := by
  have hp : Tryz.f8.params.toList ++ Rows.printPartsSpec.plain.varTypes Tryz.prog = [27, 27] := by kernel_rfl
  have hr : Tryz.f8.resultTypes.toList = [4] := by kernel_rfl
  have hq : Tryz.f8.params = #[27, 27] := by kernel_rfl
  refine joined_of (by kernel_rfl) ?_ (by kernel_rfl) ?_ ?_ (by kernel_rfl) ?_ ?_ (by kernel_rfl) ?_ (veiledFits_of rfl ?_ (by kernel_rfl))
  · rw [hq]; simp [readV]
  · rw [hp]; simp only [List.any_cons, List.any_nil, mapsV]; rfl
  · rw [hp]; simp only [List.any_cons, List.any_nil, ifacesV]; rfl
  · rw [hp]; simp only [List.any_cons, List.any_nil, loopsV]; rfl
  · rw [hp, hr]; simp only [List.cons_append, List.nil_append, List.any_cons, List.any_nil, wideV, show Tryz.prog.wideKeysFrom 4 = false by kernel_rfl]; rfl
  · rw [hp, hr]; simp only [List.cons_append, List.nil_append, List.any_cons, List.any_nil, veiledV, show Tryz.prog.veiledRec 4 = false by kernel_rfl]; rfl
  · rw [hp, hr]; simp only [List.cons_append, List.nil_append, List.all_cons, List.all_nil, ownV, show Tryz.prog.veiledOwn 4 = true by kernel_rfl]; rfl
theorem held : Rows.PrintPartsSaid :=
  OpenClaim.holds_of_wide 8 Tryz.f8 rfl rfl rfl rfl rfl rfl rfl ⟨rfl, rfl, rfl, rfl, rfl⟩ rfl rfl rfl rfl rfl (by kernel_rfl) Tryz.func8 closed
    (of_decide_eq_true (by kernel_rfl)) (by unfold Func.isWrapper; first | (rw [if_pos (by decide +kernel)]; kernel_rfl) | (rw [if_neg (by decide +kernel)]; exact ⟨rfl, rfl⟩))
    (fun os started H enc _ => lifted os started H enc)

theorem proved : Rows.PrintPartsCardSaid :=
  Claim7.holds_tied_plain_at .later [] Rows.printPartsCard.laidKinds true Rows.printPartsCard.stood.harness Rows.printPartsCard.stood.looks held (fun _ h => by cases h) (by kernel_rfl) (fun _ h => by cases h) printParts_row_tie rfl ⟨rfl, rfl⟩ (by kernel_rfl) rfl
    (fun f fn hf hfn => by
      obtain rfl : f = 8 := Option.some.inj ((show Tryz.prog.funcNamed "orangery/orangerylaw05.PrintParts" = some 8 by kernel_rfl).symm.trans hf) |>.symm
      obtain rfl : fn = Tryz.f8 := (Option.some.inj (Tryz.func8.symm.trans hfn)).symm
      exact ⟨by kernel_rfl, fun j t ht => by
        rw [Tryz.params8] at ht
        have hm : t ∈ [27, 27] := by simpa using Array.mem_of_getElem? ht
        have hall : ([27, 27].all fun u => !Tryz.prog.wantsStandIn u) = true := by kernel_rfl
        exact (show Tryz.prog.wantsStandIn t = false by simpa using List.all_eq_true.1 hall t hm)⟩)
    (by kernel_rfl)
end Go.Proofs.YtjapbjmeoaagmaaGreatDoor.printParts
