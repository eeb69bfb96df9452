/- ValueAt: whatever the arguments, the law returns true and what came in reads as it did. No condition. -/
import Derived.Test.YtjapbjmeoaagmaaGreatDoorRows
import Derived.Test.YtjapbjmeoaagmaaGreatDoorCards
import Derived.Test.YtjapbjmeoaagmaaGreatDoorTie
import Derived.Test.YtjapbjmeoaagmaaGreatDoorQValueAt2
import Derived.Test.YtjapbjmeoaagmaaGreatDoorQValueAt1
import Derived.Test.YtjapbjmeoaagmaaGreatDoorQValueAt3
import Derived.Test.YtjapbjmeoaagmaaGreatDoorQValueAt4
import Derived.ProofKit
import Derived.SizedLaws
import Derived.OpenShut
import Derived.Lay
import Derived.LaidMore
import Derived.SevenTiedAt
import Derived.IntWalk
set_option linter.unusedVariables false
set_option linter.unusedSimpArgs false
set_option maxRecDepth 100000
namespace Go.Proofs.YtjapbjmeoaagmaaGreatDoor.valueAt
open Go.ChangeShapes Go.WideShapes Go.ChangeAt Go.RowKit Go.Mem Orange
-- the box of an argument $1: its TV: $2, named by $3 (k b d ..), the world $4 -> $5; leaves HC$3, HTV$3
-- a call's world: hx : Ext w w': carries the boxes ($2: their names) and HE; new name of the world: $1
theorem fewP_len {l : List PStep} (h : fewP l = true) : l.length ≤ 100 ∧ ∀ s ∈ l, s.name.length ≤ 100 := by
  unfold fewP at h
  simp only [Bool.and_eq_true, decide_eq_true_eq, List.all_eq_true] at h
  exact h
set_option maxHeartbeats 12800000 in
theorem walk (t : Tree) (c : Array Value) (l : List PStep) (vl : Value) (x : Tree) (cx : Array Value) (w : World) (hT : Tab w) (ht : TV w (fun _ => True) t c) (hok : okT t) (hl : PlAt w (fun _ => True) vl l) (hokl : okP l) (hx : TV w (fun _ => True) x cx) (hokx : okT x) :
    Calls Tryz.prog 5 #[.agg c, vl, .agg cx] w fun e w' => e = .returned (.bool true) ∧ Ext w w' := by
  have HTB := Lib.hid hT
  have HOK := Lib.hid hok
  have HOKX := Lib.hid hokx
  have HOKL := Lib.hid hokl
  have HPL := Lib.hid hl
  have HXX := Lib.hid hx
  have HE := Lib.hid (ext_refl w)
  clear hT hok hokx hokl hl hx
  obtain ⟨_, vla, vlc, rfl, -, -, -⟩ := id HPL.out.1
  obtain ⟨kA, bA, dA, sA, laA, lnA, lcA, maA, mnA, mcA, rfl⟩ := ht.eight
  obtain ⟨wA, ewA⟩ : ∃ W, w.alloc (.cells (cellsV kA bA dA sA (.slice laA lnA lcA) (.slice maA mnA mcA)) 27) = W := ⟨_, rfl⟩
  have nwA : wA.heap[w.heap.size]? = some (.cells (cellsV kA bA dA sA (.slice laA lnA lcA) (.slice maA mnA mcA)) 27) := by rw [← ewA]; exact heap_alloc_new _ _
  have xwA : Ext w wA := by rw [← ewA]; exact (ext_refl _).alloc (Nat.le_refl _) _
  have swA : wA.heap.size = w.heap.size + 1 := by rw [← ewA]; simp
  have HCA : Hid (VAt wA w.heap.size (cellsV kA bA dA sA (.slice laA lnA lcA) (.slice maA mnA mcA))) := Lib.hid nwA
  have HTVA := Lib.hid (ht.keep (w' := wA) (A' := fun _ => True) xwA.size (fun g _ hlt => ⟨trivial, xwA.block g hlt⟩))
  have EA := Lib.hid ewA
  clear nwA ewA
  replace HXX := Lib.hid (HXX.out.keep (w' := wA) (A' := fun _ => True) xwA.size (fun g _ hlt => ⟨trivial, xwA.block g hlt⟩))
  clear ht
  have hxb := xwA
  replace HPL := Lib.hid (HPL.out.keep (A' := fun _ => True) hxb.size (fun g _ hlt => ⟨trivial, hxb.block g hlt⟩))
  replace HE := Lib.hid (ext_trans HE.out hxb)
  clear hxb
  obtain ⟨kB, bB, dB, sB, laB, lnB, lcB, maB, mnB, mcB, rfl⟩ := HXX.out.eight
  obtain ⟨wB, ewB⟩ : ∃ W, wA.alloc (.cells (cellsV kB bB dB sB (.slice laB lnB lcB) (.slice maB mnB mcB)) 27) = W := ⟨_, rfl⟩
  have nwB : wB.heap[wA.heap.size]? = some (.cells (cellsV kB bB dB sB (.slice laB lnB lcB) (.slice maB mnB mcB)) 27) := by rw [← ewB]; exact heap_alloc_new _ _
  have xwB : Ext wA wB := by rw [← ewB]; exact (ext_refl _).alloc (Nat.le_refl _) _
  have swB : wB.heap.size = wA.heap.size + 1 := by rw [← ewB]; simp
  have HCB : Hid (VAt wB wA.heap.size (cellsV kB bB dB sB (.slice laB lnB lcB) (.slice maB mnB mcB))) := Lib.hid nwB
  have HTVB := Lib.hid (HXX.out.keep (w' := wB) (A' := fun _ => True) xwB.size (fun g _ hlt => ⟨trivial, xwB.block g hlt⟩))
  have EB := Lib.hid ewB
  clear nwB ewB
  rw [swA] at HCB
  have hxb := xwB
  replace HCA := Lib.hid (HCA.out.ext hxb)
  replace HTVA := Lib.hid (HTVA.out.keep (A' := fun _ => True) hxb.size (fun g _ hlt => ⟨trivial, hxb.block g hlt⟩))
  replace HPL := Lib.hid (HPL.out.keep (A' := fun _ => True) hxb.size (fun g _ hlt => ⟨trivial, hxb.block g hlt⟩))
  replace HE := Lib.hid (ext_trans HE.out hxb)
  clear hxb
  clear HXX xwA xwB swA swB
  simp only [cellsV] at HCA EA HTVA HCB EB HTVB ⊢
  go_enter Tryz.func5, Tryz.ntmps5
  go_upto_region 1 with fail
  rw [EA.out, EB.out]
  obtain ⟨S, hS⟩ : ∃ S, w.heap.size = S := ⟨_, rfl⟩
  rw [hS] at HCA HCB ⊢
  clear hS EA EB
  go_wp2_with fail
  refine (vawake wB (HTB.out.ext HE.out)).mono ?_
  rintro e w1 ⟨rfl, hx1⟩
  replace HCA := Lib.hid (HCA.out.ext hx1)
  replace HTVA := Lib.hid (HTVA.out.keep (A' := fun _ => True) hx1.size (fun g _ hlt => ⟨trivial, hx1.block g hlt⟩))
  replace HCB := Lib.hid (HCB.out.ext hx1)
  replace HTVB := Lib.hid (HTVB.out.keep (A' := fun _ => True) hx1.size (fun g _ hlt => ⟨trivial, hx1.block g hlt⟩))
  replace HPL := Lib.hid (HPL.out.keep (A' := fun _ => True) hx1.size (fun g _ hlt => ⟨trivial, hx1.block g hlt⟩))
  replace HE := Lib.hid (ext_trans HE.out hx1)
  clear hx1
  have c0 := HCA.out.cell 0; have c1 := HCA.out.cell 1; have c2 := HCA.out.cell 2; have c3 := HCA.out.cell 3; have c4 := HCA.out.cell 4; have c5 := HCA.out.cell 5; have c6 := HCA.out.cell 6; have c7 := HCA.out.cell 7
  simp at c0 c1 c2 c3 c4 c5 c6 c7
  go_wp2_with fail
  refine (few_any t _ _ 2000 w1 HOK.out (by omega) (by omega) HTVA.out).mono ?_
  rintro e w2 ⟨rfl, hx2⟩
  replace HCA := Lib.hid (HCA.out.ext hx2)
  replace HTVA := Lib.hid (HTVA.out.keep (A' := fun _ => True) hx2.size (fun g _ hlt => ⟨trivial, hx2.block g hlt⟩))
  replace HCB := Lib.hid (HCB.out.ext hx2)
  replace HTVB := Lib.hid (HTVB.out.keep (A' := fun _ => True) hx2.size (fun g _ hlt => ⟨trivial, hx2.block g hlt⟩))
  replace HPL := Lib.hid (HPL.out.keep (A' := fun _ => True) hx2.size (fun g _ hlt => ⟨trivial, hx2.block g hlt⟩))
  replace HE := Lib.hid (ext_trans HE.out hx2)
  clear hx2
  clear c0 c1 c2 c3 c4 c5 c6 c7
  by_cases hf : 0 ≤ fewT 0 2000 t
  rotate_left
  · rw [decide_eq_false hf]
    go_wp2_with fail
    go_ret
    exact ⟨rfl, HE.out⟩
  have hwt : weightT t ≤ 2000 := by have := fewT_weight t 0 2000 hf; omega
  rw [decide_eq_true hf]
  clear hf
  have d0 := HCB.out.cell 0; have d1 := HCB.out.cell 1; have d2 := HCB.out.cell 2; have d3 := HCB.out.cell 3; have d4 := HCB.out.cell 4; have d5 := HCB.out.cell 5; have d6 := HCB.out.cell 6; have d7 := HCB.out.cell 7
  simp at d0 d1 d2 d3 d4 d5 d6 d7
  go_wp2_with fail
  refine (few_any x _ _ 500 w2 HOKX.out (by omega) (by omega) HTVB.out).mono ?_
  rintro e w3 ⟨rfl, hx3⟩
  replace HCA := Lib.hid (HCA.out.ext hx3)
  replace HTVA := Lib.hid (HTVA.out.keep (A' := fun _ => True) hx3.size (fun g _ hlt => ⟨trivial, hx3.block g hlt⟩))
  replace HCB := Lib.hid (HCB.out.ext hx3)
  replace HTVB := Lib.hid (HTVB.out.keep (A' := fun _ => True) hx3.size (fun g _ hlt => ⟨trivial, hx3.block g hlt⟩))
  replace HPL := Lib.hid (HPL.out.keep (A' := fun _ => True) hx3.size (fun g _ hlt => ⟨trivial, hx3.block g hlt⟩))
  replace HE := Lib.hid (ext_trans HE.out hx3)
  clear hx3
  clear d0 d1 d2 d3 d4 d5 d6 d7
  by_cases hf : 0 ≤ fewT 0 500 x
  rotate_left
  · rw [decide_eq_false hf]
    go_wp2_with fail
    go_ret
    exact ⟨rfl, HE.out⟩
  have hwx : weightT x ≤ 500 := by have := fewT_weight x 0 500 hf; omega
  rw [decide_eq_true hf]
  clear hf
  go_wp2_with fail
  refine (fewS_any _ _ l w3 HPL.out HOKL.out).mono ?_
  rintro e w4 ⟨rfl, hx4⟩
  replace HCA := Lib.hid (HCA.out.ext hx4)
  replace HTVA := Lib.hid (HTVA.out.keep (A' := fun _ => True) hx4.size (fun g _ hlt => ⟨trivial, hx4.block g hlt⟩))
  replace HCB := Lib.hid (HCB.out.ext hx4)
  replace HTVB := Lib.hid (HTVB.out.keep (A' := fun _ => True) hx4.size (fun g _ hlt => ⟨trivial, hx4.block g hlt⟩))
  replace HPL := Lib.hid (HPL.out.keep (A' := fun _ => True) hx4.size (fun g _ hlt => ⟨trivial, hx4.block g hlt⟩))
  replace HE := Lib.hid (ext_trans HE.out hx4)
  clear hx4
  cases hfl : fewP l with
  | false =>
    go_wp2_with fail
    go_ret
    exact ⟨rfl, HE.out⟩
  | true =>
    have HFL := Lib.hid hfl
    clear hfl
    have HLN := Lib.hid (fewP_len HFL.out)
    have HWT := Lib.hid hwt
    clear hwt hwx
    obtain ⟨X, hX⟩ : ∃ X, (atT t l).getD tNull = X := ⟨_, rfl⟩
    obtain ⟨OK, hOK⟩ : ∃ OK, (atT t l).isSome = OK := ⟨_, rfl⟩
    obtain ⟨W, hW⟩ : ∃ y, (putT t l x).1 = y := ⟨_, rfl⟩
    obtain ⟨E, hEE⟩ : ∃ y, (putT t l x).2 = y := ⟨_, rfl⟩
    obtain ⟨D, hD⟩ : ∃ y, (dropT t l).1 = y := ⟨_, rfl⟩
    obtain ⟨F, hF⟩ : ∃ y, (dropT t l).2 = y := ⟨_, rfl⟩
    have HX := Lib.hid hX
    have HOKK := Lib.hid hOK
    have HW := Lib.hid hW
    have HEE := Lib.hid hEE
    have HD := Lib.hid hD
    have HF := Lib.hid hF
    clear hX hOK hW hEE hD hF
    have HC0 := Lib.hid (at_any t _ (fun _ => True) _ l w4 HTVA.out HPL.out)
    rw [HX.out, HOKK.out] at HC0
    have c0 := HCA.out.cell 0; have c1 := HCA.out.cell 1; have c2 := HCA.out.cell 2; have c3 := HCA.out.cell 3; have c4 := HCA.out.cell 4; have c5 := HCA.out.cell 5; have c6 := HCA.out.cell 6; have c7 := HCA.out.cell 7
    simp at c0 c1 c2 c3 c4 c5 c6 c7
    go_wp2_with fail
    refine (HC0.out).mono ?_
    rintro e w5 ⟨c', rfl, htv, hx5⟩
    have htw := htv.keep (A' := fun _ => True) (Nat.le_refl _) (fun g _ hlt => ⟨trivial, rfl⟩)
    clear htv HC0
    clear c0 c1 c2 c3 c4 c5 c6 c7
    replace HCA := Lib.hid (HCA.out.ext hx5)
    replace HTVA := Lib.hid (HTVA.out.keep (A' := fun _ => True) hx5.size (fun g _ hlt => ⟨trivial, hx5.block g hlt⟩))
    replace HCB := Lib.hid (HCB.out.ext hx5)
    replace HTVB := Lib.hid (HTVB.out.keep (A' := fun _ => True) hx5.size (fun g _ hlt => ⟨trivial, hx5.block g hlt⟩))
    replace HPL := Lib.hid (HPL.out.keep (A' := fun _ => True) hx5.size (fun g _ hlt => ⟨trivial, hx5.block g hlt⟩))
    replace HE := Lib.hid (ext_trans HE.out hx5)
    clear hx5
    obtain ⟨kP, bP, dP, sP, laP, lnP, lcP, maP, mnP, mcP, rfl⟩ := htw.eight
    obtain ⟨w5b, ew5b⟩ : ∃ W, w5.alloc (.cells (cellsV kP bP dP sP (.slice laP lnP lcP) (.slice maP mnP mcP)) 27) = W := ⟨_, rfl⟩
    have nw5b : w5b.heap[w5.heap.size]? = some (.cells (cellsV kP bP dP sP (.slice laP lnP lcP) (.slice maP mnP mcP)) 27) := by rw [← ew5b]; exact heap_alloc_new _ _
    have xw5b : Ext w5 w5b := by rw [← ew5b]; exact (ext_refl _).alloc (Nat.le_refl _) _
    have sw5b : w5b.heap.size = w5.heap.size + 1 := by rw [← ew5b]; simp
    have HCP : Hid (VAt w5b w5.heap.size (cellsV kP bP dP sP (.slice laP lnP lcP) (.slice maP mnP mcP))) := Lib.hid nw5b
    have HTVP := Lib.hid (htw.keep (w' := w5b) (A' := fun _ => True) xw5b.size (fun g _ hlt => ⟨trivial, xw5b.block g hlt⟩))
    have EP := Lib.hid ew5b
    clear nw5b ew5b
    have hxb := xw5b
    obtain ⟨QP, hQP⟩ : ∃ Q, w5.heap.size = Q := ⟨_, rfl⟩
    clear htw xw5b
    try clear sw5b
    replace HCA := Lib.hid (HCA.out.ext hxb)
    replace HTVA := Lib.hid (HTVA.out.keep (A' := fun _ => True) hxb.size (fun g _ hlt => ⟨trivial, hxb.block g hlt⟩))
    replace HCB := Lib.hid (HCB.out.ext hxb)
    replace HTVB := Lib.hid (HTVB.out.keep (A' := fun _ => True) hxb.size (fun g _ hlt => ⟨trivial, hxb.block g hlt⟩))
    replace HPL := Lib.hid (HPL.out.keep (A' := fun _ => True) hxb.size (fun g _ hlt => ⟨trivial, hxb.block g hlt⟩))
    replace HE := Lib.hid (ext_trans HE.out hxb)
    clear hxb
    simp only [cellsV] at HCP EP HTVP ⊢
    go_upto_region 5 with fail
    rw [EP.out]
    rw [hQP] at HCP
    clear hQP EP
    have HC0 := Lib.hid (rat_any t _ (fun _ => True) _ l w5b HTVA.out HPL.out (by have := HWT.out; omega) (by have := HLN.out.1; omega))
    rw [HX.out, HOKK.out] at HC0
    have c0 := HCA.out.cell 0; have c1 := HCA.out.cell 1; have c2 := HCA.out.cell 2; have c3 := HCA.out.cell 3; have c4 := HCA.out.cell 4; have c5 := HCA.out.cell 5; have c6 := HCA.out.cell 6; have c7 := HCA.out.cell 7
    simp at c0 c1 c2 c3 c4 c5 c6 c7
    go_wp2_with fail
    refine (HC0.out).mono ?_
    rintro e w6 ⟨c', rfl, htv, hx6⟩
    have htw := htv.keep (A' := fun _ => True) (Nat.le_refl _) (fun g _ hlt => ⟨trivial, rfl⟩)
    clear htv HC0
    clear c0 c1 c2 c3 c4 c5 c6 c7
    replace HCA := Lib.hid (HCA.out.ext hx6)
    replace HTVA := Lib.hid (HTVA.out.keep (A' := fun _ => True) hx6.size (fun g _ hlt => ⟨trivial, hx6.block g hlt⟩))
    replace HCB := Lib.hid (HCB.out.ext hx6)
    replace HTVB := Lib.hid (HTVB.out.keep (A' := fun _ => True) hx6.size (fun g _ hlt => ⟨trivial, hx6.block g hlt⟩))
    replace HCP := Lib.hid (HCP.out.ext hx6)
    replace HTVP := Lib.hid (HTVP.out.keep (A' := fun _ => True) hx6.size (fun g _ hlt => ⟨trivial, hx6.block g hlt⟩))
    replace HPL := Lib.hid (HPL.out.keep (A' := fun _ => True) hx6.size (fun g _ hlt => ⟨trivial, hx6.block g hlt⟩))
    replace HE := Lib.hid (ext_trans HE.out hx6)
    clear hx6
    obtain ⟨kQ, bQ, dQ, sQ, laQ, lnQ, lcQ, maQ, mnQ, mcQ, rfl⟩ := htw.eight
    obtain ⟨w6b, ew6b⟩ : ∃ W, w6.alloc (.cells (cellsV kQ bQ dQ sQ (.slice laQ lnQ lcQ) (.slice maQ mnQ mcQ)) 27) = W := ⟨_, rfl⟩
    have nw6b : w6b.heap[w6.heap.size]? = some (.cells (cellsV kQ bQ dQ sQ (.slice laQ lnQ lcQ) (.slice maQ mnQ mcQ)) 27) := by rw [← ew6b]; exact heap_alloc_new _ _
    have xw6b : Ext w6 w6b := by rw [← ew6b]; exact (ext_refl _).alloc (Nat.le_refl _) _
    have sw6b : w6b.heap.size = w6.heap.size + 1 := by rw [← ew6b]; simp
    have HCQ : Hid (VAt w6b w6.heap.size (cellsV kQ bQ dQ sQ (.slice laQ lnQ lcQ) (.slice maQ mnQ mcQ))) := Lib.hid nw6b
    have HTVQ := Lib.hid (htw.keep (w' := w6b) (A' := fun _ => True) xw6b.size (fun g _ hlt => ⟨trivial, xw6b.block g hlt⟩))
    have EQ := Lib.hid ew6b
    clear nw6b ew6b
    have hxb := xw6b
    obtain ⟨QQ, hQQ⟩ : ∃ Q, w6.heap.size = Q := ⟨_, rfl⟩
    clear htw xw6b
    try clear sw6b
    replace HCA := Lib.hid (HCA.out.ext hxb)
    replace HTVA := Lib.hid (HTVA.out.keep (A' := fun _ => True) hxb.size (fun g _ hlt => ⟨trivial, hxb.block g hlt⟩))
    replace HCB := Lib.hid (HCB.out.ext hxb)
    replace HTVB := Lib.hid (HTVB.out.keep (A' := fun _ => True) hxb.size (fun g _ hlt => ⟨trivial, hxb.block g hlt⟩))
    replace HCP := Lib.hid (HCP.out.ext hxb)
    replace HTVP := Lib.hid (HTVP.out.keep (A' := fun _ => True) hxb.size (fun g _ hlt => ⟨trivial, hxb.block g hlt⟩))
    replace HPL := Lib.hid (HPL.out.keep (A' := fun _ => True) hxb.size (fun g _ hlt => ⟨trivial, hxb.block g hlt⟩))
    replace HE := Lib.hid (ext_trans HE.out hxb)
    clear hxb
    simp only [cellsV] at HCQ EQ HTVQ ⊢
    go_upto_region 6 with fail
    rw [EQ.out]
    rw [hQQ] at HCQ
    clear hQQ EQ
    have HC0 := Lib.hid (vput_any t x _ _ (fun _ => True) _ l w6b HTVA.out HPL.out HTVB.out (by have := HWT.out; omega))
    rw [HW.out, HEE.out] at HC0
    have c0 := HCA.out.cell 0; have c1 := HCA.out.cell 1; have c2 := HCA.out.cell 2; have c3 := HCA.out.cell 3; have c4 := HCA.out.cell 4; have c5 := HCA.out.cell 5; have c6 := HCA.out.cell 6; have c7 := HCA.out.cell 7
    simp at c0 c1 c2 c3 c4 c5 c6 c7
    have d0 := HCB.out.cell 0; have d1 := HCB.out.cell 1; have d2 := HCB.out.cell 2; have d3 := HCB.out.cell 3; have d4 := HCB.out.cell 4; have d5 := HCB.out.cell 5; have d6 := HCB.out.cell 6; have d7 := HCB.out.cell 7
    simp at d0 d1 d2 d3 d4 d5 d6 d7
    go_wp2_with fail
    refine (HC0.out).mono ?_
    rintro e w7 ⟨c', rfl, htv, hx7⟩
    have htw := htv.keep (A' := fun _ => True) (Nat.le_refl _) (fun g _ hlt => ⟨trivial, rfl⟩)
    clear htv HC0
    clear c0 c1 c2 c3 c4 c5 c6 c7
    clear d0 d1 d2 d3 d4 d5 d6 d7
    replace HCA := Lib.hid (HCA.out.ext hx7)
    replace HTVA := Lib.hid (HTVA.out.keep (A' := fun _ => True) hx7.size (fun g _ hlt => ⟨trivial, hx7.block g hlt⟩))
    replace HCB := Lib.hid (HCB.out.ext hx7)
    replace HTVB := Lib.hid (HTVB.out.keep (A' := fun _ => True) hx7.size (fun g _ hlt => ⟨trivial, hx7.block g hlt⟩))
    replace HCP := Lib.hid (HCP.out.ext hx7)
    replace HTVP := Lib.hid (HTVP.out.keep (A' := fun _ => True) hx7.size (fun g _ hlt => ⟨trivial, hx7.block g hlt⟩))
    replace HCQ := Lib.hid (HCQ.out.ext hx7)
    replace HTVQ := Lib.hid (HTVQ.out.keep (A' := fun _ => True) hx7.size (fun g _ hlt => ⟨trivial, hx7.block g hlt⟩))
    replace HPL := Lib.hid (HPL.out.keep (A' := fun _ => True) hx7.size (fun g _ hlt => ⟨trivial, hx7.block g hlt⟩))
    replace HE := Lib.hid (ext_trans HE.out hx7)
    clear hx7
    obtain ⟨kG, bG, dG, sG, laG, lnG, lcG, maG, mnG, mcG, rfl⟩ := htw.eight
    obtain ⟨w7b, ew7b⟩ : ∃ W, w7.alloc (.cells (cellsV kG bG dG sG (.slice laG lnG lcG) (.slice maG mnG mcG)) 27) = W := ⟨_, rfl⟩
    have nw7b : w7b.heap[w7.heap.size]? = some (.cells (cellsV kG bG dG sG (.slice laG lnG lcG) (.slice maG mnG mcG)) 27) := by rw [← ew7b]; exact heap_alloc_new _ _
    have xw7b : Ext w7 w7b := by rw [← ew7b]; exact (ext_refl _).alloc (Nat.le_refl _) _
    have sw7b : w7b.heap.size = w7.heap.size + 1 := by rw [← ew7b]; simp
    have HCG : Hid (VAt w7b w7.heap.size (cellsV kG bG dG sG (.slice laG lnG lcG) (.slice maG mnG mcG))) := Lib.hid nw7b
    have HTVG := Lib.hid (htw.keep (w' := w7b) (A' := fun _ => True) xw7b.size (fun g _ hlt => ⟨trivial, xw7b.block g hlt⟩))
    have EG := Lib.hid ew7b
    clear nw7b ew7b
    have hxb := xw7b
    obtain ⟨QG, hQG⟩ : ∃ Q, w7.heap.size = Q := ⟨_, rfl⟩
    clear htw xw7b
    try clear sw7b
    replace HCA := Lib.hid (HCA.out.ext hxb)
    replace HTVA := Lib.hid (HTVA.out.keep (A' := fun _ => True) hxb.size (fun g _ hlt => ⟨trivial, hxb.block g hlt⟩))
    replace HCB := Lib.hid (HCB.out.ext hxb)
    replace HTVB := Lib.hid (HTVB.out.keep (A' := fun _ => True) hxb.size (fun g _ hlt => ⟨trivial, hxb.block g hlt⟩))
    replace HCP := Lib.hid (HCP.out.ext hxb)
    replace HTVP := Lib.hid (HTVP.out.keep (A' := fun _ => True) hxb.size (fun g _ hlt => ⟨trivial, hxb.block g hlt⟩))
    replace HCQ := Lib.hid (HCQ.out.ext hxb)
    replace HTVQ := Lib.hid (HTVQ.out.keep (A' := fun _ => True) hxb.size (fun g _ hlt => ⟨trivial, hxb.block g hlt⟩))
    replace HPL := Lib.hid (HPL.out.keep (A' := fun _ => True) hxb.size (fun g _ hlt => ⟨trivial, hxb.block g hlt⟩))
    replace HE := Lib.hid (ext_trans HE.out hxb)
    clear hxb
    simp only [cellsV] at HCG EG HTVG ⊢
    go_upto_region 7 with fail
    rw [EG.out]
    rw [hQG] at HCG
    clear hQG EG
    have HC0 := Lib.hid (rput_any l t x _ _ (fun _ => True) _ w7b HTVA.out HPL.out HTVB.out (by have := HWT.out; omega))
    rw [HW.out, HEE.out] at HC0
    have c0 := HCA.out.cell 0; have c1 := HCA.out.cell 1; have c2 := HCA.out.cell 2; have c3 := HCA.out.cell 3; have c4 := HCA.out.cell 4; have c5 := HCA.out.cell 5; have c6 := HCA.out.cell 6; have c7 := HCA.out.cell 7
    simp at c0 c1 c2 c3 c4 c5 c6 c7
    have d0 := HCB.out.cell 0; have d1 := HCB.out.cell 1; have d2 := HCB.out.cell 2; have d3 := HCB.out.cell 3; have d4 := HCB.out.cell 4; have d5 := HCB.out.cell 5; have d6 := HCB.out.cell 6; have d7 := HCB.out.cell 7
    simp at d0 d1 d2 d3 d4 d5 d6 d7
    go_wp2_with fail
    refine (HC0.out).mono ?_
    rintro e w8 ⟨c', rfl, htv, hx8⟩
    have htw := htv.keep (A' := fun _ => True) (Nat.le_refl _) (fun g _ hlt => ⟨trivial, rfl⟩)
    clear htv HC0
    clear c0 c1 c2 c3 c4 c5 c6 c7
    clear d0 d1 d2 d3 d4 d5 d6 d7
    replace HCA := Lib.hid (HCA.out.ext hx8)
    replace HTVA := Lib.hid (HTVA.out.keep (A' := fun _ => True) hx8.size (fun g _ hlt => ⟨trivial, hx8.block g hlt⟩))
    replace HCB := Lib.hid (HCB.out.ext hx8)
    replace HTVB := Lib.hid (HTVB.out.keep (A' := fun _ => True) hx8.size (fun g _ hlt => ⟨trivial, hx8.block g hlt⟩))
    replace HCP := Lib.hid (HCP.out.ext hx8)
    replace HTVP := Lib.hid (HTVP.out.keep (A' := fun _ => True) hx8.size (fun g _ hlt => ⟨trivial, hx8.block g hlt⟩))
    replace HCQ := Lib.hid (HCQ.out.ext hx8)
    replace HTVQ := Lib.hid (HTVQ.out.keep (A' := fun _ => True) hx8.size (fun g _ hlt => ⟨trivial, hx8.block g hlt⟩))
    replace HCG := Lib.hid (HCG.out.ext hx8)
    replace HTVG := Lib.hid (HTVG.out.keep (A' := fun _ => True) hx8.size (fun g _ hlt => ⟨trivial, hx8.block g hlt⟩))
    replace HPL := Lib.hid (HPL.out.keep (A' := fun _ => True) hx8.size (fun g _ hlt => ⟨trivial, hx8.block g hlt⟩))
    replace HE := Lib.hid (ext_trans HE.out hx8)
    clear hx8
    obtain ⟨kH, bH, dH, sH, laH, lnH, lcH, maH, mnH, mcH, rfl⟩ := htw.eight
    obtain ⟨w8b, ew8b⟩ : ∃ W, w8.alloc (.cells (cellsV kH bH dH sH (.slice laH lnH lcH) (.slice maH mnH mcH)) 27) = W := ⟨_, rfl⟩
    have nw8b : w8b.heap[w8.heap.size]? = some (.cells (cellsV kH bH dH sH (.slice laH lnH lcH) (.slice maH mnH mcH)) 27) := by rw [← ew8b]; exact heap_alloc_new _ _
    have xw8b : Ext w8 w8b := by rw [← ew8b]; exact (ext_refl _).alloc (Nat.le_refl _) _
    have sw8b : w8b.heap.size = w8.heap.size + 1 := by rw [← ew8b]; simp
    have HCH : Hid (VAt w8b w8.heap.size (cellsV kH bH dH sH (.slice laH lnH lcH) (.slice maH mnH mcH))) := Lib.hid nw8b
    have HTVH := Lib.hid (htw.keep (w' := w8b) (A' := fun _ => True) xw8b.size (fun g _ hlt => ⟨trivial, xw8b.block g hlt⟩))
    have EH := Lib.hid ew8b
    clear nw8b ew8b
    have hxb := xw8b
    obtain ⟨QH, hQH⟩ : ∃ Q, w8.heap.size = Q := ⟨_, rfl⟩
    clear htw xw8b
    try clear sw8b
    replace HCA := Lib.hid (HCA.out.ext hxb)
    replace HTVA := Lib.hid (HTVA.out.keep (A' := fun _ => True) hxb.size (fun g _ hlt => ⟨trivial, hxb.block g hlt⟩))
    replace HCB := Lib.hid (HCB.out.ext hxb)
    replace HTVB := Lib.hid (HTVB.out.keep (A' := fun _ => True) hxb.size (fun g _ hlt => ⟨trivial, hxb.block g hlt⟩))
    replace HCP := Lib.hid (HCP.out.ext hxb)
    replace HTVP := Lib.hid (HTVP.out.keep (A' := fun _ => True) hxb.size (fun g _ hlt => ⟨trivial, hxb.block g hlt⟩))
    replace HCQ := Lib.hid (HCQ.out.ext hxb)
    replace HTVQ := Lib.hid (HTVQ.out.keep (A' := fun _ => True) hxb.size (fun g _ hlt => ⟨trivial, hxb.block g hlt⟩))
    replace HCG := Lib.hid (HCG.out.ext hxb)
    replace HTVG := Lib.hid (HTVG.out.keep (A' := fun _ => True) hxb.size (fun g _ hlt => ⟨trivial, hxb.block g hlt⟩))
    replace HPL := Lib.hid (HPL.out.keep (A' := fun _ => True) hxb.size (fun g _ hlt => ⟨trivial, hxb.block g hlt⟩))
    replace HE := Lib.hid (ext_trans HE.out hxb)
    clear hxb
    simp only [cellsV] at HCH EH HTVH ⊢
    go_upto_region 8 with fail
    rw [EH.out]
    rw [hQH] at HCH
    clear hQH EH
    clear HCB HTVB
    have HC0 := Lib.hid (vdrop_any t _ (fun _ => True) _ l w8b HTVA.out HPL.out (by have := HWT.out; omega))
    rw [HD.out, HF.out] at HC0
    have c0 := HCA.out.cell 0; have c1 := HCA.out.cell 1; have c2 := HCA.out.cell 2; have c3 := HCA.out.cell 3; have c4 := HCA.out.cell 4; have c5 := HCA.out.cell 5; have c6 := HCA.out.cell 6; have c7 := HCA.out.cell 7
    simp at c0 c1 c2 c3 c4 c5 c6 c7
    go_wp2_with fail
    refine (HC0.out).mono ?_
    rintro e w9 ⟨c', rfl, htv, hx9⟩
    have htw := htv.keep (A' := fun _ => True) (Nat.le_refl _) (fun g _ hlt => ⟨trivial, rfl⟩)
    clear htv HC0
    clear c0 c1 c2 c3 c4 c5 c6 c7
    replace HCA := Lib.hid (HCA.out.ext hx9)
    replace HTVA := Lib.hid (HTVA.out.keep (A' := fun _ => True) hx9.size (fun g _ hlt => ⟨trivial, hx9.block g hlt⟩))
    replace HCP := Lib.hid (HCP.out.ext hx9)
    replace HTVP := Lib.hid (HTVP.out.keep (A' := fun _ => True) hx9.size (fun g _ hlt => ⟨trivial, hx9.block g hlt⟩))
    replace HCQ := Lib.hid (HCQ.out.ext hx9)
    replace HTVQ := Lib.hid (HTVQ.out.keep (A' := fun _ => True) hx9.size (fun g _ hlt => ⟨trivial, hx9.block g hlt⟩))
    replace HCG := Lib.hid (HCG.out.ext hx9)
    replace HTVG := Lib.hid (HTVG.out.keep (A' := fun _ => True) hx9.size (fun g _ hlt => ⟨trivial, hx9.block g hlt⟩))
    replace HCH := Lib.hid (HCH.out.ext hx9)
    replace HTVH := Lib.hid (HTVH.out.keep (A' := fun _ => True) hx9.size (fun g _ hlt => ⟨trivial, hx9.block g hlt⟩))
    replace HPL := Lib.hid (HPL.out.keep (A' := fun _ => True) hx9.size (fun g _ hlt => ⟨trivial, hx9.block g hlt⟩))
    replace HE := Lib.hid (ext_trans HE.out hx9)
    clear hx9
    obtain ⟨kJ, bJ, dJ, sJ, laJ, lnJ, lcJ, maJ, mnJ, mcJ, rfl⟩ := htw.eight
    obtain ⟨w9b, ew9b⟩ : ∃ W, w9.alloc (.cells (cellsV kJ bJ dJ sJ (.slice laJ lnJ lcJ) (.slice maJ mnJ mcJ)) 27) = W := ⟨_, rfl⟩
    have nw9b : w9b.heap[w9.heap.size]? = some (.cells (cellsV kJ bJ dJ sJ (.slice laJ lnJ lcJ) (.slice maJ mnJ mcJ)) 27) := by rw [← ew9b]; exact heap_alloc_new _ _
    have xw9b : Ext w9 w9b := by rw [← ew9b]; exact (ext_refl _).alloc (Nat.le_refl _) _
    have sw9b : w9b.heap.size = w9.heap.size + 1 := by rw [← ew9b]; simp
    have HCJ : Hid (VAt w9b w9.heap.size (cellsV kJ bJ dJ sJ (.slice laJ lnJ lcJ) (.slice maJ mnJ mcJ))) := Lib.hid nw9b
    have HTVJ := Lib.hid (htw.keep (w' := w9b) (A' := fun _ => True) xw9b.size (fun g _ hlt => ⟨trivial, xw9b.block g hlt⟩))
    have EJ := Lib.hid ew9b
    clear nw9b ew9b
    have hxb := xw9b
    obtain ⟨QJ, hQJ⟩ : ∃ Q, w9.heap.size = Q := ⟨_, rfl⟩
    clear htw xw9b
    try clear sw9b
    replace HCA := Lib.hid (HCA.out.ext hxb)
    replace HTVA := Lib.hid (HTVA.out.keep (A' := fun _ => True) hxb.size (fun g _ hlt => ⟨trivial, hxb.block g hlt⟩))
    replace HCP := Lib.hid (HCP.out.ext hxb)
    replace HTVP := Lib.hid (HTVP.out.keep (A' := fun _ => True) hxb.size (fun g _ hlt => ⟨trivial, hxb.block g hlt⟩))
    replace HCQ := Lib.hid (HCQ.out.ext hxb)
    replace HTVQ := Lib.hid (HTVQ.out.keep (A' := fun _ => True) hxb.size (fun g _ hlt => ⟨trivial, hxb.block g hlt⟩))
    replace HCG := Lib.hid (HCG.out.ext hxb)
    replace HTVG := Lib.hid (HTVG.out.keep (A' := fun _ => True) hxb.size (fun g _ hlt => ⟨trivial, hxb.block g hlt⟩))
    replace HCH := Lib.hid (HCH.out.ext hxb)
    replace HTVH := Lib.hid (HTVH.out.keep (A' := fun _ => True) hxb.size (fun g _ hlt => ⟨trivial, hxb.block g hlt⟩))
    replace HPL := Lib.hid (HPL.out.keep (A' := fun _ => True) hxb.size (fun g _ hlt => ⟨trivial, hxb.block g hlt⟩))
    replace HE := Lib.hid (ext_trans HE.out hxb)
    clear hxb
    simp only [cellsV] at HCJ EJ HTVJ ⊢
    go_upto_region 9 with fail
    rw [EJ.out]
    rw [hQJ] at HCJ
    clear hQJ EJ
    have HC0 := Lib.hid (rdrop_any l t _ (fun _ => True) _ w9b HTVA.out HPL.out (by have := HWT.out; omega))
    rw [HD.out, HF.out] at HC0
    have c0 := HCA.out.cell 0; have c1 := HCA.out.cell 1; have c2 := HCA.out.cell 2; have c3 := HCA.out.cell 3; have c4 := HCA.out.cell 4; have c5 := HCA.out.cell 5; have c6 := HCA.out.cell 6; have c7 := HCA.out.cell 7
    simp at c0 c1 c2 c3 c4 c5 c6 c7
    go_wp2_with fail
    refine (HC0.out).mono ?_
    rintro e w10 ⟨c', rfl, htv, hx10⟩
    have htw := htv.keep (A' := fun _ => True) (Nat.le_refl _) (fun g _ hlt => ⟨trivial, rfl⟩)
    clear htv HC0
    clear c0 c1 c2 c3 c4 c5 c6 c7
    replace HCA := Lib.hid (HCA.out.ext hx10)
    replace HTVA := Lib.hid (HTVA.out.keep (A' := fun _ => True) hx10.size (fun g _ hlt => ⟨trivial, hx10.block g hlt⟩))
    replace HCP := Lib.hid (HCP.out.ext hx10)
    replace HTVP := Lib.hid (HTVP.out.keep (A' := fun _ => True) hx10.size (fun g _ hlt => ⟨trivial, hx10.block g hlt⟩))
    replace HCQ := Lib.hid (HCQ.out.ext hx10)
    replace HTVQ := Lib.hid (HTVQ.out.keep (A' := fun _ => True) hx10.size (fun g _ hlt => ⟨trivial, hx10.block g hlt⟩))
    replace HCG := Lib.hid (HCG.out.ext hx10)
    replace HTVG := Lib.hid (HTVG.out.keep (A' := fun _ => True) hx10.size (fun g _ hlt => ⟨trivial, hx10.block g hlt⟩))
    replace HCH := Lib.hid (HCH.out.ext hx10)
    replace HTVH := Lib.hid (HTVH.out.keep (A' := fun _ => True) hx10.size (fun g _ hlt => ⟨trivial, hx10.block g hlt⟩))
    replace HCJ := Lib.hid (HCJ.out.ext hx10)
    replace HTVJ := Lib.hid (HTVJ.out.keep (A' := fun _ => True) hx10.size (fun g _ hlt => ⟨trivial, hx10.block g hlt⟩))
    replace HPL := Lib.hid (HPL.out.keep (A' := fun _ => True) hx10.size (fun g _ hlt => ⟨trivial, hx10.block g hlt⟩))
    replace HE := Lib.hid (ext_trans HE.out hx10)
    clear hx10
    obtain ⟨kK, bK, dK, sK, laK, lnK, lcK, maK, mnK, mcK, rfl⟩ := htw.eight
    obtain ⟨w10b, ew10b⟩ : ∃ W, w10.alloc (.cells (cellsV kK bK dK sK (.slice laK lnK lcK) (.slice maK mnK mcK)) 27) = W := ⟨_, rfl⟩
    have nw10b : w10b.heap[w10.heap.size]? = some (.cells (cellsV kK bK dK sK (.slice laK lnK lcK) (.slice maK mnK mcK)) 27) := by rw [← ew10b]; exact heap_alloc_new _ _
    have xw10b : Ext w10 w10b := by rw [← ew10b]; exact (ext_refl _).alloc (Nat.le_refl _) _
    have sw10b : w10b.heap.size = w10.heap.size + 1 := by rw [← ew10b]; simp
    have HCK : Hid (VAt w10b w10.heap.size (cellsV kK bK dK sK (.slice laK lnK lcK) (.slice maK mnK mcK))) := Lib.hid nw10b
    have HTVK := Lib.hid (htw.keep (w' := w10b) (A' := fun _ => True) xw10b.size (fun g _ hlt => ⟨trivial, xw10b.block g hlt⟩))
    have EK := Lib.hid ew10b
    clear nw10b ew10b
    have hxb := xw10b
    obtain ⟨QK, hQK⟩ : ∃ Q, w10.heap.size = Q := ⟨_, rfl⟩
    clear htw xw10b
    try clear sw10b
    replace HCA := Lib.hid (HCA.out.ext hxb)
    replace HTVA := Lib.hid (HTVA.out.keep (A' := fun _ => True) hxb.size (fun g _ hlt => ⟨trivial, hxb.block g hlt⟩))
    replace HCP := Lib.hid (HCP.out.ext hxb)
    replace HTVP := Lib.hid (HTVP.out.keep (A' := fun _ => True) hxb.size (fun g _ hlt => ⟨trivial, hxb.block g hlt⟩))
    replace HCQ := Lib.hid (HCQ.out.ext hxb)
    replace HTVQ := Lib.hid (HTVQ.out.keep (A' := fun _ => True) hxb.size (fun g _ hlt => ⟨trivial, hxb.block g hlt⟩))
    replace HCG := Lib.hid (HCG.out.ext hxb)
    replace HTVG := Lib.hid (HTVG.out.keep (A' := fun _ => True) hxb.size (fun g _ hlt => ⟨trivial, hxb.block g hlt⟩))
    replace HCH := Lib.hid (HCH.out.ext hxb)
    replace HTVH := Lib.hid (HTVH.out.keep (A' := fun _ => True) hxb.size (fun g _ hlt => ⟨trivial, hxb.block g hlt⟩))
    replace HCJ := Lib.hid (HCJ.out.ext hxb)
    replace HTVJ := Lib.hid (HTVJ.out.keep (A' := fun _ => True) hxb.size (fun g _ hlt => ⟨trivial, hxb.block g hlt⟩))
    replace HPL := Lib.hid (HPL.out.keep (A' := fun _ => True) hxb.size (fun g _ hlt => ⟨trivial, hxb.block g hlt⟩))
    replace HE := Lib.hid (ext_trans HE.out hxb)
    clear hxb
    simp only [cellsV] at HCK EK HTVK ⊢
    go_upto_region 10 with fail
    rw [EK.out]
    rw [hQK] at HCK
    clear hQK EK
    clear HCA HTVA
    have hb1 : (OK == OK) = true := by simp
    have hb2 : (E == E) = true := by simp
    have hb3 : (F == F) = true := by simp
    have hex : exactT X X = true := exactT_refl X
    have f0 := HCP.out.cell 0; have f1 := HCP.out.cell 1; have f2 := HCP.out.cell 2; have f3 := HCP.out.cell 3; have f4 := HCP.out.cell 4; have f5 := HCP.out.cell 5; have f6 := HCP.out.cell 6; have f7 := HCP.out.cell 7
    simp at f0 f1 f2 f3 f4 f5 f6 f7
    have d0 := HCQ.out.cell 0; have d1 := HCQ.out.cell 1; have d2 := HCQ.out.cell 2; have d3 := HCQ.out.cell 3; have d4 := HCQ.out.cell 4; have d5 := HCQ.out.cell 5; have d6 := HCQ.out.cell 6; have d7 := HCQ.out.cell 7
    simp at d0 d1 d2 d3 d4 d5 d6 d7
    go_wp2_with fail
    refine (exact_any X X _ _ _ _ w10b HTVP.out HTVQ.out).mono ?_
    rintro e w11 ⟨rfl, hx11⟩
    rw [hex]
    clear hex
    clear f0 f1 f2 f3 f4 f5 f6 f7
    clear d0 d1 d2 d3 d4 d5 d6 d7
    clear HCP HTVP HCQ HTVQ
    replace HCG := Lib.hid (HCG.out.ext hx11)
    replace HTVG := Lib.hid (HTVG.out.keep (A' := fun _ => True) hx11.size (fun g _ hlt => ⟨trivial, hx11.block g hlt⟩))
    replace HCH := Lib.hid (HCH.out.ext hx11)
    replace HTVH := Lib.hid (HTVH.out.keep (A' := fun _ => True) hx11.size (fun g _ hlt => ⟨trivial, hx11.block g hlt⟩))
    replace HCJ := Lib.hid (HCJ.out.ext hx11)
    replace HTVJ := Lib.hid (HTVJ.out.keep (A' := fun _ => True) hx11.size (fun g _ hlt => ⟨trivial, hx11.block g hlt⟩))
    replace HCK := Lib.hid (HCK.out.ext hx11)
    replace HTVK := Lib.hid (HTVK.out.keep (A' := fun _ => True) hx11.size (fun g _ hlt => ⟨trivial, hx11.block g hlt⟩))
    replace HPL := Lib.hid (HPL.out.keep (A' := fun _ => True) hx11.size (fun g _ hlt => ⟨trivial, hx11.block g hlt⟩))
    replace HE := Lib.hid (ext_trans HE.out hx11)
    clear hx11
    have hex : exactT W W = true := exactT_refl W
    have f0 := HCG.out.cell 0; have f1 := HCG.out.cell 1; have f2 := HCG.out.cell 2; have f3 := HCG.out.cell 3; have f4 := HCG.out.cell 4; have f5 := HCG.out.cell 5; have f6 := HCG.out.cell 6; have f7 := HCG.out.cell 7
    simp at f0 f1 f2 f3 f4 f5 f6 f7
    have d0 := HCH.out.cell 0; have d1 := HCH.out.cell 1; have d2 := HCH.out.cell 2; have d3 := HCH.out.cell 3; have d4 := HCH.out.cell 4; have d5 := HCH.out.cell 5; have d6 := HCH.out.cell 6; have d7 := HCH.out.cell 7
    simp at d0 d1 d2 d3 d4 d5 d6 d7
    go_wp2_with fail
    refine (exact_any W W _ _ _ _ w11 HTVG.out HTVH.out).mono ?_
    rintro e w12 ⟨rfl, hx12⟩
    rw [hex]
    clear hex
    clear f0 f1 f2 f3 f4 f5 f6 f7
    clear d0 d1 d2 d3 d4 d5 d6 d7
    clear HCG HTVG HCH HTVH
    replace HCJ := Lib.hid (HCJ.out.ext hx12)
    replace HTVJ := Lib.hid (HTVJ.out.keep (A' := fun _ => True) hx12.size (fun g _ hlt => ⟨trivial, hx12.block g hlt⟩))
    replace HCK := Lib.hid (HCK.out.ext hx12)
    replace HTVK := Lib.hid (HTVK.out.keep (A' := fun _ => True) hx12.size (fun g _ hlt => ⟨trivial, hx12.block g hlt⟩))
    replace HPL := Lib.hid (HPL.out.keep (A' := fun _ => True) hx12.size (fun g _ hlt => ⟨trivial, hx12.block g hlt⟩))
    replace HE := Lib.hid (ext_trans HE.out hx12)
    clear hx12
    have hex : exactT D D = true := exactT_refl D
    have f0 := HCJ.out.cell 0; have f1 := HCJ.out.cell 1; have f2 := HCJ.out.cell 2; have f3 := HCJ.out.cell 3; have f4 := HCJ.out.cell 4; have f5 := HCJ.out.cell 5; have f6 := HCJ.out.cell 6; have f7 := HCJ.out.cell 7
    simp at f0 f1 f2 f3 f4 f5 f6 f7
    have d0 := HCK.out.cell 0; have d1 := HCK.out.cell 1; have d2 := HCK.out.cell 2; have d3 := HCK.out.cell 3; have d4 := HCK.out.cell 4; have d5 := HCK.out.cell 5; have d6 := HCK.out.cell 6; have d7 := HCK.out.cell 7
    simp at d0 d1 d2 d3 d4 d5 d6 d7
    go_wp2_with fail
    refine (exact_any D D _ _ _ _ w12 HTVJ.out HTVK.out).mono ?_
    rintro e w13 ⟨rfl, hx13⟩
    rw [hex]
    clear hex
    clear f0 f1 f2 f3 f4 f5 f6 f7
    clear d0 d1 d2 d3 d4 d5 d6 d7
    clear HCJ HTVJ HCK HTVK
    replace HPL := Lib.hid (HPL.out.keep (A' := fun _ => True) hx13.size (fun g _ hlt => ⟨trivial, hx13.block g hlt⟩))
    replace HE := Lib.hid (ext_trans HE.out hx13)
    clear hx13
    have HPG := Lib.hid (place_gen (fun s => nameP s.name) (fun _ => True) _ l w13 (HTB.out.ext HE.out) HPL.out (by have := HLN.out.1; omega) (fun s hs => by have h1 := HLN.out.2 s hs; have h2 := nameP_len s.name; omega) (fun s hs _ w' _ => name_any s.name (by have h1 := HLN.out.2 s hs; omega) w'))
    have hpq : placeTx (fun s => nameP s.name) l = placeQ l := rfl
    rw [hpq] at HPG
    clear hpq
    go_wp2_with fail
    refine (HPG.out).mono ?_
    rintro e w14 ⟨rfl, hx14⟩
    clear HPG
    replace HPL := Lib.hid (HPL.out.keep (A' := fun _ => True) hx14.size (fun g _ hlt => ⟨trivial, hx14.block g hlt⟩))
    replace HE := Lib.hid (ext_trans HE.out hx14)
    clear hx14
    have HPR := Lib.hid (rplace_any (fun _ => True) _ l w14 HPL.out HLN.out.1 HLN.out.2)
    obtain ⟨PL, hPL⟩ : ∃ y, placeQ l = y := ⟨_, rfl⟩
    rw [hPL] at HPR ⊢
    clear hPL
    go_wp2_with fail
    refine (HPR.out).mono ?_
    rintro e w15 ⟨rfl, hx15⟩
    clear HPR
    replace HPL := Lib.hid (HPL.out.keep (A' := fun _ => True) hx15.size (fun g _ hlt => ⟨trivial, hx15.block g hlt⟩))
    replace HE := Lib.hid (ext_trans HE.out hx15)
    clear hx15
    go_wp2_with fail
    go_ret
    exact ⟨rfl, HE.out⟩
set_option linter.unusedSimpArgs false
theorem own : ownKnob Tryz.prog.godebug = none := by kernel_rfl
theorem laid : laidOutB Tryz.prog = true := by kernel_rfl
set_option maxHeartbeats 1600000 in
set_option maxRecDepth 100000 in
theorem lifted (os : Os) (started : os.Started) (H : Type) (enc : TypeId × Value → H) :
    ReturnsInHanded {} Tryz.checked os 5 .any (fun w args => (Rows.valueAtSpec.pre enc Tryz.prog Tryz.f5 [] false w args ∧ laidMetH Tryz.prog Rows.valueAtRow.laid w) ∧ sizedMet enc Tryz.prog Tryz.f5 (OpenSpec.ofChange Rows.valueAtSpec) false w args) (Rows.valueAtSpec.post enc Tryz.prog Tryz.f5 false true false false) := by
  refine returnsInHanded_of_change_and (C := Tryz.checked) (X := fun w _ => laidMetH Tryz.prog Rows.valueAtRow.laid w) (fun _ _ _ hh h => h.of_heap hh) own started (by kernel_rfl) Tryz.func5
    (ChangeSpec.witness_shaped (enc := enc) (C := Tryz.checked) (os := os) (X := fun w _ => laidMetH Tryz.prog Rows.valueAtRow.laid w) false (World.laidAll Tryz.prog os Rows.valueAtRow.laid) #[.agg #[.int .i64 0, .bool false, .bool false, .string ⟨#[]⟩, .int .i64 0, .string ⟨#[]⟩, .slice none 0 0, .slice none 0 0], .slice none 0 0, .agg #[.int .i64 0, .bool false, .bool false, .string ⟨#[]⟩, .int .i64 0, .string ⟨#[]⟩, .slice none 0 0, .slice none 0 0]] 8 (World.laidAll_os _ _ _)
      (World.shaped_of_ZipB (by kernel_rfl) (by kernel_rfl)) (by kernel_rfl) (by kernel_rfl) (by kernel_rfl)
      (by rw [MakeChecks.laidMetH_plain _ _ _ (by kernel_rfl)]; exact laidMet_laidAll _ (by kernel_rfl) (by kernel_rfl))) ?_
  intro W base args ds gs before hval0 hW _ hsz0 hX _
  have hT : Tab W := tab_of hX
  have hsz : (DataW.weightsEach Tryz.prog (Tryz.f5.params.toList ++ Rows.valueAtSpec.plain.varTypes Tryz.prog) (ds ++ gs)).all (· ≤ reachBytes) = true := hsz0
  clear hsz0
  have hval : ∀ (j : Nat) t v, Tryz.f5.params[j]? = some t → args[j]? = some v → Value.okWide Tryz.prog W .any base t v := hval0
  have hW' := hW
  obtain ⟨p, q, hA0, hV, rfl, _, _⟩ := hW
  have hA : DataW.TrodAll enc Tryz.prog W 0 (fun _ => true) true Tryz.f5.params.toList args.toList ds p := hA0
  rw [Tryz.params5] at hA hval hsz
  obtain ⟨v0, vs0, d0, ds0, p0, q0, ha0, rfl, rfl, h0, r0⟩ := trodAll_cons hA
  obtain ⟨v1, vs1, d1, ds1, p1, q1, ha1, rfl, rfl, h1, r1⟩ := trodAll_cons r0
  obtain ⟨v2, vs2, d2, ds2, p2, q2, ha2, rfl, rfl, h2, r2⟩ := trodAll_cons r1
  obtain ⟨hb3, rfl, rfl⟩ := trodAll_nil r2
  subst hb3
  subst ha2
  subst ha1
  obtain rfl : args = #[v0, v1, v2] := by cases args; simpa using ha0
  obtain ⟨rfl, rfl⟩ := trodVars_none hV
  have hk0 := h0
  obtain ⟨cs0, rfl, _⟩ := okWide_struct Tryz.underlying27 (hval 0 27 v0 rfl rfl)
  obtain ⟨fu0, hf0⟩ := h0
  obtain ⟨t0, ht0, hok0⟩ := trod_val (enc := enc) W fu0 _ d0 p0 hf0 (fun n hn => by simpa using List.all_eq_true.1 hsz _ (DataW.weights_mem_each (j := 0) rfl rfl n hn))
  have hk1 := h1
  obtain ⟨a1, len1, cap1, rfl⟩ := okWide_slice Tryz.underlying28 (hval 1 28 v1 rfl rfl)
  obtain ⟨fu1, hf1⟩ := h1
  obtain ⟨t1, ht1, hok1⟩ := trod_steps (enc := enc) W fu1 _ d1 p1 hf1 (fun n hn => by simpa using List.all_eq_true.1 hsz _ (DataW.weights_mem_each (j := 1) rfl rfl n hn))
  have hk2 := h2
  obtain ⟨cs2, rfl, _⟩ := okWide_struct Tryz.underlying27 (hval 2 27 v2 rfl rfl)
  obtain ⟨fu2, hf2⟩ := h2
  obtain ⟨t2, ht2, hok2⟩ := trod_val (enc := enc) W fu2 _ d2 p2 hf2 (fun n hn => by simpa using List.all_eq_true.1 hsz _ (DataW.weights_mem_each (j := 2) rfl rfl n hn))
  have hlt := fun x hx => hW'.lt x hx
  simp only [List.append_nil, List.nil_append] at hW' hlt
  refine (walk t0 _ t1 _ t2 _ W hT ht0 hok0 (ht1 _ rfl) hok1 ht2 hok2).mono fun e W' ⟨he, hb⟩ => ?_
  subst he
  have hargs := (trodAll_cons_mk (Below.trod laid readV (of_decide_eq_true (by kernel_rfl)) hk0 hb (fun x hx => by first | exact hlt x hx | exact absurd hx (List.not_mem_nil) | exact hlt x (by simp [hx]))) (trodAll_cons_mk (Below.trod laid (by kernel_rfl) (of_decide_eq_true (by kernel_rfl)) hk1 hb (fun x hx => by first | exact hlt x hx | exact absurd hx (List.not_mem_nil) | exact hlt x (by simp [hx]))) (trodAll_cons_mk (Below.trod laid readV (of_decide_eq_true (by kernel_rfl)) hk2 hb (fun x hx => by first | exact hlt x hx | exact absurd hx (List.not_mem_nil) | exact hlt x (by simp [hx]))) trodAll_mk0)))
  exact ⟨_, rfl, _, _, _, [], _, [], hW', trodAll_cons_mk (shut_bool Tryz.underlying4 _) trodAll_mk0, hargs, rfl, hb.frame _, fun h => by cases h⟩

theorem closed : joinedFacts Tryz.prog 5 Tryz.f5 Rows.valueAtSpec Rows.valueAtRow = true := by
  have hp : Tryz.f5.params.toList ++ Rows.valueAtSpec.plain.varTypes Tryz.prog = [27, 28, 27] := by kernel_rfl
  have hr : Tryz.f5.resultTypes.toList = [4] := by kernel_rfl
  have hq : Tryz.f5.params = #[27, 28, 27] := by kernel_rfl
  refine joined_of (by kernel_rfl) ?_ (by kernel_rfl) ?_ ?_ (by kernel_rfl) ?_ ?_ (by kernel_rfl) ?_ (veiledFits_of rfl ?_ (by kernel_rfl))
  · rw [hq]; simp [readV, show Tryz.prog.readableRec 28 = true by kernel_rfl]
  · rw [hp]; simp only [List.any_cons, List.any_nil, mapsV, show Tryz.prog.mapsRec 28 = false by kernel_rfl]; rfl
  · rw [hp]; simp only [List.any_cons, List.any_nil, ifacesV, show Tryz.prog.ifacesRec 28 = false by kernel_rfl]; rfl
  · rw [hp]; simp only [List.any_cons, List.any_nil, loopsV, show Tryz.prog.loopsFrom 28 = false by kernel_rfl]; rfl
  · rw [hp, hr]; simp only [List.cons_append, List.nil_append, List.any_cons, List.any_nil, wideV, show Tryz.prog.wideKeysFrom 28 = false by kernel_rfl, show Tryz.prog.wideKeysFrom 4 = false by kernel_rfl]; rfl
  · rw [hp, hr]; simp only [List.cons_append, List.nil_append, List.any_cons, List.any_nil, veiledV, show Tryz.prog.veiledRec 28 = false by kernel_rfl, show Tryz.prog.veiledRec 4 = false by kernel_rfl]; rfl
  · rw [hp, hr]; simp only [List.cons_append, List.nil_append, List.all_cons, List.all_nil, ownV, show Tryz.prog.veiledOwn 28 = true by kernel_rfl, show Tryz.prog.veiledOwn 4 = true by kernel_rfl]; rfl
theorem held : Rows.ValueAtSaid :=
  OpenClaim.holds_of_wide 5 Tryz.f5 rfl rfl rfl rfl rfl rfl rfl ⟨rfl, rfl, rfl, rfl, rfl⟩ rfl rfl rfl rfl rfl (by kernel_rfl) Tryz.func5 closed
    (of_decide_eq_true (by kernel_rfl)) (by unfold Func.isWrapper; first | (rw [if_pos (by decide +kernel)]; kernel_rfl) | (rw [if_neg (by decide +kernel)]; exact ⟨rfl, rfl⟩))
    (fun os started H enc _ => lifted os started H enc)

theorem proved : Rows.ValueAtCardSaid :=
  Claim7.holds_tied_plain_at .later [] Rows.valueAtCard.laidKinds true Rows.valueAtCard.stood.harness Rows.valueAtCard.stood.looks held (fun _ h => by cases h) (by kernel_rfl) (fun _ h => by cases h) valueAt_row_tie rfl ⟨rfl, rfl⟩ (by kernel_rfl) rfl
    (fun f fn hf hfn => by
      obtain rfl : f = 5 := Option.some.inj ((show Tryz.prog.funcNamed "orangery/orangerylaw03.ValueAt" = some 5 by kernel_rfl).symm.trans hf) |>.symm
      obtain rfl : fn = Tryz.f5 := (Option.some.inj (Tryz.func5.symm.trans hfn)).symm
      exact ⟨by kernel_rfl, fun j t ht => by
        rw [Tryz.params5] at ht
        have hm : t ∈ [27, 28, 27] := by simpa using Array.mem_of_getElem? ht
        have hall : ([27, 28, 27].all fun u => !Tryz.prog.wantsStandIn u) = true := by kernel_rfl
        exact (show Tryz.prog.wantsStandIn t = false by simpa using List.all_eq_true.1 hall t hm)⟩)
    (by kernel_rfl)
end Go.Proofs.YtjapbjmeoaagmaaGreatDoor.valueAt
