/- ValuePuts: whatever the arguments, the law returns true and what came in reads as it did. No condition. -/
import Derived.Test.YtjapbjmeoaagmaaGreatDoorRows
import Derived.Test.YtjapbjmeoaagmaaGreatDoorCards
import Derived.Test.YtjapbjmeoaagmaaGreatDoorTie
import Derived.Test.YtjapbjmeoaagmaaGreatDoorQValuePuts2
import Derived.Test.YtjapbjmeoaagmaaGreatDoorQValuePuts1
import Derived.Test.YtjapbjmeoaagmaaGreatDoorQValuePuts4
import Derived.ProofKit
import Derived.SizedLaws
import Derived.OpenShut
import Derived.Lay
import Derived.LaidMore
import Derived.SevenTiedAt
import Derived.IntWalk
set_option linter.unusedVariables false
set_option linter.unusedSimpArgs false
set_option maxRecDepth 100000
namespace Go.Proofs.YtjapbjmeoaagmaaGreatDoor.valuePuts
open Go.ChangeShapes Go.WideShapes Go.ChangeAt Go.RowKit Go.Mem Orange
-- the box of an argument $1: its TV: $2, named by $3 (k b d ..), the world $4 -> $5; leaves HC$3, HTV$3
-- a call's world: hx : Ext w w': carries the boxes ($2: their names) and HE; new name of the world: $1
theorem fewP_len {l : List PStep} (h : fewP l = true) : l.length ≤ 100 ∧ ∀ s ∈ l, s.name.length ≤ 100 := by
  unfold fewP at h
  simp only [Bool.and_eq_true, decide_eq_true_eq, List.all_eq_true] at h
  exact h
set_option maxHeartbeats 12800000 in
theorem walk (t : Tree) (c : Array Value) (l : List PStep) (vl : Value) (m : List PStep) (vm : Value) (x : Tree) (cx : Array Value) (w : World) (hT : Tab w) (ht : TV w (fun _ => True) t c) (hok : okT t) (hl : PlAt w (fun _ => True) vl l) (hokl : okP l) (hm : PlAt w (fun _ => True) vm m) (hokm : okP m) (hx : TV w (fun _ => True) x cx) (hokx : okT x) :
    Calls Tryz.prog 3 #[.agg c, vl, vm, .agg cx] w fun e w' => e = .returned (.bool true) ∧ Ext w w' := by
  have HTB := Lib.hid hT
  have HOK := Lib.hid hok
  have HOKX := Lib.hid hokx
  have HOKL := Lib.hid hokl
  have HOKM := Lib.hid hokm
  have HPL := Lib.hid hl
  have HPM := Lib.hid hm
  have HXX := Lib.hid hx
  have HE := Lib.hid (ext_refl w)
  clear hT hok hokx hokl hokm hl hm hx
  obtain ⟨_, vla, vlc, rfl, -, -, -⟩ := id HPL.out.1
  obtain ⟨_, vma, vmc, rfl, -, -, -⟩ := id HPM.out.1
  obtain ⟨kA, bA, dA, sA, laA, lnA, lcA, maA, mnA, mcA, rfl⟩ := ht.eight
  obtain ⟨wA, ewA⟩ : ∃ W, w.alloc (.cells (cellsV kA bA dA sA (.slice laA lnA lcA) (.slice maA mnA mcA)) 27) = W := ⟨_, rfl⟩
  have nwA : wA.heap[w.heap.size]? = some (.cells (cellsV kA bA dA sA (.slice laA lnA lcA) (.slice maA mnA mcA)) 27) := by rw [← ewA]; exact heap_alloc_new _ _
  have xwA : Ext w wA := by rw [← ewA]; exact (ext_refl _).alloc (Nat.le_refl _) _
  have swA : wA.heap.size = w.heap.size + 1 := by rw [← ewA]; simp
  have HCA : Hid (VAt wA w.heap.size (cellsV kA bA dA sA (.slice laA lnA lcA) (.slice maA mnA mcA))) := Lib.hid nwA
  have HTVA := Lib.hid (ht.keep (w' := wA) (A' := fun _ => True) xwA.size (fun g _ hlt => ⟨trivial, xwA.block g hlt⟩))
  have EA := Lib.hid ewA
  clear nwA ewA
  replace HXX := Lib.hid (HXX.out.keep (w' := wA) (A' := fun _ => True) xwA.size (fun g _ hlt => ⟨trivial, xwA.block g hlt⟩))
  clear ht
  have hxb := xwA
  replace HPL := Lib.hid (HPL.out.keep (A' := fun _ => True) hxb.size (fun g _ hlt => ⟨trivial, hxb.block g hlt⟩))
  replace HPM := Lib.hid (HPM.out.keep (A' := fun _ => True) hxb.size (fun g _ hlt => ⟨trivial, hxb.block g hlt⟩))
  replace HE := Lib.hid (ext_trans HE.out hxb)
  clear hxb
  obtain ⟨kB, bB, dB, sB, laB, lnB, lcB, maB, mnB, mcB, rfl⟩ := HXX.out.eight
  obtain ⟨wB, ewB⟩ : ∃ W, wA.alloc (.cells (cellsV kB bB dB sB (.slice laB lnB lcB) (.slice maB mnB mcB)) 27) = W := ⟨_, rfl⟩
  have nwB : wB.heap[wA.heap.size]? = some (.cells (cellsV kB bB dB sB (.slice laB lnB lcB) (.slice maB mnB mcB)) 27) := by rw [← ewB]; exact heap_alloc_new _ _
  have xwB : Ext wA wB := by rw [← ewB]; exact (ext_refl _).alloc (Nat.le_refl _) _
  have swB : wB.heap.size = wA.heap.size + 1 := by rw [← ewB]; simp
  have HCB : Hid (VAt wB wA.heap.size (cellsV kB bB dB sB (.slice laB lnB lcB) (.slice maB mnB mcB))) := Lib.hid nwB
  have HTVB := Lib.hid (HXX.out.keep (w' := wB) (A' := fun _ => True) xwB.size (fun g _ hlt => ⟨trivial, xwB.block g hlt⟩))
  have EB := Lib.hid ewB
  clear nwB ewB
  rw [swA] at HCB
  have hxb := xwB
  replace HCA := Lib.hid (HCA.out.ext hxb)
  replace HTVA := Lib.hid (HTVA.out.keep (A' := fun _ => True) hxb.size (fun g _ hlt => ⟨trivial, hxb.block g hlt⟩))
  replace HPL := Lib.hid (HPL.out.keep (A' := fun _ => True) hxb.size (fun g _ hlt => ⟨trivial, hxb.block g hlt⟩))
  replace HPM := Lib.hid (HPM.out.keep (A' := fun _ => True) hxb.size (fun g _ hlt => ⟨trivial, hxb.block g hlt⟩))
  replace HE := Lib.hid (ext_trans HE.out hxb)
  clear hxb
  clear HXX xwA xwB swA swB
  simp only [cellsV] at HCA EA HTVA HCB EB HTVB ⊢
  go_enter Tryz.func3, Tryz.ntmps3
  go_upto_region 1 with fail
  rw [EA.out, EB.out]
  obtain ⟨S, hS⟩ : ∃ S, w.heap.size = S := ⟨_, rfl⟩
  rw [hS] at HCA HCB ⊢
  clear hS EA EB
  go_wp2_with fail
  refine (vawake wB (HTB.out.ext HE.out)).mono ?_
  rintro e w1 ⟨rfl, hx1⟩
  replace HCA := Lib.hid (HCA.out.ext hx1)
  replace HTVA := Lib.hid (HTVA.out.keep (A' := fun _ => True) hx1.size (fun g _ hlt => ⟨trivial, hx1.block g hlt⟩))
  replace HCB := Lib.hid (HCB.out.ext hx1)
  replace HTVB := Lib.hid (HTVB.out.keep (A' := fun _ => True) hx1.size (fun g _ hlt => ⟨trivial, hx1.block g hlt⟩))
  replace HPL := Lib.hid (HPL.out.keep (A' := fun _ => True) hx1.size (fun g _ hlt => ⟨trivial, hx1.block g hlt⟩))
  replace HPM := Lib.hid (HPM.out.keep (A' := fun _ => True) hx1.size (fun g _ hlt => ⟨trivial, hx1.block g hlt⟩))
  replace HE := Lib.hid (ext_trans HE.out hx1)
  clear hx1
  have c0 := HCA.out.cell 0; have c1 := HCA.out.cell 1; have c2 := HCA.out.cell 2; have c3 := HCA.out.cell 3; have c4 := HCA.out.cell 4; have c5 := HCA.out.cell 5; have c6 := HCA.out.cell 6; have c7 := HCA.out.cell 7
  simp at c0 c1 c2 c3 c4 c5 c6 c7
  go_wp2_with fail
  refine (few_any t _ _ 2000 w1 HOK.out (by omega) (by omega) HTVA.out).mono ?_
  rintro e w2 ⟨rfl, hx2⟩
  replace HCA := Lib.hid (HCA.out.ext hx2)
  replace HTVA := Lib.hid (HTVA.out.keep (A' := fun _ => True) hx2.size (fun g _ hlt => ⟨trivial, hx2.block g hlt⟩))
  replace HCB := Lib.hid (HCB.out.ext hx2)
  replace HTVB := Lib.hid (HTVB.out.keep (A' := fun _ => True) hx2.size (fun g _ hlt => ⟨trivial, hx2.block g hlt⟩))
  replace HPL := Lib.hid (HPL.out.keep (A' := fun _ => True) hx2.size (fun g _ hlt => ⟨trivial, hx2.block g hlt⟩))
  replace HPM := Lib.hid (HPM.out.keep (A' := fun _ => True) hx2.size (fun g _ hlt => ⟨trivial, hx2.block g hlt⟩))
  replace HE := Lib.hid (ext_trans HE.out hx2)
  clear hx2
  clear c0 c1 c2 c3 c4 c5 c6 c7
  by_cases hf : 0 ≤ fewT 0 2000 t
  rotate_left
  · rw [decide_eq_false hf]
    go_wp2_with fail
    go_ret
    exact ⟨rfl, HE.out⟩
  have hwt : weightT t ≤ 2000 := by have := fewT_weight t 0 2000 hf; omega
  rw [decide_eq_true hf]
  clear hf
  have d0 := HCB.out.cell 0; have d1 := HCB.out.cell 1; have d2 := HCB.out.cell 2; have d3 := HCB.out.cell 3; have d4 := HCB.out.cell 4; have d5 := HCB.out.cell 5; have d6 := HCB.out.cell 6; have d7 := HCB.out.cell 7
  simp at d0 d1 d2 d3 d4 d5 d6 d7
  go_wp2_with fail
  refine (few_any x _ _ 500 w2 HOKX.out (by omega) (by omega) HTVB.out).mono ?_
  rintro e w3 ⟨rfl, hx3⟩
  replace HCA := Lib.hid (HCA.out.ext hx3)
  replace HTVA := Lib.hid (HTVA.out.keep (A' := fun _ => True) hx3.size (fun g _ hlt => ⟨trivial, hx3.block g hlt⟩))
  replace HCB := Lib.hid (HCB.out.ext hx3)
  replace HTVB := Lib.hid (HTVB.out.keep (A' := fun _ => True) hx3.size (fun g _ hlt => ⟨trivial, hx3.block g hlt⟩))
  replace HPL := Lib.hid (HPL.out.keep (A' := fun _ => True) hx3.size (fun g _ hlt => ⟨trivial, hx3.block g hlt⟩))
  replace HPM := Lib.hid (HPM.out.keep (A' := fun _ => True) hx3.size (fun g _ hlt => ⟨trivial, hx3.block g hlt⟩))
  replace HE := Lib.hid (ext_trans HE.out hx3)
  clear hx3
  clear d0 d1 d2 d3 d4 d5 d6 d7
  by_cases hf : 0 ≤ fewT 0 500 x
  rotate_left
  · rw [decide_eq_false hf]
    go_wp2_with fail
    go_ret
    exact ⟨rfl, HE.out⟩
  have hwx : weightT x ≤ 500 := by have := fewT_weight x 0 500 hf; omega
  rw [decide_eq_true hf]
  clear hf
  go_wp2_with fail
  refine (fewS_any _ _ l w3 HPL.out HOKL.out).mono ?_
  rintro e w4 ⟨rfl, hx4⟩
  replace HCA := Lib.hid (HCA.out.ext hx4)
  replace HTVA := Lib.hid (HTVA.out.keep (A' := fun _ => True) hx4.size (fun g _ hlt => ⟨trivial, hx4.block g hlt⟩))
  replace HCB := Lib.hid (HCB.out.ext hx4)
  replace HTVB := Lib.hid (HTVB.out.keep (A' := fun _ => True) hx4.size (fun g _ hlt => ⟨trivial, hx4.block g hlt⟩))
  replace HPL := Lib.hid (HPL.out.keep (A' := fun _ => True) hx4.size (fun g _ hlt => ⟨trivial, hx4.block g hlt⟩))
  replace HPM := Lib.hid (HPM.out.keep (A' := fun _ => True) hx4.size (fun g _ hlt => ⟨trivial, hx4.block g hlt⟩))
  replace HE := Lib.hid (ext_trans HE.out hx4)
  clear hx4
  cases hfl : fewP l with
  | false =>
    go_wp2_with fail
    go_ret
    exact ⟨rfl, HE.out⟩
  | true =>
    have HFL := Lib.hid hfl
    clear hfl
    go_wp2_with fail
    refine (fewS_any _ _ m w4 HPM.out HOKM.out).mono ?_
    rintro e w5 ⟨rfl, hx5⟩
    replace HCA := Lib.hid (HCA.out.ext hx5)
    replace HTVA := Lib.hid (HTVA.out.keep (A' := fun _ => True) hx5.size (fun g _ hlt => ⟨trivial, hx5.block g hlt⟩))
    replace HCB := Lib.hid (HCB.out.ext hx5)
    replace HTVB := Lib.hid (HTVB.out.keep (A' := fun _ => True) hx5.size (fun g _ hlt => ⟨trivial, hx5.block g hlt⟩))
    replace HPL := Lib.hid (HPL.out.keep (A' := fun _ => True) hx5.size (fun g _ hlt => ⟨trivial, hx5.block g hlt⟩))
    replace HPM := Lib.hid (HPM.out.keep (A' := fun _ => True) hx5.size (fun g _ hlt => ⟨trivial, hx5.block g hlt⟩))
    replace HE := Lib.hid (ext_trans HE.out hx5)
    clear hx5
    cases hfm : fewP m with
    | false =>
      go_wp2_with fail
      go_ret
      exact ⟨rfl, HE.out⟩
    | true =>
      have HFM := Lib.hid hfm
      clear hfm
      have HWP : Hid (weightT (putT t l x).1 ≤ 1000000) := Lib.hid (put_weight hwt hwx (fewP_len HFL.out).1 (fewP_len HFL.out).2)
      have HPUT := Lib.hid (puts_law (v := t) (x := x) (l := l) (show putT t l x = ((putT t l x).1, (putT t l x).2) from rfl))
      have HC0 := Lib.hid (vput_any t x _ _ (fun _ => True) _ l w5 HTVA.out HPL.out HTVB.out (by omega))
      obtain ⟨W, hW⟩ : ∃ W, (putT t l x).1 = W := ⟨_, rfl⟩
      obtain ⟨E, hEE⟩ : ∃ E, (putT t l x).2 = E := ⟨_, rfl⟩
      have hp0 := HPUT.out
      have hc0 := HC0.out
      have hw0 := HWP.out
      rw [hW, hEE] at hp0 hc0
      rw [hW] at hw0
      replace HPUT := Lib.hid hp0
      replace HC0 := Lib.hid hc0
      replace HWP := Lib.hid hw0
      clear hp0 hc0 hw0 hW hEE
      have c0 := HCA.out.cell 0; have c1 := HCA.out.cell 1; have c2 := HCA.out.cell 2; have c3 := HCA.out.cell 3; have c4 := HCA.out.cell 4; have c5 := HCA.out.cell 5; have c6 := HCA.out.cell 6; have c7 := HCA.out.cell 7
      simp at c0 c1 c2 c3 c4 c5 c6 c7
      have d0 := HCB.out.cell 0; have d1 := HCB.out.cell 1; have d2 := HCB.out.cell 2; have d3 := HCB.out.cell 3; have d4 := HCB.out.cell 4; have d5 := HCB.out.cell 5; have d6 := HCB.out.cell 6; have d7 := HCB.out.cell 7
      simp at d0 d1 d2 d3 d4 d5 d6 d7
      go_wp2_with fail
      refine (HC0.out).mono ?_
      rintro e w6 ⟨c', rfl, htv, hx6⟩
      have htw := htv.keep (A' := fun _ => True) (Nat.le_refl _) (fun g _ hlt => ⟨trivial, rfl⟩)
      clear htv HC0
      clear c0 c1 c2 c3 c4 c5 c6 c7
      clear d0 d1 d2 d3 d4 d5 d6 d7
      replace HCA := Lib.hid (HCA.out.ext hx6)
      replace HTVA := Lib.hid (HTVA.out.keep (A' := fun _ => True) hx6.size (fun g _ hlt => ⟨trivial, hx6.block g hlt⟩))
      replace HCB := Lib.hid (HCB.out.ext hx6)
      replace HTVB := Lib.hid (HTVB.out.keep (A' := fun _ => True) hx6.size (fun g _ hlt => ⟨trivial, hx6.block g hlt⟩))
      replace HPL := Lib.hid (HPL.out.keep (A' := fun _ => True) hx6.size (fun g _ hlt => ⟨trivial, hx6.block g hlt⟩))
      replace HPM := Lib.hid (HPM.out.keep (A' := fun _ => True) hx6.size (fun g _ hlt => ⟨trivial, hx6.block g hlt⟩))
      replace HE := Lib.hid (ext_trans HE.out hx6)
      clear hx6
      obtain ⟨kW, bW, dW, sW, laW, lnW, lcW, maW, mnW, mcW, rfl⟩ := htw.eight
      obtain ⟨w6b, ew6b⟩ : ∃ W, w6.alloc (.cells (cellsV kW bW dW sW (.slice laW lnW lcW) (.slice maW mnW mcW)) 27) = W := ⟨_, rfl⟩
      have nw6b : w6b.heap[w6.heap.size]? = some (.cells (cellsV kW bW dW sW (.slice laW lnW lcW) (.slice maW mnW mcW)) 27) := by rw [← ew6b]; exact heap_alloc_new _ _
      have xw6b : Ext w6 w6b := by rw [← ew6b]; exact (ext_refl _).alloc (Nat.le_refl _) _
      have sw6b : w6b.heap.size = w6.heap.size + 1 := by rw [← ew6b]; simp
      have HCW : Hid (VAt w6b w6.heap.size (cellsV kW bW dW sW (.slice laW lnW lcW) (.slice maW mnW mcW))) := Lib.hid nw6b
      have HTVW := Lib.hid (htw.keep (w' := w6b) (A' := fun _ => True) xw6b.size (fun g _ hlt => ⟨trivial, xw6b.block g hlt⟩))
      have EW := Lib.hid ew6b
      clear nw6b ew6b
      have hxb := xw6b
      obtain ⟨QW, hQW⟩ : ∃ Q, w6.heap.size = Q := ⟨_, rfl⟩
      clear htw xw6b
      try clear sw6b
      replace HCA := Lib.hid (HCA.out.ext hxb)
      replace HTVA := Lib.hid (HTVA.out.keep (A' := fun _ => True) hxb.size (fun g _ hlt => ⟨trivial, hxb.block g hlt⟩))
      replace HCB := Lib.hid (HCB.out.ext hxb)
      replace HTVB := Lib.hid (HTVB.out.keep (A' := fun _ => True) hxb.size (fun g _ hlt => ⟨trivial, hxb.block g hlt⟩))
      replace HPL := Lib.hid (HPL.out.keep (A' := fun _ => True) hxb.size (fun g _ hlt => ⟨trivial, hxb.block g hlt⟩))
      replace HPM := Lib.hid (HPM.out.keep (A' := fun _ => True) hxb.size (fun g _ hlt => ⟨trivial, hxb.block g hlt⟩))
      replace HE := Lib.hid (ext_trans HE.out hxb)
      clear hxb
      simp only [cellsV] at HCW EW HTVW ⊢
      go_upto_region 5 with fail
      rw [EW.out]
      rw [hQW] at HCW
      clear hQW EW
      by_cases hz : E = 0
      rotate_left
      · obtain ⟨hE8, hWN⟩ := HPUT.out.1 hz
        have hne : (E != 0) = true := by simpa using hz
        clear HPUT HWP HFL HFM hz
        subst hWN
        have hcn : countT tNull = 1 := by decide +kernel
        rcases hE8 with rfl | rfl
        · clear hne
          have f0 := HCW.out.cell 0; have f1 := HCW.out.cell 1; have f2 := HCW.out.cell 2; have f3 := HCW.out.cell 3; have f4 := HCW.out.cell 4; have f5 := HCW.out.cell 5; have f6 := HCW.out.cell 6; have f7 := HCW.out.cell 7
          simp at f0 f1 f2 f3 f4 f5 f6 f7
          go_wp2_with fail
          refine (count_any tNull _ _ w6b (by decide +kernel) HTVW.out).mono ?_
          rintro e w7 ⟨rfl, hx7⟩
          rw [hcn]
          replace HE := Lib.hid (ext_trans HE.out hx7)
          clear hx7
          go_wp2_with fail
          go_ret
          exact ⟨rfl, HE.out⟩
        · clear hne
          have f0 := HCW.out.cell 0; have f1 := HCW.out.cell 1; have f2 := HCW.out.cell 2; have f3 := HCW.out.cell 3; have f4 := HCW.out.cell 4; have f5 := HCW.out.cell 5; have f6 := HCW.out.cell 6; have f7 := HCW.out.cell 7
          simp at f0 f1 f2 f3 f4 f5 f6 f7
          go_wp2_with fail
          refine (count_any tNull _ _ w6b (by decide +kernel) HTVW.out).mono ?_
          rintro e w7 ⟨rfl, hx7⟩
          rw [hcn]
          replace HE := Lib.hid (ext_trans HE.out hx7)
          clear hx7
          go_wp2_with fail
          go_ret
          exact ⟨rfl, HE.out⟩
      subst hz
      obtain ⟨hat, hpt, hmm⟩ := HPUT.out.2 rfl
      have HMM := Lib.hid hmm
      have HPT := Lib.hid hpt
      have HAT := Lib.hid hat
      clear HPUT hat hpt hmm
      have HCA1 := Lib.hid (at_any W _ (fun _ => True) _ l w6b HTVW.out HPL.out)
      rw [HAT.out] at HCA1
      have f0 := HCW.out.cell 0; have f1 := HCW.out.cell 1; have f2 := HCW.out.cell 2; have f3 := HCW.out.cell 3; have f4 := HCW.out.cell 4; have f5 := HCW.out.cell 5; have f6 := HCW.out.cell 6; have f7 := HCW.out.cell 7
      simp at f0 f1 f2 f3 f4 f5 f6 f7
      go_wp2_with fail
      refine (HCA1.out).mono ?_
      rintro e w7 ⟨c', rfl, htv, hx7⟩
      simp only [Option.isSome_some, Option.getD_some] at htv ⊢
      clear HCA1
      clear f0 f1 f2 f3 f4 f5 f6 f7
      replace HCA := Lib.hid (HCA.out.ext hx7)
      replace HTVA := Lib.hid (HTVA.out.keep (A' := fun _ => True) hx7.size (fun g _ hlt => ⟨trivial, hx7.block g hlt⟩))
      replace HCB := Lib.hid (HCB.out.ext hx7)
      replace HTVB := Lib.hid (HTVB.out.keep (A' := fun _ => True) hx7.size (fun g _ hlt => ⟨trivial, hx7.block g hlt⟩))
      replace HCW := Lib.hid (HCW.out.ext hx7)
      replace HTVW := Lib.hid (HTVW.out.keep (A' := fun _ => True) hx7.size (fun g _ hlt => ⟨trivial, hx7.block g hlt⟩))
      replace HPL := Lib.hid (HPL.out.keep (A' := fun _ => True) hx7.size (fun g _ hlt => ⟨trivial, hx7.block g hlt⟩))
      replace HPM := Lib.hid (HPM.out.keep (A' := fun _ => True) hx7.size (fun g _ hlt => ⟨trivial, hx7.block g hlt⟩))
      replace HE := Lib.hid (ext_trans HE.out hx7)
      clear hx7
      obtain ⟨kY, bY, dY, sY, laY, lnY, lcY, maY, mnY, mcY, rfl⟩ := htv.eight
      obtain ⟨w7b, ew7b⟩ : ∃ W, w7.alloc (.cells (cellsV kY bY dY sY (.slice laY lnY lcY) (.slice maY mnY mcY)) 27) = W := ⟨_, rfl⟩
      have nw7b : w7b.heap[w7.heap.size]? = some (.cells (cellsV kY bY dY sY (.slice laY lnY lcY) (.slice maY mnY mcY)) 27) := by rw [← ew7b]; exact heap_alloc_new _ _
      have xw7b : Ext w7 w7b := by rw [← ew7b]; exact (ext_refl _).alloc (Nat.le_refl _) _
      have sw7b : w7b.heap.size = w7.heap.size + 1 := by rw [← ew7b]; simp
      have HCY : Hid (VAt w7b w7.heap.size (cellsV kY bY dY sY (.slice laY lnY lcY) (.slice maY mnY mcY))) := Lib.hid nw7b
      have HTVY := Lib.hid (htv.keep (w' := w7b) (A' := fun _ => True) xw7b.size (fun g _ hlt => ⟨trivial, xw7b.block g hlt⟩))
      have EY := Lib.hid ew7b
      clear nw7b ew7b
      have hxb := xw7b
      obtain ⟨QY, hQY⟩ : ∃ Q, w7.heap.size = Q := ⟨_, rfl⟩
      clear htv xw7b
      try clear sw7b
      replace HCA := Lib.hid (HCA.out.ext hxb)
      replace HTVA := Lib.hid (HTVA.out.keep (A' := fun _ => True) hxb.size (fun g _ hlt => ⟨trivial, hxb.block g hlt⟩))
      replace HCB := Lib.hid (HCB.out.ext hxb)
      replace HTVB := Lib.hid (HTVB.out.keep (A' := fun _ => True) hxb.size (fun g _ hlt => ⟨trivial, hxb.block g hlt⟩))
      replace HCW := Lib.hid (HCW.out.ext hxb)
      replace HTVW := Lib.hid (HTVW.out.keep (A' := fun _ => True) hxb.size (fun g _ hlt => ⟨trivial, hxb.block g hlt⟩))
      replace HPL := Lib.hid (HPL.out.keep (A' := fun _ => True) hxb.size (fun g _ hlt => ⟨trivial, hxb.block g hlt⟩))
      replace HPM := Lib.hid (HPM.out.keep (A' := fun _ => True) hxb.size (fun g _ hlt => ⟨trivial, hxb.block g hlt⟩))
      replace HE := Lib.hid (ext_trans HE.out hxb)
      clear hxb
      simp only [cellsV] at HCY EY HTVY ⊢
      go_upto_region 8 with fail
      rw [EY.out]
      rw [hQY] at HCY
      clear hQY EY
      have HCB1 := Lib.hid (vput_any W x _ _ (fun _ => True) _ l w7b HTVW.out HPL.out HTVB.out HWP.out)
      rw [HPT.out] at HCB1
      have f0 := HCW.out.cell 0; have f1 := HCW.out.cell 1; have f2 := HCW.out.cell 2; have f3 := HCW.out.cell 3; have f4 := HCW.out.cell 4; have f5 := HCW.out.cell 5; have f6 := HCW.out.cell 6; have f7 := HCW.out.cell 7
      simp at f0 f1 f2 f3 f4 f5 f6 f7
      have d0 := HCB.out.cell 0; have d1 := HCB.out.cell 1; have d2 := HCB.out.cell 2; have d3 := HCB.out.cell 3; have d4 := HCB.out.cell 4; have d5 := HCB.out.cell 5; have d6 := HCB.out.cell 6; have d7 := HCB.out.cell 7
      simp at d0 d1 d2 d3 d4 d5 d6 d7
      go_wp2_with fail
      refine (HCB1.out).mono ?_
      rintro e w8 ⟨c', rfl, htv, hx8⟩
      simp only at htv ⊢
      have htw := htv.keep (A' := fun _ => True) (Nat.le_refl _) (fun g _ hlt => ⟨trivial, rfl⟩)
      clear HCB1 htv
      clear f0 f1 f2 f3 f4 f5 f6 f7
      clear d0 d1 d2 d3 d4 d5 d6 d7
      replace HCA := Lib.hid (HCA.out.ext hx8)
      replace HTVA := Lib.hid (HTVA.out.keep (A' := fun _ => True) hx8.size (fun g _ hlt => ⟨trivial, hx8.block g hlt⟩))
      replace HCB := Lib.hid (HCB.out.ext hx8)
      replace HTVB := Lib.hid (HTVB.out.keep (A' := fun _ => True) hx8.size (fun g _ hlt => ⟨trivial, hx8.block g hlt⟩))
      replace HCW := Lib.hid (HCW.out.ext hx8)
      replace HTVW := Lib.hid (HTVW.out.keep (A' := fun _ => True) hx8.size (fun g _ hlt => ⟨trivial, hx8.block g hlt⟩))
      replace HCY := Lib.hid (HCY.out.ext hx8)
      replace HTVY := Lib.hid (HTVY.out.keep (A' := fun _ => True) hx8.size (fun g _ hlt => ⟨trivial, hx8.block g hlt⟩))
      replace HPL := Lib.hid (HPL.out.keep (A' := fun _ => True) hx8.size (fun g _ hlt => ⟨trivial, hx8.block g hlt⟩))
      replace HPM := Lib.hid (HPM.out.keep (A' := fun _ => True) hx8.size (fun g _ hlt => ⟨trivial, hx8.block g hlt⟩))
      replace HE := Lib.hid (ext_trans HE.out hx8)
      clear hx8
      obtain ⟨kU, bU, dU, sU, laU, lnU, lcU, maU, mnU, mcU, rfl⟩ := htw.eight
      obtain ⟨w8b, ew8b⟩ : ∃ W, w8.alloc (.cells (cellsV kU bU dU sU (.slice laU lnU lcU) (.slice maU mnU mcU)) 27) = W := ⟨_, rfl⟩
      have nw8b : w8b.heap[w8.heap.size]? = some (.cells (cellsV kU bU dU sU (.slice laU lnU lcU) (.slice maU mnU mcU)) 27) := by rw [← ew8b]; exact heap_alloc_new _ _
      have xw8b : Ext w8 w8b := by rw [← ew8b]; exact (ext_refl _).alloc (Nat.le_refl _) _
      have sw8b : w8b.heap.size = w8.heap.size + 1 := by rw [← ew8b]; simp
      have HCU : Hid (VAt w8b w8.heap.size (cellsV kU bU dU sU (.slice laU lnU lcU) (.slice maU mnU mcU))) := Lib.hid nw8b
      have HTVU := Lib.hid (htw.keep (w' := w8b) (A' := fun _ => True) xw8b.size (fun g _ hlt => ⟨trivial, xw8b.block g hlt⟩))
      have EU := Lib.hid ew8b
      clear nw8b ew8b
      have hxb := xw8b
      obtain ⟨QU, hQU⟩ : ∃ Q, w8.heap.size = Q := ⟨_, rfl⟩
      clear htw xw8b
      try clear sw8b
      replace HCA := Lib.hid (HCA.out.ext hxb)
      replace HTVA := Lib.hid (HTVA.out.keep (A' := fun _ => True) hxb.size (fun g _ hlt => ⟨trivial, hxb.block g hlt⟩))
      replace HCB := Lib.hid (HCB.out.ext hxb)
      replace HTVB := Lib.hid (HTVB.out.keep (A' := fun _ => True) hxb.size (fun g _ hlt => ⟨trivial, hxb.block g hlt⟩))
      replace HCW := Lib.hid (HCW.out.ext hxb)
      replace HTVW := Lib.hid (HTVW.out.keep (A' := fun _ => True) hxb.size (fun g _ hlt => ⟨trivial, hxb.block g hlt⟩))
      replace HCY := Lib.hid (HCY.out.ext hxb)
      replace HTVY := Lib.hid (HTVY.out.keep (A' := fun _ => True) hxb.size (fun g _ hlt => ⟨trivial, hxb.block g hlt⟩))
      replace HPL := Lib.hid (HPL.out.keep (A' := fun _ => True) hxb.size (fun g _ hlt => ⟨trivial, hxb.block g hlt⟩))
      replace HPM := Lib.hid (HPM.out.keep (A' := fun _ => True) hxb.size (fun g _ hlt => ⟨trivial, hxb.block g hlt⟩))
      replace HE := Lib.hid (ext_trans HE.out hxb)
      clear hxb
      simp only [cellsV] at HCU EU HTVU ⊢
      go_upto_region 9 with fail
      rw [EU.out]
      rw [hQU] at HCU
      clear hQU EU
      have hex : exactT x x = true := exactT_refl x
      have hew : exactT W W = true := exactT_refl W
      have f0 := HCY.out.cell 0; have f1 := HCY.out.cell 1; have f2 := HCY.out.cell 2; have f3 := HCY.out.cell 3; have f4 := HCY.out.cell 4; have f5 := HCY.out.cell 5; have f6 := HCY.out.cell 6; have f7 := HCY.out.cell 7
      simp at f0 f1 f2 f3 f4 f5 f6 f7
      have d0 := HCB.out.cell 0; have d1 := HCB.out.cell 1; have d2 := HCB.out.cell 2; have d3 := HCB.out.cell 3; have d4 := HCB.out.cell 4; have d5 := HCB.out.cell 5; have d6 := HCB.out.cell 6; have d7 := HCB.out.cell 7
      simp at d0 d1 d2 d3 d4 d5 d6 d7
      go_wp2_with fail
      refine (exact_any x x _ _ _ _ w8b HTVY.out HTVB.out).mono ?_
      rintro e w9 ⟨rfl, hx9⟩
      rw [hex]
      clear f0 f1 f2 f3 f4 f5 f6 f7
      clear d0 d1 d2 d3 d4 d5 d6 d7
      replace HCA := Lib.hid (HCA.out.ext hx9)
      replace HTVA := Lib.hid (HTVA.out.keep (A' := fun _ => True) hx9.size (fun g _ hlt => ⟨trivial, hx9.block g hlt⟩))
      replace HCB := Lib.hid (HCB.out.ext hx9)
      replace HTVB := Lib.hid (HTVB.out.keep (A' := fun _ => True) hx9.size (fun g _ hlt => ⟨trivial, hx9.block g hlt⟩))
      replace HCW := Lib.hid (HCW.out.ext hx9)
      replace HTVW := Lib.hid (HTVW.out.keep (A' := fun _ => True) hx9.size (fun g _ hlt => ⟨trivial, hx9.block g hlt⟩))
      replace HCY := Lib.hid (HCY.out.ext hx9)
      replace HTVY := Lib.hid (HTVY.out.keep (A' := fun _ => True) hx9.size (fun g _ hlt => ⟨trivial, hx9.block g hlt⟩))
      replace HCU := Lib.hid (HCU.out.ext hx9)
      replace HTVU := Lib.hid (HTVU.out.keep (A' := fun _ => True) hx9.size (fun g _ hlt => ⟨trivial, hx9.block g hlt⟩))
      replace HPL := Lib.hid (HPL.out.keep (A' := fun _ => True) hx9.size (fun g _ hlt => ⟨trivial, hx9.block g hlt⟩))
      replace HPM := Lib.hid (HPM.out.keep (A' := fun _ => True) hx9.size (fun g _ hlt => ⟨trivial, hx9.block g hlt⟩))
      replace HE := Lib.hid (ext_trans HE.out hx9)
      clear hx9
      clear HCY HTVY HCB HTVB
      have f0 := HCU.out.cell 0; have f1 := HCU.out.cell 1; have f2 := HCU.out.cell 2; have f3 := HCU.out.cell 3; have f4 := HCU.out.cell 4; have f5 := HCU.out.cell 5; have f6 := HCU.out.cell 6; have f7 := HCU.out.cell 7
      simp at f0 f1 f2 f3 f4 f5 f6 f7
      have d0 := HCW.out.cell 0; have d1 := HCW.out.cell 1; have d2 := HCW.out.cell 2; have d3 := HCW.out.cell 3; have d4 := HCW.out.cell 4; have d5 := HCW.out.cell 5; have d6 := HCW.out.cell 6; have d7 := HCW.out.cell 7
      simp at d0 d1 d2 d3 d4 d5 d6 d7
      go_wp2_with fail
      refine (exact_any W W _ _ _ _ w9 HTVU.out HTVW.out).mono ?_
      rintro e w10 ⟨rfl, hx10⟩
      rw [hew]
      clear f0 f1 f2 f3 f4 f5 f6 f7
      clear d0 d1 d2 d3 d4 d5 d6 d7
      replace HCA := Lib.hid (HCA.out.ext hx10)
      replace HTVA := Lib.hid (HTVA.out.keep (A' := fun _ => True) hx10.size (fun g _ hlt => ⟨trivial, hx10.block g hlt⟩))
      replace HCW := Lib.hid (HCW.out.ext hx10)
      replace HTVW := Lib.hid (HTVW.out.keep (A' := fun _ => True) hx10.size (fun g _ hlt => ⟨trivial, hx10.block g hlt⟩))
      replace HCU := Lib.hid (HCU.out.ext hx10)
      replace HTVU := Lib.hid (HTVU.out.keep (A' := fun _ => True) hx10.size (fun g _ hlt => ⟨trivial, hx10.block g hlt⟩))
      replace HPL := Lib.hid (HPL.out.keep (A' := fun _ => True) hx10.size (fun g _ hlt => ⟨trivial, hx10.block g hlt⟩))
      replace HPM := Lib.hid (HPM.out.keep (A' := fun _ => True) hx10.size (fun g _ hlt => ⟨trivial, hx10.block g hlt⟩))
      replace HE := Lib.hid (ext_trans HE.out hx10)
      clear hx10
      clear HCU HTVU hex hew
      obtain ⟨R1, hR1⟩ : ∃ R, atT t m = R := ⟨_, rfl⟩
      obtain ⟨R2, hR2⟩ : ∃ R, atT W m = R := ⟨_, rfl⟩
      have HEQ : Hid (¬ aheadP l m → ¬ aheadP m l → R1 = R2) := Lib.hid (fun a b => by rw [← hR1, ← hR2]; exact HMM.out m a b)
      have HCD1 := Lib.hid (at_any t _ (fun _ => True) _ m w10 HTVA.out HPM.out)
      rw [hR1] at HCD1
      have HR2 := Lib.hid hR2
      clear hR1 hR2 HMM HPT HAT HWP
      have c0 := HCA.out.cell 0; have c1 := HCA.out.cell 1; have c2 := HCA.out.cell 2; have c3 := HCA.out.cell 3; have c4 := HCA.out.cell 4; have c5 := HCA.out.cell 5; have c6 := HCA.out.cell 6; have c7 := HCA.out.cell 7
      simp at c0 c1 c2 c3 c4 c5 c6 c7
      go_wp2_with fail
      refine (HCD1.out).mono ?_
      rintro e w11 ⟨c', rfl, htv, hx11⟩
      clear HCD1
      clear c0 c1 c2 c3 c4 c5 c6 c7
      clear HCA HTVA
      replace HCW := Lib.hid (HCW.out.ext hx11)
      replace HTVW := Lib.hid (HTVW.out.keep (A' := fun _ => True) hx11.size (fun g _ hlt => ⟨trivial, hx11.block g hlt⟩))
      replace HPL := Lib.hid (HPL.out.keep (A' := fun _ => True) hx11.size (fun g _ hlt => ⟨trivial, hx11.block g hlt⟩))
      replace HPM := Lib.hid (HPM.out.keep (A' := fun _ => True) hx11.size (fun g _ hlt => ⟨trivial, hx11.block g hlt⟩))
      replace HE := Lib.hid (ext_trans HE.out hx11)
      clear hx11
      obtain ⟨kP, bP, dP, sP, laP, lnP, lcP, maP, mnP, mcP, rfl⟩ := htv.eight
      obtain ⟨w11b, ew11b⟩ : ∃ W, w11.alloc (.cells (cellsV kP bP dP sP (.slice laP lnP lcP) (.slice maP mnP mcP)) 27) = W := ⟨_, rfl⟩
      have nw11b : w11b.heap[w11.heap.size]? = some (.cells (cellsV kP bP dP sP (.slice laP lnP lcP) (.slice maP mnP mcP)) 27) := by rw [← ew11b]; exact heap_alloc_new _ _
      have xw11b : Ext w11 w11b := by rw [← ew11b]; exact (ext_refl _).alloc (Nat.le_refl _) _
      have sw11b : w11b.heap.size = w11.heap.size + 1 := by rw [← ew11b]; simp
      have HCP : Hid (VAt w11b w11.heap.size (cellsV kP bP dP sP (.slice laP lnP lcP) (.slice maP mnP mcP))) := Lib.hid nw11b
      have HTVP := Lib.hid (htv.keep (w' := w11b) (A' := fun _ => True) xw11b.size (fun g _ hlt => ⟨trivial, xw11b.block g hlt⟩))
      have EP := Lib.hid ew11b
      clear nw11b ew11b
      have hxb := xw11b
      obtain ⟨QP, hQP⟩ : ∃ Q, w11.heap.size = Q := ⟨_, rfl⟩
      clear htv xw11b
      try clear sw11b
      replace HCW := Lib.hid (HCW.out.ext hxb)
      replace HTVW := Lib.hid (HTVW.out.keep (A' := fun _ => True) hxb.size (fun g _ hlt => ⟨trivial, hxb.block g hlt⟩))
      replace HPL := Lib.hid (HPL.out.keep (A' := fun _ => True) hxb.size (fun g _ hlt => ⟨trivial, hxb.block g hlt⟩))
      replace HPM := Lib.hid (HPM.out.keep (A' := fun _ => True) hxb.size (fun g _ hlt => ⟨trivial, hxb.block g hlt⟩))
      replace HE := Lib.hid (ext_trans HE.out hxb)
      clear hxb
      simp only [cellsV] at HCP EP HTVP ⊢
      go_upto_region 12 with fail
      rw [EP.out]
      rw [hQP] at HCP
      clear hQP EP
      have HCD2 := Lib.hid (at_any W _ (fun _ => True) _ m w11b HTVW.out HPM.out)
      rw [HR2.out] at HCD2
      have f0 := HCW.out.cell 0; have f1 := HCW.out.cell 1; have f2 := HCW.out.cell 2; have f3 := HCW.out.cell 3; have f4 := HCW.out.cell 4; have f5 := HCW.out.cell 5; have f6 := HCW.out.cell 6; have f7 := HCW.out.cell 7
      simp at f0 f1 f2 f3 f4 f5 f6 f7
      go_wp2_with fail
      refine (HCD2.out).mono ?_
      rintro e w12 ⟨c', rfl, htv, hx12⟩
      clear HCD2 HR2
      clear f0 f1 f2 f3 f4 f5 f6 f7
      clear HCW HTVW
      replace HCP := Lib.hid (HCP.out.ext hx12)
      replace HTVP := Lib.hid (HTVP.out.keep (A' := fun _ => True) hx12.size (fun g _ hlt => ⟨trivial, hx12.block g hlt⟩))
      replace HPL := Lib.hid (HPL.out.keep (A' := fun _ => True) hx12.size (fun g _ hlt => ⟨trivial, hx12.block g hlt⟩))
      replace HPM := Lib.hid (HPM.out.keep (A' := fun _ => True) hx12.size (fun g _ hlt => ⟨trivial, hx12.block g hlt⟩))
      replace HE := Lib.hid (ext_trans HE.out hx12)
      clear hx12
      obtain ⟨kR, bR, dR, sR, laR, lnR, lcR, maR, mnR, mcR, rfl⟩ := htv.eight
      obtain ⟨w12b, ew12b⟩ : ∃ W, w12.alloc (.cells (cellsV kR bR dR sR (.slice laR lnR lcR) (.slice maR mnR mcR)) 27) = W := ⟨_, rfl⟩
      have nw12b : w12b.heap[w12.heap.size]? = some (.cells (cellsV kR bR dR sR (.slice laR lnR lcR) (.slice maR mnR mcR)) 27) := by rw [← ew12b]; exact heap_alloc_new _ _
      have xw12b : Ext w12 w12b := by rw [← ew12b]; exact (ext_refl _).alloc (Nat.le_refl _) _
      have sw12b : w12b.heap.size = w12.heap.size + 1 := by rw [← ew12b]; simp
      have HCR : Hid (VAt w12b w12.heap.size (cellsV kR bR dR sR (.slice laR lnR lcR) (.slice maR mnR mcR))) := Lib.hid nw12b
      have HTVR := Lib.hid (htv.keep (w' := w12b) (A' := fun _ => True) xw12b.size (fun g _ hlt => ⟨trivial, xw12b.block g hlt⟩))
      have ER := Lib.hid ew12b
      clear nw12b ew12b
      have hxb := xw12b
      obtain ⟨QR, hQR⟩ : ∃ Q, w12.heap.size = Q := ⟨_, rfl⟩
      clear htv xw12b
      try clear sw12b
      replace HCP := Lib.hid (HCP.out.ext hxb)
      replace HTVP := Lib.hid (HTVP.out.keep (A' := fun _ => True) hxb.size (fun g _ hlt => ⟨trivial, hxb.block g hlt⟩))
      replace HPL := Lib.hid (HPL.out.keep (A' := fun _ => True) hxb.size (fun g _ hlt => ⟨trivial, hxb.block g hlt⟩))
      replace HPM := Lib.hid (HPM.out.keep (A' := fun _ => True) hxb.size (fun g _ hlt => ⟨trivial, hxb.block g hlt⟩))
      replace HE := Lib.hid (ext_trans HE.out hxb)
      clear hxb
      simp only [cellsV] at HCR ER HTVR ⊢
      go_upto_region 13 with fail
      rw [ER.out]
      rw [hQR] at HCR
      clear hQR ER
      have HH1 := Lib.hid (ahead_any _ _ _ _ l m w12b HPL.out HPM.out HOKL.out HOKM.out)
      by_cases ha : aheadP l m
      · rw [decide_eq_true ha] at HH1
        clear HEQ
        go_wp2_with fail
        refine (HH1.out).mono ?_
        rintro e w13 ⟨rfl, hx13⟩
        replace HE := Lib.hid (ext_trans HE.out hx13)
        clear hx13
        go_wp2_with fail
        go_ret
        exact ⟨rfl, HE.out⟩
      rw [decide_eq_false ha] at HH1
      go_wp2_with fail
      refine (HH1.out).mono ?_
      rintro e w13 ⟨rfl, hx13⟩
      clear HH1
      replace HCP := Lib.hid (HCP.out.ext hx13)
      replace HTVP := Lib.hid (HTVP.out.keep (A' := fun _ => True) hx13.size (fun g _ hlt => ⟨trivial, hx13.block g hlt⟩))
      replace HCR := Lib.hid (HCR.out.ext hx13)
      replace HTVR := Lib.hid (HTVR.out.keep (A' := fun _ => True) hx13.size (fun g _ hlt => ⟨trivial, hx13.block g hlt⟩))
      replace HPL := Lib.hid (HPL.out.keep (A' := fun _ => True) hx13.size (fun g _ hlt => ⟨trivial, hx13.block g hlt⟩))
      replace HPM := Lib.hid (HPM.out.keep (A' := fun _ => True) hx13.size (fun g _ hlt => ⟨trivial, hx13.block g hlt⟩))
      replace HE := Lib.hid (ext_trans HE.out hx13)
      clear hx13
      have HH1 := Lib.hid (ahead_any _ _ _ _ m l w13 HPM.out HPL.out HOKM.out HOKL.out)
      by_cases hb : aheadP m l
      · rw [decide_eq_true hb] at HH1
        clear HEQ
        go_wp2_with fail
        refine (HH1.out).mono ?_
        rintro e w14 ⟨rfl, hx14⟩
        replace HE := Lib.hid (ext_trans HE.out hx14)
        clear hx14
        go_wp2_with fail
        go_ret
        exact ⟨rfl, HE.out⟩
      rw [decide_eq_false hb] at HH1
      obtain rfl := HEQ.out ha hb
      obtain ⟨IS, hIS⟩ : ∃ b, R1.isSome = b := ⟨_, rfl⟩
      rw [hIS]
      have hbb : (IS == IS) = true := by simp
      obtain ⟨X, hX⟩ : ∃ X, R1.getD tNull = X := ⟨_, rfl⟩
      rw [hX] at HTVP HTVR
      have hee : exactT X X = true := exactT_refl X
      clear HEQ hIS hX ha hb
      go_wp2_with fail
      refine (HH1.out).mono ?_
      rintro e w14 ⟨rfl, hx14⟩
      clear HH1
      replace HCP := Lib.hid (HCP.out.ext hx14)
      replace HTVP := Lib.hid (HTVP.out.keep (A' := fun _ => True) hx14.size (fun g _ hlt => ⟨trivial, hx14.block g hlt⟩))
      replace HCR := Lib.hid (HCR.out.ext hx14)
      replace HTVR := Lib.hid (HTVR.out.keep (A' := fun _ => True) hx14.size (fun g _ hlt => ⟨trivial, hx14.block g hlt⟩))
      replace HPL := Lib.hid (HPL.out.keep (A' := fun _ => True) hx14.size (fun g _ hlt => ⟨trivial, hx14.block g hlt⟩))
      replace HPM := Lib.hid (HPM.out.keep (A' := fun _ => True) hx14.size (fun g _ hlt => ⟨trivial, hx14.block g hlt⟩))
      replace HE := Lib.hid (ext_trans HE.out hx14)
      clear hx14
      have f0 := HCP.out.cell 0; have f1 := HCP.out.cell 1; have f2 := HCP.out.cell 2; have f3 := HCP.out.cell 3; have f4 := HCP.out.cell 4; have f5 := HCP.out.cell 5; have f6 := HCP.out.cell 6; have f7 := HCP.out.cell 7
      simp at f0 f1 f2 f3 f4 f5 f6 f7
      have d0 := HCR.out.cell 0; have d1 := HCR.out.cell 1; have d2 := HCR.out.cell 2; have d3 := HCR.out.cell 3; have d4 := HCR.out.cell 4; have d5 := HCR.out.cell 5; have d6 := HCR.out.cell 6; have d7 := HCR.out.cell 7
      simp at d0 d1 d2 d3 d4 d5 d6 d7
      go_wp2_with fail
      refine (exact_any X X _ _ _ _ w14 HTVP.out HTVR.out).mono ?_
      rintro e w15 ⟨rfl, hx15⟩
      rw [hee]
      replace HE := Lib.hid (ext_trans HE.out hx15)
      clear hx15
      go_wp2_with fail
      go_ret
      exact ⟨rfl, HE.out⟩
set_option linter.unusedSimpArgs false
theorem own : ownKnob Tryz.prog.godebug = none := by kernel_rfl
theorem laid : laidOutB Tryz.prog = true := by kernel_rfl
set_option maxHeartbeats 1600000 in
set_option maxRecDepth 100000 in
theorem lifted (os : Os) (started : os.Started) (H : Type) (enc : TypeId × Value → H) :
    ReturnsInHanded {} Tryz.checked os 3 .any (fun w args => (Rows.valuePutsSpec.pre enc Tryz.prog Tryz.f3 [] false w args ∧ laidMetH Tryz.prog Rows.valuePutsRow.laid w) ∧ sizedMet enc Tryz.prog Tryz.f3 (OpenSpec.ofChange Rows.valuePutsSpec) false w args) (Rows.valuePutsSpec.post enc Tryz.prog Tryz.f3 false true false false) := by
  refine returnsInHanded_of_change_and (C := Tryz.checked) (X := fun w _ => laidMetH Tryz.prog Rows.valuePutsRow.laid w) (fun _ _ _ hh h => h.of_heap hh) own started (by kernel_rfl) Tryz.func3
    (ChangeSpec.witness_shaped (enc := enc) (C := Tryz.checked) (os := os) (X := fun w _ => laidMetH Tryz.prog Rows.valuePutsRow.laid w) false (World.laidAll Tryz.prog os Rows.valuePutsRow.laid) #[.agg #[.int .i64 0, .bool false, .bool false, .string ⟨#[]⟩, .int .i64 0, .string ⟨#[]⟩, .slice none 0 0, .slice none 0 0], .slice none 0 0, .slice none 0 0, .agg #[.int .i64 0, .bool false, .bool false, .string ⟨#[]⟩, .int .i64 0, .string ⟨#[]⟩, .slice none 0 0, .slice none 0 0]] 8 (World.laidAll_os _ _ _)
      (World.shaped_of_ZipB (by kernel_rfl) (by kernel_rfl)) (by kernel_rfl) (by kernel_rfl) (by kernel_rfl)
      (by rw [MakeChecks.laidMetH_plain _ _ _ (by kernel_rfl)]; exact laidMet_laidAll _ (by kernel_rfl) (by kernel_rfl))) ?_
  intro W base args ds gs before hval0 hW _ hsz0 hX _
  have hT : Tab W := tab_of hX
  have hsz : (DataW.weightsEach Tryz.prog (Tryz.f3.params.toList ++ Rows.valuePutsSpec.plain.varTypes Tryz.prog) (ds ++ gs)).all (· ≤ reachBytes) = true := hsz0
  clear hsz0
  have hval : ∀ (j : Nat) t v, Tryz.f3.params[j]? = some t → args[j]? = some v → Value.okWide Tryz.prog W .any base t v := hval0
  have hW' := hW
  obtain ⟨p, q, hA0, hV, rfl, _, _⟩ := hW
  have hA : DataW.TrodAll enc Tryz.prog W 0 (fun _ => true) true Tryz.f3.params.toList args.toList ds p := hA0
  rw [Tryz.params3] at hA hval hsz
  obtain ⟨v0, vs0, d0, ds0, p0, q0, ha0, rfl, rfl, h0, r0⟩ := trodAll_cons hA
  obtain ⟨v1, vs1, d1, ds1, p1, q1, ha1, rfl, rfl, h1, r1⟩ := trodAll_cons r0
  obtain ⟨v2, vs2, d2, ds2, p2, q2, ha2, rfl, rfl, h2, r2⟩ := trodAll_cons r1
  obtain ⟨v3, vs3, d3, ds3, p3, q3, ha3, rfl, rfl, h3, r3⟩ := trodAll_cons r2
  obtain ⟨hb4, rfl, rfl⟩ := trodAll_nil r3
  subst hb4
  subst ha3
  subst ha2
  subst ha1
  obtain rfl : args = #[v0, v1, v2, v3] := by cases args; simpa using ha0
  obtain ⟨rfl, rfl⟩ := trodVars_none hV
  have hk0 := h0
  obtain ⟨cs0, rfl, _⟩ := okWide_struct Tryz.underlying27 (hval 0 27 v0 rfl rfl)
  obtain ⟨fu0, hf0⟩ := h0
  obtain ⟨t0, ht0, hok0⟩ := trod_val (enc := enc) W fu0 _ d0 p0 hf0 (fun n hn => by simpa using List.all_eq_true.1 hsz _ (DataW.weights_mem_each (j := 0) rfl rfl n hn))
  have hk1 := h1
  obtain ⟨a1, len1, cap1, rfl⟩ := okWide_slice Tryz.underlying28 (hval 1 28 v1 rfl rfl)
  obtain ⟨fu1, hf1⟩ := h1
  obtain ⟨t1, ht1, hok1⟩ := trod_steps (enc := enc) W fu1 _ d1 p1 hf1 (fun n hn => by simpa using List.all_eq_true.1 hsz _ (DataW.weights_mem_each (j := 1) rfl rfl n hn))
  have hk2 := h2
  obtain ⟨a2, len2, cap2, rfl⟩ := okWide_slice Tryz.underlying28 (hval 2 28 v2 rfl rfl)
  obtain ⟨fu2, hf2⟩ := h2
  obtain ⟨t2, ht2, hok2⟩ := trod_steps (enc := enc) W fu2 _ d2 p2 hf2 (fun n hn => by simpa using List.all_eq_true.1 hsz _ (DataW.weights_mem_each (j := 2) rfl rfl n hn))
  have hk3 := h3
  obtain ⟨cs3, rfl, _⟩ := okWide_struct Tryz.underlying27 (hval 3 27 v3 rfl rfl)
  obtain ⟨fu3, hf3⟩ := h3
  obtain ⟨t3, ht3, hok3⟩ := trod_val (enc := enc) W fu3 _ d3 p3 hf3 (fun n hn => by simpa using List.all_eq_true.1 hsz _ (DataW.weights_mem_each (j := 3) rfl rfl n hn))
  have hlt := fun x hx => hW'.lt x hx
  simp only [List.append_nil, List.nil_append] at hW' hlt
  refine (walk t0 _ t1 _ t2 _ t3 _ W hT ht0 hok0 (ht1 _ rfl) hok1 (ht2 _ rfl) hok2 ht3 hok3).mono fun e W' ⟨he, hb⟩ => ?_
  subst he
  have hargs := (trodAll_cons_mk (Below.trod laid readV (of_decide_eq_true (by kernel_rfl)) hk0 hb (fun x hx => by first | exact hlt x hx | exact absurd hx (List.not_mem_nil) | exact hlt x (by simp [hx]))) (trodAll_cons_mk (Below.trod laid (by kernel_rfl) (of_decide_eq_true (by kernel_rfl)) hk1 hb (fun x hx => by first | exact hlt x hx | exact absurd hx (List.not_mem_nil) | exact hlt x (by simp [hx]))) (trodAll_cons_mk (Below.trod laid (by kernel_rfl) (of_decide_eq_true (by kernel_rfl)) hk2 hb (fun x hx => by first | exact hlt x hx | exact absurd hx (List.not_mem_nil) | exact hlt x (by simp [hx]))) (trodAll_cons_mk (Below.trod laid readV (of_decide_eq_true (by kernel_rfl)) hk3 hb (fun x hx => by first | exact hlt x hx | exact absurd hx (List.not_mem_nil) | exact hlt x (by simp [hx]))) trodAll_mk0))))
  exact ⟨_, rfl, _, _, _, [], _, [], hW', trodAll_cons_mk (shut_bool Tryz.underlying4 _) trodAll_mk0, hargs, rfl, hb.frame _, fun h => by cases h⟩

theorem closed : joinedFacts Tryz.prog 3 Tryz.f3 Rows.valuePutsSpec Rows.valuePutsRow = true := by
  have hp : Tryz.f3.params.toList ++ Rows.valuePutsSpec.plain.varTypes Tryz.prog = [27, 28, 28, 27] := by kernel_rfl
  have hr : Tryz.f3.resultTypes.toList = [4] := by kernel_rfl
  have hq : Tryz.f3.params = #[27, 28, 28, 27] := by kernel_rfl
  refine joined_of (by kernel_rfl) ?_ (by kernel_rfl) ?_ ?_ (by kernel_rfl) ?_ ?_ (by kernel_rfl) ?_ (veiledFits_of rfl ?_ (by kernel_rfl))
  · rw [hq]; simp [readV, show Tryz.prog.readableRec 28 = true by kernel_rfl]
  · rw [hp]; simp only [List.any_cons, List.any_nil, mapsV, show Tryz.prog.mapsRec 28 = false by kernel_rfl]; rfl
  · rw [hp]; simp only [List.any_cons, List.any_nil, ifacesV, show Tryz.prog.ifacesRec 28 = false by kernel_rfl]; rfl
  · rw [hp]; simp only [List.any_cons, List.any_nil, loopsV, show Tryz.prog.loopsFrom 28 = false by kernel_rfl]; rfl
  · rw [hp, hr]; simp only [List.cons_append, List.nil_append, List.any_cons, List.any_nil, wideV, show Tryz.prog.wideKeysFrom 28 = false by kernel_rfl, show Tryz.prog.wideKeysFrom 4 = false by kernel_rfl]; rfl
  · rw [hp, hr]; simp only [List.cons_append, List.nil_append, List.any_cons, List.any_nil, veiledV, show Tryz.prog.veiledRec 28 = false by kernel_rfl, show Tryz.prog.veiledRec 4 = false by kernel_rfl]; rfl
  · rw [hp, hr]; simp only [List.cons_append, List.nil_append, List.all_cons, List.all_nil, ownV, show Tryz.prog.veiledOwn 28 = true by kernel_rfl, show Tryz.prog.veiledOwn 4 = true by kernel_rfl]; rfl
theorem held : Rows.ValuePutsSaid :=
  OpenClaim.holds_of_wide 3 Tryz.f3 rfl rfl rfl rfl rfl rfl rfl ⟨rfl, rfl, rfl, rfl, rfl⟩ rfl rfl rfl rfl rfl (by kernel_rfl) Tryz.func3 closed
    (of_decide_eq_true (by kernel_rfl)) (by unfold Func.isWrapper; first | (rw [if_pos (by decide +kernel)]; kernel_rfl) | (rw [if_neg (by decide +kernel)]; exact ⟨rfl, rfl⟩))
    (fun os started H enc _ => lifted os started H enc)

theorem proved : Rows.ValuePutsCardSaid :=
  Claim7.holds_tied_plain_at .later [] Rows.valuePutsCard.laidKinds true Rows.valuePutsCard.stood.harness Rows.valuePutsCard.stood.looks held (fun _ h => by cases h) (by kernel_rfl) (fun _ h => by cases h) valuePuts_row_tie rfl ⟨rfl, rfl⟩ (by kernel_rfl) rfl
    (fun f fn hf hfn => by
      obtain rfl : f = 3 := Option.some.inj ((show Tryz.prog.funcNamed "orangery/orangerylaw03.ValuePuts" = some 3 by kernel_rfl).symm.trans hf) |>.symm
      obtain rfl : fn = Tryz.f3 := (Option.some.inj (Tryz.func3.symm.trans hfn)).symm
      exact ⟨by kernel_rfl, fun j t ht => by
        rw [Tryz.params3] at ht
        have hm : t ∈ [27, 28, 28, 27] := by simpa using Array.mem_of_getElem? ht
        have hall : ([27, 28, 28, 27].all fun u => !Tryz.prog.wantsStandIn u) = true := by kernel_rfl
        exact (show Tryz.prog.wantsStandIn t = false by simpa using List.all_eq_true.1 hall t hm)⟩)
    (by kernel_rfl)
end Go.Proofs.YtjapbjmeoaagmaaGreatDoor.valuePuts
