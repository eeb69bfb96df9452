/- ValueSorts: whatever the arguments, the law returns true and what came in reads as it did. No condition. -/
import Derived.Test.YtjapbjmeoaagmaaGreatDoorRows
import Derived.Test.YtjapbjmeoaagmaaGreatDoorCards
import Derived.Test.YtjapbjmeoaagmaaGreatDoorTie
import Derived.Test.YtjapbjmeoaagmaaGreatDoorQValueSD3
import Derived.Test.YtjapbjmeoaagmaaGreatDoorQValueSD1
import Derived.Test.YtjapbjmeoaagmaaGreatDoorQValueSD2
import Derived.Test.YtjapbjmeoaagmaaGreatDoorQValueSD4
import Derived.ProofKit
import Derived.SizedLaws
import Derived.OpenShut
import Derived.Lay
import Derived.LaidMore
import Derived.SevenTiedAt
import Derived.IntWalk
set_option linter.unusedVariables false
set_option linter.unusedSimpArgs false
set_option maxRecDepth 100000
namespace Go.Proofs.YtjapbjmeoaagmaaGreatDoor.valueSorts
open Go.ChangeShapes Go.WideShapes Go.ChangeAt Go.RowKit Go.Mem Orange
-- the box of an argument $1: its TV: $2, named by $3 (k b d ..), the world $4 -> $5; leaves HC$3, HTV$3
-- a call's world: hx : Ext w w': carries the boxes ($2: their names) and HE; new name of the world: $1
theorem weightM_perm {l m : List Mem1} (h : l.Perm m) : weightM l = weightM m := by
  induction h with
  | nil => rfl
  | cons x _ ih => obtain ⟨k, t⟩ := x; rw [weightM, weightM, ih]
  | swap x y l => obtain ⟨k, t⟩ := x; obtain ⟨k', t'⟩ := y; rw [weightM, weightM, weightM, weightM]; omega
  | trans _ _ h1 h2 => rw [h1, h2]
mutual
theorem weightT_sorted : ∀ t : Tree, weightT (sortedT t) = weightT t
  | .mk k b d s l m => by rw [sortedT, weightT, weightT, weightL_sorted l, weightM_perm (sortM_perm _), weightM_sorted m]
theorem weightL_sorted : ∀ l : List Tree, weightL (sortedL l) = weightL l
  | [] => by rw [sortedL]
  | t :: l => by rw [sortedL, weightL, weightL, weightT_sorted t, weightL_sorted l]
theorem weightM_sorted : ∀ m : List Mem1, weightM (sortedM m) = weightM m
  | [] => by rw [sortedM]
  | (k, t) :: m => by rw [sortedM, weightM, weightM, weightT_sorted t, weightM_sorted m]
end
def specTVg (T : Tree) : Grow.Spec Ext :=
  ⟨fun v => ∃ k b d s a1 n1 c1 a2 n2 c2, v = .agg (cellsV k b d s (.slice a1 n1 c1) (.slice a2 n2 c2)), fun v w => ∃ c, v = .agg c ∧ TV w (fun _ => True) T c, ⟨_, 0, false, Num.zero, [], none, 0, 0, none, 0, 0, rfl⟩,
    fun v w w' ⟨c, e, h⟩ hg => ⟨c, e, h.keep (A' := fun _ => True) hg.size (fun g _ hlt => ⟨trivial, hg.block g hlt⟩)⟩⟩
theorem agg_inj {c c' : Array Value} (h : Value.agg c = .agg c') : c = c' := by cases h; rfl
set_option maxHeartbeats 12800000 in
theorem walk (t : Tree) (c : Array Value) (u : Tree) (cu : Array Value) (w : World) (hT : Tab w) (ht : TV w (fun _ => True) t c) (hok : okT t) (hu : TV w (fun _ => True) u cu) (hoku : okT u) :
    Calls Tryz.prog 7 #[.agg c, .agg cu] w fun e w' => e = .returned (.bool true) ∧ Ext w w' := by
  have HTB := Lib.hid hT
  have HOK := Lib.hid hok
  have HOKU := Lib.hid hoku
  have HUU := Lib.hid hu
  have HE := Lib.hid (ext_refl w)
  clear hT hok hoku hu
  obtain ⟨kA, bA, dA, sA, laA, lnA, lcA, maA, mnA, mcA, rfl⟩ := ht.eight
  obtain ⟨wA, ewA⟩ : ∃ W, w.alloc (.cells (cellsV kA bA dA sA (.slice laA lnA lcA) (.slice maA mnA mcA)) 27) = W := ⟨_, rfl⟩
  have nwA : wA.heap[w.heap.size]? = some (.cells (cellsV kA bA dA sA (.slice laA lnA lcA) (.slice maA mnA mcA)) 27) := by rw [← ewA]; exact heap_alloc_new _ _
  have xwA : Ext w wA := by rw [← ewA]; exact (ext_refl _).alloc (Nat.le_refl _) _
  have swA : wA.heap.size = w.heap.size + 1 := by rw [← ewA]; simp
  have HCA : Hid (VAt wA w.heap.size (cellsV kA bA dA sA (.slice laA lnA lcA) (.slice maA mnA mcA))) := Lib.hid nwA
  have HTVA := Lib.hid (ht.keep (w' := wA) (A' := fun _ => True) xwA.size (fun g _ hlt => ⟨trivial, xwA.block g hlt⟩))
  have EA := Lib.hid ewA
  clear nwA ewA
  replace HUU := Lib.hid (HUU.out.keep (w' := wA) (A' := fun _ => True) xwA.size (fun g _ hlt => ⟨trivial, xwA.block g hlt⟩))
  clear ht
  have hxb := xwA
  replace HE := Lib.hid (ext_trans HE.out hxb)
  clear hxb
  obtain ⟨kB, bB, dB, sB, laB, lnB, lcB, maB, mnB, mcB, rfl⟩ := HUU.out.eight
  obtain ⟨wB, ewB⟩ : ∃ W, wA.alloc (.cells (cellsV kB bB dB sB (.slice laB lnB lcB) (.slice maB mnB mcB)) 27) = W := ⟨_, rfl⟩
  have nwB : wB.heap[wA.heap.size]? = some (.cells (cellsV kB bB dB sB (.slice laB lnB lcB) (.slice maB mnB mcB)) 27) := by rw [← ewB]; exact heap_alloc_new _ _
  have xwB : Ext wA wB := by rw [← ewB]; exact (ext_refl _).alloc (Nat.le_refl _) _
  have swB : wB.heap.size = wA.heap.size + 1 := by rw [← ewB]; simp
  have HCB : Hid (VAt wB wA.heap.size (cellsV kB bB dB sB (.slice laB lnB lcB) (.slice maB mnB mcB))) := Lib.hid nwB
  have HTVB := Lib.hid (HUU.out.keep (w' := wB) (A' := fun _ => True) xwB.size (fun g _ hlt => ⟨trivial, xwB.block g hlt⟩))
  have EB := Lib.hid ewB
  clear nwB ewB
  rw [swA] at HCB
  have hxb := xwB
  replace HCA := Lib.hid (HCA.out.ext hxb)
  replace HTVA := Lib.hid (HTVA.out.keep (A' := fun _ => True) hxb.size (fun g _ hlt => ⟨trivial, hxb.block g hlt⟩))
  replace HE := Lib.hid (ext_trans HE.out hxb)
  clear hxb
  clear HUU xwA xwB swA swB
  simp only [cellsV] at HCA EA HTVA HCB EB HTVB ⊢
  go_enter Tryz.func7, Tryz.ntmps7
  go_upto_region 1 with fail
  rw [EA.out, EB.out]
  obtain ⟨S, hS⟩ : ∃ S, w.heap.size = S := ⟨_, rfl⟩
  rw [hS] at HCA HCB ⊢
  clear hS EA EB
  go_wp2_with fail
  refine (vawake wB (HTB.out.ext HE.out)).mono ?_
  rintro e w1 ⟨rfl, hx1⟩
  replace HCA := Lib.hid (HCA.out.ext hx1)
  replace HTVA := Lib.hid (HTVA.out.keep (A' := fun _ => True) hx1.size (fun g _ hlt => ⟨trivial, hx1.block g hlt⟩))
  replace HCB := Lib.hid (HCB.out.ext hx1)
  replace HTVB := Lib.hid (HTVB.out.keep (A' := fun _ => True) hx1.size (fun g _ hlt => ⟨trivial, hx1.block g hlt⟩))
  replace HE := Lib.hid (ext_trans HE.out hx1)
  clear hx1
  have c0 := HCA.out.cell 0; have c1 := HCA.out.cell 1; have c2 := HCA.out.cell 2; have c3 := HCA.out.cell 3; have c4 := HCA.out.cell 4; have c5 := HCA.out.cell 5; have c6 := HCA.out.cell 6; have c7 := HCA.out.cell 7
  simp at c0 c1 c2 c3 c4 c5 c6 c7
  go_wp2_with fail
  refine (few_any t _ _ 2000 w1 HOK.out (by omega) (by omega) HTVA.out).mono ?_
  rintro e w2 ⟨rfl, hx2⟩
  replace HCA := Lib.hid (HCA.out.ext hx2)
  replace HTVA := Lib.hid (HTVA.out.keep (A' := fun _ => True) hx2.size (fun g _ hlt => ⟨trivial, hx2.block g hlt⟩))
  replace HCB := Lib.hid (HCB.out.ext hx2)
  replace HTVB := Lib.hid (HTVB.out.keep (A' := fun _ => True) hx2.size (fun g _ hlt => ⟨trivial, hx2.block g hlt⟩))
  replace HE := Lib.hid (ext_trans HE.out hx2)
  clear hx2
  clear c0 c1 c2 c3 c4 c5 c6 c7
  by_cases hf : 0 ≤ fewT 0 2000 t
  rotate_left
  · rw [decide_eq_false hf]
    go_wp2_with fail
    go_ret
    exact ⟨rfl, HE.out⟩
  have hwt : weightT t ≤ 2000 := by have := fewT_weight t 0 2000 hf; omega
  rw [decide_eq_true hf]
  clear hf
  have d0 := HCB.out.cell 0; have d1 := HCB.out.cell 1; have d2 := HCB.out.cell 2; have d3 := HCB.out.cell 3; have d4 := HCB.out.cell 4; have d5 := HCB.out.cell 5; have d6 := HCB.out.cell 6; have d7 := HCB.out.cell 7
  simp at d0 d1 d2 d3 d4 d5 d6 d7
  go_wp2_with fail
  refine (few_any u _ _ 2000 w2 HOKU.out (by omega) (by omega) HTVB.out).mono ?_
  rintro e w3 ⟨rfl, hx3⟩
  replace HCA := Lib.hid (HCA.out.ext hx3)
  replace HTVA := Lib.hid (HTVA.out.keep (A' := fun _ => True) hx3.size (fun g _ hlt => ⟨trivial, hx3.block g hlt⟩))
  replace HCB := Lib.hid (HCB.out.ext hx3)
  replace HTVB := Lib.hid (HTVB.out.keep (A' := fun _ => True) hx3.size (fun g _ hlt => ⟨trivial, hx3.block g hlt⟩))
  replace HE := Lib.hid (ext_trans HE.out hx3)
  clear hx3
  clear d0 d1 d2 d3 d4 d5 d6 d7
  by_cases hf : 0 ≤ fewT 0 2000 u
  rotate_left
  · rw [decide_eq_false hf]
    go_wp2_with fail
    go_ret
    exact ⟨rfl, HE.out⟩
  have hwu : weightT u ≤ 2000 := by have := fewT_weight u 0 2000 hf; omega
  rw [decide_eq_true hf]
  clear hf
  obtain ⟨Zt, hZt⟩ : ∃ z, (saneT 0 0 t).1 = z := ⟨_, rfl⟩
  have HSA := Lib.hid (Sane_any t _ _ w3 (by omega) HTVA.out)
  rw [hZt] at HSA
  have c0 := HCA.out.cell 0; have c1 := HCA.out.cell 1; have c2 := HCA.out.cell 2; have c3 := HCA.out.cell 3; have c4 := HCA.out.cell 4; have c5 := HCA.out.cell 5; have c6 := HCA.out.cell 6; have c7 := HCA.out.cell 7
  simp at c0 c1 c2 c3 c4 c5 c6 c7
  go_wp2_with fail
  refine (HSA.out).mono ?_
  rintro e w4 ⟨rfl, hx4⟩
  replace HCA := Lib.hid (HCA.out.ext hx4)
  replace HTVA := Lib.hid (HTVA.out.keep (A' := fun _ => True) hx4.size (fun g _ hlt => ⟨trivial, hx4.block g hlt⟩))
  replace HCB := Lib.hid (HCB.out.ext hx4)
  replace HTVB := Lib.hid (HTVB.out.keep (A' := fun _ => True) hx4.size (fun g _ hlt => ⟨trivial, hx4.block g hlt⟩))
  replace HE := Lib.hid (ext_trans HE.out hx4)
  clear hx4
  clear c0 c1 c2 c3 c4 c5 c6 c7
  clear HSA
  by_cases hz : Zt = 0
  rotate_left
  · have hne : (Zt != 0) = true := by simpa using hz
    clear hz hZt
    go_wp2_with fail
    go_ret
    exact ⟨rfl, HE.out⟩
  subst hz
  have hst : SaneP t := ⟨0, 0, hZt⟩
  clear hZt
  obtain ⟨Zu, hZu⟩ : ∃ z, (saneT 0 0 u).1 = z := ⟨_, rfl⟩
  have HSA := Lib.hid (Sane_any u _ _ w4 (by omega) HTVB.out)
  rw [hZu] at HSA
  have d0 := HCB.out.cell 0; have d1 := HCB.out.cell 1; have d2 := HCB.out.cell 2; have d3 := HCB.out.cell 3; have d4 := HCB.out.cell 4; have d5 := HCB.out.cell 5; have d6 := HCB.out.cell 6; have d7 := HCB.out.cell 7
  simp at d0 d1 d2 d3 d4 d5 d6 d7
  go_wp2_with fail
  refine (HSA.out).mono ?_
  rintro e w5 ⟨rfl, hx5⟩
  replace HCA := Lib.hid (HCA.out.ext hx5)
  replace HTVA := Lib.hid (HTVA.out.keep (A' := fun _ => True) hx5.size (fun g _ hlt => ⟨trivial, hx5.block g hlt⟩))
  replace HCB := Lib.hid (HCB.out.ext hx5)
  replace HTVB := Lib.hid (HTVB.out.keep (A' := fun _ => True) hx5.size (fun g _ hlt => ⟨trivial, hx5.block g hlt⟩))
  replace HE := Lib.hid (ext_trans HE.out hx5)
  clear hx5
  clear d0 d1 d2 d3 d4 d5 d6 d7
  clear HSA
  by_cases hz : Zu = 0
  rotate_left
  · have hne : (Zu != 0) = true := by simpa using hz
    clear hz hZu
    go_wp2_with fail
    go_ret
    exact ⟨rfl, HE.out⟩
  subst hz
  have hsu : SaneP u := ⟨0, 0, hZu⟩
  clear hZu
  have HL := Lib.hid (sorts_law hst hsu)
  have hdt := SaneP.dist _ t (Nat.lt_succ_self _) hst
  have hdu := SaneP.dist _ u (Nat.lt_succ_self _) hsu
  have hda := (dist_sorted _ t (Nat.lt_succ_self _) hdt).1
  have hwa := weightT_sorted t
  have HQ := Lib.hid (sorted_any t _ (fun _ => True) w5 HTVA.out (by omega) hdt)
  obtain ⟨T1, hT1⟩ : ∃ x, sortedT t = x := ⟨_, rfl⟩
  obtain ⟨U1, hU1⟩ : ∃ x, sortedT u = x := ⟨_, rfl⟩
  have hl := HL.out
  rw [hT1, hU1] at hl
  rw [hT1] at hda hwa HQ
  replace HL := Lib.hid hl
  have HU1 := Lib.hid hU1
  clear hl hT1 hU1
  have c0 := HCA.out.cell 0; have c1 := HCA.out.cell 1; have c2 := HCA.out.cell 2; have c3 := HCA.out.cell 3; have c4 := HCA.out.cell 4; have c5 := HCA.out.cell 5; have c6 := HCA.out.cell 6; have c7 := HCA.out.cell 7
  simp at c0 c1 c2 c3 c4 c5 c6 c7
  go_wp2_with fail
  refine (HQ.out).mono ?_
  rintro e w6 ⟨c', rfl, htv, hx6⟩
  have htw := htv.keep (A' := fun _ => True) (Nat.le_refl _) (fun g _ hlt => ⟨trivial, rfl⟩)
  clear HQ htv
  clear c0 c1 c2 c3 c4 c5 c6 c7
  replace HCA := Lib.hid (HCA.out.ext hx6)
  replace HTVA := Lib.hid (HTVA.out.keep (A' := fun _ => True) hx6.size (fun g _ hlt => ⟨trivial, hx6.block g hlt⟩))
  replace HCB := Lib.hid (HCB.out.ext hx6)
  replace HTVB := Lib.hid (HTVB.out.keep (A' := fun _ => True) hx6.size (fun g _ hlt => ⟨trivial, hx6.block g hlt⟩))
  replace HE := Lib.hid (ext_trans HE.out hx6)
  clear hx6
  obtain ⟨kX, bX, dX, sX, laX, lnX, lcX, maX, mnX, mcX, rfl⟩ := htw.eight
  obtain ⟨w6b, ew6b⟩ : ∃ W, w6.alloc (.cells (cellsV kX bX dX sX (.slice laX lnX lcX) (.slice maX mnX mcX)) 27) = W := ⟨_, rfl⟩
  have nw6b : w6b.heap[w6.heap.size]? = some (.cells (cellsV kX bX dX sX (.slice laX lnX lcX) (.slice maX mnX mcX)) 27) := by rw [← ew6b]; exact heap_alloc_new _ _
  have xw6b : Ext w6 w6b := by rw [← ew6b]; exact (ext_refl _).alloc (Nat.le_refl _) _
  have sw6b : w6b.heap.size = w6.heap.size + 1 := by rw [← ew6b]; simp
  have HCX : Hid (VAt w6b w6.heap.size (cellsV kX bX dX sX (.slice laX lnX lcX) (.slice maX mnX mcX))) := Lib.hid nw6b
  have HTVX := Lib.hid (htw.keep (w' := w6b) (A' := fun _ => True) xw6b.size (fun g _ hlt => ⟨trivial, xw6b.block g hlt⟩))
  have EX := Lib.hid ew6b
  clear nw6b ew6b
  have hxb := xw6b
  obtain ⟨QX, hQX⟩ : ∃ Q, w6.heap.size = Q := ⟨_, rfl⟩
  clear htw xw6b
  try clear sw6b
  replace HCA := Lib.hid (HCA.out.ext hxb)
  replace HTVA := Lib.hid (HTVA.out.keep (A' := fun _ => True) hxb.size (fun g _ hlt => ⟨trivial, hxb.block g hlt⟩))
  replace HCB := Lib.hid (HCB.out.ext hxb)
  replace HTVB := Lib.hid (HTVB.out.keep (A' := fun _ => True) hxb.size (fun g _ hlt => ⟨trivial, hxb.block g hlt⟩))
  replace HE := Lib.hid (ext_trans HE.out hxb)
  clear hxb
  simp only [cellsV] at HCX EX HTVX ⊢
  go_upto_region 5 with fail
  rw [EX.out]
  rw [hQX] at HCX
  clear hQX EX
  have HQ := Lib.hid (sorted_any u _ (fun _ => True) w6b HTVB.out (by omega) hdu)
  rw [HU1.out] at HQ
  clear HU1
  have c0 := HCB.out.cell 0; have c1 := HCB.out.cell 1; have c2 := HCB.out.cell 2; have c3 := HCB.out.cell 3; have c4 := HCB.out.cell 4; have c5 := HCB.out.cell 5; have c6 := HCB.out.cell 6; have c7 := HCB.out.cell 7
  simp at c0 c1 c2 c3 c4 c5 c6 c7
  go_wp2_with fail
  refine (HQ.out).mono ?_
  rintro e w7 ⟨c', rfl, htv, hx7⟩
  have htw := htv.keep (A' := fun _ => True) (Nat.le_refl _) (fun g _ hlt => ⟨trivial, rfl⟩)
  clear HQ htv
  clear c0 c1 c2 c3 c4 c5 c6 c7
  replace HCA := Lib.hid (HCA.out.ext hx7)
  replace HTVA := Lib.hid (HTVA.out.keep (A' := fun _ => True) hx7.size (fun g _ hlt => ⟨trivial, hx7.block g hlt⟩))
  replace HCB := Lib.hid (HCB.out.ext hx7)
  replace HTVB := Lib.hid (HTVB.out.keep (A' := fun _ => True) hx7.size (fun g _ hlt => ⟨trivial, hx7.block g hlt⟩))
  replace HCX := Lib.hid (HCX.out.ext hx7)
  replace HTVX := Lib.hid (HTVX.out.keep (A' := fun _ => True) hx7.size (fun g _ hlt => ⟨trivial, hx7.block g hlt⟩))
  replace HE := Lib.hid (ext_trans HE.out hx7)
  clear hx7
  obtain ⟨kY, bY, dY, sY, laY, lnY, lcY, maY, mnY, mcY, rfl⟩ := htw.eight
  obtain ⟨w7b, ew7b⟩ : ∃ W, w7.alloc (.cells (cellsV kY bY dY sY (.slice laY lnY lcY) (.slice maY mnY mcY)) 27) = W := ⟨_, rfl⟩
  have nw7b : w7b.heap[w7.heap.size]? = some (.cells (cellsV kY bY dY sY (.slice laY lnY lcY) (.slice maY mnY mcY)) 27) := by rw [← ew7b]; exact heap_alloc_new _ _
  have xw7b : Ext w7 w7b := by rw [← ew7b]; exact (ext_refl _).alloc (Nat.le_refl _) _
  have sw7b : w7b.heap.size = w7.heap.size + 1 := by rw [← ew7b]; simp
  have HCY : Hid (VAt w7b w7.heap.size (cellsV kY bY dY sY (.slice laY lnY lcY) (.slice maY mnY mcY))) := Lib.hid nw7b
  have HTVY := Lib.hid (htw.keep (w' := w7b) (A' := fun _ => True) xw7b.size (fun g _ hlt => ⟨trivial, xw7b.block g hlt⟩))
  have EY := Lib.hid ew7b
  clear nw7b ew7b
  have hxb := xw7b
  obtain ⟨QY, hQY⟩ : ∃ Q, w7.heap.size = Q := ⟨_, rfl⟩
  clear htw xw7b
  try clear sw7b
  replace HCA := Lib.hid (HCA.out.ext hxb)
  replace HTVA := Lib.hid (HTVA.out.keep (A' := fun _ => True) hxb.size (fun g _ hlt => ⟨trivial, hxb.block g hlt⟩))
  replace HCB := Lib.hid (HCB.out.ext hxb)
  replace HTVB := Lib.hid (HTVB.out.keep (A' := fun _ => True) hxb.size (fun g _ hlt => ⟨trivial, hxb.block g hlt⟩))
  replace HCX := Lib.hid (HCX.out.ext hxb)
  replace HTVX := Lib.hid (HTVX.out.keep (A' := fun _ => True) hxb.size (fun g _ hlt => ⟨trivial, hxb.block g hlt⟩))
  replace HE := Lib.hid (ext_trans HE.out hxb)
  clear hxb
  simp only [cellsV] at HCY EY HTVY ⊢
  go_upto_region 6 with fail
  rw [EY.out]
  rw [hQY] at HCY
  clear hQY EY
  obtain ⟨h1, h2, h3, h4, h5⟩ := HL.out
  have hwu : weightT u ≤ 1000000 := by omega
  have hwt : weightT t ≤ 1000000 := by omega
  have hwx : weightT T1 ≤ 1000000 := by omega
  obtain ⟨bs, hbs⟩ : ∃ b, sameT t u = b := ⟨_, rfl⟩
  obtain ⟨n, hn⟩ : ∃ n, countT t = n := ⟨_, rfl⟩
  have hex : exactT T1 U1 = bs := by
    rw [← hbs, Bool.eq_iff_iff, h4]
    exact ⟨fun h => exactT_eq _ _ h, fun h => by rw [h]; exact exactT_refl _⟩
  have hct : countT t ≤ 1000000 := Nat.le_trans (count_weight t) hwt
  have HK1 : Hid (∀ w', Ext w7b w' → Calls Tryz.prog 25 #[.agg (cellsV kX bX dX sX (.slice laX lnX lcX) (.slice maX mnX mcX)), .agg (cellsV kA bA dA sA (.slice laA lnA lcA) (.slice maA mnA mcA))] w' (fun e w'' => e = .returned (.bool true) ∧ Ext w' w'')) := Lib.hid (fun w' hw => by
    have h := same_any T1 t _ _ _ _ w' hwx hwt hda hdt (HTVX.out.keep (A' := fun _ => True) hw.size (fun g _ hlt => ⟨trivial, hw.block g hlt⟩)) (HTVA.out.keep (A' := fun _ => True) hw.size (fun g _ hlt => ⟨trivial, hw.block g hlt⟩))
    rw [h1] at h
    exact h)
  have HK2 : Hid (∀ w', Ext w7b w' → Calls Tryz.prog 32 #[.agg (cellsV kX bX dX sX (.slice laX lnX lcX) (.slice maX mnX mcX))] w' (fun e w'' => ∃ c', e = .returned (.agg c') ∧ TV w'' (fun _ => True) T1 c' ∧ Ext w' w'')) := Lib.hid (fun w' hw => by
    have h := sorted_any T1 _ _ w' (HTVX.out.keep (A' := fun _ => True) hw.size (fun g _ hlt => ⟨trivial, hw.block g hlt⟩)) hwx hda
    rw [h2] at h
    refine h.mono ?_
    rintro e w'' ⟨c', rfl, h6, h7⟩
    exact ⟨c', rfl, h6.keep (A' := fun _ => True) (Nat.le_refl _) (fun g _ hlt => ⟨trivial, rfl⟩), h7⟩)
  have HK3 : Hid (∀ w', Ext w7b w' → Calls Tryz.prog 18 #[.agg (cellsV kX bX dX sX (.slice laX lnX lcX) (.slice maX mnX mcX))] w' (fun e w'' => e = .returned (.int .i64 (n : Nat)) ∧ Ext w' w'')) := Lib.hid (fun w' hw => by
    have h := count_any T1 _ _ w' (by rw [h3]; exact hct) (HTVX.out.keep (A' := fun _ => True) hw.size (fun g _ hlt => ⟨trivial, hw.block g hlt⟩))
    rw [h3, hn] at h
    exact h)
  have HK4 : Hid (∀ w', Ext w7b w' → Calls Tryz.prog 18 #[.agg (cellsV kA bA dA sA (.slice laA lnA lcA) (.slice maA mnA mcA))] w' (fun e w'' => e = .returned (.int .i64 (n : Nat)) ∧ Ext w' w'')) := Lib.hid (fun w' hw => by
    have h := count_any t _ _ w' hct (HTVA.out.keep (A' := fun _ => True) hw.size (fun g _ hlt => ⟨trivial, hw.block g hlt⟩))
    rw [hn] at h
    exact h)
  have HK5 : Hid (∀ w', Ext w7b w' → Calls Tryz.prog 25 #[.agg (cellsV kA bA dA sA (.slice laA lnA lcA) (.slice maA mnA mcA)), .agg (cellsV kB bB dB sB (.slice laB lnB lcB) (.slice maB mnB mcB))] w' (fun e w'' => e = .returned (.bool bs) ∧ Ext w' w'')) := Lib.hid (fun w' hw => by
    have h := same_any t u _ _ _ _ w' hwt hwu hdt hdu (HTVA.out.keep (A' := fun _ => True) hw.size (fun g _ hlt => ⟨trivial, hw.block g hlt⟩)) (HTVB.out.keep (A' := fun _ => True) hw.size (fun g _ hlt => ⟨trivial, hw.block g hlt⟩))
    rw [hbs] at h
    exact h)
  have HK6 : Hid (∀ w', Ext w7b w' → Calls Tryz.prog 20 #[.agg (cellsV kX bX dX sX (.slice laX lnX lcX) (.slice maX mnX mcX)), .agg (cellsV kY bY dY sY (.slice laY lnY lcY) (.slice maY mnY mcY))] w' (fun e w'' => e = .returned (.bool bs) ∧ Ext w' w'')) := Lib.hid (fun w' hw => by
    have h := exact_any T1 U1 _ _ _ _ w' (HTVX.out.keep (A' := fun _ => True) hw.size (fun g _ hlt => ⟨trivial, hw.block g hlt⟩)) (HTVY.out.keep (A' := fun _ => True) hw.size (fun g _ hlt => ⟨trivial, hw.block g hlt⟩))
    rw [hex] at h
    exact h)
  have HK7 : Hid (∀ w', Ext w7b w' → Calls Tryz.prog 25 #[.agg (cellsV kB bB dB sB (.slice laB lnB lcB) (.slice maB mnB mcB)), .agg (cellsV kA bA dA sA (.slice laA lnA lcA) (.slice maA mnA mcA))] w' (fun e w'' => e = .returned (.bool bs) ∧ Ext w' w'')) := Lib.hid (fun w' hw => by
    have h := same_any u t _ _ _ _ w' hwu hwt hdu hdt (HTVB.out.keep (A' := fun _ => True) hw.size (fun g _ hlt => ⟨trivial, hw.block g hlt⟩)) (HTVA.out.keep (A' := fun _ => True) hw.size (fun g _ hlt => ⟨trivial, hw.block g hlt⟩))
    rw [← h5, hbs] at h
    exact h)
  have hxx := exactT_refl T1
  have HK8 : Hid (∀ w' k b d s a1 n1 c1 a2 n2 c2, Ext w7b w' → TV w' (fun _ => True) T1 (cellsV k b d s (.slice a1 n1 c1) (.slice a2 n2 c2)) → Calls Tryz.prog 20 #[.agg (cellsV k b d s (.slice a1 n1 c1) (.slice a2 n2 c2)), .agg (cellsV kX bX dX sX (.slice laX lnX lcX) (.slice maX mnX mcX))] w' (fun e w'' => e = .returned (.bool true) ∧ Ext w' w'')) := Lib.hid (fun w' k b d s a1 n1 c1 a2 n2 c2 hw h6 => by
    have h := exact_any T1 T1 _ _ _ _ w' h6 (HTVX.out.keep (A' := fun _ => True) hw.size (fun g _ hlt => ⟨trivial, hw.block g hlt⟩))
    rw [hxx] at h
    exact h)
  clear h1 h2 h3 h4 h5 hbs hn hex hct hwu hwt hwx hxx hda hdt hdu HL hst hsu hwa
  simp only [cellsV] at HK1 HK2 HK3 HK4 HK5 HK6 HK7 HK8
  refine Grow.wp_region_litW (G := Ext) (B := fun w' => Ext w7b w') (anc := fun j => if j = 10 then [8] else []) (I := fun j => if j = 4 ∨ j = 10 then some (Grow.Spec.val Ext (.bool true)) else if j = 8 then some (specTVg T1) else if j = 14 ∨ j = 16 then some (Grow.Spec.val Ext (.int .i64 (n : Nat))) else if j = 22 ∨ j = 25 ∨ j = 31 ∨ j = 34 then some (Grow.Spec.val Ext (.bool bs)) else none) (by kernel_rfl) (by kernel_rfl) (by kernel_rfl) ?_ ?_ ?_
  · exact fun w w' h hg => ext_trans h hg
  · exact (ext_refl _).drew
  repeat
    (refine Grow.Wk.step (fun K hK => ?_)
     first
     | (refine Grow.step_read (by rfl) (by rfl) ext_refl ?_
        apply Exists.intro
        refine ⟨fun w hB hF => ?_, ?_⟩
        · replace hB : Ext w7b w := hB; have hcwA := HCA.out.ext hB; have ca0 := hcwA.cell 0; have ca1 := hcwA.cell 1; have ca2 := hcwA.cell 2; have ca3 := hcwA.cell 3; have ca4 := hcwA.cell 4; have ca5 := hcwA.cell 5; have ca6 := hcwA.cell 6; have ca7 := hcwA.cell 7; simp at ca0 ca1 ca2 ca3 ca4 ca5 ca6 ca7; have hcwB := HCB.out.ext hB; have cb0 := hcwB.cell 0; have cb1 := hcwB.cell 1; have cb2 := hcwB.cell 2; have cb3 := hcwB.cell 3; have cb4 := hcwB.cell 4; have cb5 := hcwB.cell 5; have cb6 := hcwB.cell 6; have cb7 := hcwB.cell 7; simp at cb0 cb1 cb2 cb3 cb4 cb5 cb6 cb7; have hcwX := HCX.out.ext hB; have cx0 := hcwX.cell 0; have cx1 := hcwX.cell 1; have cx2 := hcwX.cell 2; have cx3 := hcwX.cell 3; have cx4 := hcwX.cell 4; have cx5 := hcwX.cell 5; have cx6 := hcwX.cell 6; have cx7 := hcwX.cell 7; simp at cx0 cx1 cx2 cx3 cx4 cx5 cx6 cx7; have hcwY := HCY.out.ext hB; have cy0 := hcwY.cell 0; have cy1 := hcwY.cell 1; have cy2 := hcwY.cell 2; have cy3 := hcwY.cell 3; have cy4 := hcwY.cell 4; have cy5 := hcwY.cell 5; have cy6 := hcwY.cell 6; have cy7 := hcwY.cell 7; simp at cy0 cy1 cy2 cy3 cy4 cy5 cy6 cy7
          go_simp
          try exact rfl
        go_simp
        refine hK _ _ ?_
        clear hK K)
     | (refine Grow.step_off (by rfl) ?_
        go_simp
        refine hK _ _ ?_
        clear hK K))
  refine Grow.Wk.step (fun K hK => ?_)
  refine Grow.step_rel (by rfl) (by rfl) (fun w' hB hF => ?_) (fun v hv => ?_)
  · replace hB : Ext w7b w' := hB
    go_simp
    refine Grow.relUpon_enter ((HK1.out w' hB).mono ?_)
    rintro e w'' ⟨rfl, hw''⟩
    exact ⟨_, rfl, hw'', rfl, trivial⟩
  obtain rfl : v = _ := hv
  go_simp
  refine hK _ _ ?_
  clear hK K
  repeat
    (refine Grow.Wk.step (fun K hK => ?_)
     first
     | (refine Grow.step_read (by rfl) (by rfl) ext_refl ?_
        apply Exists.intro
        refine ⟨fun w hB hF => ?_, ?_⟩
        · replace hB : Ext w7b w := hB; have hcwA := HCA.out.ext hB; have ca0 := hcwA.cell 0; have ca1 := hcwA.cell 1; have ca2 := hcwA.cell 2; have ca3 := hcwA.cell 3; have ca4 := hcwA.cell 4; have ca5 := hcwA.cell 5; have ca6 := hcwA.cell 6; have ca7 := hcwA.cell 7; simp at ca0 ca1 ca2 ca3 ca4 ca5 ca6 ca7; have hcwB := HCB.out.ext hB; have cb0 := hcwB.cell 0; have cb1 := hcwB.cell 1; have cb2 := hcwB.cell 2; have cb3 := hcwB.cell 3; have cb4 := hcwB.cell 4; have cb5 := hcwB.cell 5; have cb6 := hcwB.cell 6; have cb7 := hcwB.cell 7; simp at cb0 cb1 cb2 cb3 cb4 cb5 cb6 cb7; have hcwX := HCX.out.ext hB; have cx0 := hcwX.cell 0; have cx1 := hcwX.cell 1; have cx2 := hcwX.cell 2; have cx3 := hcwX.cell 3; have cx4 := hcwX.cell 4; have cx5 := hcwX.cell 5; have cx6 := hcwX.cell 6; have cx7 := hcwX.cell 7; simp at cx0 cx1 cx2 cx3 cx4 cx5 cx6 cx7; have hcwY := HCY.out.ext hB; have cy0 := hcwY.cell 0; have cy1 := hcwY.cell 1; have cy2 := hcwY.cell 2; have cy3 := hcwY.cell 3; have cy4 := hcwY.cell 4; have cy5 := hcwY.cell 5; have cy6 := hcwY.cell 6; have cy7 := hcwY.cell 7; simp at cy0 cy1 cy2 cy3 cy4 cy5 cy6 cy7
          go_simp
          try exact rfl
        go_simp
        refine hK _ _ ?_
        clear hK K)
     | (refine Grow.step_off (by rfl) ?_
        go_simp
        refine hK _ _ ?_
        clear hK K))
  refine Grow.Wk.step (fun K hK => ?_)
  refine Grow.step_rel (by rfl) (by rfl) (fun w' hB hF => ?_) (fun v hv => ?_)
  · replace hB : Ext w7b w' := hB
    go_simp
    refine Grow.relUpon_enter ((HK2.out w' hB).mono ?_)
    rintro e w'' ⟨c', rfl, htv, hw''⟩
    obtain ⟨k, b, d, s, a1, n1, c1, a2, n2, c2, rfl⟩ := htv.eight
    exact ⟨_, rfl, hw'', ⟨_, _, _, _, _, _, _, _, _, _, rfl⟩, _, rfl, htv⟩
  obtain ⟨k, b, d, s, a1, n1, c1, a2, n2, c2, rfl⟩ := hv
  go_simp
  refine hK _ _ ?_
  clear hK K
  repeat
    (refine Grow.Wk.step (fun K hK => ?_)
     first
     | (refine Grow.step_read (by rfl) (by rfl) ext_refl ?_
        apply Exists.intro
        refine ⟨fun w hB hF => ?_, ?_⟩
        · replace hB : Ext w7b w := hB; have hcwA := HCA.out.ext hB; have ca0 := hcwA.cell 0; have ca1 := hcwA.cell 1; have ca2 := hcwA.cell 2; have ca3 := hcwA.cell 3; have ca4 := hcwA.cell 4; have ca5 := hcwA.cell 5; have ca6 := hcwA.cell 6; have ca7 := hcwA.cell 7; simp at ca0 ca1 ca2 ca3 ca4 ca5 ca6 ca7; have hcwB := HCB.out.ext hB; have cb0 := hcwB.cell 0; have cb1 := hcwB.cell 1; have cb2 := hcwB.cell 2; have cb3 := hcwB.cell 3; have cb4 := hcwB.cell 4; have cb5 := hcwB.cell 5; have cb6 := hcwB.cell 6; have cb7 := hcwB.cell 7; simp at cb0 cb1 cb2 cb3 cb4 cb5 cb6 cb7; have hcwX := HCX.out.ext hB; have cx0 := hcwX.cell 0; have cx1 := hcwX.cell 1; have cx2 := hcwX.cell 2; have cx3 := hcwX.cell 3; have cx4 := hcwX.cell 4; have cx5 := hcwX.cell 5; have cx6 := hcwX.cell 6; have cx7 := hcwX.cell 7; simp at cx0 cx1 cx2 cx3 cx4 cx5 cx6 cx7; have hcwY := HCY.out.ext hB; have cy0 := hcwY.cell 0; have cy1 := hcwY.cell 1; have cy2 := hcwY.cell 2; have cy3 := hcwY.cell 3; have cy4 := hcwY.cell 4; have cy5 := hcwY.cell 5; have cy6 := hcwY.cell 6; have cy7 := hcwY.cell 7; simp at cy0 cy1 cy2 cy3 cy4 cy5 cy6 cy7
          go_simp
          try exact rfl
        go_simp
        refine hK _ _ ?_
        clear hK K)
     | (refine Grow.step_off (by rfl) ?_
        go_simp
        refine hK _ _ ?_
        clear hK K))
  refine Grow.Wk.step (fun K hK => ?_)
  refine Grow.step_rel (by rfl) (by rfl) (fun w' hB hF => ?_) (fun v hv => ?_)
  · replace hB : Ext w7b w' := hB
    obtain ⟨c', ec, htv⟩ := hF 8 (by simp)
    obtain rfl := agg_inj ec
    go_simp
    refine Grow.relUpon_enter ((HK8.out w' _ _ _ _ _ _ _ _ _ _ hB htv).mono ?_)
    rintro e w'' ⟨rfl, hw''⟩
    exact ⟨_, rfl, hw'', rfl, trivial⟩
  obtain rfl : v = _ := hv
  go_simp
  refine hK _ _ ?_
  clear hK K
  repeat
    (refine Grow.Wk.step (fun K hK => ?_)
     first
     | (refine Grow.step_read (by rfl) (by rfl) ext_refl ?_
        apply Exists.intro
        refine ⟨fun w hB hF => ?_, ?_⟩
        · replace hB : Ext w7b w := hB; have hcwA := HCA.out.ext hB; have ca0 := hcwA.cell 0; have ca1 := hcwA.cell 1; have ca2 := hcwA.cell 2; have ca3 := hcwA.cell 3; have ca4 := hcwA.cell 4; have ca5 := hcwA.cell 5; have ca6 := hcwA.cell 6; have ca7 := hcwA.cell 7; simp at ca0 ca1 ca2 ca3 ca4 ca5 ca6 ca7; have hcwB := HCB.out.ext hB; have cb0 := hcwB.cell 0; have cb1 := hcwB.cell 1; have cb2 := hcwB.cell 2; have cb3 := hcwB.cell 3; have cb4 := hcwB.cell 4; have cb5 := hcwB.cell 5; have cb6 := hcwB.cell 6; have cb7 := hcwB.cell 7; simp at cb0 cb1 cb2 cb3 cb4 cb5 cb6 cb7; have hcwX := HCX.out.ext hB; have cx0 := hcwX.cell 0; have cx1 := hcwX.cell 1; have cx2 := hcwX.cell 2; have cx3 := hcwX.cell 3; have cx4 := hcwX.cell 4; have cx5 := hcwX.cell 5; have cx6 := hcwX.cell 6; have cx7 := hcwX.cell 7; simp at cx0 cx1 cx2 cx3 cx4 cx5 cx6 cx7; have hcwY := HCY.out.ext hB; have cy0 := hcwY.cell 0; have cy1 := hcwY.cell 1; have cy2 := hcwY.cell 2; have cy3 := hcwY.cell 3; have cy4 := hcwY.cell 4; have cy5 := hcwY.cell 5; have cy6 := hcwY.cell 6; have cy7 := hcwY.cell 7; simp at cy0 cy1 cy2 cy3 cy4 cy5 cy6 cy7
          go_simp
          try exact rfl
        go_simp
        refine hK _ _ ?_
        clear hK K)
     | (refine Grow.step_off (by rfl) ?_
        go_simp
        refine hK _ _ ?_
        clear hK K))
  refine Grow.Wk.step (fun K hK => ?_)
  refine Grow.step_rel (by rfl) (by rfl) (fun w' hB hF => ?_) (fun v hv => ?_)
  · replace hB : Ext w7b w' := hB
    go_simp
    refine Grow.relUpon_enter ((HK3.out w' hB).mono ?_)
    rintro e w'' ⟨rfl, hw''⟩
    exact ⟨_, rfl, hw'', rfl, trivial⟩
  obtain rfl : v = _ := hv
  go_simp
  refine hK _ _ ?_
  clear hK K
  repeat
    (refine Grow.Wk.step (fun K hK => ?_)
     first
     | (refine Grow.step_read (by rfl) (by rfl) ext_refl ?_
        apply Exists.intro
        refine ⟨fun w hB hF => ?_, ?_⟩
        · replace hB : Ext w7b w := hB; have hcwA := HCA.out.ext hB; have ca0 := hcwA.cell 0; have ca1 := hcwA.cell 1; have ca2 := hcwA.cell 2; have ca3 := hcwA.cell 3; have ca4 := hcwA.cell 4; have ca5 := hcwA.cell 5; have ca6 := hcwA.cell 6; have ca7 := hcwA.cell 7; simp at ca0 ca1 ca2 ca3 ca4 ca5 ca6 ca7; have hcwB := HCB.out.ext hB; have cb0 := hcwB.cell 0; have cb1 := hcwB.cell 1; have cb2 := hcwB.cell 2; have cb3 := hcwB.cell 3; have cb4 := hcwB.cell 4; have cb5 := hcwB.cell 5; have cb6 := hcwB.cell 6; have cb7 := hcwB.cell 7; simp at cb0 cb1 cb2 cb3 cb4 cb5 cb6 cb7; have hcwX := HCX.out.ext hB; have cx0 := hcwX.cell 0; have cx1 := hcwX.cell 1; have cx2 := hcwX.cell 2; have cx3 := hcwX.cell 3; have cx4 := hcwX.cell 4; have cx5 := hcwX.cell 5; have cx6 := hcwX.cell 6; have cx7 := hcwX.cell 7; simp at cx0 cx1 cx2 cx3 cx4 cx5 cx6 cx7; have hcwY := HCY.out.ext hB; have cy0 := hcwY.cell 0; have cy1 := hcwY.cell 1; have cy2 := hcwY.cell 2; have cy3 := hcwY.cell 3; have cy4 := hcwY.cell 4; have cy5 := hcwY.cell 5; have cy6 := hcwY.cell 6; have cy7 := hcwY.cell 7; simp at cy0 cy1 cy2 cy3 cy4 cy5 cy6 cy7
          go_simp
          try exact rfl
        go_simp
        refine hK _ _ ?_
        clear hK K)
     | (refine Grow.step_off (by rfl) ?_
        go_simp
        refine hK _ _ ?_
        clear hK K))
  refine Grow.Wk.step (fun K hK => ?_)
  refine Grow.step_rel (by rfl) (by rfl) (fun w' hB hF => ?_) (fun v hv => ?_)
  · replace hB : Ext w7b w' := hB
    go_simp
    refine Grow.relUpon_enter ((HK4.out w' hB).mono ?_)
    rintro e w'' ⟨rfl, hw''⟩
    exact ⟨_, rfl, hw'', rfl, trivial⟩
  obtain rfl : v = _ := hv
  go_simp
  refine hK _ _ ?_
  clear hK K
  repeat
    (refine Grow.Wk.step (fun K hK => ?_)
     first
     | (refine Grow.step_read (by rfl) (by rfl) ext_refl ?_
        apply Exists.intro
        refine ⟨fun w hB hF => ?_, ?_⟩
        · replace hB : Ext w7b w := hB; have hcwA := HCA.out.ext hB; have ca0 := hcwA.cell 0; have ca1 := hcwA.cell 1; have ca2 := hcwA.cell 2; have ca3 := hcwA.cell 3; have ca4 := hcwA.cell 4; have ca5 := hcwA.cell 5; have ca6 := hcwA.cell 6; have ca7 := hcwA.cell 7; simp at ca0 ca1 ca2 ca3 ca4 ca5 ca6 ca7; have hcwB := HCB.out.ext hB; have cb0 := hcwB.cell 0; have cb1 := hcwB.cell 1; have cb2 := hcwB.cell 2; have cb3 := hcwB.cell 3; have cb4 := hcwB.cell 4; have cb5 := hcwB.cell 5; have cb6 := hcwB.cell 6; have cb7 := hcwB.cell 7; simp at cb0 cb1 cb2 cb3 cb4 cb5 cb6 cb7; have hcwX := HCX.out.ext hB; have cx0 := hcwX.cell 0; have cx1 := hcwX.cell 1; have cx2 := hcwX.cell 2; have cx3 := hcwX.cell 3; have cx4 := hcwX.cell 4; have cx5 := hcwX.cell 5; have cx6 := hcwX.cell 6; have cx7 := hcwX.cell 7; simp at cx0 cx1 cx2 cx3 cx4 cx5 cx6 cx7; have hcwY := HCY.out.ext hB; have cy0 := hcwY.cell 0; have cy1 := hcwY.cell 1; have cy2 := hcwY.cell 2; have cy3 := hcwY.cell 3; have cy4 := hcwY.cell 4; have cy5 := hcwY.cell 5; have cy6 := hcwY.cell 6; have cy7 := hcwY.cell 7; simp at cy0 cy1 cy2 cy3 cy4 cy5 cy6 cy7
          go_simp
          try exact rfl
        go_simp
        refine hK _ _ ?_
        clear hK K)
     | (refine Grow.step_off (by rfl) ?_
        go_simp
        refine hK _ _ ?_
        clear hK K))
  refine Grow.Wk.step (fun K hK => ?_)
  refine Grow.step_rel (by rfl) (by rfl) (fun w' hB hF => ?_) (fun v hv => ?_)
  · replace hB : Ext w7b w' := hB
    go_simp
    refine Grow.relUpon_enter ((HK5.out w' hB).mono ?_)
    rintro e w'' ⟨rfl, hw''⟩
    exact ⟨_, rfl, hw'', rfl, trivial⟩
  obtain rfl : v = _ := hv
  go_simp
  refine hK _ _ ?_
  clear hK K
  repeat
    (refine Grow.Wk.step (fun K hK => ?_)
     first
     | (refine Grow.step_read (by rfl) (by rfl) ext_refl ?_
        apply Exists.intro
        refine ⟨fun w hB hF => ?_, ?_⟩
        · replace hB : Ext w7b w := hB; have hcwA := HCA.out.ext hB; have ca0 := hcwA.cell 0; have ca1 := hcwA.cell 1; have ca2 := hcwA.cell 2; have ca3 := hcwA.cell 3; have ca4 := hcwA.cell 4; have ca5 := hcwA.cell 5; have ca6 := hcwA.cell 6; have ca7 := hcwA.cell 7; simp at ca0 ca1 ca2 ca3 ca4 ca5 ca6 ca7; have hcwB := HCB.out.ext hB; have cb0 := hcwB.cell 0; have cb1 := hcwB.cell 1; have cb2 := hcwB.cell 2; have cb3 := hcwB.cell 3; have cb4 := hcwB.cell 4; have cb5 := hcwB.cell 5; have cb6 := hcwB.cell 6; have cb7 := hcwB.cell 7; simp at cb0 cb1 cb2 cb3 cb4 cb5 cb6 cb7; have hcwX := HCX.out.ext hB; have cx0 := hcwX.cell 0; have cx1 := hcwX.cell 1; have cx2 := hcwX.cell 2; have cx3 := hcwX.cell 3; have cx4 := hcwX.cell 4; have cx5 := hcwX.cell 5; have cx6 := hcwX.cell 6; have cx7 := hcwX.cell 7; simp at cx0 cx1 cx2 cx3 cx4 cx5 cx6 cx7; have hcwY := HCY.out.ext hB; have cy0 := hcwY.cell 0; have cy1 := hcwY.cell 1; have cy2 := hcwY.cell 2; have cy3 := hcwY.cell 3; have cy4 := hcwY.cell 4; have cy5 := hcwY.cell 5; have cy6 := hcwY.cell 6; have cy7 := hcwY.cell 7; simp at cy0 cy1 cy2 cy3 cy4 cy5 cy6 cy7
          go_simp
          try exact rfl
        go_simp
        refine hK _ _ ?_
        clear hK K)
     | (refine Grow.step_off (by rfl) ?_
        go_simp
        refine hK _ _ ?_
        clear hK K))
  refine Grow.Wk.step (fun K hK => ?_)
  refine Grow.step_rel (by rfl) (by rfl) (fun w' hB hF => ?_) (fun v hv => ?_)
  · replace hB : Ext w7b w' := hB
    go_simp
    refine Grow.relUpon_enter ((HK6.out w' hB).mono ?_)
    rintro e w'' ⟨rfl, hw''⟩
    exact ⟨_, rfl, hw'', rfl, trivial⟩
  obtain rfl : v = _ := hv
  go_simp
  refine hK _ _ ?_
  clear hK K
  repeat
    (refine Grow.Wk.step (fun K hK => ?_)
     first
     | (refine Grow.step_read (by rfl) (by rfl) ext_refl ?_
        apply Exists.intro
        refine ⟨fun w hB hF => ?_, ?_⟩
        · replace hB : Ext w7b w := hB; have hcwA := HCA.out.ext hB; have ca0 := hcwA.cell 0; have ca1 := hcwA.cell 1; have ca2 := hcwA.cell 2; have ca3 := hcwA.cell 3; have ca4 := hcwA.cell 4; have ca5 := hcwA.cell 5; have ca6 := hcwA.cell 6; have ca7 := hcwA.cell 7; simp at ca0 ca1 ca2 ca3 ca4 ca5 ca6 ca7; have hcwB := HCB.out.ext hB; have cb0 := hcwB.cell 0; have cb1 := hcwB.cell 1; have cb2 := hcwB.cell 2; have cb3 := hcwB.cell 3; have cb4 := hcwB.cell 4; have cb5 := hcwB.cell 5; have cb6 := hcwB.cell 6; have cb7 := hcwB.cell 7; simp at cb0 cb1 cb2 cb3 cb4 cb5 cb6 cb7; have hcwX := HCX.out.ext hB; have cx0 := hcwX.cell 0; have cx1 := hcwX.cell 1; have cx2 := hcwX.cell 2; have cx3 := hcwX.cell 3; have cx4 := hcwX.cell 4; have cx5 := hcwX.cell 5; have cx6 := hcwX.cell 6; have cx7 := hcwX.cell 7; simp at cx0 cx1 cx2 cx3 cx4 cx5 cx6 cx7; have hcwY := HCY.out.ext hB; have cy0 := hcwY.cell 0; have cy1 := hcwY.cell 1; have cy2 := hcwY.cell 2; have cy3 := hcwY.cell 3; have cy4 := hcwY.cell 4; have cy5 := hcwY.cell 5; have cy6 := hcwY.cell 6; have cy7 := hcwY.cell 7; simp at cy0 cy1 cy2 cy3 cy4 cy5 cy6 cy7
          go_simp
          try exact rfl
        go_simp
        refine hK _ _ ?_
        clear hK K)
     | (refine Grow.step_off (by rfl) ?_
        go_simp
        refine hK _ _ ?_
        clear hK K))
  refine Grow.Wk.step (fun K hK => ?_)
  refine Grow.step_rel (by rfl) (by rfl) (fun w' hB hF => ?_) (fun v hv => ?_)
  · replace hB : Ext w7b w' := hB
    go_simp
    refine Grow.relUpon_enter ((HK5.out w' hB).mono ?_)
    rintro e w'' ⟨rfl, hw''⟩
    exact ⟨_, rfl, hw'', rfl, trivial⟩
  obtain rfl : v = _ := hv
  go_simp
  refine hK _ _ ?_
  clear hK K
  repeat
    (refine Grow.Wk.step (fun K hK => ?_)
     first
     | (refine Grow.step_read (by rfl) (by rfl) ext_refl ?_
        apply Exists.intro
        refine ⟨fun w hB hF => ?_, ?_⟩
        · replace hB : Ext w7b w := hB; have hcwA := HCA.out.ext hB; have ca0 := hcwA.cell 0; have ca1 := hcwA.cell 1; have ca2 := hcwA.cell 2; have ca3 := hcwA.cell 3; have ca4 := hcwA.cell 4; have ca5 := hcwA.cell 5; have ca6 := hcwA.cell 6; have ca7 := hcwA.cell 7; simp at ca0 ca1 ca2 ca3 ca4 ca5 ca6 ca7; have hcwB := HCB.out.ext hB; have cb0 := hcwB.cell 0; have cb1 := hcwB.cell 1; have cb2 := hcwB.cell 2; have cb3 := hcwB.cell 3; have cb4 := hcwB.cell 4; have cb5 := hcwB.cell 5; have cb6 := hcwB.cell 6; have cb7 := hcwB.cell 7; simp at cb0 cb1 cb2 cb3 cb4 cb5 cb6 cb7; have hcwX := HCX.out.ext hB; have cx0 := hcwX.cell 0; have cx1 := hcwX.cell 1; have cx2 := hcwX.cell 2; have cx3 := hcwX.cell 3; have cx4 := hcwX.cell 4; have cx5 := hcwX.cell 5; have cx6 := hcwX.cell 6; have cx7 := hcwX.cell 7; simp at cx0 cx1 cx2 cx3 cx4 cx5 cx6 cx7; have hcwY := HCY.out.ext hB; have cy0 := hcwY.cell 0; have cy1 := hcwY.cell 1; have cy2 := hcwY.cell 2; have cy3 := hcwY.cell 3; have cy4 := hcwY.cell 4; have cy5 := hcwY.cell 5; have cy6 := hcwY.cell 6; have cy7 := hcwY.cell 7; simp at cy0 cy1 cy2 cy3 cy4 cy5 cy6 cy7
          go_simp
          try exact rfl
        go_simp
        refine hK _ _ ?_
        clear hK K)
     | (refine Grow.step_off (by rfl) ?_
        go_simp
        refine hK _ _ ?_
        clear hK K))
  refine Grow.Wk.step (fun K hK => ?_)
  refine Grow.step_rel (by rfl) (by rfl) (fun w' hB hF => ?_) (fun v hv => ?_)
  · replace hB : Ext w7b w' := hB
    go_simp
    refine Grow.relUpon_enter ((HK7.out w' hB).mono ?_)
    rintro e w'' ⟨rfl, hw''⟩
    exact ⟨_, rfl, hw'', rfl, trivial⟩
  obtain rfl : v = _ := hv
  go_simp
  refine hK _ _ ?_
  clear hK K
  repeat
    (refine Grow.Wk.step (fun K hK => ?_)
     first
     | (refine Grow.step_read (by rfl) (by rfl) ext_refl ?_
        apply Exists.intro
        refine ⟨fun w hB hF => ?_, ?_⟩
        · replace hB : Ext w7b w := hB; have hcwA := HCA.out.ext hB; have ca0 := hcwA.cell 0; have ca1 := hcwA.cell 1; have ca2 := hcwA.cell 2; have ca3 := hcwA.cell 3; have ca4 := hcwA.cell 4; have ca5 := hcwA.cell 5; have ca6 := hcwA.cell 6; have ca7 := hcwA.cell 7; simp at ca0 ca1 ca2 ca3 ca4 ca5 ca6 ca7; have hcwB := HCB.out.ext hB; have cb0 := hcwB.cell 0; have cb1 := hcwB.cell 1; have cb2 := hcwB.cell 2; have cb3 := hcwB.cell 3; have cb4 := hcwB.cell 4; have cb5 := hcwB.cell 5; have cb6 := hcwB.cell 6; have cb7 := hcwB.cell 7; simp at cb0 cb1 cb2 cb3 cb4 cb5 cb6 cb7; have hcwX := HCX.out.ext hB; have cx0 := hcwX.cell 0; have cx1 := hcwX.cell 1; have cx2 := hcwX.cell 2; have cx3 := hcwX.cell 3; have cx4 := hcwX.cell 4; have cx5 := hcwX.cell 5; have cx6 := hcwX.cell 6; have cx7 := hcwX.cell 7; simp at cx0 cx1 cx2 cx3 cx4 cx5 cx6 cx7; have hcwY := HCY.out.ext hB; have cy0 := hcwY.cell 0; have cy1 := hcwY.cell 1; have cy2 := hcwY.cell 2; have cy3 := hcwY.cell 3; have cy4 := hcwY.cell 4; have cy5 := hcwY.cell 5; have cy6 := hcwY.cell 6; have cy7 := hcwY.cell 7; simp at cy0 cy1 cy2 cy3 cy4 cy5 cy6 cy7
          go_simp
          try exact rfl
        go_simp
        refine hK _ _ ?_
        clear hK K)
     | (refine Grow.step_off (by rfl) ?_
        go_simp
        refine hK _ _ ?_
        clear hK K))
  refine Grow.Wk.nil ?_
  intro wn hB hF
  clear hF
  have HEN := Lib.hid (ext_trans HE.out hB)
  clear hB
  go_wp2_with fail
  go_ret
  exact ⟨rfl, HEN.out⟩
set_option linter.unusedSimpArgs false
theorem own : ownKnob Tryz.prog.godebug = none := by kernel_rfl
theorem laid : laidOutB Tryz.prog = true := by kernel_rfl
set_option maxHeartbeats 1600000 in
set_option maxRecDepth 100000 in
theorem lifted (os : Os) (started : os.Started) (H : Type) (enc : TypeId × Value → H) :
    ReturnsInHanded {} Tryz.checked os 7 .any (fun w args => (Rows.valueSortsSpec.pre enc Tryz.prog Tryz.f7 [] false w args ∧ laidMetH Tryz.prog Rows.valueSortsRow.laid w) ∧ sizedMet enc Tryz.prog Tryz.f7 (OpenSpec.ofChange Rows.valueSortsSpec) false w args) (Rows.valueSortsSpec.post enc Tryz.prog Tryz.f7 false true false false) := by
  refine returnsInHanded_of_change_and (C := Tryz.checked) (X := fun w _ => laidMetH Tryz.prog Rows.valueSortsRow.laid w) (fun _ _ _ hh h => h.of_heap hh) own started (by kernel_rfl) Tryz.func7
    (ChangeSpec.witness_shaped (enc := enc) (C := Tryz.checked) (os := os) (X := fun w _ => laidMetH Tryz.prog Rows.valueSortsRow.laid w) false (World.laidAll Tryz.prog os Rows.valueSortsRow.laid) #[.agg #[.int .i64 0, .bool false, .bool false, .string ⟨#[]⟩, .int .i64 0, .string ⟨#[]⟩, .slice none 0 0, .slice none 0 0], .agg #[.int .i64 0, .bool false, .bool false, .string ⟨#[]⟩, .int .i64 0, .string ⟨#[]⟩, .slice none 0 0, .slice none 0 0]] 8 (World.laidAll_os _ _ _)
      (World.shaped_of_ZipB (by kernel_rfl) (by kernel_rfl)) (by kernel_rfl) (by kernel_rfl) (by kernel_rfl)
      (by rw [MakeChecks.laidMetH_plain _ _ _ (by kernel_rfl)]; exact laidMet_laidAll _ (by kernel_rfl) (by kernel_rfl))) ?_
  intro W base args ds gs before hval0 hW _ hsz0 hX _
  have hT : Tab W := tab_of hX
  have hsz : (DataW.weightsEach Tryz.prog (Tryz.f7.params.toList ++ Rows.valueSortsSpec.plain.varTypes Tryz.prog) (ds ++ gs)).all (· ≤ reachBytes) = true := hsz0
  clear hsz0
  have hval : ∀ (j : Nat) t v, Tryz.f7.params[j]? = some t → args[j]? = some v → Value.okWide Tryz.prog W .any base t v := hval0
  have hW' := hW
  obtain ⟨p, q, hA0, hV, rfl, _, _⟩ := hW
  have hA : DataW.TrodAll enc Tryz.prog W 0 (fun _ => true) true Tryz.f7.params.toList args.toList ds p := hA0
  rw [Tryz.params7] at hA hval hsz
  obtain ⟨v0, vs0, d0, ds0, p0, q0, ha0, rfl, rfl, h0, r0⟩ := trodAll_cons hA
  obtain ⟨v1, vs1, d1, ds1, p1, q1, ha1, rfl, rfl, h1, r1⟩ := trodAll_cons r0
  obtain ⟨hb2, rfl, rfl⟩ := trodAll_nil r1
  subst hb2
  subst ha1
  obtain rfl : args = #[v0, v1] := by cases args; simpa using ha0
  obtain ⟨rfl, rfl⟩ := trodVars_none hV
  have hk0 := h0
  obtain ⟨cs0, rfl, _⟩ := okWide_struct Tryz.underlying27 (hval 0 27 v0 rfl rfl)
  obtain ⟨fu0, hf0⟩ := h0
  obtain ⟨t0, ht0, hok0⟩ := trod_val (enc := enc) W fu0 _ d0 p0 hf0 (fun n hn => by simpa using List.all_eq_true.1 hsz _ (DataW.weights_mem_each (j := 0) rfl rfl n hn))
  have hk1 := h1
  obtain ⟨cs1, rfl, _⟩ := okWide_struct Tryz.underlying27 (hval 1 27 v1 rfl rfl)
  obtain ⟨fu1, hf1⟩ := h1
  obtain ⟨t1, ht1, hok1⟩ := trod_val (enc := enc) W fu1 _ d1 p1 hf1 (fun n hn => by simpa using List.all_eq_true.1 hsz _ (DataW.weights_mem_each (j := 1) rfl rfl n hn))
  have hlt := fun x hx => hW'.lt x hx
  simp only [List.append_nil, List.nil_append] at hW' hlt
  refine (walk t0 _ t1 _ W hT ht0 hok0 ht1 hok1).mono fun e W' ⟨he, hb⟩ => ?_
  subst he
  have hargs := (trodAll_cons_mk (Below.trod laid readV (of_decide_eq_true (by kernel_rfl)) hk0 hb (fun x hx => by first | exact hlt x hx | exact absurd hx (List.not_mem_nil) | exact hlt x (by simp [hx]))) (trodAll_cons_mk (Below.trod laid readV (of_decide_eq_true (by kernel_rfl)) hk1 hb (fun x hx => by first | exact hlt x hx | exact absurd hx (List.not_mem_nil) | exact hlt x (by simp [hx]))) trodAll_mk0))
  exact ⟨_, rfl, _, _, _, [], _, [], hW', trodAll_cons_mk (shut_bool Tryz.underlying4 _) trodAll_mk0, hargs, rfl, hb.frame _, fun h => by cases h⟩

theorem closed : joinedFacts Tryz.prog 7 Tryz.f7 Rows.valueSortsSpec Rows.valueSortsRow = true := by
  have hp : Tryz.f7.params.toList ++ Rows.valueSortsSpec.plain.varTypes Tryz.prog = [27, 27] := by kernel_rfl
  have hr : Tryz.f7.resultTypes.toList = [4] := by kernel_rfl
  have hq : Tryz.f7.params = #[27, 27] := by kernel_rfl
  refine joined_of (by kernel_rfl) ?_ (by kernel_rfl) ?_ ?_ (by kernel_rfl) ?_ ?_ (by kernel_rfl) ?_ (veiledFits_of rfl ?_ (by kernel_rfl))
  · rw [hq]; simp [readV]
  · rw [hp]; simp only [List.any_cons, List.any_nil, mapsV]; rfl
  · rw [hp]; simp only [List.any_cons, List.any_nil, ifacesV]; rfl
  · rw [hp]; simp only [List.any_cons, List.any_nil, loopsV]; rfl
  · rw [hp, hr]; simp only [List.cons_append, List.nil_append, List.any_cons, List.any_nil, wideV, show Tryz.prog.wideKeysFrom 4 = false by kernel_rfl]; rfl
  · rw [hp, hr]; simp only [List.cons_append, List.nil_append, List.any_cons, List.any_nil, veiledV, show Tryz.prog.veiledRec 4 = false by kernel_rfl]; rfl
  · rw [hp, hr]; simp only [List.cons_append, List.nil_append, List.all_cons, List.all_nil, ownV, show Tryz.prog.veiledOwn 4 = true by kernel_rfl]; rfl
theorem held : Rows.ValueSortsSaid :=
  OpenClaim.holds_of_wide 7 Tryz.f7 rfl rfl rfl rfl rfl rfl rfl ⟨rfl, rfl, rfl, rfl, rfl⟩ rfl rfl rfl rfl rfl (by kernel_rfl) Tryz.func7 closed
    (of_decide_eq_true (by kernel_rfl)) (by unfold Func.isWrapper; first | (rw [if_pos (by decide +kernel)]; kernel_rfl) | (rw [if_neg (by decide +kernel)]; exact ⟨rfl, rfl⟩))
    (fun os started H enc _ => lifted os started H enc)

theorem proved : Rows.ValueSortsCardSaid :=
  Claim7.holds_tied_plain_at .later [] Rows.valueSortsCard.laidKinds true Rows.valueSortsCard.stood.harness Rows.valueSortsCard.stood.looks held (fun _ h => by cases h) (by kernel_rfl) (fun _ h => by cases h) valueSorts_row_tie rfl ⟨rfl, rfl⟩ (by kernel_rfl) rfl
    (fun f fn hf hfn => by
      obtain rfl : f = 7 := Option.some.inj ((show Tryz.prog.funcNamed "orangery/orangerylaw03.ValueSorts" = some 7 by kernel_rfl).symm.trans hf) |>.symm
      obtain rfl : fn = Tryz.f7 := (Option.some.inj (Tryz.func7.symm.trans hfn)).symm
      exact ⟨by kernel_rfl, fun j t ht => by
        rw [Tryz.params7] at ht
        have hm : t ∈ [27, 27] := by simpa using Array.mem_of_getElem? ht
        have hall : ([27, 27].all fun u => !Tryz.prog.wantsStandIn u) = true := by kernel_rfl
        exact (show Tryz.prog.wantsStandIn t = false by simpa using List.all_eq_true.1 hall t hm)⟩)
    (by kernel_rfl)
end Go.Proofs.YtjapbjmeoaagmaaGreatDoor.valueSorts
