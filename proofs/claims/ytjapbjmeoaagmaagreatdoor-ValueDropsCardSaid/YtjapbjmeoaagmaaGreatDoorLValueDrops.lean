/- ValueDrops: whatever the arguments, the law returns true and what came in reads as it did. No condition. -/
import Derived.Test.YtjapbjmeoaagmaaGreatDoorRows
import Derived.Test.YtjapbjmeoaagmaaGreatDoorCards
import Derived.Test.YtjapbjmeoaagmaaGreatDoorTie
import Derived.Test.YtjapbjmeoaagmaaGreatDoorQValueSD3
import Derived.Test.YtjapbjmeoaagmaaGreatDoorQValueSD1
import Derived.Test.YtjapbjmeoaagmaaGreatDoorQValueSD2
import Derived.Test.YtjapbjmeoaagmaaGreatDoorQValueSD4
import Derived.ProofKit
import Derived.SizedLaws
import Derived.OpenShut
import Derived.Lay
import Derived.LaidMore
import Derived.SevenTiedAt
import Derived.IntWalk
set_option linter.unusedVariables false
set_option linter.unusedSimpArgs false
set_option maxRecDepth 100000
namespace Go.Proofs.YtjapbjmeoaagmaaGreatDoor.valueDrops
open Go.ChangeShapes Go.WideShapes Go.ChangeAt Go.RowKit Go.Mem Orange
-- the box of an argument $1: its TV: $2, named by $3 (k b d ..), the world $4 -> $5; leaves HC$3, HTV$3
-- a call's world: hx : Ext w w': carries the boxes ($2: their names) and HE; new name of the world: $1
theorem fewP_len {l : List PStep} (h : fewP l = true) : l.length ≤ 100 ∧ ∀ s ∈ l, s.name.length ≤ 100 := by
  unfold fewP at h
  simp only [Bool.and_eq_true, decide_eq_true_eq, List.all_eq_true] at h
  exact h
theorem lastS_get : ∀ (l : List PStep) (h : 0 < l.length), lastS l = l[l.length - 1]'(by omega)
  | [s], _ => rfl
  | s :: r :: l, _ => by
    rw [lastS_cons, lastS_get (r :: l) (by simp)]
    simp
theorem wL_len : ∀ l : List Tree, l.length ≤ weightL l
  | [] => Nat.le_refl _
  | t :: l => by
    have h1 := wL_len l
    have h2 : 1 ≤ weightT t := by cases t; rw [weightT]; omega
    rw [weightL, List.length_cons]; omega
theorem last_pos : ∀ (l : List PStep) (t : Tree), l ≠ [] → (atT t l).isSome = true → (lastS l).named = false → 0 ≤ (lastS l).pos ∧ (lastS l).pos < weightT t
  | [], _, h, _, _ => absurd rfl h
  | [s], t, _, h, hn => by
    rw [atT] at h
    cases hst : Orange.stepT t s with
    | none => rw [hst] at h; cases h
    | some x =>
      have hn' : s.named = false := hn
      unfold Orange.stepT at hst
      rw [if_neg (by rw [hn']; decide)] at hst
      obtain ⟨k, b, d, ss, L, M⟩ := t
      split at hst
      · next hc =>
        have := wL_len L
        simp only [Tree.list] at hc
        rw [weightT]
        show 0 ≤ s.pos ∧ s.pos < _
        omega
      · cases hst
  | s :: r :: l, t, _, h, hn => by
    rw [atT] at h
    cases hst : Orange.stepT t s with
    | none => rw [hst] at h; cases h
    | some x =>
      rw [hst] at h
      have hw := step_weight hst
      have := last_pos (r :: l) x (by simp) h (by rw [← lastS_cons]; exact hn)
      rw [lastS_cons]
      omega
set_option maxHeartbeats 12800000 in
theorem walk (t : Tree) (c : Array Value) (l : List PStep) (vl : Value) (x : Tree) (cx : Array Value) (w : World) (hT : Tab w) (ht : TV w (fun _ => True) t c) (hok : okT t) (hl : PlAt w (fun _ => True) vl l) (hokl : okP l) (hx : TV w (fun _ => True) x cx) (hokx : okT x) :
    Calls Tryz.prog 6 #[.agg c, vl, .agg cx] w fun e w' => e = .returned (.bool true) ∧ Ext w w' := by
  have HTB := Lib.hid hT
  have HOK := Lib.hid hok
  have HOKX := Lib.hid hokx
  have HOKL := Lib.hid hokl
  have HPL := Lib.hid hl
  have HXX := Lib.hid hx
  have HE := Lib.hid (ext_refl w)
  clear hT hok hokx hokl hl hx
  obtain ⟨_, vla, vlc, rfl, -, -, -⟩ := id HPL.out.1
  obtain ⟨kA, bA, dA, sA, laA, lnA, lcA, maA, mnA, mcA, rfl⟩ := ht.eight
  obtain ⟨wA, ewA⟩ : ∃ W, w.alloc (.cells (cellsV kA bA dA sA (.slice laA lnA lcA) (.slice maA mnA mcA)) 27) = W := ⟨_, rfl⟩
  have nwA : wA.heap[w.heap.size]? = some (.cells (cellsV kA bA dA sA (.slice laA lnA lcA) (.slice maA mnA mcA)) 27) := by rw [← ewA]; exact heap_alloc_new _ _
  have xwA : Ext w wA := by rw [← ewA]; exact (ext_refl _).alloc (Nat.le_refl _) _
  have swA : wA.heap.size = w.heap.size + 1 := by rw [← ewA]; simp
  have HCA : Hid (VAt wA w.heap.size (cellsV kA bA dA sA (.slice laA lnA lcA) (.slice maA mnA mcA))) := Lib.hid nwA
  have HTVA := Lib.hid (ht.keep (w' := wA) (A' := fun _ => True) xwA.size (fun g _ hlt => ⟨trivial, xwA.block g hlt⟩))
  have EA := Lib.hid ewA
  clear nwA ewA
  replace HXX := Lib.hid (HXX.out.keep (w' := wA) (A' := fun _ => True) xwA.size (fun g _ hlt => ⟨trivial, xwA.block g hlt⟩))
  clear ht
  have hxb := xwA
  replace HPL := Lib.hid (HPL.out.keep (A' := fun _ => True) hxb.size (fun g _ hlt => ⟨trivial, hxb.block g hlt⟩))
  replace HE := Lib.hid (ext_trans HE.out hxb)
  clear hxb
  obtain ⟨kB, bB, dB, sB, laB, lnB, lcB, maB, mnB, mcB, rfl⟩ := HXX.out.eight
  obtain ⟨wB, ewB⟩ : ∃ W, wA.alloc (.cells (cellsV kB bB dB sB (.slice laB lnB lcB) (.slice maB mnB mcB)) 27) = W := ⟨_, rfl⟩
  have nwB : wB.heap[wA.heap.size]? = some (.cells (cellsV kB bB dB sB (.slice laB lnB lcB) (.slice maB mnB mcB)) 27) := by rw [← ewB]; exact heap_alloc_new _ _
  have xwB : Ext wA wB := by rw [← ewB]; exact (ext_refl _).alloc (Nat.le_refl _) _
  have swB : wB.heap.size = wA.heap.size + 1 := by rw [← ewB]; simp
  have HCB : Hid (VAt wB wA.heap.size (cellsV kB bB dB sB (.slice laB lnB lcB) (.slice maB mnB mcB))) := Lib.hid nwB
  have HTVB := Lib.hid (HXX.out.keep (w' := wB) (A' := fun _ => True) xwB.size (fun g _ hlt => ⟨trivial, xwB.block g hlt⟩))
  have EB := Lib.hid ewB
  clear nwB ewB
  rw [swA] at HCB
  have hxb := xwB
  replace HCA := Lib.hid (HCA.out.ext hxb)
  replace HTVA := Lib.hid (HTVA.out.keep (A' := fun _ => True) hxb.size (fun g _ hlt => ⟨trivial, hxb.block g hlt⟩))
  replace HPL := Lib.hid (HPL.out.keep (A' := fun _ => True) hxb.size (fun g _ hlt => ⟨trivial, hxb.block g hlt⟩))
  replace HE := Lib.hid (ext_trans HE.out hxb)
  clear hxb
  clear HXX xwA xwB swA swB
  simp only [cellsV] at HCA EA HTVA HCB EB HTVB ⊢
  go_enter Tryz.func6, Tryz.ntmps6
  go_upto_region 1 with fail
  rw [EA.out, EB.out]
  obtain ⟨S, hS⟩ : ∃ S, w.heap.size = S := ⟨_, rfl⟩
  rw [hS] at HCA HCB ⊢
  clear hS EA EB
  go_wp2_with fail
  refine (vawake wB (HTB.out.ext HE.out)).mono ?_
  rintro e w1 ⟨rfl, hx1⟩
  replace HCA := Lib.hid (HCA.out.ext hx1)
  replace HTVA := Lib.hid (HTVA.out.keep (A' := fun _ => True) hx1.size (fun g _ hlt => ⟨trivial, hx1.block g hlt⟩))
  replace HCB := Lib.hid (HCB.out.ext hx1)
  replace HTVB := Lib.hid (HTVB.out.keep (A' := fun _ => True) hx1.size (fun g _ hlt => ⟨trivial, hx1.block g hlt⟩))
  replace HPL := Lib.hid (HPL.out.keep (A' := fun _ => True) hx1.size (fun g _ hlt => ⟨trivial, hx1.block g hlt⟩))
  replace HE := Lib.hid (ext_trans HE.out hx1)
  clear hx1
  have c0 := HCA.out.cell 0; have c1 := HCA.out.cell 1; have c2 := HCA.out.cell 2; have c3 := HCA.out.cell 3; have c4 := HCA.out.cell 4; have c5 := HCA.out.cell 5; have c6 := HCA.out.cell 6; have c7 := HCA.out.cell 7
  simp at c0 c1 c2 c3 c4 c5 c6 c7
  go_wp2_with fail
  refine (few_any t _ _ 2000 w1 HOK.out (by omega) (by omega) HTVA.out).mono ?_
  rintro e w2 ⟨rfl, hx2⟩
  replace HCA := Lib.hid (HCA.out.ext hx2)
  replace HTVA := Lib.hid (HTVA.out.keep (A' := fun _ => True) hx2.size (fun g _ hlt => ⟨trivial, hx2.block g hlt⟩))
  replace HCB := Lib.hid (HCB.out.ext hx2)
  replace HTVB := Lib.hid (HTVB.out.keep (A' := fun _ => True) hx2.size (fun g _ hlt => ⟨trivial, hx2.block g hlt⟩))
  replace HPL := Lib.hid (HPL.out.keep (A' := fun _ => True) hx2.size (fun g _ hlt => ⟨trivial, hx2.block g hlt⟩))
  replace HE := Lib.hid (ext_trans HE.out hx2)
  clear hx2
  clear c0 c1 c2 c3 c4 c5 c6 c7
  by_cases hf : 0 ≤ fewT 0 2000 t
  rotate_left
  · rw [decide_eq_false hf]
    go_wp2_with fail
    go_ret
    exact ⟨rfl, HE.out⟩
  have hwt : weightT t ≤ 2000 := by have := fewT_weight t 0 2000 hf; omega
  rw [decide_eq_true hf]
  clear hf
  have d0 := HCB.out.cell 0; have d1 := HCB.out.cell 1; have d2 := HCB.out.cell 2; have d3 := HCB.out.cell 3; have d4 := HCB.out.cell 4; have d5 := HCB.out.cell 5; have d6 := HCB.out.cell 6; have d7 := HCB.out.cell 7
  simp at d0 d1 d2 d3 d4 d5 d6 d7
  go_wp2_with fail
  refine (few_any x _ _ 500 w2 HOKX.out (by omega) (by omega) HTVB.out).mono ?_
  rintro e w3 ⟨rfl, hx3⟩
  replace HCA := Lib.hid (HCA.out.ext hx3)
  replace HTVA := Lib.hid (HTVA.out.keep (A' := fun _ => True) hx3.size (fun g _ hlt => ⟨trivial, hx3.block g hlt⟩))
  replace HCB := Lib.hid (HCB.out.ext hx3)
  replace HTVB := Lib.hid (HTVB.out.keep (A' := fun _ => True) hx3.size (fun g _ hlt => ⟨trivial, hx3.block g hlt⟩))
  replace HPL := Lib.hid (HPL.out.keep (A' := fun _ => True) hx3.size (fun g _ hlt => ⟨trivial, hx3.block g hlt⟩))
  replace HE := Lib.hid (ext_trans HE.out hx3)
  clear hx3
  clear d0 d1 d2 d3 d4 d5 d6 d7
  by_cases hf : 0 ≤ fewT 0 500 x
  rotate_left
  · rw [decide_eq_false hf]
    go_wp2_with fail
    go_ret
    exact ⟨rfl, HE.out⟩
  have hwx : weightT x ≤ 500 := by have := fewT_weight x 0 500 hf; omega
  rw [decide_eq_true hf]
  clear hf
  go_wp2_with fail
  refine (fewS_any _ _ l w3 HPL.out HOKL.out).mono ?_
  rintro e w4 ⟨rfl, hx4⟩
  replace HCA := Lib.hid (HCA.out.ext hx4)
  replace HTVA := Lib.hid (HTVA.out.keep (A' := fun _ => True) hx4.size (fun g _ hlt => ⟨trivial, hx4.block g hlt⟩))
  replace HCB := Lib.hid (HCB.out.ext hx4)
  replace HTVB := Lib.hid (HTVB.out.keep (A' := fun _ => True) hx4.size (fun g _ hlt => ⟨trivial, hx4.block g hlt⟩))
  replace HPL := Lib.hid (HPL.out.keep (A' := fun _ => True) hx4.size (fun g _ hlt => ⟨trivial, hx4.block g hlt⟩))
  replace HE := Lib.hid (ext_trans HE.out hx4)
  clear hx4
  cases hfl : fewP l with
  | false =>
    go_wp2_with fail
    go_ret
    exact ⟨rfl, HE.out⟩
  | true =>
    have HFL := Lib.hid hfl
    clear hfl
    by_cases hl0 : l.length = 0
    · rw [hl0]
      go_wp2_with fail
      go_ret
      exact ⟨rfl, HE.out⟩
    have hlne : ((l.length : Int) == 0) = false := by simp; intro e; exact hl0 (by simp [e])
    have hnil : l ≠ [] := fun e => hl0 (by rw [e]; rfl)
    obtain ⟨Zt, hZt⟩ : ∃ z, (saneT 0 0 t).1 = z := ⟨_, rfl⟩
    have HSA := Lib.hid (Sane_any t _ _ w4 (by omega) HTVA.out)
    rw [hZt] at HSA
    have HNE0 := Lib.hid hlne
    have c0 := HCA.out.cell 0; have c1 := HCA.out.cell 1; have c2 := HCA.out.cell 2; have c3 := HCA.out.cell 3; have c4 := HCA.out.cell 4; have c5 := HCA.out.cell 5; have c6 := HCA.out.cell 6; have c7 := HCA.out.cell 7
    simp at c0 c1 c2 c3 c4 c5 c6 c7
    go_wp2_with fail
    refine (HSA.out).mono ?_
    rintro e w5 ⟨rfl, hx5⟩
    replace HCA := Lib.hid (HCA.out.ext hx5)
    replace HTVA := Lib.hid (HTVA.out.keep (A' := fun _ => True) hx5.size (fun g _ hlt => ⟨trivial, hx5.block g hlt⟩))
    replace HCB := Lib.hid (HCB.out.ext hx5)
    replace HTVB := Lib.hid (HTVB.out.keep (A' := fun _ => True) hx5.size (fun g _ hlt => ⟨trivial, hx5.block g hlt⟩))
    replace HPL := Lib.hid (HPL.out.keep (A' := fun _ => True) hx5.size (fun g _ hlt => ⟨trivial, hx5.block g hlt⟩))
    replace HE := Lib.hid (ext_trans HE.out hx5)
    clear hx5
    clear c0 c1 c2 c3 c4 c5 c6 c7
    clear HSA
    by_cases hz : Zt = 0
    rotate_left
    · have hne : (Zt != 0) = true := by simpa using hz
      clear hz hZt
      go_wp2_with fail
      go_ret
      exact ⟨rfl, HE.out⟩
    subst hz
    have hst : SaneP t := ⟨0, 0, hZt⟩
    clear hZt
    have HDR := Lib.hid (drops_law (v := t) (x := x) (l := l) hnil hst (show dropT t l = ((dropT t l).1, (dropT t l).2) from rfl))
    have HPW := Lib.hid (put_weight hwt hwx (fewP_len HFL.out).1 (fewP_len HFL.out).2)
    have HLP := Lib.hid (fun (h1 : (atT t l).isSome = true) (h2 : (lastS l).named = false) => last_pos l t hnil h1 h2)
    have HCA0 := Lib.hid (at_any t _ (fun _ => True) _ l w5 HTVA.out HPL.out)
    obtain ⟨R, hR⟩ : ∃ R, atT t l = R := ⟨_, rfl⟩
    rw [hR] at HCA0 HDR HLP
    have HR := Lib.hid hR
    clear hR hst
    obtain ⟨IS, hIS⟩ : ∃ b, R.isSome = b := ⟨_, rfl⟩
    rw [hIS] at HCA0 HDR HLP
    have HIS := Lib.hid hIS
    clear hIS
    have c0 := HCA.out.cell 0; have c1 := HCA.out.cell 1; have c2 := HCA.out.cell 2; have c3 := HCA.out.cell 3; have c4 := HCA.out.cell 4; have c5 := HCA.out.cell 5; have c6 := HCA.out.cell 6; have c7 := HCA.out.cell 7
    simp at c0 c1 c2 c3 c4 c5 c6 c7
    go_wp2_with fail
    refine (HCA0.out).mono ?_
    rintro e w6 ⟨c', rfl, htv, hx6⟩
    clear HCA0
    clear c0 c1 c2 c3 c4 c5 c6 c7
    replace HCA := Lib.hid (HCA.out.ext hx6)
    replace HTVA := Lib.hid (HTVA.out.keep (A' := fun _ => True) hx6.size (fun g _ hlt => ⟨trivial, hx6.block g hlt⟩))
    replace HCB := Lib.hid (HCB.out.ext hx6)
    replace HTVB := Lib.hid (HTVB.out.keep (A' := fun _ => True) hx6.size (fun g _ hlt => ⟨trivial, hx6.block g hlt⟩))
    replace HPL := Lib.hid (HPL.out.keep (A' := fun _ => True) hx6.size (fun g _ hlt => ⟨trivial, hx6.block g hlt⟩))
    replace HE := Lib.hid (ext_trans HE.out hx6)
    clear hx6
    obtain ⟨kP, bP, dP, sP, laP, lnP, lcP, maP, mnP, mcP, rfl⟩ := htv.eight
    obtain ⟨w6b, ew6b⟩ : ∃ W, w6.alloc (.cells (cellsV kP bP dP sP (.slice laP lnP lcP) (.slice maP mnP mcP)) 27) = W := ⟨_, rfl⟩
    have nw6b : w6b.heap[w6.heap.size]? = some (.cells (cellsV kP bP dP sP (.slice laP lnP lcP) (.slice maP mnP mcP)) 27) := by rw [← ew6b]; exact heap_alloc_new _ _
    have xw6b : Ext w6 w6b := by rw [← ew6b]; exact (ext_refl _).alloc (Nat.le_refl _) _
    have sw6b : w6b.heap.size = w6.heap.size + 1 := by rw [← ew6b]; simp
    have HCP : Hid (VAt w6b w6.heap.size (cellsV kP bP dP sP (.slice laP lnP lcP) (.slice maP mnP mcP))) := Lib.hid nw6b
    have HTVP := Lib.hid (htv.keep (w' := w6b) (A' := fun _ => True) xw6b.size (fun g _ hlt => ⟨trivial, xw6b.block g hlt⟩))
    have EP := Lib.hid ew6b
    clear nw6b ew6b
    have hxb := xw6b
    obtain ⟨QP, hQP⟩ : ∃ Q, w6.heap.size = Q := ⟨_, rfl⟩
    clear htv xw6b
    try clear sw6b
    replace HCA := Lib.hid (HCA.out.ext hxb)
    replace HTVA := Lib.hid (HTVA.out.keep (A' := fun _ => True) hxb.size (fun g _ hlt => ⟨trivial, hxb.block g hlt⟩))
    replace HCB := Lib.hid (HCB.out.ext hxb)
    replace HTVB := Lib.hid (HTVB.out.keep (A' := fun _ => True) hxb.size (fun g _ hlt => ⟨trivial, hxb.block g hlt⟩))
    replace HPL := Lib.hid (HPL.out.keep (A' := fun _ => True) hxb.size (fun g _ hlt => ⟨trivial, hxb.block g hlt⟩))
    replace HE := Lib.hid (ext_trans HE.out hxb)
    clear hxb
    simp only [cellsV] at HCP EP HTVP ⊢
    go_upto_region 5 with fail
    rw [EP.out]
    rw [hQP] at HCP
    clear hQP EP
    clear HCP HTVP
    have HCD0 := Lib.hid (vdrop_any t _ (fun _ => True) _ l w6b HTVA.out HPL.out (by omega))
    obtain ⟨W, hW⟩ : ∃ x, (dropT t l).1 = x := ⟨_, rfl⟩
    obtain ⟨E, hEE⟩ : ∃ x, (dropT t l).2 = x := ⟨_, rfl⟩
    have hdr := HDR.out
    rw [hW, hEE] at hdr HCD0
    replace HDR := Lib.hid hdr
    clear hdr hW hEE
    have c0 := HCA.out.cell 0; have c1 := HCA.out.cell 1; have c2 := HCA.out.cell 2; have c3 := HCA.out.cell 3; have c4 := HCA.out.cell 4; have c5 := HCA.out.cell 5; have c6 := HCA.out.cell 6; have c7 := HCA.out.cell 7
    simp at c0 c1 c2 c3 c4 c5 c6 c7
    go_wp2_with fail
    refine (HCD0.out).mono ?_
    rintro e w7 ⟨c', rfl, htv, hx7⟩
    have htw := htv.keep (A' := fun _ => True) (Nat.le_refl _) (fun g _ hlt => ⟨trivial, rfl⟩)
    clear HCD0 htv
    clear c0 c1 c2 c3 c4 c5 c6 c7
    replace HCA := Lib.hid (HCA.out.ext hx7)
    replace HTVA := Lib.hid (HTVA.out.keep (A' := fun _ => True) hx7.size (fun g _ hlt => ⟨trivial, hx7.block g hlt⟩))
    replace HCB := Lib.hid (HCB.out.ext hx7)
    replace HTVB := Lib.hid (HTVB.out.keep (A' := fun _ => True) hx7.size (fun g _ hlt => ⟨trivial, hx7.block g hlt⟩))
    replace HPL := Lib.hid (HPL.out.keep (A' := fun _ => True) hx7.size (fun g _ hlt => ⟨trivial, hx7.block g hlt⟩))
    replace HE := Lib.hid (ext_trans HE.out hx7)
    clear hx7
    obtain ⟨kW, bW, dW, sW, laW, lnW, lcW, maW, mnW, mcW, rfl⟩ := htw.eight
    obtain ⟨w7b, ew7b⟩ : ∃ W, w7.alloc (.cells (cellsV kW bW dW sW (.slice laW lnW lcW) (.slice maW mnW mcW)) 27) = W := ⟨_, rfl⟩
    have nw7b : w7b.heap[w7.heap.size]? = some (.cells (cellsV kW bW dW sW (.slice laW lnW lcW) (.slice maW mnW mcW)) 27) := by rw [← ew7b]; exact heap_alloc_new _ _
    have xw7b : Ext w7 w7b := by rw [← ew7b]; exact (ext_refl _).alloc (Nat.le_refl _) _
    have sw7b : w7b.heap.size = w7.heap.size + 1 := by rw [← ew7b]; simp
    have HCW : Hid (VAt w7b w7.heap.size (cellsV kW bW dW sW (.slice laW lnW lcW) (.slice maW mnW mcW))) := Lib.hid nw7b
    have HTVW := Lib.hid (htw.keep (w' := w7b) (A' := fun _ => True) xw7b.size (fun g _ hlt => ⟨trivial, xw7b.block g hlt⟩))
    have EW := Lib.hid ew7b
    clear nw7b ew7b
    have hxb := xw7b
    obtain ⟨QW, hQW⟩ : ∃ Q, w7.heap.size = Q := ⟨_, rfl⟩
    clear htw xw7b
    try clear sw7b
    replace HCA := Lib.hid (HCA.out.ext hxb)
    replace HTVA := Lib.hid (HTVA.out.keep (A' := fun _ => True) hxb.size (fun g _ hlt => ⟨trivial, hxb.block g hlt⟩))
    replace HCB := Lib.hid (HCB.out.ext hxb)
    replace HTVB := Lib.hid (HTVB.out.keep (A' := fun _ => True) hxb.size (fun g _ hlt => ⟨trivial, hxb.block g hlt⟩))
    replace HPL := Lib.hid (HPL.out.keep (A' := fun _ => True) hxb.size (fun g _ hlt => ⟨trivial, hxb.block g hlt⟩))
    replace HE := Lib.hid (ext_trans HE.out hxb)
    clear hxb
    simp only [cellsV] at HCW EW HTVW ⊢
    go_upto_region 6 with fail
    rw [EW.out]
    rw [hQW] at HCW
    clear hQW EW
    by_cases hz : E = 0
    rotate_left
    · have hIS : IS = false := by
        cases IS with
        | false => rfl
        | true => exact absurd (HDR.out.1.2 rfl) hz
      subst hIS
      clear HCW HTVW HLP
      have hRn : R = none := by
        have := HIS.out
        cases R with
        | none => rfl
        | some _ => cases this
      have HPP := Lib.hid (HDR.out.2.1 hRn (putT t l x).1 (putT t l x).2 rfl)
      clear hRn HIS HDR HR
      have hez : (E == 0) = false := by simpa using hz
      clear hz
      have HCP0 := Lib.hid (vput_any t x _ _ (fun _ => True) _ l w7b HTVA.out HPL.out HTVB.out (by omega))
      obtain ⟨PP, hPP⟩ : ∃ y, (putT t l x).1 = y := ⟨_, rfl⟩
      obtain ⟨F, hF⟩ : ∃ y, (putT t l x).2 = y := ⟨_, rfl⟩
      rw [hPP, hF] at HCP0 HPP
      rw [hPP] at HPW
      clear hPP hF
      have c0 := HCA.out.cell 0; have c1 := HCA.out.cell 1; have c2 := HCA.out.cell 2; have c3 := HCA.out.cell 3; have c4 := HCA.out.cell 4; have c5 := HCA.out.cell 5; have c6 := HCA.out.cell 6; have c7 := HCA.out.cell 7
      simp at c0 c1 c2 c3 c4 c5 c6 c7
      have d0 := HCB.out.cell 0; have d1 := HCB.out.cell 1; have d2 := HCB.out.cell 2; have d3 := HCB.out.cell 3; have d4 := HCB.out.cell 4; have d5 := HCB.out.cell 5; have d6 := HCB.out.cell 6; have d7 := HCB.out.cell 7
      simp at d0 d1 d2 d3 d4 d5 d6 d7
      go_wp2_with fail
      refine (HCP0.out).mono ?_
      rintro e w8 ⟨c', rfl, htv, hx8⟩
      have htw := htv.keep (A' := fun _ => True) (Nat.le_refl _) (fun g _ hlt => ⟨trivial, rfl⟩)
      clear HCP0 htv hez
      clear c0 c1 c2 c3 c4 c5 c6 c7
      clear d0 d1 d2 d3 d4 d5 d6 d7
      replace HCA := Lib.hid (HCA.out.ext hx8)
      replace HTVA := Lib.hid (HTVA.out.keep (A' := fun _ => True) hx8.size (fun g _ hlt => ⟨trivial, hx8.block g hlt⟩))
      replace HCB := Lib.hid (HCB.out.ext hx8)
      replace HTVB := Lib.hid (HTVB.out.keep (A' := fun _ => True) hx8.size (fun g _ hlt => ⟨trivial, hx8.block g hlt⟩))
      replace HPL := Lib.hid (HPL.out.keep (A' := fun _ => True) hx8.size (fun g _ hlt => ⟨trivial, hx8.block g hlt⟩))
      replace HE := Lib.hid (ext_trans HE.out hx8)
      clear hx8
      clear HCB HTVB
      obtain ⟨kQ, bQ, dQ, sQ, laQ, lnQ, lcQ, maQ, mnQ, mcQ, rfl⟩ := htw.eight
      obtain ⟨w8b, ew8b⟩ : ∃ W, w8.alloc (.cells (cellsV kQ bQ dQ sQ (.slice laQ lnQ lcQ) (.slice maQ mnQ mcQ)) 27) = W := ⟨_, rfl⟩
      have nw8b : w8b.heap[w8.heap.size]? = some (.cells (cellsV kQ bQ dQ sQ (.slice laQ lnQ lcQ) (.slice maQ mnQ mcQ)) 27) := by rw [← ew8b]; exact heap_alloc_new _ _
      have xw8b : Ext w8 w8b := by rw [← ew8b]; exact (ext_refl _).alloc (Nat.le_refl _) _
      have sw8b : w8b.heap.size = w8.heap.size + 1 := by rw [← ew8b]; simp
      have HCQ : Hid (VAt w8b w8.heap.size (cellsV kQ bQ dQ sQ (.slice laQ lnQ lcQ) (.slice maQ mnQ mcQ))) := Lib.hid nw8b
      have HTVQ := Lib.hid (htw.keep (w' := w8b) (A' := fun _ => True) xw8b.size (fun g _ hlt => ⟨trivial, xw8b.block g hlt⟩))
      have EQ := Lib.hid ew8b
      clear nw8b ew8b
      have hxb := xw8b
      obtain ⟨QQ, hQQ⟩ : ∃ Q, w8.heap.size = Q := ⟨_, rfl⟩
      clear htw xw8b
      try clear sw8b
      replace HCA := Lib.hid (HCA.out.ext hxb)
      replace HTVA := Lib.hid (HTVA.out.keep (A' := fun _ => True) hxb.size (fun g _ hlt => ⟨trivial, hxb.block g hlt⟩))
      replace HPL := Lib.hid (HPL.out.keep (A' := fun _ => True) hxb.size (fun g _ hlt => ⟨trivial, hxb.block g hlt⟩))
      replace HE := Lib.hid (ext_trans HE.out hxb)
      clear hxb
      simp only [cellsV] at HCQ EQ HTVQ ⊢
      go_upto_region 10 with fail
      rw [EQ.out]
      rw [hQQ] at HCQ
      clear hQQ EQ
      have HCQ0 := Lib.hid (vdrop_any PP _ (fun _ => True) _ l w8b HTVQ.out HPL.out HPW.out)
      by_cases hf0 : F = 0
      · subst hf0
        rw [HPP.out rfl] at HCQ0
        clear HPP
        have f0 := HCQ.out.cell 0; have f1 := HCQ.out.cell 1; have f2 := HCQ.out.cell 2; have f3 := HCQ.out.cell 3; have f4 := HCQ.out.cell 4; have f5 := HCQ.out.cell 5; have f6 := HCQ.out.cell 6; have f7 := HCQ.out.cell 7
        simp at f0 f1 f2 f3 f4 f5 f6 f7
        go_wp2_with fail
        refine (HCQ0.out).mono ?_
        rintro e w9 ⟨c', rfl, htv, hx9⟩
        simp only at htv ⊢
        have htw := htv.keep (A' := fun _ => True) (Nat.le_refl _) (fun g _ hlt => ⟨trivial, rfl⟩)
        clear HCQ0 htv
        clear f0 f1 f2 f3 f4 f5 f6 f7
        clear HCQ HTVQ
        replace HCA := Lib.hid (HCA.out.ext hx9)
        replace HTVA := Lib.hid (HTVA.out.keep (A' := fun _ => True) hx9.size (fun g _ hlt => ⟨trivial, hx9.block g hlt⟩))
        replace HPL := Lib.hid (HPL.out.keep (A' := fun _ => True) hx9.size (fun g _ hlt => ⟨trivial, hx9.block g hlt⟩))
        replace HE := Lib.hid (ext_trans HE.out hx9)
        clear hx9
        obtain ⟨kU, bU, dU, sU, laU, lnU, lcU, maU, mnU, mcU, rfl⟩ := htw.eight
        obtain ⟨w9b, ew9b⟩ : ∃ W, w9.alloc (.cells (cellsV kU bU dU sU (.slice laU lnU lcU) (.slice maU mnU mcU)) 27) = W := ⟨_, rfl⟩
        have nw9b : w9b.heap[w9.heap.size]? = some (.cells (cellsV kU bU dU sU (.slice laU lnU lcU) (.slice maU mnU mcU)) 27) := by rw [← ew9b]; exact heap_alloc_new _ _
        have xw9b : Ext w9 w9b := by rw [← ew9b]; exact (ext_refl _).alloc (Nat.le_refl _) _
        have sw9b : w9b.heap.size = w9.heap.size + 1 := by rw [← ew9b]; simp
        have HCU : Hid (VAt w9b w9.heap.size (cellsV kU bU dU sU (.slice laU lnU lcU) (.slice maU mnU mcU))) := Lib.hid nw9b
        have HTVU := Lib.hid (htw.keep (w' := w9b) (A' := fun _ => True) xw9b.size (fun g _ hlt => ⟨trivial, xw9b.block g hlt⟩))
        have EU := Lib.hid ew9b
        clear nw9b ew9b
        have hxb := xw9b
        obtain ⟨QU, hQU⟩ : ∃ Q, w9.heap.size = Q := ⟨_, rfl⟩
        clear htw xw9b
        try clear sw9b
        replace HCA := Lib.hid (HCA.out.ext hxb)
        replace HTVA := Lib.hid (HTVA.out.keep (A' := fun _ => True) hxb.size (fun g _ hlt => ⟨trivial, hxb.block g hlt⟩))
        replace HPL := Lib.hid (HPL.out.keep (A' := fun _ => True) hxb.size (fun g _ hlt => ⟨trivial, hxb.block g hlt⟩))
        replace HE := Lib.hid (ext_trans HE.out hxb)
        clear hxb
        simp only [cellsV] at HCU EU HTVU ⊢
        go_upto_region 11 with fail
        rw [EU.out]
        rw [hQU] at HCU
        clear hQU EU
        have hex := exactT_refl t
        have f0 := HCU.out.cell 0; have f1 := HCU.out.cell 1; have f2 := HCU.out.cell 2; have f3 := HCU.out.cell 3; have f4 := HCU.out.cell 4; have f5 := HCU.out.cell 5; have f6 := HCU.out.cell 6; have f7 := HCU.out.cell 7
        simp at f0 f1 f2 f3 f4 f5 f6 f7
        have d0 := HCA.out.cell 0; have d1 := HCA.out.cell 1; have d2 := HCA.out.cell 2; have d3 := HCA.out.cell 3; have d4 := HCA.out.cell 4; have d5 := HCA.out.cell 5; have d6 := HCA.out.cell 6; have d7 := HCA.out.cell 7
        simp at d0 d1 d2 d3 d4 d5 d6 d7
        go_wp2_with fail
        refine (exact_any t t _ _ _ _ w9b HTVU.out HTVA.out).mono ?_
        rintro e w10 ⟨rfl, hx10⟩
        rw [hex]
        replace HE := Lib.hid (ext_trans HE.out hx10)
        clear hx10
        go_wp2_with fail
        go_ret
        exact ⟨rfl, HE.out⟩
      · have hfne : (F != 0) = true := by simpa using hf0
        clear HPP hf0
        obtain ⟨Q1, hQ1⟩ : ∃ x, (dropT PP l).1 = x := ⟨_, rfl⟩
        obtain ⟨G1, hG1⟩ : ∃ x, (dropT PP l).2 = x := ⟨_, rfl⟩
        rw [hQ1, hG1] at HCQ0
        clear hQ1 hG1
        have f0 := HCQ.out.cell 0; have f1 := HCQ.out.cell 1; have f2 := HCQ.out.cell 2; have f3 := HCQ.out.cell 3; have f4 := HCQ.out.cell 4; have f5 := HCQ.out.cell 5; have f6 := HCQ.out.cell 6; have f7 := HCQ.out.cell 7
        simp at f0 f1 f2 f3 f4 f5 f6 f7
        go_wp2_with fail
        refine (HCQ0.out).mono ?_
        rintro e w9 ⟨c', rfl, htv, hx9⟩
        simp only at htv ⊢
        have htw := htv.keep (A' := fun _ => True) (Nat.le_refl _) (fun g _ hlt => ⟨trivial, rfl⟩)
        clear HCQ0 htv
        clear f0 f1 f2 f3 f4 f5 f6 f7
        clear HCQ HTVQ
        replace HCA := Lib.hid (HCA.out.ext hx9)
        replace HTVA := Lib.hid (HTVA.out.keep (A' := fun _ => True) hx9.size (fun g _ hlt => ⟨trivial, hx9.block g hlt⟩))
        replace HPL := Lib.hid (HPL.out.keep (A' := fun _ => True) hx9.size (fun g _ hlt => ⟨trivial, hx9.block g hlt⟩))
        replace HE := Lib.hid (ext_trans HE.out hx9)
        clear hx9
        obtain ⟨kU, bU, dU, sU, laU, lnU, lcU, maU, mnU, mcU, rfl⟩ := htw.eight
        obtain ⟨w9b, ew9b⟩ : ∃ W, w9.alloc (.cells (cellsV kU bU dU sU (.slice laU lnU lcU) (.slice maU mnU mcU)) 27) = W := ⟨_, rfl⟩
        have nw9b : w9b.heap[w9.heap.size]? = some (.cells (cellsV kU bU dU sU (.slice laU lnU lcU) (.slice maU mnU mcU)) 27) := by rw [← ew9b]; exact heap_alloc_new _ _
        have xw9b : Ext w9 w9b := by rw [← ew9b]; exact (ext_refl _).alloc (Nat.le_refl _) _
        have sw9b : w9b.heap.size = w9.heap.size + 1 := by rw [← ew9b]; simp
        have HCU : Hid (VAt w9b w9.heap.size (cellsV kU bU dU sU (.slice laU lnU lcU) (.slice maU mnU mcU))) := Lib.hid nw9b
        have HTVU := Lib.hid (htw.keep (w' := w9b) (A' := fun _ => True) xw9b.size (fun g _ hlt => ⟨trivial, xw9b.block g hlt⟩))
        have EU := Lib.hid ew9b
        clear nw9b ew9b
        have hxb := xw9b
        obtain ⟨QU, hQU⟩ : ∃ Q, w9.heap.size = Q := ⟨_, rfl⟩
        clear htw xw9b
        try clear sw9b
        replace HCA := Lib.hid (HCA.out.ext hxb)
        replace HTVA := Lib.hid (HTVA.out.keep (A' := fun _ => True) hxb.size (fun g _ hlt => ⟨trivial, hxb.block g hlt⟩))
        replace HPL := Lib.hid (HPL.out.keep (A' := fun _ => True) hxb.size (fun g _ hlt => ⟨trivial, hxb.block g hlt⟩))
        replace HE := Lib.hid (ext_trans HE.out hxb)
        clear hxb
        simp only [cellsV] at HCU EU HTVU ⊢
        go_upto_region 11 with fail
        rw [EU.out]
        rw [hQU] at HCU
        clear hQU EU
        go_wp2_with fail
        go_ret
        exact ⟨rfl, HE.out⟩
    have hIS : IS = true := HDR.out.1.1 hz
    subst hz
    subst hIS
    obtain ⟨hnm, hun⟩ := HDR.out.2.2 rfl
    have HNM := Lib.hid hnm
    have HUN := Lib.hid hun
    clear HDR HPW HIS hnm hun
    clear HCB HTVB
    have hlpos : 0 < l.length := by omega
    have hll := (fewP_len HFL.out).1
    have HLG := Lib.hid (lastS_get l hlpos)
    obtain ⟨g, o, rfl, hgA, hel⟩ := HPL.out.elem (l.length - 1) (by omega)
    rw [← HLG.out] at hel
    have HEL := Lib.hid hel
    have HPS : Hid (i64R (lastS l).pos) := Lib.hid (by rw [HLG.out]; exact HPL.out.2 _ (List.getElem_mem _))
    clear hel hgA
    obtain ⟨s, hs⟩ : ∃ s, lastS l = s := ⟨_, rfl⟩
    rw [hs] at HEL HPS HNM HUN HLP
    have HSS := Lib.hid hs
    clear hs HLG
    obtain ⟨sn, sp, sb⟩ := s
    simp only at HEL HPS HNM HUN HLP
    obtain ⟨s0, s1, s2⟩ := HEL.out w7b (fun g _ hlt => rfl)
    have e1 : IntKind.i64.wrap ((l.length : Int) - 1) = ((l.length - 1 : Nat) : Int) := by rw [IntWalk.i64_in _ (by omega)]; omega
    have e2 : ((l.length - 1 : Nat) : Int) < l.length := by omega
    have e3 : (0 : Int) ≤ ((l.length - 1 : Nat) : Int) := by omega
    obtain ⟨J, hJ⟩ : ∃ J, l.length - 1 = J := ⟨_, rfl⟩
    rw [hJ] at e1 e2 e3 s0 s1 s2 HEL
    have HJ := Lib.hid hJ
    clear hJ
    go_upto_region 13 with fail
    clear s0 s1 s2
    obtain ⟨QS, hQS⟩ : ∃ Q, w7b.heap.size = Q := ⟨_, rfl⟩
    have hns := Blk.new hQS #[.string ⟨sn.toArray⟩, .int .i64 sp, .bool sb] 46
    have hxb : Ext w7b (w7b.alloc (.cells #[.string ⟨sn.toArray⟩, .int .i64 sp, .bool sb] 46)) := (ext_refl _).alloc (Nat.le_refl _) _
    rw [hQS]
    clear hQS HEL
    generalize w7b.alloc (.cells #[.string ⟨sn.toArray⟩, .int .i64 sp, .bool sb] 46) = w7c at *
    replace HCA := Lib.hid (HCA.out.ext hxb)
    replace HTVA := Lib.hid (HTVA.out.keep (A' := fun _ => True) hxb.size (fun g _ hlt => ⟨trivial, hxb.block g hlt⟩))
    replace HCW := Lib.hid (HCW.out.ext hxb)
    replace HTVW := Lib.hid (HTVW.out.keep (A' := fun _ => True) hxb.size (fun g _ hlt => ⟨trivial, hxb.block g hlt⟩))
    replace HPL := Lib.hid (HPL.out.keep (A' := fun _ => True) hxb.size (fun g _ hlt => ⟨trivial, hxb.block g hlt⟩))
    replace HE := Lib.hid (ext_trans HE.out hxb)
    clear hxb
    have b1 : w7c.cell? ⟨QS, 1, none⟩ = some (.int .i64 sp) := hns.cell 1
    have b2 : w7c.cell? ⟨QS, 2, none⟩ = some (.bool sb) := hns.cell 2
    have HNS := Lib.hid hns
    clear hns
    cases sb with
    | true =>
      have HCE0 := Lib.hid (at_any W _ (fun _ => True) _ l w7c HTVW.out HPL.out)
      rw [HNM.out rfl] at HCE0
      have f0 := HCW.out.cell 0; have f1 := HCW.out.cell 1; have f2 := HCW.out.cell 2; have f3 := HCW.out.cell 3; have f4 := HCW.out.cell 4; have f5 := HCW.out.cell 5; have f6 := HCW.out.cell 6; have f7 := HCW.out.cell 7
      simp at f0 f1 f2 f3 f4 f5 f6 f7
      go_wp2_with fail
      refine (HCE0.out).mono ?_
      rintro e w8 ⟨c', rfl, htv, hx8⟩
      simp only [Option.isSome_none, Option.getD_none] at htv ⊢
      clear HCE0 b1 b2
      clear f0 f1 f2 f3 f4 f5 f6 f7
      replace HCA := Lib.hid (HCA.out.ext hx8)
      replace HTVA := Lib.hid (HTVA.out.keep (A' := fun _ => True) hx8.size (fun g _ hlt => ⟨trivial, hx8.block g hlt⟩))
      replace HCW := Lib.hid (HCW.out.ext hx8)
      replace HTVW := Lib.hid (HTVW.out.keep (A' := fun _ => True) hx8.size (fun g _ hlt => ⟨trivial, hx8.block g hlt⟩))
      replace HPL := Lib.hid (HPL.out.keep (A' := fun _ => True) hx8.size (fun g _ hlt => ⟨trivial, hx8.block g hlt⟩))
      replace HE := Lib.hid (ext_trans HE.out hx8)
      clear hx8
      obtain ⟨kH, bH, dH, sH, laH, lnH, lcH, maH, mnH, mcH, rfl⟩ := htv.eight
      obtain ⟨w8b, ew8b⟩ : ∃ W, w8.alloc (.cells (cellsV kH bH dH sH (.slice laH lnH lcH) (.slice maH mnH mcH)) 27) = W := ⟨_, rfl⟩
      have nw8b : w8b.heap[w8.heap.size]? = some (.cells (cellsV kH bH dH sH (.slice laH lnH lcH) (.slice maH mnH mcH)) 27) := by rw [← ew8b]; exact heap_alloc_new _ _
      have xw8b : Ext w8 w8b := by rw [← ew8b]; exact (ext_refl _).alloc (Nat.le_refl _) _
      have sw8b : w8b.heap.size = w8.heap.size + 1 := by rw [← ew8b]; simp
      have HCH : Hid (VAt w8b w8.heap.size (cellsV kH bH dH sH (.slice laH lnH lcH) (.slice maH mnH mcH))) := Lib.hid nw8b
      have HTVH := Lib.hid (htv.keep (w' := w8b) (A' := fun _ => True) xw8b.size (fun g _ hlt => ⟨trivial, xw8b.block g hlt⟩))
      have EH := Lib.hid ew8b
      clear nw8b ew8b
      have hxb := xw8b
      obtain ⟨QH, hQH⟩ : ∃ Q, w8.heap.size = Q := ⟨_, rfl⟩
      clear htv xw8b
      try clear sw8b
      replace HCA := Lib.hid (HCA.out.ext hxb)
      replace HTVA := Lib.hid (HTVA.out.keep (A' := fun _ => True) hxb.size (fun g _ hlt => ⟨trivial, hxb.block g hlt⟩))
      replace HCW := Lib.hid (HCW.out.ext hxb)
      replace HTVW := Lib.hid (HTVW.out.keep (A' := fun _ => True) hxb.size (fun g _ hlt => ⟨trivial, hxb.block g hlt⟩))
      replace HPL := Lib.hid (HPL.out.keep (A' := fun _ => True) hxb.size (fun g _ hlt => ⟨trivial, hxb.block g hlt⟩))
      replace HE := Lib.hid (ext_trans HE.out hxb)
      clear hxb
      simp only [cellsV] at HCH EH HTVH ⊢
      go_upto_region 15 with fail
      rw [EH.out]
      rw [hQH] at HCH
      clear hQH EH
      go_wp2_with fail
      go_ret
      exact ⟨rfl, HE.out⟩
    | false =>
      have hlp := HLP.out (by trivial) (by trivial)
      have e4 : IntKind.i64.wrap (sp + 1) = sp + 1 := IntWalk.i64_in _ (by omega)
      have hxo : Ext w7c (w7c.alloc (.cells #[] 46)) := (ext_refl w7c).alloc (Nat.le_refl _) _
      have hown : (w7c.alloc (.cells #[] 46)).ownsRow w7c.heap.size 46 3 (.slice (some ⟨w7c.heap.size, 0, none⟩) 0 0) 0 [] :=
        ⟨rfl, .inr ⟨w7c.heap.size, 0, #[], rfl, Nat.le_refl _, heap_alloc_new _ _, Nat.le_refl _, by simp only [maxLen]; omega, rfl, rfl⟩⟩
      have hsrc := (HPL.out.1.keep (A' := fun _ => True) hxo.size (fun g _ hlt => ⟨trivial, hxo.block g hlt⟩)).src (P := Tryz.prog) (tx := 28) (e' := 46) (by kernel_rfl) (by decide) (flat_one l)
      go_upto_region 17 with (first
        | (at_builtin; refine wpList_append_src _ rfl _ _ 28 28 rfl w7c.heap.size 46 _ _ 3 32 (by kernel_rfl) (by rfl) (by rfl) (by rfl) (by kernel_rfl) (by rfl) (by decide) _ 0 [] rfl hown _ l.length _ rfl hsrc (by simp only [maxLen]; omega) (by omega) hxo.size ?_; intro v' w8 ho' hg)
        | fail)
      have hx8 : Ext w7c w8 := hxo.trans (Below.ofGrown hg hown hxo.size)
      simp only [Nat.zero_add, List.nil_append] at ho'
      clear hg hown hsrc hxo
      obtain ⟨-, ⟨rfl, h0⟩ | ⟨g2, cap, cur, rfl, hbg, hg2, hnc, hcm, hcs, ht2⟩⟩ := ho'
      · exact absurd h0 hl0
      have hc2 : w8.cell? ⟨g2, J * 3 + 1, none⟩ = some (cur[J * 3 + 1]'(by have := HJ.out; omega)) := (cell_of_cells hg2).trans (Array.getElem?_eq_getElem _)
      have hf2 : w8.frozen? ⟨g2, J * 3 + 1, none⟩ = false := free_of_cells hg2
      have b1' : w8.cell? ⟨QS, 1, none⟩ = some (.int .i64 sp) := (HNS.out.ext hx8).cell 1
      have HPN0 := Lib.hid (bump_at (base := 0) hlpos hg2 ht2 hnc (by simpa [maxLen] using hcm) HPL.out.2 (by rw [HSS.out]; simp only; omega))
      rw [HSS.out, HJ.out] at HPN0
      simp only at HPN0
      have hxs : Ext w7c (w8.setCell ⟨g2, J * 3 + 1, none⟩ (.int .i64 (sp + 1))) := Below.setCell (p := ⟨g2, J * 3 + 1, none⟩) hx8 hbg _
      clear b1 b2 hg2 ht2 hbg hx8
      go_upto_region 18 with fail
      clear hc2 hf2 b1' e4 hcs HNS
      generalize w8.setCell ⟨g2, J * 3 + 1, none⟩ (.int .i64 (sp + 1)) = w9 at *
      replace HCA := Lib.hid (HCA.out.ext hxs)
      replace HTVA := Lib.hid (HTVA.out.keep (A' := fun _ => True) hxs.size (fun g _ hlt => ⟨trivial, hxs.block g hlt⟩))
      replace HCW := Lib.hid (HCW.out.ext hxs)
      replace HTVW := Lib.hid (HTVW.out.keep (A' := fun _ => True) hxs.size (fun g _ hlt => ⟨trivial, hxs.block g hlt⟩))
      replace HPL := Lib.hid (HPL.out.keep (A' := fun _ => True) hxs.size (fun g _ hlt => ⟨trivial, hxs.block g hlt⟩))
      replace HE := Lib.hid (ext_trans HE.out hxs)
      clear hxs
      have HPN := Lib.hid HPN0.out
      clear HPN0
      have HCE0 := Lib.hid (at_any W _ (fun _ => True) _ l w9 HTVW.out HPL.out)
      obtain ⟨R2, hR2⟩ : ∃ R, atT W l = R := ⟨_, rfl⟩
      have hun := HUN.out rfl
      rw [hR2] at HCE0 hun
      have HR2 := Lib.hid hun.symm
      clear hun hR2
      have f0 := HCW.out.cell 0; have f1 := HCW.out.cell 1; have f2 := HCW.out.cell 2; have f3 := HCW.out.cell 3; have f4 := HCW.out.cell 4; have f5 := HCW.out.cell 5; have f6 := HCW.out.cell 6; have f7 := HCW.out.cell 7
      simp at f0 f1 f2 f3 f4 f5 f6 f7
      go_wp2_with fail
      refine (HCE0.out).mono ?_
      rintro e w10 ⟨c', rfl, htv, hx10⟩
      clear HCE0
      clear f0 f1 f2 f3 f4 f5 f6 f7
      clear HCW HTVW
      replace HCA := Lib.hid (HCA.out.ext hx10)
      replace HTVA := Lib.hid (HTVA.out.keep (A' := fun _ => True) hx10.size (fun g _ hlt => ⟨trivial, hx10.block g hlt⟩))
      replace HPL := Lib.hid (HPL.out.keep (A' := fun _ => True) hx10.size (fun g _ hlt => ⟨trivial, hx10.block g hlt⟩))
      replace HPN := Lib.hid (HPN.out.keep (A' := fun _ => True) hx10.size (fun g _ hlt => ⟨trivial, hx10.block g hlt⟩))
      replace HE := Lib.hid (ext_trans HE.out hx10)
      clear hx10
      obtain ⟨kH, bH, dH, sH, laH, lnH, lcH, maH, mnH, mcH, rfl⟩ := htv.eight
      obtain ⟨w10b, ew10b⟩ : ∃ W, w10.alloc (.cells (cellsV kH bH dH sH (.slice laH lnH lcH) (.slice maH mnH mcH)) 27) = W := ⟨_, rfl⟩
      have nw10b : w10b.heap[w10.heap.size]? = some (.cells (cellsV kH bH dH sH (.slice laH lnH lcH) (.slice maH mnH mcH)) 27) := by rw [← ew10b]; exact heap_alloc_new _ _
      have xw10b : Ext w10 w10b := by rw [← ew10b]; exact (ext_refl _).alloc (Nat.le_refl _) _
      have sw10b : w10b.heap.size = w10.heap.size + 1 := by rw [← ew10b]; simp
      have HCH : Hid (VAt w10b w10.heap.size (cellsV kH bH dH sH (.slice laH lnH lcH) (.slice maH mnH mcH))) := Lib.hid nw10b
      have HTVH := Lib.hid (htv.keep (w' := w10b) (A' := fun _ => True) xw10b.size (fun g _ hlt => ⟨trivial, xw10b.block g hlt⟩))
      have EH := Lib.hid ew10b
      clear nw10b ew10b
      have hxb := xw10b
      obtain ⟨QH, hQH⟩ : ∃ Q, w10.heap.size = Q := ⟨_, rfl⟩
      clear htv xw10b
      try clear sw10b
      replace HCA := Lib.hid (HCA.out.ext hxb)
      replace HTVA := Lib.hid (HTVA.out.keep (A' := fun _ => True) hxb.size (fun g _ hlt => ⟨trivial, hxb.block g hlt⟩))
      replace HPL := Lib.hid (HPL.out.keep (A' := fun _ => True) hxb.size (fun g _ hlt => ⟨trivial, hxb.block g hlt⟩))
      replace HPN := Lib.hid (HPN.out.keep (A' := fun _ => True) hxb.size (fun g _ hlt => ⟨trivial, hxb.block g hlt⟩))
      replace HE := Lib.hid (ext_trans HE.out hxb)
      clear hxb
      simp only [cellsV] at HCH EH HTVH ⊢
      go_upto_region 19 with fail
      rw [EH.out]
      rw [hQH] at HCH
      clear hQH EH
      have HCF0 := Lib.hid (at_any t _ (fun _ => True) _ (bump l) w10b HTVA.out (by simpa using HPN.out))
      rw [HR2.out] at HCF0
      have f0 := HCA.out.cell 0; have f1 := HCA.out.cell 1; have f2 := HCA.out.cell 2; have f3 := HCA.out.cell 3; have f4 := HCA.out.cell 4; have f5 := HCA.out.cell 5; have f6 := HCA.out.cell 6; have f7 := HCA.out.cell 7
      simp at f0 f1 f2 f3 f4 f5 f6 f7
      go_wp2_with fail
      refine (HCF0.out).mono ?_
      rintro e w11 ⟨c', rfl, htv, hx11⟩
      clear HCF0
      clear f0 f1 f2 f3 f4 f5 f6 f7
      clear HCA HTVA
      replace HCH := Lib.hid (HCH.out.ext hx11)
      replace HTVH := Lib.hid (HTVH.out.keep (A' := fun _ => True) hx11.size (fun g _ hlt => ⟨trivial, hx11.block g hlt⟩))
      replace HPL := Lib.hid (HPL.out.keep (A' := fun _ => True) hx11.size (fun g _ hlt => ⟨trivial, hx11.block g hlt⟩))
      replace HPN := Lib.hid (HPN.out.keep (A' := fun _ => True) hx11.size (fun g _ hlt => ⟨trivial, hx11.block g hlt⟩))
      replace HE := Lib.hid (ext_trans HE.out hx11)
      clear hx11
      obtain ⟨kK, bK, dK, sK, laK, lnK, lcK, maK, mnK, mcK, rfl⟩ := htv.eight
      obtain ⟨w11b, ew11b⟩ : ∃ W, w11.alloc (.cells (cellsV kK bK dK sK (.slice laK lnK lcK) (.slice maK mnK mcK)) 27) = W := ⟨_, rfl⟩
      have nw11b : w11b.heap[w11.heap.size]? = some (.cells (cellsV kK bK dK sK (.slice laK lnK lcK) (.slice maK mnK mcK)) 27) := by rw [← ew11b]; exact heap_alloc_new _ _
      have xw11b : Ext w11 w11b := by rw [← ew11b]; exact (ext_refl _).alloc (Nat.le_refl _) _
      have sw11b : w11b.heap.size = w11.heap.size + 1 := by rw [← ew11b]; simp
      have HCK : Hid (VAt w11b w11.heap.size (cellsV kK bK dK sK (.slice laK lnK lcK) (.slice maK mnK mcK))) := Lib.hid nw11b
      have HTVK := Lib.hid (htv.keep (w' := w11b) (A' := fun _ => True) xw11b.size (fun g _ hlt => ⟨trivial, xw11b.block g hlt⟩))
      have EK := Lib.hid ew11b
      clear nw11b ew11b
      have hxb := xw11b
      obtain ⟨QK, hQK⟩ : ∃ Q, w11.heap.size = Q := ⟨_, rfl⟩
      clear htv xw11b
      try clear sw11b
      replace HCH := Lib.hid (HCH.out.ext hxb)
      replace HTVH := Lib.hid (HTVH.out.keep (A' := fun _ => True) hxb.size (fun g _ hlt => ⟨trivial, hxb.block g hlt⟩))
      replace HPL := Lib.hid (HPL.out.keep (A' := fun _ => True) hxb.size (fun g _ hlt => ⟨trivial, hxb.block g hlt⟩))
      replace HPN := Lib.hid (HPN.out.keep (A' := fun _ => True) hxb.size (fun g _ hlt => ⟨trivial, hxb.block g hlt⟩))
      replace HE := Lib.hid (ext_trans HE.out hxb)
      clear hxb
      simp only [cellsV] at HCK EK HTVK ⊢
      go_upto_region 20 with fail
      rw [EK.out]
      rw [hQK] at HCK
      clear hQK EK
      obtain ⟨I2, hI2⟩ : ∃ b, R2.isSome = b := ⟨_, rfl⟩
      rw [hI2]
      have hbb : (I2 == I2) = true := by simp
      obtain ⟨X, hX⟩ : ∃ X, R2.getD tNull = X := ⟨_, rfl⟩
      rw [hX] at HTVH HTVK
      have hee : exactT X X = true := exactT_refl X
      clear hI2 hX
      have f0 := HCH.out.cell 0; have f1 := HCH.out.cell 1; have f2 := HCH.out.cell 2; have f3 := HCH.out.cell 3; have f4 := HCH.out.cell 4; have f5 := HCH.out.cell 5; have f6 := HCH.out.cell 6; have f7 := HCH.out.cell 7
      simp at f0 f1 f2 f3 f4 f5 f6 f7
      have d0 := HCK.out.cell 0; have d1 := HCK.out.cell 1; have d2 := HCK.out.cell 2; have d3 := HCK.out.cell 3; have d4 := HCK.out.cell 4; have d5 := HCK.out.cell 5; have d6 := HCK.out.cell 6; have d7 := HCK.out.cell 7
      simp at d0 d1 d2 d3 d4 d5 d6 d7
      go_wp2_with fail
      refine (exact_any X X _ _ _ _ w11b HTVH.out HTVK.out).mono ?_
      rintro e w12 ⟨rfl, hx12⟩
      rw [hee]
      replace HE := Lib.hid (ext_trans HE.out hx12)
      clear hx12
      go_wp2_with fail
      go_ret
      exact ⟨rfl, HE.out⟩
set_option linter.unusedSimpArgs false
theorem own : ownKnob Tryz.prog.godebug = none := by kernel_rfl
theorem laid : laidOutB Tryz.prog = true := by kernel_rfl
set_option maxHeartbeats 1600000 in
set_option maxRecDepth 100000 in
theorem lifted (os : Os) (started : os.Started) (H : Type) (enc : TypeId × Value → H) :
    ReturnsInHanded {} Tryz.checked os 6 .any (fun w args => (Rows.valueDropsSpec.pre enc Tryz.prog Tryz.f6 [] false w args ∧ laidMetH Tryz.prog Rows.valueDropsRow.laid w) ∧ sizedMet enc Tryz.prog Tryz.f6 (OpenSpec.ofChange Rows.valueDropsSpec) false w args) (Rows.valueDropsSpec.post enc Tryz.prog Tryz.f6 false true false false) := by
  refine returnsInHanded_of_change_and (C := Tryz.checked) (X := fun w _ => laidMetH Tryz.prog Rows.valueDropsRow.laid w) (fun _ _ _ hh h => h.of_heap hh) own started (by kernel_rfl) Tryz.func6
    (ChangeSpec.witness_shaped (enc := enc) (C := Tryz.checked) (os := os) (X := fun w _ => laidMetH Tryz.prog Rows.valueDropsRow.laid w) false (World.laidAll Tryz.prog os Rows.valueDropsRow.laid) #[.agg #[.int .i64 0, .bool false, .bool false, .string ⟨#[]⟩, .int .i64 0, .string ⟨#[]⟩, .slice none 0 0, .slice none 0 0], .slice none 0 0, .agg #[.int .i64 0, .bool false, .bool false, .string ⟨#[]⟩, .int .i64 0, .string ⟨#[]⟩, .slice none 0 0, .slice none 0 0]] 8 (World.laidAll_os _ _ _)
      (World.shaped_of_ZipB (by kernel_rfl) (by kernel_rfl)) (by kernel_rfl) (by kernel_rfl) (by kernel_rfl)
      (by rw [MakeChecks.laidMetH_plain _ _ _ (by kernel_rfl)]; exact laidMet_laidAll _ (by kernel_rfl) (by kernel_rfl))) ?_
  intro W base args ds gs before hval0 hW _ hsz0 hX _
  have hT : Tab W := tab_of hX
  have hsz : (DataW.weightsEach Tryz.prog (Tryz.f6.params.toList ++ Rows.valueDropsSpec.plain.varTypes Tryz.prog) (ds ++ gs)).all (· ≤ reachBytes) = true := hsz0
  clear hsz0
  have hval : ∀ (j : Nat) t v, Tryz.f6.params[j]? = some t → args[j]? = some v → Value.okWide Tryz.prog W .any base t v := hval0
  have hW' := hW
  obtain ⟨p, q, hA0, hV, rfl, _, _⟩ := hW
  have hA : DataW.TrodAll enc Tryz.prog W 0 (fun _ => true) true Tryz.f6.params.toList args.toList ds p := hA0
  rw [Tryz.params6] at hA hval hsz
  obtain ⟨v0, vs0, d0, ds0, p0, q0, ha0, rfl, rfl, h0, r0⟩ := trodAll_cons hA
  obtain ⟨v1, vs1, d1, ds1, p1, q1, ha1, rfl, rfl, h1, r1⟩ := trodAll_cons r0
  obtain ⟨v2, vs2, d2, ds2, p2, q2, ha2, rfl, rfl, h2, r2⟩ := trodAll_cons r1
  obtain ⟨hb3, rfl, rfl⟩ := trodAll_nil r2
  subst hb3
  subst ha2
  subst ha1
  obtain rfl : args = #[v0, v1, v2] := by cases args; simpa using ha0
  obtain ⟨rfl, rfl⟩ := trodVars_none hV
  have hk0 := h0
  obtain ⟨cs0, rfl, _⟩ := okWide_struct Tryz.underlying27 (hval 0 27 v0 rfl rfl)
  obtain ⟨fu0, hf0⟩ := h0
  obtain ⟨t0, ht0, hok0⟩ := trod_val (enc := enc) W fu0 _ d0 p0 hf0 (fun n hn => by simpa using List.all_eq_true.1 hsz _ (DataW.weights_mem_each (j := 0) rfl rfl n hn))
  have hk1 := h1
  obtain ⟨a1, len1, cap1, rfl⟩ := okWide_slice Tryz.underlying28 (hval 1 28 v1 rfl rfl)
  obtain ⟨fu1, hf1⟩ := h1
  obtain ⟨t1, ht1, hok1⟩ := trod_steps (enc := enc) W fu1 _ d1 p1 hf1 (fun n hn => by simpa using List.all_eq_true.1 hsz _ (DataW.weights_mem_each (j := 1) rfl rfl n hn))
  have hk2 := h2
  obtain ⟨cs2, rfl, _⟩ := okWide_struct Tryz.underlying27 (hval 2 27 v2 rfl rfl)
  obtain ⟨fu2, hf2⟩ := h2
  obtain ⟨t2, ht2, hok2⟩ := trod_val (enc := enc) W fu2 _ d2 p2 hf2 (fun n hn => by simpa using List.all_eq_true.1 hsz _ (DataW.weights_mem_each (j := 2) rfl rfl n hn))
  have hlt := fun x hx => hW'.lt x hx
  simp only [List.append_nil, List.nil_append] at hW' hlt
  refine (walk t0 _ t1 _ t2 _ W hT ht0 hok0 (ht1 _ rfl) hok1 ht2 hok2).mono fun e W' ⟨he, hb⟩ => ?_
  subst he
  have hargs := (trodAll_cons_mk (Below.trod laid readV (of_decide_eq_true (by kernel_rfl)) hk0 hb (fun x hx => by first | exact hlt x hx | exact absurd hx (List.not_mem_nil) | exact hlt x (by simp [hx]))) (trodAll_cons_mk (Below.trod laid (by kernel_rfl) (of_decide_eq_true (by kernel_rfl)) hk1 hb (fun x hx => by first | exact hlt x hx | exact absurd hx (List.not_mem_nil) | exact hlt x (by simp [hx]))) (trodAll_cons_mk (Below.trod laid readV (of_decide_eq_true (by kernel_rfl)) hk2 hb (fun x hx => by first | exact hlt x hx | exact absurd hx (List.not_mem_nil) | exact hlt x (by simp [hx]))) trodAll_mk0)))
  exact ⟨_, rfl, _, _, _, [], _, [], hW', trodAll_cons_mk (shut_bool Tryz.underlying4 _) trodAll_mk0, hargs, rfl, hb.frame _, fun h => by cases h⟩

theorem closed : joinedFacts Tryz.prog 6 Tryz.f6 Rows.valueDropsSpec Rows.valueDropsRow = true := by
  have hp : Tryz.f6.params.toList ++ Rows.valueDropsSpec.plain.varTypes Tryz.prog = [27, 28, 27] := by kernel_rfl
  have hr : Tryz.f6.resultTypes.toList = [4] := by kernel_rfl
  have hq : Tryz.f6.params = #[27, 28, 27] := by kernel_rfl
  refine joined_of (by kernel_rfl) ?_ (by kernel_rfl) ?_ ?_ (by kernel_rfl) ?_ ?_ (by kernel_rfl) ?_ (veiledFits_of rfl ?_ (by kernel_rfl))
  · rw [hq]; simp [readV, show Tryz.prog.readableRec 28 = true by kernel_rfl]
  · rw [hp]; simp only [List.any_cons, List.any_nil, mapsV, show Tryz.prog.mapsRec 28 = false by kernel_rfl]; rfl
  · rw [hp]; simp only [List.any_cons, List.any_nil, ifacesV, show Tryz.prog.ifacesRec 28 = false by kernel_rfl]; rfl
  · rw [hp]; simp only [List.any_cons, List.any_nil, loopsV, show Tryz.prog.loopsFrom 28 = false by kernel_rfl]; rfl
  · rw [hp, hr]; simp only [List.cons_append, List.nil_append, List.any_cons, List.any_nil, wideV, show Tryz.prog.wideKeysFrom 28 = false by kernel_rfl, show Tryz.prog.wideKeysFrom 4 = false by kernel_rfl]; rfl
  · rw [hp, hr]; simp only [List.cons_append, List.nil_append, List.any_cons, List.any_nil, veiledV, show Tryz.prog.veiledRec 28 = false by kernel_rfl, show Tryz.prog.veiledRec 4 = false by kernel_rfl]; rfl
  · rw [hp, hr]; simp only [List.cons_append, List.nil_append, List.all_cons, List.all_nil, ownV, show Tryz.prog.veiledOwn 28 = true by kernel_rfl, show Tryz.prog.veiledOwn 4 = true by kernel_rfl]; rfl
theorem held : Rows.ValueDropsSaid :=
  OpenClaim.holds_of_wide 6 Tryz.f6 rfl rfl rfl rfl rfl rfl rfl ⟨rfl, rfl, rfl, rfl, rfl⟩ rfl rfl rfl rfl rfl (by kernel_rfl) Tryz.func6 closed
    (of_decide_eq_true (by kernel_rfl)) (by unfold Func.isWrapper; first | (rw [if_pos (by decide +kernel)]; kernel_rfl) | (rw [if_neg (by decide +kernel)]; exact ⟨rfl, rfl⟩))
    (fun os started H enc _ => lifted os started H enc)

theorem proved : Rows.ValueDropsCardSaid :=
  Claim7.holds_tied_plain_at .later [] Rows.valueDropsCard.laidKinds true Rows.valueDropsCard.stood.harness Rows.valueDropsCard.stood.looks held (fun _ h => by cases h) (by kernel_rfl) (fun _ h => by cases h) valueDrops_row_tie rfl ⟨rfl, rfl⟩ (by kernel_rfl) rfl
    (fun f fn hf hfn => by
      obtain rfl : f = 6 := Option.some.inj ((show Tryz.prog.funcNamed "orangery/orangerylaw03.ValueDrops" = some 6 by kernel_rfl).symm.trans hf) |>.symm
      obtain rfl : fn = Tryz.f6 := (Option.some.inj (Tryz.func6.symm.trans hfn)).symm
      exact ⟨by kernel_rfl, fun j t ht => by
        rw [Tryz.params6] at ht
        have hm : t ∈ [27, 28, 27] := by simpa using Array.mem_of_getElem? ht
        have hall : ([27, 28, 27].all fun u => !Tryz.prog.wantsStandIn u) = true := by kernel_rfl
        exact (show Tryz.prog.wantsStandIn t = false by simpa using List.all_eq_true.1 hall t hm)⟩)
    (by kernel_rfl)
end Go.Proofs.YtjapbjmeoaagmaaGreatDoor.valueDrops
