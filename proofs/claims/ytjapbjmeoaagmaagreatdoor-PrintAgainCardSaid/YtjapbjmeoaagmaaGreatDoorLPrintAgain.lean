/- PrintAgain: WHAT IS READ IS READ AGAIN: any text that is parsed has, written, a text that is parsed to the same value, and that is its own: whatever the arguments, the law returns true and what came in reads as it did. No condition. -/
import Derived.Test.YtjapbjmeoaagmaaGreatDoorRows
import Derived.Test.YtjapbjmeoaagmaaGreatDoorCards
import Derived.Test.YtjapbjmeoaagmaaGreatDoorTie
import Derived.Test.YtjapbjmeoaagmaaGreatDoorQPrintW3
import Derived.Test.YtjapbjmeoaagmaaGreatDoorQPrintW1
import Derived.Test.YtjapbjmeoaagmaaGreatDoorEPrintWConv
import Derived.ProofKit
import Derived.SizedLaws
import Derived.OpenShut
import Derived.Lay
import Derived.LaidMore
import Derived.SevenTiedAt
import Derived.IntWalk
set_option linter.unusedVariables false
set_option linter.unusedSimpArgs false
set_option maxRecDepth 100000
namespace Go.Proofs.YtjapbjmeoaagmaaGreatDoor.printAgain
open Go.ChangeShapes Go.WideShapes Go.ChangeAt Go.RowKit Go.Mem Orange
-- the box of an argument $1: its TV: $2, named by $3 (k b d ..), the world $4 -> $5; leaves HC$3, HTV$3
-- a call's world: hx : Ext w w': carries the boxes ($2: their names) and HE; new name of the world: $1
theorem sx_size (l : List UInt8) : (ByteArray.mk l.toArray).size = l.length := by simp [ByteArray.size]
-- a text's bytes, parsed, and the value laid in a box: $1: the world, $2: the bytes, $3: the tree, $4: its names' letter, $5: the region behind

theorem toldT_of {t : Tree} (h : (printT t).2 = 0) : toldT (-1) t = (outT (-1) 0 (sortedT t), 0) := by
  obtain ⟨⟨m, hs⟩, _⟩ := printT_zero h
  unfold toldT
  rw [hs]; simp
set_option maxHeartbeats 12800000 in
theorem walk (v : Value) (xs : List UInt8) (w : World) (hT : Tab w) (hb : Bytes w v xs) :
    Calls Tryz.prog 12 #[v] w fun e w' => e = .returned (.bool true) ∧ Ext w w' := by
  obtain ⟨va, vc, rfl, hnc, hcm, hl47, _⟩ := id hb
  have HB := Lib.hid hb
  have HTB := Lib.hid hT
  clear hb hT
  go_enter Tryz.func12, Tryz.ntmps12
  go_wp2_with fail
  refine (pawake5 w HTB.out).mono ?_
  rintro e w1 ⟨rfl, hx1⟩
  have HE := Lib.hid hx1
  clear hx1
  by_cases hlen : 1500 < xs.length
  · have hd : decide (1500 < (xs.length : Int)) = true := by simp; omega
    go_wp2_with fail
    go_ret
    exact ⟨rfl, HE.out⟩
  have hd : decide (1500 < (xs.length : Int)) = false := by simp; omega
  go_wp2_with fail
  refine (top_any _ xs _ (HB.out.ext HE.out)).mono ?_
  intro e w2 hend
  obtain ⟨t, er, p, hpar⟩ : ∃ t er p, parseP xs = (t, er, p) := ⟨_, _, _, rfl⟩
  rw [hpar] at hend
  obtain ⟨cc, rfl, htv, hw2⟩ := hend
  simp only at htv ⊢
  replace HE := Lib.hid (ext_trans HE.out hw2)
  clear hw2 hd
  obtain ⟨kA, bA, dA, sA, laA, lnA, lcA, maA, mnA, mcA, rfl⟩ := htv.eight
  obtain ⟨w3, ew3⟩ : ∃ W, w2.alloc (.cells (cellsV kA bA dA sA (.slice laA lnA lcA) (.slice maA mnA mcA)) 27) = W := ⟨_, rfl⟩
  have nw3 : w3.heap[w2.heap.size]? = some (.cells (cellsV kA bA dA sA (.slice laA lnA lcA) (.slice maA mnA mcA)) 27) := by rw [← ew3]; exact heap_alloc_new _ _
  have xw3 : Ext w2 w3 := by rw [← ew3]; exact (ext_refl _).alloc (Nat.le_refl _) _
  have sw3 : w3.heap.size = w2.heap.size + 1 := by rw [← ew3]; simp
  have HCA : Hid (VAt w3 w2.heap.size (cellsV kA bA dA sA (.slice laA lnA lcA) (.slice maA mnA mcA))) := Lib.hid nw3
  have HTVA := Lib.hid (htv.keep (w' := w3) (A' := fun _ => True) xw3.size (fun g _ hlt => ⟨trivial, xw3.block g hlt⟩))
  have EA := Lib.hid ew3
  clear nw3 ew3
  clear htv
  simp only [cellsV] at HCA HTVA EA xw3 ⊢
  obtain ⟨SA, hSA⟩ : ∃ SA, w2.heap.size = SA := ⟨_, rfl⟩
  rw [hSA] at HCA
  go_upto_region 5 with fail
  rw [EA.out]
  clear hSA EA sw3
  replace HE := Lib.hid (ext_trans HE.out xw3)
  clear xw3
  by_cases hz : er = 0
  · subst hz
    obtain ⟨g1, g2, g3, g4, g5, g6⟩ := again_law (show xs.length ≤ 1500 by omega) hpar
    have hl0 := (printT_zero (t := t) (by rw [g1])).2.2
    have hlen2 : Hid (toldT (-1) t = (outT (-1) 0 (sortedT t), 0)) := Lib.hid (toldT_of (by rw [g1]))
    have HD := Lib.hid (show distT t ∧ distT (sortedT t) from by
      obtain ⟨⟨m, hs⟩, _⟩ := printT_zero (t := t) (by rw [g1])
      obtain ⟨⟨m', hs'⟩, _⟩ := printT_zero (t := sortedT t) (by rw [g3])
      exact ⟨SaneP.dist _ _ (Nat.lt_succ_self _) (OkT.saneP hs), SaneP.dist _ _ (Nat.lt_succ_self _) (OkT.saneP hs')⟩)
    obtain ⟨l, hl⟩ : ∃ l, outT (-1) 0 (sortedT t) = l := ⟨_, rfl⟩
    have htold := hlen2.out
    rw [hl] at g1 g2 g3 hl0 htold
    obtain ⟨T, hT⟩ : ∃ T, sortedT t = T := ⟨_, rfl⟩
    have hd2 := HD.out
    rw [hT] at g2 g3 g4 g6 hd2
    have hpl : l.length ≤ 65536 := hl0
    have hbl : (ByteArray.mk l.toArray).size ≤ 140737488355328 := by rw [sx_size]; omega
    have HPARSE := Lib.hid g2
    have HP1 := Lib.hid g1
    have HP3 := Lib.hid g3
    have HTOLD := Lib.hid htold
    have HSAME := Lib.hid g4
    have HW := Lib.hid (show weightT t ≤ 75000 ∧ weightT T ≤ 75000 from ⟨g5, by omega⟩)
    have HDD := Lib.hid hd2
    clear g1 g2 g3 g4 g5 g6 hl0 hlen2 htold hd2 HD hpar hl hT
    have hwt : weightT t ≤ 1000000 := by have := HW.out.1; omega
    have hwT : weightT T ≤ 1000000 := by have := HW.out.2; omega
    have c0 := HCA.out.cell 0; have c1 := HCA.out.cell 1; have c2 := HCA.out.cell 2; have c3 := HCA.out.cell 3; have c4 := HCA.out.cell 4; have c5 := HCA.out.cell 5; have c6 := HCA.out.cell 6; have c7 := HCA.out.cell 7
    simp at c0 c1 c2 c3 c4 c5 c6 c7
    go_wp2_with fail
    refine (printV_any t _ _ w3 HTVA.out hwt (HTB.out.ext HE.out)).mono ?_
    rintro e w4 ⟨rfl, hx4⟩
    rw [HP1.out]
    replace HCA := Lib.hid (HCA.out.ext hx4)
    replace HTVA := Lib.hid (HTVA.out.keep (A' := fun _ => True) hx4.size (fun g _ hlt => ⟨trivial, hx4.block g hlt⟩))
    replace HE := Lib.hid (ext_trans HE.out hx4)
    clear hx4
    clear c0 c1 c2 c3 c4 c5 c6 c7
    go_wp2_with (first | (refine wpList_bytes_of_string w4 rfl 9 56 5 _ rfl ⟨(l).toArray⟩ rfl Tryz.underlying9 Tryz.underlying56 Tryz.underlying5 hbl ?_; intro cap2 wp2 hE2 hcap2 hcm2 hsz2 hat2) | fail)
    rw [sx_size] at hcap2
    refine (top_any _ (l) _ (Bytes.mk hat2 rfl hcap2 hcm2 (by rw [sx_size] at hbl; omega))).mono ?_
    intro e wp3 hend
    rw [HPARSE.out] at hend
    obtain ⟨cc, rfl, htvp, hwp3⟩ := hend
    simp only at htvp ⊢
    replace hE2 := ext_trans hE2 hwp3
    replace HCA := Lib.hid (HCA.out.ext hE2)
    replace HTVA := Lib.hid (HTVA.out.keep (A' := fun _ => True) hE2.size (fun g _ hlt => ⟨trivial, hE2.block g hlt⟩))
    skip
    replace HE := Lib.hid (ext_trans HE.out hE2)
    clear hat2 hwp3 hcap2 hcm2 hsz2
    obtain ⟨kB, bB, dB, sB, laB, lnB, lcB, maB, mnB, mcB, rfl⟩ := htvp.eight
    obtain ⟨wp4, ewp4⟩ : ∃ W, wp3.alloc (.cells (cellsV kB bB dB sB (.slice laB lnB lcB) (.slice maB mnB mcB)) 27) = W := ⟨_, rfl⟩
    have nwp4 : wp4.heap[wp3.heap.size]? = some (.cells (cellsV kB bB dB sB (.slice laB lnB lcB) (.slice maB mnB mcB)) 27) := by rw [← ewp4]; exact heap_alloc_new _ _
    have xwp4 : Ext wp3 wp4 := by rw [← ewp4]; exact (ext_refl _).alloc (Nat.le_refl _) _
    have swp4 : wp4.heap.size = wp3.heap.size + 1 := by rw [← ewp4]; simp
    have HCB : Hid (VAt wp4 wp3.heap.size (cellsV kB bB dB sB (.slice laB lnB lcB) (.slice maB mnB mcB))) := Lib.hid nwp4
    have HTVB := Lib.hid (htvp.keep (w' := wp4) (A' := fun _ => True) xwp4.size (fun g _ hlt => ⟨trivial, xwp4.block g hlt⟩))
    have EB := Lib.hid ewp4
    clear nwp4 ewp4
    clear htvp
    simp only [cellsV] at HCB HTVB EB xwp4 ⊢
    obtain ⟨SB, hSB⟩ : ∃ SB, wp3.heap.size = SB := ⟨_, rfl⟩
    rw [hSB] at HCB
    go_upto_region 9 with fail
    rw [EB.out]
    clear hSB EB swp4
    replace HE := Lib.hid (ext_trans HE.out xwp4)
    replace HCA := Lib.hid (HCA.out.ext xwp4)
    replace HTVA := Lib.hid (HTVA.out.keep (A' := fun _ => True) xwp4.size (fun g _ hlt => ⟨trivial, xwp4.block g hlt⟩))
    clear xwp4
    have d0 := HCB.out.cell 0; have d1 := HCB.out.cell 1; have d2 := HCB.out.cell 2; have d3 := HCB.out.cell 3; have d4 := HCB.out.cell 4; have d5 := HCB.out.cell 5; have d6 := HCB.out.cell 6; have d7 := HCB.out.cell 7
    simp at d0 d1 d2 d3 d4 d5 d6 d7
    go_wp2_with fail
    refine (printV_any T _ _ wp4 HTVB.out hwT (HTB.out.ext HE.out)).mono ?_
    rintro e w5 ⟨rfl, hx5⟩
    rw [HP3.out]
    replace HCA := Lib.hid (HCA.out.ext hx5)
    replace HTVA := Lib.hid (HTVA.out.keep (A' := fun _ => True) hx5.size (fun g _ hlt => ⟨trivial, hx5.block g hlt⟩))
    replace HCB := Lib.hid (HCB.out.ext hx5)
    replace HTVB := Lib.hid (HTVB.out.keep (A' := fun _ => True) hx5.size (fun g _ hlt => ⟨trivial, hx5.block g hlt⟩))
    replace HE := Lib.hid (ext_trans HE.out hx5)
    clear hx5
    clear d0 d1 d2 d3 d4 d5 d6 d7
    have c0 := HCA.out.cell 0; have c1 := HCA.out.cell 1; have c2 := HCA.out.cell 2; have c3 := HCA.out.cell 3; have c4 := HCA.out.cell 4; have c5 := HCA.out.cell 5; have c6 := HCA.out.cell 6; have c7 := HCA.out.cell 7
    simp at c0 c1 c2 c3 c4 c5 c6 c7
    have d0 := HCB.out.cell 0; have d1 := HCB.out.cell 1; have d2 := HCB.out.cell 2; have d3 := HCB.out.cell 3; have d4 := HCB.out.cell 4; have d5 := HCB.out.cell 5; have d6 := HCB.out.cell 6; have d7 := HCB.out.cell 7
    simp at d0 d1 d2 d3 d4 d5 d6 d7
    go_wp2_with fail
    refine (same_any t T _ _ _ _ w5 hwt hwT HDD.out.1 HDD.out.2 HTVA.out HTVB.out).mono ?_
    rintro e w6 ⟨rfl, hx6⟩
    rw [HSAME.out]
    replace HCA := Lib.hid (HCA.out.ext hx6)
    replace HTVA := Lib.hid (HTVA.out.keep (A' := fun _ => True) hx6.size (fun g _ hlt => ⟨trivial, hx6.block g hlt⟩))
    replace HE := Lib.hid (ext_trans HE.out hx6)
    clear hx6
    clear c0 c1 c2 c3 c4 c5 c6 c7
    clear d0 d1 d2 d3 d4 d5 d6 d7
    have c0 := HCA.out.cell 0; have c1 := HCA.out.cell 1; have c2 := HCA.out.cell 2; have c3 := HCA.out.cell 3; have c4 := HCA.out.cell 4; have c5 := HCA.out.cell 5; have c6 := HCA.out.cell 6; have c7 := HCA.out.cell 7
    simp at c0 c1 c2 c3 c4 c5 c6 c7
    go_wp2_with fail
    refine (size_any t _ _ w6 HTVA.out hwt (HTB.out.ext HE.out)).mono ?_
    rintro e w7 ⟨rfl, hx7⟩
    rw [HTOLD.out]
    replace HE := Lib.hid (ext_trans HE.out hx7)
    clear hx7
    clear c0 c1 c2 c3 c4 c5 c6 c7
    go_wp2_with fail
    go_ret
    exact ⟨rfl, HE.out⟩
  · have hne : (er != 0) = true := by simpa using hz
    clear hz
    go_wp2_with fail
    go_ret
    exact ⟨rfl, HE.out⟩
set_option linter.unusedSimpArgs false
theorem own : ownKnob Tryz.prog.godebug = none := by kernel_rfl
theorem laid : laidOutB Tryz.prog = true := by kernel_rfl
theorem cells1 : Tryz.prog.cellsOf 5 = 1 := by kernel_rfl
theorem bytes1 : Tryz.prog.bytesOf 5 = 1 := by kernel_rfl
set_option maxHeartbeats 1600000 in
set_option maxRecDepth 100000 in
theorem lifted (os : Os) (started : os.Started) (H : Type) (enc : TypeId × Value → H) :
    ReturnsInHanded {} Tryz.checked os 12 .any (fun w args => (Rows.printAgainSpec.pre enc Tryz.prog Tryz.f12 [] false w args ∧ laidMetH Tryz.prog Rows.printAgainRow.laid w) ∧ sizedMet enc Tryz.prog Tryz.f12 (OpenSpec.ofChange Rows.printAgainSpec) false w args) (Rows.printAgainSpec.post enc Tryz.prog Tryz.f12 false true false false) := by
  refine returnsInHanded_of_change_and (C := Tryz.checked) (X := fun w _ => laidMetH Tryz.prog Rows.printAgainRow.laid w) (fun _ _ _ hh h => h.of_heap hh) own started (by kernel_rfl) Tryz.func12
    (ChangeSpec.witness_shaped (enc := enc) (C := Tryz.checked) (os := os) (X := fun w _ => laidMetH Tryz.prog Rows.printAgainRow.laid w) false (World.laidAll Tryz.prog os Rows.printAgainRow.laid) #[.slice none 0 0] 8 (World.laidAll_os _ _ _)
      (World.shaped_of_ZipB (by kernel_rfl) (by kernel_rfl)) (by kernel_rfl) (by kernel_rfl) (by kernel_rfl)
      (by rw [MakeChecks.laidMetH_plain _ _ _ (by kernel_rfl)]; exact laidMet_laidAll _ (by kernel_rfl) (by kernel_rfl))) ?_
  intro W base args ds gs before hval0 hW _ hsz0 hX _
  have hT : Tab W := tab_of hX
  have hsz : (DataW.weightsEach Tryz.prog (Tryz.f12.params.toList ++ Rows.printAgainSpec.plain.varTypes Tryz.prog) (ds ++ gs)).all (· ≤ reachBytes) = true := hsz0
  clear hsz0
  have hval : ∀ (j : Nat) t v, Tryz.f12.params[j]? = some t → args[j]? = some v → Value.okWide Tryz.prog W .any base t v := hval0
  have hW' := hW
  obtain ⟨p, q, hA0, hV, rfl, _, _⟩ := hW
  have hA : DataW.TrodAll enc Tryz.prog W 0 (fun _ => true) true Tryz.f12.params.toList args.toList ds p := hA0
  rw [Tryz.params12] at hA hval hsz
  obtain ⟨v0, vs0, d0, ds0, p0, q0, ha0, rfl, rfl, h0, r0⟩ := trodAll_cons hA
  obtain ⟨hb1, rfl, rfl⟩ := trodAll_nil r0
  subst hb1
  obtain rfl : args = #[v0] := by cases args; simpa using ha0
  obtain ⟨rfl, rfl⟩ := trodVars_none hV
  have hk0 := h0
  obtain ⟨a0, len0, cap0, rfl⟩ := okWide_slice Tryz.underlying56 (hval 0 56 v0 rfl rfl)
  obtain ⟨xs0, hx0⟩ := bytes_of_trod Tryz.underlying56 Tryz.underlying5 cells1 h0 (fun elems spare e => by subst e; have := sized_slice hsz (j := 0) rfl rfl Tryz.underlying56; rw [bytes1] at this; simp only [reachBytes] at this; omega)
  have hlt := fun x hx => hW'.lt x hx
  simp only [List.append_nil, List.nil_append] at hW' hlt
  refine (walk _ xs0 W hT hx0).mono fun e W' ⟨he, hb⟩ => ?_
  subst he
  have hargs := (trodAll_cons_mk (Below.trod laid (by kernel_rfl) (of_decide_eq_true (by kernel_rfl)) hk0 hb (fun x hx => by first | exact hlt x hx | exact absurd hx (List.not_mem_nil) | exact hlt x (by simp [hx]))) trodAll_mk0)
  exact ⟨_, rfl, _, _, _, [], _, [], hW', trodAll_cons_mk (shut_bool Tryz.underlying4 _) trodAll_mk0, hargs, rfl, hb.frame _, fun h => by cases h⟩

theorem held : Rows.PrintAgainSaid :=
  OpenClaim.holds_of_wide 12 Tryz.f12 rfl rfl rfl rfl rfl rfl rfl ⟨rfl, rfl, rfl, rfl, rfl⟩ rfl rfl rfl rfl rfl (by kernel_rfl) Tryz.func12 (by kernel_rfl)
    (of_decide_eq_true (by kernel_rfl)) (by unfold Func.isWrapper; first | (rw [if_pos (by decide +kernel)]; kernel_rfl) | (rw [if_neg (by decide +kernel)]; exact ⟨rfl, rfl⟩))
    (fun os started H enc _ => lifted os started H enc)

theorem proved : Rows.PrintAgainCardSaid :=
  Claim7.holds_tied_plain_at .later [] Rows.printAgainCard.laidKinds true Rows.printAgainCard.stood.harness Rows.printAgainCard.stood.looks held (fun _ h => by cases h) (by kernel_rfl) (fun _ h => by cases h) printAgain_row_tie rfl ⟨rfl, rfl⟩ (by kernel_rfl) rfl
    (fun f fn hf hfn => by
      obtain rfl : f = 12 := Option.some.inj ((show Tryz.prog.funcNamed "orangery/orangerylaw05.PrintAgain" = some 12 by kernel_rfl).symm.trans hf) |>.symm
      obtain rfl : fn = Tryz.f12 := (Option.some.inj (Tryz.func12.symm.trans hfn)).symm
      exact ⟨by kernel_rfl, fun j t ht => by
        rw [Tryz.params12] at ht
        have hm : t ∈ [56] := by simpa using Array.mem_of_getElem? ht
        have hall : ([56].all fun u => !Tryz.prog.wantsStandIn u) = true := by kernel_rfl
        exact (show Tryz.prog.wantsStandIn t = false by simpa using List.all_eq_true.1 hall t hm)⟩)
    (by kernel_rfl)
end Go.Proofs.YtjapbjmeoaagmaaGreatDoor.printAgain
