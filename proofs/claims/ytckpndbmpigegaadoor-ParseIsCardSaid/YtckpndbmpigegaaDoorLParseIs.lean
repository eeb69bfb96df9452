/- ParseIs: which value any text is, or why it is none, and which one it has at any place, is what the reference says: whatever the input, the law returns true and the input reads as it did. No condition. -/
import Derived.Test.YtckpndbmpigegaaDoorRows
import Derived.Test.YtckpndbmpigegaaDoorCards
import Derived.Test.YtckpndbmpigegaaDoorTie
import Derived.Test.YtckpndbmpigegaaDoorQParseIs3
import Derived.Test.YtckpndbmpigegaaDoorQParseIs1
import Derived.Test.YtckpndbmpigegaaDoorFrame
import Derived.ProofKit
import Derived.SizedLaws
import Derived.OpenShut
import Derived.Lay
import Derived.LaidMore
import Derived.SevenTiedAt
import Derived.IntWalk
import Derived.Laws.BitsLemmas
set_option linter.unusedVariables false
set_option linter.unusedSimpArgs false
set_option maxRecDepth 100000
namespace Go.Proofs.YtckpndbmpigegaaDoor.parseIs
open Go.ChangeShapes Go.WideShapes Go.ChangeAt Go.RowKit Go.Mem Orange


/-- what One tells: the value, the place, the error -/
def oneT : PR Tree → Tree × Nat × Int
  | .ok t a _ => (t, a, 0)
  | .err e a => (tNull, a, e)
theorem EndOne.all {w w' : World} {e : Ending} {T : PR Tree} (h : EndOne w e w' T) : ∃ c, e = .returned (.tuple #[.agg c, .int .i64 (oneT T).2.1, .int .i64 (oneT T).2.2]) ∧ TV w' (fun g => w.heap.size ≤ g) (oneT T).1 c ∧ Ext w w' := by
  cases T with
  | ok t a n => exact h
  | err er b => exact ⟨zeroV, h.1, TV.leaf _ _ 0 false Num.zero [], h.2⟩
set_option maxHeartbeats 12800000 in
theorem walk (v : Value) (xs : List UInt8) (n : Int) (hn0 : -9223372036854775808 ≤ n) (hn1 : n ≤ 9223372036854775807) (w : World) (hb : Bytes w v xs) :
    Calls Tryd.prog 3 #[v, .int .i64 n] w fun e w' => e = .returned (.bool true) ∧ Ext w w' := by
  obtain ⟨va, vc, rfl, hnc, hcm, hl47, _⟩ := id hb
  have HB := Lib.hid hb
  clear hb
  go_enter Tryd.func3, Tryd.ntmps3
  go_wp2_with fail
  refine (pawake _).mono ?_
  rintro e w1 ⟨rfl, hw1⟩
  by_cases hlen : 1500 < xs.length
  · have hd : decide (1500 < (xs.length : Int)) = true := by simp; omega
    go_wp2_with fail
    go_ret
    exact ⟨rfl, hw1⟩
  have hd : decide (1500 < (xs.length : Int)) = false := by simp; omega
  have hl6 : xs.length ≤ 65536 := by omega
  have HE := Lib.hid hw1
  clear hw1
  obtain ⟨T1, hT1⟩ : ∃ T, parseP xs = T := ⟨_, rfl⟩
  obtain ⟨t1, e1, p1⟩ := T1
  obtain ⟨T2, hT2⟩ : ∃ T, oneT (oneP xs n) = T := ⟨_, rfl⟩
  obtain ⟨t2, p2, e2⟩ := T2
  have HT1 := Lib.hid hT1
  have HT2 := Lib.hid hT2
  clear hT1 hT2
  go_wp2_with fail
  refine (top_any _ xs _ (HB.out.ext HE.out)).mono ?_
  intro e wa1 hend
  replace hend := id hend
  obtain ⟨ct1, rfl, htv, hwx⟩ := hend
  rw [HT1.out] at htv ⊢
  simp only at htv ⊢
  obtain ⟨k1, b1, d1, s1, la1, ln1, lc1, ma1, mn1, mc1, rfl⟩ := htv.eight
  have hv := VAt.new wa1 (cellsV k1 b1 d1 s1 (.slice la1 ln1 lc1) (.slice ma1 mn1 mc1))
  have hx : Ext wa1 (wa1.alloc (.cells (cellsV k1 b1 d1 s1 (.slice la1 ln1 lc1) (.slice ma1 mn1 mc1)) 29)) := (ext_refl wa1).alloc (Nat.le_refl _) _
  have htvx := htv.keep (A' := fun _ => True) hx.size (fun g _ hlt => ⟨trivial, hx.block g hlt⟩)
  have hex := ext_trans hwx hx
  simp only [cellsV] at hv hx hex htvx ⊢
  obtain ⟨P1, hP1⟩ : ∃ P, wa1.heap.size = P := ⟨_, rfl⟩
  rw [hP1] at hv
  clear htv hwx
  go_upto_region 5 with fail
  clear hx hP1
  generalize wa1.alloc (.cells #[.int .i64 k1, .bool b1, .bool d1.neg, .string ⟨d1.digits.toArray⟩, .int .i64 d1.exp, .string ⟨s1.toArray⟩, .slice la1 ln1 lc1, .slice ma1 mn1 mc1] 29) = wb1 at *
  have HV1 := Lib.hid hv
  have HTV1 := Lib.hid htvx
  replace HE := Lib.hid (ext_trans HE.out hex)
  clear hv htvx hex
  go_wp2_with fail
  refine (rtop_any _ xs _ (HB.out.ext HE.out)).mono ?_
  intro e wa2 hend
  replace hend := id hend
  obtain ⟨ct2, rfl, htv, hwx⟩ := hend
  rw [HT1.out] at htv ⊢
  simp only at htv ⊢
  obtain ⟨k2, b2, d2, s2, la2, ln2, lc2, ma2, mn2, mc2, rfl⟩ := htv.eight
  have hv := VAt.new wa2 (cellsV k2 b2 d2 s2 (.slice la2 ln2 lc2) (.slice ma2 mn2 mc2))
  have hx : Ext wa2 (wa2.alloc (.cells (cellsV k2 b2 d2 s2 (.slice la2 ln2 lc2) (.slice ma2 mn2 mc2)) 29)) := (ext_refl wa2).alloc (Nat.le_refl _) _
  have htvx := htv.keep (A' := fun _ => True) hx.size (fun g _ hlt => ⟨trivial, hx.block g hlt⟩)
  have hex := ext_trans hwx hx
  simp only [cellsV] at hv hx hex htvx ⊢
  obtain ⟨P2, hP2⟩ : ∃ P, wa2.heap.size = P := ⟨_, rfl⟩
  rw [hP2] at hv
  clear htv hwx
  go_upto_region 6 with fail
  clear hx hP2
  generalize wa2.alloc (.cells #[.int .i64 k2, .bool b2, .bool d2.neg, .string ⟨d2.digits.toArray⟩, .int .i64 d2.exp, .string ⟨s2.toArray⟩, .slice la2 ln2 lc2, .slice ma2 mn2 mc2] 29) = wb2 at *
  have HV2 := Lib.hid hv
  have HTV2 := Lib.hid htvx
  replace HE := Lib.hid (ext_trans HE.out hex)
  replace HV1 := Lib.hid (HV1.out.ext hex)
  replace HTV1 := Lib.hid (HTV1.out.keep (A' := fun _ => True) hex.size (fun g _ hlt => ⟨trivial, hex.block g hlt⟩))
  clear hv htvx hex
  go_wp2_with fail
  refine (one_any _ xs n _ (HB.out.ext HE.out) hl6).mono ?_
  intro e wa3 hend
  replace hend := EndOne.all hend
  obtain ⟨ct3, rfl, htv, hwx⟩ := hend
  rw [HT2.out] at htv ⊢
  simp only at htv ⊢
  obtain ⟨k3, b3, d3, s3, la3, ln3, lc3, ma3, mn3, mc3, rfl⟩ := htv.eight
  have hv := VAt.new wa3 (cellsV k3 b3 d3 s3 (.slice la3 ln3 lc3) (.slice ma3 mn3 mc3))
  have hx : Ext wa3 (wa3.alloc (.cells (cellsV k3 b3 d3 s3 (.slice la3 ln3 lc3) (.slice ma3 mn3 mc3)) 29)) := (ext_refl wa3).alloc (Nat.le_refl _) _
  have htvx := htv.keep (A' := fun _ => True) hx.size (fun g _ hlt => ⟨trivial, hx.block g hlt⟩)
  have hex := ext_trans hwx hx
  simp only [cellsV] at hv hx hex htvx ⊢
  obtain ⟨P3, hP3⟩ : ∃ P, wa3.heap.size = P := ⟨_, rfl⟩
  rw [hP3] at hv
  clear htv hwx
  go_upto_region 7 with fail
  clear hx hP3
  generalize wa3.alloc (.cells #[.int .i64 k3, .bool b3, .bool d3.neg, .string ⟨d3.digits.toArray⟩, .int .i64 d3.exp, .string ⟨s3.toArray⟩, .slice la3 ln3 lc3, .slice ma3 mn3 mc3] 29) = wb3 at *
  have HV3 := Lib.hid hv
  have HTV3 := Lib.hid htvx
  replace HE := Lib.hid (ext_trans HE.out hex)
  replace HV1 := Lib.hid (HV1.out.ext hex)
  replace HTV1 := Lib.hid (HTV1.out.keep (A' := fun _ => True) hex.size (fun g _ hlt => ⟨trivial, hex.block g hlt⟩))
  replace HV2 := Lib.hid (HV2.out.ext hex)
  replace HTV2 := Lib.hid (HTV2.out.keep (A' := fun _ => True) hex.size (fun g _ hlt => ⟨trivial, hex.block g hlt⟩))
  clear hv htvx hex
  go_wp2_with fail
  refine (rone_any _ xs n _ (HB.out.ext HE.out) hl6).mono ?_
  intro e wa4 hend
  replace hend := EndOne.all hend
  obtain ⟨ct4, rfl, htv, hwx⟩ := hend
  rw [HT2.out] at htv ⊢
  simp only at htv ⊢
  obtain ⟨k4, b4, d4, s4, la4, ln4, lc4, ma4, mn4, mc4, rfl⟩ := htv.eight
  have hv := VAt.new wa4 (cellsV k4 b4 d4 s4 (.slice la4 ln4 lc4) (.slice ma4 mn4 mc4))
  have hx : Ext wa4 (wa4.alloc (.cells (cellsV k4 b4 d4 s4 (.slice la4 ln4 lc4) (.slice ma4 mn4 mc4)) 29)) := (ext_refl wa4).alloc (Nat.le_refl _) _
  have htvx := htv.keep (A' := fun _ => True) hx.size (fun g _ hlt => ⟨trivial, hx.block g hlt⟩)
  have hex := ext_trans hwx hx
  simp only [cellsV] at hv hx hex htvx ⊢
  obtain ⟨P4, hP4⟩ : ∃ P, wa4.heap.size = P := ⟨_, rfl⟩
  rw [hP4] at hv
  clear htv hwx
  go_upto_region 8 with fail
  clear hx hP4
  generalize wa4.alloc (.cells #[.int .i64 k4, .bool b4, .bool d4.neg, .string ⟨d4.digits.toArray⟩, .int .i64 d4.exp, .string ⟨s4.toArray⟩, .slice la4 ln4 lc4, .slice ma4 mn4 mc4] 29) = wb4 at *
  have HV4 := Lib.hid hv
  have HTV4 := Lib.hid htvx
  replace HE := Lib.hid (ext_trans HE.out hex)
  replace HV1 := Lib.hid (HV1.out.ext hex)
  replace HTV1 := Lib.hid (HTV1.out.keep (A' := fun _ => True) hex.size (fun g _ hlt => ⟨trivial, hex.block g hlt⟩))
  replace HV2 := Lib.hid (HV2.out.ext hex)
  replace HTV2 := Lib.hid (HTV2.out.keep (A' := fun _ => True) hex.size (fun g _ hlt => ⟨trivial, hex.block g hlt⟩))
  replace HV3 := Lib.hid (HV3.out.ext hex)
  replace HTV3 := Lib.hid (HTV3.out.keep (A' := fun _ => True) hex.size (fun g _ hlt => ⟨trivial, hex.block g hlt⟩))
  clear hv htvx hex
  have c0 := HV1.out.cell 0; have c1 := HV1.out.cell 1; have c2 := HV1.out.cell 2; have c3 := HV1.out.cell 3; have c4 := HV1.out.cell 4; have c5 := HV1.out.cell 5; have c6 := HV1.out.cell 6; have c7 := HV1.out.cell 7
  have x0 := HV2.out.cell 0; have x1 := HV2.out.cell 1; have x2 := HV2.out.cell 2; have x3 := HV2.out.cell 3; have x4 := HV2.out.cell 4; have x5 := HV2.out.cell 5; have x6 := HV2.out.cell 6; have x7 := HV2.out.cell 7
  simp at c0 c1 c2 c3 c4 c5 c6 c7 x0 x1 x2 x3 x4 x5 x6 x7
  go_wp2_with fail
  refine (exact_any _ _ _ _ _ _ wb4 HTV1.out HTV2.out).mono ?_
  rintro e w5 ⟨rfl, hB⟩
  rw [exactT_refl]
  clear c0 c1 c2 c3 c4 c5 c6 c7 x0 x1 x2 x3 x4 x5 x6 x7
  replace HE := Lib.hid (ext_trans HE.out hB)
  replace HV3 := Lib.hid (HV3.out.ext hB)
  replace HTV3 := Lib.hid (HTV3.out.keep (A' := fun _ => True) hB.size (fun g _ hlt => ⟨trivial, hB.block g hlt⟩))
  replace HV4 := Lib.hid (HV4.out.ext hB)
  replace HTV4 := Lib.hid (HTV4.out.keep (A' := fun _ => True) hB.size (fun g _ hlt => ⟨trivial, hB.block g hlt⟩))
  clear hB HTV1 HTV2 HV1 HV2
  have c0 := HV3.out.cell 0; have c1 := HV3.out.cell 1; have c2 := HV3.out.cell 2; have c3 := HV3.out.cell 3; have c4 := HV3.out.cell 4; have c5 := HV3.out.cell 5; have c6 := HV3.out.cell 6; have c7 := HV3.out.cell 7
  have x0 := HV4.out.cell 0; have x1 := HV4.out.cell 1; have x2 := HV4.out.cell 2; have x3 := HV4.out.cell 3; have x4 := HV4.out.cell 4; have x5 := HV4.out.cell 5; have x6 := HV4.out.cell 6; have x7 := HV4.out.cell 7
  simp at c0 c1 c2 c3 c4 c5 c6 c7 x0 x1 x2 x3 x4 x5 x6 x7
  go_wp2_with fail
  refine (exact_any _ _ _ _ _ _ w5 HTV3.out HTV4.out).mono ?_
  rintro e w6 ⟨rfl, hB⟩
  rw [exactT_refl]
  clear c0 c1 c2 c3 c4 c5 c6 c7 x0 x1 x2 x3 x4 x5 x6 x7
  replace HE := Lib.hid (ext_trans HE.out hB)
  clear hB HTV3 HTV4 HV3 HV4
  go_wp2_with fail
  refine (white_any _ xs n _ (HB.out.ext HE.out)).mono ?_
  rintro e w7 ⟨rfl, hB⟩
  replace HE := Lib.hid (ext_trans HE.out hB)
  clear hB
  go_wp2_with fail
  refine (rwhite_any _ xs n _ (HB.out.ext HE.out)).mono ?_
  rintro e w8 ⟨rfl, rfl⟩
  go_wp2_with fail
  go_ret
  exact ⟨rfl, HE.out⟩
set_option linter.unusedSimpArgs false
theorem own : ownKnob Tryd.prog.godebug = none := by kernel_rfl
theorem laid : laidOutB Tryd.prog = true := by kernel_rfl
theorem cells1 : Tryd.prog.cellsOf 5 = 1 := by kernel_rfl
theorem bytes1 : Tryd.prog.bytesOf 5 = 1 := by kernel_rfl
set_option maxHeartbeats 1600000 in
set_option maxRecDepth 100000 in
theorem lifted (os : Os) (started : os.Started) (H : Type) (enc : TypeId × Value → H) :
    ReturnsInHanded {} Tryd.checked os 3 .any (fun w args => (Rows.parseIsSpec.pre enc Tryd.prog Tryd.f3 [] false w args ∧ laidMetH Tryd.prog Rows.parseIsRow.laid w) ∧ sizedMet enc Tryd.prog Tryd.f3 (OpenSpec.ofChange Rows.parseIsSpec) false w args) (Rows.parseIsSpec.post enc Tryd.prog Tryd.f3 false true false false) := by
  refine returnsInHanded_of_change_and (C := Tryd.checked) (X := fun w _ => laidMetH Tryd.prog Rows.parseIsRow.laid w) (fun _ _ _ hh h => h.of_heap hh) own started (by kernel_rfl) Tryd.func3
    (ChangeSpec.witness_shaped (enc := enc) (C := Tryd.checked) (os := os) (X := fun w _ => laidMetH Tryd.prog Rows.parseIsRow.laid w) false (World.laidAll Tryd.prog os Rows.parseIsRow.laid) #[.slice none 0 0, .int .i64 0] 8 (World.laidAll_os _ _ _)
      (World.shaped_of_ZipB (by kernel_rfl) (by kernel_rfl)) (by kernel_rfl) (by kernel_rfl) (by kernel_rfl)
      (by rw [MakeChecks.laidMetH_plain _ _ _ (by kernel_rfl)]; exact laidMet_laidAll _ (by kernel_rfl) (by kernel_rfl))) ?_
  intro W base args ds gs before hval0 hW _ hsz0 _ _
  have hsz : (DataW.weightsEach Tryd.prog (Tryd.f3.params.toList ++ Rows.parseIsSpec.plain.varTypes Tryd.prog) (ds ++ gs)).all (· ≤ reachBytes) = true := hsz0
  clear hsz0
  have hval : ∀ (j : Nat) t v, Tryd.f3.params[j]? = some t → args[j]? = some v → Value.okWide Tryd.prog W .any base t v := hval0
  have hW' := hW
  obtain ⟨p, q, hA0, hV, rfl, _, _⟩ := hW
  have hA : DataW.TrodAll enc Tryd.prog W 0 (fun _ => true) true Tryd.f3.params.toList args.toList ds p := hA0
  rw [Tryd.params3] at hA hval hsz
  obtain ⟨v0, vs0, d0, ds0, p0, q0, ha0, rfl, rfl, h0, r0⟩ := trodAll_cons hA
  obtain ⟨v1, vs1, d1, ds1, p1, q1, ha1, rfl, rfl, h1, r1⟩ := trodAll_cons r0
  obtain ⟨hb2, rfl, rfl⟩ := trodAll_nil r1
  subst hb2
  subst ha1
  obtain rfl : args = #[v0, v1] := by cases args; simpa using ha0
  obtain ⟨rfl, rfl⟩ := trodVars_none hV
  have hk0 := h0
  obtain ⟨a0, len0, cap0, rfl⟩ := okWide_slice Tryd.underlying22 (hval 0 22 v0 rfl rfl)
  obtain ⟨xs0, hx0⟩ := bytes_of_trod Tryd.underlying22 Tryd.underlying5 cells1 h0 (fun elems spare e => by subst e; have := sized_slice hsz (j := 0) rfl rfl Tryd.underlying22; rw [bytes1] at this; simp only [reachBytes] at this; omega)
  have hk1 := h1
  obtain ⟨a1, rfl, rfl, rfl, wf1⟩ := open_int Tryd.underlying3 (hval 1 3 v1 rfl rfl) h1
  have hr1 : -9223372036854775808 ≤ a1 ∧ a1 ≤ 9223372036854775807 := by simpa [Lit.wf, IntKind.min, IntKind.max, IntKind.signed, IntKind.bits] using wf1
  have hlt := fun x hx => hW'.lt x hx
  simp only [List.append_nil, List.nil_append] at hW' hlt
  refine (walk _ xs0 a1 hr1.1 hr1.2 W hx0).mono fun e W' ⟨he, hb⟩ => ?_
  subst he
  have hargs := (trodAll_cons_mk (Below.trod laid (by kernel_rfl) (of_decide_eq_true (by kernel_rfl)) hk0 hb (fun x hx => by first | exact hlt x hx | exact absurd hx (List.not_mem_nil) | exact hlt x (by simp [hx]))) (trodAll_cons_mk (Below.trod laid (by kernel_rfl) (of_decide_eq_true (by kernel_rfl)) hk1 hb (fun x hx => by first | exact hlt x hx | exact absurd hx (List.not_mem_nil) | exact hlt x (by simp [hx]))) trodAll_mk0))
  exact ⟨_, rfl, _, _, _, [], _, [], hW', trodAll_cons_mk (shut_bool Tryd.underlying4 _) trodAll_mk0, hargs, rfl, hb.frame _, fun h => by cases h⟩

theorem held : Rows.ParseIsSaid :=
  OpenClaim.holds_of_wide 3 Tryd.f3 rfl rfl rfl rfl rfl rfl rfl ⟨rfl, rfl, rfl, rfl, rfl⟩ rfl rfl rfl rfl rfl (by kernel_rfl) Tryd.func3 (by kernel_rfl)
    (of_decide_eq_true (by kernel_rfl)) (by unfold Func.isWrapper; first | (rw [if_pos (by decide +kernel)]; kernel_rfl) | (rw [if_neg (by decide +kernel)]; exact ⟨rfl, rfl⟩))
    (fun os started H enc _ => lifted os started H enc)

theorem proved : Rows.ParseIsCardSaid :=
  Claim7.holds_tied_plain_at .later [] Rows.parseIsCard.laidKinds true Rows.parseIsCard.stood.harness Rows.parseIsCard.stood.looks held (fun _ h => by cases h) (by kernel_rfl) (fun _ h => by cases h) parseIs_row_tie rfl ⟨rfl, rfl⟩ (by kernel_rfl) rfl
    (fun f fn hf hfn => by
      obtain rfl : f = 3 := Option.some.inj ((show Tryd.prog.funcNamed "orangery/orangerylaw04.ParseIs" = some 3 by kernel_rfl).symm.trans hf) |>.symm
      obtain rfl : fn = Tryd.f3 := (Option.some.inj (Tryd.func3.symm.trans hfn)).symm
      exact ⟨by kernel_rfl, fun j t ht => by
        rw [Tryd.params3] at ht
        have hm : t ∈ [22, 3] := by simpa using Array.mem_of_getElem? ht
        have hall : ([22, 3].all fun u => !Tryd.prog.wantsStandIn u) = true := by kernel_rfl
        exact (show Tryd.prog.wantsStandIn t = false by simpa using List.all_eq_true.1 hall t hm)⟩)
    (by kernel_rfl)
end Go.Proofs.YtckpndbmpigegaaDoor.parseIs
