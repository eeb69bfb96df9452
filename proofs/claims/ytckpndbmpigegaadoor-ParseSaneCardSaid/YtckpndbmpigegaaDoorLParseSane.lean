/- ParseSane: what is parsed may be; where an error is told is no place behind the text; what is whole is the same, cut off behind it, and no longer a value without its last byte, if it is no number: whatever the input, the law returns true and the input reads as it did. No condition. -/
import Derived.Test.YtckpndbmpigegaaDoorRows
import Derived.Test.YtckpndbmpigegaaDoorCards
import Derived.Test.YtckpndbmpigegaaDoorTie
import Derived.Test.YtckpndbmpigegaaDoorPaZ
import Derived.Test.YtckpndbmpigegaaDoorQSane
import Derived.Test.YtckpndbmpigegaaDoorExW
import Derived.Test.YtckpndbmpigegaaDoorFrame
import Derived.ProofKit
import Derived.SizedLaws
import Derived.OpenShut
import Derived.Lay
import Derived.LaidMore
import Derived.SevenTiedAt
import Derived.IntWalk
set_option linter.unusedVariables false
set_option linter.unusedSimpArgs false
set_option maxRecDepth 100000
namespace Go.Proofs.YtckpndbmpigegaaDoor.parseSane
open Go.ChangeShapes Go.WideShapes Go.ChangeAt Go.RowKit Go.Mem Orange

theorem bytes_take {w : World} {a : Option Addr} {cap : Nat} {xs : List UInt8} (h : Bytes w (.slice a xs.length cap) xs) (k : Nat) (hk : k ≤ xs.length) : Bytes w (.slice a k cap) (xs.take k) := by
  obtain ⟨a', c', e, h1, h2, h3, h4⟩ := h
  simp only [Value.slice.injEq] at e
  obtain ⟨rfl, -, rfl⟩ := e
  have hl : (xs.take k).length = k := by rw [List.length_take]; omega
  exact ⟨a, cap, by rw [hl], by omega, h2, by omega, h4.take k⟩
set_option maxHeartbeats 12800000 in
theorem walk (v : Value) (xs : List UInt8) (w : World) (hb : Bytes w v xs) :
    Calls Tryd.prog 9 #[v] w fun e w' => e = .returned (.bool true) ∧ Ext w w' := by
  obtain ⟨va, vc, rfl, hnc, hcm, hl47, _⟩ := id hb
  have HB := Lib.hid hb
  clear hb
  go_enter Tryd.func9, Tryd.ntmps9
  go_wp2_with fail
  refine (pawake _).mono ?_
  rintro e w1 ⟨rfl, hw1⟩
  by_cases hlen : 1500 < xs.length
  · have hd : decide (1500 < (xs.length : Int)) = true := by simp; omega
    go_wp2_with fail
    go_ret
    exact ⟨rfl, hw1⟩
  have hd : decide (1500 < (xs.length : Int)) = false := by simp; omega
  have HLAW := Lib.hid (fun t a m h => sane_law (b := xs) (t := t) (a := a) (m := m) (by omega) h)
  have hfine := oneP_fine xs 0
  have hz : oneP xs 0 = valueP xs 65 0 0 0 := by unfold oneP; rw [show clampN xs.length 0 = 0 from by unfold clampN; omega]
  go_wp2_with fail
  refine (one_any _ xs 0 _ (HB.out.ext hw1) (by omega)).mono ?_
  intro e w2 hend
  rw [hz] at hend hfine
  clear hz hd
  cases hop : valueP xs 65 0 0 0 with
  | err er p =>
    rw [hop] at hend hfine
    obtain ⟨rfl, hw2⟩ := hend
    obtain ⟨hf1, hf2⟩ := hfine
    clear HLAW hop
    have hv := VAt.new w2 zeroV
    have hx : Ext w2 (w2.alloc (.cells zeroV 29)) := (ext_refl w2).alloc (Nat.le_refl _) _
    simp only [zeroV, cellsV, Num.zero] at hv hx ⊢
    obtain ⟨P, hP⟩ : ∃ P, w2.heap.size = P := ⟨_, rfl⟩
    rw [hP] at hv
    go_upto_region 5 with fail
    have HE := Lib.hid (ext_trans (ext_trans hw1 hw2) hx)
    clear hP hx hw1 hw2
    generalize w2.alloc (.cells #[.int .i64 0, .bool false, .bool false, .string ⟨#[]⟩, .int .i64 0, .string ⟨#[]⟩, .slice none 0 0, .slice none 0 0] 29) = w3 at *
    have HV := Lib.hid hv
    clear hv
    have hpl : ¬ ((xs.length : Int) < p) := by omega
    have hp0 : ¬ ((p : Int) < 0) := by omega
    have hern : (er != 0) = true := by simpa using hf1
    have c0 := HV.out.cell 0; have c1 := HV.out.cell 1; have c2 := HV.out.cell 2; have c3 := HV.out.cell 3; have c4 := HV.out.cell 4; have c5 := HV.out.cell 5; have c6 := HV.out.cell 6; have c7 := HV.out.cell 7
    simp at c0 c1 c2 c3 c4 c5 c6 c7
    go_wp2_with fail
    refine (exact_any tNull tNull (fun _ => True) (fun _ => True) zeroV zeroV w3 (TV.leaf _ _ 0 false Num.zero []) (TV.leaf _ _ 0 false Num.zero [])).mono ?_
    rintro e w4 ⟨rfl, hw4⟩
    rw [exactT_refl]
    have HE4 := Lib.hid (ext_trans HE.out hw4)
    clear hw4 c0 c1 c2 c3 c4 c5 c6 c7
    go_wp2_with fail
    go_ret
    exact ⟨rfl, HE4.out⟩
  | ok t a m =>
    rw [hop] at hend hfine
    obtain ⟨ct, rfl, htv, hw2⟩ := hend
    obtain ⟨ha1, ha2, hpa, hpb, hsa, hwt⟩ := HLAW.out t a m hop
    clear HLAW hop hfine
    have HPA := Lib.hid hpa
    have HPB := Lib.hid hpb
    have HSA := Lib.hid hsa
    have HWT := Lib.hid hwt
    clear hpa hpb hsa hwt
    obtain ⟨k, b, d, ss, la, ln, lc, ma, mn, mc, rfl⟩ := htv.eight
    have HKD : Hid (k = t.kind) := Lib.hid (tv_rows htv).choose_spec.choose_spec.2.2.2.2.1
    have hv := VAt.new w2 (cellsV k b d ss (.slice la ln lc) (.slice ma mn mc))
    have hx : Ext w2 (w2.alloc (.cells (cellsV k b d ss (.slice la ln lc) (.slice ma mn mc)) 29)) := (ext_refl w2).alloc (Nat.le_refl _) _
    simp only [cellsV] at hv hx ⊢
    obtain ⟨P, hP⟩ : ∃ P, w2.heap.size = P := ⟨_, rfl⟩
    rw [hP] at hv
    go_upto_region 5 with fail
    have HTV := Lib.hid (htv.keep (A' := fun _ => True) hx.size (fun g _ hlt => ⟨trivial, hx.block g hlt⟩))
    have HE := Lib.hid (ext_trans (ext_trans hw1 hw2) hx)
    clear hP htv hx hw1 hw2
    generalize w2.alloc (.cells #[.int .i64 k, .bool b, .bool d.neg, .string ⟨d.digits.toArray⟩, .int .i64 d.exp, .string ⟨ss.toArray⟩, .slice la ln lc, .slice ma mn mc] 29) = w3 at *
    have HV := Lib.hid hv
    clear hv
    have hpl : ¬ ((xs.length : Int) < a) := by omega
    have hp0 : ¬ ((a : Int) < 0) := by omega
    have hac : a ≤ vc := by omega
    have haci : (a : Int) ≤ vc := by omega
    have hb3 := HB.out.ext HE.out
    have HBA := Lib.hid (bytes_take hb3 a ha1)
    clear hb3
    go_wp2_with fail
    refine (top_any _ (xs.take a) _ HBA.out).mono ?_
    intro e w4 hend
    obtain ⟨ct2, rfl, htv2, hw4⟩ := hend
    rw [HPA.out] at htv2 ⊢
    simp only at htv2 ⊢
    obtain ⟨k2, b2, d2, ss2, la2, ln2, lc2, ma2, mn2, mc2, rfl⟩ := htv2.eight
    have hv := VAt.new w4 (cellsV k2 b2 d2 ss2 (.slice la2 ln2 lc2) (.slice ma2 mn2 mc2))
    have hx : Ext w4 (w4.alloc (.cells (cellsV k2 b2 d2 ss2 (.slice la2 ln2 lc2) (.slice ma2 mn2 mc2)) 29)) := (ext_refl w4).alloc (Nat.le_refl _) _
    simp only [cellsV] at hv hx ⊢
    obtain ⟨P2, hP2⟩ : ∃ P2, w4.heap.size = P2 := ⟨_, rfl⟩
    rw [hP2] at hv
    go_upto_region 10 with fail
    have HTV2 := Lib.hid (htv2.keep (A' := fun _ => True) hx.size (fun g _ hlt => ⟨trivial, hx.block g hlt⟩))
    replace HTV := Lib.hid (HTV.out.keep (A' := fun _ => True) (ext_trans hw4 hx).size (fun g _ hlt => ⟨trivial, (ext_trans hw4 hx).block g hlt⟩))
    replace HE := Lib.hid (ext_trans HE.out (ext_trans hw4 hx))
    replace HV := Lib.hid (HV.out.ext (ext_trans hw4 hx))
    clear hP2 htv2 hx hw4
    generalize w4.alloc (.cells #[.int .i64 k2, .bool b2, .bool d2.neg, .string ⟨d2.digits.toArray⟩, .int .i64 d2.exp, .string ⟨ss2.toArray⟩, .slice la2 ln2 lc2, .slice ma2 mn2 mc2] 29) = w5 at *
    have HV2 := Lib.hid hv
    clear hv
    obtain ⟨a1, rfl⟩ : ∃ a1, a = a1 + 1 := ⟨a - 1, by omega⟩
    have hm1 : IntKind.i64.wrap (((a1 + 1 : Nat) : Int) - 1) = (a1 : Int) := by rw [IntWalk.i64_in _ (by omega)]; omega
    have hmx : max (0 : Int) (a1 : Int) = (a1 : Int) := by omega
    have hac1 : a1 ≤ vc := by omega
    have haci1 : (a1 : Int) ≤ vc := by omega
    have HB1 := Lib.hid (bytes_take (HB.out.ext HE.out) a1 (by omega))
    have hpb := HPB.out
    rw [show a1 + 1 - 1 = a1 by omega] at hpb
    replace HPB := Lib.hid hpb
    clear hpb
    go_wp2_with fail
    refine (top_any _ (xs.take a1) _ HB1.out).mono ?_
    intro e w6 hend
    obtain ⟨ct3, rfl, htv3, hw6⟩ := hend
    obtain ⟨T3, hT3⟩ : ∃ T3, parseP (xs.take a1) = T3 := ⟨_, rfl⟩
    have hpb := HPB.out
    rw [hT3] at htv3 hpb ⊢
    replace HPB := Lib.hid hpb
    clear hT3 hpb
    obtain ⟨t3, er3, pl3⟩ := T3
    simp only at htv3 HPB ⊢
    obtain ⟨k3, b3, d3, ss3, la3, ln3, lc3, ma3, mn3, mc3, rfl⟩ := htv3.eight
    have hv := VAt.new w6 (cellsV k3 b3 d3 ss3 (.slice la3 ln3 lc3) (.slice ma3 mn3 mc3))
    have hx : Ext w6 (w6.alloc (.cells (cellsV k3 b3 d3 ss3 (.slice la3 ln3 lc3) (.slice ma3 mn3 mc3)) 29)) := (ext_refl w6).alloc (Nat.le_refl _) _
    simp only [cellsV] at hv hx ⊢
    clear hv
    go_upto_region 11 with fail
    replace HTV := Lib.hid (HTV.out.keep (A' := fun _ => True) (ext_trans hw6 hx).size (fun g _ hlt => ⟨trivial, (ext_trans hw6 hx).block g hlt⟩))
    replace HTV2 := Lib.hid (HTV2.out.keep (A' := fun _ => True) (ext_trans hw6 hx).size (fun g _ hlt => ⟨trivial, (ext_trans hw6 hx).block g hlt⟩))
    replace HE := Lib.hid (ext_trans HE.out (ext_trans hw6 hx))
    replace HV := Lib.hid (HV.out.ext (ext_trans hw6 hx))
    replace HV2 := Lib.hid (HV2.out.ext (ext_trans hw6 hx))
    clear htv3 hx hw6
    generalize w6.alloc (.cells #[.int .i64 k3, .bool b3, .bool d3.neg, .string ⟨d3.digits.toArray⟩, .int .i64 d3.exp, .string ⟨ss3.toArray⟩, .slice la3 ln3 lc3, .slice ma3 mn3 mc3] 29) = w7 at *
    clear hm1 hmx hac1 haci1 hac haci hpl hp0
    have c0 := HV.out.cell 0; have c1 := HV.out.cell 1; have c2 := HV.out.cell 2; have c3 := HV.out.cell 3; have c4 := HV.out.cell 4; have c5 := HV.out.cell 5; have c6 := HV.out.cell 6; have c7 := HV.out.cell 7
    simp at c0 c1 c2 c3 c4 c5 c6 c7
    go_wp2_with fail
    refine (Sane_any t _ _ w7 (by have := HWT.out; omega) HTV.out).mono ?_
    rintro e w8 ⟨rfl, hw8⟩
    rw [HSA.out]
    replace HTV := Lib.hid (HTV.out.keep (A' := fun _ => True) hw8.size (fun g _ hlt => ⟨trivial, hw8.block g hlt⟩))
    replace HTV2 := Lib.hid (HTV2.out.keep (A' := fun _ => True) hw8.size (fun g _ hlt => ⟨trivial, hw8.block g hlt⟩))
    replace HE := Lib.hid (ext_trans HE.out hw8)
    replace HV := Lib.hid (HV.out.ext hw8)
    replace HV2 := Lib.hid (HV2.out.ext hw8)
    clear hw8 c0 c1 c2 c3 c4 c5 c6 c7
    have c0 := HV.out.cell 0; have c1 := HV.out.cell 1; have c2 := HV.out.cell 2; have c3 := HV.out.cell 3; have c4 := HV.out.cell 4; have c5 := HV.out.cell 5; have c6 := HV.out.cell 6; have c7 := HV.out.cell 7
    simp at c0 c1 c2 c3 c4 c5 c6 c7
    have d0 := HV2.out.cell 0; have d1 := HV2.out.cell 1; have d2 := HV2.out.cell 2; have d3 := HV2.out.cell 3; have d4 := HV2.out.cell 4; have d5 := HV2.out.cell 5; have d6 := HV2.out.cell 6; have d7 := HV2.out.cell 7
    simp at d0 d1 d2 d3 d4 d5 d6 d7
    go_wp2_with fail
    refine (exact_any _ _ _ _ _ _ w8 HTV.out HTV2.out).mono ?_
    rintro e w9 ⟨rfl, hw9⟩
    rw [exactT_refl]
    replace HE := Lib.hid (ext_trans HE.out hw9)
    replace HV := Lib.hid (HV.out.ext hw9)
    clear hw9 c0 c1 c2 c3 c4 c5 c6 c7 d0 d1 d2 d3 d4 d5 d6 d7
    have c0 := HV.out.cell 0; have c1 := HV.out.cell 1; have c2 := HV.out.cell 2; have c3 := HV.out.cell 3; have c4 := HV.out.cell 4; have c5 := HV.out.cell 5; have c6 := HV.out.cell 6; have c7 := HV.out.cell 7
    simp at c0 c1 c2 c3 c4 c5 c6 c7
    by_cases hk : k = 2
    · go_wp2_with fail
      go_ret
      exact ⟨rfl, HE.out⟩
    · have hk2 : (k == 2) = false := by simpa using hk
      have her3 : (er3 != 0) = true := by
        rcases HPB.out with h | h
        · exact absurd (HKD.out.trans h) hk
        · simpa using h
      go_wp2_with fail
      go_ret
      exact ⟨rfl, HE.out⟩
set_option linter.unusedSimpArgs false
theorem own : ownKnob Tryd.prog.godebug = none := by kernel_rfl
theorem laid : laidOutB Tryd.prog = true := by kernel_rfl
theorem cells1 : Tryd.prog.cellsOf 5 = 1 := by kernel_rfl
theorem bytes1 : Tryd.prog.bytesOf 5 = 1 := by kernel_rfl
set_option maxHeartbeats 1600000 in
set_option maxRecDepth 100000 in
theorem lifted (os : Os) (started : os.Started) (H : Type) (enc : TypeId × Value → H) :
    ReturnsInHanded {} Tryd.checked os 9 .any (fun w args => (Rows.parseSaneSpec.pre enc Tryd.prog Tryd.f9 [] false w args ∧ laidMetH Tryd.prog Rows.parseSaneRow.laid w) ∧ sizedMet enc Tryd.prog Tryd.f9 (OpenSpec.ofChange Rows.parseSaneSpec) false w args) (Rows.parseSaneSpec.post enc Tryd.prog Tryd.f9 false true false false) := by
  refine returnsInHanded_of_change_and (C := Tryd.checked) (X := fun w _ => laidMetH Tryd.prog Rows.parseSaneRow.laid w) (fun _ _ _ hh h => h.of_heap hh) own started (by kernel_rfl) Tryd.func9
    (ChangeSpec.witness_shaped (enc := enc) (C := Tryd.checked) (os := os) (X := fun w _ => laidMetH Tryd.prog Rows.parseSaneRow.laid w) false (World.laidAll Tryd.prog os Rows.parseSaneRow.laid) #[.slice none 0 0] 8 (World.laidAll_os _ _ _)
      (World.shaped_of_ZipB (by kernel_rfl) (by kernel_rfl)) (by kernel_rfl) (by kernel_rfl) (by kernel_rfl)
      (by rw [MakeChecks.laidMetH_plain _ _ _ (by kernel_rfl)]; exact laidMet_laidAll _ (by kernel_rfl) (by kernel_rfl))) ?_
  intro W base args ds gs before hval0 hW _ hsz0 _ _
  have hsz : (DataW.weightsEach Tryd.prog (Tryd.f9.params.toList ++ Rows.parseSaneSpec.plain.varTypes Tryd.prog) (ds ++ gs)).all (· ≤ reachBytes) = true := hsz0
  clear hsz0
  have hval : ∀ (j : Nat) t v, Tryd.f9.params[j]? = some t → args[j]? = some v → Value.okWide Tryd.prog W .any base t v := hval0
  have hW' := hW
  obtain ⟨p, q, hA0, hV, rfl, _, _⟩ := hW
  have hA : DataW.TrodAll enc Tryd.prog W 0 (fun _ => true) true Tryd.f9.params.toList args.toList ds p := hA0
  rw [Tryd.params9] at hA hval hsz
  obtain ⟨v0, vs0, d0, ds0, p0, q0, ha0, rfl, rfl, h0, r0⟩ := trodAll_cons hA
  obtain ⟨hb1, rfl, rfl⟩ := trodAll_nil r0
  subst hb1
  obtain rfl : args = #[v0] := by cases args; simpa using ha0
  obtain ⟨rfl, rfl⟩ := trodVars_none hV
  have hk0 := h0
  obtain ⟨a0, len0, cap0, rfl⟩ := okWide_slice Tryd.underlying22 (hval 0 22 v0 rfl rfl)
  obtain ⟨xs0, hx0⟩ := bytes_of_trod Tryd.underlying22 Tryd.underlying5 cells1 h0 (fun elems spare e => by subst e; have := sized_slice hsz (j := 0) rfl rfl Tryd.underlying22; rw [bytes1] at this; simp only [reachBytes] at this; omega)
  have hlt := fun x hx => hW'.lt x hx
  simp only [List.append_nil, List.nil_append] at hW' hlt
  refine (walk _ xs0 W hx0).mono fun e W' ⟨he, hb⟩ => ?_
  subst he
  have hargs := (trodAll_cons_mk (Below.trod laid (by kernel_rfl) (of_decide_eq_true (by kernel_rfl)) hk0 hb (fun x hx => by first | exact hlt x hx | exact absurd hx (List.not_mem_nil) | exact hlt x (by simp [hx]))) trodAll_mk0)
  exact ⟨_, rfl, _, _, _, [], _, [], hW', trodAll_cons_mk (shut_bool Tryd.underlying4 _) trodAll_mk0, hargs, rfl, hb.frame _, fun h => by cases h⟩

theorem held : Rows.ParseSaneSaid :=
  OpenClaim.holds_of_wide 9 Tryd.f9 rfl rfl rfl rfl rfl rfl rfl ⟨rfl, rfl, rfl, rfl, rfl⟩ rfl rfl rfl rfl rfl (by kernel_rfl) Tryd.func9 (by kernel_rfl)
    (of_decide_eq_true (by kernel_rfl)) (by unfold Func.isWrapper; first | (rw [if_pos (by decide +kernel)]; kernel_rfl) | (rw [if_neg (by decide +kernel)]; exact ⟨rfl, rfl⟩))
    (fun os started H enc _ => lifted os started H enc)

theorem proved : Rows.ParseSaneCardSaid :=
  Claim7.holds_tied_plain_at .later [] Rows.parseSaneCard.laidKinds true Rows.parseSaneCard.stood.harness Rows.parseSaneCard.stood.looks held (fun _ h => by cases h) (by kernel_rfl) (fun _ h => by cases h) parseSane_row_tie rfl ⟨rfl, rfl⟩ (by kernel_rfl) rfl
    (fun f fn hf hfn => by
      obtain rfl : f = 9 := Option.some.inj ((show Tryd.prog.funcNamed "orangery/orangerylaw04.ParseSane" = some 9 by kernel_rfl).symm.trans hf) |>.symm
      obtain rfl : fn = Tryd.f9 := (Option.some.inj (Tryd.func9.symm.trans hfn)).symm
      exact ⟨by kernel_rfl, fun j t ht => by
        rw [Tryd.params9] at ht
        have hm : t ∈ [22] := by simpa using Array.mem_of_getElem? ht
        have hall : ([22].all fun u => !Tryd.prog.wantsStandIn u) = true := by kernel_rfl
        exact (show Tryd.prog.wantsStandIn t = false by simpa using List.all_eq_true.1 hall t hm)⟩)
    (by kernel_rfl)
end Go.Proofs.YtckpndbmpigegaaDoor.parseSane
