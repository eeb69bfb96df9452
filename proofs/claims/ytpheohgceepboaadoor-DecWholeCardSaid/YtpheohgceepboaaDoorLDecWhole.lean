/- DecWhole: whole numbers are reckoned as they are: whatever the input, the law returns true and the input reads as it did. No condition beyond the row's. -/
import Derived.Test.YtpheohgceepboaaDoorRows
import Derived.Test.YtpheohgceepboaaDoorCards
import Derived.Test.YtpheohgceepboaaDoorTie
import Derived.Test.YtpheohgceepboaaDoorDecT
import Derived.Test.YtpheohgceepboaaDoorDecR
import Derived.Test.YtpheohgceepboaaDoorDecS
import Derived.Test.YtpheohgceepboaaDoorDecK
import Derived.Test.YtpheohgceepboaaDoorBits
import Derived.Test.YtpheohgceepboaaDoorFrame
import Derived.ProofKit
import Derived.SizedLaws
import Derived.OpenShut
import Derived.Lay
import Derived.LaidMore
import Derived.SevenTiedAt
import Derived.IntWalk
set_option linter.unusedVariables false
set_option linter.unusedSimpArgs false
set_option maxRecDepth 100000
namespace Go.Proofs.YtpheohgceepboaaDoor.decWhole
open Go.ChangeShapes Go.WideShapes Go.ChangeAt Go.RowKit Go.Mem Orange

set_option maxHeartbeats 6400000 in
theorem walk (a : Int) (ha0 : -9223372036854775808 ≤ a) (ha1 : a ≤ 9223372036854775807) (b : Int) (hb0 : -9223372036854775808 ≤ b) (hb1 : b ≤ 9223372036854775807) (w : World) (hT : Tab w) :
    Calls Tryd.prog 9 #[.int .i64 a, .int .i64 b] w fun e w' => e = .returned (.bool true) ∧ Ext w w' := by
  have HTT := Lib.hid hT
  clear hT
  have hE := ext_refl w
  obtain ⟨X, hX, hx⟩ := pick_low 24 16777215 (by decide) (by omega) a
  obtain ⟨Y, hY, hy⟩ := pick_low 24 16777215 (by decide) (by omega) b
  have hx2 : X < 16777216 := hx
  have hy2 : Y < 16777216 := hy
  clear hx hy
  have p20 : (16777216 : Nat) < 10 ^ 15 := by decide
  have q20 : (10 : Nat) ^ 15 ≤ 10 ^ 20 := by decide
  have q30 : (10 : Nat) ^ 20 ≤ 10 ^ 30 := by decide
  have q40 : (10 : Nat) ^ 30 ≤ 10 ^ 40 := by decide
  obtain ⟨y, hyy⟩ : ∃ y : Int, (Y : Int) - 8388608 = y := ⟨_, rfl⟩
  have hy3 : -8388608 ≤ y ∧ y ≤ 8388607 := by omega
  have hxn : (X : Int).natAbs < 10 ^ 15 := by omega
  have hyn : y.natAbs < 10 ^ 15 := by omega
  have hm : ((X : Int) * y).natAbs < 10 ^ 15 := by
    rw [Int.natAbs_mul]
    have h1 : (X : Int).natAbs ≤ 16777215 := by omega
    have h2 : y.natAbs ≤ 8388608 := by omega
    have h3 := Nat.mul_le_mul h1 h2
    omega
  have hmb : -999999999999999 ≤ (X : Int) * y ∧ (X : Int) * y ≤ 999999999999999 := by omega
  have A1 := addP_of (X : Int) y (by omega) (by omega)
  have A2 := mulP_of (X : Int) y (by omega) (by omega)
  have A3 := intP_of ((X : Int) + y) (by omega)
  have A4 := intP_of ((X : Int) * y) (by omega)
  have A5 := cmpP_of (X : Int) y (by omega) (by omega)
  have hox : ∀ w, Tab w → _ := fun w h => of_any (X : Int) w h (by omega) (by omega)
  have hoy : ∀ w, Tab w → _ := fun w h => of_any y w h (by omega) (by omega)
  have s1 := sane_len (ofP_sane (n := (X : Int)) (by omega))
  have s2 := sane_len (ofP_sane (n := y) (by omega))
  have s3 := sane_smallZ ((X : Int) + y) 0 (by omega) (by omega)
  have s4 := sane_smallZ ((X : Int) * y) 0 (by omega) (by omega)
  clear hxn hyn hm q20 q30 q40 p20
  obtain ⟨A, hA⟩ : ∃ A, ofP (X : Int) = A := ⟨_, rfl⟩
  obtain ⟨B, hB⟩ : ∃ B, ofP y = B := ⟨_, rfl⟩
  obtain ⟨S, hS⟩ : ∃ S, normZ ((X : Int) + y) 0 = S := ⟨_, rfl⟩
  obtain ⟨P, hP⟩ : ∃ P, normZ ((X : Int) * y) 0 = P := ⟨_, rfl⟩
  rw [hA] at A1 A2 A5 hox s1
  rw [hB] at A1 A2 A5 hoy s2
  rw [hS] at A1 A3 s3
  rw [hP] at A2 A4 s4
  have s5 : -800 ≤ S.exp ∧ S.exp ≤ 800 := by
    rcases sane_parts s3 with e | e
    · rw [e]; simp [Num.zero]
    · exact ⟨e.2.2.2.2.2.1, e.2.2.2.2.2.2.1⟩
  have s6 : -800 ≤ P.exp ∧ P.exp ≤ 800 := by
    rcases sane_parts s4 with e | e
    · rw [e]; simp [Num.zero]
    · exact ⟨e.2.2.2.2.2.1, e.2.2.2.2.2.2.1⟩
  have s7 := sane_len s3
  have s8 := sane_len s4
  obtain ⟨M, hM⟩ : ∃ M, (X : Int) * y = M := ⟨_, rfl⟩
  rw [hM] at A4 hmb
  obtain ⟨an, al, ax⟩ := A
  obtain ⟨bn, bl, bx⟩ := B
  obtain ⟨sn, sl, sx⟩ := S
  obtain ⟨pn, pl, px⟩ := P
  simp only at s1 s2 s5 s6 s7 s8 hox hoy
  have HLA : Hid (al.length ≤ 140737488355328) := Lib.hid (by omega)
  have HLB : Hid (bl.length ≤ 140737488355328) := Lib.hid (by omega)
  have HLS : Hid (sl.length ≤ 140737488355328) := Lib.hid (by omega)
  have HLP : Hid (pl.length ≤ 140737488355328) := Lib.hid (by omega)
  have HXS : Hid (-9223372036854775808 ≤ sx ∧ sx ≤ 9223372036854775807) := Lib.hid (by omega)
  have HXP : Hid (-9223372036854775808 ≤ px ∧ px ≤ 9223372036854775807) := Lib.hid (by omega)
  have HA1 := Lib.hid A1
  have HA2 := Lib.hid A2
  have HA3 := Lib.hid A3
  have HA4 := Lib.hid A4
  have HC0 := Lib.hid A5
  have HOX := Lib.hid hox
  have HOY := Lib.hid hoy
  have hw2 : IntKind.i64.wrap ((X : Int) * y) = M := by rw [hM]; exact IntWalk.i64_in _ (by omega)
  have hw1 : IntKind.i64.wrap ((Y : Int) - 8388608) = y := by rw [IntWalk.i64_in _ (by omega)]; exact hyy
  obtain ⟨hy4, hy5⟩ := hy3
  clear A1 A2 A3 A4 A5 hox hoy s1 s2 s3 s4 s5 s6 s7 s8 hA hB hS hP
  go_enter Tryd.func9, Tryd.ntmps9
  go_wp2_with fail
  refine (dawake _ (HTT.out.ext hE)).mono ?_
  rintro e wn ⟨rfl, hw⟩
  replace hE := ext_trans hE hw
  clear hw
  go_wp2_with fail
  refine (HOX.out _ (HTT.out.ext hE)).mono ?_
  rintro e wn ⟨rfl, hw⟩
  replace hE := ext_trans hE hw
  clear hw
  go_wp2_with fail
  refine (HOY.out _ (HTT.out.ext hE)).mono ?_
  rintro e wn ⟨rfl, hw⟩
  replace hE := ext_trans hE hw
  clear hw
  go_wp2_with fail
  refine (add_any ⟨an, al, ax⟩ ⟨bn, bl, bx⟩ _ HLA.out HLB.out).mono ?_
  rintro e wn ⟨rfl, hw⟩
  replace hE := ext_trans hE hw
  clear hw
  rw [HA1.out]
  simp only
  have HS0 := NumAt.new wn ⟨sn, sl, sx⟩
  have hx := ext_newnum wn ⟨sn, sl, sx⟩
  simp only at HS0 hx
  replace hE := ext_trans hE hx
  have HS := Lib.hid HS0
  clear hx HS0
  go_wp2_with fail
  generalize hg : wn.heap.size = pS at *
  generalize hwm : wn.alloc (.cells #[.bool sn, .string ⟨sl.toArray⟩, .int .i64 sx] 25) = wmS at *
  clear hg hwm
  refine (HOX.out _ (HTT.out.ext hE)).mono ?_
  rintro e wn ⟨rfl, hw⟩
  replace HS := Lib.hid (HS.out.ext hw)
  replace hE := ext_trans hE hw
  clear hw
  go_wp2_with fail
  refine (HOY.out _ (HTT.out.ext hE)).mono ?_
  rintro e wn ⟨rfl, hw⟩
  replace HS := Lib.hid (HS.out.ext hw)
  replace hE := ext_trans hE hw
  clear hw
  go_wp2_with fail
  refine (mul_any ⟨an, al, ax⟩ ⟨bn, bl, bx⟩ _ HLA.out HLB.out).mono ?_
  rintro e wn ⟨rfl, hw⟩
  replace HS := Lib.hid (HS.out.ext hw)
  replace hE := ext_trans hE hw
  clear hw
  rw [HA2.out]
  simp only
  have HP0 := NumAt.new wn ⟨pn, pl, px⟩
  have hx := ext_newnum wn ⟨pn, pl, px⟩
  simp only at HP0 hx
  replace HS := Lib.hid (HS.out.ext hx)
  replace hE := ext_trans hE hx
  have HP := Lib.hid HP0
  clear hx HP0
  obtain ⟨fS0, fS1, fS2, gS0, gS1, gS2, lS⟩ := HS.out.cells
  simp only at fS0 fS1 fS2
  obtain ⟨fP0, fP1, fP2, gP0, gP1, gP2, lP⟩ := HP.out.cells
  simp only at fP0 fP1 fP2
  go_wp2_with fail
  clear fS0 fS1 fS2 gS0 gS1 gS2 lS
  clear fP0 fP1 fP2 gP0 gP1 gP2 lP
  generalize hg : wn.heap.size = pP at *
  generalize hwm : wn.alloc (.cells #[.bool pn, .string ⟨pl.toArray⟩, .int .i64 px] 25) = wmP at *
  clear hg hwm
  refine (int_any ⟨sn, sl, sx⟩ _ HLS.out HXS.out).mono ?_
  rintro e wn ⟨rfl, hw⟩
  replace HS := Lib.hid (HS.out.ext hw)
  replace HP := Lib.hid (HP.out.ext hw)
  replace hE := ext_trans hE hw
  clear hw
  rw [HA3.out]
  obtain ⟨fS0, fS1, fS2, gS0, gS1, gS2, lS⟩ := HS.out.cells
  simp only at fS0 fS1 fS2
  obtain ⟨fP0, fP1, fP2, gP0, gP1, gP2, lP⟩ := HP.out.cells
  simp only at fP0 fP1 fP2
  go_wp2_with fail
  clear fS0 fS1 fS2 gS0 gS1 gS2 lS
  clear fP0 fP1 fP2 gP0 gP1 gP2 lP
  refine (int_any ⟨pn, pl, px⟩ _ HLP.out HXP.out).mono ?_
  rintro e wn ⟨rfl, hw⟩
  replace HS := Lib.hid (HS.out.ext hw)
  replace HP := Lib.hid (HP.out.ext hw)
  replace hE := ext_trans hE hw
  clear hw
  rw [HA4.out]
  simp only
  clear hyy hM hX hY
  rcases Int.lt_trichotomy (X : Int) y with h | h | h
  · have HCMP : Hid (cmpP ⟨an, al, ax⟩ ⟨bn, bl, bx⟩ = (-1)) := Lib.hid (by rw [HC0.out]; unfold cmpZ; first | rw [if_pos (by omega)] | rw [if_neg (by omega), if_pos (by omega)] | rw [if_neg (by omega), if_neg (by omega)])
    go_wp2_with fail
    refine (HOX.out _ (HTT.out.ext hE)).mono ?_
    rintro e wn ⟨rfl, hw⟩
    replace hE := ext_trans hE hw
    clear hw
    go_wp2_with fail
    refine (HOY.out _ (HTT.out.ext hE)).mono ?_
    rintro e wn ⟨rfl, hw⟩
    replace hE := ext_trans hE hw
    clear hw
    go_wp2_with fail
    refine (compare_any ⟨an, al, ax⟩ ⟨bn, bl, bx⟩ _ HLA.out HLB.out).mono ?_
    rintro e wn ⟨rfl, hw⟩
    replace hE := ext_trans hE hw
    clear hw
    rw [HCMP.out]
    go_wp2_with fail
    go_ret
    exact ⟨rfl, hE⟩
  · have h2 : ¬ (X : Int) < y := by omega
    have h3 : ¬ y < (X : Int) := by omega
    have HEQ := Lib.hid h
    clear h
    have HCMP : Hid (cmpP ⟨an, al, ax⟩ ⟨bn, bl, bx⟩ = 0) := Lib.hid (by rw [HC0.out]; unfold cmpZ; first | rw [if_pos (by omega)] | rw [if_neg (by omega), if_pos (by omega)] | rw [if_neg (by omega), if_neg (by omega)])
    go_wp2_with fail
    refine (HOX.out _ (HTT.out.ext hE)).mono ?_
    rintro e wn ⟨rfl, hw⟩
    replace hE := ext_trans hE hw
    clear hw
    go_wp2_with fail
    refine (HOY.out _ (HTT.out.ext hE)).mono ?_
    rintro e wn ⟨rfl, hw⟩
    replace hE := ext_trans hE hw
    clear hw
    go_wp2_with fail
    refine (compare_any ⟨an, al, ax⟩ ⟨bn, bl, bx⟩ _ HLA.out HLB.out).mono ?_
    rintro e wn ⟨rfl, hw⟩
    replace hE := ext_trans hE hw
    clear hw
    rw [HCMP.out]
    go_wp2_with fail
    go_ret
    exact ⟨rfl, hE⟩
  · have h2 : ¬ (X : Int) < y := by omega
    have HCMP : Hid (cmpP ⟨an, al, ax⟩ ⟨bn, bl, bx⟩ = 1) := Lib.hid (by rw [HC0.out]; unfold cmpZ; first | rw [if_pos (by omega)] | rw [if_neg (by omega), if_pos (by omega)] | rw [if_neg (by omega), if_neg (by omega)])
    go_wp2_with fail
    refine (HOX.out _ (HTT.out.ext hE)).mono ?_
    rintro e wn ⟨rfl, hw⟩
    replace hE := ext_trans hE hw
    clear hw
    go_wp2_with fail
    refine (HOY.out _ (HTT.out.ext hE)).mono ?_
    rintro e wn ⟨rfl, hw⟩
    replace hE := ext_trans hE hw
    clear hw
    go_wp2_with fail
    refine (compare_any ⟨an, al, ax⟩ ⟨bn, bl, bx⟩ _ HLA.out HLB.out).mono ?_
    rintro e wn ⟨rfl, hw⟩
    replace hE := ext_trans hE hw
    clear hw
    rw [HCMP.out]
    go_wp2_with fail
    go_ret
    exact ⟨rfl, hE⟩
set_option linter.unusedSimpArgs false
theorem own : ownKnob Tryd.prog.godebug = none := by kernel_rfl
theorem laid : laidOutB Tryd.prog = true := by kernel_rfl
set_option maxHeartbeats 1600000 in
set_option maxRecDepth 100000 in
theorem lifted (os : Os) (started : os.Started) (H : Type) (enc : TypeId × Value → H) :
    ReturnsInHanded {} Tryd.checked os 9 .any (fun w args => (Rows.decWholeSpec.pre enc Tryd.prog Tryd.f9 [] false w args ∧ laidMetH Tryd.prog Rows.decWholeRow.laid w) ∧ sizedMet enc Tryd.prog Tryd.f9 (OpenSpec.ofChange Rows.decWholeSpec) false w args) (Rows.decWholeSpec.post enc Tryd.prog Tryd.f9 false true false false) := by
  refine returnsInHanded_of_change_and (C := Tryd.checked) (X := fun w _ => laidMetH Tryd.prog Rows.decWholeRow.laid w) (fun _ _ _ hh h => h.of_heap hh) own started (by kernel_rfl) Tryd.func9
    (ChangeSpec.witness_shaped (enc := enc) (C := Tryd.checked) (os := os) (X := fun w _ => laidMetH Tryd.prog Rows.decWholeRow.laid w) false (World.laidAll Tryd.prog os Rows.decWholeRow.laid) #[.int .i64 0, .int .i64 0] 8 (World.laidAll_os _ _ _)
      (World.shaped_of_ZipB (by kernel_rfl) (by kernel_rfl)) (by kernel_rfl) (by kernel_rfl) (by kernel_rfl)
      (by rw [MakeChecks.laidMetH_plain _ _ _ (by kernel_rfl)]; exact laidMet_laidAll _ (by kernel_rfl) (by kernel_rfl))) ?_
  intro W base args ds gs before hval0 hW _ hsz0 hX _
  have hT : Tab W := tab_of hX
  have hsz : (DataW.weightsEach Tryd.prog (Tryd.f9.params.toList ++ Rows.decWholeSpec.plain.varTypes Tryd.prog) (ds ++ gs)).all (· ≤ reachBytes) = true := hsz0
  clear hsz0
  have hval : ∀ (j : Nat) t v, Tryd.f9.params[j]? = some t → args[j]? = some v → Value.okWide Tryd.prog W .any base t v := hval0
  have hW' := hW
  obtain ⟨p, q, hA0, hV, rfl, _, _⟩ := hW
  have hA : DataW.TrodAll enc Tryd.prog W 0 (fun _ => true) true Tryd.f9.params.toList args.toList ds p := hA0
  rw [Tryd.params9] at hA hval hsz
  obtain ⟨v0, vs0, d0, ds0, p0, q0, ha0, rfl, rfl, h0, r0⟩ := trodAll_cons hA
  obtain ⟨v1, vs1, d1, ds1, p1, q1, ha1, rfl, rfl, h1, r1⟩ := trodAll_cons r0
  obtain ⟨hb2, rfl, rfl⟩ := trodAll_nil r1
  subst hb2
  subst ha1
  obtain rfl : args = #[v0, v1] := by cases args; simpa using ha0
  obtain ⟨rfl, rfl⟩ := trodVars_none hV
  have hk0 := h0
  obtain ⟨a0, rfl, rfl, rfl, wf0⟩ := open_int Tryd.underlying3 (hval 0 3 v0 rfl rfl) h0
  have hr0 : -9223372036854775808 ≤ a0 ∧ a0 ≤ 9223372036854775807 := by simpa [Lit.wf, IntKind.min, IntKind.max, IntKind.signed, IntKind.bits] using wf0
  have hk1 := h1
  obtain ⟨a1, rfl, rfl, rfl, wf1⟩ := open_int Tryd.underlying3 (hval 1 3 v1 rfl rfl) h1
  have hr1 : -9223372036854775808 ≤ a1 ∧ a1 ≤ 9223372036854775807 := by simpa [Lit.wf, IntKind.min, IntKind.max, IntKind.signed, IntKind.bits] using wf1
  have hlt := fun x hx => hW'.lt x hx
  simp only [List.append_nil, List.nil_append] at hW' hlt
  refine (walk a0 hr0.1 hr0.2 a1 hr1.1 hr1.2 W hT ).mono fun e W' ⟨he, hb⟩ => ?_
  subst he
  have hargs := (trodAll_cons_mk (Below.trod laid (by kernel_rfl) (of_decide_eq_true (by kernel_rfl)) hk0 hb (fun x hx => by first | exact hlt x hx | exact absurd hx (List.not_mem_nil) | exact hlt x (by simp [hx]))) (trodAll_cons_mk (Below.trod laid (by kernel_rfl) (of_decide_eq_true (by kernel_rfl)) hk1 hb (fun x hx => by first | exact hlt x hx | exact absurd hx (List.not_mem_nil) | exact hlt x (by simp [hx]))) trodAll_mk0))
  exact ⟨_, rfl, _, _, _, [], _, [], hW', trodAll_cons_mk (shut_bool Tryd.underlying4 _) trodAll_mk0, hargs, rfl, hb.frame _, fun h => by cases h⟩

theorem held : Rows.DecWholeSaid :=
  OpenClaim.holds_of_wide 9 Tryd.f9 rfl rfl rfl rfl rfl rfl rfl ⟨rfl, rfl, rfl, rfl, rfl⟩ rfl rfl rfl rfl rfl (by kernel_rfl) Tryd.func9 (by kernel_rfl)
    (of_decide_eq_true (by kernel_rfl)) (by unfold Func.isWrapper; first | (rw [if_pos (by decide +kernel)]; kernel_rfl) | (rw [if_neg (by decide +kernel)]; exact ⟨rfl, rfl⟩))
    (fun os started H enc _ => lifted os started H enc)

theorem proved : Rows.DecWholeCardSaid :=
  Claim7.holds_tied_plain_at .later [] Rows.decWholeCard.laidKinds true Rows.decWholeCard.stood.harness false held (fun _ h => by cases h) (by kernel_rfl) (fun _ h => by cases h) decWhole_row_tie rfl ⟨rfl, rfl⟩ (by kernel_rfl) rfl
    (fun f fn hf hfn => by
      obtain rfl : f = 9 := Option.some.inj ((show Tryd.prog.funcNamed "orangery/orangerylaw02.DecWhole" = some 9 by kernel_rfl).symm.trans hf) |>.symm
      obtain rfl : fn = Tryd.f9 := (Option.some.inj (Tryd.func9.symm.trans hfn)).symm
      exact ⟨by kernel_rfl, fun j t ht => by
        rw [Tryd.params9] at ht
        have hm : t ∈ [3, 3] := by simpa using Array.mem_of_getElem? ht
        have hall : ([3, 3].all fun u => !Tryd.prog.wantsStandIn u) = true := by kernel_rfl
        exact (show Tryd.prog.wantsStandIn t = false by simpa using List.all_eq_true.1 hall t hm)⟩)
    (by kernel_rfl)
end Go.Proofs.YtpheohgceepboaaDoor.decWhole
