/- DecReckons: which of any two numbers is below the other one, their sum and their product, are what the document says: whatever the input, the law returns true and the input reads as it did. No condition beyond the row's. -/
import Derived.Test.YtpheohgceepboaaDoorRows
import Derived.Test.YtpheohgceepboaaDoorCards
import Derived.Test.YtpheohgceepboaaDoorTie
import Derived.Test.YtpheohgceepboaaDoorDecT
import Derived.Test.YtpheohgceepboaaDoorDecR
import Derived.Test.YtpheohgceepboaaDoorDecS
import Derived.Test.YtpheohgceepboaaDoorDecK
import Derived.Test.YtpheohgceepboaaDoorGst
import Derived.Test.YtpheohgceepboaaDoorR2F
import Derived.Test.YtpheohgceepboaaDoorBits
import Derived.Test.YtpheohgceepboaaDoorDecW
import Derived.Test.YtpheohgceepboaaDoorFrame
import Derived.ProofKit
import Derived.SizedLaws
import Derived.OpenShut
import Derived.Lay
import Derived.LaidMore
import Derived.SevenTiedAt
import Derived.IntWalk
set_option linter.unusedVariables false
set_option linter.unusedSimpArgs false
set_option maxRecDepth 100000
namespace Go.Proofs.YtpheohgceepboaaDoor.decReckons
open Go.ChangeShapes Go.WideShapes Go.ChangeAt Go.RowKit Go.Mem Orange

set_option maxHeartbeats 6400000 in
theorem walk (a : Num) (ha : a.digits.length ≤ 140737488351232) (ha0 : -9223372036854775808 ≤ a.exp) (ha1 : a.exp ≤ 9223372036854775807) (b : Num) (hb : b.digits.length ≤ 140737488351232) (hb0 : -9223372036854775808 ≤ b.exp) (hb1 : b.exp ≤ 9223372036854775807) (w : World) (hT : Tab w) :
    Calls Tryd.prog 8 #[.agg #[.bool a.neg, .string ⟨a.digits.toArray⟩, .int .i64 a.exp], .agg #[.bool b.neg, .string ⟨b.digits.toArray⟩, .int .i64 b.exp]] w fun e w' => e = .returned (.bool true) ∧ Ext w w' := by
  obtain ⟨an, al, ax⟩ := a
  obtain ⟨bn, bl, bx⟩ := b
  simp only at ha hb ⊢
  clear ha0 ha1 hb0 hb1
  have HLA : Hid (al.length ≤ 140737488355328) := Lib.hid (by omega)
  have HLB : Hid (bl.length ≤ 140737488355328) := Lib.hid (by omega)
  clear ha hb
  have HTT := Lib.hid hT
  clear hT
  have hE := ext_refl w
  have HA0 := NumAt.new w ⟨an, al, ax⟩
  have hx := ext_newnum w ⟨an, al, ax⟩
  simp only at HA0 hx
  replace hE := ext_trans hE hx
  have HA := Lib.hid HA0
  clear hx HA0
  generalize hwA : w.alloc (.cells #[.bool an, .string ⟨al.toArray⟩, .int .i64 ax] 25) = wA at *
  have hsA : wA.heap.size = w.heap.size + 1 := by rw [← hwA]; simp
  have HB0 := NumAt.new wA ⟨bn, bl, bx⟩
  have hx := ext_newnum wA ⟨bn, bl, bx⟩
  simp only at HB0 hx
  replace HA := Lib.hid (HA.out.ext hx)
  replace hE := ext_trans hE hx
  have HB := Lib.hid HB0
  clear hx HB0
  generalize hwB : wA.alloc (.cells #[.bool bn, .string ⟨bl.toArray⟩, .int .i64 bx] 25) = wB at *
  rw [hsA] at HB
  subst hwA
  go_enter Tryd.func8, Tryd.ntmps8
  go_wp2_with fail
  clear hwB hsA
  refine (dawake _ (HTT.out.ext hE)).mono ?_
  rintro e wn ⟨rfl, hw⟩
  replace HA := Lib.hid (HA.out.ext hw)
  replace HB := Lib.hid (HB.out.ext hw)
  replace hE := ext_trans hE hw
  clear hw
  by_cases h1 : 200 < al.length
  · obtain ⟨fA0, fA1, fA2, gA0, gA1, gA2, lA⟩ := HA.out.cells
    simp only at fA0 fA1 fA2
    obtain ⟨fB0, fB1, fB2, gB0, gB1, gB2, lB⟩ := HB.out.cells
    simp only at fB0 fB1 fB2
    go_wp2_with fail
    clear fA0 fA1 fA2 gA0 gA1 gA2 lA
    clear fB0 fB1 fB2 gB0 gB1 gB2 lB
    go_ret
    exact ⟨rfl, hE⟩
  by_cases h2 : 200 < bl.length
  · obtain ⟨fA0, fA1, fA2, gA0, gA1, gA2, lA⟩ := HA.out.cells
    simp only at fA0 fA1 fA2
    obtain ⟨fB0, fB1, fB2, gB0, gB1, gB2, lB⟩ := HB.out.cells
    simp only at fB0 fB1 fB2
    go_wp2_with fail
    clear fA0 fA1 fA2 gA0 gA1 gA2 lA
    clear fB0 fB1 fB2 gB0 gB1 gB2 lB
    go_ret
    exact ⟨rfl, hE⟩
  obtain ⟨fA0, fA1, fA2, gA0, gA1, gA2, lA⟩ := HA.out.cells
  simp only at fA0 fA1 fA2
  obtain ⟨fB0, fB1, fB2, gB0, gB1, gB2, lB⟩ := HB.out.cells
  simp only at fB0 fB1 fB2
  go_wp2_with fail
  clear fA0 fA1 fA2 gA0 gA1 gA2 lA
  clear fB0 fB1 fB2 gB0 gB1 gB2 lB
  clear h1 h2
  obtain ⟨X, hX⟩ : ∃ X, addP ⟨an, al, ax⟩ ⟨bn, bl, bx⟩ = X := ⟨_, rfl⟩
  obtain ⟨Z, hZ⟩ : ∃ Z, mulP ⟨an, al, ax⟩ ⟨bn, bl, bx⟩ = Z := ⟨_, rfl⟩
  obtain ⟨C, hC⟩ : ∃ C, cmpP ⟨an, al, ax⟩ ⟨bn, bl, bx⟩ = C := ⟨_, rfl⟩
  have HX1 := Lib.hid hX
  have HZ1 := Lib.hid hZ
  have HC1 := Lib.hid hC
  clear hX hZ hC
  obtain ⟨⟨xn, xl, xx⟩, xe⟩ := X
  obtain ⟨⟨zn, zl, zx⟩, ze⟩ := Z
  refine (add_any ⟨an, al, ax⟩ ⟨bn, bl, bx⟩ _ HLA.out HLB.out).mono ?_
  rintro e wn ⟨rfl, hw⟩
  replace HA := Lib.hid (HA.out.ext hw)
  replace HB := Lib.hid (HB.out.ext hw)
  replace hE := ext_trans hE hw
  clear hw
  rw [HX1.out]
  simp only
  have HX0 := NumAt.new wn ⟨xn, xl, xx⟩
  have hx := ext_newnum wn ⟨xn, xl, xx⟩
  simp only at HX0 hx
  replace HA := Lib.hid (HA.out.ext hx)
  replace HB := Lib.hid (HB.out.ext hx)
  replace hE := ext_trans hE hx
  have HX := Lib.hid HX0
  clear hx HX0
  obtain ⟨fA0, fA1, fA2, gA0, gA1, gA2, lA⟩ := HA.out.cells
  simp only at fA0 fA1 fA2
  obtain ⟨fB0, fB1, fB2, gB0, gB1, gB2, lB⟩ := HB.out.cells
  simp only at fB0 fB1 fB2
  go_wp2_with fail
  clear fA0 fA1 fA2 gA0 gA1 gA2 lA
  clear fB0 fB1 fB2 gB0 gB1 gB2 lB
  generalize hg : wn.heap.size = pX at *
  generalize hwm : wn.alloc (.cells #[.bool xn, .string ⟨xl.toArray⟩, .int .i64 xx] 25) = wmX at *
  clear hg hwm
  refine (r2add_any ⟨an, al, ax⟩ ⟨bn, bl, bx⟩ _ HLA.out HLB.out).mono ?_
  rintro e wn ⟨rfl, hw⟩
  replace HA := Lib.hid (HA.out.ext hw)
  replace HB := Lib.hid (HB.out.ext hw)
  replace HX := Lib.hid (HX.out.ext hw)
  replace hE := ext_trans hE hw
  clear hw
  rw [HX1.out]
  simp only
  have HY0 := NumAt.new wn ⟨xn, xl, xx⟩
  have hx := ext_newnum wn ⟨xn, xl, xx⟩
  simp only at HY0 hx
  replace HA := Lib.hid (HA.out.ext hx)
  replace HB := Lib.hid (HB.out.ext hx)
  replace HX := Lib.hid (HX.out.ext hx)
  replace hE := ext_trans hE hx
  have HY := Lib.hid HY0
  clear hx HY0
  obtain ⟨fA0, fA1, fA2, gA0, gA1, gA2, lA⟩ := HA.out.cells
  simp only at fA0 fA1 fA2
  obtain ⟨fB0, fB1, fB2, gB0, gB1, gB2, lB⟩ := HB.out.cells
  simp only at fB0 fB1 fB2
  obtain ⟨fX0, fX1, fX2, gX0, gX1, gX2, lX⟩ := HX.out.cells
  simp only at fX0 fX1 fX2
  go_wp2_with fail
  clear fA0 fA1 fA2 gA0 gA1 gA2 lA
  clear fB0 fB1 fB2 gB0 gB1 gB2 lB
  clear fX0 fX1 fX2 gX0 gX1 gX2 lX
  generalize hg : wn.heap.size = pY at *
  generalize hwm : wn.alloc (.cells #[.bool xn, .string ⟨xl.toArray⟩, .int .i64 xx] 25) = wmY at *
  clear hg hwm
  refine (mul_any ⟨an, al, ax⟩ ⟨bn, bl, bx⟩ _ HLA.out HLB.out).mono ?_
  rintro e wn ⟨rfl, hw⟩
  replace HA := Lib.hid (HA.out.ext hw)
  replace HB := Lib.hid (HB.out.ext hw)
  replace HX := Lib.hid (HX.out.ext hw)
  replace HY := Lib.hid (HY.out.ext hw)
  replace hE := ext_trans hE hw
  clear hw
  rw [HZ1.out]
  simp only
  have HZ0 := NumAt.new wn ⟨zn, zl, zx⟩
  have hx := ext_newnum wn ⟨zn, zl, zx⟩
  simp only at HZ0 hx
  replace HA := Lib.hid (HA.out.ext hx)
  replace HB := Lib.hid (HB.out.ext hx)
  replace HX := Lib.hid (HX.out.ext hx)
  replace HY := Lib.hid (HY.out.ext hx)
  replace hE := ext_trans hE hx
  have HZ := Lib.hid HZ0
  clear hx HZ0
  obtain ⟨fA0, fA1, fA2, gA0, gA1, gA2, lA⟩ := HA.out.cells
  simp only at fA0 fA1 fA2
  obtain ⟨fB0, fB1, fB2, gB0, gB1, gB2, lB⟩ := HB.out.cells
  simp only at fB0 fB1 fB2
  obtain ⟨fX0, fX1, fX2, gX0, gX1, gX2, lX⟩ := HX.out.cells
  simp only at fX0 fX1 fX2
  obtain ⟨fY0, fY1, fY2, gY0, gY1, gY2, lY⟩ := HY.out.cells
  simp only at fY0 fY1 fY2
  go_wp2_with fail
  clear fA0 fA1 fA2 gA0 gA1 gA2 lA
  clear fB0 fB1 fB2 gB0 gB1 gB2 lB
  clear fX0 fX1 fX2 gX0 gX1 gX2 lX
  clear fY0 fY1 fY2 gY0 gY1 gY2 lY
  generalize hg : wn.heap.size = pZ at *
  generalize hwm : wn.alloc (.cells #[.bool zn, .string ⟨zl.toArray⟩, .int .i64 zx] 25) = wmZ at *
  clear hg hwm
  refine (r2mul_any ⟨an, al, ax⟩ ⟨bn, bl, bx⟩ _ HLA.out HLB.out).mono ?_
  rintro e wn ⟨rfl, hw⟩
  replace HA := Lib.hid (HA.out.ext hw)
  replace HB := Lib.hid (HB.out.ext hw)
  replace HX := Lib.hid (HX.out.ext hw)
  replace HY := Lib.hid (HY.out.ext hw)
  replace HZ := Lib.hid (HZ.out.ext hw)
  replace hE := ext_trans hE hw
  clear hw
  rw [HZ1.out]
  simp only
  have HW0 := NumAt.new wn ⟨zn, zl, zx⟩
  have hx := ext_newnum wn ⟨zn, zl, zx⟩
  simp only at HW0 hx
  replace HA := Lib.hid (HA.out.ext hx)
  replace HB := Lib.hid (HB.out.ext hx)
  replace HX := Lib.hid (HX.out.ext hx)
  replace HY := Lib.hid (HY.out.ext hx)
  replace HZ := Lib.hid (HZ.out.ext hx)
  replace hE := ext_trans hE hx
  have HW := Lib.hid HW0
  clear hx HW0
  go_wp2_with fail
  generalize hg : wn.heap.size = pW at *
  generalize hwm : wn.alloc (.cells #[.bool zn, .string ⟨zl.toArray⟩, .int .i64 zx] 25) = wmW at *
  clear hg hwm
  have he1 := fun w => eql_same ⟨xn, xl, xx⟩ w
  have he2 := fun w => eql_same ⟨zn, zl, zx⟩ w
  simp only at he1 he2
  refine Grow.wp_region_lit (G := Ext) (B := fun w' => Ext wmW w') (anc := fun _ => []) (I := fun j => if j = 4 then some (Grow.Spec.val Ext (.int .i64 C)) else if j = 7 then some (Grow.Spec.val Ext (.int .i64 C)) else none) (by kernel_rfl) (by kernel_rfl) (by kernel_rfl) ?_ ?_ ?_
  · exact fun w w' h hg => ext_trans h hg
  · exact (ext_refl _).drew
  repeat
    (refine Grow.walk_step (fun K hK => ?_)
     first
     | (refine Grow.step_read (by rfl) (by rfl) ext_refl ?_
        apply Exists.intro
        refine ⟨fun w hB hF => ?_, ?_⟩
        · obtain ⟨a0, a1, a2, af0, af1, af2, hp⟩ := (HA.out.ext hB).cells; obtain ⟨b0, b1, b2, bf0, bf1, bf2, hq⟩ := (HB.out.ext hB).cells; simp only at a0 a1 a2 b0 b1 b2
          go_simp
          try exact rfl
        go_simp
        refine hK _ _ ?_
        clear hK K)
     | (refine Grow.step_off (by rfl) ?_
        go_simp
        refine hK _ _ ?_
        clear hK K))
  refine Grow.walk_step (fun K hK => ?_)
  refine Grow.step_rel (by rfl) (by rfl) (fun w' hB hF => ?_) (fun v hv => ?_)
  · go_simp
    refine Grow.relUpon_enter ((compare_any ⟨an, al, ax⟩ ⟨bn, bl, bx⟩ w' HLA.out HLB.out).mono ?_)
    rintro e w'' ⟨rfl, hw''⟩
    exact ⟨_, rfl, hw'', by rw [HC1.out]; rfl, trivial⟩
  obtain rfl : v = _ := hv
  go_simp
  refine hK _ _ ?_
  clear hK K
  repeat
    (refine Grow.walk_step (fun K hK => ?_)
     first
     | (refine Grow.step_read (by rfl) (by rfl) ext_refl ?_
        apply Exists.intro
        refine ⟨fun w hB hF => ?_, ?_⟩
        · obtain ⟨a0, a1, a2, af0, af1, af2, hp⟩ := (HA.out.ext hB).cells; obtain ⟨b0, b1, b2, bf0, bf1, bf2, hq⟩ := (HB.out.ext hB).cells; simp only at a0 a1 a2 b0 b1 b2
          go_simp
          try exact rfl
        go_simp
        refine hK _ _ ?_
        clear hK K)
     | (refine Grow.step_off (by rfl) ?_
        go_simp
        refine hK _ _ ?_
        clear hK K))
  refine Grow.walk_step (fun K hK => ?_)
  refine Grow.step_rel (by rfl) (by rfl) (fun w' hB hF => ?_) (fun v hv => ?_)
  · go_simp
    refine Grow.relUpon_enter ((r2compare_any ⟨an, al, ax⟩ ⟨bn, bl, bx⟩ w' HLA.out HLB.out).mono ?_)
    rintro e w'' ⟨rfl, hw''⟩
    exact ⟨_, rfl, hw'', by rw [HC1.out]; rfl, trivial⟩
  obtain rfl : v = _ := hv
  go_simp
  refine hK _ _ ?_
  clear hK K
  repeat
    (refine Grow.walk_step (fun K hK => ?_)
     first
     | (refine Grow.step_read (by rfl) (by rfl) ext_refl ?_
        apply Exists.intro
        refine ⟨fun w hB hF => ?_, ?_⟩
        · obtain ⟨x0, x1, x2, xf0, xf1, xf2, hp3⟩ := (HX.out.ext hB).cells; obtain ⟨y0, y1, y2, yf0, yf1, yf2, hp4⟩ := (HY.out.ext hB).cells; obtain ⟨z0, z1, z2, zf0, zf1, zf2, hp5⟩ := (HZ.out.ext hB).cells; obtain ⟨v0, v1, v2, vf0, vf1, vf2, hp6⟩ := (HW.out.ext hB).cells; simp only at x0 x1 x2 y0 y1 y2 z0 z1 z2 v0 v1 v2
          go_simp
          try exact rfl
        go_simp
        refine hK _ _ ?_
        clear hK K)
     | (refine Grow.step_off (by rfl) ?_
        go_simp
        refine hK _ _ ?_
        clear hK K))
  refine Grow.walk_nil ?_
  intro w13 hB hF
  clear hF
  have hE13 := ext_trans hE hB
  go_wp2_with fail
  go_ret
  exact ⟨rfl, hE13⟩
set_option linter.unusedSimpArgs false
theorem own : ownKnob Tryd.prog.godebug = none := by kernel_rfl
theorem laid : laidOutB Tryd.prog = true := by kernel_rfl
set_option maxHeartbeats 1600000 in
set_option maxRecDepth 100000 in
theorem lifted (os : Os) (started : os.Started) (H : Type) (enc : TypeId × Value → H) :
    ReturnsInHanded {} Tryd.checked os 8 .any (fun w args => (Rows.decReckonsSpec.pre enc Tryd.prog Tryd.f8 [] false w args ∧ laidMetH Tryd.prog Rows.decReckonsRow.laid w) ∧ sizedMet enc Tryd.prog Tryd.f8 (OpenSpec.ofChange Rows.decReckonsSpec) false w args) (Rows.decReckonsSpec.post enc Tryd.prog Tryd.f8 false true false false) := by
  refine returnsInHanded_of_change_and (C := Tryd.checked) (X := fun w _ => laidMetH Tryd.prog Rows.decReckonsRow.laid w) (fun _ _ _ hh h => h.of_heap hh) own started (by kernel_rfl) Tryd.func8
    (ChangeSpec.witness_shaped (enc := enc) (C := Tryd.checked) (os := os) (X := fun w _ => laidMetH Tryd.prog Rows.decReckonsRow.laid w) false (World.laidAll Tryd.prog os Rows.decReckonsRow.laid) #[.agg #[.bool false, .string ⟨#[]⟩, .int .i64 0], .agg #[.bool false, .string ⟨#[]⟩, .int .i64 0]] 8 (World.laidAll_os _ _ _)
      (World.shaped_of_ZipB (by kernel_rfl) (by kernel_rfl)) (by kernel_rfl) (by kernel_rfl) (by kernel_rfl)
      (by rw [MakeChecks.laidMetH_plain _ _ _ (by kernel_rfl)]; exact laidMet_laidAll _ (by kernel_rfl) (by kernel_rfl))) ?_
  intro W base args ds gs before hval0 hW _ hsz0 hX _
  have hT : Tab W := tab_of hX
  have hsz : (DataW.weightsEach Tryd.prog (Tryd.f8.params.toList ++ Rows.decReckonsSpec.plain.varTypes Tryd.prog) (ds ++ gs)).all (· ≤ reachBytes) = true := hsz0
  clear hsz0
  have hval : ∀ (j : Nat) t v, Tryd.f8.params[j]? = some t → args[j]? = some v → Value.okWide Tryd.prog W .any base t v := hval0
  have hW' := hW
  obtain ⟨p, q, hA0, hV, rfl, _, _⟩ := hW
  have hA : DataW.TrodAll enc Tryd.prog W 0 (fun _ => true) true Tryd.f8.params.toList args.toList ds p := hA0
  rw [Tryd.params8] at hA hval hsz
  obtain ⟨v0, vs0, d0, ds0, p0, q0, ha0, rfl, rfl, h0, r0⟩ := trodAll_cons hA
  obtain ⟨v1, vs1, d1, ds1, p1, q1, ha1, rfl, rfl, h1, r1⟩ := trodAll_cons r0
  obtain ⟨hb2, rfl, rfl⟩ := trodAll_nil r1
  subst hb2
  subst ha1
  obtain rfl : args = #[v0, v1] := by cases args; simpa using ha0
  obtain ⟨rfl, rfl⟩ := trodVars_none hV
  have hk0 := h0
  obtain ⟨c00, c01, c02, y00, y01, y02, m0, rfl, rfl, rfl, hy00, hy01, hy02⟩ := Go.Joins.open_agg3 Tryd.underlying25 (by kernel_rfl) (by kernel_rfl) (hval 0 25 v0 rfl rfl) h0
  obtain ⟨n0, e00, rfl⟩ := DataW.trod_bool Tryd.underlying4 hy00
  obtain ⟨s0, e01, rfl, _⟩ := DataW.trod_string Tryd.underlying9 hy01
  obtain ⟨x0, e02, rfl, wf0⟩ := DataW.trod_int Tryd.underlying3 hy02
  simp only [List.cons.injEq, and_true] at e00 e01 e02
  subst e00 e01 e02
  obtain ⟨l0, rfl⟩ : ∃ l : List UInt8, s0 = ⟨l.toArray⟩ := ⟨s0.data.toList, by cases s0; simp⟩
  have hs0 : l0.length ≤ 140737488351232 := sized_dec hsz (j := 0) Tryd.underlying25 rfl rfl
  have hr0 : -9223372036854775808 ≤ x0 ∧ x0 ≤ 9223372036854775807 := by simpa [Lit.wf, IntKind.min, IntKind.max, IntKind.signed, IntKind.bits] using wf0
  have hk1 := h1
  obtain ⟨c10, c11, c12, y10, y11, y12, m1, rfl, rfl, rfl, hy10, hy11, hy12⟩ := Go.Joins.open_agg3 Tryd.underlying25 (by kernel_rfl) (by kernel_rfl) (hval 1 25 v1 rfl rfl) h1
  obtain ⟨n1, e10, rfl⟩ := DataW.trod_bool Tryd.underlying4 hy10
  obtain ⟨s1, e11, rfl, _⟩ := DataW.trod_string Tryd.underlying9 hy11
  obtain ⟨x1, e12, rfl, wf1⟩ := DataW.trod_int Tryd.underlying3 hy12
  simp only [List.cons.injEq, and_true] at e10 e11 e12
  subst e10 e11 e12
  obtain ⟨l1, rfl⟩ : ∃ l : List UInt8, s1 = ⟨l.toArray⟩ := ⟨s1.data.toList, by cases s1; simp⟩
  have hs1 : l1.length ≤ 140737488351232 := sized_dec hsz (j := 1) Tryd.underlying25 rfl rfl
  have hr1 : -9223372036854775808 ≤ x1 ∧ x1 ≤ 9223372036854775807 := by simpa [Lit.wf, IntKind.min, IntKind.max, IntKind.signed, IntKind.bits] using wf1
  have hlt := fun x hx => hW'.lt x hx
  simp only [List.append_nil, List.nil_append] at hW' hlt
  refine (walk ⟨n0, l0, x0⟩ hs0 hr0.1 hr0.2 ⟨n1, l1, x1⟩ hs1 hr1.1 hr1.2 W hT ).mono fun e W' ⟨he, hb⟩ => ?_
  subst he
  have hargs := (trodAll_cons_mk (Below.trod laid (by kernel_rfl) (of_decide_eq_true (by kernel_rfl)) hk0 hb (fun x hx => by first | exact hlt x hx | exact absurd hx (List.not_mem_nil) | exact hlt x (by simp [hx]))) (trodAll_cons_mk (Below.trod laid (by kernel_rfl) (of_decide_eq_true (by kernel_rfl)) hk1 hb (fun x hx => by first | exact hlt x hx | exact absurd hx (List.not_mem_nil) | exact hlt x (by simp [hx]))) trodAll_mk0))
  exact ⟨_, rfl, _, _, _, [], _, [], hW', trodAll_cons_mk (shut_bool Tryd.underlying4 _) trodAll_mk0, hargs, rfl, hb.frame _, fun h => by cases h⟩

theorem held : Rows.DecReckonsSaid :=
  OpenClaim.holds_of_wide 8 Tryd.f8 rfl rfl rfl rfl rfl rfl rfl ⟨rfl, rfl, rfl, rfl, rfl⟩ rfl rfl rfl rfl rfl (by kernel_rfl) Tryd.func8 (by kernel_rfl)
    (of_decide_eq_true (by kernel_rfl)) (by unfold Func.isWrapper; first | (rw [if_pos (by decide +kernel)]; kernel_rfl) | (rw [if_neg (by decide +kernel)]; exact ⟨rfl, rfl⟩))
    (fun os started H enc _ => lifted os started H enc)

theorem proved : Rows.DecReckonsCardSaid :=
  Claim7.holds_tied_plain_at .later [] Rows.decReckonsCard.laidKinds true Rows.decReckonsCard.stood.harness false held (fun _ h => by cases h) (by kernel_rfl) (fun _ h => by cases h) decReckons_row_tie rfl ⟨rfl, rfl⟩ (by kernel_rfl) rfl
    (fun f fn hf hfn => by
      obtain rfl : f = 8 := Option.some.inj ((show Tryd.prog.funcNamed "orangery/orangerylaw02.DecReckons" = some 8 by kernel_rfl).symm.trans hf) |>.symm
      obtain rfl : fn = Tryd.f8 := (Option.some.inj (Tryd.func8.symm.trans hfn)).symm
      exact ⟨by kernel_rfl, fun j t ht => by
        rw [Tryd.params8] at ht
        have hm : t ∈ [25, 25] := by simpa using Array.mem_of_getElem? ht
        have hall : ([25, 25].all fun u => !Tryd.prog.wantsStandIn u) = true := by kernel_rfl
        exact (show Tryd.prog.wantsStandIn t = false by simpa using List.all_eq_true.1 hall t hm)⟩)
    (by kernel_rfl)
end Go.Proofs.YtpheohgceepboaaDoor.decReckons
