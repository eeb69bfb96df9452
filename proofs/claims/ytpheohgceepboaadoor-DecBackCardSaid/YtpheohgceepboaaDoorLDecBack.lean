/- DecBack: a number that may be, as a text, is itself; every text that is a number is, printed and parsed, that number: whatever the input, the law returns true and the input reads as it did. No condition beyond the row's. -/
import Derived.Test.YtpheohgceepboaaDoorRows
import Derived.Test.YtpheohgceepboaaDoorCards
import Derived.Test.YtpheohgceepboaaDoorTie
import Derived.Test.YtpheohgceepboaaDoorDecT
import Derived.Test.YtpheohgceepboaaDoorDecO
import Derived.Test.YtpheohgceepboaaDoorDecF
import Derived.Test.YtpheohgceepboaaDoorDecK
import Derived.Test.YtpheohgceepboaaDoorDecL2
import Derived.Test.YtpheohgceepboaaDoorFrame
import Derived.ProofKit
import Derived.SizedLaws
import Derived.OpenShut
import Derived.Lay
import Derived.LaidMore
import Derived.SevenTiedAt
import Derived.IntWalk
set_option linter.unusedVariables false
set_option linter.unusedSimpArgs false
set_option maxRecDepth 100000
namespace Go.Proofs.YtpheohgceepboaaDoor.decBack
open Go.ChangeShapes Go.WideShapes Go.ChangeAt Go.RowKit Go.Mem Orange

set_option maxHeartbeats 6400000 in
theorem walk (d : Num) (hd : d.digits.length ≤ 140737488351232) (hd0 : -9223372036854775808 ≤ d.exp) (hd1 : d.exp ≤ 9223372036854775807) (s : ByteArray) (hs : s.size ≤ 140737488351232) (w : World) (hT : Tab w) :
    Calls Tryd.prog 4 #[.agg #[.bool d.neg, .string ⟨d.digits.toArray⟩, .int .i64 d.exp], .string s] w fun e w' => e = .returned (.bool true) ∧ Ext w w' := by
  obtain ⟨l, rfl⟩ : ∃ l : List UInt8, s = ⟨l.toArray⟩ := ⟨s.data.toList, by cases s; simp⟩
  have hl : l.length ≤ 140737488351232 := by simpa [ByteArray.size] using hs
  obtain ⟨an, al, ax⟩ := d
  simp only at hd ⊢
  clear hd0 hd1 hs
  have HLA : Hid (al.length ≤ 140737488355328) := Lib.hid (by omega)
  have HLL : Hid (l.length ≤ 140737488355328) := Lib.hid (by omega)
  clear hd hl
  have HTT := Lib.hid hT
  clear hT
  have hE := ext_refl w
  have HA0 := NumAt.new w ⟨an, al, ax⟩
  have hx := ext_newnum w ⟨an, al, ax⟩
  simp only at HA0 hx
  replace hE := ext_trans hE hx
  have HA := Lib.hid HA0
  clear hx HA0
  go_enter Tryd.func4, Tryd.ntmps4
  go_wp2_with fail
  generalize w.alloc (.cells #[.bool an, .string ⟨al.toArray⟩, .int .i64 ax] 25) = wmA at *
  refine (dawake _ (HTT.out.ext hE)).mono ?_
  rintro e wn ⟨rfl, hw⟩
  replace HA := Lib.hid (HA.out.ext hw)
  replace hE := ext_trans hE hw
  clear hw
  by_cases h1 : 200 < al.length
  · obtain ⟨fA0, fA1, fA2, gA0, gA1, gA2, lA⟩ := HA.out.cells
    simp only at fA0 fA1 fA2
    go_wp2_with fail
    clear fA0 fA1 fA2 gA0 gA1 gA2 lA
    go_ret
    exact ⟨rfl, hE⟩
  by_cases h2 : 1000 < l.length
  · obtain ⟨fA0, fA1, fA2, gA0, gA1, gA2, lA⟩ := HA.out.cells
    simp only at fA0 fA1 fA2
    go_wp2_with fail
    clear fA0 fA1 fA2 gA0 gA1 gA2 lA
    go_ret
    exact ⟨rfl, hE⟩
  obtain ⟨fA0, fA1, fA2, gA0, gA1, gA2, lA⟩ := HA.out.cells
  simp only at fA0 fA1 fA2
  go_wp2_with fail
  clear fA0 fA1 fA2 gA0 gA1 gA2 lA
  clear h1 h2
  refine (parse_any l _ HLL.out).mono ?_
  rintro e wn ⟨rfl, hw⟩
  replace HA := Lib.hid (HA.out.ext hw)
  replace hE := ext_trans hE hw
  clear hw
  obtain ⟨T, hT⟩ : ∃ T, decP l = T := ⟨_, rfl⟩
  rw [hT]
  have HDP := Lib.hid hT
  clear hT
  obtain ⟨⟨tn, tl, tx⟩, te⟩ := T
  simp only
  have HT0 := NumAt.new wn ⟨tn, tl, tx⟩
  have hx := ext_newnum wn ⟨tn, tl, tx⟩
  simp only at HT0 hx
  replace HA := Lib.hid (HA.out.ext hx)
  replace hE := ext_trans hE hx
  have HT := Lib.hid HT0
  clear hx HT0
  by_cases hte : te = 0
  · subst hte
    have hts := decP_sane l (by rw [HDP.out])
    rw [HDP.out] at hts
    simp only at hts
    have HTS := Lib.hid hts
    obtain ⟨hpb, hpl⟩ := print_back hts
    have HPB := Lib.hid hpb
    have HPL : Hid ((printP ⟨tn, tl, tx⟩).length ≤ 140737488355328) := Lib.hid (by omega)
    have HTL := Lib.hid (sane_len hts)
    simp only at HTL
    clear hts hpb hpl
    obtain ⟨fT0, fT1, fT2, gT0, gT1, gT2, lT⟩ := HT.out.cells
    simp only at fT0 fT1 fT2
    go_wp2_with fail
    clear fT0 fT1 fT2 gT0 gT1 gT2 lT
    generalize hg : wn.heap.size = pT at *
    generalize hwm : wn.alloc (.cells #[.bool tn, .string ⟨tl.toArray⟩, .int .i64 tx] 25) = wmT at *
    clear hg hwm
    refine (print_any ⟨tn, tl, tx⟩ _ (HTT.out.ext hE) (Nat.le_trans HTL.out (by decide))).mono ?_
    rintro e wn ⟨rfl, hw⟩
    replace HA := Lib.hid (HA.out.ext hw)
    replace HT := Lib.hid (HT.out.ext hw)
    replace hE := ext_trans hE hw
    clear hw
    go_wp2_with fail
    refine (parse_any _ _ HPL.out).mono ?_
    rintro e wn ⟨rfl, hw⟩
    replace HA := Lib.hid (HA.out.ext hw)
    replace HT := Lib.hid (HT.out.ext hw)
    replace hE := ext_trans hE hw
    clear hw
    rw [HPB.out]
    simp only
    have HU0 := NumAt.new wn ⟨tn, tl, tx⟩
    have hx := ext_newnum wn ⟨tn, tl, tx⟩
    simp only at HU0 hx
    replace HA := Lib.hid (HA.out.ext hx)
    replace HT := Lib.hid (HT.out.ext hx)
    replace hE := ext_trans hE hx
    have HU := Lib.hid HU0
    clear hx HU0
    have hne := fun w => nql_dec ⟨tn, tl, tx⟩ w
    simp only at hne
    obtain ⟨fA0, fA1, fA2, gA0, gA1, gA2, lA⟩ := HA.out.cells
    simp only at fA0 fA1 fA2
    obtain ⟨fT0, fT1, fT2, gT0, gT1, gT2, lT⟩ := HT.out.cells
    simp only at fT0 fT1 fT2
    obtain ⟨fU0, fU1, fU2, gU0, gU1, gU2, lU⟩ := HU.out.cells
    simp only at fU0 fU1 fU2
    go_wp2_with fail
    clear fA0 fA1 fA2 gA0 gA1 gA2 lA
    clear fT0 fT1 fT2 gT0 gT1 gT2 lT
    clear fU0 fU1 fU2 gU0 gU1 gU2 lU
    generalize hg : wn.heap.size = pU at *
    generalize hwm : wn.alloc (.cells #[.bool tn, .string ⟨tl.toArray⟩, .int .i64 tx] 25) = wmU at *
    clear hg hwm
    clear hne
    refine (sane_any ⟨tn, tl, tx⟩ _ (Nat.le_trans HTL.out (by decide))).mono ?_
    rintro e wn ⟨rfl, hw⟩
    replace HA := Lib.hid (HA.out.ext hw)
    replace hE := ext_trans hE hw
    clear hw
    rw [HTS.out]
    obtain ⟨fA0, fA1, fA2, gA0, gA1, gA2, lA⟩ := HA.out.cells
    simp only at fA0 fA1 fA2
    go_wp2_with fail
    clear fA0 fA1 fA2 gA0 gA1 gA2 lA
    obtain ⟨fA0, fA1, fA2, gA0, gA1, gA2, lA⟩ := HA.out.cells
    simp only at fA0 fA1 fA2
    go_wp2_with fail
    clear fA0 fA1 fA2 gA0 gA1 gA2 lA
    refine (sane_any ⟨an, al, ax⟩ _ HLA.out).mono ?_
    rintro e wn ⟨rfl, hw⟩
    replace HA := Lib.hid (HA.out.ext hw)
    replace hE := ext_trans hE hw
    clear hw
    cases hsa : sane ⟨an, al, ax⟩ with
    | false =>
      have HPE : Hid (printP ⟨an, al, ax⟩ = []) := Lib.hid (by unfold printP; rw [hsa]; rfl)
      clear hsa
      obtain ⟨fA0, fA1, fA2, gA0, gA1, gA2, lA⟩ := HA.out.cells
      simp only at fA0 fA1 fA2
      go_wp2_with fail
      clear fA0 fA1 fA2 gA0 gA1 gA2 lA
      refine (print_any ⟨an, al, ax⟩ _ (HTT.out.ext hE) HLA.out).mono ?_
      rintro e wn ⟨rfl, hw⟩
      replace HA := Lib.hid (HA.out.ext hw)
      replace hE := ext_trans hE hw
      clear hw
      rw [HPE.out]
      go_wp2_with fail
      go_ret
      exact ⟨rfl, hE⟩
    | true =>
      have HSA := Lib.hid hsa
      obtain ⟨hpb, hpl⟩ := print_back hsa
      have HPB := Lib.hid hpb
      have HPL : Hid ((printP ⟨an, al, ax⟩).length ≤ 140737488355328) := Lib.hid (by omega)
      clear hsa hpb hpl
      obtain ⟨fA0, fA1, fA2, gA0, gA1, gA2, lA⟩ := HA.out.cells
      simp only at fA0 fA1 fA2
      go_wp2_with fail
      clear fA0 fA1 fA2 gA0 gA1 gA2 lA
      refine (print_any ⟨an, al, ax⟩ _ (HTT.out.ext hE) HLA.out).mono ?_
      rintro e wn ⟨rfl, hw⟩
      replace HA := Lib.hid (HA.out.ext hw)
      replace hE := ext_trans hE hw
      clear hw
      go_wp2_with fail
      refine (parse_any _ _ HPL.out).mono ?_
      rintro e wn ⟨rfl, hw⟩
      replace HA := Lib.hid (HA.out.ext hw)
      replace hE := ext_trans hE hw
      clear hw
      rw [HPB.out]
      simp only
      have HV0 := NumAt.new wn ⟨an, al, ax⟩
      have hx := ext_newnum wn ⟨an, al, ax⟩
      simp only at HV0 hx
      replace HA := Lib.hid (HA.out.ext hx)
      replace hE := ext_trans hE hx
      have HV := Lib.hid HV0
      clear hx HV0
      go_wp2_with fail
      generalize hg : wn.heap.size = pV at *
      generalize hwm : wn.alloc (.cells #[.bool an, .string ⟨al.toArray⟩, .int .i64 ax] 25) = wmV at *
      clear hg hwm
      have heq := fun w => eql_same ⟨an, al, ax⟩ w
      simp only at heq
      have HNN := Lib.hid (negP_neg HSA.out)
      obtain ⟨U, hU⟩ : ∃ U, negP ⟨an, al, ax⟩ = U := ⟨_, rfl⟩
      have HUL := Lib.hid (sane_len (negP_sane HSA.out))
      rw [hU] at HNN HUL
      have HU := Lib.hid hU
      clear hU
      obtain ⟨un, ul, ux⟩ := U
      simp only at HUL
      refine Grow.wp_region_lit (G := Ext) (B := fun w' => Ext wmV w') (anc := fun _ => []) (I := fun j => if j = 12 then some (Grow.Spec.val Ext (.agg #[.bool un, .string ⟨ul.toArray⟩, .int .i64 ux])) else if j = 13 then some (Grow.Spec.val Ext (.agg #[.bool an, .string ⟨al.toArray⟩, .int .i64 ax])) else none) (by kernel_rfl) (by kernel_rfl) (by kernel_rfl) ?_ ?_ ?_
      · exact fun w w' h hg => ext_trans h hg
      · exact (ext_refl _).drew
      repeat
        (refine Grow.walk_step (fun K hK => ?_)
         first
         | (refine Grow.step_read (by rfl) (by rfl) ext_refl ?_
            apply Exists.intro
            refine ⟨fun w hB hF => ?_, ?_⟩
            · obtain ⟨a0, a1, a2, af0, af1, af2, hp⟩ := (HA.out.ext hB).cells; obtain ⟨b0, b1, b2, bf0, bf1, bf2, hq⟩ := (HV.out.ext hB).cells; simp only at a0 a1 a2 b0 b1 b2
              go_simp
              try exact rfl
            go_simp
            refine hK _ _ ?_
            clear hK K)
         | (refine Grow.step_off (by rfl) ?_
            go_simp
            refine hK _ _ ?_
            clear hK K))
      refine Grow.walk_step (fun K hK => ?_)
      refine Grow.step_rel (by rfl) (by rfl) (fun w' hB hF => ?_) (fun v hv => ?_)
      · go_simp
        refine Grow.relUpon_enter ((neg_any ⟨an, al, ax⟩ w' HLA.out).mono ?_)
        rintro e w'' ⟨rfl, hw''⟩
        exact ⟨_, rfl, hw'', by rw [HU.out]; rfl, trivial⟩
      obtain rfl : v = _ := hv
      go_simp
      refine hK _ _ ?_
      clear hK K
      refine Grow.walk_step (fun K hK => ?_)
      refine Grow.step_rel (by rfl) (by rfl) (fun w' hB hF => ?_) (fun v hv => ?_)
      · go_simp
        refine Grow.relUpon_enter ((neg_any ⟨un, ul, ux⟩ w' (Nat.le_trans HUL.out (by decide))).mono ?_)
        rintro e w'' ⟨rfl, hw''⟩
        exact ⟨_, rfl, hw'', by rw [HNN.out]; rfl, trivial⟩
      obtain rfl : v = _ := hv
      go_simp
      refine hK _ _ ?_
      clear hK K
      repeat
        (refine Grow.walk_step (fun K hK => ?_)
         first
         | (refine Grow.step_read (by rfl) (by rfl) ext_refl ?_
            apply Exists.intro
            refine ⟨fun w hB hF => ?_, ?_⟩
            · obtain ⟨a0, a1, a2, af0, af1, af2, hp⟩ := (HA.out.ext hB).cells; obtain ⟨b0, b1, b2, bf0, bf1, bf2, hq⟩ := (HV.out.ext hB).cells; simp only at a0 a1 a2 b0 b1 b2
              go_simp
              try exact rfl
            go_simp
            refine hK _ _ ?_
            clear hK K)
         | (refine Grow.step_off (by rfl) ?_
            go_simp
            refine hK _ _ ?_
            clear hK K))
      refine Grow.walk_nil ?_
      intro w13 hB hF
      clear hF heq
      have hE13 := ext_trans hE hB
      go_wp2_with fail
      go_ret
      exact ⟨rfl, hE13⟩
  · have hq : (te == 0) = false := by simpa using hte
    obtain ⟨fA0, fA1, fA2, gA0, gA1, gA2, lA⟩ := HA.out.cells
    simp only at fA0 fA1 fA2
    obtain ⟨fT0, fT1, fT2, gT0, gT1, gT2, lT⟩ := HT.out.cells
    simp only at fT0 fT1 fT2
    go_wp2_with fail
    clear fA0 fA1 fA2 gA0 gA1 gA2 lA
    clear fT0 fT1 fT2 gT0 gT1 gT2 lT
    generalize hg : wn.heap.size = pT at *
    generalize hwm : wn.alloc (.cells #[.bool tn, .string ⟨tl.toArray⟩, .int .i64 tx] 25) = wmT at *
    clear hg hwm
    clear hq hte HDP
    obtain ⟨fA0, fA1, fA2, gA0, gA1, gA2, lA⟩ := HA.out.cells
    simp only at fA0 fA1 fA2
    go_wp2_with fail
    clear fA0 fA1 fA2 gA0 gA1 gA2 lA
    refine (sane_any ⟨an, al, ax⟩ _ HLA.out).mono ?_
    rintro e wn ⟨rfl, hw⟩
    replace HA := Lib.hid (HA.out.ext hw)
    replace hE := ext_trans hE hw
    clear hw
    cases hsa : sane ⟨an, al, ax⟩ with
    | false =>
      have HPE : Hid (printP ⟨an, al, ax⟩ = []) := Lib.hid (by unfold printP; rw [hsa]; rfl)
      clear hsa
      obtain ⟨fA0, fA1, fA2, gA0, gA1, gA2, lA⟩ := HA.out.cells
      simp only at fA0 fA1 fA2
      go_wp2_with fail
      clear fA0 fA1 fA2 gA0 gA1 gA2 lA
      refine (print_any ⟨an, al, ax⟩ _ (HTT.out.ext hE) HLA.out).mono ?_
      rintro e wn ⟨rfl, hw⟩
      replace HA := Lib.hid (HA.out.ext hw)
      replace hE := ext_trans hE hw
      clear hw
      rw [HPE.out]
      go_wp2_with fail
      go_ret
      exact ⟨rfl, hE⟩
    | true =>
      have HSA := Lib.hid hsa
      obtain ⟨hpb, hpl⟩ := print_back hsa
      have HPB := Lib.hid hpb
      have HPL : Hid ((printP ⟨an, al, ax⟩).length ≤ 140737488355328) := Lib.hid (by omega)
      clear hsa hpb hpl
      obtain ⟨fA0, fA1, fA2, gA0, gA1, gA2, lA⟩ := HA.out.cells
      simp only at fA0 fA1 fA2
      go_wp2_with fail
      clear fA0 fA1 fA2 gA0 gA1 gA2 lA
      refine (print_any ⟨an, al, ax⟩ _ (HTT.out.ext hE) HLA.out).mono ?_
      rintro e wn ⟨rfl, hw⟩
      replace HA := Lib.hid (HA.out.ext hw)
      replace hE := ext_trans hE hw
      clear hw
      go_wp2_with fail
      refine (parse_any _ _ HPL.out).mono ?_
      rintro e wn ⟨rfl, hw⟩
      replace HA := Lib.hid (HA.out.ext hw)
      replace hE := ext_trans hE hw
      clear hw
      rw [HPB.out]
      simp only
      have HV0 := NumAt.new wn ⟨an, al, ax⟩
      have hx := ext_newnum wn ⟨an, al, ax⟩
      simp only at HV0 hx
      replace HA := Lib.hid (HA.out.ext hx)
      replace hE := ext_trans hE hx
      have HV := Lib.hid HV0
      clear hx HV0
      go_wp2_with fail
      generalize hg : wn.heap.size = pV at *
      generalize hwm : wn.alloc (.cells #[.bool an, .string ⟨al.toArray⟩, .int .i64 ax] 25) = wmV at *
      clear hg hwm
      have heq := fun w => eql_same ⟨an, al, ax⟩ w
      simp only at heq
      have HNN := Lib.hid (negP_neg HSA.out)
      obtain ⟨U, hU⟩ : ∃ U, negP ⟨an, al, ax⟩ = U := ⟨_, rfl⟩
      have HUL := Lib.hid (sane_len (negP_sane HSA.out))
      rw [hU] at HNN HUL
      have HU := Lib.hid hU
      clear hU
      obtain ⟨un, ul, ux⟩ := U
      simp only at HUL
      refine Grow.wp_region_lit (G := Ext) (B := fun w' => Ext wmV w') (anc := fun _ => []) (I := fun j => if j = 12 then some (Grow.Spec.val Ext (.agg #[.bool un, .string ⟨ul.toArray⟩, .int .i64 ux])) else if j = 13 then some (Grow.Spec.val Ext (.agg #[.bool an, .string ⟨al.toArray⟩, .int .i64 ax])) else none) (by kernel_rfl) (by kernel_rfl) (by kernel_rfl) ?_ ?_ ?_
      · exact fun w w' h hg => ext_trans h hg
      · exact (ext_refl _).drew
      repeat
        (refine Grow.walk_step (fun K hK => ?_)
         first
         | (refine Grow.step_read (by rfl) (by rfl) ext_refl ?_
            apply Exists.intro
            refine ⟨fun w hB hF => ?_, ?_⟩
            · obtain ⟨a0, a1, a2, af0, af1, af2, hp⟩ := (HA.out.ext hB).cells; obtain ⟨b0, b1, b2, bf0, bf1, bf2, hq⟩ := (HV.out.ext hB).cells; simp only at a0 a1 a2 b0 b1 b2
              go_simp
              try exact rfl
            go_simp
            refine hK _ _ ?_
            clear hK K)
         | (refine Grow.step_off (by rfl) ?_
            go_simp
            refine hK _ _ ?_
            clear hK K))
      refine Grow.walk_step (fun K hK => ?_)
      refine Grow.step_rel (by rfl) (by rfl) (fun w' hB hF => ?_) (fun v hv => ?_)
      · go_simp
        refine Grow.relUpon_enter ((neg_any ⟨an, al, ax⟩ w' HLA.out).mono ?_)
        rintro e w'' ⟨rfl, hw''⟩
        exact ⟨_, rfl, hw'', by rw [HU.out]; rfl, trivial⟩
      obtain rfl : v = _ := hv
      go_simp
      refine hK _ _ ?_
      clear hK K
      refine Grow.walk_step (fun K hK => ?_)
      refine Grow.step_rel (by rfl) (by rfl) (fun w' hB hF => ?_) (fun v hv => ?_)
      · go_simp
        refine Grow.relUpon_enter ((neg_any ⟨un, ul, ux⟩ w' (Nat.le_trans HUL.out (by decide))).mono ?_)
        rintro e w'' ⟨rfl, hw''⟩
        exact ⟨_, rfl, hw'', by rw [HNN.out]; rfl, trivial⟩
      obtain rfl : v = _ := hv
      go_simp
      refine hK _ _ ?_
      clear hK K
      repeat
        (refine Grow.walk_step (fun K hK => ?_)
         first
         | (refine Grow.step_read (by rfl) (by rfl) ext_refl ?_
            apply Exists.intro
            refine ⟨fun w hB hF => ?_, ?_⟩
            · obtain ⟨a0, a1, a2, af0, af1, af2, hp⟩ := (HA.out.ext hB).cells; obtain ⟨b0, b1, b2, bf0, bf1, bf2, hq⟩ := (HV.out.ext hB).cells; simp only at a0 a1 a2 b0 b1 b2
              go_simp
              try exact rfl
            go_simp
            refine hK _ _ ?_
            clear hK K)
         | (refine Grow.step_off (by rfl) ?_
            go_simp
            refine hK _ _ ?_
            clear hK K))
      refine Grow.walk_nil ?_
      intro w13 hB hF
      clear hF heq
      have hE13 := ext_trans hE hB
      go_wp2_with fail
      go_ret
      exact ⟨rfl, hE13⟩
set_option linter.unusedSimpArgs false
theorem own : ownKnob Tryd.prog.godebug = none := by kernel_rfl
theorem laid : laidOutB Tryd.prog = true := by kernel_rfl
set_option maxHeartbeats 1600000 in
set_option maxRecDepth 100000 in
theorem lifted (os : Os) (started : os.Started) (H : Type) (enc : TypeId × Value → H) :
    ReturnsInHanded {} Tryd.checked os 4 .any (fun w args => (Rows.decBackSpec.pre enc Tryd.prog Tryd.f4 [] false w args ∧ laidMetH Tryd.prog Rows.decBackRow.laid w) ∧ sizedMet enc Tryd.prog Tryd.f4 (OpenSpec.ofChange Rows.decBackSpec) false w args) (Rows.decBackSpec.post enc Tryd.prog Tryd.f4 false true false false) := by
  refine returnsInHanded_of_change_and (C := Tryd.checked) (X := fun w _ => laidMetH Tryd.prog Rows.decBackRow.laid w) (fun _ _ _ hh h => h.of_heap hh) own started (by kernel_rfl) Tryd.func4
    (ChangeSpec.witness_shaped (enc := enc) (C := Tryd.checked) (os := os) (X := fun w _ => laidMetH Tryd.prog Rows.decBackRow.laid w) false (World.laidAll Tryd.prog os Rows.decBackRow.laid) #[.agg #[.bool false, .string ⟨#[]⟩, .int .i64 0], .string ⟨#[]⟩] 8 (World.laidAll_os _ _ _)
      (World.shaped_of_ZipB (by kernel_rfl) (by kernel_rfl)) (by kernel_rfl) (by kernel_rfl) (by kernel_rfl)
      (by rw [MakeChecks.laidMetH_plain _ _ _ (by kernel_rfl)]; exact laidMet_laidAll _ (by kernel_rfl) (by kernel_rfl))) ?_
  intro W base args ds gs before hval0 hW _ hsz0 hX _
  have hT : Tab W := tab_of hX
  have hsz : (DataW.weightsEach Tryd.prog (Tryd.f4.params.toList ++ Rows.decBackSpec.plain.varTypes Tryd.prog) (ds ++ gs)).all (· ≤ reachBytes) = true := hsz0
  clear hsz0
  have hval : ∀ (j : Nat) t v, Tryd.f4.params[j]? = some t → args[j]? = some v → Value.okWide Tryd.prog W .any base t v := hval0
  have hW' := hW
  obtain ⟨p, q, hA0, hV, rfl, _, _⟩ := hW
  have hA : DataW.TrodAll enc Tryd.prog W 0 (fun _ => true) true Tryd.f4.params.toList args.toList ds p := hA0
  rw [Tryd.params4] at hA hval hsz
  obtain ⟨v0, vs0, d0, ds0, p0, q0, ha0, rfl, rfl, h0, r0⟩ := trodAll_cons hA
  obtain ⟨v1, vs1, d1, ds1, p1, q1, ha1, rfl, rfl, h1, r1⟩ := trodAll_cons r0
  obtain ⟨hb2, rfl, rfl⟩ := trodAll_nil r1
  subst hb2
  subst ha1
  obtain rfl : args = #[v0, v1] := by cases args; simpa using ha0
  obtain ⟨rfl, rfl⟩ := trodVars_none hV
  have hk0 := h0
  obtain ⟨c00, c01, c02, y00, y01, y02, m0, rfl, rfl, rfl, hy00, hy01, hy02⟩ := Go.Joins.open_agg3 Tryd.underlying25 (by kernel_rfl) (by kernel_rfl) (hval 0 25 v0 rfl rfl) h0
  obtain ⟨n0, e00, rfl⟩ := DataW.trod_bool Tryd.underlying4 hy00
  obtain ⟨s0, e01, rfl, _⟩ := DataW.trod_string Tryd.underlying9 hy01
  obtain ⟨x0, e02, rfl, wf0⟩ := DataW.trod_int Tryd.underlying3 hy02
  simp only [List.cons.injEq, and_true] at e00 e01 e02
  subst e00 e01 e02
  obtain ⟨l0, rfl⟩ : ∃ l : List UInt8, s0 = ⟨l.toArray⟩ := ⟨s0.data.toList, by cases s0; simp⟩
  have hs0 : l0.length ≤ 140737488351232 := sized_dec hsz (j := 0) Tryd.underlying25 rfl rfl
  have hr0 : -9223372036854775808 ≤ x0 ∧ x0 ≤ 9223372036854775807 := by simpa [Lit.wf, IntKind.min, IntKind.max, IntKind.signed, IntKind.bits] using wf0
  have hk1 := h1
  obtain ⟨a1, rfl, rfl, rfl, _⟩ := Go.ChangeMaps.open_string Tryd.underlying9 (hval 1 9 v1 rfl rfl) h1
  have hs1 : a1.size ≤ 140737488351232 := by have := sized_string hsz (j := 1) rfl rfl; simpa [reachBytes] using this
  have hlt := fun x hx => hW'.lt x hx
  simp only [List.append_nil, List.nil_append] at hW' hlt
  refine (walk ⟨n0, l0, x0⟩ hs0 hr0.1 hr0.2 a1 hs1 W hT ).mono fun e W' ⟨he, hb⟩ => ?_
  subst he
  have hargs := (trodAll_cons_mk (Below.trod laid (by kernel_rfl) (of_decide_eq_true (by kernel_rfl)) hk0 hb (fun x hx => by first | exact hlt x hx | exact absurd hx (List.not_mem_nil) | exact hlt x (by simp [hx]))) (trodAll_cons_mk (Below.trod laid (by kernel_rfl) (of_decide_eq_true (by kernel_rfl)) hk1 hb (fun x hx => by first | exact hlt x hx | exact absurd hx (List.not_mem_nil) | exact hlt x (by simp [hx]))) trodAll_mk0))
  exact ⟨_, rfl, _, _, _, [], _, [], hW', trodAll_cons_mk (shut_bool Tryd.underlying4 _) trodAll_mk0, hargs, rfl, hb.frame _, fun h => by cases h⟩

theorem held : Rows.DecBackSaid :=
  OpenClaim.holds_of_wide 4 Tryd.f4 rfl rfl rfl rfl rfl rfl rfl ⟨rfl, rfl, rfl, rfl, rfl⟩ rfl rfl rfl rfl rfl (by kernel_rfl) Tryd.func4 (by kernel_rfl)
    (of_decide_eq_true (by kernel_rfl)) (by unfold Func.isWrapper; first | (rw [if_pos (by decide +kernel)]; kernel_rfl) | (rw [if_neg (by decide +kernel)]; exact ⟨rfl, rfl⟩))
    (fun os started H enc _ => lifted os started H enc)

theorem proved : Rows.DecBackCardSaid :=
  Claim7.holds_tied_plain_at .later [] Rows.decBackCard.laidKinds true Rows.decBackCard.stood.harness false held (fun _ h => by cases h) (by kernel_rfl) (fun _ h => by cases h) decBack_row_tie rfl ⟨rfl, rfl⟩ (by kernel_rfl) rfl
    (fun f fn hf hfn => by
      obtain rfl : f = 4 := Option.some.inj ((show Tryd.prog.funcNamed "orangery/orangerylaw02.DecBack" = some 4 by kernel_rfl).symm.trans hf) |>.symm
      obtain rfl : fn = Tryd.f4 := (Option.some.inj (Tryd.func4.symm.trans hfn)).symm
      exact ⟨by kernel_rfl, fun j t ht => by
        rw [Tryd.params4] at ht
        have hm : t ∈ [25, 9] := by simpa using Array.mem_of_getElem? ht
        have hall : ([25, 9].all fun u => !Tryd.prog.wantsStandIn u) = true := by kernel_rfl
        exact (show Tryd.prog.wantsStandIn t = false by simpa using List.all_eq_true.1 hall t hm)⟩)
    (by kernel_rfl)
end Go.Proofs.YtpheohgceepboaaDoor.decBack
