/- Several texts of this proof in one. -/
import Derived.Test.YtjapbjmeoaagmaaGreatDoorQPrintW2
import Derived.Test.YtjapbjmeoaagmaaGreatDoorEPrintWPaA
import Derived.Test.YtjapbjmeoaagmaaGreatDoorEPrintWWBldS
import Derived.Test.YtjapbjmeoaagmaaGreatDoorEPrintWApp
import Derived.Test.YtjapbjmeoaagmaaGreatDoorQPrintW1
import Derived.Lib.SlBytesConst
import Derived.Maps.OwnSet
import Derived.Maps.RangeWalk
import Derived.Sort.MapsRangeIn
import Derived.Test.YtjapbjmeoaagmaaGreatDoorRows
import Derived.SizedLaws
import Derived.LaidMore
import Derived.MakeChecks
import Derived.Lib.LaidTab
import Derived.Stop.LaidErr
import Derived.Lib.SmallJoins
import Derived.JoinedOf
import Derived.Test.YtjapbjmeoaagmaaGreatDoorChecked
section
set_option linter.unusedVariables false
set_option linter.unusedSimpArgs false
set_option maxRecDepth 100000
namespace Go.Proofs.YtjapbjmeoaagmaaGreatDoor
open Go.RowKit Go.Mem Orange
set_option maxHeartbeats 12800000 in
theorem sym_c (D : Nat) (ih : SymOk D) (g cap n : Nat) (f : Nat → MC) (a m b : Nat) (w : World) (hD : b - a < D + 1) (h : RowS w g cap n f) (ham : a < m) (hmb : m < b) (hb : b ≤ n) (hn : n ≤ 1000000) (h1 : SOn ltK a m f) (h2 : SOn ltK m b f) (hma : ¬ m = a + 1) (hbm : ¬ b = m + 1) (hmm : (a + b) / 2 < m) :
    Calls Tryz.prog 110 #[.slice (some ⟨g, 0, none⟩) n cap, .int .i64 a, .int .i64 m, .int .i64 b, .func (.func 70) #[] #[]] w (fun e w' => e = .returned (.tuple #[]) ∧ ∃ f', RowS w' g cap n f' ∧ Sw a b f f' ∧ SOn ltK a b f' ∧ KeptP g w w') := by
  have H := Lib.hid h
  have H1 := Lib.hid h1
  have H2 := Lib.hid h2
  have IH := Lib.hid ih
  clear h h1 h2 ih
  go_enter Tryz.func110, Tryz.ntmps110
  obtain ⟨da, hda⟩ : ∃ da, m - a = da := ⟨_, rfl⟩
  obtain ⟨db, hdb⟩ : ∃ db, b - m = db := ⟨_, rfl⟩
  have w1 : IntKind.i64.wrap ((m : Int) - a) = (da : Int) := by rw [IntWalk.i64_in _ (by omega)]; omega
  have w2 : IntKind.i64.wrap ((b : Int) - m) = (db : Int) := by rw [IntWalk.i64_in _ (by omega)]; omega
  have q1 : ((da : Int) == 1) = false := by simp; omega
  have q1b : ((db : Int) == 1) = false := by simp; omega
  clear hda hdb hma hbm
  obtain ⟨sa, hsa⟩ : ∃ sa, a + b = sa := ⟨_, rfl⟩
  rw [hsa] at hmm
  obtain ⟨mid, hmid⟩ : ∃ mid, sa / 2 = mid := ⟨_, rfl⟩
  rw [hmid] at hmm
  obtain ⟨nn, hnn⟩ : ∃ nn, mid + m = nn := ⟨_, rfl⟩
  obtain ⟨pp, hpp⟩ : ∃ pp, nn - 1 = pp := ⟨_, rfl⟩
  have t1 : IntKind.i64.wrap ((a : Int) + b) = (sa : Int) := by rw [IntWalk.i64_in _ (by omega)]; omega
  have t2 : (sa : Int) / 2 = (mid : Int) := by omega
  have t3 : IntKind.i64.wrap ((mid : Int) + m) = (nn : Int) := by rw [IntWalk.i64_in _ (by omega)]; omega
  have t4 : IntKind.i64.wrap ((nn : Int) - 1) = (pp : Int) := by rw [IntWalk.i64_in _ (by omega)]; omega
  have q7 : ((mid : Nat) : Int) < m := by omega
  obtain ⟨s0, hs0⟩ : ∃ s0, nn - b = s0 := ⟨_, rfl⟩
  have t5 : IntKind.i64.wrap ((nn : Int) - b) = (s0 : Int) := by rw [IntWalk.i64_in _ (by omega)]; omega
  go_wp2_with fail
  clear t1 t2 t3 t4 t5 w1 w2 q1 q1b q7
  obtain ⟨r0, hr0⟩ : ∃ r0, mid = r0 := ⟨_, rfl⟩
  go_loopw [20, 21] (fun iv jv wr => ∃ s r : Nat, iv = .int .i64 s ∧ jv = .int .i64 r ∧ s0 ≤ s ∧ s ≤ r ∧ r ≤ r0 ∧ (s = s0 ∨ ltK (f (nn - s)) (f (s - 1)) = false) ∧ (r = r0 ∨ ltK (f (nn - 1 - r)) (f r) = true) ∧ Ext w wr) (fun iv jv _ => (intOf jv).toNat - (intOf iv).toNat)
  case atStart => exact ⟨s0, r0, by first | rfl | rw [hs0], by rw [hr0], by omega, by omega, by omega, .inl rfl, .inl rfl, ext_refl _⟩
  case round =>
    have z1 := Nat.le_of_eq hs0; have z2 := Nat.le_of_eq hs0.symm
    have z3 := Nat.le_of_eq hr0; have z4 := Nat.le_of_eq hr0.symm
    have z5 := Nat.le_of_eq hnn; have z6 := Nat.le_of_eq hnn.symm
    have z7 := Nat.le_of_eq hpp; have z8 := Nat.le_of_eq hpp.symm
    have z9 := Nat.le_of_eq hmid; have z10 := Nat.le_of_eq hmid.symm
    have z11 := Nat.le_of_eq hsa; have z12 := Nat.le_of_eq hsa.symm
    clear hs0 hr0 hnn hpp hmid hsa
    obtain ⟨s, r, rfl, rfl, hi, hij, hj, hli, hlj, hx⟩ := hrel
    have HLI := Lib.hid hli
    have HLJ := Lib.hid hlj
    have HX := Lib.hid hx
    clear hli hlj hx
    by_cases hlt : s < r
    · have q2 : ((s : Nat) : Int) < r := by omega
      obtain ⟨sm, hsm⟩ : ∃ sm, s + r = sm := ⟨_, rfl⟩
      obtain ⟨c, hc⟩ : ∃ c, sm / 2 = c := ⟨_, rfl⟩
      obtain ⟨d, hd⟩ : ∃ d, nn - 1 - c = d := ⟨_, rfl⟩
      have HD := Lib.hid hd
      have s1 : IntKind.i64.wrap ((s : Int) + r) = (sm : Int) := by rw [IntWalk.i64_in _ (by omega)]; omega
      have s2 : (sm : Int) / 2 = (c : Int) := by omega
      have s3 : IntKind.i64.wrap ((c : Int) + 1) = ((c + 1 : Nat) : Int) := by rw [IntWalk.i64_in _ (by omega)]; omega
      have s4 : IntKind.i64.wrap ((pp : Int) - c) = (d : Int) := by rw [IntWalk.i64_in _ (by omega)]; omega
      have HR := Lib.hid (H.out.ext HX.out)
      obtain ⟨jkey, jk, jb, jd, js, ja1, jn1, jc1, ja2, jn2, jc2, ej, hjk, hcj⟩ := HR.out.nine (i := d) (by omega)
      obtain ⟨pkey, pk, pb, pd, ps, pa1, pn1, pc1, pa2, pn2, pc2, ep, hpk, hcp⟩ := HR.out.nine (i := c) (by omega)
      have HCJ := Lib.hid hcj
      have HCP := Lib.hid hcp
      have hlt2 : ltK (f d) (f c) = keyLess jkey pkey := by rw [ej, ep]; rfl
      have HLT := Lib.hid hlt2
      clear hcj hcp ej ep hlt2
      have hjl : ((d : Nat) : Int) < n := by omega
      have hj0 : (0 : Int) ≤ ((d : Nat) : Int) := by omega
      have hpl : ((c : Nat) : Int) < n := by omega
      have hp0 : (0 : Int) ≤ ((c : Nat) : Int) := by omega
      cases hl : keyLess jkey pkey with
      | true =>
        have q3 := cmpV_true hl
        go_upto_region 35 with fail
        refine Grow.wp_region_litW (G := Ext) (B := fun w' => Ext wr w') (anc := fun _ => []) (I := fun j => if j = 11 then some (Grow.Spec.val Ext (.int .i64 (cmpV jkey pkey))) else none) (by kernel_rfl) (by kernel_rfl) (by kernel_rfl) ?_ ?_ ?_
        · exact fun w w' h hg => ext_trans h hg
        · exact (ext_refl _).drew
        repeat
          (refine Grow.Wk.step (fun K hK => ?_)
           first
           | (refine Grow.step_read (by rfl) (by rfl) (fun w => ext_refl w) ?_
              apply Exists.intro
              refine ⟨fun w hB hF => ?_, ?_⟩
              · first | (replace hB : Ext _ w := hB; obtain ⟨x0, x1, x2, x3, x4, x5, x6, x7, x8⟩ := HCJ.out w hB; obtain ⟨y0, y1, y2, y3, y4, y5, y6, y7, y8⟩ := HCP.out w hB) | skip
                go_simp
                try exact rfl
              go_simp
              refine hK _ _ ?_
              clear hK K)
           | (refine Grow.step_off (by rfl) ?_
              go_simp
              refine hK _ _ ?_
              clear hK K))
        refine Grow.Wk.step (fun K hK => ?_)
        refine Grow.step_rel (by rfl) (by rfl) (fun w' hB hF => ?_) (fun v hv => ?_)
        · go_simp
          refine Grow.relUpon_enter ((cmp_any jkey pkey _ _ _ _ _ _ _ _ _ _ _ _ _ _ _ _ w' hjk hpk).mono ?_)
          rintro e w'' ⟨rfl, hw''⟩
          exact ⟨_, rfl, hw'', rfl, trivial⟩
        obtain rfl : v = _ := hv
        go_simp
        refine hK _ _ ?_
        clear hK K
        repeat
          (refine Grow.Wk.step (fun K hK => ?_)
           first
           | (refine Grow.step_read (by rfl) (by rfl) (fun w => ext_refl w) ?_
              apply Exists.intro
              refine ⟨fun w hB hF => ?_, ?_⟩
              · skip
                go_simp
                try exact rfl
              go_simp
              refine hK _ _ ?_
              clear hK K)
           | (refine Grow.step_off (by rfl) ?_
              go_simp
              refine hK _ _ ?_
              clear hK K))
        refine Grow.Wk.nil ?_
        intro wv hB hF
        replace hB : Ext wr wv := hB
        clear hF HCJ HCP
        have HXV := Lib.hid (ext_trans HX.out hB)
        clear hB
        have HL := Lib.hid (HLT.out.trans hl)
        clear hl HLT
        go_wp2_with fail
        go_roundw
        case rel => exact ⟨s, c, rfl, rfl, hi, by omega, by omega, HLI.out, .inr (by rw [HD.out]; exact HL.out), HXV.out⟩
        case measure => simp [intOf]; omega
      | false =>
        have q3 := cmpV_false hl
        go_upto_region 35 with fail
        refine Grow.wp_region_litW (G := Ext) (B := fun w' => Ext wr w') (anc := fun _ => []) (I := fun j => if j = 11 then some (Grow.Spec.val Ext (.int .i64 (cmpV jkey pkey))) else none) (by kernel_rfl) (by kernel_rfl) (by kernel_rfl) ?_ ?_ ?_
        · exact fun w w' h hg => ext_trans h hg
        · exact (ext_refl _).drew
        repeat
          (refine Grow.Wk.step (fun K hK => ?_)
           first
           | (refine Grow.step_read (by rfl) (by rfl) (fun w => ext_refl w) ?_
              apply Exists.intro
              refine ⟨fun w hB hF => ?_, ?_⟩
              · first | (replace hB : Ext _ w := hB; obtain ⟨x0, x1, x2, x3, x4, x5, x6, x7, x8⟩ := HCJ.out w hB; obtain ⟨y0, y1, y2, y3, y4, y5, y6, y7, y8⟩ := HCP.out w hB) | skip
                go_simp
                try exact rfl
              go_simp
              refine hK _ _ ?_
              clear hK K)
           | (refine Grow.step_off (by rfl) ?_
              go_simp
              refine hK _ _ ?_
              clear hK K))
        refine Grow.Wk.step (fun K hK => ?_)
        refine Grow.step_rel (by rfl) (by rfl) (fun w' hB hF => ?_) (fun v hv => ?_)
        · go_simp
          refine Grow.relUpon_enter ((cmp_any jkey pkey _ _ _ _ _ _ _ _ _ _ _ _ _ _ _ _ w' hjk hpk).mono ?_)
          rintro e w'' ⟨rfl, hw''⟩
          exact ⟨_, rfl, hw'', rfl, trivial⟩
        obtain rfl : v = _ := hv
        go_simp
        refine hK _ _ ?_
        clear hK K
        repeat
          (refine Grow.Wk.step (fun K hK => ?_)
           first
           | (refine Grow.step_read (by rfl) (by rfl) (fun w => ext_refl w) ?_
              apply Exists.intro
              refine ⟨fun w hB hF => ?_, ?_⟩
              · skip
                go_simp
                try exact rfl
              go_simp
              refine hK _ _ ?_
              clear hK K)
           | (refine Grow.step_off (by rfl) ?_
              go_simp
              refine hK _ _ ?_
              clear hK K))
        refine Grow.Wk.nil ?_
        intro wv hB hF
        replace hB : Ext wr wv := hB
        clear hF HCJ HCP
        have HXV := Lib.hid (ext_trans HX.out hB)
        clear hB
        have HL := Lib.hid (HLT.out.trans hl)
        clear hl HLT
        go_wp2_with fail
        go_roundw
        case rel => exact ⟨c + 1, r, by go_num, rfl, by omega, by omega, hj, .inr (by rw [show nn - (c + 1) = d by omega, Nat.add_sub_cancel]; exact HL.out), HLJ.out, HXV.out⟩
        case measure => simp [intOf]; omega
    · have q2 : ¬ ((s : Nat) : Int) < r := by omega
      obtain rfl : s = r := by omega
      have HR := Lib.hid (H.out.ext HX.out)
      obtain ⟨E, hE⟩ : ∃ E, mid + m - s = E := ⟨_, rfl⟩
      have s1 : IntKind.i64.wrap ((nn : Int) - s) = (E : Int) := by rw [IntWalk.i64_in _ (by omega)]; omega
      have hmm := merge_mid ltK_ord (s := s) (mid := mid) H1.out H2.out (by omega) (by omega) (by omega) (by omega) (by omega) (by omega)
        (by
          rcases HLI.out with h | h
          · omega
          · by_cases e : s = s0
            · omega
            · exact .inr (.inr ⟨by omega, by omega, by rw [show mid + m - s = nn - s by omega]; exact h⟩))
        (by
          rcases HLJ.out with h | h
          · omega
          · by_cases e : s = r0
            · omega
            · exact .inr (.inr ⟨by omega, by omega, by rw [show mid + m - s - 1 = nn - 1 - s by omega]; exact h⟩))
      rw [hE] at hmm
      obtain ⟨k1, k2, k3, k4, k5⟩ := hmm
      clear HLI HLJ
      by_cases hsm : s < m
      · have qs : ((s : Nat) : Int) < m := by omega
        by_cases hme : m < E
        · have qe : ((m : Nat) : Int) < E := by omega
          obtain ⟨G, hG⟩ : ∃ G, rotF f s m E = G := ⟨_, rfl⟩
          have hrot := fun cb => rotate_any g cap n f s m E cb wr HR.out hsm hme (by omega) hn
          rw [hG] at hrot k1 k2 k3 k4 k5
          have HROT := Lib.hid hrot
          have HS1 := Lib.hid k1
          have HS2 := Lib.hid k2
          have HS3 := Lib.hid k3
          have HS4 := Lib.hid k4
          have HCR := Lib.hid k5
          clear hrot k1 k2 k3 k4 k5 hG
          go_wp2_with fail
          refine (HROT.out _).mono ?_
          rintro e w7 ⟨rfl, hrg, hswg, hkg⟩
          have HRG := Lib.hid hrg
          have HSWG := Lib.hid hswg
          have HKG := Lib.hid ((KeptP.ofExt HX.out).trans hkg)
          clear hrg hswg hkg
          by_cases h3 : a < s
          · have q3 : ((a : Nat) : Int) < s := by omega
            by_cases h4 : s < mid
            · have q4 : ((s : Nat) : Int) < mid := by omega
              go_wp2_with fail
              refine (IH.out g cap n G a s mid _ (by omega) HRG.out h3 h4 (by omega) hn HS1.out HS2.out).mono ?_
              rintro e w8 ⟨rfl, F2, hr2, hsw2, hso2, hk2⟩
              have HR2 := Lib.hid hr2
              have HSW2 := Lib.hid hsw2
              have HSO2 := Lib.hid hso2
              have HK2 := Lib.hid (HKG.out.trans hk2)
              clear hr2 hsw2 hso2 hk2
              have HSA : Hid (SOn ltK mid E F2 ∧ SOn ltK E b F2) := Lib.hid ⟨HS3.out.kept HSW2.out (.inr (by omega)), HS4.out.kept HSW2.out (.inr (by omega))⟩
              by_cases h5 : mid < E
              · have q5 : ((mid : Nat) : Int) < E := by omega
                by_cases h6 : E < b
                · have q6 : ((E : Nat) : Int) < b := by omega
                  go_wp2_with fail
                  refine (IH.out g cap n F2 mid E b _ (by omega) HR2.out h5 h6 hb hn HSA.out.1 HSA.out.2).mono ?_
                  rintro e w9 ⟨rfl, F3, hr3, hsw3, hso3, hk3⟩
                  go_wp2_with fail
                  go_end0
                  refine ⟨rfl, _, hr3, ?_, ?_, HK2.out.trans hk3⟩
                  · exact (HSWG.out.mono (by omega) (by omega)).trans ((HSW2.out.mono (by omega) (by omega)).trans (Sw.mono hsw3 (by omega) (by omega)))
                  · exact (HSO2.out.kept hsw3 (.inl (by omega))).join hso3 (cross_kept HCR.out HSW2.out hsw3)
                · have q6 : ¬ ((E : Nat) : Int) < b := by omega
                  obtain rfl : E = b := by omega
                  go_wp2_with fail
                  go_end0
                  refine ⟨rfl, _, HR2.out, ?_, ?_, HK2.out⟩
                  · exact (HSWG.out.mono (by omega) (by omega)).trans ((HSW2.out.mono (by omega) (by omega)).trans (Sw.mono (Sw.refl (a := mid) (b := E) (f := F2)) (by omega) (by omega)))
                  · exact (HSO2.out.kept (Sw.refl (a := mid) (b := E) (f := F2)) (.inl (by omega))).join HSA.out.1 (cross_kept HCR.out HSW2.out (Sw.refl (a := mid) (b := E) (f := F2)))
              · have q5 : ¬ ((mid : Nat) : Int) < E := by omega
                obtain rfl : mid = E := by omega
                go_wp2_with fail
                go_end0
                refine ⟨rfl, _, HR2.out, ?_, ?_, HK2.out⟩
                · exact (HSWG.out.mono (by omega) (by omega)).trans ((HSW2.out.mono (by omega) (by omega)).trans (Sw.mono (Sw.refl (a := mid) (b := b) (f := F2)) (by omega) (by omega)))
                · exact (HSO2.out.kept (Sw.refl (a := mid) (b := b) (f := F2)) (.inl (by omega))).join HSA.out.2 (cross_kept HCR.out HSW2.out (Sw.refl (a := mid) (b := b) (f := F2)))
            · have q4 : ¬ ((s : Nat) : Int) < mid := by omega
              obtain rfl : mid = s := by omega
              obtain ⟨F2, hF2⟩ : ∃ F2, G = F2 := ⟨_, rfl⟩
              have HR2 : Hid (RowS _ g cap n F2) := Lib.hid (by rw [← hF2]; exact HRG.out)
              have HSW2 : Hid (Sw a mid G F2) := Lib.hid (by rw [← hF2]; exact .refl)
              have HSO2 : Hid (SOn ltK a mid F2) := Lib.hid (by rw [← hF2]; exact HS1.out)
              have HK2 := Lib.hid HKG.out
              have HF2 := Lib.hid hF2
              clear hF2
              have HSA : Hid (SOn ltK mid E F2 ∧ SOn ltK E b F2) := Lib.hid ⟨HS3.out.kept HSW2.out (.inr (by omega)), HS4.out.kept HSW2.out (.inr (by omega))⟩
              by_cases h5 : mid < E
              · have q5 : ((mid : Nat) : Int) < E := by omega
                by_cases h6 : E < b
                · have q6 : ((E : Nat) : Int) < b := by omega
                  go_wp2_with fail
                  refine (IH.out g cap n F2 mid E b _ (by omega) HR2.out h5 h6 hb hn HSA.out.1 HSA.out.2).mono ?_
                  rintro e w9 ⟨rfl, F3, hr3, hsw3, hso3, hk3⟩
                  go_wp2_with fail
                  go_end0
                  refine ⟨rfl, _, hr3, ?_, ?_, HK2.out.trans hk3⟩
                  · exact (HSWG.out.mono (by omega) (by omega)).trans ((HSW2.out.mono (by omega) (by omega)).trans (Sw.mono hsw3 (by omega) (by omega)))
                  · exact (HSO2.out.kept hsw3 (.inl (by omega))).join hso3 (cross_kept HCR.out HSW2.out hsw3)
                · have q6 : ¬ ((E : Nat) : Int) < b := by omega
                  obtain rfl : E = b := by omega
                  go_wp2_with fail
                  go_end0
                  refine ⟨rfl, _, HR2.out, ?_, ?_, HK2.out⟩
                  · exact (HSWG.out.mono (by omega) (by omega)).trans ((HSW2.out.mono (by omega) (by omega)).trans (Sw.mono (Sw.refl (a := mid) (b := E) (f := F2)) (by omega) (by omega)))
                  · exact (HSO2.out.kept (Sw.refl (a := mid) (b := E) (f := F2)) (.inl (by omega))).join HSA.out.1 (cross_kept HCR.out HSW2.out (Sw.refl (a := mid) (b := E) (f := F2)))
              · have q5 : ¬ ((mid : Nat) : Int) < E := by omega
                obtain rfl : mid = E := by omega
                go_wp2_with fail
                go_end0
                refine ⟨rfl, _, HR2.out, ?_, ?_, HK2.out⟩
                · exact (HSWG.out.mono (by omega) (by omega)).trans ((HSW2.out.mono (by omega) (by omega)).trans (Sw.mono (Sw.refl (a := mid) (b := b) (f := F2)) (by omega) (by omega)))
                · exact (HSO2.out.kept (Sw.refl (a := mid) (b := b) (f := F2)) (.inl (by omega))).join HSA.out.2 (cross_kept HCR.out HSW2.out (Sw.refl (a := mid) (b := b) (f := F2)))
          · have q3 : ¬ ((a : Nat) : Int) < s := by omega
            obtain rfl : a = s := by omega
            obtain ⟨F2, hF2⟩ : ∃ F2, G = F2 := ⟨_, rfl⟩
            have HR2 : Hid (RowS _ g cap n F2) := Lib.hid (by rw [← hF2]; exact HRG.out)
            have HSW2 : Hid (Sw a mid G F2) := Lib.hid (by rw [← hF2]; exact .refl)
            have HSO2 : Hid (SOn ltK a mid F2) := Lib.hid (by rw [← hF2]; exact HS2.out)
            have HK2 := Lib.hid HKG.out
            have HF2 := Lib.hid hF2
            clear hF2
            have HSA : Hid (SOn ltK mid E F2 ∧ SOn ltK E b F2) := Lib.hid ⟨HS3.out.kept HSW2.out (.inr (by omega)), HS4.out.kept HSW2.out (.inr (by omega))⟩
            by_cases h5 : mid < E
            · have q5 : ((mid : Nat) : Int) < E := by omega
              by_cases h6 : E < b
              · have q6 : ((E : Nat) : Int) < b := by omega
                go_wp2_with fail
                refine (IH.out g cap n F2 mid E b _ (by omega) HR2.out h5 h6 hb hn HSA.out.1 HSA.out.2).mono ?_
                rintro e w9 ⟨rfl, F3, hr3, hsw3, hso3, hk3⟩
                go_wp2_with fail
                go_end0
                refine ⟨rfl, _, hr3, ?_, ?_, HK2.out.trans hk3⟩
                · exact (HSWG.out.mono (by omega) (by omega)).trans ((HSW2.out.mono (by omega) (by omega)).trans (Sw.mono hsw3 (by omega) (by omega)))
                · exact (HSO2.out.kept hsw3 (.inl (by omega))).join hso3 (cross_kept HCR.out HSW2.out hsw3)
              · have q6 : ¬ ((E : Nat) : Int) < b := by omega
                obtain rfl : E = b := by omega
                go_wp2_with fail
                go_end0
                refine ⟨rfl, _, HR2.out, ?_, ?_, HK2.out⟩
                · exact (HSWG.out.mono (by omega) (by omega)).trans ((HSW2.out.mono (by omega) (by omega)).trans (Sw.mono (Sw.refl (a := mid) (b := E) (f := F2)) (by omega) (by omega)))
                · exact (HSO2.out.kept (Sw.refl (a := mid) (b := E) (f := F2)) (.inl (by omega))).join HSA.out.1 (cross_kept HCR.out HSW2.out (Sw.refl (a := mid) (b := E) (f := F2)))
            · have q5 : ¬ ((mid : Nat) : Int) < E := by omega
              obtain rfl : mid = E := by omega
              go_wp2_with fail
              go_end0
              refine ⟨rfl, _, HR2.out, ?_, ?_, HK2.out⟩
              · exact (HSWG.out.mono (by omega) (by omega)).trans ((HSW2.out.mono (by omega) (by omega)).trans (Sw.mono (Sw.refl (a := mid) (b := b) (f := F2)) (by omega) (by omega)))
              · exact (HSO2.out.kept (Sw.refl (a := mid) (b := b) (f := F2)) (.inl (by omega))).join HSA.out.2 (cross_kept HCR.out HSW2.out (Sw.refl (a := mid) (b := b) (f := F2)))
        · have qe : ¬ ((m : Nat) : Int) < E := by omega
          have hG : rotF f s m E = f := rotF_none (.inr (by omega))
          rw [hG] at k1 k2 k3 k4 k5
          have HS1 := Lib.hid k1
          have HS2 := Lib.hid k2
          have HS3 := Lib.hid k3
          have HS4 := Lib.hid k4
          have HCR := Lib.hid k5
          obtain ⟨G, hG2⟩ : ∃ G, f = G := ⟨_, rfl⟩
          rw [hG2] at HS1 HS2 HS3 HS4 HCR
          have HRG : Hid (RowS wr g cap n G) := Lib.hid (by rw [← hG2]; exact HR.out)
          have HSWG : Hid (Sw s E f G) := Lib.hid (by rw [← hG2]; exact .refl)
          have HKG : Hid (KeptP g w wr) := Lib.hid (KeptP.ofExt HX.out)
          clear k1 k2 k3 k4 k5 hG
          have HG2 := Lib.hid hG2
          clear hG2
          by_cases h3 : a < s
          · have q3 : ((a : Nat) : Int) < s := by omega
            by_cases h4 : s < mid
            · have q4 : ((s : Nat) : Int) < mid := by omega
              go_wp2_with fail
              refine (IH.out g cap n G a s mid _ (by omega) HRG.out h3 h4 (by omega) hn HS1.out HS2.out).mono ?_
              rintro e w8 ⟨rfl, F2, hr2, hsw2, hso2, hk2⟩
              have HR2 := Lib.hid hr2
              have HSW2 := Lib.hid hsw2
              have HSO2 := Lib.hid hso2
              have HK2 := Lib.hid (HKG.out.trans hk2)
              clear hr2 hsw2 hso2 hk2
              have HSA : Hid (SOn ltK mid E F2 ∧ SOn ltK E b F2) := Lib.hid ⟨HS3.out.kept HSW2.out (.inr (by omega)), HS4.out.kept HSW2.out (.inr (by omega))⟩
              by_cases h5 : mid < E
              · have q5 : ((mid : Nat) : Int) < E := by omega
                by_cases h6 : E < b
                · have q6 : ((E : Nat) : Int) < b := by omega
                  go_wp2_with fail
                  refine (IH.out g cap n F2 mid E b _ (by omega) HR2.out h5 h6 hb hn HSA.out.1 HSA.out.2).mono ?_
                  rintro e w9 ⟨rfl, F3, hr3, hsw3, hso3, hk3⟩
                  go_wp2_with fail
                  go_end0
                  refine ⟨rfl, _, hr3, ?_, ?_, HK2.out.trans hk3⟩
                  · exact (HSWG.out.mono (by omega) (by omega)).trans ((HSW2.out.mono (by omega) (by omega)).trans (Sw.mono hsw3 (by omega) (by omega)))
                  · exact (HSO2.out.kept hsw3 (.inl (by omega))).join hso3 (cross_kept HCR.out HSW2.out hsw3)
                · have q6 : ¬ ((E : Nat) : Int) < b := by omega
                  obtain rfl : E = b := by omega
                  go_wp2_with fail
                  go_end0
                  refine ⟨rfl, _, HR2.out, ?_, ?_, HK2.out⟩
                  · exact (HSWG.out.mono (by omega) (by omega)).trans ((HSW2.out.mono (by omega) (by omega)).trans (Sw.mono (Sw.refl (a := mid) (b := E) (f := F2)) (by omega) (by omega)))
                  · exact (HSO2.out.kept (Sw.refl (a := mid) (b := E) (f := F2)) (.inl (by omega))).join HSA.out.1 (cross_kept HCR.out HSW2.out (Sw.refl (a := mid) (b := E) (f := F2)))
              · have q5 : ¬ ((mid : Nat) : Int) < E := by omega
                obtain rfl : mid = E := by omega
                go_wp2_with fail
                go_end0
                refine ⟨rfl, _, HR2.out, ?_, ?_, HK2.out⟩
                · exact (HSWG.out.mono (by omega) (by omega)).trans ((HSW2.out.mono (by omega) (by omega)).trans (Sw.mono (Sw.refl (a := mid) (b := b) (f := F2)) (by omega) (by omega)))
                · exact (HSO2.out.kept (Sw.refl (a := mid) (b := b) (f := F2)) (.inl (by omega))).join HSA.out.2 (cross_kept HCR.out HSW2.out (Sw.refl (a := mid) (b := b) (f := F2)))
            · have q4 : ¬ ((s : Nat) : Int) < mid := by omega
              obtain rfl : mid = s := by omega
              obtain ⟨F2, hF2⟩ : ∃ F2, G = F2 := ⟨_, rfl⟩
              have HR2 : Hid (RowS _ g cap n F2) := Lib.hid (by rw [← hF2]; exact HRG.out)
              have HSW2 : Hid (Sw a mid G F2) := Lib.hid (by rw [← hF2]; exact .refl)
              have HSO2 : Hid (SOn ltK a mid F2) := Lib.hid (by rw [← hF2]; exact HS1.out)
              have HK2 := Lib.hid HKG.out
              have HF2 := Lib.hid hF2
              clear hF2
              have HSA : Hid (SOn ltK mid E F2 ∧ SOn ltK E b F2) := Lib.hid ⟨HS3.out.kept HSW2.out (.inr (by omega)), HS4.out.kept HSW2.out (.inr (by omega))⟩
              by_cases h5 : mid < E
              · have q5 : ((mid : Nat) : Int) < E := by omega
                by_cases h6 : E < b
                · have q6 : ((E : Nat) : Int) < b := by omega
                  go_wp2_with fail
                  refine (IH.out g cap n F2 mid E b _ (by omega) HR2.out h5 h6 hb hn HSA.out.1 HSA.out.2).mono ?_
                  rintro e w9 ⟨rfl, F3, hr3, hsw3, hso3, hk3⟩
                  go_wp2_with fail
                  go_end0
                  refine ⟨rfl, _, hr3, ?_, ?_, HK2.out.trans hk3⟩
                  · exact (HSWG.out.mono (by omega) (by omega)).trans ((HSW2.out.mono (by omega) (by omega)).trans (Sw.mono hsw3 (by omega) (by omega)))
                  · exact (HSO2.out.kept hsw3 (.inl (by omega))).join hso3 (cross_kept HCR.out HSW2.out hsw3)
                · have q6 : ¬ ((E : Nat) : Int) < b := by omega
                  obtain rfl : E = b := by omega
                  go_wp2_with fail
                  go_end0
                  refine ⟨rfl, _, HR2.out, ?_, ?_, HK2.out⟩
                  · exact (HSWG.out.mono (by omega) (by omega)).trans ((HSW2.out.mono (by omega) (by omega)).trans (Sw.mono (Sw.refl (a := mid) (b := E) (f := F2)) (by omega) (by omega)))
                  · exact (HSO2.out.kept (Sw.refl (a := mid) (b := E) (f := F2)) (.inl (by omega))).join HSA.out.1 (cross_kept HCR.out HSW2.out (Sw.refl (a := mid) (b := E) (f := F2)))
              · have q5 : ¬ ((mid : Nat) : Int) < E := by omega
                obtain rfl : mid = E := by omega
                go_wp2_with fail
                go_end0
                refine ⟨rfl, _, HR2.out, ?_, ?_, HK2.out⟩
                · exact (HSWG.out.mono (by omega) (by omega)).trans ((HSW2.out.mono (by omega) (by omega)).trans (Sw.mono (Sw.refl (a := mid) (b := b) (f := F2)) (by omega) (by omega)))
                · exact (HSO2.out.kept (Sw.refl (a := mid) (b := b) (f := F2)) (.inl (by omega))).join HSA.out.2 (cross_kept HCR.out HSW2.out (Sw.refl (a := mid) (b := b) (f := F2)))
          · have q3 : ¬ ((a : Nat) : Int) < s := by omega
            obtain rfl : a = s := by omega
            obtain ⟨F2, hF2⟩ : ∃ F2, G = F2 := ⟨_, rfl⟩
            have HR2 : Hid (RowS _ g cap n F2) := Lib.hid (by rw [← hF2]; exact HRG.out)
            have HSW2 : Hid (Sw a mid G F2) := Lib.hid (by rw [← hF2]; exact .refl)
            have HSO2 : Hid (SOn ltK a mid F2) := Lib.hid (by rw [← hF2]; exact HS2.out)
            have HK2 := Lib.hid HKG.out
            have HF2 := Lib.hid hF2
            clear hF2
            have HSA : Hid (SOn ltK mid E F2 ∧ SOn ltK E b F2) := Lib.hid ⟨HS3.out.kept HSW2.out (.inr (by omega)), HS4.out.kept HSW2.out (.inr (by omega))⟩
            by_cases h5 : mid < E
            · have q5 : ((mid : Nat) : Int) < E := by omega
              by_cases h6 : E < b
              · have q6 : ((E : Nat) : Int) < b := by omega
                go_wp2_with fail
                refine (IH.out g cap n F2 mid E b _ (by omega) HR2.out h5 h6 hb hn HSA.out.1 HSA.out.2).mono ?_
                rintro e w9 ⟨rfl, F3, hr3, hsw3, hso3, hk3⟩
                go_wp2_with fail
                go_end0
                refine ⟨rfl, _, hr3, ?_, ?_, HK2.out.trans hk3⟩
                · exact (HSWG.out.mono (by omega) (by omega)).trans ((HSW2.out.mono (by omega) (by omega)).trans (Sw.mono hsw3 (by omega) (by omega)))
                · exact (HSO2.out.kept hsw3 (.inl (by omega))).join hso3 (cross_kept HCR.out HSW2.out hsw3)
              · have q6 : ¬ ((E : Nat) : Int) < b := by omega
                obtain rfl : E = b := by omega
                go_wp2_with fail
                go_end0
                refine ⟨rfl, _, HR2.out, ?_, ?_, HK2.out⟩
                · exact (HSWG.out.mono (by omega) (by omega)).trans ((HSW2.out.mono (by omega) (by omega)).trans (Sw.mono (Sw.refl (a := mid) (b := E) (f := F2)) (by omega) (by omega)))
                · exact (HSO2.out.kept (Sw.refl (a := mid) (b := E) (f := F2)) (.inl (by omega))).join HSA.out.1 (cross_kept HCR.out HSW2.out (Sw.refl (a := mid) (b := E) (f := F2)))
            · have q5 : ¬ ((mid : Nat) : Int) < E := by omega
              obtain rfl : mid = E := by omega
              go_wp2_with fail
              go_end0
              refine ⟨rfl, _, HR2.out, ?_, ?_, HK2.out⟩
              · exact (HSWG.out.mono (by omega) (by omega)).trans ((HSW2.out.mono (by omega) (by omega)).trans (Sw.mono (Sw.refl (a := mid) (b := b) (f := F2)) (by omega) (by omega)))
              · exact (HSO2.out.kept (Sw.refl (a := mid) (b := b) (f := F2)) (.inl (by omega))).join HSA.out.2 (cross_kept HCR.out HSW2.out (Sw.refl (a := mid) (b := b) (f := F2)))
      · have qs : ¬ ((s : Nat) : Int) < m := by omega
        have hG : rotF f s m E = f := rotF_none (.inl (by omega))
        rw [hG] at k1 k2 k3 k4 k5
        have HS1 := Lib.hid k1
        have HS2 := Lib.hid k2
        have HS3 := Lib.hid k3
        have HS4 := Lib.hid k4
        have HCR := Lib.hid k5
        obtain ⟨G, hG2⟩ : ∃ G, f = G := ⟨_, rfl⟩
        rw [hG2] at HS1 HS2 HS3 HS4 HCR
        have HRG : Hid (RowS wr g cap n G) := Lib.hid (by rw [← hG2]; exact HR.out)
        have HSWG : Hid (Sw s E f G) := Lib.hid (by rw [← hG2]; exact .refl)
        have HKG : Hid (KeptP g w wr) := Lib.hid (KeptP.ofExt HX.out)
        clear k1 k2 k3 k4 k5 hG
        have HG2 := Lib.hid hG2
        clear hG2
        by_cases h3 : a < s
        · have q3 : ((a : Nat) : Int) < s := by omega
          by_cases h4 : s < mid
          · have q4 : ((s : Nat) : Int) < mid := by omega
            go_wp2_with fail
            refine (IH.out g cap n G a s mid _ (by omega) HRG.out h3 h4 (by omega) hn HS1.out HS2.out).mono ?_
            rintro e w8 ⟨rfl, F2, hr2, hsw2, hso2, hk2⟩
            have HR2 := Lib.hid hr2
            have HSW2 := Lib.hid hsw2
            have HSO2 := Lib.hid hso2
            have HK2 := Lib.hid (HKG.out.trans hk2)
            clear hr2 hsw2 hso2 hk2
            have HSA : Hid (SOn ltK mid E F2 ∧ SOn ltK E b F2) := Lib.hid ⟨HS3.out.kept HSW2.out (.inr (by omega)), HS4.out.kept HSW2.out (.inr (by omega))⟩
            by_cases h5 : mid < E
            · have q5 : ((mid : Nat) : Int) < E := by omega
              by_cases h6 : E < b
              · have q6 : ((E : Nat) : Int) < b := by omega
                go_wp2_with fail
                refine (IH.out g cap n F2 mid E b _ (by omega) HR2.out h5 h6 hb hn HSA.out.1 HSA.out.2).mono ?_
                rintro e w9 ⟨rfl, F3, hr3, hsw3, hso3, hk3⟩
                go_wp2_with fail
                go_end0
                refine ⟨rfl, _, hr3, ?_, ?_, HK2.out.trans hk3⟩
                · exact (HSWG.out.mono (by omega) (by omega)).trans ((HSW2.out.mono (by omega) (by omega)).trans (Sw.mono hsw3 (by omega) (by omega)))
                · exact (HSO2.out.kept hsw3 (.inl (by omega))).join hso3 (cross_kept HCR.out HSW2.out hsw3)
              · have q6 : ¬ ((E : Nat) : Int) < b := by omega
                obtain rfl : E = b := by omega
                go_wp2_with fail
                go_end0
                refine ⟨rfl, _, HR2.out, ?_, ?_, HK2.out⟩
                · exact (HSWG.out.mono (by omega) (by omega)).trans ((HSW2.out.mono (by omega) (by omega)).trans (Sw.mono (Sw.refl (a := mid) (b := E) (f := F2)) (by omega) (by omega)))
                · exact (HSO2.out.kept (Sw.refl (a := mid) (b := E) (f := F2)) (.inl (by omega))).join HSA.out.1 (cross_kept HCR.out HSW2.out (Sw.refl (a := mid) (b := E) (f := F2)))
            · have q5 : ¬ ((mid : Nat) : Int) < E := by omega
              obtain rfl : mid = E := by omega
              go_wp2_with fail
              go_end0
              refine ⟨rfl, _, HR2.out, ?_, ?_, HK2.out⟩
              · exact (HSWG.out.mono (by omega) (by omega)).trans ((HSW2.out.mono (by omega) (by omega)).trans (Sw.mono (Sw.refl (a := mid) (b := b) (f := F2)) (by omega) (by omega)))
              · exact (HSO2.out.kept (Sw.refl (a := mid) (b := b) (f := F2)) (.inl (by omega))).join HSA.out.2 (cross_kept HCR.out HSW2.out (Sw.refl (a := mid) (b := b) (f := F2)))
          · have q4 : ¬ ((s : Nat) : Int) < mid := by omega
            obtain rfl : mid = s := by omega
            obtain ⟨F2, hF2⟩ : ∃ F2, G = F2 := ⟨_, rfl⟩
            have HR2 : Hid (RowS _ g cap n F2) := Lib.hid (by rw [← hF2]; exact HRG.out)
            have HSW2 : Hid (Sw a mid G F2) := Lib.hid (by rw [← hF2]; exact .refl)
            have HSO2 : Hid (SOn ltK a mid F2) := Lib.hid (by rw [← hF2]; exact HS1.out)
            have HK2 := Lib.hid HKG.out
            have HF2 := Lib.hid hF2
            clear hF2
            have HSA : Hid (SOn ltK mid E F2 ∧ SOn ltK E b F2) := Lib.hid ⟨HS3.out.kept HSW2.out (.inr (by omega)), HS4.out.kept HSW2.out (.inr (by omega))⟩
            by_cases h5 : mid < E
            · have q5 : ((mid : Nat) : Int) < E := by omega
              by_cases h6 : E < b
              · have q6 : ((E : Nat) : Int) < b := by omega
                go_wp2_with fail
                refine (IH.out g cap n F2 mid E b _ (by omega) HR2.out h5 h6 hb hn HSA.out.1 HSA.out.2).mono ?_
                rintro e w9 ⟨rfl, F3, hr3, hsw3, hso3, hk3⟩
                go_wp2_with fail
                go_end0
                refine ⟨rfl, _, hr3, ?_, ?_, HK2.out.trans hk3⟩
                · exact (HSWG.out.mono (by omega) (by omega)).trans ((HSW2.out.mono (by omega) (by omega)).trans (Sw.mono hsw3 (by omega) (by omega)))
                · exact (HSO2.out.kept hsw3 (.inl (by omega))).join hso3 (cross_kept HCR.out HSW2.out hsw3)
              · have q6 : ¬ ((E : Nat) : Int) < b := by omega
                obtain rfl : E = b := by omega
                go_wp2_with fail
                go_end0
                refine ⟨rfl, _, HR2.out, ?_, ?_, HK2.out⟩
                · exact (HSWG.out.mono (by omega) (by omega)).trans ((HSW2.out.mono (by omega) (by omega)).trans (Sw.mono (Sw.refl (a := mid) (b := E) (f := F2)) (by omega) (by omega)))
                · exact (HSO2.out.kept (Sw.refl (a := mid) (b := E) (f := F2)) (.inl (by omega))).join HSA.out.1 (cross_kept HCR.out HSW2.out (Sw.refl (a := mid) (b := E) (f := F2)))
            · have q5 : ¬ ((mid : Nat) : Int) < E := by omega
              obtain rfl : mid = E := by omega
              go_wp2_with fail
              go_end0
              refine ⟨rfl, _, HR2.out, ?_, ?_, HK2.out⟩
              · exact (HSWG.out.mono (by omega) (by omega)).trans ((HSW2.out.mono (by omega) (by omega)).trans (Sw.mono (Sw.refl (a := mid) (b := b) (f := F2)) (by omega) (by omega)))
              · exact (HSO2.out.kept (Sw.refl (a := mid) (b := b) (f := F2)) (.inl (by omega))).join HSA.out.2 (cross_kept HCR.out HSW2.out (Sw.refl (a := mid) (b := b) (f := F2)))
        · have q3 : ¬ ((a : Nat) : Int) < s := by omega
          obtain rfl : a = s := by omega
          obtain ⟨F2, hF2⟩ : ∃ F2, G = F2 := ⟨_, rfl⟩
          have HR2 : Hid (RowS _ g cap n F2) := Lib.hid (by rw [← hF2]; exact HRG.out)
          have HSW2 : Hid (Sw a mid G F2) := Lib.hid (by rw [← hF2]; exact .refl)
          have HSO2 : Hid (SOn ltK a mid F2) := Lib.hid (by rw [← hF2]; exact HS2.out)
          have HK2 := Lib.hid HKG.out
          have HF2 := Lib.hid hF2
          clear hF2
          have HSA : Hid (SOn ltK mid E F2 ∧ SOn ltK E b F2) := Lib.hid ⟨HS3.out.kept HSW2.out (.inr (by omega)), HS4.out.kept HSW2.out (.inr (by omega))⟩
          by_cases h5 : mid < E
          · have q5 : ((mid : Nat) : Int) < E := by omega
            by_cases h6 : E < b
            · have q6 : ((E : Nat) : Int) < b := by omega
              go_wp2_with fail
              refine (IH.out g cap n F2 mid E b _ (by omega) HR2.out h5 h6 hb hn HSA.out.1 HSA.out.2).mono ?_
              rintro e w9 ⟨rfl, F3, hr3, hsw3, hso3, hk3⟩
              go_wp2_with fail
              go_end0
              refine ⟨rfl, _, hr3, ?_, ?_, HK2.out.trans hk3⟩
              · exact (HSWG.out.mono (by omega) (by omega)).trans ((HSW2.out.mono (by omega) (by omega)).trans (Sw.mono hsw3 (by omega) (by omega)))
              · exact (HSO2.out.kept hsw3 (.inl (by omega))).join hso3 (cross_kept HCR.out HSW2.out hsw3)
            · have q6 : ¬ ((E : Nat) : Int) < b := by omega
              obtain rfl : E = b := by omega
              go_wp2_with fail
              go_end0
              refine ⟨rfl, _, HR2.out, ?_, ?_, HK2.out⟩
              · exact (HSWG.out.mono (by omega) (by omega)).trans ((HSW2.out.mono (by omega) (by omega)).trans (Sw.mono (Sw.refl (a := mid) (b := E) (f := F2)) (by omega) (by omega)))
              · exact (HSO2.out.kept (Sw.refl (a := mid) (b := E) (f := F2)) (.inl (by omega))).join HSA.out.1 (cross_kept HCR.out HSW2.out (Sw.refl (a := mid) (b := E) (f := F2)))
          · have q5 : ¬ ((mid : Nat) : Int) < E := by omega
            obtain rfl : mid = E := by omega
            go_wp2_with fail
            go_end0
            refine ⟨rfl, _, HR2.out, ?_, ?_, HK2.out⟩
            · exact (HSWG.out.mono (by omega) (by omega)).trans ((HSW2.out.mono (by omega) (by omega)).trans (Sw.mono (Sw.refl (a := mid) (b := b) (f := F2)) (by omega) (by omega)))
            · exact (HSO2.out.kept (Sw.refl (a := mid) (b := b) (f := F2)) (.inl (by omega))).join HSA.out.2 (cross_kept HCR.out HSW2.out (Sw.refl (a := mid) (b := b) (f := F2)))
end Go.Proofs.YtjapbjmeoaagmaaGreatDoor
end

section
set_option linter.unusedVariables false
set_option linter.unusedSimpArgs false
set_option maxRecDepth 100000
namespace Go.Proofs.YtjapbjmeoaagmaaGreatDoor
open Go.RowKit Go.Mem Orange
set_option maxHeartbeats 12800000 in
theorem sym_d (D : Nat) (ih : SymOk D) (g cap n : Nat) (f : Nat → MC) (a m b : Nat) (w : World) (hD : b - a < D + 1) (h : RowS w g cap n f) (ham : a < m) (hmb : m < b) (hb : b ≤ n) (hn : n ≤ 1000000) (h1 : SOn ltK a m f) (h2 : SOn ltK m b f) (hma : ¬ m = a + 1) (hbm : ¬ b = m + 1) (hmm : ¬ (a + b) / 2 < m) :
    Calls Tryz.prog 110 #[.slice (some ⟨g, 0, none⟩) n cap, .int .i64 a, .int .i64 m, .int .i64 b, .func (.func 70) #[] #[]] w (fun e w' => e = .returned (.tuple #[]) ∧ ∃ f', RowS w' g cap n f' ∧ Sw a b f f' ∧ SOn ltK a b f' ∧ KeptP g w w') := by
  have H := Lib.hid h
  have H1 := Lib.hid h1
  have H2 := Lib.hid h2
  have IH := Lib.hid ih
  clear h h1 h2 ih
  go_enter Tryz.func110, Tryz.ntmps110
  obtain ⟨da, hda⟩ : ∃ da, m - a = da := ⟨_, rfl⟩
  obtain ⟨db, hdb⟩ : ∃ db, b - m = db := ⟨_, rfl⟩
  have w1 : IntKind.i64.wrap ((m : Int) - a) = (da : Int) := by rw [IntWalk.i64_in _ (by omega)]; omega
  have w2 : IntKind.i64.wrap ((b : Int) - m) = (db : Int) := by rw [IntWalk.i64_in _ (by omega)]; omega
  have q1 : ((da : Int) == 1) = false := by simp; omega
  have q1b : ((db : Int) == 1) = false := by simp; omega
  clear hda hdb hma hbm
  obtain ⟨sa, hsa⟩ : ∃ sa, a + b = sa := ⟨_, rfl⟩
  rw [hsa] at hmm
  obtain ⟨mid, hmid⟩ : ∃ mid, sa / 2 = mid := ⟨_, rfl⟩
  rw [hmid] at hmm
  obtain ⟨nn, hnn⟩ : ∃ nn, mid + m = nn := ⟨_, rfl⟩
  obtain ⟨pp, hpp⟩ : ∃ pp, nn - 1 = pp := ⟨_, rfl⟩
  have t1 : IntKind.i64.wrap ((a : Int) + b) = (sa : Int) := by rw [IntWalk.i64_in _ (by omega)]; omega
  have t2 : (sa : Int) / 2 = (mid : Int) := by omega
  have t3 : IntKind.i64.wrap ((mid : Int) + m) = (nn : Int) := by rw [IntWalk.i64_in _ (by omega)]; omega
  have t4 : IntKind.i64.wrap ((nn : Int) - 1) = (pp : Int) := by rw [IntWalk.i64_in _ (by omega)]; omega
  have q7 : ¬ ((mid : Nat) : Int) < m := by omega
  go_wp2_with fail
  clear t1 t2 t3 t4 w1 w2 q1 q1b q7
  obtain ⟨s0, hs0⟩ : ∃ s0, a = s0 := ⟨_, rfl⟩
  obtain ⟨r0, hr0⟩ : ∃ r0, m = r0 := ⟨_, rfl⟩
  go_loopw [20, 21] (fun iv jv wr => ∃ s r : Nat, iv = .int .i64 s ∧ jv = .int .i64 r ∧ s0 ≤ s ∧ s ≤ r ∧ r ≤ r0 ∧ (s = s0 ∨ ltK (f (nn - s)) (f (s - 1)) = false) ∧ (r = r0 ∨ ltK (f (nn - 1 - r)) (f r) = true) ∧ Ext w wr) (fun iv jv _ => (intOf jv).toNat - (intOf iv).toNat)
  case atStart => exact ⟨s0, r0, by first | rfl | rw [hs0], by rw [hr0], by omega, by omega, by omega, .inl rfl, .inl rfl, ext_refl _⟩
  case round =>
    have z1 := Nat.le_of_eq hs0; have z2 := Nat.le_of_eq hs0.symm
    have z3 := Nat.le_of_eq hr0; have z4 := Nat.le_of_eq hr0.symm
    have z5 := Nat.le_of_eq hnn; have z6 := Nat.le_of_eq hnn.symm
    have z7 := Nat.le_of_eq hpp; have z8 := Nat.le_of_eq hpp.symm
    have z9 := Nat.le_of_eq hmid; have z10 := Nat.le_of_eq hmid.symm
    have z11 := Nat.le_of_eq hsa; have z12 := Nat.le_of_eq hsa.symm
    clear hs0 hr0 hnn hpp hmid hsa
    obtain ⟨s, r, rfl, rfl, hi, hij, hj, hli, hlj, hx⟩ := hrel
    have HLI := Lib.hid hli
    have HLJ := Lib.hid hlj
    have HX := Lib.hid hx
    clear hli hlj hx
    by_cases hlt : s < r
    · have q2 : ((s : Nat) : Int) < r := by omega
      obtain ⟨sm, hsm⟩ : ∃ sm, s + r = sm := ⟨_, rfl⟩
      obtain ⟨c, hc⟩ : ∃ c, sm / 2 = c := ⟨_, rfl⟩
      obtain ⟨d, hd⟩ : ∃ d, nn - 1 - c = d := ⟨_, rfl⟩
      have HD := Lib.hid hd
      have s1 : IntKind.i64.wrap ((s : Int) + r) = (sm : Int) := by rw [IntWalk.i64_in _ (by omega)]; omega
      have s2 : (sm : Int) / 2 = (c : Int) := by omega
      have s3 : IntKind.i64.wrap ((c : Int) + 1) = ((c + 1 : Nat) : Int) := by rw [IntWalk.i64_in _ (by omega)]; omega
      have s4 : IntKind.i64.wrap ((pp : Int) - c) = (d : Int) := by rw [IntWalk.i64_in _ (by omega)]; omega
      have HR := Lib.hid (H.out.ext HX.out)
      obtain ⟨jkey, jk, jb, jd, js, ja1, jn1, jc1, ja2, jn2, jc2, ej, hjk, hcj⟩ := HR.out.nine (i := d) (by omega)
      obtain ⟨pkey, pk, pb, pd, ps, pa1, pn1, pc1, pa2, pn2, pc2, ep, hpk, hcp⟩ := HR.out.nine (i := c) (by omega)
      have HCJ := Lib.hid hcj
      have HCP := Lib.hid hcp
      have hlt2 : ltK (f d) (f c) = keyLess jkey pkey := by rw [ej, ep]; rfl
      have HLT := Lib.hid hlt2
      clear hcj hcp ej ep hlt2
      have hjl : ((d : Nat) : Int) < n := by omega
      have hj0 : (0 : Int) ≤ ((d : Nat) : Int) := by omega
      have hpl : ((c : Nat) : Int) < n := by omega
      have hp0 : (0 : Int) ≤ ((c : Nat) : Int) := by omega
      cases hl : keyLess jkey pkey with
      | true =>
        have q3 := cmpV_true hl
        go_upto_region 35 with fail
        refine Grow.wp_region_litW (G := Ext) (B := fun w' => Ext wr w') (anc := fun _ => []) (I := fun j => if j = 11 then some (Grow.Spec.val Ext (.int .i64 (cmpV jkey pkey))) else none) (by kernel_rfl) (by kernel_rfl) (by kernel_rfl) ?_ ?_ ?_
        · exact fun w w' h hg => ext_trans h hg
        · exact (ext_refl _).drew
        repeat
          (refine Grow.Wk.step (fun K hK => ?_)
           first
           | (refine Grow.step_read (by rfl) (by rfl) (fun w => ext_refl w) ?_
              apply Exists.intro
              refine ⟨fun w hB hF => ?_, ?_⟩
              · first | (replace hB : Ext _ w := hB; obtain ⟨x0, x1, x2, x3, x4, x5, x6, x7, x8⟩ := HCJ.out w hB; obtain ⟨y0, y1, y2, y3, y4, y5, y6, y7, y8⟩ := HCP.out w hB) | skip
                go_simp
                try exact rfl
              go_simp
              refine hK _ _ ?_
              clear hK K)
           | (refine Grow.step_off (by rfl) ?_
              go_simp
              refine hK _ _ ?_
              clear hK K))
        refine Grow.Wk.step (fun K hK => ?_)
        refine Grow.step_rel (by rfl) (by rfl) (fun w' hB hF => ?_) (fun v hv => ?_)
        · go_simp
          refine Grow.relUpon_enter ((cmp_any jkey pkey _ _ _ _ _ _ _ _ _ _ _ _ _ _ _ _ w' hjk hpk).mono ?_)
          rintro e w'' ⟨rfl, hw''⟩
          exact ⟨_, rfl, hw'', rfl, trivial⟩
        obtain rfl : v = _ := hv
        go_simp
        refine hK _ _ ?_
        clear hK K
        repeat
          (refine Grow.Wk.step (fun K hK => ?_)
           first
           | (refine Grow.step_read (by rfl) (by rfl) (fun w => ext_refl w) ?_
              apply Exists.intro
              refine ⟨fun w hB hF => ?_, ?_⟩
              · skip
                go_simp
                try exact rfl
              go_simp
              refine hK _ _ ?_
              clear hK K)
           | (refine Grow.step_off (by rfl) ?_
              go_simp
              refine hK _ _ ?_
              clear hK K))
        refine Grow.Wk.nil ?_
        intro wv hB hF
        replace hB : Ext wr wv := hB
        clear hF HCJ HCP
        have HXV := Lib.hid (ext_trans HX.out hB)
        clear hB
        have HL := Lib.hid (HLT.out.trans hl)
        clear hl HLT
        go_wp2_with fail
        go_roundw
        case rel => exact ⟨s, c, rfl, rfl, hi, by omega, by omega, HLI.out, .inr (by rw [HD.out]; exact HL.out), HXV.out⟩
        case measure => simp [intOf]; omega
      | false =>
        have q3 := cmpV_false hl
        go_upto_region 35 with fail
        refine Grow.wp_region_litW (G := Ext) (B := fun w' => Ext wr w') (anc := fun _ => []) (I := fun j => if j = 11 then some (Grow.Spec.val Ext (.int .i64 (cmpV jkey pkey))) else none) (by kernel_rfl) (by kernel_rfl) (by kernel_rfl) ?_ ?_ ?_
        · exact fun w w' h hg => ext_trans h hg
        · exact (ext_refl _).drew
        repeat
          (refine Grow.Wk.step (fun K hK => ?_)
           first
           | (refine Grow.step_read (by rfl) (by rfl) (fun w => ext_refl w) ?_
              apply Exists.intro
              refine ⟨fun w hB hF => ?_, ?_⟩
              · first | (replace hB : Ext _ w := hB; obtain ⟨x0, x1, x2, x3, x4, x5, x6, x7, x8⟩ := HCJ.out w hB; obtain ⟨y0, y1, y2, y3, y4, y5, y6, y7, y8⟩ := HCP.out w hB) | skip
                go_simp
                try exact rfl
              go_simp
              refine hK _ _ ?_
              clear hK K)
           | (refine Grow.step_off (by rfl) ?_
              go_simp
              refine hK _ _ ?_
              clear hK K))
        refine Grow.Wk.step (fun K hK => ?_)
        refine Grow.step_rel (by rfl) (by rfl) (fun w' hB hF => ?_) (fun v hv => ?_)
        · go_simp
          refine Grow.relUpon_enter ((cmp_any jkey pkey _ _ _ _ _ _ _ _ _ _ _ _ _ _ _ _ w' hjk hpk).mono ?_)
          rintro e w'' ⟨rfl, hw''⟩
          exact ⟨_, rfl, hw'', rfl, trivial⟩
        obtain rfl : v = _ := hv
        go_simp
        refine hK _ _ ?_
        clear hK K
        repeat
          (refine Grow.Wk.step (fun K hK => ?_)
           first
           | (refine Grow.step_read (by rfl) (by rfl) (fun w => ext_refl w) ?_
              apply Exists.intro
              refine ⟨fun w hB hF => ?_, ?_⟩
              · skip
                go_simp
                try exact rfl
              go_simp
              refine hK _ _ ?_
              clear hK K)
           | (refine Grow.step_off (by rfl) ?_
              go_simp
              refine hK _ _ ?_
              clear hK K))
        refine Grow.Wk.nil ?_
        intro wv hB hF
        replace hB : Ext wr wv := hB
        clear hF HCJ HCP
        have HXV := Lib.hid (ext_trans HX.out hB)
        clear hB
        have HL := Lib.hid (HLT.out.trans hl)
        clear hl HLT
        go_wp2_with fail
        go_roundw
        case rel => exact ⟨c + 1, r, by go_num, rfl, by omega, by omega, hj, .inr (by rw [show nn - (c + 1) = d by omega, Nat.add_sub_cancel]; exact HL.out), HLJ.out, HXV.out⟩
        case measure => simp [intOf]; omega
    · have q2 : ¬ ((s : Nat) : Int) < r := by omega
      obtain rfl : s = r := by omega
      have HR := Lib.hid (H.out.ext HX.out)
      obtain ⟨E, hE⟩ : ∃ E, mid + m - s = E := ⟨_, rfl⟩
      have s1 : IntKind.i64.wrap ((nn : Int) - s) = (E : Int) := by rw [IntWalk.i64_in _ (by omega)]; omega
      have hmm := merge_mid ltK_ord (s := s) (mid := mid) H1.out H2.out (by omega) (by omega) (by omega) (by omega) (by omega) (by omega)
        (by
          rcases HLI.out with h | h
          · omega
          · by_cases e : s = s0
            · omega
            · exact .inr (.inr ⟨by omega, by omega, by rw [show mid + m - s = nn - s by omega]; exact h⟩))
        (by
          rcases HLJ.out with h | h
          · omega
          · by_cases e : s = r0
            · omega
            · exact .inr (.inr ⟨by omega, by omega, by rw [show mid + m - s - 1 = nn - 1 - s by omega]; exact h⟩))
      rw [hE] at hmm
      obtain ⟨k1, k2, k3, k4, k5⟩ := hmm
      clear HLI HLJ
      by_cases hsm : s < m
      · have qs : ((s : Nat) : Int) < m := by omega
        by_cases hme : m < E
        · have qe : ((m : Nat) : Int) < E := by omega
          obtain ⟨G, hG⟩ : ∃ G, rotF f s m E = G := ⟨_, rfl⟩
          have hrot := fun cb => rotate_any g cap n f s m E cb wr HR.out hsm hme (by omega) hn
          rw [hG] at hrot k1 k2 k3 k4 k5
          have HROT := Lib.hid hrot
          have HS1 := Lib.hid k1
          have HS2 := Lib.hid k2
          have HS3 := Lib.hid k3
          have HS4 := Lib.hid k4
          have HCR := Lib.hid k5
          clear hrot k1 k2 k3 k4 k5 hG
          go_wp2_with fail
          refine (HROT.out _).mono ?_
          rintro e w7 ⟨rfl, hrg, hswg, hkg⟩
          have HRG := Lib.hid hrg
          have HSWG := Lib.hid hswg
          have HKG := Lib.hid ((KeptP.ofExt HX.out).trans hkg)
          clear hrg hswg hkg
          by_cases h3 : a < s
          · have q3 : ((a : Nat) : Int) < s := by omega
            by_cases h4 : s < mid
            · have q4 : ((s : Nat) : Int) < mid := by omega
              go_wp2_with fail
              refine (IH.out g cap n G a s mid _ (by omega) HRG.out h3 h4 (by omega) hn HS1.out HS2.out).mono ?_
              rintro e w8 ⟨rfl, F2, hr2, hsw2, hso2, hk2⟩
              have HR2 := Lib.hid hr2
              have HSW2 := Lib.hid hsw2
              have HSO2 := Lib.hid hso2
              have HK2 := Lib.hid (HKG.out.trans hk2)
              clear hr2 hsw2 hso2 hk2
              have HSA : Hid (SOn ltK mid E F2 ∧ SOn ltK E b F2) := Lib.hid ⟨HS3.out.kept HSW2.out (.inr (by omega)), HS4.out.kept HSW2.out (.inr (by omega))⟩
              by_cases h5 : mid < E
              · have q5 : ((mid : Nat) : Int) < E := by omega
                by_cases h6 : E < b
                · have q6 : ((E : Nat) : Int) < b := by omega
                  go_wp2_with fail
                  refine (IH.out g cap n F2 mid E b _ (by omega) HR2.out h5 h6 hb hn HSA.out.1 HSA.out.2).mono ?_
                  rintro e w9 ⟨rfl, F3, hr3, hsw3, hso3, hk3⟩
                  go_wp2_with fail
                  go_end0
                  refine ⟨rfl, _, hr3, ?_, ?_, HK2.out.trans hk3⟩
                  · exact (HSWG.out.mono (by omega) (by omega)).trans ((HSW2.out.mono (by omega) (by omega)).trans (Sw.mono hsw3 (by omega) (by omega)))
                  · exact (HSO2.out.kept hsw3 (.inl (by omega))).join hso3 (cross_kept HCR.out HSW2.out hsw3)
                · have q6 : ¬ ((E : Nat) : Int) < b := by omega
                  obtain rfl : E = b := by omega
                  go_wp2_with fail
                  go_end0
                  refine ⟨rfl, _, HR2.out, ?_, ?_, HK2.out⟩
                  · exact (HSWG.out.mono (by omega) (by omega)).trans ((HSW2.out.mono (by omega) (by omega)).trans (Sw.mono (Sw.refl (a := mid) (b := E) (f := F2)) (by omega) (by omega)))
                  · exact (HSO2.out.kept (Sw.refl (a := mid) (b := E) (f := F2)) (.inl (by omega))).join HSA.out.1 (cross_kept HCR.out HSW2.out (Sw.refl (a := mid) (b := E) (f := F2)))
              · have q5 : ¬ ((mid : Nat) : Int) < E := by omega
                obtain rfl : mid = E := by omega
                go_wp2_with fail
                go_end0
                refine ⟨rfl, _, HR2.out, ?_, ?_, HK2.out⟩
                · exact (HSWG.out.mono (by omega) (by omega)).trans ((HSW2.out.mono (by omega) (by omega)).trans (Sw.mono (Sw.refl (a := mid) (b := b) (f := F2)) (by omega) (by omega)))
                · exact (HSO2.out.kept (Sw.refl (a := mid) (b := b) (f := F2)) (.inl (by omega))).join HSA.out.2 (cross_kept HCR.out HSW2.out (Sw.refl (a := mid) (b := b) (f := F2)))
            · have q4 : ¬ ((s : Nat) : Int) < mid := by omega
              obtain rfl : mid = s := by omega
              obtain ⟨F2, hF2⟩ : ∃ F2, G = F2 := ⟨_, rfl⟩
              have HR2 : Hid (RowS _ g cap n F2) := Lib.hid (by rw [← hF2]; exact HRG.out)
              have HSW2 : Hid (Sw a mid G F2) := Lib.hid (by rw [← hF2]; exact .refl)
              have HSO2 : Hid (SOn ltK a mid F2) := Lib.hid (by rw [← hF2]; exact HS1.out)
              have HK2 := Lib.hid HKG.out
              have HF2 := Lib.hid hF2
              clear hF2
              have HSA : Hid (SOn ltK mid E F2 ∧ SOn ltK E b F2) := Lib.hid ⟨HS3.out.kept HSW2.out (.inr (by omega)), HS4.out.kept HSW2.out (.inr (by omega))⟩
              by_cases h5 : mid < E
              · have q5 : ((mid : Nat) : Int) < E := by omega
                by_cases h6 : E < b
                · have q6 : ((E : Nat) : Int) < b := by omega
                  go_wp2_with fail
                  refine (IH.out g cap n F2 mid E b _ (by omega) HR2.out h5 h6 hb hn HSA.out.1 HSA.out.2).mono ?_
                  rintro e w9 ⟨rfl, F3, hr3, hsw3, hso3, hk3⟩
                  go_wp2_with fail
                  go_end0
                  refine ⟨rfl, _, hr3, ?_, ?_, HK2.out.trans hk3⟩
                  · exact (HSWG.out.mono (by omega) (by omega)).trans ((HSW2.out.mono (by omega) (by omega)).trans (Sw.mono hsw3 (by omega) (by omega)))
                  · exact (HSO2.out.kept hsw3 (.inl (by omega))).join hso3 (cross_kept HCR.out HSW2.out hsw3)
                · have q6 : ¬ ((E : Nat) : Int) < b := by omega
                  obtain rfl : E = b := by omega
                  go_wp2_with fail
                  go_end0
                  refine ⟨rfl, _, HR2.out, ?_, ?_, HK2.out⟩
                  · exact (HSWG.out.mono (by omega) (by omega)).trans ((HSW2.out.mono (by omega) (by omega)).trans (Sw.mono (Sw.refl (a := mid) (b := E) (f := F2)) (by omega) (by omega)))
                  · exact (HSO2.out.kept (Sw.refl (a := mid) (b := E) (f := F2)) (.inl (by omega))).join HSA.out.1 (cross_kept HCR.out HSW2.out (Sw.refl (a := mid) (b := E) (f := F2)))
              · have q5 : ¬ ((mid : Nat) : Int) < E := by omega
                obtain rfl : mid = E := by omega
                go_wp2_with fail
                go_end0
                refine ⟨rfl, _, HR2.out, ?_, ?_, HK2.out⟩
                · exact (HSWG.out.mono (by omega) (by omega)).trans ((HSW2.out.mono (by omega) (by omega)).trans (Sw.mono (Sw.refl (a := mid) (b := b) (f := F2)) (by omega) (by omega)))
                · exact (HSO2.out.kept (Sw.refl (a := mid) (b := b) (f := F2)) (.inl (by omega))).join HSA.out.2 (cross_kept HCR.out HSW2.out (Sw.refl (a := mid) (b := b) (f := F2)))
          · have q3 : ¬ ((a : Nat) : Int) < s := by omega
            obtain rfl : a = s := by omega
            obtain ⟨F2, hF2⟩ : ∃ F2, G = F2 := ⟨_, rfl⟩
            have HR2 : Hid (RowS _ g cap n F2) := Lib.hid (by rw [← hF2]; exact HRG.out)
            have HSW2 : Hid (Sw a mid G F2) := Lib.hid (by rw [← hF2]; exact .refl)
            have HSO2 : Hid (SOn ltK a mid F2) := Lib.hid (by rw [← hF2]; exact HS2.out)
            have HK2 := Lib.hid HKG.out
            have HF2 := Lib.hid hF2
            clear hF2
            have HSA : Hid (SOn ltK mid E F2 ∧ SOn ltK E b F2) := Lib.hid ⟨HS3.out.kept HSW2.out (.inr (by omega)), HS4.out.kept HSW2.out (.inr (by omega))⟩
            by_cases h5 : mid < E
            · have q5 : ((mid : Nat) : Int) < E := by omega
              by_cases h6 : E < b
              · have q6 : ((E : Nat) : Int) < b := by omega
                go_wp2_with fail
                refine (IH.out g cap n F2 mid E b _ (by omega) HR2.out h5 h6 hb hn HSA.out.1 HSA.out.2).mono ?_
                rintro e w9 ⟨rfl, F3, hr3, hsw3, hso3, hk3⟩
                go_wp2_with fail
                go_end0
                refine ⟨rfl, _, hr3, ?_, ?_, HK2.out.trans hk3⟩
                · exact (HSWG.out.mono (by omega) (by omega)).trans ((HSW2.out.mono (by omega) (by omega)).trans (Sw.mono hsw3 (by omega) (by omega)))
                · exact (HSO2.out.kept hsw3 (.inl (by omega))).join hso3 (cross_kept HCR.out HSW2.out hsw3)
              · have q6 : ¬ ((E : Nat) : Int) < b := by omega
                obtain rfl : E = b := by omega
                go_wp2_with fail
                go_end0
                refine ⟨rfl, _, HR2.out, ?_, ?_, HK2.out⟩
                · exact (HSWG.out.mono (by omega) (by omega)).trans ((HSW2.out.mono (by omega) (by omega)).trans (Sw.mono (Sw.refl (a := mid) (b := E) (f := F2)) (by omega) (by omega)))
                · exact (HSO2.out.kept (Sw.refl (a := mid) (b := E) (f := F2)) (.inl (by omega))).join HSA.out.1 (cross_kept HCR.out HSW2.out (Sw.refl (a := mid) (b := E) (f := F2)))
            · have q5 : ¬ ((mid : Nat) : Int) < E := by omega
              obtain rfl : mid = E := by omega
              go_wp2_with fail
              go_end0
              refine ⟨rfl, _, HR2.out, ?_, ?_, HK2.out⟩
              · exact (HSWG.out.mono (by omega) (by omega)).trans ((HSW2.out.mono (by omega) (by omega)).trans (Sw.mono (Sw.refl (a := mid) (b := b) (f := F2)) (by omega) (by omega)))
              · exact (HSO2.out.kept (Sw.refl (a := mid) (b := b) (f := F2)) (.inl (by omega))).join HSA.out.2 (cross_kept HCR.out HSW2.out (Sw.refl (a := mid) (b := b) (f := F2)))
        · have qe : ¬ ((m : Nat) : Int) < E := by omega
          have hG : rotF f s m E = f := rotF_none (.inr (by omega))
          rw [hG] at k1 k2 k3 k4 k5
          have HS1 := Lib.hid k1
          have HS2 := Lib.hid k2
          have HS3 := Lib.hid k3
          have HS4 := Lib.hid k4
          have HCR := Lib.hid k5
          obtain ⟨G, hG2⟩ : ∃ G, f = G := ⟨_, rfl⟩
          rw [hG2] at HS1 HS2 HS3 HS4 HCR
          have HRG : Hid (RowS wr g cap n G) := Lib.hid (by rw [← hG2]; exact HR.out)
          have HSWG : Hid (Sw s E f G) := Lib.hid (by rw [← hG2]; exact .refl)
          have HKG : Hid (KeptP g w wr) := Lib.hid (KeptP.ofExt HX.out)
          clear k1 k2 k3 k4 k5 hG
          have HG2 := Lib.hid hG2
          clear hG2
          by_cases h3 : a < s
          · have q3 : ((a : Nat) : Int) < s := by omega
            by_cases h4 : s < mid
            · have q4 : ((s : Nat) : Int) < mid := by omega
              go_wp2_with fail
              refine (IH.out g cap n G a s mid _ (by omega) HRG.out h3 h4 (by omega) hn HS1.out HS2.out).mono ?_
              rintro e w8 ⟨rfl, F2, hr2, hsw2, hso2, hk2⟩
              have HR2 := Lib.hid hr2
              have HSW2 := Lib.hid hsw2
              have HSO2 := Lib.hid hso2
              have HK2 := Lib.hid (HKG.out.trans hk2)
              clear hr2 hsw2 hso2 hk2
              have HSA : Hid (SOn ltK mid E F2 ∧ SOn ltK E b F2) := Lib.hid ⟨HS3.out.kept HSW2.out (.inr (by omega)), HS4.out.kept HSW2.out (.inr (by omega))⟩
              by_cases h5 : mid < E
              · have q5 : ((mid : Nat) : Int) < E := by omega
                by_cases h6 : E < b
                · have q6 : ((E : Nat) : Int) < b := by omega
                  go_wp2_with fail
                  refine (IH.out g cap n F2 mid E b _ (by omega) HR2.out h5 h6 hb hn HSA.out.1 HSA.out.2).mono ?_
                  rintro e w9 ⟨rfl, F3, hr3, hsw3, hso3, hk3⟩
                  go_wp2_with fail
                  go_end0
                  refine ⟨rfl, _, hr3, ?_, ?_, HK2.out.trans hk3⟩
                  · exact (HSWG.out.mono (by omega) (by omega)).trans ((HSW2.out.mono (by omega) (by omega)).trans (Sw.mono hsw3 (by omega) (by omega)))
                  · exact (HSO2.out.kept hsw3 (.inl (by omega))).join hso3 (cross_kept HCR.out HSW2.out hsw3)
                · have q6 : ¬ ((E : Nat) : Int) < b := by omega
                  obtain rfl : E = b := by omega
                  go_wp2_with fail
                  go_end0
                  refine ⟨rfl, _, HR2.out, ?_, ?_, HK2.out⟩
                  · exact (HSWG.out.mono (by omega) (by omega)).trans ((HSW2.out.mono (by omega) (by omega)).trans (Sw.mono (Sw.refl (a := mid) (b := E) (f := F2)) (by omega) (by omega)))
                  · exact (HSO2.out.kept (Sw.refl (a := mid) (b := E) (f := F2)) (.inl (by omega))).join HSA.out.1 (cross_kept HCR.out HSW2.out (Sw.refl (a := mid) (b := E) (f := F2)))
              · have q5 : ¬ ((mid : Nat) : Int) < E := by omega
                obtain rfl : mid = E := by omega
                go_wp2_with fail
                go_end0
                refine ⟨rfl, _, HR2.out, ?_, ?_, HK2.out⟩
                · exact (HSWG.out.mono (by omega) (by omega)).trans ((HSW2.out.mono (by omega) (by omega)).trans (Sw.mono (Sw.refl (a := mid) (b := b) (f := F2)) (by omega) (by omega)))
                · exact (HSO2.out.kept (Sw.refl (a := mid) (b := b) (f := F2)) (.inl (by omega))).join HSA.out.2 (cross_kept HCR.out HSW2.out (Sw.refl (a := mid) (b := b) (f := F2)))
            · have q4 : ¬ ((s : Nat) : Int) < mid := by omega
              obtain rfl : mid = s := by omega
              obtain ⟨F2, hF2⟩ : ∃ F2, G = F2 := ⟨_, rfl⟩
              have HR2 : Hid (RowS _ g cap n F2) := Lib.hid (by rw [← hF2]; exact HRG.out)
              have HSW2 : Hid (Sw a mid G F2) := Lib.hid (by rw [← hF2]; exact .refl)
              have HSO2 : Hid (SOn ltK a mid F2) := Lib.hid (by rw [← hF2]; exact HS1.out)
              have HK2 := Lib.hid HKG.out
              have HF2 := Lib.hid hF2
              clear hF2
              have HSA : Hid (SOn ltK mid E F2 ∧ SOn ltK E b F2) := Lib.hid ⟨HS3.out.kept HSW2.out (.inr (by omega)), HS4.out.kept HSW2.out (.inr (by omega))⟩
              by_cases h5 : mid < E
              · have q5 : ((mid : Nat) : Int) < E := by omega
                by_cases h6 : E < b
                · have q6 : ((E : Nat) : Int) < b := by omega
                  go_wp2_with fail
                  refine (IH.out g cap n F2 mid E b _ (by omega) HR2.out h5 h6 hb hn HSA.out.1 HSA.out.2).mono ?_
                  rintro e w9 ⟨rfl, F3, hr3, hsw3, hso3, hk3⟩
                  go_wp2_with fail
                  go_end0
                  refine ⟨rfl, _, hr3, ?_, ?_, HK2.out.trans hk3⟩
                  · exact (HSWG.out.mono (by omega) (by omega)).trans ((HSW2.out.mono (by omega) (by omega)).trans (Sw.mono hsw3 (by omega) (by omega)))
                  · exact (HSO2.out.kept hsw3 (.inl (by omega))).join hso3 (cross_kept HCR.out HSW2.out hsw3)
                · have q6 : ¬ ((E : Nat) : Int) < b := by omega
                  obtain rfl : E = b := by omega
                  go_wp2_with fail
                  go_end0
                  refine ⟨rfl, _, HR2.out, ?_, ?_, HK2.out⟩
                  · exact (HSWG.out.mono (by omega) (by omega)).trans ((HSW2.out.mono (by omega) (by omega)).trans (Sw.mono (Sw.refl (a := mid) (b := E) (f := F2)) (by omega) (by omega)))
                  · exact (HSO2.out.kept (Sw.refl (a := mid) (b := E) (f := F2)) (.inl (by omega))).join HSA.out.1 (cross_kept HCR.out HSW2.out (Sw.refl (a := mid) (b := E) (f := F2)))
              · have q5 : ¬ ((mid : Nat) : Int) < E := by omega
                obtain rfl : mid = E := by omega
                go_wp2_with fail
                go_end0
                refine ⟨rfl, _, HR2.out, ?_, ?_, HK2.out⟩
                · exact (HSWG.out.mono (by omega) (by omega)).trans ((HSW2.out.mono (by omega) (by omega)).trans (Sw.mono (Sw.refl (a := mid) (b := b) (f := F2)) (by omega) (by omega)))
                · exact (HSO2.out.kept (Sw.refl (a := mid) (b := b) (f := F2)) (.inl (by omega))).join HSA.out.2 (cross_kept HCR.out HSW2.out (Sw.refl (a := mid) (b := b) (f := F2)))
          · have q3 : ¬ ((a : Nat) : Int) < s := by omega
            obtain rfl : a = s := by omega
            obtain ⟨F2, hF2⟩ : ∃ F2, G = F2 := ⟨_, rfl⟩
            have HR2 : Hid (RowS _ g cap n F2) := Lib.hid (by rw [← hF2]; exact HRG.out)
            have HSW2 : Hid (Sw a mid G F2) := Lib.hid (by rw [← hF2]; exact .refl)
            have HSO2 : Hid (SOn ltK a mid F2) := Lib.hid (by rw [← hF2]; exact HS2.out)
            have HK2 := Lib.hid HKG.out
            have HF2 := Lib.hid hF2
            clear hF2
            have HSA : Hid (SOn ltK mid E F2 ∧ SOn ltK E b F2) := Lib.hid ⟨HS3.out.kept HSW2.out (.inr (by omega)), HS4.out.kept HSW2.out (.inr (by omega))⟩
            by_cases h5 : mid < E
            · have q5 : ((mid : Nat) : Int) < E := by omega
              by_cases h6 : E < b
              · have q6 : ((E : Nat) : Int) < b := by omega
                go_wp2_with fail
                refine (IH.out g cap n F2 mid E b _ (by omega) HR2.out h5 h6 hb hn HSA.out.1 HSA.out.2).mono ?_
                rintro e w9 ⟨rfl, F3, hr3, hsw3, hso3, hk3⟩
                go_wp2_with fail
                go_end0
                refine ⟨rfl, _, hr3, ?_, ?_, HK2.out.trans hk3⟩
                · exact (HSWG.out.mono (by omega) (by omega)).trans ((HSW2.out.mono (by omega) (by omega)).trans (Sw.mono hsw3 (by omega) (by omega)))
                · exact (HSO2.out.kept hsw3 (.inl (by omega))).join hso3 (cross_kept HCR.out HSW2.out hsw3)
              · have q6 : ¬ ((E : Nat) : Int) < b := by omega
                obtain rfl : E = b := by omega
                go_wp2_with fail
                go_end0
                refine ⟨rfl, _, HR2.out, ?_, ?_, HK2.out⟩
                · exact (HSWG.out.mono (by omega) (by omega)).trans ((HSW2.out.mono (by omega) (by omega)).trans (Sw.mono (Sw.refl (a := mid) (b := E) (f := F2)) (by omega) (by omega)))
                · exact (HSO2.out.kept (Sw.refl (a := mid) (b := E) (f := F2)) (.inl (by omega))).join HSA.out.1 (cross_kept HCR.out HSW2.out (Sw.refl (a := mid) (b := E) (f := F2)))
            · have q5 : ¬ ((mid : Nat) : Int) < E := by omega
              obtain rfl : mid = E := by omega
              go_wp2_with fail
              go_end0
              refine ⟨rfl, _, HR2.out, ?_, ?_, HK2.out⟩
              · exact (HSWG.out.mono (by omega) (by omega)).trans ((HSW2.out.mono (by omega) (by omega)).trans (Sw.mono (Sw.refl (a := mid) (b := b) (f := F2)) (by omega) (by omega)))
              · exact (HSO2.out.kept (Sw.refl (a := mid) (b := b) (f := F2)) (.inl (by omega))).join HSA.out.2 (cross_kept HCR.out HSW2.out (Sw.refl (a := mid) (b := b) (f := F2)))
      · have qs : ¬ ((s : Nat) : Int) < m := by omega
        have hG : rotF f s m E = f := rotF_none (.inl (by omega))
        rw [hG] at k1 k2 k3 k4 k5
        have HS1 := Lib.hid k1
        have HS2 := Lib.hid k2
        have HS3 := Lib.hid k3
        have HS4 := Lib.hid k4
        have HCR := Lib.hid k5
        obtain ⟨G, hG2⟩ : ∃ G, f = G := ⟨_, rfl⟩
        rw [hG2] at HS1 HS2 HS3 HS4 HCR
        have HRG : Hid (RowS wr g cap n G) := Lib.hid (by rw [← hG2]; exact HR.out)
        have HSWG : Hid (Sw s E f G) := Lib.hid (by rw [← hG2]; exact .refl)
        have HKG : Hid (KeptP g w wr) := Lib.hid (KeptP.ofExt HX.out)
        clear k1 k2 k3 k4 k5 hG
        have HG2 := Lib.hid hG2
        clear hG2
        by_cases h3 : a < s
        · have q3 : ((a : Nat) : Int) < s := by omega
          by_cases h4 : s < mid
          · have q4 : ((s : Nat) : Int) < mid := by omega
            go_wp2_with fail
            refine (IH.out g cap n G a s mid _ (by omega) HRG.out h3 h4 (by omega) hn HS1.out HS2.out).mono ?_
            rintro e w8 ⟨rfl, F2, hr2, hsw2, hso2, hk2⟩
            have HR2 := Lib.hid hr2
            have HSW2 := Lib.hid hsw2
            have HSO2 := Lib.hid hso2
            have HK2 := Lib.hid (HKG.out.trans hk2)
            clear hr2 hsw2 hso2 hk2
            have HSA : Hid (SOn ltK mid E F2 ∧ SOn ltK E b F2) := Lib.hid ⟨HS3.out.kept HSW2.out (.inr (by omega)), HS4.out.kept HSW2.out (.inr (by omega))⟩
            by_cases h5 : mid < E
            · have q5 : ((mid : Nat) : Int) < E := by omega
              by_cases h6 : E < b
              · have q6 : ((E : Nat) : Int) < b := by omega
                go_wp2_with fail
                refine (IH.out g cap n F2 mid E b _ (by omega) HR2.out h5 h6 hb hn HSA.out.1 HSA.out.2).mono ?_
                rintro e w9 ⟨rfl, F3, hr3, hsw3, hso3, hk3⟩
                go_wp2_with fail
                go_end0
                refine ⟨rfl, _, hr3, ?_, ?_, HK2.out.trans hk3⟩
                · exact (HSWG.out.mono (by omega) (by omega)).trans ((HSW2.out.mono (by omega) (by omega)).trans (Sw.mono hsw3 (by omega) (by omega)))
                · exact (HSO2.out.kept hsw3 (.inl (by omega))).join hso3 (cross_kept HCR.out HSW2.out hsw3)
              · have q6 : ¬ ((E : Nat) : Int) < b := by omega
                obtain rfl : E = b := by omega
                go_wp2_with fail
                go_end0
                refine ⟨rfl, _, HR2.out, ?_, ?_, HK2.out⟩
                · exact (HSWG.out.mono (by omega) (by omega)).trans ((HSW2.out.mono (by omega) (by omega)).trans (Sw.mono (Sw.refl (a := mid) (b := E) (f := F2)) (by omega) (by omega)))
                · exact (HSO2.out.kept (Sw.refl (a := mid) (b := E) (f := F2)) (.inl (by omega))).join HSA.out.1 (cross_kept HCR.out HSW2.out (Sw.refl (a := mid) (b := E) (f := F2)))
            · have q5 : ¬ ((mid : Nat) : Int) < E := by omega
              obtain rfl : mid = E := by omega
              go_wp2_with fail
              go_end0
              refine ⟨rfl, _, HR2.out, ?_, ?_, HK2.out⟩
              · exact (HSWG.out.mono (by omega) (by omega)).trans ((HSW2.out.mono (by omega) (by omega)).trans (Sw.mono (Sw.refl (a := mid) (b := b) (f := F2)) (by omega) (by omega)))
              · exact (HSO2.out.kept (Sw.refl (a := mid) (b := b) (f := F2)) (.inl (by omega))).join HSA.out.2 (cross_kept HCR.out HSW2.out (Sw.refl (a := mid) (b := b) (f := F2)))
          · have q4 : ¬ ((s : Nat) : Int) < mid := by omega
            obtain rfl : mid = s := by omega
            obtain ⟨F2, hF2⟩ : ∃ F2, G = F2 := ⟨_, rfl⟩
            have HR2 : Hid (RowS _ g cap n F2) := Lib.hid (by rw [← hF2]; exact HRG.out)
            have HSW2 : Hid (Sw a mid G F2) := Lib.hid (by rw [← hF2]; exact .refl)
            have HSO2 : Hid (SOn ltK a mid F2) := Lib.hid (by rw [← hF2]; exact HS1.out)
            have HK2 := Lib.hid HKG.out
            have HF2 := Lib.hid hF2
            clear hF2
            have HSA : Hid (SOn ltK mid E F2 ∧ SOn ltK E b F2) := Lib.hid ⟨HS3.out.kept HSW2.out (.inr (by omega)), HS4.out.kept HSW2.out (.inr (by omega))⟩
            by_cases h5 : mid < E
            · have q5 : ((mid : Nat) : Int) < E := by omega
              by_cases h6 : E < b
              · have q6 : ((E : Nat) : Int) < b := by omega
                go_wp2_with fail
                refine (IH.out g cap n F2 mid E b _ (by omega) HR2.out h5 h6 hb hn HSA.out.1 HSA.out.2).mono ?_
                rintro e w9 ⟨rfl, F3, hr3, hsw3, hso3, hk3⟩
                go_wp2_with fail
                go_end0
                refine ⟨rfl, _, hr3, ?_, ?_, HK2.out.trans hk3⟩
                · exact (HSWG.out.mono (by omega) (by omega)).trans ((HSW2.out.mono (by omega) (by omega)).trans (Sw.mono hsw3 (by omega) (by omega)))
                · exact (HSO2.out.kept hsw3 (.inl (by omega))).join hso3 (cross_kept HCR.out HSW2.out hsw3)
              · have q6 : ¬ ((E : Nat) : Int) < b := by omega
                obtain rfl : E = b := by omega
                go_wp2_with fail
                go_end0
                refine ⟨rfl, _, HR2.out, ?_, ?_, HK2.out⟩
                · exact (HSWG.out.mono (by omega) (by omega)).trans ((HSW2.out.mono (by omega) (by omega)).trans (Sw.mono (Sw.refl (a := mid) (b := E) (f := F2)) (by omega) (by omega)))
                · exact (HSO2.out.kept (Sw.refl (a := mid) (b := E) (f := F2)) (.inl (by omega))).join HSA.out.1 (cross_kept HCR.out HSW2.out (Sw.refl (a := mid) (b := E) (f := F2)))
            · have q5 : ¬ ((mid : Nat) : Int) < E := by omega
              obtain rfl : mid = E := by omega
              go_wp2_with fail
              go_end0
              refine ⟨rfl, _, HR2.out, ?_, ?_, HK2.out⟩
              · exact (HSWG.out.mono (by omega) (by omega)).trans ((HSW2.out.mono (by omega) (by omega)).trans (Sw.mono (Sw.refl (a := mid) (b := b) (f := F2)) (by omega) (by omega)))
              · exact (HSO2.out.kept (Sw.refl (a := mid) (b := b) (f := F2)) (.inl (by omega))).join HSA.out.2 (cross_kept HCR.out HSW2.out (Sw.refl (a := mid) (b := b) (f := F2)))
        · have q3 : ¬ ((a : Nat) : Int) < s := by omega
          obtain rfl : a = s := by omega
          obtain ⟨F2, hF2⟩ : ∃ F2, G = F2 := ⟨_, rfl⟩
          have HR2 : Hid (RowS _ g cap n F2) := Lib.hid (by rw [← hF2]; exact HRG.out)
          have HSW2 : Hid (Sw a mid G F2) := Lib.hid (by rw [← hF2]; exact .refl)
          have HSO2 : Hid (SOn ltK a mid F2) := Lib.hid (by rw [← hF2]; exact HS2.out)
          have HK2 := Lib.hid HKG.out
          have HF2 := Lib.hid hF2
          clear hF2
          have HSA : Hid (SOn ltK mid E F2 ∧ SOn ltK E b F2) := Lib.hid ⟨HS3.out.kept HSW2.out (.inr (by omega)), HS4.out.kept HSW2.out (.inr (by omega))⟩
          by_cases h5 : mid < E
          · have q5 : ((mid : Nat) : Int) < E := by omega
            by_cases h6 : E < b
            · have q6 : ((E : Nat) : Int) < b := by omega
              go_wp2_with fail
              refine (IH.out g cap n F2 mid E b _ (by omega) HR2.out h5 h6 hb hn HSA.out.1 HSA.out.2).mono ?_
              rintro e w9 ⟨rfl, F3, hr3, hsw3, hso3, hk3⟩
              go_wp2_with fail
              go_end0
              refine ⟨rfl, _, hr3, ?_, ?_, HK2.out.trans hk3⟩
              · exact (HSWG.out.mono (by omega) (by omega)).trans ((HSW2.out.mono (by omega) (by omega)).trans (Sw.mono hsw3 (by omega) (by omega)))
              · exact (HSO2.out.kept hsw3 (.inl (by omega))).join hso3 (cross_kept HCR.out HSW2.out hsw3)
            · have q6 : ¬ ((E : Nat) : Int) < b := by omega
              obtain rfl : E = b := by omega
              go_wp2_with fail
              go_end0
              refine ⟨rfl, _, HR2.out, ?_, ?_, HK2.out⟩
              · exact (HSWG.out.mono (by omega) (by omega)).trans ((HSW2.out.mono (by omega) (by omega)).trans (Sw.mono (Sw.refl (a := mid) (b := E) (f := F2)) (by omega) (by omega)))
              · exact (HSO2.out.kept (Sw.refl (a := mid) (b := E) (f := F2)) (.inl (by omega))).join HSA.out.1 (cross_kept HCR.out HSW2.out (Sw.refl (a := mid) (b := E) (f := F2)))
          · have q5 : ¬ ((mid : Nat) : Int) < E := by omega
            obtain rfl : mid = E := by omega
            go_wp2_with fail
            go_end0
            refine ⟨rfl, _, HR2.out, ?_, ?_, HK2.out⟩
            · exact (HSWG.out.mono (by omega) (by omega)).trans ((HSW2.out.mono (by omega) (by omega)).trans (Sw.mono (Sw.refl (a := mid) (b := b) (f := F2)) (by omega) (by omega)))
            · exact (HSO2.out.kept (Sw.refl (a := mid) (b := b) (f := F2)) (.inl (by omega))).join HSA.out.2 (cross_kept HCR.out HSW2.out (Sw.refl (a := mid) (b := b) (f := F2)))
end Go.Proofs.YtjapbjmeoaagmaaGreatDoor
end

section
namespace Go.Proofs.YtjapbjmeoaagmaaGreatDoor
open Go.RowKit Go.Mem Orange
theorem sym_step (D : Nat) (ih : SymOk D) : SymOk (D + 1) := by
  intro g cap n f a m b w hD h ham hmb hb hn h1 h2
  by_cases hma : m = a + 1
  · exact sym_a D ih g cap n f a m b w hD h ham hmb hb hn h1 h2 hma
  · by_cases hbm : b = m + 1
    · exact sym_b D ih g cap n f a m b w hD h ham hmb hb hn h1 h2 hma hbm
    · by_cases hmm : (a + b) / 2 < m
      · exact sym_c D ih g cap n f a m b w hD h ham hmb hb hn h1 h2 hma hbm hmm
      · exact sym_d D ih g cap n f a m b w hD h ham hmb hb hn h1 h2 hma hbm hmm
theorem sym_any : ∀ D, SymOk D
  | 0 => fun _ _ _ _ _ _ _ _ h => by omega
  | D + 1 => sym_step D (sym_any D)
end Go.Proofs.YtjapbjmeoaagmaaGreatDoor
end

section
set_option linter.unusedVariables false
set_option linter.unusedSimpArgs false
set_option maxRecDepth 100000
namespace Go.Proofs.YtjapbjmeoaagmaaGreatDoor
open Go.RowKit Go.Mem Orange
theorem sym_law (g cap n : Nat) (f : Nat → MC) (a m b : Nat) (w : World) (h : RowS w g cap n f) (ham : a < m) (hmb : m < b) (hb : b ≤ n) (hn : n ≤ 1000000) (h1 : SOn ltK a m f) (h2 : SOn ltK m b f) :
    Calls Tryz.prog 110 #[.slice (some ⟨g, 0, none⟩) n cap, .int .i64 a, .int .i64 m, .int .i64 b, .func (.func 70) #[] #[]] w (fun e w' => e = .returned (.tuple #[]) ∧ ∃ f', RowS w' g cap n f' ∧ Sw a b f f' ∧ SOn ltK a b f' ∧ KeptP g w w') :=
  sym_any (b - a + 1) g cap n f a m b w (by omega) h ham hmb hb hn h1 h2
set_option maxHeartbeats 6400000 in
theorem stable_any (g cap n : Nat) (f : Nat → MC) (w : World) (h : RowS w g cap n f) (hn : n ≤ 1000000) :
    Calls Tryz.prog 90 #[.slice (some ⟨g, 0, none⟩) n cap, .int .i64 n, .func (.func 70) #[] #[]] w (fun e w' => e = .returned (.tuple #[]) ∧ ∃ f', RowS w' g cap n f' ∧ Sw 0 n f f' ∧ SOn ltK 0 n f' ∧ KeptP g w w') := by
  have H := Lib.hid h
  clear h
  go_enter Tryz.func90, Tryz.ntmps90
  go_wp2_with fail
  go_loopw [7, 8] (fun av bv wr => ∃ (a b : Nat) (F : Nat → MC), av = .int .i64 a ∧ bv = .int .i64 b ∧ b ≤ a + 20 ∧ a + 20 ≤ b ∧ a ≤ n ∧ RunsTo ltK 20 F a ∧ Sw 0 n f F ∧ RowS wr g cap n F ∧ KeptP g w wr) (fun av _ _ => n + 1 - (intOf av).toNat)
  case atStart => exact ⟨0, 20, f, rfl, rfl, by omega, by omega, by omega, .zero, .refl, H.out, KeptP.refl _ _⟩
  case round =>
    obtain ⟨a, b, F, rfl, rfl, hb1, hb2, han, hrt, hsw, hr, hk⟩ := hrel
    have HRT := Lib.hid hrt
    have HSW := Lib.hid hsw
    have HR := Lib.hid hr
    have HK := Lib.hid hk
    clear hrt hsw hr hk H
    by_cases hle : b ≤ n
    · have q1 : ((b : Nat) : Int) ≤ n := by omega
      have w1 : IntKind.i64.wrap ((b : Int) + 20) = ((b + 20 : Nat) : Int) := by rw [IntWalk.i64_in _ (by omega)]; omega
      go_wp2_with fail
      refine (insSort_any g cap n F a b _ HR.out (by omega) hle hn).mono ?_
      rintro e w2 ⟨rfl, F2, hr2, hsw2, hso2, hk2⟩
      go_wp2_with fail
      go_roundw
      case rel =>
        obtain rfl : b = a + 20 := by omega
        exact ⟨a + 20, a + 20 + 20, F2, by first | rfl | go_num, by first | rfl | go_num, by omega, by omega, by omega, .step (HRT.out.kept hsw2 (Nat.le_refl _)) hso2, HSW.out.trans (hsw2.mono (by omega) (by omega)), hr2, HK.out.trans hk2⟩
      case measure => simp [intOf]; omega
    · have q1 : ¬ ((b : Nat) : Int) ≤ n := by omega
      go_wp2_with fail
      refine (insSort_any g cap n F a n _ HR.out han (Nat.le_refl _) hn).mono ?_
      rintro e w2 ⟨rfl, F2, hr2, hsw2, hso2, hk2⟩
      have HR2 := Lib.hid hr2
      have HK2 := Lib.hid (HK.out.trans hk2)
      have HSW2 := Lib.hid (HSW.out.trans (hsw2.mono (by omega) (by omega)))
      have HRUN : Hid (Runs ltK 20 n F2 0) := Lib.hid (RunsTo.le (HRT.out.kept hsw2 (Nat.le_refl _)) (.step (by rw [Nat.min_eq_right (by omega)]; exact hso2) (.done (by omega))) han)
      clear hr2 hsw2 hso2 hk2 HRT HSW HR HK
      go_wp2_with fail
      go_loopw [6] (fun sv wr => ∃ (s : Nat) (F : Nat → MC), sv = .int .i64 s ∧ 20 ≤ s ∧ s ≤ 4000000 ∧ Runs ltK s n F 0 ∧ Sw 0 n f F ∧ RowS wr g cap n F ∧ KeptP g w wr) (fun sv _ => n - (intOf sv).toNat)
      case atStart => exact ⟨20, F2, rfl, by omega, by omega, HRUN.out, HSW2.out, HR2.out, HK2.out⟩
      case round =>
        obtain ⟨s, F3, rfl, hs0, hs1, hrun, hsw, hr, hk⟩ := hrel
        have HRUN3 := Lib.hid hrun
        have HSW3 := Lib.hid hsw
        have HR3 := Lib.hid hr
        have HK3 := Lib.hid hk
        clear hrun hsw hr hk
        by_cases hlt : s < n
        · have q2 : ((s : Nat) : Int) < n := by omega
          have w2 : IntKind.i64.wrap (2 * (s : Int)) = ((2 * s : Nat) : Int) := by rw [IntWalk.i64_in _ (by omega)]; omega
          have w3 : IntKind.i64.wrap ((s : Int) * 2) = ((2 * s : Nat) : Int) := by rw [IntWalk.i64_in _ (by omega)]; omega
          go_wp2_with fail
          go_loopw [7, 8] (fun av bv wr => ∃ (a b : Nat) (F : Nat → MC), av = .int .i64 a ∧ bv = .int .i64 b ∧ b ≤ a + 2 * s ∧ a + 2 * s ≤ b ∧ a ≤ n ∧ RunsTo ltK (2 * s) F a ∧ Runs ltK s n F a ∧ Sw 0 n f F ∧ RowS wr g cap n F ∧ KeptP g w wr) (fun av _ _ => n + 1 - (intOf av).toNat)
          case atStart => exact ⟨0, 2 * s, F3, by first | rfl | go_num, by first | rfl | go_num, by omega, by omega, by omega, .zero, HRUN3.out, HSW3.out, HR3.out, HK3.out⟩
          case round =>
            obtain ⟨c, d, F4, rfl, rfl, hd1, hd2, hcn, hrt, hrun, hsw, hr, hk⟩ := hrel
            have HRT4 := Lib.hid hrt
            have HRUN4 := Lib.hid hrun
            have HSW4 := Lib.hid hsw
            have HR4 := Lib.hid hr
            have HK4 := Lib.hid hk
            clear hrt hrun hsw hr hk
            obtain ⟨m, hm⟩ : ∃ m, c + s = m := ⟨_, rfl⟩
            have w4 : IntKind.i64.wrap ((c : Int) + s) = (m : Int) := by rw [IntWalk.i64_in _ (by omega)]; omega
            have m1 := Nat.le_of_eq hm
            have m2 := Nat.le_of_eq hm.symm
            have HM := Lib.hid hm
            clear hm
            by_cases hle2 : d ≤ n
            · have q3 : ((d : Nat) : Int) ≤ n := by omega
              obtain ⟨d2, hd2e⟩ : ∃ d2, d + 2 * s = d2 := ⟨_, rfl⟩
              have w5 : IntKind.i64.wrap ((d : Int) + ((2 * s : Nat) : Int)) = (d2 : Int) := by rw [IntWalk.i64_in _ (by omega)]; omega
              have w6 : IntKind.i64.wrap ((d : Int) + (2 * (s : Int))) = (d2 : Int) := by rw [IntWalk.i64_in _ (by omega)]; omega
              have d3 := Nat.le_of_eq hd2e
              have d4 := Nat.le_of_eq hd2e.symm
              clear hd2e
              obtain ⟨r1, r2⟩ := Runs.inv HRUN4.out (by omega : c < n)
              rw [HM.out, Nat.min_eq_left (by omega)] at r1
              rw [HM.out] at r2
              obtain ⟨r3, r4⟩ := Runs.inv r2 (by omega : m < n)
              rw [show m + s = d by omega, Nat.min_eq_left (by omega)] at r3
              rw [show m + s = d by omega] at r4
              have HR1 := Lib.hid r1
              have HR3' := Lib.hid r3
              have HR4' := Lib.hid r4
              clear r1 r2 r3 r4
              go_wp2_with fail
              refine (sym_law g cap n F4 c m d _ HR4.out (by omega) (by omega) hle2 hn HR1.out HR3'.out).mono ?_
              rintro e w7 ⟨rfl, F5, hr5, hsw5, hso5, hk5⟩
              go_wp2_with fail
              go_roundw
              case rel =>
                refine ⟨d, d2, F5, by first | rfl | go_num, by first | rfl | go_num, by omega, by omega, hle2, ?_, HR4'.out.kept hsw5 (Nat.le_refl _), HSW4.out.trans (hsw5.mono (by omega) (by omega)), hr5, HK4.out.trans hk5⟩
                have := RunsTo.step (s := 2 * s) (HRT4.out.kept hsw5 (Nat.le_refl _)) (by rw [show c + 2 * s = d by omega]; exact hso5)
                rwa [show c + 2 * s = d by omega] at this
              case measure => simp [intOf]; omega
            · have q3 : ¬ ((d : Nat) : Int) ≤ n := by omega
              by_cases hmn : m < n
              · have q4 : ((m : Nat) : Int) < n := by omega
                obtain ⟨r1, r2⟩ := Runs.inv HRUN4.out (by omega : c < n)
                rw [HM.out, Nat.min_eq_left (by omega)] at r1
                rw [HM.out] at r2
                obtain ⟨r3, r4⟩ := Runs.inv r2 hmn
                rw [Nat.min_eq_right (by omega)] at r3
                have HR1 := Lib.hid r1
                have HR3' := Lib.hid r3
                clear r1 r2 r3 r4
                go_wp2_with fail
                refine (sym_law g cap n F4 c m n _ HR4.out (by omega) hmn (Nat.le_refl _) hn HR1.out HR3'.out).mono ?_
                rintro e w7 ⟨rfl, F5, hr5, hsw5, hso5, hk5⟩
                go_wp2_with fail
                go_roundw
                case rel =>
                  refine ⟨2 * s, F5, by first | rfl | go_num, by omega, by omega, ?_, HSW4.out.trans (hsw5.mono (by omega) (by omega)), hr5, HK4.out.trans hk5⟩
                  exact RunsTo.le (HRT4.out.kept hsw5 (Nat.le_refl _)) (.step (by rw [Nat.min_eq_right (by omega)]; exact hso5) (.done (by omega))) hcn
                case measure => simp [intOf]; omega
              · have q4 : ¬ ((m : Nat) : Int) < n := by omega
                go_wp2_with fail
                go_roundw
                case rel =>
                  exact ⟨2 * s, F4, by first | rfl | go_num, by omega, by omega, RunsTo.le HRT4.out (HRUN4.out.rest (by omega)) hcn, HSW4.out, HR4.out, HK4.out⟩
                case measure => simp [intOf]; omega
        · have q2 : ¬ ((s : Nat) : Int) < n := by omega
          go_wp2_with fail
          go_end0
          exact ⟨rfl, F3, HR3.out, HSW3.out, HRUN3.out.last (by omega), HK3.out⟩
theorem ins_nil (v : Value) (c : Nat) (w : World) (h : ∃ a n k, v = .slice a n k) :
    Calls Tryz.prog 109 #[v, .int .i64 0, .int .i64 0, .func (.func 70) #[] #[]] w (fun e w' => e = .returned (.tuple #[]) ∧ w' = w) := by
  obtain ⟨a, n, k, rfl⟩ := h
  go_enter Tryz.func109, Tryz.ntmps109
  go_wp2_with fail
  go_loopw [8] (fun iv wr => iv = .int .i64 1 ∧ wr = w) (fun iv _ => 0)
  case atStart => exact ⟨rfl, rfl⟩
  case round =>
    obtain ⟨rfl, rfl⟩ := hrel
    go_wp2_with fail
    go_end0
    exact ⟨rfl, rfl⟩
theorem sortM_none (w : World) :
    Calls Tryz.prog 69 #[.slice none 0 0, .func (.func 70) #[] #[]] w (fun e w' => e = .returned (.tuple #[]) ∧ w' = w) := by
  go_enter Tryz.func69, Tryz.ntmps69
  have key : Calls Tryz.prog 90 #[.slice none 0 0, .int .i64 0, .func (.func 70) #[] #[]] w (fun e w' => e = .returned (.tuple #[]) ∧ w' = w) := by
    go_enter Tryz.func90, Tryz.ntmps90
    go_wp2_with fail
    go_loopw [7, 8] (fun av bv wr => av = .int .i64 0 ∧ bv = .int .i64 20 ∧ wr = w) (fun av _ _ => 0)
    case atStart => exact ⟨rfl, rfl, rfl⟩
    case round =>
      obtain ⟨rfl, rfl, rfl⟩ := hrel
      go_wp2_with fail
      refine (ins_nil _ 0 _ ⟨_, _, _, rfl⟩).mono ?_
      rintro e w2 ⟨rfl, rfl⟩
      go_wp2_with fail
      go_loopw [6] (fun av wr => av = .int .i64 20 ∧ wr = w2) (fun av _ => 0)
      case atStart => exact ⟨rfl, rfl⟩
      case round =>
        obtain ⟨rfl, rfl⟩ := hrel
        go_wp2_with fail
        go_end0
        exact ⟨rfl, rfl⟩
  have KEY := Lib.hid key
  clear key
  go_wp2_with fail
  refine KEY.out.mono ?_
  rintro e w2 ⟨rfl, rfl⟩
  go_wp2_with fail
  go_end0
  exact ⟨rfl, rfl⟩
theorem sortS_any (g cap n : Nat) (f : Nat → MC) (w : World) (h : RowS w g cap n f) (hn : n ≤ 1000000) :
    Calls Tryz.prog 69 #[.slice (some ⟨g, 0, none⟩) n cap, .func (.func 70) #[] #[]] w (fun e w' => e = .returned (.tuple #[]) ∧ ∃ f', RowS w' g cap n f' ∧ Sw 0 n f f' ∧ SOn ltK 0 n f' ∧ KeptP g w w') := by
  have KEY := Lib.hid (stable_any g cap n f w h hn)
  clear h
  go_enter Tryz.func69, Tryz.ntmps69
  go_wp2_with fail
  refine KEY.out.mono ?_
  rintro e w2 ⟨rfl, h2⟩
  go_wp2_with fail
  go_end0
  exact ⟨rfl, h2⟩
end Go.Proofs.YtjapbjmeoaagmaaGreatDoor
end

section
set_option linter.unusedVariables false
set_option linter.unusedSimpArgs false
set_option maxRecDepth 100000
namespace Orange
theorem Sw.comp {α β : Type} {a b : Nat} {s : Nat → α} (h : α → β) {f : Nat → α} (hs : Sw a b f s) : Sw a b (fun i => h (f i)) (fun i => h (s i)) := by
  induction hs with
  | refl => exact .refl
  | @step g i j _ e1 e2 e3 e4 ih =>
    have e : (fun k => h (sw g i j k)) = sw (fun k => h (g k)) i j := by
      funext k; simp only [sw]; split
      · rfl
      · split <;> rfl
    rw [e]; exact .step ih e1 e2 e3 e4
theorem Sw.ids {α : Type} {a b : Nat} {f g : Nat → α} (h : Sw a b f g) : ∃ s : Nat → Nat, Sw a b (fun i => i) s ∧ g = fun i => f (s i) := by
  induction h with
  | refl => exact ⟨fun i => i, .refl, rfl⟩
  | @step g i j _ e1 e2 e3 e4 ih =>
    obtain ⟨s, h1, h2⟩ := ih
    refine ⟨sw s i j, .step h1 e1 e2 e3 e4, ?_⟩
    rw [h2]
    funext k; simp only [sw]; split
    · rfl
    · split <;> rfl
end Orange
namespace Go.Proofs.YtjapbjmeoaagmaaGreatDoor
open Go.RowKit Go.Mem Orange
theorem ownsRow_same {w w' : World} {base : Nat} {e : TypeId} {z n : Nat} {v : Value} {cs : List Value} (h : w.ownsRow base e z v n cs) (hk : ∀ g, v.ownBlock = some g → w'.heap[g]? = w.heap[g]?) : w'.ownsRow base e z v n cs := by
  obtain ⟨h1, h2⟩ := h
  refine ⟨h1, ?_⟩
  rcases h2 with h2 | ⟨g, cap, cur, rfl, hbg, hg, r⟩
  · exact .inl h2
  · exact .inr ⟨g, cap, cur, rfl, hbg, by rw [hk g rfl]; exact hg, r⟩
def OwL (base : Nat) (v : Value) (acc : List Tree) (w : World) : Prop :=
  ∃ cs, w.ownsRow base 27 8 v acc.length cs ∧ TL w (fun g => base ≤ g ∧ v.ownBlock ≠ some g) acc cs
def OwM (base : Nat) (v : Value) (acc : List Mem1) (w : World) : Prop :=
  ∃ cs, w.ownsRow base 43 9 v acc.length cs ∧ TM w (fun g => base ≤ g ∧ v.ownBlock ≠ some g) acc cs
theorem OwL.nil (base : Nat) (w : World) : OwL base (.slice none 0 0) [] w := ⟨[], World.ownsRow_nil _ _ _ _, .nil⟩
theorem OwM.nil (base : Nat) (w : World) : OwM base (.slice none 0 0) [] w := ⟨[], World.ownsRow_nil _ _ _ _, .nil⟩
theorem OwL.same {base : Nat} {v : Value} {acc : List Tree} {w w' : World} (h : OwL base v acc w) (hs : w.heap.size ≤ w'.heap.size) (hk : ∀ g, base ≤ g → g < w.heap.size → w'.heap[g]? = w.heap[g]?) : OwL base v acc w' := by
  obtain ⟨cs, h1, h2⟩ := h
  exact ⟨cs, ownsRow_same h1 (fun g e => hk g (h1.lt g e).1 (h1.lt g e).2), h2.keep hs (fun g hg hlt => ⟨hg, hk g hg.1 hlt⟩)⟩
theorem OwM.same {base : Nat} {v : Value} {acc : List Mem1} {w w' : World} (h : OwM base v acc w) (hs : w.heap.size ≤ w'.heap.size) (hk : ∀ g, base ≤ g → g < w.heap.size → w'.heap[g]? = w.heap[g]?) : OwM base v acc w' := by
  obtain ⟨cs, h1, h2⟩ := h
  exact ⟨cs, ownsRow_same h1 (fun g e => hk g (h1.lt g e).1 (h1.lt g e).2), h2.keep hs (fun g hg hlt => ⟨hg, hk g hg.1 hlt⟩)⟩
theorem OwL.ext {base : Nat} {v : Value} {acc : List Tree} {w w' : World} (h : OwL base v acc w) (hx : Ext w w') : OwL base v acc w' := h.same hx.size (fun g _ hg => hx.block g hg)
theorem OwM.ext {base : Nat} {v : Value} {acc : List Mem1} {w w' : World} (h : OwM base v acc w) (hx : Ext w w') : OwM base v acc w' := h.same hx.size (fun g _ hg => hx.block g hg)
theorem OwL.shape {base : Nat} {v : Value} {acc : List Tree} {w : World} (h : OwL base v acc w) : ∃ a c, v = .slice a acc.length c := by
  obtain ⟨cs, h1, h2⟩ := h
  rcases h1.2 with ⟨rfl, e⟩ | ⟨g, cap, cur, e, _⟩
  · exact ⟨none, 0, by rw [e]⟩
  · exact ⟨_, _, e⟩
theorem OwM.shape {base : Nat} {v : Value} {acc : List Mem1} {w : World} (h : OwM base v acc w) : ∃ a c, v = .slice a acc.length c := by
  obtain ⟨cs, h1, h2⟩ := h
  rcases h1.2 with ⟨rfl, e⟩ | ⟨g, cap, cur, e, _⟩
  · exact ⟨none, 0, by rw [e]⟩
  · exact ⟨_, _, e⟩
theorem OwL.push {base n : Nat} {acc : List Tree} {cs : List Value} {t : Tree} {c : Array Value} {v v' : Value} {w3 w4 : World} (hown : w3.ownsRow base 27 8 v n cs) (htl : TL w3 (fun g => base ≤ g ∧ v.ownBlock ≠ some g) acc cs) (hn : n = acc.length)
    (htv : TV w3 (fun g => base ≤ g ∧ v.ownBlock ≠ some g) t c) (hown4 : w4.ownsRow base 27 8 v' (n + 1) (cs ++ c.toList)) (hgr : w3.grownBy w4 v.ownBlock) (hor : v'.ownBlock = v.ownBlock ∨ v'.ownBlock = some w3.heap.size) : OwL base v' (acc ++ [t]) w4 := by
  subst hn
  have hk : ∀ g, base ≤ g ∧ v.ownBlock ≠ some g → g < w3.heap.size → (base ≤ g ∧ v'.ownBlock ≠ some g) ∧ w4.heap[g]? = w3.heap[g]? := fun g hg hlt =>
    ⟨⟨hg.1, fun e => by
      rcases hor with h | h
      · rw [h] at e; exact hg.2 e
      · rw [h] at e; simp only [Option.some.injEq] at e; omega⟩, hgr.block g hlt (Ne.symm hg.2)⟩
  exact ⟨_, by rw [List.length_append]; exact hown4, TL.append (htl.keep hgr.size hk) (htv.keep hgr.size hk)⟩
theorem OwM.push {base n : Nat} {acc : List Mem1} {cs : List Value} {key : List UInt8} {t : Tree} {c : Array Value} {v v' : Value} {w3 w4 : World} (hown : w3.ownsRow base 43 9 v n cs) (htl : TM w3 (fun g => base ≤ g ∧ v.ownBlock ≠ some g) acc cs) (hn : n = acc.length)
    (htv : TV w3 (fun g => base ≤ g ∧ v.ownBlock ≠ some g) t c) (hown4 : w4.ownsRow base 43 9 v' (n + 1) (cs ++ .string ⟨key.toArray⟩ :: c.toList)) (hgr : w3.grownBy w4 v.ownBlock) (hor : v'.ownBlock = v.ownBlock ∨ v'.ownBlock = some w3.heap.size) : OwM base v' (acc ++ [(key, t)]) w4 := by
  subst hn
  have hk : ∀ g, base ≤ g ∧ v.ownBlock ≠ some g → g < w3.heap.size → (base ≤ g ∧ v'.ownBlock ≠ some g) ∧ w4.heap[g]? = w3.heap[g]? := fun g hg hlt =>
    ⟨⟨hg.1, fun e => by
      rcases hor with h | h
      · rw [h] at e; exact hg.2 e
      · rw [h] at e; simp only [Option.some.injEq] at e; omega⟩, hgr.block g hlt (Ne.symm hg.2)⟩
  exact ⟨_, by rw [List.length_append]; exact hown4, TM.append (htl.keep hgr.size hk) (htv.keep hgr.size hk)⟩
section
variable {G0 G1 : World → World → Prop} {sp p B : Nat}
def specNewL (h0 : ∀ w w', G0 w w' → KeptP p w w') (h1 : ∀ w w', G1 w w' → KeptP p w w') (hp : p < B) (t : Tree) : GrowS.Spec (GrowS.gS sp G0 G1) :=
  ⟨fun v => ∃ g, v = .slice (some ⟨g, 0, none⟩) 1 1, fun v w => ∃ g c, v = .slice (some ⟨g, 0, none⟩) 1 1 ∧ B ≤ g ∧ w.heap[g]? = some (.cells c 27 (0, 0)) ∧ TV w (fun g => B ≤ g) t c, ⟨_, 0, rfl⟩,
    fun i v w w' ⟨g, c, e, hg, h, ht⟩ hG => by
      have hk : KeptP p w w' := by unfold GrowS.gS at hG; split at hG; exact h1 _ _ hG; exact h0 _ _ hG
      exact ⟨g, c, e, hg, by rw [hk.block g (Array.getElem?_eq_some_iff.1 h).1 (by omega)]; exact h, ht.kept hk hp⟩⟩
def specNewM (h0 : ∀ w w', G0 w w' → KeptP p w w') (h1 : ∀ w w', G1 w w' → KeptP p w w') (hp : p < B) (key : List UInt8) (t : Tree) : GrowS.Spec (GrowS.gS sp G0 G1) :=
  ⟨fun v => ∃ g, v = .slice (some ⟨g, 0, none⟩) 1 1, fun v w => ∃ g c, v = .slice (some ⟨g, 0, none⟩) 1 1 ∧ B ≤ g ∧ w.heap[g]? = some (.cells (.string ⟨key.toArray⟩ :: c.toList).toArray 43 (0, 0)) ∧ TV w (fun g => B ≤ g) t c, ⟨_, 0, rfl⟩,
    fun i v w w' ⟨g, c, e, hg, h, ht⟩ hG => by
      have hk : KeptP p w w' := by unfold GrowS.gS at hG; split at hG; exact h1 _ _ hG; exact h0 _ _ hG
      exact ⟨g, c, e, hg, by rw [hk.block g (Array.getElem?_eq_some_iff.1 h).1 (by omega)]; exact h, ht.kept hk hp⟩⟩
end
theorem sorted_row {w w' : World} {base g cap : Nat} {m : List Mem1} {ms : List (List Value)} {A : Nat → Prop} {f' : Nat → MC} (hm : TMc w A m ms) (hnd : (m.map (·.1)).Nodup) (hAg : ∀ b, A b → b ≠ g) (f : Nat → MC) (hf : ∀ i, (h : i < m.length) → (f i).1 = m[i].1 ∧ TV w A m[i].2 (f i).2)
    (hr : RowS w' g cap m.length f') (hsw : Sw 0 m.length f f') (hso : SOn ltK 0 m.length f') (hk : KeptP g w w') :
    (sortM m).length = m.length ∧ ∃ cs, TM w' A (sortM m) cs ∧ ∀ A' : Nat → Prop, A' g → RowAt w' A' 9 (.slice (some ⟨g, 0, none⟩) m.length cap) m.length cs := by
  obtain ⟨s, h1, rfl⟩ := hsw.ids
  have hs : ∀ i, i < m.length → s i < m.length := fun i hi => by
    obtain ⟨j, e1, e2, _⟩ := h1.any i
    rw [e1]; exact (e2 (Nat.zero_le _) hi).2
  have hsi : ∀ i j, i < m.length → j < m.length → s i = s j → i = j := by
    have hp := h1.perm (n := m.length) (Nat.le_refl _)
    have hn : (listF s m.length).Nodup := hp.nodup_iff.2 (by simpa [listF] using List.nodup_range)
    intro i j hi hj e
    have := (List.nodup_iff_pairwise_ne.1 hn)
    have h2 := List.pairwise_iff_getElem.1 this
    rcases Nat.lt_trichotomy i j with h | h | h
    · exact absurd e (by have := h2 i j (by simpa [listF] using hi) (by simpa [listF] using hj) h; simpa [listF_get] using this)
    · exact h
    · exact absurd e.symm (by have := h2 j i (by simpa [listF] using hj) (by simpa [listF] using hi) h; simpa [listF_get] using this)
  obtain ⟨m', hm'⟩ : ∃ m' : List Mem1, m' = listF (fun i => m.getD (s i) ([], tNull)) m.length := ⟨_, rfl⟩
  have hlen : m'.length = m.length := by rw [hm', listF_length]
  have hget : ∀ i, (h : i < m'.length) → m'[i] = m[s i]'(hs i (by omega)) := fun i h => by
    subst hm'
    rw [listF_get, List.getD_eq_getElem?_getD, List.getElem?_eq_getElem (hs i (by simpa [listF] using h))]; rfl
  have hperm : m'.Perm m := by
    have h2 := (Sw.comp (fun i => m.getD i ([], tNull)) h1).perm (n := m.length) (Nat.le_refl _)
    rw [← hm'] at h2
    have e : listF (fun i => m.getD i ([], tNull)) m.length = m := by
      apply List.ext_getElem
      · rw [listF_length]
      · intro i a b; rw [listF_get, List.getD_eq_getElem?_getD, List.getElem?_eq_getElem b]; rfl
    rw [e] at h2; exact h2
  have hrise : Rise m' := by
    refine List.pairwise_iff_getElem.2 (fun i j hi hj hij => ?_)
    have e := hso i j (Nat.zero_le _) hij (by omega)
    have hi' := hs i (by omega); have hj' := hs j (by omega)
    rw [hget i hi, hget j hj]
    have e2 : keyLess m[s j].1 m[s i].1 = false := by
      have : ltK (f (s j)) (f (s i)) = false := e
      unfold ltK at this
      rw [(hf _ hj').1, (hf _ hi').1] at this; exact this
    refine keyLess_not e2 (fun ek => ?_)
    have h2 := List.pairwise_iff_getElem.1 (List.nodup_iff_pairwise_ne.1 hnd)
    have hne : s i ≠ s j := fun e => by have := hsi i j (by omega) (by omega) e; omega
    rcases Nat.lt_or_gt_of_ne hne with h | h
    · have := h2 (s i) (s j) (by simpa using hi') (by simpa using hj') h
      simp at this; exact this ek.symm
    · have := h2 (s j) (s i) (by simpa using hj') (by simpa using hi') h
      simp at this; exact this ek
  have hsort := sortM_unique hrise hperm
  rw [← hsort]
  refine ⟨hlen, _, TMc.tm (ms := listF (fun i => cellsMC (f (s i))) m.length) ⟨by rw [hlen, listF_length], fun i hi hi' => ?_⟩, fun A' hA' => ?_⟩
  · rw [hget i hi, listF_get]
    have hf2 := hf (s i) (hs i (by omega))
    refine ⟨(f (s i)).2, hf2.2.keep hk.size (fun b hb hlt => ⟨hb, hk.block b hlt (hAg b hb)⟩), ?_⟩
    rw [cellsMC, hf2.1]
  · have := RowC.row hr.1 hA' (by rw [listF_length])
    exact this
def SrtOk (t : Tree) : Prop := ∀ (c : Array Value) (A : Nat → Prop) (w : World), TV w A t c → weightT t ≤ 1000000 → distT t →
  Calls Tryz.prog 32 #[.agg c] w (fun e w' => ∃ c', e = .returned (.agg c') ∧ TV w' (fun g => w.heap.size ≤ g) (sortedT t) c' ∧ Ext w w')
end Go.Proofs.YtjapbjmeoaagmaaGreatDoor
end

section
set_option linter.unusedVariables false
set_option linter.unusedSimpArgs false
set_option maxRecDepth 100000
namespace Go.Proofs.YtjapbjmeoaagmaaGreatDoor
open Go.RowKit Go.Mem Orange
theorem wlenL : ∀ l : List Tree, l.length ≤ weightL l
  | [] => by simp [weightL]
  | t :: l => by
    have h1 := wlenL l
    have h2 := count_weight t
    have h3 : 0 < countT t := by cases t; rw [countT]; omega
    rw [weightL, List.length_cons]; omega
theorem wlenM : ∀ l : List Mem1, l.length ≤ weightM l
  | [] => by simp [weightM]
  | (k, t) :: l => by
    have h1 := wlenM l
    have h2 := count_weight t
    have h3 : 0 < countT t := by cases t; rw [countT]; omega
    rw [weightM, List.length_cons]; omega
theorem setc_size {w : World} {q i : Nat} {u : Value} : (w.setCell ⟨q, i, none⟩ u).heap.size = w.heap.size := by simp [World.setCell]
theorem setc_block {w : World} {q i : Nat} {u : Value} {g : Nat} (hg : g ≠ q) : (w.setCell ⟨q, i, none⟩ u).heap[g]? = w.heap[g]? := by
  by_cases h : g < w.heap.size
  · exact (Kept.setCell (B := w.heap.size) u).block g h hg
  · rw [Array.getElem?_eq_none (by rw [setc_size]; omega), Array.getElem?_eq_none (by omega)]
theorem OwL.setc {base q i : Nat} {v u : Value} {acc : List Tree} {w : World} (h : OwL base v acc w) (hq : q < base) : OwL base v acc (w.setCell ⟨q, i, none⟩ u) :=
  h.same (Nat.le_of_eq setc_size.symm) (fun g hg _ => setc_block (by omega))
theorem OwM.setc {base q i : Nat} {v u : Value} {acc : List Mem1} {w : World} (h : OwM base v acc w) (hq : q < base) : OwM base v acc (w.setCell ⟨q, i, none⟩ u) :=
  h.same (Nat.le_of_eq setc_size.symm) (fun g hg _ => setc_block (by omega))
def LFix (base : Nat) (vL v : Value) (l : List Tree) (w : World) : Prop :=
  ∃ cs, TL w (fun g => base ≤ g ∧ v.ownBlock ≠ some g) l cs ∧ RowAt w (fun g => base ≤ g ∧ v.ownBlock ≠ some g) 8 vL l.length cs
theorem LFix.ofOwn {base : Nat} {vL : Value} {l : List Tree} {w : World} (h : OwL base vL l w) : LFix base vL (.slice none 0 0) l w := by
  obtain ⟨cs, h1, h2⟩ := h
  exact ⟨cs, h2.keep (Nat.le_refl _) (fun g hg _ => ⟨⟨hg.1, by simp [Value.ownBlock]⟩, rfl⟩), RowAt.own h1 (by decide) (fun g e hg _ => ⟨hg, by simp [Value.ownBlock]⟩)⟩
theorem LFix.same {base : Nat} {vL v : Value} {l : List Tree} {w w' : World} (h : LFix base vL v l w) (hs : w.heap.size ≤ w'.heap.size) (hk : ∀ g, base ≤ g → v.ownBlock ≠ some g → g < w.heap.size → w'.heap[g]? = w.heap[g]?) : LFix base vL v l w' := by
  obtain ⟨cs, h1, h2⟩ := h
  exact ⟨cs, h1.keep hs (fun g hg hlt => ⟨hg, hk g hg.1 hg.2 hlt⟩), h2.keep hs (fun g hg hlt => ⟨hg, hk g hg.1 hg.2 hlt⟩)⟩
theorem LFix.ext {base : Nat} {vL v : Value} {l : List Tree} {w w' : World} (h : LFix base vL v l w) (hx : Ext w w') : LFix base vL v l w' := h.same hx.size (fun g _ _ hg => hx.block g hg)
theorem LFix.setc {base q i : Nat} {vL v u : Value} {l : List Tree} {w : World} (h : LFix base vL v l w) (hq : q < base) : LFix base vL v l (w.setCell ⟨q, i, none⟩ u) :=
  h.same (Nat.le_of_eq setc_size.symm) (fun g hg _ _ => setc_block (by omega))
theorem LFix.push {base : Nat} {vL v v' : Value} {l : List Tree} {w3 w4 : World} (h : LFix base vL v l w3) (hgr : w3.grownBy w4 v.ownBlock) (hor : v'.ownBlock = v.ownBlock ∨ v'.ownBlock = some w3.heap.size) : LFix base vL v' l w4 := by
  obtain ⟨cs, h1, h2⟩ := h
  have hk : ∀ g, base ≤ g ∧ v.ownBlock ≠ some g → g < w3.heap.size → (base ≤ g ∧ v'.ownBlock ≠ some g) ∧ w4.heap[g]? = w3.heap[g]? := fun g hg hlt =>
    ⟨⟨hg.1, fun e => by
      rcases hor with h | h
      · rw [h] at e; exact hg.2 e
      · rw [h] at e; simp only [Option.some.injEq] at e; omega⟩, hgr.block g hlt (Ne.symm hg.2)⟩
  exact ⟨cs, h1.keep hgr.size hk, h2.keep hgr.size hk⟩
theorem TMc.fn {w : World} {A : Nat → Prop} {m : List Mem1} {ms : List (List Value)} (h : TMc w A m ms) : ∃ f : Nat → MC, ms = listF (fun i => cellsMC (f i)) m.length ∧ ∀ i, (hi : i < m.length) → (f i).1 = m[i].1 ∧ TV w A m[i].2 (f i).2 := by
  refine ⟨fun i => ((m.getD i ([], tNull)).1, ⟨(ms.getD i []).tail⟩), ?_, fun i hi => ?_⟩
  · apply List.ext_getElem
    · rw [listF_length]; exact h.1.symm
    · intro i a b
      rw [listF_get]
      have hi : i < m.length := by simpa [listF] using b
      obtain ⟨c, _, e⟩ := h.2 i hi a
      simp only [cellsMC, List.getD_eq_getElem?_getD, List.getElem?_eq_getElem hi, List.getElem?_eq_getElem a, Option.getD_some]
      rw [e]; rfl
  · obtain ⟨c, hc, e⟩ := h.2 i hi (by rw [← h.1]; exact hi)
    have e2 : (ms.getD i []) = .string ⟨m[i].1.toArray⟩ :: c.toList := by
      rw [List.getD_eq_getElem?_getD, List.getElem?_eq_getElem (by rw [← h.1]; exact hi)]; exact e
    refine ⟨by simp [List.getD_eq_getElem?_getD, hi], ?_⟩
    show TV w A m[i].2 ⟨(ms.getD i []).tail⟩
    rw [e2]; exact hc
theorem OwM.rowS {base : Nat} {v : Value} {m : List Mem1} {w : World} (h : OwM base v m w) (h0 : 0 < m.length) (hk : ∀ p ∈ m, p.1.length ≤ 35184372088000) :
    ∃ g cap f ms, v = .slice (some ⟨g, 0, none⟩) m.length cap ∧ base ≤ g ∧ RowS w g cap m.length f ∧ TMc w (fun b => base ≤ b ∧ b ≠ g) m ms ∧ ∀ i, (hi : i < m.length) → (f i).1 = m[i].1 ∧ TV w (fun b => base ≤ b ∧ b ≠ g) m[i].2 (f i).2 := by
  obtain ⟨cs, h1, h2⟩ := h
  obtain ⟨ms, rfl, h3⟩ := TMc.of h2
  obtain ⟨g, cap, rfl, hg, hr⟩ := RowC.ofOwn h1 h3.nine h3.1.symm h0
  have h4 : TMc w (fun b => base ≤ b ∧ b ≠ g) m ms := h3.keep (Nat.le_refl _) (fun b hb _ => ⟨⟨hb.1, fun e => hb.2 (by rw [e]; rfl)⟩, rfl⟩)
  obtain ⟨f, hf, hf2⟩ := h4.fn
  rw [hf] at hr
  exact ⟨g, cap, f, ms, rfl, hg, ⟨hr, fun i hi => ⟨by rw [(hf2 i hi).1]; exact hk _ (List.getElem_mem hi), (hf2 i hi).2.eight⟩⟩, h4, hf2⟩
set_option maxHeartbeats 6400000 in
theorem srt_step (t : Tree) (ih : ∀ x ∈ t.ins, SrtOk x) : SrtOk t := by
  intro c A w h hwt hdist
  obtain ⟨kk, bb, d, ss, la, ln, lc, ma, mn, mc, rfl⟩ := h.eight
  obtain ⟨cl, cm, htl, hrl, htm, hrm, hk, hb, hd1, hd2, hd3, hss⟩ := tv_rows h
  obtain ⟨_, a1, c1, ea, hl1, hl2, -⟩ := id hrl
  simp only [Value.slice.injEq] at ea
  obtain ⟨rfl, eln, rfl⟩ := ea
  subst eln
  obtain ⟨_, a2, c2, ea, hm1, hm2, -⟩ := id hrm
  simp only [Value.slice.injEq] at ea
  obtain ⟨rfl, emn, rfl⟩ := ea
  subst emn
  obtain ⟨tk, tb, tn, ts, tl, tm⟩ := t
  obtain ⟨d1, d2, d3⟩ := d
  obtain ⟨n1, n2, n3⟩ := tn
  simp only [Tree.kind, Tree.bit, Tree.num, Tree.str, Tree.list, Tree.mems] at hk hb hd1 hd2 hd3 hss htl hrl htm hrm hl1 hm1 h ⊢
  subst hk hb hd1 hd2 hd3 hss
  rw [distT] at hdist
  obtain ⟨hnd, hdl, hdm⟩ := hdist
  rw [weightT] at hwt
  have hwl := wlenL tl
  have hwm := wlenM tm
  have hll : tl.length ≤ 1000000 := by omega
  have hml : tm.length ≤ 1000000 := by omega
  have IHL : Hid (∀ x ∈ tl, SrtOk x ∧ weightT x ≤ 1000000 ∧ distT x) := Lib.hid (fun x hx => by
    refine ⟨ih x (List.mem_append_left _ hx), ?_, (distL_iff tl).1 hdl x hx⟩
    obtain ⟨i, hi, rfl⟩ := List.getElem_of_mem hx
    have := weightL_mem hi
    omega)
  have IHM : Hid (∀ x ∈ tm, SrtOk x.2 ∧ weightT x.2 ≤ 1000000 ∧ distT x.2 ∧ x.1.length ≤ 1000000) := Lib.hid (fun x hx => by
    obtain ⟨i, hi, rfl⟩ := List.getElem_of_mem hx
    have := weightM_mem hi
    exact ⟨ih _ (List.mem_append_right _ (List.mem_map.2 ⟨_, hx, rfl⟩)), by omega, (distM_iff tm).1 hdm _ hx, by omega⟩)
  have HND := Lib.hid hnd
  clear ih hdl hdm hwl hwm hwt hnd
  obtain ⟨wA, ewA⟩ : ∃ W, w.alloc (.cells (cellsV kk bb ⟨d1, d2, d3⟩ ss (.slice la tl.length lc) (.slice ma tm.length mc)) 27) = W := ⟨_, rfl⟩
  have nwA : wA.heap[w.heap.size]? = some (.cells (cellsV kk bb ⟨d1, d2, d3⟩ ss (.slice la tl.length lc) (.slice ma tm.length mc)) 27) := by rw [← ewA]; exact heap_alloc_new _ _
  have xwA : Ext w wA := by rw [← ewA]; exact (ext_refl _).alloc (Nat.le_refl _) _
  have swA : wA.heap.size = w.heap.size + 1 := by rw [← ewA]; simp
  obtain ⟨wB, ewB⟩ : ∃ W, wA.alloc (.cells zeroV 27) = W := ⟨_, rfl⟩
  have nwB : wB.heap[wA.heap.size]? = some (.cells zeroV 27) := by rw [← ewB]; exact heap_alloc_new _ _
  have xwB : Ext wA wB := by rw [← ewB]; exact (ext_refl _).alloc (Nat.le_refl _) _
  have swB : wB.heap.size = wA.heap.size + 1 := by rw [← ewB]; simp
  have hE := ext_trans xwA xwB
  rw [swA] at nwB
  have HC : Hid (VAt wB w.heap.size (cellsV kk bb ⟨d1, d2, d3⟩ ss (.slice la tl.length lc) (.slice ma tm.length mc))) := Lib.hid (VAt.ext nwA xwB)
  have HV : Hid (VAt wB (w.heap.size + 1) zeroV) := Lib.hid nwB
  have HTL := Lib.hid (htl.keep (w' := wB) (A' := fun g => g < w.heap.size) hE.size (fun g hg hlt => ⟨hlt, hE.block g hlt⟩))
  have HRL := Lib.hid (hrl.keep (w' := wB) (A' := fun g => g < w.heap.size) hE.size (fun g hg hlt => ⟨hlt, hE.block g hlt⟩))
  have HTM := Lib.hid (htm.keep (w' := wB) (A' := fun g => g < w.heap.size) hE.size (fun g hg hlt => ⟨hlt, hE.block g hlt⟩))
  have HRM := Lib.hid (hrm.keep (w' := wB) (A' := fun g => g < w.heap.size) hE.size (fun g hg hlt => ⟨hlt, hE.block g hlt⟩))
  have EA := Lib.hid ewA
  have EB := Lib.hid ewB
  have HE := Lib.hid hE
  have hBsz : wB.heap.size = w.heap.size + 2 := by rw [swB, swA]
  clear htl hrl htm hrm h hE nwA nwB xwA xwB ewA ewB swA swB
  simp only [cellsV, zeroV, noL, Num.zero] at HC HV EA EB ⊢
  go_enter Tryz.func32, Tryz.ntmps32
  go_upto_region 1 with fail
  rw [EA.out, EB.out]
  obtain ⟨S, hS⟩ : ∃ S, w.heap.size = S := ⟨_, rfl⟩
  rw [hS] at HC HV HTL HRL HTM HRM hBsz ⊢
  have HS := Lib.hid hS
  clear hS EA EB
  have c0 := HC.out.cell 0; have c1 := HC.out.cell 1; have c2 := HC.out.cell 2; have c3 := HC.out.cell 3; have c4 := HC.out.cell 4; have c5 := HC.out.cell 5; have c6 := HC.out.cell 6; have c7 := HC.out.cell 7
  simp at c0 c1 c2 c3 c4 c5 c6 c7
  go_upto_region 3 with fail
  clear c0 c1 c2 c3 c4 c5 c6 c7
  have hx1 : Ext wB (wB.alloc (.cells (cellsV kk bb ⟨d1, d2, d3⟩ ss (.slice none 0 0) noL) 27)) := (ext_refl _).alloc (Nat.le_refl _) _
  have hq1 := VAt.new wB (cellsV kk bb ⟨d1, d2, d3⟩ ss (.slice none 0 0) noL)
  have hsz1 : (wB.alloc (.cells (cellsV kk bb ⟨d1, d2, d3⟩ ss (.slice none 0 0) noL) 27)).heap.size = S + 3 := by simp [hBsz]
  rw [hBsz] at hq1
  simp only [cellsV, noL] at hx1 hq1 hsz1
  generalize wB.alloc (.cells #[.int .i64 kk, .bool bb, .bool d1, .string ⟨d2.toArray⟩, .int .i64 d3, .string ⟨ss.toArray⟩, .slice none 0 0, .slice none 0 0] 27) = w1 at *
  have HX1 := Lib.hid hx1
  have HQ1 := Lib.hid hq1
  have HC1 := Lib.hid (HC.out.ext hx1)
  have HBS := Lib.hid hBsz
  clear hx1 hq1 hBsz
  have c6 := HC1.out.cell 6
  simp at c6
  go_wp2_with fail
  clear c6
  go_loopw [14] (fun iv wr => ∃ (i : Nat) (vL : Value), iv = .int .i64 i ∧ i ≤ tl.length ∧ VAt wr (S + 2) #[.int .i64 kk, .bool bb, .bool d1, .string ⟨d2.toArray⟩, .int .i64 d3, .string ⟨ss.toArray⟩, vL, .slice none 0 0] ∧ OwL (S + 3) vL (sortedL (tl.take i)) wr ∧ Kept (S + 3) (S + 2) w1 wr) (fun iv _ => 2000000 - (intOf iv).toNat)
  case atStart => exact ⟨0, .slice none 0 0, rfl, by omega, HQ1.out, by rw [List.take_zero, sortedL]; exact OwL.nil _ _, Kept.refl _ _ _⟩
  case round =>
    obtain ⟨i, vL, rfl, hi, hv, how, hkp⟩ := hrel
    have HV1 := Lib.hid hv
    have HOW := Lib.hid how
    have HKP := Lib.hid hkp
    clear hv how hkp
    by_cases hlt : i < tl.length
    · have hlti : (i : Int) < tl.length := by omega
      have hi0 : (0 : Int) ≤ i := by omega
      obtain ⟨vA, vC, hvL⟩ := HOW.out.shape
      rw [show (sortedL (tl.take i)).length = i by rw [sortedL_map, List.length_map, List.length_take]; omega] at hvL
      subst hvL
      have hblk : ∀ g, g < S → g < wB.heap.size → wr.heap[g]? = wB.heap[g]? := fun g hg hlt => (HKP.out.block g (by omega) (by omega)).trans (HX1.out.block g hlt)
      obtain ⟨g, o, xk, xb, xd, xs, xa1, xn1, xc1, xa2, xn2, xc2, rfl, htx, hcell⟩ := row_elem HRL.out HTL.out rfl i hlt
      obtain ⟨x0, x1, x2, x3, x4, x5, x6, x7⟩ := hcell wr hblk
      have htx2 := htx.keep (w' := wr) (A' := fun _ => True) (Nat.le_trans HX1.out.size HKP.out.size) (fun g hg hlt => ⟨trivial, hblk g hg hlt⟩)
      have HTX := Lib.hid htx2
      have HIH := Lib.hid (IHL.out tl[i] (List.getElem_mem hlt))
      have HTK : Hid (sortedL (tl.take (i + 1)) = sortedL (tl.take i) ++ [sortedT tl[i]]) := Lib.hid (by rw [sortedL_map, sortedL_map, List.take_succ_eq_append_getElem hlt, List.map_append]; rfl)
      clear hblk htx hcell htx2
      generalize tl[i] = x at *
      have HC2 : Hid (VAt wr S #[.int .i64 kk, .bool bb, .bool d1, .string ⟨d2.toArray⟩, .int .i64 d3, .string ⟨ss.toArray⟩, .slice (some ⟨g, o, none⟩) tl.length lc, .slice ma tm.length mc]) := Lib.hid (by unfold VAt; rw [HKP.out.block S (by omega) (by omega)]; exact HC1.out)
      have hx5 : Ext wr (wr.alloc (.cells (cellsV xk xb xd xs (.slice xa1 xn1 xc1) (.slice xa2 xn2 xc2)) 27)) := (ext_refl _).alloc (Nat.le_refl _) _
      have hn5 := VAt.new wr (cellsV xk xb xd xs (.slice xa1 xn1 xc1) (.slice xa2 xn2 xc2))
      have hrs : S + 3 ≤ wr.heap.size := Nat.le_trans (Nat.le_of_eq hsz1.symm) HKP.out.size
      obtain ⟨P5, hP5⟩ : ∃ P5, wr.heap.size = P5 := ⟨_, rfl⟩
      rw [hP5] at hn5 hrs
      simp only [cellsV] at hx5 hn5
      go_upto_region 6 with fail
      clear x0 x1 x2 x3 x4 x5 x6 x7
      generalize wr.alloc (.cells #[.int .i64 xk, .bool xb, .bool xd.neg, .string ⟨xd.digits.toArray⟩, .int .i64 xd.exp, .string ⟨xs.toArray⟩, .slice xa1 xn1 xc1, .slice xa2 xn2 xc2] 27) = w5 at *
      have hr5 : P5 ≤ w5.heap.size := by rw [← hP5]; exact hx5.size
      have HN5 := Lib.hid hn5
      have HV5 := Lib.hid (HV1.out.ext hx5)
      have HOW5 := Lib.hid (HOW.out.ext hx5)
      have HK5 := Lib.hid (HKP.out.trans (Kept.ofBelow (hx5.mono (by omega))))
      have HP5 := Lib.hid hP5
      have HCALL : Hid (∀ w', Ext w5 w' → Calls Tryz.prog 32 #[.agg #[.int .i64 xk, .bool xb, .bool xd.neg, .string ⟨xd.digits.toArray⟩, .int .i64 xd.exp, .string ⟨xs.toArray⟩, .slice xa1 xn1 xc1, .slice xa2 xn2 xc2]] w' (fun e w'' => ∃ c', e = .returned (.agg c') ∧ TV w'' (fun g => w'.heap.size ≤ g) (sortedT x) c' ∧ Ext w' w'')) := Lib.hid (fun w' hw =>
        HIH.out.1 _ (fun _ => True) w' (HTX.out.keep (ext_trans hx5 hw).size (fun g _ hlt => ⟨trivial, (ext_trans hx5 hw).block g hlt⟩)) HIH.out.2.1 HIH.out.2.2)
      obtain ⟨T, hT⟩ : ∃ T, sortedT x = T := ⟨_, rfl⟩
      rw [hT] at HCALL HTK
      have hq1 : S + 2 < w5.heap.size := by omega
      clear hP5 hx5 hn5 HTX HIH hT HOW HKP HV1
      have h0 : ∀ w w', Ext w w' → KeptP (S + 2) w w' := fun _ _ => KeptP.ofExt
      refine GrowS.wp_region_restT (G0 := Ext) (G1 := Ext) (B0 := fun w' => Ext w5 w') (B1 := fun w' => Ext w5 w') (E := fun _ _ => False) (anc := fun j => if j = 4 then [3] else if j = 99 then [3] else [])
        (I := fun j => if j = 3 then some (specTV h0 h0 hq1 T True) else if j = 4 then some (specNewL h0 h0 hq1 T) else none) 3 5 (fun j => ([[], [0], [], [2], [2, 3], [0, 1, 2, 3, 4], [0, 1, 2, 3, 4, 5], [0, 1, 2, 3, 4, 5, 6]] : List (List Nat)).getD j []) #[true, true, true, true, true, false, false, false]
        (by kernel_rfl) (by kernel_rfl) (by kernel_rfl) (by kernel_rfl) (by kernel_rfl) (by kernel_rfl) ?_ ?_ ?_ ?_ ?_ ?_
      · exact fun w w' h hg => ext_trans h hg
      · exact fun w w' h hg => ext_trans h hg
      · exact fun w w' h hg => ext_trans h hg
      · exact fun _ _ _ _ h => h.elim
      · exact (ext_refl _).drew
      have HBK : Hid (∀ {k : Nat} w', GrowS.atS 3 (fun w' => Ext w5 w') (fun w' => Ext w5 w') k w' → Ext w5 w') := Lib.hid (fun w' h => by
        unfold GrowS.atS at h
        split at h
        · exact h
        · rcases h with h | h <;> exact h)
      simp only [List.take_succ_cons, List.take_zero, List.drop_succ_cons, List.drop_zero]
      repeat
        (refine GrowS.Wk.step (fun K hK => ?_)
         first
         | (refine GrowS.step_read (by rfl) (by rfl) (fun w => ext_refl w) ?_
            apply Exists.intro
            refine ⟨fun w hB hF => ?_, ?_⟩
            · replace hB := HBK.out w hB
              have q6 := (HV5.out.ext hB).cell 6; have f6 := (HV5.out.ext hB).free 6; have n0 := (HN5.out.ext hB).cell 0; have n1 := (HN5.out.ext hB).cell 1; have n2 := (HN5.out.ext hB).cell 2; have n3 := (HN5.out.ext hB).cell 3; have n4 := (HN5.out.ext hB).cell 4; have n5 := (HN5.out.ext hB).cell 5; have n6 := (HN5.out.ext hB).cell 6; have n7 := (HN5.out.ext hB).cell 7; simp at q6 n0 n1 n2 n3 n4 n5 n6 n7
              go_simp
              try exact rfl
            go_simp
            refine hK _ _ ?_
            clear hK K)
         | (refine GrowS.step_off (by rfl) ?_
            go_simp
            refine hK _ _ ?_
            clear hK K))
      refine GrowS.Wk.step (fun K hK => ?_)
      refine GrowS.step_rel (by rfl) (by rfl) (fun w' hB hF => ?_) (fun v hv => ?_)
      · replace hB := HBK.out w' hB
        go_simp
        refine GrowS.relUpon_enter ((HCALL.out w' hB).mono ?_)
        rintro e w'' ⟨c', rfl, htv, hx⟩
        obtain ⟨rk, rb, rd, rs, ra1, rn1, rc1, ra2, rn2, rc2, rfl⟩ := htv.eight
        exact .inl ⟨_, rfl, hx, ⟨_, _, _, _, _, _, _, _, _, _, rfl⟩, trivial, _, rfl, htv.keep (Nat.le_refl _) (fun g hg _ => ⟨Nat.le_trans hB.size hg, rfl⟩)⟩
      obtain ⟨rk, rb, rd, rs, ra1, rn1, rc1, ra2, rn2, rc2, rfl⟩ := hv
      go_simp
      refine hK _ _ ?_
      clear hK K
      refine GrowS.Wk.step (fun K hK => ?_)
      refine GrowS.step_rel (by rfl) (by rfl) (fun w' hB hF => ?_) (fun v hv => ?_)
      · replace hB := HBK.out w' hB
        obtain ⟨_, c', ec, htv⟩ : True ∧ ∃ c', Value.agg (cellsV rk rb rd rs (.slice ra1 rn1 rc1) (.slice ra2 rn2 rc2)) = .agg c' ∧ TV w' (fun g => w5.heap.size ≤ g) T c' := hF 3 (by simp)
        simp only [Value.agg.injEq] at ec
        subst ec
        have HTVN := Lib.hid (htv.keep (w' := w'.alloc (.cells (cellsV rk rb rd rs (.slice ra1 rn1 rc1) (.slice ra2 rn2 rc2)) 27)) (A' := fun g => w5.heap.size ≤ g) (by simp) (fun g hg hlt => ⟨hg, ((ext_refl w').alloc (Nat.le_refl _) _).block g hlt⟩))
        clear htv hF
        simp only [cellsV] at HTVN ⊢
        go_simp
        exact GrowS.relUpon_value ((ext_refl w').alloc (Nat.le_refl _) _) ⟨_, rfl⟩ ⟨_, _, rfl, hB.size, heap_alloc_new _ _, HTVN.out⟩
      obtain ⟨gn, rfl⟩ := hv
      go_simp
      refine hK _ _ ?_
      clear hK K
      refine GrowS.Wk.nil ?_
      intro w3 hB hF
      replace hB : Ext w5 w3 := hB
      obtain ⟨gn', cn, eg, hgn, hnew, htv⟩ := hF 4
      simp only [Value.slice.injEq, Option.some.injEq, Addr.mk.injEq, and_true] at eg
      subst eg
      clear hF HBK h0
      obtain ⟨cs, hown, htl⟩ := HOW5.out.ext hB
      rw [show (sortedL (tl.take i)).length = i by rw [sortedL_map, List.length_map, List.length_take]; omega] at hown
      show wpAny _ _ _ _ (2 + 1) _ _ _
      refine wpAny_one 5 (by kernel_rfl) ?_
      refine wpOp_append rfl (by rfl) _ _ _ _ rfl (S + 3) 27 _ _ 8 112 (by kernel_rfl) (by rfl) (by rfl) (by rfl) (by kernel_rfl) (by rfl) (by decide) _ i cs (by rfl) hown _ 1 cn.toList (by rfl) (src_one (e' := 27) (by kernel_rfl) hnew htv.size (TV.one htv)) (by simp only [maxLen]; omega) (by omega) (Nat.le_trans (Nat.le_trans hrs hr5) hB.size) ?_
      intro v' w4 hown4 hgr hor
      have hqo : some (S + 2) ≠ (Value.slice vA i vC).ownBlock := fun e => by have := (hown.lt _ e.symm).1; omega
      have hv3 := HV5.out.ext hB
      have hv4 : VAt w4 (S + 2) #[.int .i64 kk, .bool bb, .bool d1, .string ⟨d2.toArray⟩, .int .i64 d3, .string ⟨ss.toArray⟩, .slice vA i vC, .slice none 0 0] := by
        unfold VAt; rw [hgr.block (S + 2) hv3.lt hqo]; exact hv3
      have hlt5 : ∀ k, (Value.slice vA i vC).ownBlock = some k → k < w5.heap.size := fun k e => by
        obtain ⟨cs', h1, _⟩ := HOW5.out
        exact (h1.lt k e).2
      have how4 : OwL (S + 3) v' (sortedL (tl.take (i + 1))) w4 := by
        rw [HTK.out]
        refine OwL.push hown htl (by rw [sortedL_map, List.length_map, List.length_take]; omega) (htv.keep (Nat.le_refl _) (fun g hg _ => ⟨⟨by omega, fun e => by have := hlt5 g e; omega⟩, rfl⟩)) hown4 hgr hor
      obtain ⟨v4A, v4C, ev4⟩ := how4.shape
      rw [show (sortedL (tl.take (i + 1))).length = i + 1 by rw [sortedL_map, List.length_map, List.length_take]; omega] at ev4
      subst ev4
      have hk4 : Kept (S + 3) (S + 2) w1 w4 := (HK5.out.trans (Kept.ofBelow (hB.mono (by omega)))).trans ⟨hgr.os, hgr.tape, hgr.output, hgr.size, fun k hk _ => hgr.block k (by have := hB.size; omega) (fun e => by have := (hown.lt k e.symm).1; omega)⟩
      have HV4 := Lib.hid (hv4.set1 6 (.slice v4A (i + 1) v4C))
      have HOW4 := Lib.hid (how4.setc (q := S + 2) (i := 6) (u := .slice v4A (i + 1) v4C) (by omega))
      have HK4 := Lib.hid (hk4.trans (Kept.setCell (B := S + 3) (p := S + 2) (o := 6) (.slice v4A (i + 1) v4C)))
      have f6 := hv4.free 6
      have q6 := hv4.cell 6
      simp at q6
      clear hv3 hv4 how4 hk4 hown4 hgr hor hqo hlt5 hown htl htv hnew hB
      refine wpAny_one 6 (by kernel_rfl) ?_
      refine wpOp_now rfl (by rfl) ?_
      unfold Oper.wp
      go_simp
      refine wpAny_one 7 (by kernel_rfl) ?_
      refine wpOp_now rfl (by rfl) ?_
      unfold Oper.wp
      go_simp
      show wpAny _ _ _ _ 0 _ _ _
      refine ⟨by decide +kernel, ?_⟩
      have w9 : IntKind.i64.wrap ((i : Int) + 1) = ((i + 1 : Nat) : Int) := by rw [IntWalk.i64_in _ (by omega)]; omega
      clear q6 f6
      go_wp2_with fail
      go_roundw
      case rel => exact ⟨i + 1, _, by go_num, by omega, by simpa using HV4.out, HOW4.out, HK4.out⟩
      case measure => simp [intOf]; omega
    · have hnlt : ¬ ((i : Int) < tl.length) := by omega
      obtain rfl : i = tl.length := by omega
      have how2 := HOW.out
      rw [List.take_length] at how2
      obtain ⟨vA, vC, hvL⟩ := how2.shape
      rw [show (sortedL tl).length = tl.length by rw [sortedL_map, List.length_map]] at hvL
      subst hvL
      have HLF := Lib.hid (LFix.ofOwn how2)
      clear how2 HOW
      have HC2 : Hid (VAt wr S _) := Lib.hid (by unfold VAt; rw [HKP.out.block S (by omega) (by omega)]; exact HC1.out)
      have c7 := HC2.out.cell 7
      simp at c7
      go_wp2_with fail
      clear c7
      go_loopw [29] (fun iv wx => ∃ (i : Nat) (vM : Value), iv = .int .i64 i ∧ i ≤ tm.length ∧ VAt wx (S + 2) #[.int .i64 kk, .bool bb, .bool d1, .string ⟨d2.toArray⟩, .int .i64 d3, .string ⟨ss.toArray⟩, .slice vA tl.length vC, vM] ∧ OwM (S + 3) vM (sortedM (tm.take i)) wx ∧ LFix (S + 3) (.slice vA tl.length vC) vM (sortedL tl) wx ∧ (i = 0 → vM = .slice none 0 0) ∧ Kept (S + 3) (S + 2) w1 wx) (fun iv _ => 2000000 - (intOf iv).toNat)
      case atStart => exact ⟨0, .slice none 0 0, rfl, by omega, HV1.out, by rw [List.take_zero, sortedM]; exact OwM.nil _ _, HLF.out, fun _ => rfl, HKP.out⟩
      case round =>
        clear HV1 HLF HKP
        obtain ⟨i, vM, rfl, hi, hv, how, hlf, hz, hkp⟩ := hrel
        have HV1 := Lib.hid hv
        have HOW := Lib.hid how
        have HLF := Lib.hid hlf
        have HZ := Lib.hid hz
        have HKP := Lib.hid hkp
        clear hv how hlf hz hkp
        by_cases hlt : i < tm.length
        · have hlti : (i : Int) < tm.length := by omega
          have hi0 : (0 : Int) ≤ i := by omega
          obtain ⟨mA, mC, hvM⟩ := HOW.out.shape
          rw [(show (sortedM (tm.take i)).length = i by rw [sortedM_map, List.length_map, List.length_take]; omega)] at hvM
          subst hvM
          have hblk : ∀ g, g < S → g < wB.heap.size → wr.heap[g]? = wB.heap[g]? := fun g hg hlt => (HKP.out.block g (by omega) (by omega)).trans (HX1.out.block g hlt)
          obtain ⟨g, o, xk, xb, xd, xs, xa1, xn1, xc1, xa2, xn2, xc2, rfl, htx, hcell⟩ := mem_elem HRM.out HTM.out rfl i hlt
          obtain ⟨x0, x1, x2, x3, x4, x5, x6, x7, x8⟩ := hcell wr hblk
          have htx2 := htx.keep (w' := wr) (A' := fun _ => True) (Nat.le_trans HX1.out.size HKP.out.size) (fun g hg hlt => ⟨trivial, hblk g hg hlt⟩)
          have HTX := Lib.hid htx2
          have HIH := Lib.hid (IHM.out tm[i] (List.getElem_mem hlt))
          have HTK : Hid (sortedM (tm.take (i + 1)) = sortedM (tm.take i) ++ [(tm[i].1, sortedT tm[i].2)]) := Lib.hid (by rw [sortedM_map, sortedM_map, List.take_succ_eq_append_getElem hlt, List.map_append]; rfl)
          clear hblk htx hcell htx2
          generalize tm[i].1 = key at *
          generalize tm[i].2 = x at *
          have HC2 : Hid (VAt wr S #[.int .i64 kk, .bool bb, .bool d1, .string ⟨d2.toArray⟩, .int .i64 d3, .string ⟨ss.toArray⟩, .slice la tl.length lc, .slice (some ⟨g, o, none⟩) tm.length mc]) := Lib.hid (by unfold VAt; rw [HKP.out.block S (by omega) (by omega)]; exact HC1.out)
          have hx5 : Ext wr (wr.alloc (.cells #[.string ⟨key.toArray⟩, .int .i64 xk, .bool xb, .bool xd.neg, .string ⟨xd.digits.toArray⟩, .int .i64 xd.exp, .string ⟨xs.toArray⟩, .slice xa1 xn1 xc1, .slice xa2 xn2 xc2] 43)) := (ext_refl _).alloc (Nat.le_refl _) _
          have hn5 := MAt.new wr #[.string ⟨key.toArray⟩, .int .i64 xk, .bool xb, .bool xd.neg, .string ⟨xd.digits.toArray⟩, .int .i64 xd.exp, .string ⟨xs.toArray⟩, .slice xa1 xn1 xc1, .slice xa2 xn2 xc2]
          have hrs : S + 3 ≤ wr.heap.size := Nat.le_trans (Nat.le_of_eq hsz1.symm) HKP.out.size
          obtain ⟨P5, hP5⟩ : ∃ P5, wr.heap.size = P5 := ⟨_, rfl⟩
          rw [hP5] at hn5 hrs
          go_upto_region 11 with fail
          clear x0 x1 x2 x3 x4 x5 x6 x7 x8
          generalize wr.alloc (.cells #[.string ⟨key.toArray⟩, .int .i64 xk, .bool xb, .bool xd.neg, .string ⟨xd.digits.toArray⟩, .int .i64 xd.exp, .string ⟨xs.toArray⟩, .slice xa1 xn1 xc1, .slice xa2 xn2 xc2] 43) = w5 at *
          have hr5 : P5 ≤ w5.heap.size := by rw [← hP5]; exact hx5.size
          have HN5 := Lib.hid hn5
          have HV5 := Lib.hid (HV1.out.ext hx5)
          have HOW5 := Lib.hid (HOW.out.ext hx5)
          have HLF5 := Lib.hid (HLF.out.ext hx5)
          have HK5 := Lib.hid (HKP.out.trans (Kept.ofBelow (hx5.mono (by omega))))
          have HP5 := Lib.hid hP5
          have HCALL : Hid (∀ w', Ext w5 w' → Calls Tryz.prog 32 #[.agg #[.int .i64 xk, .bool xb, .bool xd.neg, .string ⟨xd.digits.toArray⟩, .int .i64 xd.exp, .string ⟨xs.toArray⟩, .slice xa1 xn1 xc1, .slice xa2 xn2 xc2]] w' (fun e w'' => ∃ c', e = .returned (.agg c') ∧ TV w'' (fun g => w'.heap.size ≤ g) (sortedT x) c' ∧ Ext w' w'')) := Lib.hid (fun w' hw =>
            HIH.out.1 _ (fun _ => True) w' (HTX.out.keep (ext_trans hx5 hw).size (fun g _ hlt => ⟨trivial, (ext_trans hx5 hw).block g hlt⟩)) HIH.out.2.1 HIH.out.2.2.1)
          obtain ⟨T, hT⟩ : ∃ T, sortedT x = T := ⟨_, rfl⟩
          rw [hT] at HCALL HTK
          have hq1 : S + 2 < w5.heap.size := by omega
          clear hP5 hx5 hn5 HTX HIH hT HOW HKP HV1 HLF
          have h0 : ∀ w w', Ext w w' → KeptP (S + 2) w w' := fun _ _ => KeptP.ofExt
          refine GrowS.wp_region_restT (G0 := Ext) (G1 := Ext) (B0 := fun w' => Ext w5 w') (B1 := fun w' => Ext w5 w') (E := fun _ _ => False) (anc := fun j => if j = 8 then [6] else if j = 7 then [6] else [])
            (I := fun j => if j = 6 then some (specTV h0 h0 hq1 T True) else if j = 8 then some (specNewM h0 h0 hq1 key T) else none) 6 9 (fun j => ([[], [0], [], [2], [], [4], [4, 5], [2, 3, 4, 5, 6], [2, 3, 4, 5, 6, 7], [0, 1, 2, 3, 4, 5, 6, 7, 8], [0, 1, 2, 3, 4, 5, 6, 7, 8, 9], [0, 1, 2, 3, 4, 5, 6, 7, 8, 9, 10]] : List (List Nat)).getD j []) #[true, true, true, true, true, true, true, true, true, false, false, false]
            (by kernel_rfl) (by kernel_rfl) (by kernel_rfl) (by kernel_rfl) (by kernel_rfl) (by kernel_rfl) ?_ ?_ ?_ ?_ ?_ ?_
          · exact fun w w' h hg => ext_trans h hg
          · exact fun w w' h hg => ext_trans h hg
          · exact fun w w' h hg => ext_trans h hg
          · exact fun _ _ _ _ h => h.elim
          · exact (ext_refl _).drew
          have HBK : Hid (∀ {k : Nat} w', GrowS.atS 6 (fun w' => Ext w5 w') (fun w' => Ext w5 w') k w' → Ext w5 w') := Lib.hid (fun w' h => by
            unfold GrowS.atS at h
            split at h
            · exact h
            · rcases h with h | h <;> exact h)
          simp only [List.take_succ_cons, List.take_zero, List.drop_succ_cons, List.drop_zero]
          repeat
            (refine GrowS.Wk.step (fun K hK => ?_)
             first
             | (refine GrowS.step_read (by rfl) (by rfl) (fun w => ext_refl w) ?_
                apply Exists.intro
                refine ⟨fun w hB hF => ?_, ?_⟩
                · replace hB := HBK.out w hB
                  have q7 := (HV5.out.ext hB).cell 7; have f7 := (HV5.out.ext hB).free 7; have n0 := (HN5.out.ext hB).cell 0; have n1 := (HN5.out.ext hB).cell 1; have n2 := (HN5.out.ext hB).cell 2; have n3 := (HN5.out.ext hB).cell 3; have n4 := (HN5.out.ext hB).cell 4; have n5 := (HN5.out.ext hB).cell 5; have n6 := (HN5.out.ext hB).cell 6; have n7 := (HN5.out.ext hB).cell 7; have n8 := (HN5.out.ext hB).cell 8; simp at q7 n0 n1 n2 n3 n4 n5 n6 n7 n8
                  go_simp
                  try exact rfl
                go_simp
                refine hK _ _ ?_
                clear hK K)
             | (refine GrowS.step_off (by rfl) ?_
                go_simp
                refine hK _ _ ?_
                clear hK K))
          refine GrowS.Wk.step (fun K hK => ?_)
          refine GrowS.step_rel (by rfl) (by rfl) (fun w' hB hF => ?_) (fun v hv => ?_)
          · replace hB := HBK.out w' hB
            go_simp
            refine GrowS.relUpon_enter ((HCALL.out w' hB).mono ?_)
            rintro e w'' ⟨c', rfl, htv, hx⟩
            obtain ⟨rk, rb, rd, rs, ra1, rn1, rc1, ra2, rn2, rc2, rfl⟩ := htv.eight
            exact .inl ⟨_, rfl, hx, ⟨_, _, _, _, _, _, _, _, _, _, rfl⟩, trivial, _, rfl, htv.keep (Nat.le_refl _) (fun g hg _ => ⟨Nat.le_trans hB.size hg, rfl⟩)⟩
          obtain ⟨rk, rb, rd, rs, ra1, rn1, rc1, ra2, rn2, rc2, rfl⟩ := hv
          go_simp
          refine hK _ _ ?_
          clear hK K
          repeat
            (refine GrowS.Wk.step (fun K hK => ?_)
             first
             | (refine GrowS.step_read (by rfl) (by rfl) (fun w => ext_refl w) ?_
                apply Exists.intro
                refine ⟨fun w hB hF => ?_, ?_⟩
                · replace hB := HBK.out w hB
                  skip
                  go_simp
                  try exact rfl
                go_simp
                refine hK _ _ ?_
                clear hK K)
             | (refine GrowS.step_off (by rfl) ?_
                go_simp
                refine hK _ _ ?_
                clear hK K))
          refine GrowS.Wk.step (fun K hK => ?_)
          refine GrowS.step_rel (by rfl) (by rfl) (fun w' hB hF => ?_) (fun v hv => ?_)
          · replace hB := HBK.out w' hB
            obtain ⟨_, c', ec, htv⟩ : True ∧ ∃ c', Value.agg (cellsV rk rb rd rs (.slice ra1 rn1 rc1) (.slice ra2 rn2 rc2)) = .agg c' ∧ TV w' (fun g => w5.heap.size ≤ g) T c' := hF 6 (by simp)
            simp only [Value.agg.injEq] at ec
            subst ec
            have HTVN := Lib.hid (htv.keep (w' := w'.alloc (.cells (.string ⟨key.toArray⟩ :: (cellsV rk rb rd rs (.slice ra1 rn1 rc1) (.slice ra2 rn2 rc2)).toList).toArray 43)) (A' := fun g => w5.heap.size ≤ g) (by simp) (fun g hg hlt => ⟨hg, ((ext_refl w').alloc (Nat.le_refl _) _).block g hlt⟩))
            clear htv hF
            simp only [cellsV] at HTVN ⊢
            go_simp
            exact GrowS.relUpon_value ((ext_refl w').alloc (Nat.le_refl _) _) ⟨_, rfl⟩ ⟨_, _, rfl, hB.size, heap_alloc_new _ _, HTVN.out⟩
          obtain ⟨gn, rfl⟩ := hv
          go_simp
          refine hK _ _ ?_
          clear hK K
          refine GrowS.Wk.nil ?_
          intro w3 hB hF
          replace hB : Ext w5 w3 := hB
          obtain ⟨gn', cn, eg, hgn, hnew, htv⟩ := hF 8
          simp only [Value.slice.injEq, Option.some.injEq, Addr.mk.injEq, and_true] at eg
          subst eg
          clear hF HBK h0
          obtain ⟨cs, hown, htl⟩ := HOW5.out.ext hB
          rw [(show (sortedM (tm.take i)).length = i by rw [sortedM_map, List.length_map, List.length_take]; omega)] at hown
          show wpAny _ _ _ _ (2 + 1) _ _ _
          refine wpAny_one 9 (by kernel_rfl) ?_
          refine wpOp_append rfl (by rfl) _ _ _ _ rfl (S + 3) 43 _ _ 9 128 (by kernel_rfl) (by rfl) (by rfl) (by rfl) (by kernel_rfl) (by rfl) (by decide) _ i cs (by rfl) hown _ 1 (.string ⟨key.toArray⟩ :: cn.toList) (by rfl) (src_one (e' := 43) (by kernel_rfl) hnew (by simp [htv.size]) (fun u hu => by
            rcases List.mem_cons.1 hu with rfl | hu
            · rfl
            · exact TV.one htv u hu)) (by simp only [maxLen]; omega) (by omega) (Nat.le_trans (Nat.le_trans hrs hr5) hB.size) ?_
          intro v' w4 hown4 hgr hor
          have hqo : some (S + 2) ≠ (Value.slice mA i mC).ownBlock := fun e => by have := (hown.lt _ e.symm).1; omega
          have hv3 := HV5.out.ext hB
          have hv4 : VAt w4 (S + 2) #[.int .i64 kk, .bool bb, .bool d1, .string ⟨d2.toArray⟩, .int .i64 d3, .string ⟨ss.toArray⟩, .slice vA tl.length vC, .slice mA i mC] := by
            unfold VAt; rw [hgr.block (S + 2) hv3.lt hqo]; exact hv3
          have hlt5 : ∀ k, (Value.slice mA i mC).ownBlock = some k → k < w5.heap.size := fun k e => by
            obtain ⟨cs', h1, _⟩ := HOW5.out
            exact (h1.lt k e).2
          have how4 : OwM (S + 3) v' (sortedM (tm.take (i + 1))) w4 := by
            rw [HTK.out]
            refine OwM.push hown htl (by rw [sortedM_map, List.length_map, List.length_take]; omega) (htv.keep (Nat.le_refl _) (fun g hg _ => ⟨⟨by omega, fun e => by have := hlt5 g e; omega⟩, rfl⟩)) hown4 hgr hor
          have hlf4 := (HLF5.out.ext hB).push hgr hor
          obtain ⟨v4A, v4C, ev4⟩ := how4.shape
          rw [show (sortedM (tm.take (i + 1))).length = i + 1 by rw [sortedM_map, List.length_map, List.length_take]; omega] at ev4
          subst ev4
          have hk4 : Kept (S + 3) (S + 2) w1 w4 := (HK5.out.trans (Kept.ofBelow (hB.mono (by omega)))).trans ⟨hgr.os, hgr.tape, hgr.output, hgr.size, fun k hk _ => hgr.block k (by have := hB.size; omega) (fun e => by have := (hown.lt k e.symm).1; omega)⟩
          have HV4 := Lib.hid (hv4.set1 7 (.slice v4A (i + 1) v4C))
          have HOW4 := Lib.hid (how4.setc (q := S + 2) (i := 7) (u := .slice v4A (i + 1) v4C) (by omega))
          have HLF4 := Lib.hid (hlf4.setc (q := S + 2) (i := 7) (u := .slice v4A (i + 1) v4C) (by omega))
          have HK4 := Lib.hid (hk4.trans (Kept.setCell (B := S + 3) (p := S + 2) (o := 7) (.slice v4A (i + 1) v4C)))
          have f7 := hv4.free 7
          have q7 := hv4.cell 7
          simp at q7
          clear hv3 hv4 how4 hk4 hlf4 hown4 hgr hor hqo hlt5 hown htl htv hnew hB
          refine wpAny_one 10 (by kernel_rfl) ?_
          refine wpOp_now rfl (by rfl) ?_
          unfold Oper.wp
          go_simp
          refine wpAny_one 11 (by kernel_rfl) ?_
          refine wpOp_now rfl (by rfl) ?_
          unfold Oper.wp
          go_simp
          show wpAny _ _ _ _ 0 _ _ _
          refine ⟨by decide +kernel, ?_⟩
          have w9 : IntKind.i64.wrap ((i : Int) + 1) = ((i + 1 : Nat) : Int) := by rw [IntWalk.i64_in _ (by omega)]; omega
          clear q7 f7
          go_wp2_with fail
          go_roundw
          case rel => exact ⟨i + 1, _, by go_num, by omega, by simpa using HV4.out, HOW4.out, HLF4.out, fun e => by omega, HK4.out⟩
          case measure => simp [intOf]; omega
        · have hnlt : ¬ ((i : Int) < tm.length) := by omega
          obtain rfl : i = tm.length := by omega
          have how2 := HOW.out
          rw [List.take_length] at how2
          replace HOW := Lib.hid how2
          clear how2
          have HR1 : Hid (VAt wr (S + 1) _) := Lib.hid (by unfold VAt; rw [HKP.out.block (S + 1) (by omega) (by omega)]; exact HV.out.ext HX1.out)
          cases htm : tm with
          | nil =>
            subst htm
            obtain rfl := HZ.out rfl
            obtain ⟨cs, htl, hrl⟩ := HLF.out
            have HTVF : Hid (TV wr (fun g => S + 3 ≤ g) (.mk kk bb ⟨d1, d2, d3⟩ ss (sortedL tl) (sortM (sortedM []))) (cellsV kk bb ⟨d1, d2, d3⟩ ss (.slice vA tl.length vC) (.slice none 0 0))) := Lib.hid (by
              have hll : (sortedL tl).length = tl.length := by rw [sortedL_map, List.length_map]
              rw [hll] at hrl
              refine TV.mk (htl.keep (Nat.le_refl _) (fun g hg _ => ⟨hg.1, rfl⟩)) (by rw [hll]; exact hrl.keep (Nat.le_refl _) (fun g hg _ => ⟨hg.1, rfl⟩)) ?_ ?_ (cm := [])
              · rw [sortedM]; exact .nil
              · rw [sortedM]; exact RowAt.nil _ _ _ _ _ (by omega))
            clear htl hrl HLF HOW HZ
            have q7 := HV1.out.cell 7
            simp at q7
            go_wp2_with fail
            refine (sortM_none wr).mono ?_
            rintro e w9 ⟨rfl, rfl⟩
            have HR9 := HR1
            clear q7
            have v0 := HV1.out.cell 0; have v1 := HV1.out.cell 1; have v2 := HV1.out.cell 2; have v3 := HV1.out.cell 3; have v4 := HV1.out.cell 4; have v5 := HV1.out.cell 5; have v6 := HV1.out.cell 6; have v7 := HV1.out.cell 7
            simp at v0 v1 v2 v3 v4 v5 v6 v7
            have u0 := HR9.out.cell 0; have u1 := HR9.out.cell 1; have u2 := HR9.out.cell 2; have u3 := HR9.out.cell 3; have u4 := HR9.out.cell 4; have u5 := HR9.out.cell 5; have u6 := HR9.out.cell 6; have u7 := HR9.out.cell 7
            simp at u0 u1 u2 u3 u4 u5 u6 u7
            have f0 := HR9.out.free 0; have f1 := HR9.out.free 1; have f2 := HR9.out.free 2; have f3 := HR9.out.free 3; have f4 := HR9.out.free 4; have f5 := HR9.out.free 5; have f6 := HR9.out.free 6; have f7 := HR9.out.free 7
            go_wp2_with fail
            clear v0 v1 v2 v3 v4 v5 v6 v7 u0 u1 u2 u3 u4 u5 u6 u7 f0 f1 f2 f3 f4 f5 f6 f7
            have hV := VAt.store8 HR9.out (.int .i64 kk) (.bool bb) (.bool d1) (.string ⟨d2.toArray⟩) (.int .i64 d3) (.string ⟨ss.toArray⟩) (.slice vA tl.length vC) (.slice none 0 0)
            have HV := Lib.hid hV
            have v0 := HV.out.cell 0; have v1 := HV.out.cell 1; have v2 := HV.out.cell 2; have v3 := HV.out.cell 3; have v4 := HV.out.cell 4; have v5 := HV.out.cell 5; have v6 := HV.out.cell 6; have v7 := HV.out.cell 7
            simp only [List.getElem?_toArray, List.getElem?_cons_zero, List.getElem?_cons_succ] at v0 v1 v2 v3 v4 v5 v6 v7
            refine bodyPost_ret (v := .agg #[.int .i64 kk, .bool bb, .bool d1, .string ⟨d2.toArray⟩, .int .i64 d3, .string ⟨ss.toArray⟩, .slice vA tl.length vC, .slice none 0 0]) (by simp [results, Tryz.results32, go_sem, v0, v1, v2, v3, v4, v5, v6, v7]) rfl ?_
            rw [sortedT]
            exact ⟨_, rfl, HTVF.out.keep (by simp [World.setCell]) (fun g hg hlt => ⟨by rw [HS.out]; omega, heap8 (by omega)⟩), ext_set8 ((ext_trans HE.out HX1.out).trans (by rw [HS.out]; exact (HKP.out.mono (by omega)).below (by omega))) (by rw [HS.out]; omega)⟩
          | cons p0 m0 =>
            have htm0 : 0 < tm.length := by rw [htm]; simp
            rw [← htm]
            clear htm
            have hsm : (sortedM tm).length = tm.length := by rw [sortedM_map, List.length_map]
            have hkeys : ∀ p ∈ sortedM tm, p.1.length ≤ 35184372088000 := fun p hp => by
              rw [sortedM_map] at hp
              obtain ⟨q, hq, rfl⟩ := List.mem_map.1 hp
              have := (IHM.out q hq).2.2.2
              simp only; omega
            obtain ⟨g, cap, f, ms, evM, hg, hrs, htmc, hf⟩ := HOW.out.rowS (by omega) hkeys
            rw [hsm] at evM hrs
            subst evM
            have hg2 : g ≠ S + 2 := by omega
            have HRS := Lib.hid hrs
            have HTMC := Lib.hid htmc
            have HF := Lib.hid hf
            have HSM := Lib.hid hsm
            clear hrs htmc hf hsm hkeys HOW HZ
            have q7 := HV1.out.cell 7
            simp at q7
            go_wp2_with fail
            refine (sortS_any g cap tm.length f wr HRS.out hml).mono ?_
            rintro e w9 ⟨rfl, f', hr', hsw, hso, hk⟩
            have hsr := sorted_row (base := 0) (m := sortedM tm) HTMC.out (by rw [keys_sortedM]; exact HND.out) (fun b hb => hb.2) f HF.out (by rw [HSM.out]; exact hr') (by rw [HSM.out]; exact hsw) (by rw [HSM.out]; exact hso) hk
            obtain ⟨hsl, csm, htm, hrowm⟩ := hsr
            rw [HSM.out] at hsl
            have HTVF : Hid (TV w9 (fun g => S + 3 ≤ g) (.mk kk bb ⟨d1, d2, d3⟩ ss (sortedL tl) (sortM (sortedM tm))) (cellsV kk bb ⟨d1, d2, d3⟩ ss (.slice vA tl.length vC) (.slice (some ⟨g, 0, none⟩) tm.length cap))) := Lib.hid (by
              have hll : (sortedL tl).length = tl.length := by rw [sortedL_map, List.length_map]
              obtain ⟨cs, htl, hrl⟩ := HLF.out
              rw [hll] at hrl
              have hkk : ∀ b, (S + 3 ≤ b ∧ (Value.slice (some ⟨g, 0, none⟩) tm.length cap).ownBlock ≠ some b) → b < wr.heap.size → S + 3 ≤ b ∧ w9.heap[b]? = wr.heap[b]? := fun b hb hlt => ⟨hb.1, hk.block b hlt (fun e => hb.2 (by rw [e]; rfl))⟩
              refine TV.mk (htl.keep hk.size hkk) (by rw [hll]; exact hrl.keep hk.size hkk) (htm.keep (Nat.le_refl _) (fun b hb _ => ⟨hb.1, rfl⟩)) (by rw [hsl]; have := hrowm (fun g => S + 3 ≤ g) hg; rw [HSM.out] at this; exact this))
            have HV9 : Hid (VAt w9 (S + 2) _) := Lib.hid (HV1.out.kept hk (Ne.symm hg2))
            have HR9 : Hid (VAt w9 (S + 1) _) := Lib.hid (HR1.out.kept hk (by omega))
            have HK9 : Hid (Ext w w9) := Lib.hid ((ext_trans HE.out HX1.out).trans (by rw [HS.out]; exact ((HKP.out.mono (by omega)).below (by omega)).trans ((hk.mono (show S ≤ wr.heap.size by have := HR1.out.lt; omega)).below (by omega))))
            clear q7 hr' hsw hso hk hsl htm hrowm HLF HV1 HR1 HKP HRS HTMC HF
            have v0 := HV9.out.cell 0; have v1 := HV9.out.cell 1; have v2 := HV9.out.cell 2; have v3 := HV9.out.cell 3; have v4 := HV9.out.cell 4; have v5 := HV9.out.cell 5; have v6 := HV9.out.cell 6; have v7 := HV9.out.cell 7
            simp at v0 v1 v2 v3 v4 v5 v6 v7
            have u0 := HR9.out.cell 0; have u1 := HR9.out.cell 1; have u2 := HR9.out.cell 2; have u3 := HR9.out.cell 3; have u4 := HR9.out.cell 4; have u5 := HR9.out.cell 5; have u6 := HR9.out.cell 6; have u7 := HR9.out.cell 7
            simp at u0 u1 u2 u3 u4 u5 u6 u7
            have f0 := HR9.out.free 0; have f1 := HR9.out.free 1; have f2 := HR9.out.free 2; have f3 := HR9.out.free 3; have f4 := HR9.out.free 4; have f5 := HR9.out.free 5; have f6 := HR9.out.free 6; have f7 := HR9.out.free 7
            go_wp2_with fail
            clear v0 v1 v2 v3 v4 v5 v6 v7 u0 u1 u2 u3 u4 u5 u6 u7 f0 f1 f2 f3 f4 f5 f6 f7
            have hV := VAt.store8 HR9.out (.int .i64 kk) (.bool bb) (.bool d1) (.string ⟨d2.toArray⟩) (.int .i64 d3) (.string ⟨ss.toArray⟩) (.slice vA tl.length vC) (.slice (some ⟨g, 0, none⟩) tm.length cap)
            have HV := Lib.hid hV
            have v0 := HV.out.cell 0; have v1 := HV.out.cell 1; have v2 := HV.out.cell 2; have v3 := HV.out.cell 3; have v4 := HV.out.cell 4; have v5 := HV.out.cell 5; have v6 := HV.out.cell 6; have v7 := HV.out.cell 7
            simp only [List.getElem?_toArray, List.getElem?_cons_zero, List.getElem?_cons_succ] at v0 v1 v2 v3 v4 v5 v6 v7
            refine bodyPost_ret (v := .agg #[.int .i64 kk, .bool bb, .bool d1, .string ⟨d2.toArray⟩, .int .i64 d3, .string ⟨ss.toArray⟩, .slice vA tl.length vC, .slice (some ⟨g, 0, none⟩) tm.length cap]) (by simp [results, Tryz.results32, go_sem, v0, v1, v2, v3, v4, v5, v6, v7]) rfl ?_
            rw [sortedT]
            exact ⟨_, rfl, HTVF.out.keep (by simp [World.setCell]) (fun g hg hlt => ⟨by rw [HS.out]; omega, heap8 (by omega)⟩), ext_set8 HK9.out (by rw [HS.out]; omega)⟩
theorem srt_all : ∀ (N : Nat) (t : Tree), SizeOf.sizeOf t < N → SrtOk t
  | 0, _, h => by omega
  | N + 1, t, h => srt_step t (fun x hx => srt_all N x (by have := ins_size hx; omega))
theorem sorted_any (t : Tree) (c : Array Value) (A : Nat → Prop) (w : World) (h : TV w A t c) (hw : weightT t ≤ 1000000) (hd : distT t) :
    Calls Tryz.prog 32 #[.agg c] w (fun e w' => ∃ c', e = .returned (.agg c') ∧ TV w' (fun g => w.heap.size ≤ g) (sortedT t) c' ∧ Ext w w') :=
  srt_all _ t (Nat.lt_succ_self _) c A w h hw hd
end Go.Proofs.YtjapbjmeoaagmaaGreatDoor
end

section
set_option linter.unusedVariables false
set_option linter.unusedSimpArgs false
set_option maxRecDepth 100000
namespace Orange
mutual
def lenT : Tree → Nat
  | .mk kd b d s l m =>
    if kd = 0 then 4 else if kd = 1 then 5 else if kd = 2 then (printP d).length else if kd = 3 then (quote s).length
    else if kd = 4 then 2 + lenL l else 2 + lenM m
def lenL : List Tree → Nat
  | [] => 0
  | t :: l => 1 + lenT t + lenL l
def lenM : List Mem1 → Nat
  | [] => 0
  | (k, t) :: m => 2 + (quote k).length + lenT t + lenM m
end
theorem lenL_append : ∀ l l' : List Tree, lenL (l ++ l') = lenL l + lenL l'
  | [], l' => by rw [List.nil_append, lenL]; omega
  | t :: l, l' => by rw [List.cons_append, lenL, lenL, lenL_append l l']; omega
theorem lenM_append : ∀ l l' : List Mem1, lenM (l ++ l') = lenM l + lenM l'
  | [], l' => by rw [List.nil_append, lenM]; omega
  | (k, t) :: l, l' => by rw [List.cons_append, lenM, lenM, lenM_append l l']; omega
theorem lenM_perm {l m : List Mem1} (h : l.Perm m) : lenM l = lenM m := by
  induction h with
  | nil => rfl
  | cons x _ ih => obtain ⟨k, t⟩ := x; rw [lenM, lenM, ih]
  | swap x y l => obtain ⟨k, t⟩ := x; obtain ⟨k', t'⟩ := y; rw [lenM, lenM, lenM, lenM]; omega
  | trans _ _ h1 h2 => rw [h1, h2]
mutual
theorem lenT_sorted : ∀ t : Tree, lenT (sortedT t) = lenT t
  | .mk kd b d s l m => by rw [sortedT, lenT, lenT, lenL_sorted l, lenM_perm (sortM_perm _), lenM_sorted m]
theorem lenL_sorted : ∀ l : List Tree, lenL (sortedL l) = lenL l
  | [] => by rw [sortedL]
  | t :: l => by rw [sortedL, lenL, lenL, lenT_sorted t, lenL_sorted l]
theorem lenM_sorted : ∀ m : List Mem1, lenM (sortedM m) = lenM m
  | [] => by rw [sortedM]
  | (k, t) :: m => by rw [sortedM, lenM, lenM, lenT_sorted t, lenM_sorted m]
end
mutual
theorem out_lenT : ∀ (t : Tree) (k : Nat), (outT (-1) k t).length ≤ lenT t
  | .mk kd b d s l m, k => by
    rw [outT, lenT]
    split
    · exact Nat.le_refl _
    split
    · split <;> simp
    split
    · exact Nat.le_refl _
    split
    · exact Nat.le_refl _
    split
    · have := out_lenL l true (k + 1)
      have hg : (if l.length = 0 then [] else gapP (-1) k) = ([] : List UInt8) := by split <;> rfl
      rw [hg]; simp; omega
    · have := out_lenM m true (k + 1)
      have hg : (if m.length = 0 then [] else gapP (-1) k) = ([] : List UInt8) := by split <;> rfl
      rw [hg]; simp; omega
theorem out_lenL : ∀ (l : List Tree) (f : Bool) (k : Nat), (outL (-1) k f l).length ≤ lenL l
  | [], f, k => by rw [outL, lenL]; exact Nat.le_refl _
  | t :: l, f, k => by
    have h1 := out_lenT t k
    have h2 := out_lenL l false k
    have h3 : (if f = true then [] else ([44] : List UInt8)).length ≤ 1 := by split <;> simp
    rw [outL, lenL, gapP_flat]
    simp only [List.length_append, List.length_nil]
    omega
theorem out_lenM : ∀ (m : List Mem1) (f : Bool) (k : Nat), (outM (-1) k f m).length ≤ lenM m
  | [], f, k => by rw [outM, lenM]; exact Nat.le_refl _
  | (key, t) :: m, f, k => by
    have h1 := out_lenT t k
    have h2 := out_lenM m false k
    have h3 : (if f = true then [] else ([44] : List UInt8)).length ≤ 1 := by split <;> simp
    rw [outM, lenM, gapP_flat, blankP_flat]
    simp only [List.length_append, List.length_nil, List.length_cons]
    omega
end
theorem weightM_perm {l m : List Mem1} (h : l.Perm m) : weightM l = weightM m := by
  induction h with
  | nil => rfl
  | cons x _ ih => obtain ⟨k, t⟩ := x; rw [weightM, weightM, ih]
  | swap x y l => obtain ⟨k, t⟩ := x; obtain ⟨k', t'⟩ := y; rw [weightM, weightM, weightM, weightM]; omega
  | trans _ _ h1 h2 => rw [h1, h2]
mutual
theorem weightT_sorted : ∀ t : Tree, weightT (sortedT t) = weightT t
  | .mk k b d s l m => by rw [sortedT, weightT, weightT, weightL_sorted l, weightM_perm (sortM_perm _), weightM_sorted m]
theorem weightL_sorted : ∀ l : List Tree, weightL (sortedL l) = weightL l
  | [] => by rw [sortedL]
  | t :: l => by rw [sortedL, weightL, weightL, weightT_sorted t, weightL_sorted l]
theorem weightM_sorted : ∀ m : List Mem1, weightM (sortedM m) = weightM m
  | [] => by rw [sortedM]
  | (k, t) :: m => by rw [sortedM, weightM, weightM, weightT_sorted t, weightM_sorted m]
end
theorem trimL0_len (l : List UInt8) : (trimL0 l).length ≤ l.length := (List.dropWhile_sublist (p := (· == 48)) (l := l)).length_le
theorem formP_len (neg : Bool) (l : List UInt8) (x : Int) : (formP neg l x).1.digits.length ≤ l.length := by
  have h1 := trimR0_len (trimL0 l)
  have h2 := trimL0_len l
  unfold formP
  simp only
  split
  · simp [Num.zero]
  split
  · exact Nat.le_trans h1 h2
  · simp [Num.zero]
theorem decP_len (s : List UInt8) : (decP s).1.digits.length ≤ s.length := by
  unfold decP
  split
  · simp [Num.zero]
  simp only
  have h0 : (if s.head? = some 45 then s.drop 1 else s).length ≤ s.length := by split <;> simp
  generalize (if s.head? = some 45 then s.drop 1 else s) = u at *
  have h1 : (u.takeWhile isDig).length + (u.dropWhile isDig).length = u.length := by
    rw [← List.length_append, List.takeWhile_append_dropWhile]
  generalize u.takeWhile isDig = W at *
  generalize u.dropWhile isDig = R at *
  have h2 : (if decide (R.head? = some 46) = true then (R.drop 1).takeWhile isDig else []).length ≤ R.length := by
    split
    · have := run_le (R.drop 1)
      have h3 : (R.drop 1).length ≤ R.length := by simp
      omega
    · simp
  generalize (if decide (R.head? = some 46) = true then (R.drop 1).takeWhile isDig else []) = Q at *
  generalize expP _ = e
  split
  · simp [Num.zero]
  · refine Nat.le_trans (formP_len _ _ _) ?_
    rw [List.length_append]; omega
theorem itoa_len (n : Int) (h0 : -999 ≤ n) (h1 : n ≤ 999) : (itoaP n).length ≤ 4 := by
  unfold itoaP
  split
  · have := decD_len 3 n.natAbs (by decide) (by omega)
    rw [List.length_cons]; omega
  · have := decD_len 3 n.toNat (by decide) (by omega)
    omega
theorem printP_len (d : Num) : (printP d).length ≤ d.digits.length + 23 := by
  unfold printP
  split
  · rename_i hs
    have hw : (writtenP d).length ≤ d.digits.length + 22 := by
      unfold sane at hs
      split at hs
      · rename_i h0
        simp only [Bool.and_eq_true, decide_eq_true_eq] at hs
        have hh : height d = 0 := by unfold height; omega
        unfold writtenP
        rw [if_pos (by omega), hh, h0]
        simp [zeros]; omega
      split at hs
      · cases hs
      split at hs
      · cases hs
      simp only [Bool.and_eq_true, decide_eq_true_eq] at hs
      obtain ⟨⟨⟨h1, h2⟩, _⟩, _⟩ := hs
      unfold writtenP
      split
      · simp [zeros]; omega
      split
      · simp; omega
      split
      · simp [zeros]; omega
      · have := itoa_len (height d - 1) (by omega) (by omega)
        have h3 : (if 1 < d.digits.length then 46 :: d.digits.drop 1 else []).length ≤ d.digits.length + 1 := by
          split
          · rw [List.length_cons, List.length_drop]; omega
          · simp
        have h4 : (if 0 < height d then [101, 43] else ([101] : List UInt8)).length ≤ 2 := by split <;> simp
        have h5 : (d.digits.take 1).length ≤ 1 := by rw [List.length_take]; omega
        simp only [List.length_append]; omega
    split
    · simp
    split
    · rw [List.length_cons]; omega
    · omega
  · simp
theorem quote_len (s : List UInt8) : (quote s).length ≤ 6 * s.length + 2 := by
  have := quoL_len s
  unfold quote
  simp; omega
end Orange
namespace Go.Proofs.YtjapbjmeoaagmaaGreatDoor
open Go.RowKit Go.Mem Orange
theorem valueP_len (X : List UInt8) : ∀ (f deep k n : Nat) (t : Tree) (a m : Nat), k ≤ X.length → valueP X f deep k n = .ok t a m → lenT t + 1 + 43 * k ≤ 43 * a ∧ k < a ∧ a ≤ X.length
  | 0, deep, k, n, t, a, m, hk, h => by rw [valueP] at h; cases h
  | f + 1, deep, k, n, t, a, m, hk, h => by
    have hag := valueP_agree (Z := X) (f + 1) deep k n t a m hk h
    rw [valueP] at h
    have hw1 := whiteN_ge X k hk
    by_cases hb : peekP X (whiteN X k) ≠ 0 ∧ begs.contains (peekP X (whiteN X k)) = true
    case neg => rw [if_pos hb] at h; cases h
    rw [if_neg (fun h => h hb)] at h
    by_cases hn : 4096 < n + 1
    case pos => rw [if_pos hn] at h; cases h
    rw [if_neg hn] at h
    have hlt : whiteN X k < X.length := (peekP_some rfl hb.1).2
    refine ⟨?_, hag.1, hag.2.1⟩
    generalize whiteN X k = p at *
    generalize peekP X p = c at *
    have hag1 := hag.1
    have hag2 := hag.2.1
    clear hag
    by_cases h116 : c = 116
    · rw [if_pos h116] at h
      obtain ⟨i1, i2, i3, i4, i5⟩ := wordP_agree (Z := X) (n' := 0) (Nat.le_of_lt hlt) h
      subst i3; show 5 + 1 + 43 * k ≤ _; omega
    rw [if_neg h116] at h
    by_cases h102 : c = 102
    · rw [if_pos h102] at h
      obtain ⟨i1, i2, i3, i4, i5⟩ := wordP_agree (Z := X) (n' := 0) (Nat.le_of_lt hlt) h
      subst i3; show 5 + 1 + 43 * k ≤ _; omega
    rw [if_neg h102] at h
    by_cases h110 : c = 110
    · rw [if_pos h110] at h
      obtain ⟨i1, i2, i3, i4, i5⟩ := wordP_agree (Z := X) (n' := 0) (Nat.le_of_lt hlt) h
      subst i3; show 4 + 1 + 43 * k ≤ _; omega
    rw [if_neg h110] at h
    by_cases h34 : c = 34
    · rw [if_pos h34] at h
      obtain ⟨u, h1, rfl⟩ := PR.map_ok h
      obtain ⟨g1, g2, g3, g4, g5⟩ := textP_good h1
      have hq := quote_len u
      rw [tStr, lenT]
      show (quote u).length + 1 + _ ≤ _
      omega
    rw [if_neg h34] at h
    by_cases h91 : c = 91
    · rw [if_pos h91] at h
      by_cases hdp : 64 ≤ deep
      · rw [if_pos hdp] at h; cases h
      rw [if_neg hdp] at h
      obtain ⟨l, h1, rfl⟩ := PR.map_ok h
      have hinv := openP_inv (I := fun s a _ => lenL s + 43 * p ≤ 43 * a) (fun s a a' n' h h' => by omega) (fun s k' n' s1 a1 m1 hk' hI hr => by
        obtain ⟨x, h2, rfl⟩ := PR.map_ok (f := fun t => s ++ [t]) hr
        obtain ⟨j1, j2, j3⟩ := valueP_len X f (deep + 1) k' n' x a1 m1 hk' h2
        refine ⟨?_, j3⟩
        rw [lenL_append, lenL, lenL]
        omega) hlt (by rw [lenL]; omega) h1
      obtain ⟨a', rfl, hinv⟩ := hinv
      rw [tArr, lenT]
      show 2 + lenL l + 1 + _ ≤ _
      omega
    rw [if_neg h91] at h
    by_cases h123 : c = 123
    · rw [if_pos h123] at h
      by_cases hdp : 64 ≤ deep
      · rw [if_pos hdp] at h; cases h
      rw [if_neg hdp] at h
      obtain ⟨l, h1, rfl⟩ := PR.map_ok h
      have hinv := openP_inv (I := fun s a _ => lenM s + 43 * p ≤ 43 * a) (fun s a a' n' h h' => by omega) (fun s k' n' s1 a1 m1 hk' hI hr => by
        unfold itemO at hr
        cases ht : textP X (whiteN X k') n' with
        | err e b => rw [ht] at hr; cases hr
        | ok key a2 n2 =>
          rw [ht] at hr
          simp only at hr
          obtain ⟨g1, g2, g3, g4, g5⟩ := textP_good ht
          have hw2 := whiteN_ge X a2 g4
          have hw3 := whiteN_ge X k' hk'
          split at hr
          · cases hr
          split at hr
          · rename_i h58
            obtain ⟨hl58, _⟩ := List.getElem?_eq_some_iff.1 h58
            obtain ⟨x, h2, rfl⟩ := PR.map_ok hr
            obtain ⟨j1, j2, j3⟩ := valueP_len X f (deep + 1) _ _ x a1 m1 (by omega) h2
            have hq := quote_len key
            refine ⟨?_, j3⟩
            rw [lenM_append, lenM, lenM]
            omega
          · cases hr) hlt (by rw [lenM]; omega) h1
      obtain ⟨a', rfl, hinv⟩ := hinv
      rw [tObj, lenT]
      show 2 + lenM l + 1 + _ ≤ _
      omega
    rw [if_neg h123] at h
    have hpa : p < a := by
      obtain ⟨i1, i2, i3, i4, _⟩ := numP_agree (Z := X) (n' := 0) (Nat.le_of_lt hlt) h
      rcases Nat.lt_or_eq_of_le i1 with h' | h'
      · exact h'
      · exfalso
        unfold numP at h
        simp only at h
        split at h
        · rename_i hd
          simp only [PR.ok.injEq] at h
          obtain ⟨_, e, _⟩ := h
          rw [e, ← h', Nat.sub_self, List.take_zero] at hd
          exact absurd hd (by decide)
        · cases h
    unfold numP at h
    simp only at h
    split at h
    · rename_i hd
      simp only [PR.ok.injEq] at h
      obtain ⟨rfl, e2, rfl⟩ := h
      have h40 := decP_len ((X.drop p).take (numEnd X p - p))
      rw [List.length_take] at h40
      have hpl := printP_len (decP ((X.drop p).take (numEnd X p - p))).1
      rw [tNum, lenT]
      show (printP _).length + 1 + _ ≤ _
      omega
    · cases h
theorem again_law {b : List UInt8} {t : Tree} {p : Nat} (hb : b.length ≤ 1500) (h : parseP b = (t, 0, p)) :
    printT t = (outT (-1) 0 (sortedT t), 0) ∧ parseP (outT (-1) 0 (sortedT t)) = (sortedT t, 0, (outT (-1) 0 (sortedT t)).length) ∧ printT (sortedT t) = (outT (-1) 0 (sortedT t), 0) ∧ sameT t (sortedT t) = true ∧ weightT t ≤ 75000 ∧ weightT (sortedT t) = weightT t := by
  have hz : oneP b 0 = valueP b 65 0 0 0 := by unfold oneP; rw [show clampN b.length 0 = 0 from by unfold clampN; omega]
  rw [parseP, if_neg (by omega)] at h
  have hfine := oneP_fine b 0
  cases ho : oneP b 0 with
  | err e a =>
    rw [ho] at h hfine
    simp only [Prod.mk.injEq] at h
    exact absurd h.2.1 hfine.1
  | ok t' a m =>
    rw [ho] at h
    simp only at h
    split at h
    · simp at h
    simp only [Prod.mk.injEq] at h
    obtain ⟨rfl, _, _⟩ := h
    rw [hz] at ho
    obtain ⟨h1, h2, h3, h4⟩ := valueP_sane b 65 0 0 0 t' a m (Nat.zero_le _) ho
    obtain ⟨k1, k2, k3⟩ := valueP_len b 65 0 0 0 t' a m (Nat.zero_le _) ho
    obtain ⟨g1, g2⟩ := sane_sorted h1
    have hl : (outT (-1) 0 (sortedT t')).length ≤ 65536 := by
      have e1 := out_lenT (sortedT t') 0
      rw [lenT_sorted] at e1
      omega
    have hp : ∀ x, sortedT x = sortedT t' → saneT 0 0 x = (0, m) → printT x = (outT (-1) 0 (sortedT t'), 0) := fun x hx hs => by
      unfold printT toldT
      rw [hs]
      simp only [ne_eq, not_true_eq_false, if_false]
      rw [hx]
      unfold shortT
      simp only [ne_eq, not_true_eq_false, if_false]
      rw [if_neg (by omega)]
    have hl2 := sorts_law (OkT.saneP (deep := 0) h1) (OkT.saneP (deep := 0) g1)
    refine ⟨hp t' rfl h1, parse_out (-1) g1 hl, hp (sortedT t') g2 g1, hl2.2.2.2.1.2 g2.symm, by omega, weightT_sorted t'⟩
end Go.Proofs.YtjapbjmeoaagmaaGreatDoor
end

section
set_option linter.unusedVariables false
set_option linter.unusedSimpArgs false
set_option maxRecDepth 100000
namespace Orange
open Go.Proofs.YtjapbjmeoaagmaaGreatDoor (saneT saneL saneM fieldsT twiceP saneT_ins saneT_bd badKey parse_out fields_shape)
theorem same_law {v w : Tree} (hv : (printT v).2 = 0) (hw : (printT w).2 = 0) : sameT v w = true ↔ (printT v).1 = (printT w).1 := by
  obtain ⟨⟨m, hs⟩, h2, h3⟩ := printT_zero hv
  obtain ⟨⟨m', hs'⟩, h2', h3'⟩ := printT_zero hw
  rw [(sorts_law (OkT.saneP (deep := 0) hs) (OkT.saneP (deep := 0) hs')).2.2.2.1]
  constructor
  · intro h; rw [h2, h2', h]
  · intro h
    have h1 := (back_law hv).1
    rw [h, (back_law hw).1] at h1
    simp only [Prod.mk.injEq] at h1
    exact h1.1.symm
theorem printP_len2 (d : Num) : (printP d).length + 4 ≤ 14 * (1 + d.digits.length) := by
  by_cases h : d.digits = []
  · unfold printP
    rw [if_pos h]
    split
    · rw [List.length_singleton]; omega
    · rw [List.length_nil]; omega
  · have h1 := printP_len d
    have : d.digits.length ≠ 0 := fun e => h (List.eq_nil_of_length_eq_zero e)
    omega
mutual
theorem lenT_weight : ∀ t : Tree, lenT t + 4 ≤ 14 * weightT t
  | .mk kd b d s l m => by
    have h1 := lenL_weight l
    have h2 := lenM_weight m
    have h3 := printP_len2 d
    have h4 := quote_len s
    rw [lenT, weightT]
    split
    · omega
    split
    · omega
    split
    · omega
    split
    · omega
    split
    · omega
    · omega
theorem lenL_weight : ∀ l : List Tree, lenL l ≤ 14 * weightL l
  | [] => by rw [lenL]; omega
  | t :: l => by have h1 := lenT_weight t; have h2 := lenL_weight l; rw [lenL, weightL]; omega
theorem lenM_weight : ∀ m : List Mem1, lenM m ≤ 14 * weightM m
  | [] => by rw [lenM]; omega
  | (k, t) :: m => by have h1 := lenT_weight t; have h2 := lenM_weight m; have h3 := quote_len k; rw [lenM, weightM]; omega
end
end Orange
end

section
set_option linter.unusedVariables false
set_option linter.unusedSimpArgs false
set_option maxRecDepth 100000
namespace Orange
theorem gap_len (by' : Int) (k D : Nat) (h1 : by' ≤ 16) (hk : k ≤ D) : (gapP by' k).length + 2 ≤ 3 + 16 * D := by
  unfold gapP
  split
  · rw [List.length_nil]; omega
  · rw [List.length_cons, List.length_replicate]
    have : by'.toNat * k ≤ 16 * D := Nat.mul_le_mul (by omega) hk
    omega
theorem blank_len (by' : Int) : (blankP by').length ≤ 1 := by unfold blankP; split <;> simp
mutual
theorem outT_top (by' : Int) (h1 : by' ≤ 16) : ∀ (t : Tree) (k D : Nat), k + countT t ≤ D → (outT by' k t).length + (3 + 16 * D) ≤ lenT t + 1 + 3 * (countT t * (3 + 16 * D))
  | .mk kd b d s l m, k, D, hD => by
    rw [countT] at hD
    have hl := outL_top by' h1 l true (k + 1) D (by omega)
    have hm := outM_top by' h1 m true (k + 1) D (by omega)
    have hg := gap_len by' k D h1 (by omega)
    have hg2 : (if l.length = 0 then [] else gapP by' k).length + 2 ≤ 3 + 16 * D := by split <;> first | exact hg | (rw [List.length_nil]; omega)
    have hg3 : (if m.length = 0 then [] else gapP by' k).length + 2 ≤ 3 + 16 * D := by split <;> first | exact hg | (rw [List.length_nil]; omega)
    rw [outT, lenT, countT, Nat.add_mul, Nat.add_mul, Nat.one_mul]
    generalize countL l * (3 + 16 * D) = X at *
    generalize countM m * (3 + 16 * D) = Y at *
    split
    · simp; omega
    split
    · have : (if b = true then ([116, 114, 117, 101] : List UInt8) else [102, 97, 108, 115, 101]).length ≤ 5 := by split <;> simp
      omega
    split
    · omega
    split
    · omega
    split
    · simp only [List.length_cons, List.length_append, List.length_nil]; omega
    · simp only [List.length_cons, List.length_append, List.length_nil]; omega
theorem outL_top (by' : Int) (h1 : by' ≤ 16) : ∀ (l : List Tree) (f : Bool) (k D : Nat), k + countL l ≤ D → (outL by' k f l).length ≤ lenL l + 3 * (countL l * (3 + 16 * D))
  | [], f, k, D, _ => by rw [outL]; simp
  | t :: l, f, k, D, hD => by
    rw [countL] at hD
    have h2 := outT_top by' h1 t k D (by omega)
    have h3 := outL_top by' h1 l false k D (by omega)
    have hg := gap_len by' k D h1 (by omega)
    have hc : (if f = true then [] else ([44] : List UInt8)).length ≤ 1 := by split <;> simp
    rw [outL, lenL, countL, Nat.add_mul]
    generalize countL l * (3 + 16 * D) = X at *
    generalize countT t * (3 + 16 * D) = Y at *
    simp only [List.length_append]
    omega
theorem outM_top (by' : Int) (h1 : by' ≤ 16) : ∀ (m : List Mem1) (f : Bool) (k D : Nat), k + countM m ≤ D → (outM by' k f m).length ≤ lenM m + 3 * (countM m * (3 + 16 * D))
  | [], f, k, D, _ => by rw [outM]; simp
  | (key, t) :: m, f, k, D, hD => by
    rw [countM] at hD
    have h2 := outT_top by' h1 t k D (by omega)
    have h3 := outM_top by' h1 m false k D (by omega)
    have hg := gap_len by' k D h1 (by omega)
    have hb := blank_len by'
    have hc : (if f = true then [] else ([44] : List UInt8)).length ≤ 1 := by split <;> simp
    rw [outM, lenM, countM, Nat.add_mul]
    generalize countM m * (3 + 16 * D) = X at *
    generalize countT t * (3 + 16 * D) = Y at *
    simp only [List.length_append, List.length_cons]
    omega
end
theorem out_big {by' : Int} {t : Tree} (h1 : by' ≤ 16) (hw : weightT t ≤ 1000000) : (outT by' 0 t).length ≤ 140000000000000 := by
  have h2 := outT_top by' h1 t 0 1000000 (by have := count_weight t; omega)
  have h3 := lenT_weight t
  have h4 : countT t * (3 + 16 * 1000000) ≤ 1000000 * (3 + 16 * 1000000) := Nat.mul_le_mul_right _ (by have := count_weight t; omega)
  omega
theorem out_ne {by' : Int} {k deep : Nat} {t : Tree} (h : OkT deep t) : outT by' k t ≠ [] := by
  obtain ⟨c, T, e, _⟩ := Go.Proofs.YtjapbjmeoaagmaaGreatDoor.out_head by' k h.fields
  rw [e]; simp
end Orange
namespace Go.Proofs.YtjapbjmeoaagmaaGreatDoor
open Go.RowKit Go.Mem Orange
theorem Bd.bld {w : World} {b : Nat} {t : TypeId} {ex : List Value} {l : List UInt8} {o : Option Nat} (h : Bd w b t ex l o) : Bld w (b + 1) b t ex l := by
  obtain ⟨p, v, h1, h2, _, h4⟩ := h
  exact ⟨p, v, h1, h2, by omega, h4⟩
set_option maxHeartbeats 3200000 in
theorem told_any (t : Tree) (c : Array Value) (A : Nat → Prop) (by' : Int) (w : World) (h : TV w A t c) (hw : weightT t ≤ 1000000) (h0 : -1 ≤ by') (h1 : by' ≤ 16) (hT : Tab w) :
    Calls Tryz.prog 73 #[.agg c, .int .i64 by'] w (fun e w' => e = .returned (.tuple #[.string ⟨(toldT by' t).1.toArray⟩, .int .i64 (toldT by' t).2]) ∧ Ext w w') := by
  obtain ⟨R, hR⟩ : ∃ R, toldT by' t = R := ⟨_, rfl⟩
  rw [hR]
  have HR := Lib.hid hR
  have HTB := Lib.hid hT
  clear hR hT
  obtain ⟨kk, bb, d, ss, la, ln, lc, ma, mn, mc, rfl⟩ := h.eight
  obtain ⟨wA, ewA⟩ : ∃ W, w.alloc (.cells (cellsV kk bb d ss (.slice la ln lc) (.slice ma mn mc)) 27) = W := ⟨_, rfl⟩
  have nwA : wA.heap[w.heap.size]? = some (.cells (cellsV kk bb d ss (.slice la ln lc) (.slice ma mn mc)) 27) := by rw [← ewA]; exact heap_alloc_new _ _
  have xwA : Ext w wA := by rw [← ewA]; exact (ext_refl _).alloc (Nat.le_refl _) _
  have swA : wA.heap.size = w.heap.size + 1 := by rw [← ewA]; simp
  have HTV := Lib.hid (h.keep (w' := wA) (A' := A) xwA.size (fun g hg hlt => ⟨hg, xwA.block g hlt⟩))
  have HC : Hid (VAt wA w.heap.size (cellsV kk bb d ss (.slice la ln lc) (.slice ma mn mc))) := Lib.hid nwA
  have HE := Lib.hid xwA
  have EA := Lib.hid ewA
  clear h nwA xwA ewA swA
  simp only [cellsV] at HC EA HTV ⊢
  go_enter Tryz.func73, Tryz.ntmps73
  go_upto_region 1 with fail
  rw [EA.out]
  obtain ⟨S, hS⟩ : ∃ S, w.heap.size = S := ⟨_, rfl⟩
  rw [hS] at HC ⊢
  have HS := Lib.hid hS
  clear hS EA
  have c0 := HC.out.cell 0; have c1 := HC.out.cell 1; have c2 := HC.out.cell 2; have c3 := HC.out.cell 3; have c4 := HC.out.cell 4; have c5 := HC.out.cell 5; have c6 := HC.out.cell 6; have c7 := HC.out.cell 7
  simp at c0 c1 c2 c3 c4 c5 c6 c7
  go_wp2_with fail
  refine (Sane_any t _ A _ hw HTV.out).mono ?_
  rintro e w2 ⟨rfl, hx2⟩
  have HC2 := Lib.hid (HC.out.ext hx2)
  have HTV2 := Lib.hid (HTV.out.keep (w' := w2) (A' := A) hx2.size (fun g hg hlt => ⟨hg, hx2.block g hlt⟩))
  have HE2 := Lib.hid (ext_trans HE.out hx2)
  clear c0 c1 c2 c3 c4 c5 c6 c7
  clear hx2
  have hR := HR.out
  unfold toldT at hR
  cases hsn : saneT 0 0 t with
  | mk er m =>
    rw [hsn] at hR
    simp only at hR ⊢
    by_cases he : er = 0
    · subst he
      rw [if_neg (by simp)] at hR
      have HR2 := Lib.hid hR
      have HSN := Lib.hid hsn
      clear hR hsn HR
      have hWn : Wr (w2.alloc (.cells #[.pointer none, .slice none 0 0, .int .i64 by', .int .i64 0] 109)) w2.heap.size by' 0 [] none := ⟨_, _, heap_alloc_new _ _, .inl rfl, rfl, World.ownsRow_nil _ _ _ _⟩
      have hx3 : Ext w2 (w2.alloc (.cells #[.pointer none, .slice none 0 0, .int .i64 by', .int .i64 0] 109)) := (ext_refl _).alloc (Nat.le_refl _) _
      obtain ⟨b, hb⟩ : ∃ b, w2.heap.size = b := ⟨_, rfl⟩
      rw [hb] at hWn
      go_upto_region 5 with fail
      generalize w2.alloc (.cells #[.pointer none, .slice none 0 0, .int .i64 by', .int .i64 0] 109) = w3 at *
      have HW3 := Lib.hid hWn
      have HX3 := Lib.hid hx3
      have HC3 := Lib.hid (HC2.out.ext hx3)
      have HTV3 := Lib.hid (HTV2.out.keep (w' := w3) (A' := A) hx3.size (fun g hg hlt => ⟨hg, hx3.block g hlt⟩))
      have HB := Lib.hid hb
      have hbl := hWn.lt
      clear hWn hx3 hb
      obtain ⟨h4, h5⟩ := sane_sorted HSN.out
      have hok := (sane_iff.1 h4).1
      have HOK := Lib.hid hok
      have HD := Lib.hid (SaneP.dist _ t (Nat.lt_succ_self _) (OkT.saneP HSN.out))
      clear h4 h5 hok
      have c0 := HC3.out.cell 0; have c1 := HC3.out.cell 1; have c2 := HC3.out.cell 2; have c3 := HC3.out.cell 3; have c4 := HC3.out.cell 4; have c5 := HC3.out.cell 5; have c6 := HC3.out.cell 6; have c7 := HC3.out.cell 7
      simp at c0 c1 c2 c3 c4 c5 c6 c7
      go_wp2_with fail
      refine (sorted_any t _ A w3 HTV3.out hw HD.out).mono ?_
      rintro e w4 ⟨c4, rfl, htv4, hx4⟩
      have HTV4 := Lib.hid htv4
      have HX4 := Lib.hid hx4
      have HW4 := Lib.hid (HW3.out.ext hx4)
      obtain ⟨k4, b4, e4, s4, l4a, l4n, l4c, m4a, m4n, m4c, rfl⟩ := htv4.eight
      clear htv4 hx4
      clear c0 c1 c2 c3 c4 c5 c6 c7
      simp only [cellsV]
      go_wp2_with fail
      refine (value_all by' w2 b h0 h1 (HTB.out.ext HE2.out) (by rw [HB.out]; exact Nat.le_refl _) _ (sortedT t) (Nat.lt_succ_self _) _ (fun g => w3.heap.size ≤ g) 0 [] none w4 HTV4.out (fun g hg => ⟨by omega, by simp⟩) HW4.out HOK.out (by rw [weightT_sorted]; exact hw) (ext_trans HX3.out HX4.out) (by have := out_big (t := sortedT t) h1 (by rw [weightT_sorted]; exact hw); simp only [List.length_nil]; omega)).mono ?_
      rintro e w5 ⟨rfl, o5, hw5, hk5⟩
      have HW5 := Lib.hid hw5
      have HX5 : Hid (Ext w2 w5) := Lib.hid ((ext_trans HX3.out HX4.out).trans (hk5.below (by have := (ext_trans HX3.out HX4.out).size; omega) (by have := HB.out; omega) (fun k hk => by cases hk)))
      clear hw5 hk5
      rw [List.nil_append] at HW5
      go_wp2_with fail
      refine (builderString_any (b + 1) b _ _ (outT by' 0 (sortedT t)) w5 HW5.out.bld (by have := out_big (t := sortedT t) h1 (by rw [weightT_sorted]; exact hw); omega) (out_ne HOK.out)).mono ?_
      rintro e w6 ⟨rfl, hx6⟩
      have HX6 : Hid (Ext w2 w6) := Lib.hid (HX5.out.trans (hx6.mono (by have := HB.out; omega)))
      clear hx6
      go_wp2_with fail
      go_ret2
      have hR := HR2.out
      subst hR
      exact ⟨rfl, ext_trans HE2.out HX6.out⟩
    · have hne : (er != 0) = true := by simpa using he
      rw [if_pos (by simpa using he)] at hR
      subst hR
      clear hsn HR
      go_wp2_with fail
      go_ret2
      exact ⟨rfl, HE2.out⟩
theorem short_any (r : List UInt8 × Int) (w : World) (hl : r.1.length ≤ 140737488355328) :
    Calls Tryz.prog 72 #[.string ⟨r.1.toArray⟩, .int .i64 r.2] w (fun e w' => e = .returned (.tuple #[.string ⟨(shortT r).1.toArray⟩, .int .i64 (shortT r).2]) ∧ w' = w) := by
  obtain ⟨l, er⟩ := r
  unfold shortT
  simp only at hl ⊢
  go_enter Tryz.func72, Tryz.ntmps72
  by_cases he : er = 0
  · subst he
    rw [if_neg (by simp)]
    by_cases hb : 65536 < l.length
    · have hb2 : (65536 : Int) < l.length := by omega
      rw [if_pos hb]
      go_wp2_with fail
      go_ret2
      exact ⟨rfl, rfl⟩
    · have hb2 : ¬ (65536 : Int) < l.length := by omega
      rw [if_neg hb]
      go_wp2_with fail
      go_ret2
      exact ⟨rfl, rfl⟩
  · have hne : (er != 0) = true := by simpa using he
    rw [if_pos he]
    go_wp2_with fail
    go_ret2
    exact ⟨rfl, rfl⟩
theorem told_len {t : Tree} {by' : Int} (h1 : by' ≤ 16) (hw : weightT t ≤ 1000000) : (toldT by' t).1.length ≤ 140737488355328 := by
  unfold toldT
  split
  · simp
  · have := out_big (t := sortedT t) h1 (by rw [weightT_sorted]; exact hw)
    show (outT by' 0 (sortedT t)).length ≤ _
    omega
theorem printV_any (t : Tree) (c : Array Value) (A : Nat → Prop) (w : World) (h : TV w A t c) (hw : weightT t ≤ 1000000) (hT : Tab w) :
    Calls Tryz.prog 34 #[.agg c] w (fun e w' => e = .returned (.tuple #[.string ⟨(printT t).1.toArray⟩, .int .i64 (printT t).2]) ∧ Ext w w') := by
  have HTB := Lib.hid hT
  clear hT
  obtain ⟨kk, bb, d, ss, la, ln, lc, ma, mn, mc, rfl⟩ := h.eight
  obtain ⟨wA, ewA⟩ : ∃ W, w.alloc (.cells (cellsV kk bb d ss (.slice la ln lc) (.slice ma mn mc)) 27) = W := ⟨_, rfl⟩
  have nwA : wA.heap[w.heap.size]? = some (.cells (cellsV kk bb d ss (.slice la ln lc) (.slice ma mn mc)) 27) := by rw [← ewA]; exact heap_alloc_new _ _
  have xwA : Ext w wA := by rw [← ewA]; exact (ext_refl _).alloc (Nat.le_refl _) _
  have swA : wA.heap.size = w.heap.size + 1 := by rw [← ewA]; simp
  have HTV := Lib.hid (h.keep (w' := wA) (A' := A) xwA.size (fun g hg hlt => ⟨hg, xwA.block g hlt⟩))
  have HC : Hid (VAt wA w.heap.size (cellsV kk bb d ss (.slice la ln lc) (.slice ma mn mc))) := Lib.hid nwA
  have HE := Lib.hid xwA
  have EA := Lib.hid ewA
  clear h nwA xwA ewA swA
  simp only [cellsV] at HC EA HTV ⊢
  go_enter Tryz.func34, Tryz.ntmps34
  go_upto_region 1 with fail
  rw [EA.out]
  obtain ⟨S, hS⟩ : ∃ S, w.heap.size = S := ⟨_, rfl⟩
  rw [hS] at HC ⊢
  have HS := Lib.hid hS
  clear hS EA
  have c0 := HC.out.cell 0; have c1 := HC.out.cell 1; have c2 := HC.out.cell 2; have c3 := HC.out.cell 3; have c4 := HC.out.cell 4; have c5 := HC.out.cell 5; have c6 := HC.out.cell 6; have c7 := HC.out.cell 7
  simp at c0 c1 c2 c3 c4 c5 c6 c7
  go_wp2_with fail
  refine (told_any t _ A (-1) _ HTV.out hw (by omega) (by omega) (HTB.out.ext HE.out)).mono ?_
  rintro e w2 ⟨rfl, hx2⟩
  have HE2 := Lib.hid (ext_trans HE.out hx2)
  have HL := Lib.hid (told_len (t := t) (by' := -1) (by omega) hw)
  have HP : Hid (shortT (toldT (-1) t) = printT t) := Lib.hid rfl
  clear c0 c1 c2 c3 c4 c5 c6 c7
  clear hx2
  generalize toldT (-1) t = r at *
  go_wp2_with fail
  refine (short_any r w2 HL.out).mono ?_
  rintro e w3 ⟨rfl, rfl⟩
  rw [HP.out]
  go_wp2_with fail
  go_ret2
  exact ⟨rfl, HE2.out⟩
theorem size_any (t : Tree) (c : Array Value) (A : Nat → Prop) (w : World) (h : TV w A t c) (hw : weightT t ≤ 1000000) (hT : Tab w) :
    Calls Tryz.prog 40 #[.agg c] w (fun e w' => e = .returned (.int .i64 ((toldT (-1) t).1.length : Nat)) ∧ Ext w w') := by
  obtain ⟨R, hR⟩ : ∃ R, toldT (-1) t = R := ⟨_, rfl⟩
  rw [hR]
  have HR := Lib.hid hR
  clear hR
  have HTB := Lib.hid hT
  clear hT
  obtain ⟨kk, bb, d, ss, la, ln, lc, ma, mn, mc, rfl⟩ := h.eight
  obtain ⟨wA, ewA⟩ : ∃ W, w.alloc (.cells (cellsV kk bb d ss (.slice la ln lc) (.slice ma mn mc)) 27) = W := ⟨_, rfl⟩
  have nwA : wA.heap[w.heap.size]? = some (.cells (cellsV kk bb d ss (.slice la ln lc) (.slice ma mn mc)) 27) := by rw [← ewA]; exact heap_alloc_new _ _
  have xwA : Ext w wA := by rw [← ewA]; exact (ext_refl _).alloc (Nat.le_refl _) _
  have swA : wA.heap.size = w.heap.size + 1 := by rw [← ewA]; simp
  have HTV := Lib.hid (h.keep (w' := wA) (A' := A) xwA.size (fun g hg hlt => ⟨hg, xwA.block g hlt⟩))
  have HC : Hid (VAt wA w.heap.size (cellsV kk bb d ss (.slice la ln lc) (.slice ma mn mc))) := Lib.hid nwA
  have HE := Lib.hid xwA
  have EA := Lib.hid ewA
  clear h nwA xwA ewA swA
  simp only [cellsV] at HC EA HTV ⊢
  go_enter Tryz.func40, Tryz.ntmps40
  go_upto_region 1 with fail
  rw [EA.out]
  obtain ⟨S, hS⟩ : ∃ S, w.heap.size = S := ⟨_, rfl⟩
  rw [hS] at HC ⊢
  have HS := Lib.hid hS
  clear hS EA
  have c0 := HC.out.cell 0; have c1 := HC.out.cell 1; have c2 := HC.out.cell 2; have c3 := HC.out.cell 3; have c4 := HC.out.cell 4; have c5 := HC.out.cell 5; have c6 := HC.out.cell 6; have c7 := HC.out.cell 7
  simp at c0 c1 c2 c3 c4 c5 c6 c7
  go_wp2_with fail
  refine (told_any t _ A (-1) _ HTV.out hw (by omega) (by omega) (HTB.out.ext HE.out)).mono ?_
  rintro e w2 ⟨rfl, hx2⟩
  have HE2 := Lib.hid (ext_trans HE.out hx2)
  clear c0 c1 c2 c3 c4 c5 c6 c7
  clear hx2
  rw [HR.out]
  obtain ⟨l, er⟩ := R
  go_wp2_with fail
  go_ret
  exact ⟨rfl, HE2.out⟩
theorem key_any (t : Tree) (c : Array Value) (A : Nat → Prop) (w : World) (h : TV w A t c) (hw : weightT t ≤ 1000000) (hT : Tab w) :
    Calls Tryz.prog 39 #[.agg c] w (fun e w' => e = .returned (.tuple #[.string ⟨(printT t).1.toArray⟩, .int .i64 (printT t).2]) ∧ Ext w w') := by
  have HTB := Lib.hid hT
  clear hT
  obtain ⟨kk, bb, d, ss, la, ln, lc, ma, mn, mc, rfl⟩ := h.eight
  obtain ⟨wA, ewA⟩ : ∃ W, w.alloc (.cells (cellsV kk bb d ss (.slice la ln lc) (.slice ma mn mc)) 27) = W := ⟨_, rfl⟩
  have nwA : wA.heap[w.heap.size]? = some (.cells (cellsV kk bb d ss (.slice la ln lc) (.slice ma mn mc)) 27) := by rw [← ewA]; exact heap_alloc_new _ _
  have xwA : Ext w wA := by rw [← ewA]; exact (ext_refl _).alloc (Nat.le_refl _) _
  have swA : wA.heap.size = w.heap.size + 1 := by rw [← ewA]; simp
  have HTV := Lib.hid (h.keep (w' := wA) (A' := A) xwA.size (fun g hg hlt => ⟨hg, xwA.block g hlt⟩))
  have HC : Hid (VAt wA w.heap.size (cellsV kk bb d ss (.slice la ln lc) (.slice ma mn mc))) := Lib.hid nwA
  have HE := Lib.hid xwA
  have EA := Lib.hid ewA
  clear h nwA xwA ewA swA
  simp only [cellsV] at HC EA HTV ⊢
  go_enter Tryz.func39, Tryz.ntmps39
  go_upto_region 1 with fail
  rw [EA.out]
  obtain ⟨S, hS⟩ : ∃ S, w.heap.size = S := ⟨_, rfl⟩
  rw [hS] at HC ⊢
  have HS := Lib.hid hS
  clear hS EA
  have c0 := HC.out.cell 0; have c1 := HC.out.cell 1; have c2 := HC.out.cell 2; have c3 := HC.out.cell 3; have c4 := HC.out.cell 4; have c5 := HC.out.cell 5; have c6 := HC.out.cell 6; have c7 := HC.out.cell 7
  simp at c0 c1 c2 c3 c4 c5 c6 c7
  go_wp2_with fail
  refine (printV_any t _ A _ HTV.out hw (HTB.out.ext HE.out)).mono ?_
  rintro e w2 ⟨rfl, hx2⟩
  have HE2 := Lib.hid (ext_trans HE.out hx2)
  clear c0 c1 c2 c3 c4 c5 c6 c7
  clear hx2
  go_wp2_with fail
  go_ret2
  exact ⟨rfl, HE2.out⟩
end Go.Proofs.YtjapbjmeoaagmaaGreatDoor
end

section
set_option linter.unusedVariables false
set_option linter.unusedSimpArgs false
set_option maxRecDepth 100000
namespace Orange
def awk5 : List UInt8 := [123, 34, 98, 34, 58, 32, 91, 49, 44, 32, 50, 93, 44, 32, 34, 97, 34, 58, 32, 110, 117, 108, 108, 125]
def awk5T : Tree := tObj [([98], tArr [tNum ⟨false, [49], 0⟩, tNum ⟨false, [50], 0⟩]), ([97], tNull)]
theorem awk5_is : parseP awk5 = (awk5T, 0, 24) := by kernel_rfl
theorem awk5_print : printT awk5T = ([123, 34, 97, 34, 58, 110, 117, 108, 108, 44, 34, 98, 34, 58, 91, 49, 44, 50, 93, 125], 0) := by decide +kernel
theorem awk5_told : (toldT (-1) awk5T).1.length = 20 := by decide +kernel
theorem awk5_weight : weightT awk5T ≤ 1000000 := by decide +kernel
end Orange
namespace Go.Proofs.YtjapbjmeoaagmaaGreatDoor
open Go.RowKit Go.Mem Orange
theorem bytes_newF (w : World) (cs : Array Value) (e : TypeId) (xs : List UInt8) (h : cs.toList = cells8 xs) (n : Nat) (hn : n = xs.length) (hl : n ≤ 140737488355328) {fr : Nat × Nat} :
    Bytes (w.alloc (.cells cs e fr)) (.slice (some ⟨w.heap.size, 0, none⟩) n n) xs := by
  refine Bytes.mk ?_ hn (Nat.le_refl _) (by omega) hl
  intro _
  refine ⟨_, _, rfl, by simp, fun i hi => ?_⟩
  rw [cell_of_cells (heap_alloc_new w (.cells cs e fr)), show 0 + i = i by omega]
  have : cs.toList[i]? = some (.int .u8 xs[i].toNat) := by rw [h]; simp [cells8, hi]
  simpa using this
set_option maxHeartbeats 6400000 in
theorem pawake5 (w : World) (hT : Tab w) : Calls Tryz.prog 33 #[] w fun e w' => e = .returned (.bool true) ∧ Ext w w' := by
  have HTB := Lib.hid hT
  clear hT
  have kc := fun (w : World) (C : Array Value) (n c : Nat) => Lib.run_convert_bytes_const (P := Tryz.prog) w 56 5 C n c Tryz.underlying56 Tryz.underlying5
  go_enter Tryz.func33, Tryz.ntmps33
  go_wp2_with fail
  refine (top_any _ awk5 _ (bytes_newF _ _ _ _ rfl _ rfl (by simp [awk5]))).mono ?_
  intro e w1 hend
  rw [awk5_is] at hend
  obtain ⟨c, rfl, htv, hw1⟩ := hend
  simp only at htv ⊢
  have hx1 : Ext w w1 := ((ext_refl w).alloc (Nat.le_refl _) _).trans (hw1.mono (by simp))
  obtain ⟨k, b, d, ss, la, ln, lc, ma, mn, mc, rfl⟩ := htv.eight
  have hv1 := VAt.new w1 (cellsV k b d ss (.slice la ln lc) (.slice ma mn mc))
  have hx2 : Ext w1 (w1.alloc (.cells (cellsV k b d ss (.slice la ln lc) (.slice ma mn mc)) 27)) := (ext_refl _).alloc (Nat.le_refl _) _
  have htv2 := htv.keep (A' := fun _ => True) hx2.size (fun g _ hlt => ⟨trivial, hx2.block g hlt⟩)
  obtain ⟨P, hP⟩ : ∃ P, w1.heap.size = P := ⟨_, rfl⟩
  rw [hP] at hv1
  clear htv hw1 kc
  simp only [cellsV] at hv1 hx2 htv2 ⊢
  go_upto_region 2 with fail
  have HX := Lib.hid (ext_trans hx1 hx2)
  clear hP hx1 hx2
  generalize w1.alloc (.cells #[.int .i64 k, .bool b, .bool d.neg, .string ⟨d.digits.toArray⟩, .int .i64 d.exp, .string ⟨ss.toArray⟩, .slice la ln lc, .slice ma mn mc] 27) = w2 at *
  have HV := Lib.hid hv1
  have HTV := Lib.hid htv2
  clear hv1 htv2
  have c0 := HV.out.cell 0; have c1 := HV.out.cell 1; have c2 := HV.out.cell 2; have c3 := HV.out.cell 3; have c4 := HV.out.cell 4; have c5 := HV.out.cell 5; have c6 := HV.out.cell 6; have c7 := HV.out.cell 7
  simp at c0 c1 c2 c3 c4 c5 c6 c7
  go_wp2_with fail
  refine (printV_any awk5T _ _ w2 HTV.out awk5_weight (HTB.out.ext HX.out)).mono ?_
  rintro e w3 ⟨rfl, hx3⟩
  rw [awk5_print]
  have HV3 := Lib.hid (HV.out.ext hx3)
  have HTV3 := Lib.hid (HTV.out.keep (A' := fun _ => True) hx3.size (fun g _ hlt => ⟨trivial, hx3.block g hlt⟩))
  have HX3 := Lib.hid (ext_trans HX.out hx3)
  clear hx3
  clear c0 c1 c2 c3 c4 c5 c6 c7
  have c0 := HV3.out.cell 0; have c1 := HV3.out.cell 1; have c2 := HV3.out.cell 2; have c3 := HV3.out.cell 3; have c4 := HV3.out.cell 4; have c5 := HV3.out.cell 5; have c6 := HV3.out.cell 6; have c7 := HV3.out.cell 7
  simp at c0 c1 c2 c3 c4 c5 c6 c7
  go_wp2_with fail
  refine (size_any awk5T _ _ w3 HTV3.out awk5_weight (HTB.out.ext HX3.out)).mono ?_
  rintro e w4 ⟨rfl, hx4⟩
  rw [awk5_told]
  have HX4 := Lib.hid (ext_trans HX3.out hx4)
  clear hx4
  go_wp2_with fail
  go_ret
  exact ⟨rfl, HX4.out⟩
end Go.Proofs.YtjapbjmeoaagmaaGreatDoor
end

section
set_option linter.unusedVariables false
set_option linter.unusedSimpArgs false
set_option maxRecDepth 100000
namespace Orange
mutual
def fewT : Nat → Int → Tree → Int
  | deep, left, .mk _ _ d s l m => if 150 < deep then -1 else fewM (deep + 1) (fewL (deep + 1) (left - 1 - s.length - d.digits.length) l) m
def fewL : Nat → Int → List Tree → Int
  | _, left, [] => left
  | deep, left, t :: l => if 0 ≤ left then fewL deep (fewT deep left t) l else left
def fewM : Nat → Int → List Mem1 → Int
  | _, left, [] => left
  | deep, left, (k, t) :: m => if 0 ≤ left then fewM deep (fewT deep (left - k.length) t) m else left
end
theorem fewL_cons (deep : Nat) (left : Int) (t : Tree) (l : List Tree) : fewL deep left (t :: l) = if 0 ≤ left then fewL deep (fewT deep left t) l else left := by rw [fewL]
theorem fewM_cons (deep : Nat) (left : Int) (k : List UInt8) (t : Tree) (l : List Mem1) : fewM deep left ((k, t) :: l) = if 0 ≤ left then fewM deep (fewT deep (left - k.length) t) l else left := by rw [fewM]
theorem fewL_neg (deep : Nat) (left : Int) (l : List Tree) (h : left < 0) : fewL deep left l = left := by
  cases l with
  | nil => rw [fewL]
  | cons t l => rw [fewL, if_neg (by omega)]
theorem fewM_neg (deep : Nat) (left : Int) (l : List Mem1) (h : left < 0) : fewM deep left l = left := by
  cases l with
  | nil => rw [fewM]
  | cons t l => obtain ⟨k, t⟩ := t; rw [fewM, if_neg (by omega)]
mutual
theorem fewT_weight : ∀ (t : Tree) (deep : Nat) (left : Int), 0 ≤ fewT deep left t → fewT deep left t + weightT t = left
  | .mk _ _ d s l m, deep, left, h => by
    rw [fewT] at h ⊢
    split at h
    · omega
    · next hd =>
      rw [if_neg hd, weightT]
      have h2 := fewM_weight m (deep + 1) _ h
      have h1 : 0 ≤ fewL (deep + 1) (left - 1 - s.length - d.digits.length) l := by
        rcases Int.lt_or_le (fewL (deep + 1) (left - 1 - s.length - d.digits.length) l) 0 with h0 | h0
        · rw [fewM_neg _ _ _ h0] at h; omega
        · exact h0
      have h3 := fewL_weight l (deep + 1) _ h1
      omega
theorem fewL_weight : ∀ (l : List Tree) (deep : Nat) (left : Int), 0 ≤ fewL deep left l → fewL deep left l + weightL l = left
  | [], deep, left, h => by rw [fewL, weightL]; omega
  | t :: l, deep, left, h => by
    rw [fewL] at h ⊢
    split at h
    · next h0 =>
      rw [if_pos h0, weightL]
      have h2 := fewL_weight l deep _ h
      have h1 : 0 ≤ fewT deep left t := by
        rcases Int.lt_or_le (fewT deep left t) 0 with h3 | h3
        · rw [fewL_neg _ _ _ h3] at h; omega
        · exact h3
      have := fewT_weight t deep left h1
      omega
    · omega
theorem fewM_weight : ∀ (l : List Mem1) (deep : Nat) (left : Int), 0 ≤ fewM deep left l → fewM deep left l + weightM l = left
  | [], deep, left, h => by rw [fewM, weightM]; omega
  | (k, t) :: l, deep, left, h => by
    rw [fewM] at h ⊢
    split at h
    · next h0 =>
      rw [if_pos h0, weightM]
      have h2 := fewM_weight l deep _ h
      have h1 : 0 ≤ fewT deep (left - k.length) t := by
        rcases Int.lt_or_le (fewT deep (left - k.length) t) 0 with h3 | h3
        · rw [fewM_neg _ _ _ h3] at h; omega
        · exact h3
      have := fewT_weight t deep _ h1
      omega
    · omega
end
mutual
theorem fewT_bd : ∀ (t : Tree) (deep : Nat) (left : Int), okT t → -140737488355328 ≤ left → -600000000000000 ≤ fewT deep left t ∧ fewT deep left t ≤ max left 0
  | .mk _ _ d s l m, deep, left, h, hl => by
    rw [okT] at h
    obtain ⟨_, _, h1, h2, _, _, h3, h4⟩ := h
    rw [fewT]
    split
    · omega
    · have a := fewL_bd l (deep + 1) (left - 1 - s.length - d.digits.length) h3 (by omega)
      have b := fewM_bd m (deep + 1) (fewL (deep + 1) (left - 1 - s.length - d.digits.length) l) h4 (by omega)
      omega
theorem fewL_bd : ∀ (l : List Tree) (deep : Nat) (left : Int), okL l → -600000000000000 ≤ left → -600000000000000 ≤ fewL deep left l ∧ fewL deep left l ≤ max left 0
  | [], deep, left, h, hl => by rw [fewL]; omega
  | t :: l, deep, left, h, hl => by
    rw [okL] at h
    rw [fewL]
    split
    · have a := fewT_bd t deep left h.1 (by omega)
      have b := fewL_bd l deep (fewT deep left t) h.2 (by omega)
      omega
    · omega
theorem fewM_bd : ∀ (l : List Mem1) (deep : Nat) (left : Int), okM l → -600000000000000 ≤ left → -600000000000000 ≤ fewM deep left l ∧ fewM deep left l ≤ max left 0
  | [], deep, left, h, hl => by rw [fewM]; omega
  | (k, t) :: l, deep, left, h, hl => by
    rw [okM] at h
    rw [fewM]
    split
    · have a := fewT_bd t deep (left - k.length) h.2.1 (by omega)
      have b := fewM_bd l deep (fewT deep (left - k.length) t) h.2.2 (by omega)
      omega
    · omega
end
theorem fewL_take (deep : Nat) : ∀ (l : List Tree) (left : Int) (i : Nat) (h : i < l.length), fewL deep left (l.take (i + 1)) = if 0 ≤ fewL deep left (l.take i) then fewT deep (fewL deep left (l.take i)) l[i] else fewL deep left (l.take i)
  | t :: l, left, 0, h => by simp [fewL]
  | t :: l, left, i + 1, h => by
    have e : fewL deep left ((t :: l).take (i + 1)) = if 0 ≤ left then fewL deep (fewT deep left t) (l.take i) else left := by rw [List.take_succ_cons, fewL_cons]
    rw [e, List.take_succ_cons, fewL_cons, List.getElem_cons_succ]
    by_cases h0 : 0 ≤ left
    · rw [if_pos h0, if_pos h0, fewL_take deep l _ i (by simpa using h)]
    · rw [if_neg h0, if_neg h0, if_neg h0]
theorem fewM_take (deep : Nat) : ∀ (l : List Mem1) (left : Int) (i : Nat) (h : i < l.length), fewM deep left (l.take (i + 1)) = if 0 ≤ fewM deep left (l.take i) then fewT deep (fewM deep left (l.take i) - l[i].1.length) l[i].2 else fewM deep left (l.take i)
  | (k, t) :: l, left, 0, h => by simp [fewM]
  | (k, t) :: l, left, i + 1, h => by
    have e : fewM deep left (((k, t) :: l).take (i + 1)) = if 0 ≤ left then fewM deep (fewT deep (left - k.length) t) (l.take i) else left := by rw [List.take_succ_cons, fewM_cons]
    rw [e, List.take_succ_cons, fewM_cons, List.getElem_cons_succ]
    by_cases h0 : 0 ≤ left
    · rw [if_pos h0, if_pos h0, fewM_take deep l _ i (by simpa using h)]
    · rw [if_neg h0, if_neg h0, if_neg h0]
theorem fewL_stop (deep : Nat) (l : List Tree) (left : Int) (i : Nat) (h : fewL deep left (l.take i) < 0) : fewL deep left l = fewL deep left (l.take i) := by
  have : ∀ (a b : List Tree) (left : Int), fewL deep left (a ++ b) = fewL deep (fewL deep left a) b := by
    intro a
    induction a with
    | nil => intro b left; rw [List.nil_append, fewL]
    | cons t a ih =>
      intro b left
      rw [List.cons_append, fewL_cons, fewL_cons]
      by_cases h0 : 0 ≤ left
      · rw [if_pos h0, if_pos h0, ih]
      · rw [if_neg h0, if_neg h0, fewL_neg _ _ _ (by omega)]
  conv => lhs; rw [← List.take_append_drop i l, this, fewL_neg _ _ _ h]
theorem fewM_stop (deep : Nat) (l : List Mem1) (left : Int) (i : Nat) (h : fewM deep left (l.take i) < 0) : fewM deep left l = fewM deep left (l.take i) := by
  have : ∀ (a b : List Mem1) (left : Int), fewM deep left (a ++ b) = fewM deep (fewM deep left a) b := by
    intro a
    induction a with
    | nil => intro b left; rw [List.nil_append, fewM]
    | cons t a ih =>
      intro b left
      obtain ⟨k, t⟩ := t
      rw [List.cons_append, fewM_cons, fewM_cons]
      by_cases h0 : 0 ≤ left
      · rw [if_pos h0, if_pos h0, ih]
      · rw [if_neg h0, if_neg h0, fewM_neg _ _ _ (by omega)]
  conv => lhs; rw [← List.take_append_drop i l, this, fewM_neg _ _ _ h]
end Orange
end

section
set_option linter.unusedVariables false
set_option linter.unusedSimpArgs false
set_option maxRecDepth 100000
namespace Go.Proofs.YtjapbjmeoaagmaaGreatDoor
open Go.RowKit Go.Mem Orange
set_option maxHeartbeats 6400000 in
theorem few_step (N : Nat) (ih : ∀ (t : Tree) (A : Nat → Prop) (c : Array Value) (deep : Nat) (left : Int) (w : World), SizeOf.sizeOf t < N → okT t → -140737488355328 ≤ left → left ≤ 1000000 → deep ≤ 1000 → TV w A t c →
    Calls Tryz.prog 43 #[.agg c, .int .i64 left, .int .i64 (deep : Nat)] w (fun e w' => e = .returned (.int .i64 (fewT deep left t)) ∧ Ext w w')) :
    ∀ (t : Tree) (A : Nat → Prop) (c : Array Value) (deep : Nat) (left : Int) (w : World), SizeOf.sizeOf t < N + 1 → okT t → -140737488355328 ≤ left → left ≤ 1000000 → deep ≤ 1000 → TV w A t c →
    Calls Tryz.prog 43 #[.agg c, .int .i64 left, .int .i64 (deep : Nat)] w (fun e w' => e = .returned (.int .i64 (fewT deep left t)) ∧ Ext w w')
  | .mk k b d s l m, A, c, deep, left, w, hN, hok, hl0, hl1, hdp, ht => by
    have IH := Lib.hid ih
    clear ih
    cases ht with
    | mk htl hrl htm hrm =>
    rename_i vL vM cl cm
    obtain ⟨_, a1, p1, rfl, hp1, hq1, _⟩ := id hrl
    obtain ⟨_, a2, p2, rfl, hp2, hq2, _⟩ := id hrm
    obtain ⟨R, hR⟩ : ∃ R, fewT deep left (.mk k b d s l m) = R := ⟨_, rfl⟩
    rw [hR]
    rw [fewT] at hR
    have HR := Lib.hid hR
    rw [okT] at hok
    obtain ⟨_, _, hdl, hsl, hll, hml, hokl, hokm⟩ := hok
    have HOK := Lib.hid (show d.digits.length ≤ 140737488355328 ∧ s.length ≤ 140737488355328 ∧ l.length ≤ 140737488355328 ∧ m.length ≤ 140737488355328 ∧ okL l ∧ okM m from ⟨hdl, hsl, hll, hml, hokl, hokm⟩)
    have hv0 := VAt.new w (cellsV k b d s (.slice a1 l.length p1) (.slice a2 m.length p2))
    have hx0 : Ext w (w.alloc (.cells (cellsV k b d s (.slice a1 l.length p1) (.slice a2 m.length p2)) 27)) := (ext_refl w).alloc (Nat.le_refl _) _
    have HSU : Hid (SizeOf.sizeOf l < N ∧ SizeOf.sizeOf m < N) := Lib.hid (by
      simp only [Tree.mk.sizeOf_spec] at hN
      omega)
    clear hR hN hokl hokm
    simp only [cellsV] at hv0 hx0 ⊢
    go_enter Tryz.func43, Tryz.ntmps43
    go_upto_region 1 with fail
    generalize w.alloc (.cells #[.int .i64 k, .bool b, .bool d.neg, .string ⟨d.digits.toArray⟩, .int .i64 d.exp, .string ⟨s.toArray⟩, .slice a1 l.length p1, .slice a2 m.length p2] 27) = w1 at *
    obtain ⟨S, hS⟩ : ∃ S, w.heap.size = S := ⟨_, rfl⟩
    rw [hS] at hv0 ⊢
    have HC := Lib.hid hv0
    have HE := Lib.hid hx0
    have HTL := Lib.hid (htl.keep (A' := fun _ => True) hx0.size (fun g _ hlt => ⟨trivial, hx0.block g hlt⟩))
    have HRL := Lib.hid (hrl.keep (A' := fun _ => True) hx0.size (fun g _ hlt => ⟨trivial, hx0.block g hlt⟩))
    have HTM := Lib.hid (htm.keep (A' := fun _ => True) hx0.size (fun g _ hlt => ⟨trivial, hx0.block g hlt⟩))
    have HRM := Lib.hid (hrm.keep (A' := fun _ => True) hx0.size (fun g _ hlt => ⟨trivial, hx0.block g hlt⟩))
    clear hv0 hx0 htl hrl htm hrm hS
    by_cases hd : 150 < deep
    · have hdi : (150 : Int) < deep := by omega
      have HF : Hid (R = -1) := Lib.hid (by rw [← HR.out, if_pos hd])
      go_wp2_with fail
      go_ret
      exact ⟨ret_int HF.out.symm, HE.out⟩
    have hdi : ¬ (150 : Int) < deep := by omega
    have HR2 : Hid (fewM (deep + 1) (fewL (deep + 1) (left - 1 - s.length - d.digits.length) l) m = R) := Lib.hid (by rw [← HR.out, if_neg hd])
    clear hd HR
    obtain ⟨L1, hL1⟩ : ∃ L1, left - 1 = L1 := ⟨_, rfl⟩
    obtain ⟨L2, hL2⟩ : ∃ L2, L1 - s.length = L2 := ⟨_, rfl⟩
    obtain ⟨L3, hL3⟩ : ∃ L3, L2 - d.digits.length = L3 := ⟨_, rfl⟩
    have HR3 : Hid (fewM (deep + 1) (fewL (deep + 1) L3 l) m = R) := Lib.hid (by rw [← HR2.out, hL1, hL2, hL3])
    have e1 : IntKind.i64.wrap (left - 1) = L1 := by rw [IntWalk.i64_in _ (by omega)]; exact hL1
    have e2 : IntKind.i64.wrap (L1 - s.length) = L2 := by rw [IntWalk.i64_in _ (by omega)]; exact hL2
    have e3 : IntKind.i64.wrap (L2 - d.digits.length) = L3 := by rw [IntWalk.i64_in _ (by omega)]; exact hL3
    have HL3 : Hid (-600000000000000 ≤ L3 ∧ L3 ≤ 1000000) := Lib.hid (by omega)
    clear HR2 hL1 hL2 hL3
    have c0 := HC.out.cell 0; have c1 := HC.out.cell 1; have c2 := HC.out.cell 2; have c3 := HC.out.cell 3; have c4 := HC.out.cell 4; have c5 := HC.out.cell 5; have c6 := HC.out.cell 6; have c7 := HC.out.cell 7
    simp at c0 c1 c2 c3 c4 c5 c6 c7
    go_wp2_with fail
    clear c0 c1 c2 c3 c4 c5 c6 c7 e1 e2 e3
    go_loopw [1, 7] (fun lv iv wr => ∃ i : Nat, lv = .int .i64 (fewL (deep + 1) L3 (l.take i)) ∧ iv = .int .i64 i ∧ i ≤ l.length ∧ Ext w1 wr) (fun _ iv _ => 9223372036854775808 - (intOf iv).toNat)
    case atStart => exact ⟨0, by rw [List.take_zero, fewL], rfl, by omega, ext_refl _⟩
    case round =>
      obtain ⟨i, rfl, rfl, hi, hE⟩ := hrel
      have HX := Lib.hid hE
      clear hE
      obtain ⟨X, hX⟩ : ∃ X, fewL (deep + 1) L3 (l.take i) = X := ⟨_, rfl⟩
      have HXX := Lib.hid hX
      have hXb := fewL_bd (l.take i) (deep + 1) L3 ((okL_iff _).2 (fun p hp => (okL_iff l).1 HOK.out.2.2.2.2.1 p (List.mem_of_mem_take hp))) HL3.out.1
      rw [hX] at hXb ⊢
      have HXB : Hid (-600000000000000 ≤ X ∧ X ≤ 1000000) := Lib.hid (by have := HL3.out.2; omega)
      clear hX
      have hcr := HC.out.ext HX.out
      have HCR := Lib.hid hcr
      clear hcr
      have c6 := HCR.out.cell 6
      simp at c6
      by_cases hlt : i < l.length
      · have hlti : (i : Int) < l.length := by omega
        have hi0 : (0 : Int) ≤ i := by omega
        by_cases hX0 : 0 ≤ X
        · obtain ⟨g, o, xk, xb, xd, xs, xa1, xn1, xc1, xa2, xn2, xc2, rfl, htx, hcell⟩ := row_elem HRL.out HTL.out rfl i hlt
          obtain ⟨x0, x1, x2, x3, x4, x5, x6, x7⟩ := hcell wr (fun g _ hg => HX.out.block g hg)
          have HTX := Lib.hid (htx.keep (w' := wr) (A' := fun _ => True) HX.out.size (fun g _ hlt => ⟨trivial, HX.out.block g hlt⟩))
          have HOX := Lib.hid ((okL_iff l).1 HOK.out.2.2.2.2.1 l[i] (List.getElem_mem hlt))
          have HTK : Hid (fewL (deep + 1) L3 (l.take (i + 1)) = fewT (deep + 1) X l[i]) := Lib.hid (by rw [fewL_take _ _ _ i hlt, HXX.out, if_pos hX0])
          have HSI := Lib.hid (mem_sizeL l i hlt HSU.out.1)
          clear htx hcell
          generalize l[i] = x at *
          have hxb := HXB.out.2
          have e8 : IntKind.i64.wrap ((deep : Int) + 1) = ((deep + 1 : Nat) : Int) := by rw [IntWalk.i64_in _ (by omega)]; omega
          have e9 : IntKind.i64.wrap ((i : Int) + 1) = ((i + 1 : Nat) : Int) := by rw [IntWalk.i64_in _ (by omega)]; omega
          go_wp2_with fail
          refine (IH.out x _ _ (deep + 1) X wr HSI.out HOX.out (by omega) (by omega) (by omega) HTX.out).mono ?_
          rintro e w4 ⟨rfl, hw4⟩
          have HE4 := Lib.hid (ext_trans HX.out hw4)
          clear hw4 c6 x0 x1 x2 x3 x4 x5 x6 x7
          go_wp2_with fail
          go_roundw
          case rel => exact ⟨i + 1, by rw [HTK.out], by go_num, by omega, HE4.out⟩
          case measure => simp [intOf]; omega
        · have HXL : Hid (fewL (deep + 1) L3 l = X) := Lib.hid (by rw [fewL_stop _ _ _ i (by rw [HXX.out]; omega), HXX.out])
          go_wp2_with fail
          clear c6
          go_loopw [1, 8] (fun lv iv wx => ∃ i : Nat, lv = .int .i64 (fewM (deep + 1) X (m.take i)) ∧ iv = .int .i64 i ∧ i ≤ m.length ∧ Ext wr wx) (fun _ iv _ => 9223372036854775808 - (intOf iv).toNat)
          case atStart => exact ⟨0, by rw [List.take_zero, fewM], rfl, by omega, ext_refl _⟩
          case round =>
            obtain ⟨i, rfl, rfl, hi, hE⟩ := hrel
            have HY := Lib.hid hE
            clear hE
            obtain ⟨Y, hY⟩ : ∃ Y, fewM (deep + 1) X (m.take i) = Y := ⟨_, rfl⟩
            have HYY := Lib.hid hY
            have hYb := fewM_bd (m.take i) (deep + 1) X ((okM_iff _).2 (fun p hp => (okM_iff m).1 HOK.out.2.2.2.2.2 p (List.mem_of_mem_take hp))) HXB.out.1
            have hxb := HXB.out.2
            rw [hY] at hYb ⊢
            clear hY
            have hcr := HC.out.ext (ext_trans HX.out HY.out)
            have HCR := Lib.hid hcr
            clear hcr
            have c7 := HCR.out.cell 7
            simp at c7
            by_cases hlt : i < m.length
            · have hlti : (i : Int) < m.length := by omega
              have hi0 : (0 : Int) ≤ i := by omega
              by_cases hY0 : 0 ≤ Y
              · obtain ⟨g, o, xk, xb, xd, xs, xa1, xn1, xc1, xa2, xn2, xc2, rfl, htx, hcell⟩ := mem_elem HRM.out HTM.out rfl i hlt
                have HTX := Lib.hid htx
                have HXC := Lib.hid hcell
                have hokx := (okM_iff m).1 HOK.out.2.2.2.2.2 m[i] (List.getElem_mem hlt)
                have HTK : Hid (fewM (deep + 1) X (m.take (i + 1)) = fewT (deep + 1) (Y - m[i].1.length) m[i].2) := Lib.hid (by rw [fewM_take _ _ _ i hlt, HYY.out, if_pos hY0])
                have HSI := Lib.hid (mem_size m i hlt HSU.out.2)
                have hYX : Hid (fewM (deep + 1) X m = fewM (deep + 1) X m) := Lib.hid rfl
                have HIH : Hid (∀ w', Ext wr w' → Calls Tryz.prog 43 #[.agg (cellsV xk xb xd xs (.slice xa1 xn1 xc1) (.slice xa2 xn2 xc2)), .int .i64 (Y - m[i].1.length), .int .i64 (deep + 1 : Nat)] w' (fun e w'' => e = .returned (.int .i64 (fewT (deep + 1) (Y - m[i].1.length) m[i].2)) ∧ Ext w' w'')) := Lib.hid (fun w' hw =>
                  IH.out m[i].2 (fun _ => True) _ (deep + 1) (Y - m[i].1.length) w' (mem_size m i hlt HSU.out.2) hokx.2 (by have := hokx.1; omega) (by omega) (by omega) (HTX.out.keep (ext_trans (ext_trans HX.out HY.out) hw).size (fun g _ hlt => ⟨trivial, (ext_trans (ext_trans HX.out HY.out) hw).block g hlt⟩)))
                obtain ⟨ky, hky⟩ : ∃ ky, m[i].1 = ky := ⟨_, rfl⟩
                have HFX : Hid (∀ w', Ext wr w' → w'.cell? ⟨g, o + i * 9, none⟩ = some (.string ⟨ky.toArray⟩) ∧ w'.cell? ⟨g, o + i * 9 + 1, none⟩ = some (.int .i64 xk) ∧ w'.cell? ⟨g, o + i * 9 + 2, none⟩ = some (.bool xb) ∧ w'.cell? ⟨g, o + i * 9 + 3, none⟩ = some (.bool xd.neg) ∧ w'.cell? ⟨g, o + i * 9 + 4, none⟩ = some (.string ⟨xd.digits.toArray⟩) ∧
                    w'.cell? ⟨g, o + i * 9 + 5, none⟩ = some (.int .i64 xd.exp) ∧ w'.cell? ⟨g, o + i * 9 + 6, none⟩ = some (.string ⟨xs.toArray⟩) ∧ w'.cell? ⟨g, o + i * 9 + 7, none⟩ = some (.slice xa1 xn1 xc1) ∧ w'.cell? ⟨g, o + i * 9 + 8, none⟩ = some (.slice xa2 xn2 xc2) ∧ w'.cell? ⟨S, 7, none⟩ = some (.slice (some ⟨g, o, none⟩) m.length p2)) := Lib.hid (fun w' hw => by
                  obtain ⟨x0, x1, x2, x3, x4, x5, x6, x7, x8⟩ := hcell w' (fun g _ hg => (ext_trans (ext_trans HX.out HY.out) hw).block g hg)
                  have c7 := (HCR.out.ext hw).cell 7
                  simp at c7
                  rw [hky] at x0
                  exact ⟨x0, x1, x2, x3, x4, x5, x6, x7, x8, c7⟩)
                obtain ⟨Z, hZ⟩ : ∃ Z, fewT (deep + 1) (Y - m[i].1.length) m[i].2 = Z := ⟨_, rfl⟩
                obtain ⟨V, hV⟩ : ∃ V, Y - (ky.length : Int) = V := ⟨_, rfl⟩
                have hih := HIH.out
                have htk := HTK.out
                rw [hZ] at hih htk
                rw [hky, hV] at hih
                replace HIH := Lib.hid hih
                replace HTK := Lib.hid htk
                have hkl : ky.length ≤ 140737488355328 := by rw [← hky]; exact hokx.1
                clear hih htk hZ hky htx hcell hokx HTX HXC hYX
                have e7 : IntKind.i64.wrap (Y - (ky.length : Int)) = V := by rw [IntWalk.i64_in _ (by omega)]; exact hV
                have e6 : IntKind.i64.wrap V = V := IntWalk.i64_in _ (by omega)
                have e8 : IntKind.i64.wrap ((deep : Int) + 1) = ((deep + 1 : Nat) : Int) := by rw [IntWalk.i64_in _ (by omega)]; omega
                have e9 : IntKind.i64.wrap ((i : Int) + 1) = ((i + 1 : Nat) : Int) := by rw [IntWalk.i64_in _ (by omega)]; omega
                go_upto_region 11 with fail
                clear c7
                refine Grow.wp_region_litW (G := Ext) (B := fun w' => Ext wr w') (anc := fun _ => []) (I := fun j => if j = 17 then some (Grow.Spec.val Ext (.int .i64 Z)) else none) (by kernel_rfl) (by kernel_rfl) (by kernel_rfl) ?_ ?_ ?_
                · exact fun w w' h hg => ext_trans h hg
                · exact (ext_refl _).drew
                repeat
                  (refine Grow.Wk.step (fun K hK => ?_)
                   first
                   | (refine Grow.step_read (by rfl) (by rfl) ext_refl ?_
                      apply Exists.intro
                      refine ⟨fun w hB hF => ?_, ?_⟩
                      · obtain ⟨x0, x1, x2, x3, x4, x5, x6, x7, x8, c7⟩ := HFX.out _ hB
                        go_simp
                        try exact rfl
                      go_simp
                      refine hK _ _ ?_
                      clear hK K)
                   | (refine Grow.step_off (by rfl) ?_
                      go_simp
                      refine hK _ _ ?_
                      clear hK K))
                refine Grow.Wk.step (fun K hK => ?_)
                refine Grow.step_rel (by rfl) (by rfl) (fun w' hB hF => ?_) (fun v hv => ?_)
                · go_simp
                  refine Grow.relUpon_enter ((HIH.out w' hB).mono ?_)
                  rintro e w'' ⟨rfl, hw''⟩
                  exact ⟨_, rfl, hw'', rfl, trivial⟩
                obtain rfl : v = _ := hv
                go_simp
                refine hK _ _ ?_
                clear hK K
                repeat
                  (refine Grow.Wk.step (fun K hK => ?_)
                   first
                   | (refine Grow.step_read (by rfl) (by rfl) ext_refl ?_
                      apply Exists.intro
                      refine ⟨fun w hB hF => ?_, ?_⟩
                      · skip
                        go_simp
                        try exact rfl
                      go_simp
                      refine hK _ _ ?_
                      clear hK K)
                   | (refine Grow.step_off (by rfl) ?_
                      go_simp
                      refine hK _ _ ?_
                      clear hK K))
                refine Grow.Wk.nil ?_
                intro w4 hB hF
                clear hF
                have HE4 := Lib.hid (ext_trans HY.out hB)
                clear hB
                go_wp2_with fail
                go_roundw
                case rel => exact ⟨i + 1, by rw [HTK.out], by go_num, by omega, HE4.out⟩
                case measure => simp [intOf]; omega
              · have HF : Hid (Y = R) := Lib.hid (by rw [← HR3.out, HXL.out, fewM_stop _ _ _ i (by rw [HYY.out]; omega), HYY.out])
                have HEE := Lib.hid (ext_trans HE.out (ext_trans HX.out HY.out))
                go_wp2_with fail
                go_ret
                exact ⟨ret_int HF.out, HEE.out⟩
            · obtain rfl : i = m.length := by omega
              have hnlt : ¬ ((m.length : Int) < (m.length : Int)) := by omega
              have HF : Hid (Y = R) := Lib.hid (by rw [← HR3.out, HXL.out, ← HYY.out, List.take_length])
              have HEE := Lib.hid (ext_trans HE.out (ext_trans HX.out HY.out))
              go_wp2_with fail
              go_ret
              exact ⟨ret_int HF.out, HEE.out⟩
      · obtain rfl : i = l.length := by omega
        have hnlt : ¬ ((l.length : Int) < (l.length : Int)) := by omega
        have HXL : Hid (fewL (deep + 1) L3 l = X) := Lib.hid (by rw [← HXX.out, List.take_length])
        go_wp2_with fail
        clear c6
        go_loopw [1, 8] (fun lv iv wx => ∃ i : Nat, lv = .int .i64 (fewM (deep + 1) X (m.take i)) ∧ iv = .int .i64 i ∧ i ≤ m.length ∧ Ext wr wx) (fun _ iv _ => 9223372036854775808 - (intOf iv).toNat)
        case atStart => exact ⟨0, by rw [List.take_zero, fewM], rfl, by omega, ext_refl _⟩
        case round =>
          obtain ⟨i, rfl, rfl, hi, hE⟩ := hrel
          have HY := Lib.hid hE
          clear hE
          obtain ⟨Y, hY⟩ : ∃ Y, fewM (deep + 1) X (m.take i) = Y := ⟨_, rfl⟩
          have HYY := Lib.hid hY
          have hYb := fewM_bd (m.take i) (deep + 1) X ((okM_iff _).2 (fun p hp => (okM_iff m).1 HOK.out.2.2.2.2.2 p (List.mem_of_mem_take hp))) HXB.out.1
          have hxb := HXB.out.2
          rw [hY] at hYb ⊢
          clear hY
          have hcr := HC.out.ext (ext_trans HX.out HY.out)
          have HCR := Lib.hid hcr
          clear hcr
          have c7 := HCR.out.cell 7
          simp at c7
          by_cases hlt : i < m.length
          · have hlti : (i : Int) < m.length := by omega
            have hi0 : (0 : Int) ≤ i := by omega
            by_cases hY0 : 0 ≤ Y
            · obtain ⟨g, o, xk, xb, xd, xs, xa1, xn1, xc1, xa2, xn2, xc2, rfl, htx, hcell⟩ := mem_elem HRM.out HTM.out rfl i hlt
              have HTX := Lib.hid htx
              have HXC := Lib.hid hcell
              have hokx := (okM_iff m).1 HOK.out.2.2.2.2.2 m[i] (List.getElem_mem hlt)
              have HTK : Hid (fewM (deep + 1) X (m.take (i + 1)) = fewT (deep + 1) (Y - m[i].1.length) m[i].2) := Lib.hid (by rw [fewM_take _ _ _ i hlt, HYY.out, if_pos hY0])
              have HSI := Lib.hid (mem_size m i hlt HSU.out.2)
              have hYX : Hid (fewM (deep + 1) X m = fewM (deep + 1) X m) := Lib.hid rfl
              have HIH : Hid (∀ w', Ext wr w' → Calls Tryz.prog 43 #[.agg (cellsV xk xb xd xs (.slice xa1 xn1 xc1) (.slice xa2 xn2 xc2)), .int .i64 (Y - m[i].1.length), .int .i64 (deep + 1 : Nat)] w' (fun e w'' => e = .returned (.int .i64 (fewT (deep + 1) (Y - m[i].1.length) m[i].2)) ∧ Ext w' w'')) := Lib.hid (fun w' hw =>
                IH.out m[i].2 (fun _ => True) _ (deep + 1) (Y - m[i].1.length) w' (mem_size m i hlt HSU.out.2) hokx.2 (by have := hokx.1; omega) (by omega) (by omega) (HTX.out.keep (ext_trans (ext_trans HX.out HY.out) hw).size (fun g _ hlt => ⟨trivial, (ext_trans (ext_trans HX.out HY.out) hw).block g hlt⟩)))
              obtain ⟨ky, hky⟩ : ∃ ky, m[i].1 = ky := ⟨_, rfl⟩
              have HFX : Hid (∀ w', Ext wr w' → w'.cell? ⟨g, o + i * 9, none⟩ = some (.string ⟨ky.toArray⟩) ∧ w'.cell? ⟨g, o + i * 9 + 1, none⟩ = some (.int .i64 xk) ∧ w'.cell? ⟨g, o + i * 9 + 2, none⟩ = some (.bool xb) ∧ w'.cell? ⟨g, o + i * 9 + 3, none⟩ = some (.bool xd.neg) ∧ w'.cell? ⟨g, o + i * 9 + 4, none⟩ = some (.string ⟨xd.digits.toArray⟩) ∧
                  w'.cell? ⟨g, o + i * 9 + 5, none⟩ = some (.int .i64 xd.exp) ∧ w'.cell? ⟨g, o + i * 9 + 6, none⟩ = some (.string ⟨xs.toArray⟩) ∧ w'.cell? ⟨g, o + i * 9 + 7, none⟩ = some (.slice xa1 xn1 xc1) ∧ w'.cell? ⟨g, o + i * 9 + 8, none⟩ = some (.slice xa2 xn2 xc2) ∧ w'.cell? ⟨S, 7, none⟩ = some (.slice (some ⟨g, o, none⟩) m.length p2)) := Lib.hid (fun w' hw => by
                obtain ⟨x0, x1, x2, x3, x4, x5, x6, x7, x8⟩ := hcell w' (fun g _ hg => (ext_trans (ext_trans HX.out HY.out) hw).block g hg)
                have c7 := (HCR.out.ext hw).cell 7
                simp at c7
                rw [hky] at x0
                exact ⟨x0, x1, x2, x3, x4, x5, x6, x7, x8, c7⟩)
              obtain ⟨Z, hZ⟩ : ∃ Z, fewT (deep + 1) (Y - m[i].1.length) m[i].2 = Z := ⟨_, rfl⟩
              obtain ⟨V, hV⟩ : ∃ V, Y - (ky.length : Int) = V := ⟨_, rfl⟩
              have hih := HIH.out
              have htk := HTK.out
              rw [hZ] at hih htk
              rw [hky, hV] at hih
              replace HIH := Lib.hid hih
              replace HTK := Lib.hid htk
              have hkl : ky.length ≤ 140737488355328 := by rw [← hky]; exact hokx.1
              clear hih htk hZ hky htx hcell hokx HTX HXC hYX
              have e7 : IntKind.i64.wrap (Y - (ky.length : Int)) = V := by rw [IntWalk.i64_in _ (by omega)]; exact hV
              have e6 : IntKind.i64.wrap V = V := IntWalk.i64_in _ (by omega)
              have e8 : IntKind.i64.wrap ((deep : Int) + 1) = ((deep + 1 : Nat) : Int) := by rw [IntWalk.i64_in _ (by omega)]; omega
              have e9 : IntKind.i64.wrap ((i : Int) + 1) = ((i + 1 : Nat) : Int) := by rw [IntWalk.i64_in _ (by omega)]; omega
              go_upto_region 11 with fail
              clear c7
              refine Grow.wp_region_litW (G := Ext) (B := fun w' => Ext wr w') (anc := fun _ => []) (I := fun j => if j = 17 then some (Grow.Spec.val Ext (.int .i64 Z)) else none) (by kernel_rfl) (by kernel_rfl) (by kernel_rfl) ?_ ?_ ?_
              · exact fun w w' h hg => ext_trans h hg
              · exact (ext_refl _).drew
              repeat
                (refine Grow.Wk.step (fun K hK => ?_)
                 first
                 | (refine Grow.step_read (by rfl) (by rfl) ext_refl ?_
                    apply Exists.intro
                    refine ⟨fun w hB hF => ?_, ?_⟩
                    · obtain ⟨x0, x1, x2, x3, x4, x5, x6, x7, x8, c7⟩ := HFX.out _ hB
                      go_simp
                      try exact rfl
                    go_simp
                    refine hK _ _ ?_
                    clear hK K)
                 | (refine Grow.step_off (by rfl) ?_
                    go_simp
                    refine hK _ _ ?_
                    clear hK K))
              refine Grow.Wk.step (fun K hK => ?_)
              refine Grow.step_rel (by rfl) (by rfl) (fun w' hB hF => ?_) (fun v hv => ?_)
              · go_simp
                refine Grow.relUpon_enter ((HIH.out w' hB).mono ?_)
                rintro e w'' ⟨rfl, hw''⟩
                exact ⟨_, rfl, hw'', rfl, trivial⟩
              obtain rfl : v = _ := hv
              go_simp
              refine hK _ _ ?_
              clear hK K
              repeat
                (refine Grow.Wk.step (fun K hK => ?_)
                 first
                 | (refine Grow.step_read (by rfl) (by rfl) ext_refl ?_
                    apply Exists.intro
                    refine ⟨fun w hB hF => ?_, ?_⟩
                    · skip
                      go_simp
                      try exact rfl
                    go_simp
                    refine hK _ _ ?_
                    clear hK K)
                 | (refine Grow.step_off (by rfl) ?_
                    go_simp
                    refine hK _ _ ?_
                    clear hK K))
              refine Grow.Wk.nil ?_
              intro w4 hB hF
              clear hF
              have HE4 := Lib.hid (ext_trans HY.out hB)
              clear hB
              go_wp2_with fail
              go_roundw
              case rel => exact ⟨i + 1, by rw [HTK.out], by go_num, by omega, HE4.out⟩
              case measure => simp [intOf]; omega
            · have HF : Hid (Y = R) := Lib.hid (by rw [← HR3.out, HXL.out, fewM_stop _ _ _ i (by rw [HYY.out]; omega), HYY.out])
              have HEE := Lib.hid (ext_trans HE.out (ext_trans HX.out HY.out))
              go_wp2_with fail
              go_ret
              exact ⟨ret_int HF.out, HEE.out⟩
          · obtain rfl : i = m.length := by omega
            have hnlt : ¬ ((m.length : Int) < (m.length : Int)) := by omega
            have HF : Hid (Y = R) := Lib.hid (by rw [← HR3.out, HXL.out, ← HYY.out, List.take_length])
            have HEE := Lib.hid (ext_trans HE.out (ext_trans HX.out HY.out))
            go_wp2_with fail
            go_ret
            exact ⟨ret_int HF.out, HEE.out⟩
theorem few_any (t : Tree) (A : Nat → Prop) (c : Array Value) (left : Int) (w : World) (hok : okT t) (h0 : 0 ≤ left) (h1 : left ≤ 1000000) (h : TV w A t c) :
    Calls Tryz.prog 15 #[.agg c, .int .i64 left] w (fun e w' => e = .returned (.bool (decide (0 ≤ fewT 0 left t))) ∧ Ext w w') := by
  have key : ∀ N : Nat, ∀ (t : Tree) (A : Nat → Prop) (c : Array Value) (deep : Nat) (left : Int) (w : World), SizeOf.sizeOf t < N → okT t → -140737488355328 ≤ left → left ≤ 1000000 → deep ≤ 1000 → TV w A t c →
    Calls Tryz.prog 43 #[.agg c, .int .i64 left, .int .i64 (deep : Nat)] w (fun e w' => e = .returned (.int .i64 (fewT deep left t)) ∧ Ext w w') := by
    intro N
    induction N with
    | zero => intro t A c deep left w h; omega
    | succ N ih => exact few_step N ih
  obtain ⟨k, b, d, s, la, ln, lc, ma, mn, mc, rfl⟩ := h.eight
  have hv := VAt.new w (cellsV k b d s (.slice la ln lc) (.slice ma mn mc))
  have hx : Ext w (w.alloc (.cells (cellsV k b d s (.slice la ln lc) (.slice ma mn mc)) 27)) := (ext_refl w).alloc (Nat.le_refl _) _
  simp only [cellsV] at hv hx ⊢
  go_enter Tryz.func15, Tryz.ntmps15
  go_upto_region 1 with fail
  generalize w.alloc (.cells #[.int .i64 k, .bool b, .bool d.neg, .string ⟨d.digits.toArray⟩, .int .i64 d.exp, .string ⟨s.toArray⟩, .slice la ln lc, .slice ma mn mc] 27) = w1 at *
  have HT := Lib.hid (h.keep (w' := w1) (A' := fun _ => True) hx.size (fun g _ hlt => ⟨trivial, hx.block g hlt⟩))
  obtain ⟨S, hS⟩ : ∃ S, w.heap.size = S := ⟨_, rfl⟩
  rw [hS] at hv ⊢
  have c0 := hv.cell 0; have c1 := hv.cell 1; have c2 := hv.cell 2; have c3 := hv.cell 3; have c4 := hv.cell 4; have c5 := hv.cell 5; have c6 := hv.cell 6; have c7 := hv.cell 7
  simp at c0 c1 c2 c3 c4 c5 c6 c7
  have HE := Lib.hid hx
  clear h hx hS hv
  go_wp2_with fail
  refine (key _ t _ _ 0 left w1 (Nat.lt_succ_self _) hok (by omega) h1 (by omega) HT.out).mono ?_
  rintro e w2 ⟨rfl, hw2⟩
  have HE2 := Lib.hid (ext_trans HE.out hw2)
  clear hw2
  go_wp2_with fail
  go_ret
  exact ⟨ret_bool (by simp), HE2.out⟩
end Go.Proofs.YtjapbjmeoaagmaaGreatDoor
end

section
set_option linter.unusedVariables false
set_option linter.unusedSimpArgs false
set_option maxRecDepth 100000
namespace Go.Proofs.YtjapbjmeoaagmaaGreatDoor
open Go.RowKit Go.Mem Orange Go.ChangeMaps Go.Maps Go.MapKept Go.WideMaps
def aggElem (v : Value) : Option (DataW (Array Value) × List MemPlace) := match v with | .agg c => some (.held c, []) | _ => none
theorem aggElem_inv {v : Value} {y : DataW (Array Value) × List MemPlace} (h : aggElem v = some y) : ∃ c, v = .agg c ∧ y = (.held c, []) := by
  cases v <;> simp [aggElem] at h
  exact ⟨_, rfl, h.symm⟩
def ReadsV (D : DataW (Array Value)) (l : List (List UInt8 × Array Value)) : Prop :=
  (∀ kl, Maps.has D kl = true ↔ ∃ p ∈ l, kl = .string p.1) ∧ ∀ p ∈ l, ∀ z, D.atKey (.string p.1) z = .held p.2
def MapV (w : World) (b : Nat) (l : List (List UInt8 × Array Value)) : Prop :=
  (l.map (·.1)).Nodup ∧ ∃ (n : Nat) (D : DataW (Array Value)), n ≤ l.length ∧ w.ownsMap Tryz.prog 9 aggElem b n D ∧ ReadsV D l
theorem MapV.new (w : World) : MapV (w.alloc (.map #[] 0)) w.heap.size [] :=
  ⟨by simp, 0, _, Nat.le_refl _, World.ownsMap_made w _ _ _, fun kl => by simp [Maps.has], by simp⟩
theorem MapV.lt {w : World} {b : Nat} {l : List (List UInt8 × Array Value)} (h : MapV w b l) : b < w.heap.size := by
  obtain ⟨_, n, D, _, h, _⟩ := h; exact h.lt
theorem MapV.same {w w' : World} {b : Nat} {l : List (List UInt8 × Array Value)} (h : MapV w b l) (he : w'.heap[b]? = w.heap[b]?) : MapV w' b l := by
  obtain ⟨h0, n, D, hn, ⟨es, clock, hb, r⟩, hD⟩ := h
  exact ⟨h0, n, D, hn, ⟨es, clock, he.trans hb, r⟩, hD⟩
theorem MapV.look {w : World} {b : Nat} {l : List (List UInt8 × Array Value)} (h : MapV w b l) (k : List UInt8) (hk : k.length ≤ maxLen) :
    (k ∉ l.map (·.1) ∧ (Instr.lookup 73 (.map (some b)) (.string ⟨k.toArray⟩) true).run Tryz.prog w = .ok (.tuple #[.agg zeroV, .bool false]) w) ∨
    ∃ c, (k, c) ∈ l ∧ (Instr.lookup 73 (.map (some b)) (.string ⟨k.toArray⟩) true).run Tryz.prog w = .ok (.tuple #[.agg c, .bool true]) w := by
  obtain ⟨hnd, n, D, hn, ⟨es, clock, hb, F, hs, rfl⟩, hh, ha⟩ := h
  have hky := keyOf_string_mk (s := ⟨k.toArray⟩) Tryz.underlying9 (show (ByteArray.mk k.toArray).size ≤ maxLen from hk)
  rcases Maps.fit_look true strLaw Tryz.underlying73 (z := .agg zeroV) (by rfl) hb F hky with ⟨hrun, _, hat⟩ | ⟨e0, y, _, _, hrun, hRv, hat, _⟩
  · refine .inl ⟨fun hm => ?_, hrun⟩
    obtain ⟨p, hp, rfl⟩ := List.mem_map.1 hm
    have h1 := Maps.has_false_of_atKey hat
    have h2 := (hh (.string p.1)).2 ⟨p, hp, rfl⟩
    simp only [List.toList_toArray] at h1
    rw [h1] at h2; cases h2
  · obtain ⟨c, hc, rfl⟩ := aggElem_inv hRv
    obtain ⟨p, hp, e⟩ := (hh _).1 (Maps.has_true_of_atKey hat)
    have e2 : k = p.1 := by
      simp only [List.toList_toArray, Lit.string.injEq] at e
      exact e
    have h2 := ha p hp (.held zeroV)
    have h3 := hat (.held zeroV)
    simp only [List.toList_toArray] at h3
    rw [← e2, h3] at h2
    simp only [DataW.held.injEq] at h2
    refine .inr ⟨c, ?_, by rw [hrun, hc]; rfl⟩
    rw [h2, e2]; exact hp
theorem MapV.put {w : World} {b : Nat} {l : List (List UInt8 × Array Value)} (h : MapV w b l) (k : List UInt8) (c : Array Value) (hk : k.length ≤ maxLen) (hl : l.length < maxLen) (hnew : k ∉ l.map (·.1)) :
    ∃ w', (Instr.mapUpdate 73 (.map (some b)) (.string ⟨k.toArray⟩) (.agg c)).run Tryz.prog w = .ok () w' ∧ MapV w' b (l ++ [(k, c)]) ∧ w.grownBy w' (some b) := by
  obtain ⟨hnd, n, D, hn, hown, hh, ha⟩ := h
  have hky := keyOf_string_mk (s := ⟨k.toArray⟩) Tryz.underlying9 (show (ByteArray.mk k.toArray).size ≤ maxLen from hk)
  obtain ⟨w', hrun, h1, h2⟩ := hown.update strLaw Tryz.underlying73 (by omega) hky (show aggElem (.agg c) = some (.held c, []) from rfl)
  simp only [List.toList_toArray] at h1
  refine ⟨w', hrun, ⟨?_, n + 1, _, by simp; omega, h1, fun kl => ?_, fun p hp z => ?_⟩, h2⟩
  · rw [List.map_append, List.nodup_append]
    refine ⟨hnd, by simp, fun a ha b hb => ?_⟩
    simp only [List.map_cons, List.map_nil, List.mem_singleton] at hb
    subst hb
    exact fun e => hnew (e ▸ ha)
  · by_cases e : kl = .string k
    · subst e
      rw [Maps.has_put_same hown.isMap (by simp [WideAt.IsKeyLit])]
      exact ⟨fun _ => ⟨(k, c), by simp, rfl⟩, fun _ => rfl⟩
    · rw [Maps.has_put_other e, hh]
      constructor
      · rintro ⟨p, hp, rfl⟩; exact ⟨p, List.mem_append_left _ hp, rfl⟩
      · rintro ⟨p, hp, rfl⟩
        rcases List.mem_append.1 hp with hp | hp
        · exact ⟨p, hp, rfl⟩
        · rw [List.mem_singleton.1 hp] at e; exact absurd rfl e
  · rcases List.mem_append.1 hp with hp | hp
    · have e : (Lit.string p.1) ≠ .string k := fun e => hnew (by injection e with e; rw [← e]; exact List.mem_map.2 ⟨p, hp, rfl⟩)
      rw [Maps.atKey_put_other e]
      exact ha p hp z
    · rw [List.mem_singleton.1 hp, Maps.atKey_put_same hown.isMap (by simp [WideAt.IsKeyLit])]
theorem reads_size {w : World} {b n : Nat} {D : DataW (Array Value)} {l : List (List UInt8 × Array Value)} (hown : w.ownsMap Tryz.prog 9 aggElem b n D) (hnd : (l.map (·.1)).Nodup) (hh : ReadsV D l) : Maps.size D = l.length := by
  obtain ⟨es, rfl, hpw, hkey⟩ := hown.entries strLaw
  have h1 : (es.map (·.1)).Nodup := List.pairwise_map.2 hpw
  have h2 : (l.map (fun p => Lit.string p.1)).Nodup := by
    have h3 := List.pairwise_map.1 hnd
    exact List.pairwise_map.2 (h3.imp (fun {a b} hab e => hab (by injection e)))
  have s1 : ∀ x ∈ es.map (·.1), x ∈ l.map (fun p => Lit.string p.1) := fun x hx => by
    obtain ⟨p, hp, rfl⟩ := List.mem_map.1 hx
    obtain ⟨q, hq, e⟩ := (hh.1 p.1).1 (by rw [Maps.has_eq]; exact List.any_eq_true.2 ⟨p, hp, WideAt.sameKey_self (hkey p hp)⟩)
    exact List.mem_map.2 ⟨q, hq, e.symm⟩
  have s2 : ∀ x ∈ l.map (fun p => Lit.string p.1), x ∈ es.map (·.1) := fun x hx => by
    obtain ⟨q, hq, rfl⟩ := List.mem_map.1 hx
    have := (hh.1 (.string q.1)).2 ⟨q, hq, rfl⟩
    rw [Maps.has_eq] at this
    obtain ⟨p, hp, hs⟩ := List.any_eq_true.1 this
    exact List.mem_map.2 ⟨p, hp, WideAt.sameKey_eq hs⟩
  have l1 := GrowS.len_of_subset h1 s1
  have l2 := GrowS.len_of_subset h2 s2
  simp only [List.length_map] at l1 l2
  show es.length = l.length
  omega
theorem MapV.len {w : World} {b : Nat} {l : List (List UInt8 × Array Value)} (h : MapV w b l) (ty : TypeId) : (Builtin.len_ #[73] ty #[.map (some b)]).run Tryz.prog w = .ok (.int .i64 (l.length : Nat)) w := by
  obtain ⟨hnd, n, D, hn, hown, hh⟩ := h
  rw [hown.len Tryz.underlying73 ty, reads_size hown hnd hh]
def RngV (w : World) (b r : Nat) (l : List (List UInt8 × Array Value)) (L : List UInt8 → Bool) (cnt : Nat) : Prop :=
  (l.map (·.1)).Nodup ∧ ∃ (n : Nat) (D : DataW (Array Value)) (left : Lit → Bool), n ≤ l.length ∧ w.ranges Tryz.prog 9 aggElem b r n D left cnt ∧ ReadsV D l ∧ ∀ k, left (.string k) = L k
theorem MapV.range {w : World} {b : Nat} {l : List (List UInt8 × Array Value)} (h : MapV w b l) :
    ∃ w', (Instr.range 73 (.map (some b))).run Tryz.prog w = .ok (.pointer (some ⟨w.heap.size, 0, none⟩)) w' ∧ RngV w' b w.heap.size l (fun k => (l.map (·.1)).contains k) l.length ∧ Ext w w' ∧ w'.heap.size = w.heap.size + 1 := by
  obtain ⟨hnd, n, D, hn, hown, hh⟩ := h
  obtain ⟨w', hrun, hr, hg, hs⟩ := hown.range strLaw Tryz.underlying73
  rw [reads_size hown hnd hh] at hr
  refine ⟨w', hrun, ⟨hnd, n, D, _, hn, hr, hh, fun k => ?_⟩, ⟨hg.1, hg.2, hg.3, hg.4, fun k hk => hg.5 k hk (by simp)⟩, hs⟩
  rw [Bool.eq_iff_iff, hh.1]
  simp only [List.contains_iff_mem, List.mem_map, Lit.string.injEq]
  constructor
  · rintro ⟨p, hp, e⟩; exact ⟨p, hp, e.symm⟩
  · rintro ⟨p, hp, e⟩; exact ⟨p, hp, e.symm⟩
theorem RngV.kept {w w' : World} {b r : Nat} {l : List (List UInt8 × Array Value)} {L : List UInt8 → Bool} {cnt : Nat} (h : RngV w b r l L cnt) (hx : Ext w w') : RngV w' b r l L cnt := by
  obtain ⟨hnd, n, D, left, hn, hr, hh, hL⟩ := h
  exact ⟨hnd, n, D, left, hn, hr.kept (row := none) ⟨hx.os, hx.tape, hx.output, hx.size, fun k hk _ => hx.block k hk⟩ (by simp) (by simp), hh, hL⟩
theorem RngV.map {w : World} {b r : Nat} {l : List (List UInt8 × Array Value)} {L : List UInt8 → Bool} {cnt : Nat} (h : RngV w b r l L cnt) : MapV w b l := by
  obtain ⟨hnd, n, D, left, hn, hr, hh, hL⟩ := h
  exact ⟨hnd, n, D, hn, hr.owns, hh⟩
theorem RngV.left_eq {w : World} {b r : Nat} {l : List (List UInt8 × Array Value)} {L : List UInt8 → Bool} {cnt : Nat} (h : RngV w b r l L cnt) : w.rangeLeft b r = cnt := by
  obtain ⟨hnd, n, D, left, hn, hr, hh, hL⟩ := h
  exact hr.left_eq
theorem RngV.next {w : World} {b r : Nat} {l : List (List UInt8 × Array Value)} {L : List UInt8 → Bool} {cnt : Nat} (h : RngV w b r l L cnt) (ty : TypeId) :
    (cnt = 0 ∧ (∀ k, L k = false) ∧ (Instr.next (.pointer (some ⟨r, 0, none⟩)) false ty).run Tryz.prog w = .ok (.tuple #[.bool false]) w) ∨
    ∃ k c w' cnt', (k, c) ∈ l ∧ L k = true ∧ (Instr.next (.pointer (some ⟨r, 0, none⟩)) false ty).run Tryz.prog w = .ok (.tuple #[.bool true, .string ⟨k.toArray⟩, .agg c]) w' ∧ RngV w' b r l (fun x => L x && !(x == k)) cnt' ∧ cnt' < cnt ∧ w.grownBy w' (some r) ∧ w'.heap.size = w.heap.size ∧
      (Instr.entry (.pointer (some ⟨r, 0, none⟩))).run Tryz.prog w' = .ok (.tuple #[.string ⟨k.toArray⟩, .agg c]) w' := by
  obtain ⟨hnd, n, D, left, hn, hr, hh, hL⟩ := h
  rcases hr.next strLaw ty with ⟨h0, hl, hrun⟩ | ⟨key, v, kl, y, w', cnt', hkey, hlk, hv, hat, hrun, hrg, hlt, hgr, hsz, hen⟩
  · exact .inl ⟨h0, fun k => by rw [← hL]; exact hl _, hrun⟩
  · obtain ⟨s, rfl⟩ := Maps.keyOf_string_inv Tryz.underlying9 hkey
    obtain ⟨c, rfl, rfl⟩ := aggElem_inv hv
    obtain ⟨p, hp, rfl⟩ := (hh.1 kl).1 (Maps.has_true_of_atKey hat)
    have e1 : s = ⟨p.1.toArray⟩ := by
      rw [Go.keyOf_string Tryz.underlying9] at hkey
      simp [mapKey] at hkey
      have h2 : s.data.toList = p.1 := by simpa using hkey.2
      rw [← h2]
    have e2 : p.2 = c := by
      have h1 := hat (.held c)
      rw [hh.2 p hp] at h1
      simpa using h1
    subst e1
    refine .inr ⟨p.1, c, w', cnt', by rw [← e2]; exact hp, by rw [← hL]; exact hlk, hrun, ⟨hnd, n, D, _, hn, hrg, hh, fun k => ?_⟩, hlt, hgr, hsz, hen⟩
    rw [hL]
    congr 2
end Go.Proofs.YtjapbjmeoaagmaaGreatDoor
end

section
set_option linter.unusedVariables false
set_option linter.unusedSimpArgs false
set_option maxRecDepth 100000
namespace Go.Proofs.YtjapbjmeoaagmaaGreatDoor
open Go.RowKit Go.Mem Orange
def EntV (w : World) (A : Nat → Prop) (l : List (List UInt8 × Array Value)) (m : List Mem1) : Prop :=
  l.length = m.length ∧ ∀ i (hi : i < m.length), ∃ c, l[i]? = some (m[i].1, c) ∧ TV w A m[i].2 c
theorem EntV.nil (w : World) (A : Nat → Prop) : EntV w A [] [] := ⟨rfl, fun i hi => absurd hi (Nat.not_lt_zero i)⟩
theorem EntV.keep {w w' : World} {A A' : Nat → Prop} {l : List (List UInt8 × Array Value)} {m : List Mem1} (h : EntV w A l m) (hs : w.heap.size ≤ w'.heap.size) (hA : ∀ g, A g → g < w.heap.size → A' g ∧ w'.heap[g]? = w.heap[g]?) : EntV w' A' l m :=
  ⟨h.1, fun i hi => by obtain ⟨c, h1, h2⟩ := h.2 i hi; exact ⟨c, h1, h2.keep hs hA⟩⟩
theorem EntV.snoc {w : World} {A : Nat → Prop} {l : List (List UInt8 × Array Value)} {m : List Mem1} {i : Nat} (hi : i < m.length) (h : EntV w A l (m.take i)) {c : Array Value} (hc : TV w A m[i].2 c) : EntV w A (l ++ [(m[i].1, c)]) (m.take (i + 1)) := by
  have h1 := h.1
  rw [List.length_take] at h1
  refine ⟨by simp only [List.length_append, List.length_cons, List.length_nil, List.length_take]; omega, fun j hj => ?_⟩
  rw [List.length_take] at hj
  by_cases e : j = i
  · subst e
    refine ⟨c, ?_, ?_⟩
    · rw [List.getElem?_append_right (by omega), show j - l.length = 0 by omega]
      simp
    · rw [List.getElem_take]; exact hc
  · obtain ⟨c', h2, h3⟩ := h.2 j (by rw [List.length_take]; omega)
    rw [List.getElem_take] at h2 h3
    refine ⟨c', ?_, ?_⟩
    · rw [List.getElem?_append_left (by omega), h2, List.getElem_take]
    · rw [List.getElem_take]; exact h3
theorem EntV.keys {w : World} {A : Nat → Prop} {l : List (List UInt8 × Array Value)} {m : List Mem1} (h : EntV w A l m) : l.map (·.1) = m.map (·.1) := by
  apply List.ext_getElem
  · simp [h.1]
  · intro i a b
    have hi : i < m.length := by simpa using b
    have hl : i < l.length := by simpa using a
    obtain ⟨c, h1, _⟩ := h.2 i hi
    rw [List.getElem?_eq_getElem hl] at h1
    simp only [Option.some.injEq] at h1
    simp [h1]
theorem EntV.find {w : World} {A : Nat → Prop} {l : List (List UInt8 × Array Value)} {m : List Mem1} (h : EntV w A l m) (hn : (m.map (·.1)).Nodup) {k : List UInt8} {c : Array Value} (hk : (k, c) ∈ l) : ∃ t, (k, t) ∈ m ∧ findM k m = some t ∧ TV w A t c := by
  obtain ⟨i, hi, e⟩ := List.mem_iff_getElem.1 hk
  have hm : i < m.length := by rw [← h.1]; exact hi
  obtain ⟨c', h1, h2⟩ := h.2 i hm
  rw [List.getElem?_eq_getElem hi, e] at h1
  simp only [Option.some.injEq, Prod.mk.injEq] at h1
  obtain ⟨rfl, rfl⟩ := h1
  have hmem : (m[i].1, m[i].2) ∈ m := List.getElem_mem hm
  exact ⟨m[i].2, hmem, findM_of_mem hn hmem, h2⟩
theorem nodup_at {m : List Mem1} (h : (m.map (·.1)).Nodup) {i : Nat} (hi : i < m.length) : m[i].1 ∉ (m.take i).map (·.1) := by
  have e : m = m.take i ++ m.drop i := (List.take_append_drop i m).symm
  rw [e, List.drop_eq_getElem_cons hi, List.map_append, List.map_cons, List.nodup_append] at h
  intro hc
  exact h.2.2 _ hc _ (List.mem_cons_self) rfl
set_option maxHeartbeats 6400000 in
theorem firsts_any (v : Value) (m : List Mem1) (cs : List Value) (A : Nat → Prop) (w : World) (hr : RowAt w A 9 v m.length cs) (ht : TM w A m cs) (hm : m.length ≤ 1000000) (hk : ∀ p ∈ m, p.1.length ≤ 1000000) (hnd : (m.map (·.1)).Nodup) :
    Calls Tryz.prog 54 #[v] w (fun e w' => ∃ b l, e = .returned (.map (some b)) ∧ MapV w' b l ∧ EntV w' (fun _ => True) l m ∧ Ext w w') := by
  obtain ⟨_, a, cap, rfl, hcap, hcm, -⟩ := id hr
  have hmm := @run_makeMap Tryz.prog
  have hx : Ext w (w.alloc (.map #[] 0)) := (ext_refl w).alloc (Nat.le_refl _) _
  obtain ⟨S, hS⟩ : ∃ S, w.heap.size = S := ⟨_, rfl⟩
  have HS := Lib.hid hS
  have HR := Lib.hid (hr.keep (w' := w.alloc (.map #[] 0)) (A' := fun g => g < S) hx.size (fun g _ hlt => ⟨by omega, hx.block g hlt⟩))
  have HT := Lib.hid (ht.keep (w' := w.alloc (.map #[] 0)) (A' := fun g => g < S) hx.size (fun g _ hlt => ⟨by omega, hx.block g hlt⟩))
  have HK := Lib.hid hk
  have HND := Lib.hid hnd
  clear hr ht hk hS hnd
  have hs0 := MapV.new w
  rw [HS.out] at hs0
  go_enter Tryz.func54, Tryz.ntmps54
  go_upto_region 2 with fail
  rw [HS.out]
  generalize w.alloc (.map #[] 0) = w1 at *
  have HSA := Lib.hid hs0
  have HE := Lib.hid hx
  clear hs0 hx hmm
  go_wp2_with fail
  go_loopw [11] (fun iv wr => ∃ (i : Nat) (l : List (List UInt8 × Array Value)), iv = .int .i64 i ∧ i ≤ m.length ∧ MapV wr S l ∧ EntV wr (fun g => g < S) l (m.take i) ∧ Below S w1 wr) (fun iv _ => 2000000 - (intOf iv).toNat)
  case atStart => exact ⟨0, [], rfl, by omega, HSA.out, by rw [List.take_zero]; exact EntV.nil _ _, Below.refl _ _⟩
  case round =>
    obtain ⟨i, l, rfl, hi, hset, hen, hE⟩ := hrel
    have HX := Lib.hid hE
    have HSE := Lib.hid hset
    have HEN := Lib.hid hen
    clear hE hset hen
    by_cases hlt : i < m.length
    · have hlti : (i : Int) < m.length := by omega
      have hi0 : (0 : Int) ≤ i := by omega
      obtain ⟨g, o, xk, xb, xd, xs, xa1, xn1, xc1, xa2, xn2, xc2, rfl, htx, hcell⟩ := mem_elem HR.out HT.out rfl i hlt
      obtain ⟨x0, x1, x2, x3, x4, x5, x6, x7, x8⟩ := hcell wr (fun g hg _ => HX.out.block g hg)
      have hki := HK.out m[i] (List.getElem_mem hlt)
      have hnew := nodup_at HND.out hlt
      rw [← HEN.out.keys] at hnew
      have HTX := Lib.hid (htx.keep (w' := wr) (A' := fun g => g < S) HX.out.size (fun g hg _ => ⟨hg, HX.out.block g hg⟩))
      have hsn : Hid (∀ c, TV wr (fun g => g < S) m[i].2 c → EntV wr (fun g => g < S) (l ++ [(m[i].1, c)]) (m.take (i + 1))) := Lib.hid (fun c hc => HEN.out.snoc hlt hc)
      have HSN := Lib.hid (hsn.out _ HTX.out)
      have hll : l.length ≤ 1000000 := by have := HEN.out.1; rw [List.length_take] at this; omega
      obtain ⟨ky, hky⟩ : ∃ ky, m[i].1 = ky := ⟨_, rfl⟩
      have hsn2 := HSN.out
      rw [hky] at x0 hki hnew hsn2
      replace HSN := Lib.hid hsn2
      have HNEW := Lib.hid hnew
      clear htx hcell hky hnew hsn hsn2 HTX
      have hm9 := MAt.new wr #[.string ⟨ky.toArray⟩, .int .i64 xk, .bool xb, .bool xd.neg, .string ⟨xd.digits.toArray⟩, .int .i64 xd.exp, .string ⟨xs.toArray⟩, .slice xa1 xn1 xc1, .slice xa2 xn2 xc2]
      have hx3 : Ext wr (wr.alloc (.cells #[.string ⟨ky.toArray⟩, .int .i64 xk, .bool xb, .bool xd.neg, .string ⟨xd.digits.toArray⟩, .int .i64 xd.exp, .string ⟨xs.toArray⟩, .slice xa1 xn1 xc1, .slice xa2 xn2 xc2] 43)) := (ext_refl wr).alloc (Nat.le_refl _) _
      obtain ⟨P, hP⟩ : ∃ P, wr.heap.size = P := ⟨_, rfl⟩
      have hSP : S < P := by rw [← hP]; exact HSE.out.lt
      rw [hP] at hm9
      go_upto_region 5 with fail
      clear x0 x1 x2 x3 x4 x5 x6 x7 x8 hP
      generalize wr.alloc (.cells #[.string ⟨ky.toArray⟩, .int .i64 xk, .bool xb, .bool xd.neg, .string ⟨xd.digits.toArray⟩, .int .i64 xd.exp, .string ⟨xs.toArray⟩, .slice xa1 xn1 xc1, .slice xa2 xn2 xc2] 43) = w3 at *
      have hs3 := HSE.out.same (w' := w3) (hx3.block _ HSE.out.lt)
      have x0 := hm9.cell 0
      simp at x0
      have hkm : ky.length ≤ maxLen := by simp only [maxLen]; omega
      rcases hs3.look ky hkm with ⟨_, hlk⟩ | ⟨c9, hc9, _⟩
      case inr => exact absurd (List.mem_map.2 ⟨_, hc9, rfl⟩) HNEW.out
      have hb3 : Below S w1 w3 := HX.out.trans (hx3.mono (by have := HSE.out.lt; omega))
      have HB3 := Lib.hid hb3
      have HSN3 := Lib.hid (HSN.out.keep (w' := w3) (A' := fun g => g < S) hx3.size (fun g hg hlt => ⟨hg, hx3.block g hlt⟩))
      have HS3 := Lib.hid hs3
      have HM9 := Lib.hid hm9
      clear hb3 hx3 hm9 hs3 HSN HSE HEN
      simp only [zeroV, cellsV] at hlk
      go_upto_region 6 with fail
      have hx4 : Ext w3 (w3.alloc (.cells #[.int .i64 0, .bool false, .bool Num.zero.neg, .string ⟨Num.zero.digits.toArray⟩, .int .i64 Num.zero.exp, .string ⟨#[]⟩, .slice none 0 0, .slice none 0 0] 27)) := (ext_refl w3).alloc (Nat.le_refl _) _
      generalize w3.alloc (.cells #[.int .i64 0, .bool false, .bool Num.zero.neg, .string ⟨Num.zero.digits.toArray⟩, .int .i64 Num.zero.exp, .string ⟨#[]⟩, .slice none 0 0, .slice none 0 0] 27) = w4 at *
      have hs4 := HS3.out.same (w' := w4) (hx4.block _ HS3.out.lt)
      have hm4 := HM9.out.ext hx4
      have HSN4 := Lib.hid (HSN3.out.keep (w' := w4) (A' := fun g => g < S) hx4.size (fun g hg hlt => ⟨hg, hx4.block g hlt⟩))
      have HB4 := Lib.hid (HB3.out.trans (hx4.mono (by have := HS3.out.lt; omega)))
      obtain ⟨w5, hup, hs5, hg5⟩ := hs4.put ky (cellsV xk xb xd xs (.slice xa1 xn1 xc1) (.slice xa2 xn2 xc2)) hkm (by simp only [maxLen]; omega) HNEW.out
      have hb5 : Below S w4 w5 := ⟨hg5.1, hg5.2, hg5.3, hg5.4, fun k hk => hg5.5 k (Nat.lt_of_lt_of_le hk (by have := hs4.lt; omega)) (by simp; omega)⟩
      have HB5 := Lib.hid (HB4.out.trans hb5)
      have HSN5 := Lib.hid (HSN4.out.keep (w' := w5) (A' := fun g => g < S) hg5.4 (fun g hg hlt => ⟨hg, hb5.block g hg⟩))
      have HS5 := Lib.hid hs5
      have y0 := hm4.cell 0; have y1 := hm4.cell 1; have y2 := hm4.cell 2; have y3 := hm4.cell 3; have y4 := hm4.cell 4; have y5 := hm4.cell 5; have y6 := hm4.cell 6; have y7 := hm4.cell 7; have y8 := hm4.cell 8
      simp at y0 y1 y2 y3 y4 y5 y6 y7 y8
      simp only [cellsV] at hup
      have e9 : IntKind.i64.wrap ((i : Int) + 1) = ((i + 1 : Nat) : Int) := by rw [IntWalk.i64_in _ (by omega)]; omega
      clear hx4 hs4 hm4 hb5 hs5 hg5 x0 hlk
      go_wp2_with fail
      go_roundw
      case rel => exact ⟨i + 1, _, by go_num, by omega, HS5.out, HSN5.out, HB5.out⟩
      case measure => simp [intOf]; omega
    · obtain rfl : i = m.length := by omega
      have hnlt : ¬ ((m.length : Int) < (m.length : Int)) := by omega
      have HF := HEN.out
      rw [List.take_length] at HF
      have HFF := Lib.hid (HF.keep (w' := wr) (A' := fun _ => True) (Nat.le_refl _) (fun _ _ _ => ⟨trivial, rfl⟩))
      clear HF
      go_wp2_with fail
      go_ret
      exact ⟨S, rfl, l, HSE.out, HFF.out, HE.out.trans (HX.out.mono (by rw [HS.out]; exact Nat.le_refl _))⟩
end Go.Proofs.YtjapbjmeoaagmaaGreatDoor
end

section
set_option linter.unusedVariables false
set_option linter.unusedSimpArgs false
set_option maxRecDepth 100000
namespace Go.Proofs.YtjapbjmeoaagmaaGreatDoor
open Go.RowKit Go.Mem Orange
theorem sameL_len : ∀ (l l' : List Tree), sameL l l' = true → l.length = l'.length
  | [], [], _ => rfl
  | [], _ :: _, h => by rw [sameL] at h; cases h
  | _ :: _, [], h => by rw [sameL] at h; cases h
  | t :: l, t' :: l', h => by
    rw [sameL, Bool.and_eq_true] at h
    simp [sameL_len l l' h.2]
set_option maxHeartbeats 6400000 in
theorem eqf_any (l l' : List Tree) (ih : ∀ i (h : i < l.length) (h' : i < l'.length) (c c' : Array Value) (w : World), TV w (fun _ => True) l[i] c → TV w (fun _ => True) l'[i] c' →
      Calls Tryz.prog 25 #[.agg c, .agg c'] w (fun e w' => e = .returned (.bool (sameT l[i] l'[i])) ∧ Ext w w'))
    (v v' : Value) (cs cs' : List Value) (w : World) (hr : RowAt w (fun _ => True) 8 v l.length cs) (ht : TL w (fun _ => True) l cs) (hr' : RowAt w (fun _ => True) 8 v' l'.length cs') (ht' : TL w (fun _ => True) l' cs') (hn : l.length ≤ 1000000) (hn' : l'.length ≤ 1000000) :
    Calls Tryz.prog 53 #[v, v', .func (.func 25) #[] #[]] w (fun e w' => e = .returned (.bool (sameL l l')) ∧ Ext w w') := by
  obtain ⟨_, a, p, rfl, hcap, hcm, -⟩ := id hr
  obtain ⟨_, a', p', rfl, hcap', hcm', -⟩ := id hr'
  have IH := Lib.hid ih
  have HR := Lib.hid hr
  have HT := Lib.hid ht
  have HR' := Lib.hid hr'
  have HT' := Lib.hid ht'
  obtain ⟨T, hT⟩ : ∃ T, sameL l l' = T := ⟨_, rfl⟩
  rw [hT]
  have HTT := Lib.hid hT
  clear ih hr ht hr' ht' hT
  by_cases h5 : ¬ l.length = l'.length
  · have q1 : ((l.length : Int) == l'.length) = false := by simp; omega
    have HF : Hid (T = false) := Lib.hid (by
      rw [← HTT.out]
      cases hx : sameL l l' with
      | true => exact absurd (sameL_len _ _ hx) h5
      | false => rfl)
    clear h5
    go_enter Tryz.func53, Tryz.ntmps53
    go_wp2_with fail
    go_ret
    exact ⟨ret_bool HF.out.symm, ext_refl _⟩
  replace h5 : l'.length = l.length := by omega
  have e5 : (l'.length : Int) = l.length := by omega
  have H5 := Lib.hid h5
  clear h5
  go_enter Tryz.func53, Tryz.ntmps53
  go_upto_region 3 with fail
  clear e5
  go_wp2_with fail
  go_loopw [17] (fun iv wr => ∃ i : Nat, iv = .int .i64 i ∧ i ≤ l.length ∧ Ext w wr ∧ sameL l l' = sameL (l.drop i) (l'.drop i)) (fun iv _ => 2000000 - (intOf iv).toNat)
  case atStart => exact ⟨0, rfl, by omega, ext_refl _, rfl⟩
  case round =>
    obtain ⟨i, rfl, hi, hE, hdr⟩ := hrel
    have HX := Lib.hid hE
    have HDR := Lib.hid hdr
    clear hE hdr
    by_cases hlt : i < l.length
    · have hlti : (i : Int) < l.length := by omega
      have hi0 : (0 : Int) ≤ i := by omega
      have hlt' : i < l'.length := by have := H5.out; omega
      have hlti' : (i : Int) < l'.length := by omega
      obtain ⟨g, o, xk, xb, xd, xs, xa1, xn1, xc1, xa2, xn2, xc2, rfl, htx, hcell⟩ := row_elem HR.out HT.out rfl i hlt
      obtain ⟨g', o', yk, yb, yd, ys, ya1, yn1, yc1, ya2, yn2, yc2, rfl, hty, hcell'⟩ := row_elem HR'.out HT'.out rfl i hlt'
      obtain ⟨x0, x1, x2, x3, x4, x5, x6, x7⟩ := hcell wr (fun g _ hg => HX.out.block g hg)
      have HTX := Lib.hid htx
      have HTY := Lib.hid hty
      have HCY := Lib.hid hcell'
      have HIH := Lib.hid (IH.out i hlt hlt')
      have HDR2 : Hid (sameL l l' = (sameT l[i] l'[i] && sameL (l.drop (i + 1)) (l'.drop (i + 1)))) := Lib.hid (by
        rw [HDR.out, List.drop_eq_getElem_cons hlt, List.drop_eq_getElem_cons hlt', sameL])
      obtain ⟨bq, hbq⟩ : ∃ bq, sameT l[i] l'[i] = bq := ⟨_, rfl⟩
      have hih := HIH.out
      have hdr2 := HDR2.out
      rw [hbq] at hih hdr2
      replace HIH := Lib.hid hih
      replace HDR2 := Lib.hid hdr2
      clear hih hdr2 hbq htx hty hcell hcell'
      have hv3 := VAt.new wr #[.int .i64 xk, .bool xb, .bool xd.neg, .string ⟨xd.digits.toArray⟩, .int .i64 xd.exp, .string ⟨xs.toArray⟩, .slice xa1 xn1 xc1, .slice xa2 xn2 xc2]
      have hx3 : Ext wr (wr.alloc (.cells #[.int .i64 xk, .bool xb, .bool xd.neg, .string ⟨xd.digits.toArray⟩, .int .i64 xd.exp, .string ⟨xs.toArray⟩, .slice xa1 xn1 xc1, .slice xa2 xn2 xc2] 27)) := (ext_refl wr).alloc (Nat.le_refl _) _
      obtain ⟨P, hP⟩ : ∃ P, wr.heap.size = P := ⟨_, rfl⟩
      rw [hP] at hv3
      go_upto_region 6 with fail
      clear x0 x1 x2 x3 x4 x5 x6 x7 hP
      generalize wr.alloc (.cells #[.int .i64 xk, .bool xb, .bool xd.neg, .string ⟨xd.digits.toArray⟩, .int .i64 xd.exp, .string ⟨xs.toArray⟩, .slice xa1 xn1 xc1, .slice xa2 xn2 xc2] 27) = w3 at *
      have HX3 := Lib.hid (ext_trans HX.out hx3)
      obtain ⟨y0, y1, y2, y3, y4, y5, y6, y7⟩ := HCY.out w3 (fun g _ hg => HX3.out.block g hg)
      have hv4 := VAt.new w3 #[.int .i64 yk, .bool yb, .bool yd.neg, .string ⟨yd.digits.toArray⟩, .int .i64 yd.exp, .string ⟨ys.toArray⟩, .slice ya1 yn1 yc1, .slice ya2 yn2 yc2]
      have hx4 : Ext w3 (w3.alloc (.cells #[.int .i64 yk, .bool yb, .bool yd.neg, .string ⟨yd.digits.toArray⟩, .int .i64 yd.exp, .string ⟨ys.toArray⟩, .slice ya1 yn1 yc1, .slice ya2 yn2 yc2] 27)) := (ext_refl w3).alloc (Nat.le_refl _) _
      obtain ⟨P4, hP4⟩ : ∃ P4, w3.heap.size = P4 := ⟨_, rfl⟩
      rw [hP4] at hv4
      clear hx3
      go_upto_region 7 with fail
      clear y0 y1 y2 y3 y4 y5 y6 y7 hP4
      generalize w3.alloc (.cells #[.int .i64 yk, .bool yb, .bool yd.neg, .string ⟨yd.digits.toArray⟩, .int .i64 yd.exp, .string ⟨ys.toArray⟩, .slice ya1 yn1 yc1, .slice ya2 yn2 yc2] 27) = w4 at *
      have HX4 := Lib.hid (ext_trans HX3.out hx4)
      replace hv3 := hv3.ext hx4
      have c0 := hv3.cell 0; have c1 := hv3.cell 1; have c2 := hv3.cell 2; have c3 := hv3.cell 3; have c4 := hv3.cell 4; have c5 := hv3.cell 5; have c6 := hv3.cell 6; have c7 := hv3.cell 7
      have d0 := hv4.cell 0; have d1 := hv4.cell 1; have d2 := hv4.cell 2; have d3 := hv4.cell 3; have d4 := hv4.cell 4; have d5 := hv4.cell 5; have d6 := hv4.cell 6; have d7 := hv4.cell 7
      simp at c0 c1 c2 c3 c4 c5 c6 c7 d0 d1 d2 d3 d4 d5 d6 d7
      clear hv3 hv4 hx4
      have e9 : IntKind.i64.wrap ((i : Int) + 1) = ((i + 1 : Nat) : Int) := by rw [IntWalk.i64_in _ (by omega)]; omega
      go_wp2_with fail
      refine (HIH.out _ _ w4 (HTX.out.keep (A' := fun _ => True) HX4.out.size (fun g _ hlt => ⟨trivial, HX4.out.block g hlt⟩)) (HTY.out.keep (A' := fun _ => True) HX4.out.size (fun g _ hlt => ⟨trivial, HX4.out.block g hlt⟩))).mono ?_
      rintro e w5 ⟨rfl, hw5⟩
      have HX5 := Lib.hid (ext_trans HX4.out hw5)
      clear hw5 c0 c1 c2 c3 c4 c5 c6 c7 d0 d1 d2 d3 d4 d5 d6 d7
      cases bq with
      | false =>
        have HF : Hid (T = false) := Lib.hid (by rw [← HTT.out, HDR2.out]; rfl)
        go_wp2_with fail
        go_ret
        exact ⟨ret_bool HF.out.symm, HX5.out⟩
      | true =>
        have HN : Hid (sameL l l' = sameL (l.drop (i + 1)) (l'.drop (i + 1))) := Lib.hid (by rw [HDR2.out, Bool.true_and])
        go_wp2_with fail
        go_roundw
        case rel => exact ⟨i + 1, by go_num, by omega, HX5.out, HN.out⟩
        case measure => simp [intOf]; omega
    · obtain rfl : i = l.length := by omega
      have hnlt : ¬ ((l.length : Int) < (l.length : Int)) := by omega
      have HF : Hid (T = true) := Lib.hid (by
        rw [← HTT.out, HDR.out, List.drop_of_length_le (Nat.le_refl _), List.drop_of_length_le (by have := H5.out; omega), sameL])
      go_wp2_with fail
      go_ret
      exact ⟨ret_bool HF.out.symm, HX.out⟩
end Go.Proofs.YtjapbjmeoaagmaaGreatDoor
end

section
set_option linter.unusedVariables false
set_option linter.unusedSimpArgs false
set_option maxRecDepth 100000
namespace Go.Proofs.YtjapbjmeoaagmaaGreatDoor
open Go.RowKit Go.Mem Orange
theorem sameT_mk (k : Int) (b : Bool) (d : Num) (s : List UInt8) (l : List Tree) (m : List Mem1) (k' : Int) (b' : Bool) (d' : Num) (s' : List UInt8) (l' : List Tree) (m' : List Mem1) :
    sameT (.mk k b d s l m) (.mk k' b' d' s' l' m') = (decide (k = k') && (b == b') && decide (d = d') && decide (s = s') && decide (m.length = m'.length) && sameL l l' && (sameM [] m m' && decide ((firstsL [] m).length = (firstsL [] m').length))) := by
  rw [sameT]; rfl
theorem sameM_no {m m' : List Mem1} {k : List UInt8} {t : Tree} (hn : (m.map (·.1)).Nodup) (h : (k, t) ∈ m) (hf : ∀ t', findM k m' = some t' → sameT t t' = false) : sameM [] m m' = false := by
  cases hs : sameM [] m m' with
  | false => rfl
  | true =>
    obtain ⟨t', h1, h2⟩ := (sameM_nodup m m' [] hn (by simp)).1 hs _ h
    have h3 := hf t' h1
    rw [h3] at h2; cases h2
def specF (m : List Mem1) : Grow.Spec Ext :=
  ⟨fun v => ∃ b, v = .map (some b), fun v w => ∃ b l, v = .map (some b) ∧ MapV w b l ∧ EntV w (fun _ => True) l m, ⟨_, 0, rfl⟩,
    fun v w w' ⟨b, l, e, h1, h2⟩ hg => ⟨b, l, e, h1.same (hg.block _ h1.lt), h2.keep hg.size (fun g _ hlt => ⟨trivial, hg.block g hlt⟩)⟩⟩
set_option maxHeartbeats 12800000 in
theorem same_step (N : Nat) (ih : ∀ (t u : Tree) (A A' : Nat → Prop) (c c' : Array Value) (w : World), SizeOf.sizeOf t < N → weightT t ≤ 1000000 → weightT u ≤ 1000000 → distT t → distT u → TV w A t c → TV w A' u c' →
    Calls Tryz.prog 25 #[.agg c, .agg c'] w (fun e w' => e = .returned (.bool (sameT t u)) ∧ Ext w w')) :
    ∀ (t u : Tree) (A A' : Nat → Prop) (c c' : Array Value) (w : World), SizeOf.sizeOf t < N + 1 → weightT t ≤ 1000000 → weightT u ≤ 1000000 → distT t → distT u → TV w A t c → TV w A' u c' →
    Calls Tryz.prog 25 #[.agg c, .agg c'] w (fun e w' => e = .returned (.bool (sameT t u)) ∧ Ext w w')
  | .mk k b d s l m, .mk k' b' d' s' l' m', A, A', c, c', w, hN, hwt, hwu, hdt, hdu, ht, hu => by
    have IH := Lib.hid ih
    clear ih
    have hln : l.length + m.length ≤ 1000000 := by
      have h1 := countT_ins (.mk k b d s l m); have h2 := countL_len (Tree.mk k b d s l m).ins; have h3 := ins_len (.mk k b d s l m); have h4 := count_weight (.mk k b d s l m)
      have h5 : (Tree.mk k b d s l m).list.length + (Tree.mk k b d s l m).mems.length ≤ 1000000 := by omega
      exact h5
    have hln' : l'.length + m'.length ≤ 1000000 := by
      have h1 := countT_ins (.mk k' b' d' s' l' m'); have h2 := countL_len (Tree.mk k' b' d' s' l' m').ins; have h3 := ins_len (.mk k' b' d' s' l' m'); have h4 := count_weight (.mk k' b' d' s' l' m')
      have h5 : (Tree.mk k' b' d' s' l' m').list.length + (Tree.mk k' b' d' s' l' m').mems.length ≤ 1000000 := by omega
      exact h5
    have HLN := Lib.hid hln
    have HLN' := Lib.hid hln'
    have HPL : Hid (∀ i (h : i < l.length), weightT l[i] ≤ 1000000 ∧ distT l[i]) := Lib.hid (by
      rw [weightT] at hwt; rw [distT] at hdt
      exact fun i h => ⟨by have := weightL_mem h; omega, (distL_iff l).1 hdt.2.1 _ (List.getElem_mem h)⟩)
    have HPL' : Hid (∀ i (h : i < l'.length), weightT l'[i] ≤ 1000000 ∧ distT l'[i]) := Lib.hid (by
      rw [weightT] at hwu; rw [distT] at hdu
      exact fun i h => ⟨by have := weightL_mem h; omega, (distL_iff l').1 hdu.2.1 _ (List.getElem_mem h)⟩)
    have HPM : Hid (∀ p ∈ m, p.1.length ≤ 1000000 ∧ weightT p.2 ≤ 1000000 ∧ distT p.2) := Lib.hid (by
      rw [weightT] at hwt; rw [distT] at hdt
      intro p hp
      obtain ⟨i, hi, rfl⟩ := List.mem_iff_getElem.1 hp
      have := weightM_mem hi
      exact ⟨by omega, by omega, (distM_iff m).1 hdt.2.2 _ hp⟩)
    have HPM' : Hid (∀ p ∈ m', p.1.length ≤ 1000000 ∧ weightT p.2 ≤ 1000000 ∧ distT p.2) := Lib.hid (by
      rw [weightT] at hwu; rw [distT] at hdu
      intro p hp
      obtain ⟨i, hi, rfl⟩ := List.mem_iff_getElem.1 hp
      have := weightM_mem hi
      exact ⟨by omega, by omega, (distM_iff m').1 hdu.2.2 _ hp⟩)
    have HND : Hid ((m.map (·.1)).Nodup ∧ (m'.map (·.1)).Nodup) := Lib.hid (by rw [distT] at hdt hdu; exact ⟨hdt.1, hdu.1⟩)
    have HSU : Hid (SizeOf.sizeOf l < N ∧ SizeOf.sizeOf m < N) := Lib.hid (by
      simp only [Tree.mk.sizeOf_spec] at hN
      omega)
    clear hN hwt hwu hdt hdu hln hln'
    cases ht with
    | mk htl hrl htm hrm =>
    cases hu with
    | mk hul hsl hum hsm =>
    rename_i vL vM cl cm vL' vM' cl' cm'
    obtain ⟨_, a1, p1, rfl, hp1, hq1, _⟩ := id hrl
    obtain ⟨_, a2, p2, rfl, hp2, hq2, _⟩ := id hrm
    obtain ⟨_, a3, p3, rfl, hp3, hq3, _⟩ := id hsl
    obtain ⟨_, a4, p4, rfl, hp4, hq4, _⟩ := id hsm
    obtain ⟨T, hT⟩ : ∃ T, sameT (.mk k b d s l m) (.mk k' b' d' s' l' m') = T := ⟨_, rfl⟩
    rw [hT]
    rw [sameT_mk] at hT
    have HT := Lib.hid hT
    have hv0 := VAt.new w (cellsV k b d s (.slice a1 l.length p1) (.slice a2 m.length p2))
    have hx0 : Ext w (w.alloc (.cells (cellsV k b d s (.slice a1 l.length p1) (.slice a2 m.length p2)) 27)) := (ext_refl w).alloc (Nat.le_refl _) _
    have hv1 := VAt.new (w.alloc (.cells (cellsV k b d s (.slice a1 l.length p1) (.slice a2 m.length p2)) 27)) (cellsV k' b' d' s' (.slice a3 l'.length p3) (.slice a4 m'.length p4))
    have hx1 : Ext (w.alloc (.cells (cellsV k b d s (.slice a1 l.length p1) (.slice a2 m.length p2)) 27)) ((w.alloc (.cells (cellsV k b d s (.slice a1 l.length p1) (.slice a2 m.length p2)) 27)).alloc (.cells (cellsV k' b' d' s' (.slice a3 l'.length p3) (.slice a4 m'.length p4)) 27)) := (ext_refl _).alloc (Nat.le_refl _) _
    replace hv0 := hv0.ext hx1
    have hsz0 : (w.alloc (.cells (cellsV k b d s (.slice a1 l.length p1) (.slice a2 m.length p2)) 27)).heap.size = w.heap.size + 1 := by simp
    rw [hsz0] at hv1
    have hE := ext_trans hx0 hx1
    clear hx0 hx1 hT
    simp only [cellsV] at hv0 hv1 hsz0 hE ⊢
    go_enter Tryz.func25, Tryz.ntmps25
    go_upto_region 1 with fail
    generalize (w.alloc (.cells #[.int .i64 k, .bool b, .bool d.neg, .string ⟨d.digits.toArray⟩, .int .i64 d.exp, .string ⟨s.toArray⟩, .slice a1 l.length p1, .slice a2 m.length p2] 27)).alloc (.cells #[.int .i64 k', .bool b', .bool d'.neg, .string ⟨d'.digits.toArray⟩, .int .i64 d'.exp, .string ⟨s'.toArray⟩, .slice a3 l'.length p3, .slice a4 m'.length p4] 27) = w1 at *
    obtain ⟨S, hS⟩ : ∃ S, w.heap.size = S := ⟨_, rfl⟩
    rw [hS] at hv0 hv1 ⊢
    have HC := Lib.hid hv0
    have HD := Lib.hid hv1
    have HE := Lib.hid hE
    have HTL := Lib.hid (htl.keep (A' := fun _ => True) hE.size (fun g _ hlt => ⟨trivial, hE.block g hlt⟩))
    have HRL := Lib.hid (hrl.keep (A' := fun _ => True) hE.size (fun g _ hlt => ⟨trivial, hE.block g hlt⟩))
    have HTM := Lib.hid (htm.keep (A' := fun _ => True) hE.size (fun g _ hlt => ⟨trivial, hE.block g hlt⟩))
    have HRM := Lib.hid (hrm.keep (A' := fun _ => True) hE.size (fun g _ hlt => ⟨trivial, hE.block g hlt⟩))
    have HUL := Lib.hid (hul.keep (A' := fun _ => True) hE.size (fun g _ hlt => ⟨trivial, hE.block g hlt⟩))
    have HSL := Lib.hid (hsl.keep (A' := fun _ => True) hE.size (fun g _ hlt => ⟨trivial, hE.block g hlt⟩))
    have HUM := Lib.hid (hum.keep (A' := fun _ => True) hE.size (fun g _ hlt => ⟨trivial, hE.block g hlt⟩))
    have HSM := Lib.hid (hsm.keep (A' := fun _ => True) hE.size (fun g _ hlt => ⟨trivial, hE.block g hlt⟩))
    clear hv0 hv1 hE hsz0 htl hrl htm hrm hul hsl hum hsm hS
    have c0 := HC.out.cell 0; have c1 := HC.out.cell 1; have c2 := HC.out.cell 2; have c3 := HC.out.cell 3; have c4 := HC.out.cell 4; have c5 := HC.out.cell 5; have c6 := HC.out.cell 6; have c7 := HC.out.cell 7
    have d0 := HD.out.cell 0; have d1 := HD.out.cell 1; have d2 := HD.out.cell 2; have d3 := HD.out.cell 3; have d4 := HD.out.cell 4; have d5 := HD.out.cell 5; have d6 := HD.out.cell 6; have d7 := HD.out.cell 7
    simp at c0 c1 c2 c3 c4 c5 c6 c7 d0 d1 d2 d3 d4 d5 d6 d7
    have hneq := fun w => eql_num d d' w
    by_cases h1 : ¬ k = k'
    · have q1 : (k == k') = false := by simpa using h1
      have HF : Hid (T = false) := Lib.hid (by rw [← HT.out]; simp [h1])
      go_wp2_with fail
      go_ret
      exact ⟨ret_bool HF.out.symm, HE.out⟩
    replace h1 : k = k' := Decidable.of_not_not h1
    subst h1
    by_cases h2 : ¬ b = b'
    · have q1 : (b == b') = false := by simpa using h2
      have HF : Hid (T = false) := Lib.hid (by rw [← HT.out]; simp [h2])
      go_wp2_with fail
      go_ret
      exact ⟨ret_bool HF.out.symm, HE.out⟩
    replace h2 : b = b' := Decidable.of_not_not h2
    subst h2
    by_cases h3 : ¬ d = d'
    · rw [decide_eq_false h3] at hneq
      have HF : Hid (T = false) := Lib.hid (by rw [← HT.out]; simp [h3])
      go_wp2_with fail
      go_ret
      exact ⟨ret_bool HF.out.symm, HE.out⟩
    replace h3 : d = d' := Decidable.of_not_not h3
    rw [decide_eq_true h3] at hneq
    have HD3 := Lib.hid h3
    clear h3
    by_cases h4 : ¬ s = s'
    · have q1 : (s == s') = false := by simpa using h4
      have HF : Hid (T = false) := Lib.hid (by rw [← HT.out]; simp [h4])
      go_wp2_with fail
      go_ret
      exact ⟨ret_bool HF.out.symm, HE.out⟩
    replace h4 : s = s' := Decidable.of_not_not h4
    subst h4
    by_cases h6 : ¬ m.length = m'.length
    · have q1 : ((m.length : Int) == m'.length) = false := by simp; omega
      have HF : Hid (T = false) := Lib.hid (by rw [← HT.out]; simp [h6])
      go_wp2_with fail
      go_ret
      exact ⟨ret_bool HF.out.symm, HE.out⟩
    replace h6 : m'.length = m.length := by omega
    have HT2 : Hid (T = (sameL l l' && sameM [] m m')) := Lib.hid (by
      rw [← HT.out, firstsL_nodup m [] HND.out.1 (by simp), firstsL_nodup m' [] HND.out.2 (by simp)]
      simp [HD3.out, h6])
    have e6 : (m'.length : Int) = m.length := by omega
    have H6 := Lib.hid h6
    clear HT h6
    have HEQ : Hid (∀ w', Ext w1 w' → Calls Tryz.prog 53 #[.slice a1 l.length p1, .slice a3 l'.length p3, .func (.func 25) #[] #[]] w' (fun e w'' => e = .returned (.bool (sameL l l')) ∧ Ext w' w'')) := Lib.hid (fun w' hw => by
      have h1 := HLN.out
      have h2 := HLN'.out
      exact eqf_any l l' (fun i h h' c c' w'' hc hc' => IH.out l[i] l'[i] _ _ c c' w'' (mem_sizeL l i h HSU.out.1) (HPL.out i h).1 (HPL'.out i h').1 (HPL.out i h).2 (HPL'.out i h').2 hc hc') _ _ _ _ w'
        (HRL.out.keep hw.size (fun g _ hlt => ⟨trivial, hw.block g hlt⟩)) (HTL.out.keep hw.size (fun g _ hlt => ⟨trivial, hw.block g hlt⟩)) (HSL.out.keep hw.size (fun g _ hlt => ⟨trivial, hw.block g hlt⟩)) (HUL.out.keep hw.size (fun g _ hlt => ⟨trivial, hw.block g hlt⟩)) (by omega) (by omega))
    obtain ⟨bl, hbl⟩ : ∃ bl, sameL l l' = bl := ⟨_, rfl⟩
    have hq := HEQ.out
    have ht2 := HT2.out
    rw [hbl] at hq ht2
    replace HEQ := Lib.hid hq
    replace HT2 := Lib.hid ht2
    clear hq ht2 hbl
    go_wp2_with fail
    refine (HEQ.out w1 (ext_refl _)).mono ?_
    rintro e w2 ⟨rfl, hw2⟩
    cases bl with
    | false =>
      have HF : Hid (T = false) := Lib.hid (by rw [HT2.out]; rfl)
      have HEE := Lib.hid (ext_trans HE.out hw2)
      clear hw2
      go_wp2_with fail
      go_ret
      exact ⟨ret_bool HF.out.symm, HEE.out⟩
    | true =>
    replace HT2 : Hid (T = sameM [] m m') := Lib.hid (by rw [HT2.out, Bool.true_and])
    clear HEQ
    have HX2 := Lib.hid hw2
    replace HE := Lib.hid (ext_trans HE.out hw2)
    replace HC := Lib.hid (HC.out.ext hw2)
    replace HD := Lib.hid (HD.out.ext hw2)
    have HFM : Hid (∀ w', Ext w2 w' → Calls Tryz.prog 54 #[.slice a2 m.length p2] w' (fun e w'' => ∃ b l, e = .returned (.map (some b)) ∧ MapV w'' b l ∧ EntV w'' (fun _ => True) l m ∧ Ext w' w'')) := Lib.hid (fun w' hw => by
      have h1 := HLN.out
      have hx := ext_trans HX2.out hw
      exact firsts_any _ m _ (fun _ => True) w' (HRM.out.keep hx.size (fun g _ hlt => ⟨trivial, hx.block g hlt⟩)) (HTM.out.keep hx.size (fun g _ hlt => ⟨trivial, hx.block g hlt⟩)) (by omega) (fun p hp => (HPM.out p hp).1) HND.out.1)
    have HFM' : Hid (∀ w', Ext w2 w' → Calls Tryz.prog 54 #[.slice a4 m'.length p4] w' (fun e w'' => ∃ b l, e = .returned (.map (some b)) ∧ MapV w'' b l ∧ EntV w'' (fun _ => True) l m' ∧ Ext w' w'')) := Lib.hid (fun w' hw => by
      have h1 := HLN'.out
      have hx := ext_trans HX2.out hw
      exact firsts_any _ m' _ (fun _ => True) w' (HSM.out.keep hx.size (fun g _ hlt => ⟨trivial, hx.block g hlt⟩)) (HUM.out.keep hx.size (fun g _ hlt => ⟨trivial, hx.block g hlt⟩)) (by omega) (fun p hp => (HPM'.out p hp).1) HND.out.2)
    clear hw2 c0 c1 c2 c3 c4 c5 c6 c7 d0 d1 d2 d3 d4 d5 d6 d7 hneq
    go_upto_region 4 with fail
    refine Grow.wp_region_litW (G := Ext) (B := fun w' => Ext w2 w') (anc := fun _ => []) (I := fun j => if j = 2 then some (specF m) else if j = 5 then some (specF m') else none) (by kernel_rfl) (by kernel_rfl) (by kernel_rfl) ?_ ?_ ?_
    · exact fun w w' h hg => ext_trans h hg
    · exact (ext_refl _).drew
    repeat
      (refine Grow.Wk.step (fun K hK => ?_)
       first
       | (refine Grow.step_read (by rfl) (by rfl) (fun w => ext_refl w) ?_
          apply Exists.intro
          refine ⟨fun w hB hF => ?_, ?_⟩
          · replace hB : Ext _ w := hB; have c7 := (HC.out.ext hB).cell 7; have d7 := (HD.out.ext hB).cell 7; simp at c7 d7
            go_simp
            try exact rfl
          go_simp
          refine hK _ _ ?_
          clear hK K)
       | (refine Grow.step_off (by rfl) ?_
          go_simp
          refine hK _ _ ?_
          clear hK K))
    refine Grow.Wk.step (fun K hK => ?_)
    refine Grow.step_rel (by rfl) (by rfl) (fun w' hB hF => ?_) (fun v hv => ?_)
    · go_simp
      refine Grow.relUpon_enter ((HFM.out w' hB).mono ?_)
      rintro e w'' ⟨b0, l0, rfl, h1, h2, hw''⟩
      exact ⟨_, rfl, hw'', ⟨_, rfl⟩, _, _, rfl, h1, h2⟩
    obtain ⟨bx, rfl⟩ := hv
    go_simp
    refine hK _ _ ?_
    clear hK K
    repeat
      (refine Grow.Wk.step (fun K hK => ?_)
       first
       | (refine Grow.step_read (by rfl) (by rfl) (fun w => ext_refl w) ?_
          apply Exists.intro
          refine ⟨fun w hB hF => ?_, ?_⟩
          · replace hB : Ext _ w := hB; have c7 := (HC.out.ext hB).cell 7; have d7 := (HD.out.ext hB).cell 7; simp at c7 d7
            go_simp
            try exact rfl
          go_simp
          refine hK _ _ ?_
          clear hK K)
       | (refine Grow.step_off (by rfl) ?_
          go_simp
          refine hK _ _ ?_
          clear hK K))
    refine Grow.Wk.step (fun K hK => ?_)
    refine Grow.step_rel (by rfl) (by rfl) (fun w' hB hF => ?_) (fun v hv => ?_)
    · go_simp
      refine Grow.relUpon_enter ((HFM'.out w' hB).mono ?_)
      rintro e w'' ⟨b0, l0, rfl, h1, h2, hw''⟩
      exact ⟨_, rfl, hw'', ⟨_, rfl⟩, _, _, rfl, h1, h2⟩
    obtain ⟨bY, rfl⟩ := hv
    go_simp
    refine hK _ _ ?_
    clear hK K
    repeat
      (refine Grow.Wk.step (fun K hK => ?_)
       first
       | (refine Grow.step_read (by rfl) (by rfl) (fun w => ext_refl w) ?_
          apply Exists.intro
          refine ⟨fun w hB hF => ?_, ?_⟩
          · skip
            go_simp
            try exact rfl
          go_simp
          refine hK _ _ ?_
          clear hK K)
       | (refine Grow.step_off (by rfl) ?_
          go_simp
          refine hK _ _ ?_
          clear hK K))
    refine Grow.Wk.nil ?_
    intro w3 hB hF
    obtain ⟨bx', lx, ex, hmx, hex⟩ := hF 2
    obtain ⟨by', ly, ey, hmy, hey⟩ := hF 5
    simp only [Value.map.injEq, Option.some.injEq] at ex ey
    subst ex ey
    replace hB : Ext w2 w3 := hB
    replace HE := Lib.hid (ext_trans HE.out hB)
    clear hF hB HFM HFM' HC HD
    obtain ⟨w4, hrun, hrg, hx4, hs4⟩ := hmx.range
    obtain ⟨R, hR⟩ : ∃ R, w3.heap.size = R := ⟨_, rfl⟩
    rw [hR] at hrun hrg
    have HRG := Lib.hid hrg
    have HX4 := Lib.hid hx4
    have HEX := Lib.hid hex
    have HEY := Lib.hid hey
    have HMY := Lib.hid hmy
    have HMX := Lib.hid hmx
    have HR3 := Lib.hid hR
    clear hrg hx4 hs4 hex hey hmx hmy hR
    go_upto_region 6 with fail
    go_loopw [8] (fun kv wr => ∃ (L : List UInt8 → Bool) (cnt : Nat), RngV wr bx R lx L cnt ∧ Ext w3 wr ∧ ∀ p ∈ m, L p.1 = false → ∃ t', findM p.1 m' = some t' ∧ sameT p.2 t' = true) (fun _ wr => wr.rangeLeft bx R)
    case atStart => exact ⟨_, _, HRG.out, HX4.out, fun p hp h => by
      rw [HEX.out.keys] at h
      have h2 : (m.map (·.1)).contains p.1 = true := by simpa using ⟨p.2, hp⟩
      rw [h2] at h; cases h⟩
    case round =>
      obtain ⟨L, cnt, hrg, hE, hmt⟩ := hrel
      have HX := Lib.hid hE
      have HMT := Lib.hid hmt
      have HRR := Lib.hid hrg
      have hlf := hrg.left_eq
      clear hE hmt hrun
      rcases hrg.next 0 with ⟨hc0, hL0, hnx⟩ | ⟨ky, cx, wn, cnt', hmem, hLk, hnx, hrgn, hlt, hgr, hsz, hent⟩
      · have HF : Hid (T = true) := Lib.hid (by
          rw [HT2.out, (sameM_nodup m m' [] HND.out.1 (by simp))]
          exact fun p hp => HMT.out p hp (hL0 _))
        have hl1 := HRR.out.map.len
        have hl2 := (HMY.out.same (w' := wr) (HX.out.block _ HMY.out.lt)).len
        rw [HEX.out.1] at hl1
        rw [HEY.out.1, H6.out] at hl2
        clear hrg
        go_wp2_with fail
        go_ret
        exact ⟨ret_bool HF.out.symm, ext_trans HE.out HX.out⟩
      · obtain ⟨tx, htm', hfx, htvx⟩ := HEX.out.find HND.out.1 hmem
        have hpx := HPM.out _ htm'
        have hsz' : SizeOf.sizeOf tx < N := Nat.lt_trans (snd_lt (ky, tx)) (Nat.lt_trans (List.sizeOf_lt_of_mem htm') HSU.out.2)
        have HPX : Hid (SizeOf.sizeOf tx < N ∧ weightT tx ≤ 1000000 ∧ distT tx) := Lib.hid ⟨hsz', hpx.2.1, hpx.2.2⟩
        have hkm : ky.length ≤ 1000000 := hpx.1
        have HTM' := Lib.hid htm'
        have HMS : Hid (∀ p ∈ m, (L p.1 && !(p.1 == ky)) = false → p.1 ≠ ky → ∃ t', findM p.1 m' = some t' ∧ sameT p.2 t' = true) := Lib.hid (fun p hp h hne => by
          refine HMT.out p hp ?_
          have e : (p.1 == ky) = false := by simpa using hne
          rw [e] at h
          simpa using h)
        have HFX := Lib.hid hfx
        obtain ⟨xk, xb, xd, xs, xa1, xn1, xc1, xa2, xn2, xc2, rfl⟩ := htvx.eight
        have HRN := Lib.hid hrgn
        have hxn : Ext w3 wn := ⟨hgr.os.trans HX.out.os, hgr.tape.trans HX.out.tape, hgr.output.trans HX.out.output, Nat.le_trans HX.out.size hgr.size, fun k hk => (hgr.block k (Nat.lt_of_lt_of_le hk HX.out.size) (by have := HR3.out; simp; omega)).trans (HX.out.block k hk)⟩
        have HXN := Lib.hid hxn
        have HTVX := Lib.hid htvx
        have HLT := Lib.hid hlt
        have hn5 := VAt.new wn #[.int .i64 xk, .bool xb, .bool xd.neg, .string ⟨xd.digits.toArray⟩, .int .i64 xd.exp, .string ⟨xs.toArray⟩, .slice xa1 xn1 xc1, .slice xa2 xn2 xc2]
        have hx5 : Ext wn (wn.alloc (.cells #[.int .i64 xk, .bool xb, .bool xd.neg, .string ⟨xd.digits.toArray⟩, .int .i64 xd.exp, .string ⟨xs.toArray⟩, .slice xa1 xn1 xc1, .slice xa2 xn2 xc2] 27)) := (ext_refl _).alloc (Nat.le_refl _) _
        obtain ⟨P5, hP5⟩ : ∃ P5, wn.heap.size = P5 := ⟨_, rfl⟩
        rw [hP5] at hn5
        have HLF := Lib.hid hlf
        clear hrg hrgn hmem hLk hpx hsz' htm' hfx hxn htvx hlt hgr hsz HX hlf
        simp only [cellsV] at hnx hent
        go_upto_region 8 with fail
        clear hnx hent hP5
        generalize wn.alloc (.cells #[.int .i64 xk, .bool xb, .bool xd.neg, .string ⟨xd.digits.toArray⟩, .int .i64 xd.exp, .string ⟨xs.toArray⟩, .slice xa1 xn1 xc1, .slice xa2 xn2 xc2] 27) = w5 at *
        have HX5 := Lib.hid (ext_trans HXN.out hx5)
        have HRN5 := Lib.hid (HRN.out.kept hx5)
        clear hx5
        rcases (HMY.out.same (w' := w5) (HX5.out.block _ HMY.out.lt)).look ky (by simp only [Go.maxLen]; omega) with ⟨hno, hlk⟩ | ⟨cy, hmemy, hlk⟩
        · rw [HEY.out.keys] at hno
          have HF : Hid (T = false) := Lib.hid (by
            rw [HT2.out]
            exact sameM_no HND.out.1 HTM'.out (fun t' h => by rw [findM_none hno] at h; cases h))
          simp only [zeroV, cellsV] at hlk
          have hx6 : Ext w5 (w5.alloc (.cells #[.int .i64 0, .bool false, .bool Num.zero.neg, .string ⟨Num.zero.digits.toArray⟩, .int .i64 Num.zero.exp, .string ⟨#[]⟩, .slice none 0 0, .slice none 0 0] 27)) := (ext_refl _).alloc (Nat.le_refl _) _
          go_upto_region 9 with fail
          generalize w5.alloc (.cells #[.int .i64 0, .bool false, .bool Num.zero.neg, .string ⟨Num.zero.digits.toArray⟩, .int .i64 Num.zero.exp, .string ⟨#[]⟩, .slice none 0 0, .slice none 0 0] 27) = w6 at *
          have HX6 := Lib.hid (ext_trans HX5.out hx6)
          clear hlk hx6 hn5 hno
          go_wp2_with fail
          go_ret
          exact ⟨ret_bool HF.out.symm, ext_trans HE.out HX6.out⟩
        · obtain ⟨ty, htmy, hfy, htvy⟩ := HEY.out.find HND.out.2 hmemy
          have hpy := HPM'.out _ htmy
          have HPY := Lib.hid hpy
          have HFY := Lib.hid hfy
          have HTVY := Lib.hid htvy
          obtain ⟨yk, yb, yd, ys, ya1, yn1, yc1, ya2, yn2, yc2, rfl⟩ := htvy.eight
          have hn6 := VAt.new w5 #[.int .i64 yk, .bool yb, .bool yd.neg, .string ⟨yd.digits.toArray⟩, .int .i64 yd.exp, .string ⟨ys.toArray⟩, .slice ya1 yn1 yc1, .slice ya2 yn2 yc2]
          have hx6 : Ext w5 (w5.alloc (.cells #[.int .i64 yk, .bool yb, .bool yd.neg, .string ⟨yd.digits.toArray⟩, .int .i64 yd.exp, .string ⟨ys.toArray⟩, .slice ya1 yn1 yc1, .slice ya2 yn2 yc2] 27)) := (ext_refl _).alloc (Nat.le_refl _) _
          obtain ⟨P6, hP6⟩ : ∃ P6, w5.heap.size = P6 := ⟨_, rfl⟩
          rw [hP6] at hn6
          simp only [cellsV] at hlk
          clear hpy hfy htvy htmy hmemy
          go_upto_region 9 with fail
          clear hlk hP6
          generalize w5.alloc (.cells #[.int .i64 yk, .bool yb, .bool yd.neg, .string ⟨yd.digits.toArray⟩, .int .i64 yd.exp, .string ⟨ys.toArray⟩, .slice ya1 yn1 yc1, .slice ya2 yn2 yc2] 27) = w6 at *
          have HX6 := Lib.hid (ext_trans HX5.out hx6)
          have HRN6 := Lib.hid (HRN5.out.kept hx6)
          have HIH := Lib.hid (IH.out tx ty (fun _ => True) (fun _ => True) _ _ w6 HPX.out.1 HPX.out.2.1 HPY.out.2.1 HPX.out.2.2 HPY.out.2.2 (HTVX.out.keep HX6.out.size (fun g _ hlt => ⟨trivial, HX6.out.block g hlt⟩)) (HTVY.out.keep HX6.out.size (fun g _ hlt => ⟨trivial, HX6.out.block g hlt⟩)))
          obtain ⟨bq, hbq⟩ : ∃ bq, sameT tx ty = bq := ⟨_, rfl⟩
          have hih := HIH.out
          rw [hbq] at hih
          replace HIH := Lib.hid hih
          have HBQ := Lib.hid hbq
          replace hn5 := hn5.ext hx6
          have c0 := hn5.cell 0; have c1 := hn5.cell 1; have c2 := hn5.cell 2; have c3 := hn5.cell 3; have c4 := hn5.cell 4; have c5 := hn5.cell 5; have c6 := hn5.cell 6; have c7 := hn5.cell 7
          have d0 := hn6.cell 0; have d1 := hn6.cell 1; have d2 := hn6.cell 2; have d3 := hn6.cell 3; have d4 := hn6.cell 4; have d5 := hn6.cell 5; have d6 := hn6.cell 6; have d7 := hn6.cell 7
          simp at c0 c1 c2 c3 c4 c5 c6 c7 d0 d1 d2 d3 d4 d5 d6 d7
          clear hih hbq hn5 hn6 hx6
          go_wp2_with fail
          refine (HIH.out).mono ?_
          rintro e w7 ⟨rfl, hw7⟩
          have HX7 := Lib.hid (ext_trans HX6.out hw7)
          have HRN7 := Lib.hid (HRN6.out.kept hw7)
          clear hw7 c0 c1 c2 c3 c4 c5 c6 c7 d0 d1 d2 d3 d4 d5 d6 d7
          cases bq with
          | false =>
            have HF : Hid (T = false) := Lib.hid (by
              rw [HT2.out]
              exact sameM_no HND.out.1 HTM'.out (fun t' h => by rw [HFY.out] at h; cases h; exact HBQ.out))
            go_wp2_with fail
            go_ret
            exact ⟨ret_bool HF.out.symm, ext_trans HE.out HX7.out⟩
          | true =>
            go_wp2_with fail
            go_roundw
            case rel => exact ⟨_, _, HRN7.out, HX7.out, fun p hp h => by
              by_cases hne : p.1 = ky
              · have h1 := findM_of_mem HND.out.1 (show (p.1, p.2) ∈ m from hp)
                rw [hne, HFX.out] at h1
                simp only [Option.some.injEq] at h1
                rw [hne, ← h1]
                exact ⟨ty, HFY.out, HBQ.out⟩
              · exact HMS.out p hp h hne⟩
            case measure => rw [HRN7.out.left_eq, HLF.out]; exact HLT.out
theorem same_any (t u : Tree) (A A' : Nat → Prop) (c c' : Array Value) (w : World) (hwt : weightT t ≤ 1000000) (hwu : weightT u ≤ 1000000) (hdt : distT t) (hdu : distT u) (ht : TV w A t c) (hu : TV w A' u c') :
    Calls Tryz.prog 25 #[.agg c, .agg c'] w (fun e w' => e = .returned (.bool (sameT t u)) ∧ Ext w w') := by
  have h : ∀ N : Nat, ∀ (t u : Tree) (A A' : Nat → Prop) (c c' : Array Value) (w : World), SizeOf.sizeOf t < N → weightT t ≤ 1000000 → weightT u ≤ 1000000 → distT t → distT u → TV w A t c → TV w A' u c' →
      Calls Tryz.prog 25 #[.agg c, .agg c'] w (fun e w' => e = .returned (.bool (sameT t u)) ∧ Ext w w') := by
    intro N
    induction N with
    | zero => intro t u A A' c c' w h; omega
    | succ N ih => exact same_step N ih
  exact h _ t u A A' c c' w (Nat.lt_succ_self _) hwt hwu hdt hdu ht hu
end Go.Proofs.YtjapbjmeoaagmaaGreatDoor
end

section
set_option linter.unusedVariables false
set_option linter.unusedSimpArgs false
set_option maxRecDepth 100000
namespace Go.Proofs.YtjapbjmeoaagmaaGreatDoor
open Go.RowKit Go.Mem
theorem tab_of {W : World} (h : laidMetH Tryz.prog Rows.printBackRow.laid W) : Tab W := by
  rw [MakeChecks.laidMetH_plain _ _ _ (by kernel_rfl)] at h
  have h' : laidMet Tryz.prog (("math/bits.deBruijn32tab", Rows.laid_math_bits_deBruijn32tab) :: ("math/bits.deBruijn64tab", Rows.laid_math_bits_deBruijn64tab) :: ("internal/strconv.uint64pow10", Lib.tabData .u64 Lib.pow10Tab) :: [("unicode/utf8.acceptRanges", Rows.laid_unicode_utf8_acceptRanges), ("unicode/utf8.first", Rows.laid_unicode_utf8_first)]) W := h
  exact Lib.tabIs_of_head (g := 0) (t := 219) (n := 20) (by kernel_rfl) (by kernel_rfl) (by kernel_rfl) Tryz.underlying178 (by kernel_rfl) (by kernel_rfl) (laidMet.tail (laidMet.tail h'))
end Go.Proofs.YtjapbjmeoaagmaaGreatDoor
end

section
set_option linter.unusedVariables false
set_option maxRecDepth 100000
namespace Go
theorem grown_add (P : Program) : ∀ (n m : Nat) (s : List TypeId), P.grown (n + m) s = P.grown m (P.grown n s)
  | 0, m, s => by rw [Nat.zero_add]; rfl
  | n + 1, m, s => by
    rw [show n + 1 + m = (n + m) + 1 by omega]
    show P.grown (n + m) (P.grow s) = P.grown m (P.grown n (P.grow s))
    exact grown_add P n m _
theorem grown_fix (P : Program) {s : List TypeId} (h : P.grow s = s) : ∀ m, P.grown m s = s
  | 0 => rfl
  | m + 1 => by
    show P.grown m (P.grow s) = s
    rw [h]; exact grown_fix P h m
theorem book_of {P : Program} {t : TypeId} {L : List TypeId} (n : Nat) (h1 : P.grown n [t] = L) (h2 : P.grow L = L) (hn : n ≤ P.types.size) : P.book t = L := by
  unfold Program.book
  obtain ⟨m, hm⟩ : ∃ m, P.types.size = n + m := ⟨P.types.size - n, by omega⟩
  rw [hm, grown_add, h1, grown_fix P h2]
theorem joined_of {P : Program} {f : FuncId} {fn : Func} {s : ChangeSpec} {c : OpenClaim}
    (k1 : (c.wf (OpenSpec.ofChange s) && laidOutB P && mapsRowed P) = true) (k4 : fn.params.all (P.readableRec ·) = true)
    (k5 : (namedTie P c.named s.vars && (c.stops == []) && (P.stops == []) && (c.knobs == []) && (P.stopKnobs == []) && (c.inPlace == P.inPlace f) && (c.unfollowed == P.unfollowed f) && (c.recurses == P.recurses f) && (c.named == P.varsNamed f)) = true)
    (k6 : (c.maps == (fn.params.toList ++ s.plain.varTypes P).any (P.mapsRec ·)) = true) (k7 : (c.ifaces == (fn.params.toList ++ s.plain.varTypes P).any (P.ifacesRec ·)) = true) (k8 : (c.mapsOut == P.mapsAmong fn.resultTypes.toList) = true)
    (k9 : (c.loops == (fn.params.toList ++ s.plain.varTypes P).any (P.loopsFrom ·)) = true) (k10 : (c.wideKeys == (fn.params.toList ++ s.plain.varTypes P ++ fn.resultTypes.toList).any (P.wideKeysFrom ·)) = true)
    (k11 : (s.vars.all (P.varReadable ·) && fn.resultTypes.all (fun t => P.readableRec t && decide (t < P.types.size)) && (c.ifacesOut == fn.resultTypes.toList.any (P.ifacesRec ·)) && (c.loopsOut == fn.resultTypes.toList.any (P.loopsFrom ·)) && (c.plainKeys == P.plainKeys) && c.shortTexts.isNone && P.stopsHeard && P.mayEnter && (c.lifted == P.liftsFinal) && (P.make == some c.make) && (c.kinds == (if c.domain.isEmpty then [] else fn.params.toList.map fun t => match P.underlying t with | some (.int k) => some k | _ => none)) && (c.pinned == c.pinnedBy)) = true)
    (k12 : (c.veiled == (fn.params.toList ++ s.plain.varTypes P ++ fn.resultTypes.toList).any (P.veiledRec ·)) = true) (k13 : c.veiledFits P fn.params.toList (fn.params.toList ++ s.plain.varTypes P ++ fn.resultTypes.toList) = true) : joinedFacts P f fn s c = true := by
  simp only [Bool.and_eq_true] at k1 k5 k11
  simp only [joinedFacts, Bool.and_eq_true]
  obtain ⟨⟨a1, a2⟩, a3⟩ := k1
  obtain ⟨⟨⟨⟨⟨⟨⟨⟨b1, b2⟩, b3⟩, b4⟩, b5⟩, b6⟩, b7⟩, b8⟩, b9⟩ := k5
  obtain ⟨⟨⟨⟨⟨⟨⟨⟨⟨⟨⟨c1, c2⟩, c3⟩, c4⟩, c5⟩, c6⟩, c7⟩, c8⟩, c9⟩, c10⟩, c11⟩, c12⟩ := k11
  refine ⟨⟨?_, k12⟩, k13⟩
  simp only [a1, a2, a3, k4, b1, b2, b3, b4, b5, b6, b7, b8, b9, k6, k7, k8, k9, k10, c1, c2, c3, c4, c5, c6, c7, c8, c9, c10, c12, and_self]
  exact ⟨⟨trivial, c11⟩, trivial⟩
theorem veiledFits_of {P : Program} {c : OpenClaim} {ps ts : List TypeId} (hs : c.start = .entering) (h1 : ts.all (P.veiledOwn ·) = true) (h2 : (c.laid.filterMap fun x => (P.globalNamed x.1).bind fun g => (P.globals[g]?).map (·.type)).all (P.veiledOwn ·) = true) : c.veiledFits P ps ts = true := by
  unfold OpenClaim.veiledFits
  rw [hs]
  simp only [List.all_append, h1, h2, Bool.and_self, Bool.true_or, Bool.and_true]
end Go
namespace Go.Proofs.YtjapbjmeoaagmaaGreatDoor
open Go
theorem bookV : Tryz.prog.book 27 = [27, 3, 4, 23, 9, 24, 25, 43] := book_of 2 (by kernel_rfl) (by kernel_rfl) (by decide +kernel)
theorem bookL : Tryz.prog.book 24 = [24, 27, 3, 4, 23, 9, 25, 43] := book_of 3 (by kernel_rfl) (by kernel_rfl) (by decide +kernel)
theorem readV : Tryz.prog.readableRec 27 = true := by unfold Program.readableRec; rw [bookV]; kernel_rfl
theorem mapsV : Tryz.prog.mapsRec 27 = false := by unfold Program.mapsRec; rw [bookV]; kernel_rfl
theorem ifacesV : Tryz.prog.ifacesRec 27 = false := by unfold Program.ifacesRec; rw [bookV]; kernel_rfl
theorem wideV : Tryz.prog.wideKeysFrom 27 = false := by unfold Program.wideKeysFrom; rw [bookV]; kernel_rfl
theorem veiledV : Tryz.prog.veiledRec 27 = false := by unfold Program.veiledRec; rw [bookV]; kernel_rfl
theorem ownV : Tryz.prog.veiledOwn 27 = true := by unfold Program.veiledOwn; rw [veiledV]; rfl
theorem loopsV : Tryz.prog.loopsFrom 27 = true := by
  unfold Program.loopsFrom
  rw [bookV]
  refine List.any_eq_true.2 ⟨27, List.mem_cons_self, List.any_eq_true.2 ⟨24, ?_, ?_⟩⟩
  · rw [show Tryz.prog.partsOf 27 = [3, 4, 23, 9, 24, 25] by kernel_rfl]; decide +kernel
  · rw [bookL]; decide +kernel
end Go.Proofs.YtjapbjmeoaagmaaGreatDoor
end
