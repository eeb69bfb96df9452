/- TokenQuotes: a good text's quoted text is one Text, and a name is one Name: whatever the input, the law returns true and the input reads as it did. No condition. -/
import Derived.Test.YtglcpfnfldaimaaDoorRows
import Derived.Test.YtglcpfnfldaimaaDoorCards
import Derived.Test.YtglcpfnfldaimaaDoorTie
import Derived.Test.YtglcpfnfldaimaaDoorTokW
import Derived.Test.YtglcpfnfldaimaaDoorTokQ
import Derived.Test.YtglcpfnfldaimaaDoorFrame
import Derived.ProofKit
import Derived.SizedLaws
import Derived.OpenShut
import Derived.Lay
import Derived.LaidMore
import Derived.SevenTiedAt
import Derived.IntWalk
import Derived.Laws.BitsLemmas
set_option linter.unusedVariables false
set_option linter.unusedSimpArgs false
set_option maxRecDepth 100000
namespace Go.Proofs.YtglcpfnfldaimaaDoor.tokenQuotes
open Go.ChangeShapes Go.WideShapes Go.ChangeAt Go.RowKit Go.Mem Orange

set_option maxHeartbeats 6400000 in
theorem walk (s : ByteArray) (hs : s.size ≤ 140737488351232) (w : World) :
    Calls Tryd.prog 7 #[.string s] w fun e w' => e = .returned (.bool true) ∧ Ext w w' := by
  obtain ⟨L, rfl⟩ : ∃ L : List UInt8, s = ⟨L.toArray⟩ := ⟨s.data.toList, by apply ba_ext; simp⟩
  have hL : (ByteArray.mk L.toArray).size = L.length := by show L.toArray.size = _; simp
  rw [hL] at hs
  go_enter Tryd.func7, Tryd.ntmps7
  go_wp2_with fail
  refine (tawake _).mono ?_
  rintro e w1 ⟨rfl, hw1⟩
  by_cases hlen : L.length ≤ 500
  · have hd : decide (500 < (L.length : Int)) = false := by simp; omega
    have hsmall : (ByteArray.mk L.toArray).size ≤ 140737488355328 := by omega
    go_wp2_with (refine wpList_bytes_of_string _ rfl 9 47 5 _ rfl ⟨L.toArray⟩ rfl Tryd.underlying9 Tryd.underlying47 Tryd.underlying5 hsmall ?_; intro cap2 w2 hE2 hcap2 hcm2 hsz2 hat2)
    rw [hL] at hcap2
    refine (check_any _ L _ (Bytes.mk hat2 rfl hcap2 hcm2 (by omega))).mono ?_
    rintro e w3 ⟨rfl, hw3⟩
    have hE3 : Ext w w3 := ext_trans (ext_trans hw1 hE2) hw3
    clear hat2 hcap2 hcm2 hsz2
    by_cases hck : 0 ≤ check L
    · go_wp2_with fail
      go_ret
      exact ⟨rfl, hE3⟩
    · have hdck : decide (0 ≤ check L) = false := by simpa using hck
      have HQ := Lib.hid (all_quo L (by omega) hlen)
      have hqz : (tquote L).length ≤ 1000000000 := by have := tquoL_len L; simp [tquote]; omega
      have HN : Hid (isName L = true → allP L = ([⟨1, L, Num.zero, 0, L.length⟩], 0)) := Lib.hid fun h => all_name L h hlen
      go_wp2_with fail
      refine (tquote_any L _ (by omega)).mono ?_
      rintro e w4 ⟨rfl, hw4⟩
      generalize tquote L = Q at *
      go_wp2_with fail
      refine (all_any Q _ hqz).mono ?_
      rintro e w5 ⟨⟨v, rfl, ht⟩, hw5⟩
      rw [HQ.out] at ht ⊢
      simp only at ht ⊢
      obtain ⟨v1, c1, rfl, hcap1⟩ := ht.shape
      obtain ⟨g1, rfl, hg1, hcell1⟩ := ht.at' (by simp)
      have k1 := hcell1 0 (by simp)
      obtain ⟨kk1, ks1, _⟩ := k1
      simp only [List.getElem_cons_zero, Nat.zero_mul, Nat.zero_add] at kk1 ks1
      simp only [List.length_cons, List.length_nil, Nat.zero_add] at hcap1 ⊢
      clear hcell1 ht
      have hE5 : Ext w w5 := ext_trans hE3 (ext_trans hw4 hw5)
      clear hE3 hw4 hw5 hw3 hE2 hw1 hqz
      go_wp2_with fail
      refine (all_any L _ (by omega)).mono ?_
      rintro e w6 ⟨⟨v2, rfl, ht2⟩, hw6⟩
      have kk6 := (hw6.cell (p := ⟨g1, 0, none⟩) hg1).trans kk1
      have ks6 := (hw6.cell (p := ⟨g1, 1, none⟩) hg1).trans ks1
      obtain ⟨v3, c3, rfl, hcap3⟩ := ht2.shape
      have HT2 := Lib.hid ht2
      clear ht2 kk1 ks1
      have hE6 := ext_trans hE5 hw6
      cases hnm : isName L with
      | false =>
        generalize allP L = P at *
        go_wp2_with fail
        refine (isname_any L _ (by omega)).mono ?_
        rintro e w7 ⟨rfl, hw7⟩
        rw [hnm]
        go_wp2_with fail
        go_ret
        exact ⟨rfl, ext_trans hE6 hw7⟩
      | true =>
        have ha := HN.out hnm
        have ht2 := HT2.out
        rw [ha] at ht2 hcap3 ⊢
        simp only [List.length_cons, List.length_nil, Nat.zero_add] at ht2 hcap3 ⊢
        clear HT2 HN ha
        obtain ⟨g3, rfl, hg3, hcell3⟩ := ht2.at' (by simp)
        have m0 := hcell3 0 (by simp)
        obtain ⟨mk0, ms0, _⟩ := m0
        simp only [List.getElem_cons_zero, Nat.zero_mul, Nat.zero_add] at mk0 ms0
        clear hcell3 ht2
        go_wp2_with fail
        refine (isname_any L _ (by omega)).mono ?_
        rintro e w7 ⟨rfl, hw7⟩
        rw [hnm]
        have mk7 := (hw7.cell (p := ⟨g3, 0, none⟩) hg3).trans mk0
        have ms7 := (hw7.cell (p := ⟨g3, 1, none⟩) hg3).trans ms0
        clear mk0 ms0 kk6 ks6
        go_wp2_with fail
        go_ret
        exact ⟨rfl, ext_trans hE6 hw7⟩
  · go_wp2_with fail
    go_ret
    exact ⟨rfl, hw1⟩
set_option linter.unusedSimpArgs false
theorem own : ownKnob Tryd.prog.godebug = none := by kernel_rfl
theorem laid : laidOutB Tryd.prog = true := by kernel_rfl
set_option maxHeartbeats 1600000 in
set_option maxRecDepth 100000 in
theorem lifted (os : Os) (started : os.Started) (H : Type) (enc : TypeId × Value → H) :
    ReturnsInHanded {} Tryd.checked os 7 .any (fun w args => (Rows.tokenQuotesSpec.pre enc Tryd.prog Tryd.f7 [] false w args ∧ laidMetH Tryd.prog Rows.tokenQuotesRow.laid w) ∧ sizedMet enc Tryd.prog Tryd.f7 (OpenSpec.ofChange Rows.tokenQuotesSpec) false w args) (Rows.tokenQuotesSpec.post enc Tryd.prog Tryd.f7 false true false false) := by
  refine returnsInHanded_of_change_and (C := Tryd.checked) (X := fun w _ => laidMetH Tryd.prog Rows.tokenQuotesRow.laid w) (fun _ _ _ hh h => h.of_heap hh) own started (by kernel_rfl) Tryd.func7
    (ChangeSpec.witness_shaped (enc := enc) (C := Tryd.checked) (os := os) (X := fun w _ => laidMetH Tryd.prog Rows.tokenQuotesRow.laid w) false (World.laidAll Tryd.prog os Rows.tokenQuotesRow.laid) #[.string ⟨#[]⟩] 8 (World.laidAll_os _ _ _)
      (World.shaped_of_ZipB (by kernel_rfl) (by kernel_rfl)) (by kernel_rfl) (by kernel_rfl) (by kernel_rfl)
      (by rw [MakeChecks.laidMetH_plain _ _ _ (by kernel_rfl)]; exact laidMet_laidAll _ (by kernel_rfl) (by kernel_rfl))) ?_
  intro W base args ds gs before hval0 hW _ hsz0 _ _
  have hsz : (DataW.weightsEach Tryd.prog (Tryd.f7.params.toList ++ Rows.tokenQuotesSpec.plain.varTypes Tryd.prog) (ds ++ gs)).all (· ≤ reachBytes) = true := hsz0
  clear hsz0
  have hval : ∀ (j : Nat) t v, Tryd.f7.params[j]? = some t → args[j]? = some v → Value.okWide Tryd.prog W .any base t v := hval0
  have hW' := hW
  obtain ⟨p, q, hA0, hV, rfl, _, _⟩ := hW
  have hA : DataW.TrodAll enc Tryd.prog W 0 (fun _ => true) true Tryd.f7.params.toList args.toList ds p := hA0
  rw [Tryd.params7] at hA hval hsz
  obtain ⟨v0, vs0, d0, ds0, p0, q0, ha0, rfl, rfl, h0, r0⟩ := trodAll_cons hA
  obtain ⟨hb1, rfl, rfl⟩ := trodAll_nil r0
  subst hb1
  obtain rfl : args = #[v0] := by cases args; simpa using ha0
  obtain ⟨rfl, rfl⟩ := trodVars_none hV
  have hk0 := h0
  obtain ⟨a0, rfl, rfl, rfl, _⟩ := Go.ChangeMaps.open_string Tryd.underlying9 (hval 0 9 v0 rfl rfl) h0
  have hs0 : a0.size ≤ 140737488351232 := by have := sized_string hsz (j := 0) rfl rfl; simpa [reachBytes] using this
  have hlt := fun x hx => hW'.lt x hx
  simp only [List.append_nil, List.nil_append] at hW' hlt
  refine (walk a0 hs0 W ).mono fun e W' ⟨he, hb⟩ => ?_
  subst he
  have hargs := (trodAll_cons_mk (Below.trod laid (by kernel_rfl) (of_decide_eq_true (by kernel_rfl)) hk0 hb (fun x hx => by first | exact hlt x hx | exact absurd hx (List.not_mem_nil) | exact hlt x (by simp [hx]))) trodAll_mk0)
  exact ⟨_, rfl, _, _, _, [], _, [], hW', trodAll_cons_mk (shut_bool Tryd.underlying4 _) trodAll_mk0, hargs, rfl, hb.frame _, fun h => by cases h⟩

theorem held : Rows.TokenQuotesSaid :=
  OpenClaim.holds_of_wide 7 Tryd.f7 rfl rfl rfl rfl rfl rfl rfl ⟨rfl, rfl, rfl, rfl, rfl⟩ rfl rfl rfl rfl rfl (by kernel_rfl) Tryd.func7 (by kernel_rfl)
    (of_decide_eq_true (by kernel_rfl)) (by unfold Func.isWrapper; first | (rw [if_pos (by decide +kernel)]; kernel_rfl) | (rw [if_neg (by decide +kernel)]; exact ⟨rfl, rfl⟩))
    (fun os started H enc _ => lifted os started H enc)

theorem proved : Rows.TokenQuotesCardSaid :=
  Claim7.holds_tied_plain_at .later [] Rows.tokenQuotesCard.laidKinds true Rows.tokenQuotesCard.stood.harness false held (fun _ h => by cases h) (by kernel_rfl) (fun _ h => by cases h) tokenQuotes_row_tie rfl ⟨rfl, rfl⟩ (by kernel_rfl) rfl
    (fun f fn hf hfn => by
      obtain rfl : f = 7 := Option.some.inj ((show Tryd.prog.funcNamed "orangery/orangerylaw15.TokenQuotes" = some 7 by kernel_rfl).symm.trans hf) |>.symm
      obtain rfl : fn = Tryd.f7 := (Option.some.inj (Tryd.func7.symm.trans hfn)).symm
      exact ⟨by kernel_rfl, fun j t ht => by
        rw [Tryd.params7] at ht
        have hm : t ∈ [9] := by simpa using Array.mem_of_getElem? ht
        have hall : ([9].all fun u => !Tryd.prog.wantsStandIn u) = true := by kernel_rfl
        exact (show Tryd.prog.wantsStandIn t = false by simpa using List.all_eq_true.1 hall t hm)⟩)
    (by kernel_rfl)
end Go.Proofs.YtglcpfnfldaimaaDoor.tokenQuotes
