/- TokenLies: tokens lie one behind the other, with white alone between them, and each of them is one by itself: whatever the input, the law returns true and the input reads as it did. No condition. -/
import Derived.Test.YtglcpfnfldaimaaDoorRows
import Derived.Test.YtglcpfnfldaimaaDoorCards
import Derived.Test.YtglcpfnfldaimaaDoorTie
import Derived.Test.YtglcpfnfldaimaaDoorTokW
import Derived.Test.YtglcpfnfldaimaaDoorTokL
import Derived.Test.YtglcpfnfldaimaaDoorFrame
import Derived.ProofKit
import Derived.SizedLaws
import Derived.OpenShut
import Derived.Lay
import Derived.LaidMore
import Derived.SevenTiedAt
import Derived.IntWalk
import Derived.Laws.BitsLemmas
set_option linter.unusedVariables false
set_option linter.unusedSimpArgs false
set_option maxRecDepth 100000
namespace Go.Proofs.YtglcpfnfldaimaaDoor.tokenLies
open Go.ChangeShapes Go.WideShapes Go.ChangeAt Go.RowKit Go.Mem Orange

def specToks (ts : List Orange.Tok) : Grow.Spec Ext := ⟨fun v => ∃ a c, v = .tuple #[.slice a ts.length c, .int .i64 0], fun v w => ∃ a c, v = .tuple #[.slice a ts.length c, .int .i64 0] ∧ Toks w (.slice a ts.length c) ts, ⟨_, none, 0, rfl⟩, fun v w w' ⟨a, c, e, h⟩ hg => ⟨a, c, e, h.ext hg⟩⟩
theorem mid_cut (l : List UInt8) (f u : Nat) (h : f ≤ u) (hu : u ≤ l.length) : ByteArray.extract ⟨l.toArray⟩ f u = ⟨((l.drop f).take (u - f)).toArray⟩ := by
  apply ba_ext
  simp [ByteArray.data_extract, List.extract_eq_take_drop]
theorem lies_len {l : List UInt8} : ∀ (ts : List Orange.Tok) (k : Nat), Lies l k ts → k ≤ l.length
  | [], _, h => h.1
  | t :: ts, k, h => by obtain ⟨f, u, _, _, h1, h2, h3, _⟩ := h; omega

set_option maxHeartbeats 12800000 in
theorem walk (s : ByteArray) (hs : s.size ≤ 140737488351232) (w : World) :
    Calls Tryd.prog 3 #[.string s] w fun e w' => e = .returned (.bool true) ∧ Ext w w' := by
  obtain ⟨l, rfl⟩ : ∃ L : List UInt8, s = ⟨L.toArray⟩ := ⟨s.data.toList, by apply ba_ext; simp⟩
  have hL : (ByteArray.mk l.toArray).size = l.length := by show l.toArray.size = _; simp
  rw [hL] at hs
  go_enter Tryd.func3, Tryd.ntmps3
  go_wp2_with fail
  refine (tawake _).mono ?_
  rintro e w1 ⟨rfl, hw1⟩
  by_cases hlen : l.length ≤ 1000
  · have hd : decide (1000 < (l.length : Int)) = false := by simp; omega
    obtain ⟨⟨ts, er⟩, hPe⟩ : ∃ P, allP l = P := ⟨_, rfl⟩
    have HE : Hid (er ≠ 0 → ts = []) := Lib.hid fun h => by have := allP_err l; rw [hPe] at this; exact this h
    have HJ : Hid (er = 0 → Lies l 0 ts) := Lib.hid fun h => allP_lies l ts (by rw [hPe, h])
    have HP := Lib.hid hPe
    clear hPe
    go_wp2_with fail
    refine (all_any l _ (by omega)).mono ?_
    rintro e w2 ⟨⟨v1, rfl, ht1⟩, hw2⟩
    rw [HP.out] at ht1 ⊢
    simp only at ht1 ⊢
    obtain ⟨va, ca, rfl, hca⟩ := ht1.shape
    have hnb : ts.length ≤ 9223372036854775807 := by obtain ⟨_, _, _, h1, h2, _⟩ := ht1; omega
    have HT := Lib.hid ht1
    have hE2 := ext_trans hw1 hw2
    clear ht1 hw1 hw2 HP
    by_cases hea : er = 0
    · subst hea
      have HLI := Lib.hid (HJ.out rfl)
      clear HJ HE
      go_wp2_with fail
      go_loopw [6, 7] (fun kv iv wr => ∃ k i : Nat, kv = .int .i64 k ∧ iv = .int .i64 i ∧ i ≤ ts.length ∧ Lies l k (ts.drop i) ∧ Ext w2 wr) (fun _ iv _ => ts.length + 1 - (intOf iv).toNat)
      case atStart => exact ⟨0, 0, rfl, rfl, by omega, by simpa using HLI.out, ext_refl _⟩
      case round =>
        obtain ⟨k, i, rfl, rfl, hi, hli, hE⟩ := hrel
        have hkl := lies_len _ _ hli
        have t1 := HT.out.ext hE
        by_cases hlt : i < ts.length
        · obtain ⟨g, rfl, hg, hc⟩ := t1.at' (by omega)
          have hx := hc i hlt
          rw [List.drop_eq_getElem_cons hlt] at hli
          obtain ⟨⟨kx, sx, ⟨ng, dg, ex⟩, fx, ux⟩, hxe⟩ : ∃ t, ts[i] = t := ⟨_, rfl⟩
          rw [hxe] at hx hli
          obtain ⟨f, u, e1, e2, hkf, hfu, hul, hwh, hself, hrest⟩ := hli
          simp only at e1 e2 hself
          subst e1 e2
          obtain ⟨x0, x1, x2, x3, x4, x5, x6⟩ := hx
          simp only at x0 x1 x2 x3 x4 x5 x6
          have HW := Lib.hid hwh
          have HS := Lib.hid hself
          have HR := Lib.hid hrest
          have HT1 := Lib.hid t1
          clear hc hwh hself hrest t1 hxe
          go_wp2_with fail
          go_loopw [9] (fun jv wr' => ∃ j : Nat, jv = .int .i64 j ∧ k ≤ j ∧ j ≤ f ∧ wr' = wr) (fun jv _ => f - (intOf jv).toNat)
          case atStart => exact ⟨k, rfl, by omega, by omega, rfl⟩
          case round =>
            obtain ⟨j, rfl, hj1, hj2, rfl⟩ := hrel
            by_cases hjf : j < f
            · have hjl : j < l.length := by omega
              have hcw := HW.out j hj1 hjf hjl
              have hget := get_arr l j hjl
              generalize l[j] = c at *
              have hcs : c.toNat = 9 ∨ c.toNat = 10 ∨ c.toNat = 13 ∨ c.toNat = 32 := by
                have : c = 9 ∨ c = 10 ∨ c = 13 ∨ c = 32 := by simpa [isW, or_assoc] using hcw
                rcases this with rfl | rfl | rfl | rfl <;> simp
              clear hcw
              rcases hcs with hc | hc | hc | hc
              all_goals
                go_wp2_with fail
                go_roundw
                case rel => exact ⟨j + 1, by go_num, by omega, by omega, by trivial⟩
                case measure => simp [intOf]; omega
            · obtain rfl : j = f := by omega
              go_wp2_with fail
              have hcut := mid_cut l j u (by omega) hul
              obtain ⟨S, hS⟩ : ∃ S, (l.drop j).take (u - j) = S := ⟨_, rfl⟩
              have hSl : S.length = u - j := by rw [← hS]; simp; omega
              rw [hS] at hcut
              have HA : Hid (allP S = ([⟨kx, sx, ⟨ng, dg, ex⟩, 0, ((u - j : Nat) : Int)⟩], 0)) := Lib.hid (by rw [← hS]; exact HS.out)
              clear hS HS HW
              have v1 : (0 : Int) ≤ (j : Int) := by omega
              have v2 : (j : Int) ≤ (u : Int) := by omega
              have v3 : (u : Int) ≤ (l.length : Int) := by omega
              have v4 : j ≤ u := by omega
              have v5 : (i : Int) < (ts.length : Int) := by omega
              have v6 : (0 : Int) ≤ (i : Int) := by omega
              have v7 : min u l.length = u := by omega
              refine Grow.wp_region_lit (G := Ext) (B := fun w' => Ext wr w' ∧ w'.cell? ⟨g, i * 7 + 5, none⟩ = some (.int .i64 j) ∧ w'.cell? ⟨g, i * 7 + 6, none⟩ = some (.int .i64 u)) (anc := fun _ => []) (I := fun q => if q = 12 then some (specToks [⟨kx, sx, ⟨ng, dg, ex⟩, 0, ((u - j : Nat) : Int)⟩]) else none) (by kernel_rfl) (by kernel_rfl) (by kernel_rfl) ?_ ?_ ?_
              · exact fun w w' h hg => ⟨ext_trans h.1 hg, by rw [hg.cell (World.block_lt_of_cell? w _ h.2.1)]; exact h.2.1, by rw [hg.cell (World.block_lt_of_cell? w _ h.2.2)]; exact h.2.2⟩
              · exact ⟨(ext_refl _).drew, by simpa using x5, by simpa using x6⟩
              repeat
                (refine Grow.walk_step (fun K hK => ?_)
                 first
                 | (refine Grow.step_read (by rfl) (by rfl) ext_refl ?_
                    apply Exists.intro
                    refine ⟨fun w hB hF => ?_, ?_⟩
                    · obtain ⟨hB1, hB2, hB3⟩ := hB
                      go_simp
                      try exact rfl
                    go_simp
                    refine hK _ _ ?_
                    clear hK K)
                 | (refine Grow.step_off (by rfl) ?_
                    go_simp
                    refine hK _ _ ?_
                    clear hK K))
              refine Grow.walk_step (fun K hK => ?_)
              refine Grow.step_rel (by rfl) (by rfl) (fun w' hB hF => ?_) (fun v hv => ?_)
              · go_simp
                refine Grow.relUpon_enter ((all_any S w' (by omega)).mono ?_)
                rintro e w'' ⟨⟨v, rfl, ht⟩, hw''⟩
                rw [HA.out] at ht ⊢
                obtain ⟨a9, c9, rfl, _⟩ := ht.shape
                exact ⟨_, rfl, hw'', ⟨a9, c9, rfl⟩, a9, c9, rfl, ht⟩
              obtain ⟨a9, c9, rfl⟩ := hv
              go_simp
              refine hK _ _ ?_
              clear hK K
              repeat
                (refine Grow.walk_step (fun K hK => ?_)
                 first
                 | (refine Grow.step_read (by rfl) (by rfl) ext_refl ?_
                    apply Exists.intro
                    refine ⟨fun w hB hF => ?_, ?_⟩
                    · obtain ⟨hB1, hB2, hB3⟩ := hB
                      go_simp
                      try exact rfl
                    go_simp
                    refine hK _ _ ?_
                    clear hK K)
                 | (refine Grow.step_off (by rfl) ?_
                    go_simp
                    refine hK _ _ ?_
                    clear hK K))
              refine Grow.walk_nil ?_
              intro w5 hB hF
              have h12 : (specToks [⟨kx, sx, ⟨ng, dg, ex⟩, 0, ((u - j : Nat) : Int)⟩]).R (.tuple #[.slice a9 1 c9, .int .i64 0]) w5 := by have := hF 12; simpa [Grow.upd] using this
              obtain ⟨a', c', e', ht⟩ := h12
              have e2 : a9 = a' ∧ c9 = c' := by simpa using e'
              obtain ⟨rfl, rfl⟩ := e2
              obtain ⟨g9, rfl, hg9, hc9⟩ := ht.at' (by simp)
              have k9 := hc9 0 (by simp)
              obtain ⟨y0, y1, y2, y3, y4, _, _⟩ := k9
              simp only [List.getElem_cons_zero, Nat.zero_mul, Nat.zero_add] at y0 y1 y2 y3 y4
              obtain ⟨hB1, hB2, hB3⟩ := hB
              have z0 := (hB1.cell (p := ⟨g, i * 7, none⟩) hg).trans x0
              have z1 := (hB1.cell (p := ⟨g, i * 7 + 1, none⟩) hg).trans x1
              have z2 := (hB1.cell (p := ⟨g, i * 7 + 2, none⟩) hg).trans x2
              have z3 := (hB1.cell (p := ⟨g, i * 7 + 3, none⟩) hg).trans x3
              have z4 := (hB1.cell (p := ⟨g, i * 7 + 4, none⟩) hg).trans x4
              have hle : decide ((u : Int) ≤ (j : Int)) = false := by simp; omega
              clear hF ht hc9 x0 x1 x2 x3 x4 x5 x6 e' hcut HA v1 v2 v3 v7 hSl
              go_wp2_with fail
              go_quiet (fail)
              go_wp2_with fail
              go_roundw
              case rel => exact ⟨u, i + 1, rfl, by go_num, by omega, HR.out, ext_trans hE (below_drewN hB1 _)⟩
              case measure => simp [intOf]; omega
        · obtain rfl : i = ts.length := by omega
          rw [List.drop_length] at hli
          have HW := Lib.hid hli.2
          clear hli t1 hi
          go_wp2_with fail
          go_loopw [9] (fun jv wr' => ∃ j : Nat, jv = .int .i64 j ∧ k ≤ j ∧ j ≤ l.length ∧ wr' = wr) (fun jv _ => l.length - (intOf jv).toNat)
          case atStart => exact ⟨k, rfl, by omega, by omega, rfl⟩
          case round =>
            obtain ⟨j, rfl, hj1, hj2, rfl⟩ := hrel
            by_cases hjf : j < l.length
            · have hcw := HW.out j hj1 hjf
              have hget := get_arr l j hjf
              generalize l[j] = c at *
              have hcs : c.toNat = 9 ∨ c.toNat = 10 ∨ c.toNat = 13 ∨ c.toNat = 32 := by
                have : c = 9 ∨ c = 10 ∨ c = 13 ∨ c = 32 := by simpa [isW, or_assoc] using hcw
                rcases this with rfl | rfl | rfl | rfl <;> simp
              clear hcw
              rcases hcs with hc | hc | hc | hc
              all_goals
                go_wp2_with fail
                go_roundw
                case rel => exact ⟨j + 1, by go_num, by omega, by omega, by trivial⟩
                case measure => simp [intOf]; omega
            · obtain rfl : j = l.length := by omega
              go_wp2_with fail
              go_ret
              exact ⟨rfl, ext_trans hE2 hE⟩
    · have hl0 := HE.out hea
      subst hl0
      clear HJ HE
      go_wp2_with fail
      go_ret
      exact ⟨rfl, hE2⟩
  · go_wp2_with fail
    go_ret
    exact ⟨rfl, hw1⟩
set_option linter.unusedSimpArgs false
theorem own : ownKnob Tryd.prog.godebug = none := by kernel_rfl
theorem laid : laidOutB Tryd.prog = true := by kernel_rfl
set_option maxHeartbeats 1600000 in
set_option maxRecDepth 100000 in
theorem lifted (os : Os) (started : os.Started) (H : Type) (enc : TypeId × Value → H) :
    ReturnsInHanded {} Tryd.checked os 3 .any (fun w args => (Rows.tokenLiesSpec.pre enc Tryd.prog Tryd.f3 [] false w args ∧ laidMetH Tryd.prog Rows.tokenLiesRow.laid w) ∧ sizedMet enc Tryd.prog Tryd.f3 (OpenSpec.ofChange Rows.tokenLiesSpec) false w args) (Rows.tokenLiesSpec.post enc Tryd.prog Tryd.f3 false true false false) := by
  refine returnsInHanded_of_change_and (C := Tryd.checked) (X := fun w _ => laidMetH Tryd.prog Rows.tokenLiesRow.laid w) (fun _ _ _ hh h => h.of_heap hh) own started (by kernel_rfl) Tryd.func3
    (ChangeSpec.witness_shaped (enc := enc) (C := Tryd.checked) (os := os) (X := fun w _ => laidMetH Tryd.prog Rows.tokenLiesRow.laid w) false (World.laidAll Tryd.prog os Rows.tokenLiesRow.laid) #[.string ⟨#[]⟩] 8 (World.laidAll_os _ _ _)
      (World.shaped_of_ZipB (by kernel_rfl) (by kernel_rfl)) (by kernel_rfl) (by kernel_rfl) (by kernel_rfl)
      (by rw [MakeChecks.laidMetH_plain _ _ _ (by kernel_rfl)]; exact laidMet_laidAll _ (by kernel_rfl) (by kernel_rfl))) ?_
  intro W base args ds gs before hval0 hW _ hsz0 _ _
  have hsz : (DataW.weightsEach Tryd.prog (Tryd.f3.params.toList ++ Rows.tokenLiesSpec.plain.varTypes Tryd.prog) (ds ++ gs)).all (· ≤ reachBytes) = true := hsz0
  clear hsz0
  have hval : ∀ (j : Nat) t v, Tryd.f3.params[j]? = some t → args[j]? = some v → Value.okWide Tryd.prog W .any base t v := hval0
  have hW' := hW
  obtain ⟨p, q, hA0, hV, rfl, _, _⟩ := hW
  have hA : DataW.TrodAll enc Tryd.prog W 0 (fun _ => true) true Tryd.f3.params.toList args.toList ds p := hA0
  rw [Tryd.params3] at hA hval hsz
  obtain ⟨v0, vs0, d0, ds0, p0, q0, ha0, rfl, rfl, h0, r0⟩ := trodAll_cons hA
  obtain ⟨hb1, rfl, rfl⟩ := trodAll_nil r0
  subst hb1
  obtain rfl : args = #[v0] := by cases args; simpa using ha0
  obtain ⟨rfl, rfl⟩ := trodVars_none hV
  have hk0 := h0
  obtain ⟨a0, rfl, rfl, rfl, _⟩ := Go.ChangeMaps.open_string Tryd.underlying9 (hval 0 9 v0 rfl rfl) h0
  have hs0 : a0.size ≤ 140737488351232 := by have := sized_string hsz (j := 0) rfl rfl; simpa [reachBytes] using this
  have hlt := fun x hx => hW'.lt x hx
  simp only [List.append_nil, List.nil_append] at hW' hlt
  refine (walk a0 hs0 W ).mono fun e W' ⟨he, hb⟩ => ?_
  subst he
  have hargs := (trodAll_cons_mk (Below.trod laid (by kernel_rfl) (of_decide_eq_true (by kernel_rfl)) hk0 hb (fun x hx => by first | exact hlt x hx | exact absurd hx (List.not_mem_nil) | exact hlt x (by simp [hx]))) trodAll_mk0)
  exact ⟨_, rfl, _, _, _, [], _, [], hW', trodAll_cons_mk (shut_bool Tryd.underlying4 _) trodAll_mk0, hargs, rfl, hb.frame _, fun h => by cases h⟩

theorem held : Rows.TokenLiesSaid :=
  OpenClaim.holds_of_wide 3 Tryd.f3 rfl rfl rfl rfl rfl rfl rfl ⟨rfl, rfl, rfl, rfl, rfl⟩ rfl rfl rfl rfl rfl (by kernel_rfl) Tryd.func3 (by kernel_rfl)
    (of_decide_eq_true (by kernel_rfl)) (by unfold Func.isWrapper; first | (rw [if_pos (by decide +kernel)]; kernel_rfl) | (rw [if_neg (by decide +kernel)]; exact ⟨rfl, rfl⟩))
    (fun os started H enc _ => lifted os started H enc)

theorem proved : Rows.TokenLiesCardSaid :=
  Claim7.holds_tied_plain_at .later [] Rows.tokenLiesCard.laidKinds true Rows.tokenLiesCard.stood.harness false held (fun _ h => by cases h) (by kernel_rfl) (fun _ h => by cases h) tokenLies_row_tie rfl ⟨rfl, rfl⟩ (by kernel_rfl) rfl
    (fun f fn hf hfn => by
      obtain rfl : f = 3 := Option.some.inj ((show Tryd.prog.funcNamed "orangery/orangerylaw15.TokenLies" = some 3 by kernel_rfl).symm.trans hf) |>.symm
      obtain rfl : fn = Tryd.f3 := (Option.some.inj (Tryd.func3.symm.trans hfn)).symm
      exact ⟨by kernel_rfl, fun j t ht => by
        rw [Tryd.params3] at ht
        have hm : t ∈ [9] := by simpa using Array.mem_of_getElem? ht
        have hall : ([9].all fun u => !Tryd.prog.wantsStandIn u) = true := by kernel_rfl
        exact (show Tryd.prog.wantsStandIn t = false by simpa using List.all_eq_true.1 hall t hm)⟩)
    (by kernel_rfl)
end Go.Proofs.YtglcpfnfldaimaaDoor.tokenLies
