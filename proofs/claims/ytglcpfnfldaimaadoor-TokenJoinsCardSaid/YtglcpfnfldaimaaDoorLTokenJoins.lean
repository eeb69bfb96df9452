/- TokenJoins: two texts with white between them have the tokens of both: whatever the input, the law returns true and the input reads as it did. No condition. -/
import Derived.Test.YtglcpfnfldaimaaDoorRows
import Derived.Test.YtglcpfnfldaimaaDoorCards
import Derived.Test.YtglcpfnfldaimaaDoorTie
import Derived.Test.YtglcpfnfldaimaaDoorTokW
import Derived.Test.YtglcpfnfldaimaaDoorTokJ
import Derived.Test.YtglcpfnfldaimaaDoorFrame
import Derived.ProofKit
import Derived.SizedLaws
import Derived.OpenShut
import Derived.Lay
import Derived.LaidMore
import Derived.SevenTiedAt
import Derived.IntWalk
import Derived.Laws.BitsLemmas
set_option linter.unusedVariables false
set_option linter.unusedSimpArgs false
set_option maxRecDepth 100000
namespace Go.Proofs.YtglcpfnfldaimaaDoor.tokenJoins
open Go.ChangeShapes Go.WideShapes Go.ChangeAt Go.RowKit Go.Mem Orange

set_option maxHeartbeats 6400000 in
theorem walk (A : ByteArray) (hA : A.size ≤ 140737488351232) (B : ByteArray) (hB : B.size ≤ 140737488351232) (w : World) :
    Calls Tryd.prog 4 #[.string A, .string B] w fun e w' => e = .returned (.bool true) ∧ Ext w w' := by
  obtain ⟨a, rfl⟩ : ∃ L : List UInt8, A = ⟨L.toArray⟩ := ⟨A.data.toList, by apply ba_ext; simp⟩
  obtain ⟨b, rfl⟩ : ∃ L : List UInt8, B = ⟨L.toArray⟩ := ⟨B.data.toList, by apply ba_ext; simp⟩
  have hLa : (ByteArray.mk a.toArray).size = a.length := by show a.toArray.size = _; simp
  have hLb : (ByteArray.mk b.toArray).size = b.length := by show b.toArray.size = _; simp
  rw [hLa] at hA
  rw [hLb] at hB
  have happ1 := ba_app a [10]
  have happ2 := ba_app (a ++ [10]) b
  go_enter Tryd.func4, Tryd.ntmps4
  go_wp2_with fail
  refine (tawake _).mono ?_
  rintro e w1 ⟨rfl, hw1⟩
  by_cases hlen : a.length + b.length ≤ 1000
  · have hd : decide (1000 < (a.length : Int) + b.length) = false := by simp; omega
    obtain ⟨⟨l, ea⟩, hPa⟩ : ∃ P, allP a = P := ⟨_, rfl⟩
    obtain ⟨⟨m, eb⟩, hPb⟩ : ∃ P, allP b = P := ⟨_, rfl⟩
    obtain ⟨⟨n, ec⟩, hPn⟩ : ∃ P, allP (a ++ 10 :: b) = P := ⟨_, rfl⟩
    have HE : Hid (ea ≠ 0 → l = []) := Lib.hid fun h => by have := allP_err a; rw [hPa] at this; exact this h
    have HJ : Hid (ea = 0 → eb = 0 → n = l ++ m.map (shiftT (a.length + 1)) ∧ ec = 0) := Lib.hid fun h1 h2 => by
      have := allP_two a b l m (by rw [hPa, h1]) (by rw [hPb, h2]) hlen
      rw [hPn] at this
      exact ⟨congrArg Prod.fst this, congrArg Prod.snd this⟩
    have HPa := Lib.hid hPa
    have HPb := Lib.hid hPb
    have HPn := Lib.hid hPn
    clear hPa hPb hPn
    go_wp2_with fail
    refine (all_any a _ (by omega)).mono ?_
    rintro e w2 ⟨⟨v1, rfl, ht1⟩, hw2⟩
    rw [HPa.out] at ht1 ⊢
    simp only at ht1 ⊢
    obtain ⟨va, ca, rfl, hca⟩ := ht1.shape
    have HT1 := Lib.hid ht1
    clear ht1
    go_wp2_with fail
    refine (all_any b _ (by omega)).mono ?_
    rintro e w3 ⟨⟨v2, rfl, ht2⟩, hw3⟩
    rw [HPb.out] at ht2 ⊢
    simp only at ht2 ⊢
    obtain ⟨vb, cb, rfl, hcb⟩ := ht2.shape
    have HT2 := Lib.hid ht2
    clear ht2
    go_wp2_with fail
    refine (all_any (a ++ 10 :: b) _ (by simp; omega)).mono ?_
    rintro e w4 ⟨⟨v3, rfl, ht3⟩, hw4⟩
    rw [HPn.out] at ht3 ⊢
    simp only at ht3 ⊢
    obtain ⟨vn, cn, rfl, hcn⟩ := ht3.shape
    have hE4 : Ext w w4 := ext_trans (ext_trans hw1 hw2) (ext_trans hw3 hw4)
    have HT1 := Lib.hid (HT1.out.ext (ext_trans hw3 hw4))
    have HT2 := Lib.hid (HT2.out.ext hw4)
    have hnb : n.length ≤ 9223372036854775807 := by obtain ⟨_, _, _, h1, h2, _⟩ := ht3; omega
    have HT3 := Lib.hid ht3
    clear ht3 hw1 hw2 hw3 hw4 happ1 happ2
    by_cases hea : ea = 0
    · subst hea
      by_cases heb : eb = 0
      · subst heb
        obtain ⟨hn, rfl⟩ := HJ.out rfl rfl
        have hnl : n.length = l.length + m.length := by rw [hn]; simp
        have HN := Lib.hid hn
        clear hn HJ HE HPa HPb HPn
        have hlm : l.length + m.length ≤ 9223372036854775807 := by omega
        go_wp2_with fail
        go_loopw [12] (fun iv wr => ∃ i : Nat, iv = .int .i64 i ∧ i ≤ l.length + m.length ∧ Ext w4 wr) (fun iv _ => n.length - (intOf iv).toNat)
        case atStart => exact ⟨0, rfl, by omega, ext_refl _⟩
        case round =>
          obtain ⟨i, rfl, hi, hE⟩ := hrel
          have t1 := HT1.out.ext hE
          have t2 := HT2.out.ext hE
          have t3 := HT3.out.ext hE
          by_cases hlt : i < n.length
          · have hxs := t3.at' (by omega)
            obtain ⟨gn, rfl, hgn, hcn⟩ := hxs
            have hx := hcn i hlt
            obtain ⟨⟨kx, sx, ⟨ng, dg, ex⟩, fx, ux⟩, hxe⟩ : ∃ t, n[i] = t := ⟨_, rfl⟩
            rw [hxe] at hx
            obtain ⟨x0, x1, x2, x3, x4, x5, x6⟩ := hx
            simp only at x0 x1 x2 x3 x4 x5 x6
            by_cases hil : i < l.length
            · obtain ⟨gl, rfl, hgl, hcl⟩ := t1.at' (by omega)
              have hy := hcl i hil
              have hle : l[i] = ⟨kx, sx, ⟨ng, dg, ex⟩, fx, ux⟩ := by
                rw [← hxe]; simp [HN.out, List.getElem_append_left hil]
              rw [hle] at hy
              obtain ⟨y0, y1, y2, y3, y4, y5, y6⟩ := hy
              simp only at y0 y1 y2 y3 y4 y5 y6
              clear t1 t2 t3 hcl hcn
              go_wp2_with fail
              go_roundw
              case rel => exact ⟨i + 1, by go_num, by omega, (hE.alloc hE.size _).alloc (by have := hE.size; simp; omega) _⟩
              case measure => simp [intOf]; omega
            · obtain ⟨j, hij⟩ : ∃ j, i = l.length + j := ⟨i - l.length, by omega⟩
              have hj : (i : Int) - (l.length : Int) = (j : Int) := by omega
              have hjm : j < m.length := by omega
              obtain ⟨gm, rfl, hgm, hcm⟩ := t2.at' (by omega)
              have hy := hcm j hjm
              have hle : ∃ fy uy, m[j] = ⟨kx, sx, ⟨ng, dg, ex⟩, fy, uy⟩ ∧ uy - fy = ux - fx := by
                have e : n[i] = shiftT (a.length + 1) m[j] := by
                  simp only [HN.out, hij]
                  rw [List.getElem_append_right (by omega)]
                  simp
                rw [hxe] at e
                generalize m[j] = y at e
                obtain ⟨k', s', ⟨n1, n2, n3⟩, f', u'⟩ := y
                simp only [shiftT, Orange.Tok.mk.injEq, Num.mk.injEq] at e
                obtain ⟨rfl, rfl, ⟨rfl, rfl, rfl⟩, e1, e2⟩ := e
                exact ⟨f', u', rfl, by omega⟩
              obtain ⟨fy, uy, hle, hsub⟩ := hle
              rw [hle] at hy
              obtain ⟨y0, y1, y2, y3, y4, y5, y6⟩ := hy
              simp only at y0 y1 y2 y3 y4 y5 y6
              clear t1 t2 t3 hcm hcn hle hxe hij
              go_wp2_with fail
              go_roundw
              case rel => exact ⟨i + 1, by go_num, by omega, (hE.alloc hE.size _).alloc (by have := hE.size; simp; omega) _⟩
              case measure => simp [intOf]; omega
          · go_wp2_with fail
            go_ret
            exact ⟨rfl, ext_trans hE4 hE⟩
      · clear HJ
        go_wp2_with fail
        go_ret
        exact ⟨rfl, hE4⟩
    · have hl0 := HE.out hea
      subst hl0
      clear HJ HE
      go_wp2_with fail
      go_ret
      exact ⟨rfl, hE4⟩
  · go_wp2_with fail
    go_ret
    exact ⟨rfl, hw1⟩
set_option linter.unusedSimpArgs false
theorem own : ownKnob Tryd.prog.godebug = none := by kernel_rfl
theorem laid : laidOutB Tryd.prog = true := by kernel_rfl
set_option maxHeartbeats 1600000 in
set_option maxRecDepth 100000 in
theorem lifted (os : Os) (started : os.Started) (H : Type) (enc : TypeId × Value → H) :
    ReturnsInHanded {} Tryd.checked os 4 .any (fun w args => (Rows.tokenJoinsSpec.pre enc Tryd.prog Tryd.f4 [] false w args ∧ laidMetH Tryd.prog Rows.tokenJoinsRow.laid w) ∧ sizedMet enc Tryd.prog Tryd.f4 (OpenSpec.ofChange Rows.tokenJoinsSpec) false w args) (Rows.tokenJoinsSpec.post enc Tryd.prog Tryd.f4 false true false false) := by
  refine returnsInHanded_of_change_and (C := Tryd.checked) (X := fun w _ => laidMetH Tryd.prog Rows.tokenJoinsRow.laid w) (fun _ _ _ hh h => h.of_heap hh) own started (by kernel_rfl) Tryd.func4
    (ChangeSpec.witness_shaped (enc := enc) (C := Tryd.checked) (os := os) (X := fun w _ => laidMetH Tryd.prog Rows.tokenJoinsRow.laid w) false (World.laidAll Tryd.prog os Rows.tokenJoinsRow.laid) #[.string ⟨#[]⟩, .string ⟨#[]⟩] 8 (World.laidAll_os _ _ _)
      (World.shaped_of_ZipB (by kernel_rfl) (by kernel_rfl)) (by kernel_rfl) (by kernel_rfl) (by kernel_rfl)
      (by rw [MakeChecks.laidMetH_plain _ _ _ (by kernel_rfl)]; exact laidMet_laidAll _ (by kernel_rfl) (by kernel_rfl))) ?_
  intro W base args ds gs before hval0 hW _ hsz0 _ _
  have hsz : (DataW.weightsEach Tryd.prog (Tryd.f4.params.toList ++ Rows.tokenJoinsSpec.plain.varTypes Tryd.prog) (ds ++ gs)).all (· ≤ reachBytes) = true := hsz0
  clear hsz0
  have hval : ∀ (j : Nat) t v, Tryd.f4.params[j]? = some t → args[j]? = some v → Value.okWide Tryd.prog W .any base t v := hval0
  have hW' := hW
  obtain ⟨p, q, hA0, hV, rfl, _, _⟩ := hW
  have hA : DataW.TrodAll enc Tryd.prog W 0 (fun _ => true) true Tryd.f4.params.toList args.toList ds p := hA0
  rw [Tryd.params4] at hA hval hsz
  obtain ⟨v0, vs0, d0, ds0, p0, q0, ha0, rfl, rfl, h0, r0⟩ := trodAll_cons hA
  obtain ⟨v1, vs1, d1, ds1, p1, q1, ha1, rfl, rfl, h1, r1⟩ := trodAll_cons r0
  obtain ⟨hb2, rfl, rfl⟩ := trodAll_nil r1
  subst hb2
  subst ha1
  obtain rfl : args = #[v0, v1] := by cases args; simpa using ha0
  obtain ⟨rfl, rfl⟩ := trodVars_none hV
  have hk0 := h0
  obtain ⟨a0, rfl, rfl, rfl, _⟩ := Go.ChangeMaps.open_string Tryd.underlying9 (hval 0 9 v0 rfl rfl) h0
  have hs0 : a0.size ≤ 140737488351232 := by have := sized_string hsz (j := 0) rfl rfl; simpa [reachBytes] using this
  have hk1 := h1
  obtain ⟨a1, rfl, rfl, rfl, _⟩ := Go.ChangeMaps.open_string Tryd.underlying9 (hval 1 9 v1 rfl rfl) h1
  have hs1 : a1.size ≤ 140737488351232 := by have := sized_string hsz (j := 1) rfl rfl; simpa [reachBytes] using this
  have hlt := fun x hx => hW'.lt x hx
  simp only [List.append_nil, List.nil_append] at hW' hlt
  refine (walk a0 hs0 a1 hs1 W ).mono fun e W' ⟨he, hb⟩ => ?_
  subst he
  have hargs := (trodAll_cons_mk (Below.trod laid (by kernel_rfl) (of_decide_eq_true (by kernel_rfl)) hk0 hb (fun x hx => by first | exact hlt x hx | exact absurd hx (List.not_mem_nil) | exact hlt x (by simp [hx]))) (trodAll_cons_mk (Below.trod laid (by kernel_rfl) (of_decide_eq_true (by kernel_rfl)) hk1 hb (fun x hx => by first | exact hlt x hx | exact absurd hx (List.not_mem_nil) | exact hlt x (by simp [hx]))) trodAll_mk0))
  exact ⟨_, rfl, _, _, _, [], _, [], hW', trodAll_cons_mk (shut_bool Tryd.underlying4 _) trodAll_mk0, hargs, rfl, hb.frame _, fun h => by cases h⟩

theorem held : Rows.TokenJoinsSaid :=
  OpenClaim.holds_of_wide 4 Tryd.f4 rfl rfl rfl rfl rfl rfl rfl ⟨rfl, rfl, rfl, rfl, rfl⟩ rfl rfl rfl rfl rfl (by kernel_rfl) Tryd.func4 (by kernel_rfl)
    (of_decide_eq_true (by kernel_rfl)) (by unfold Func.isWrapper; first | (rw [if_pos (by decide +kernel)]; kernel_rfl) | (rw [if_neg (by decide +kernel)]; exact ⟨rfl, rfl⟩))
    (fun os started H enc _ => lifted os started H enc)

theorem proved : Rows.TokenJoinsCardSaid :=
  Claim7.holds_tied_plain_at .later [] Rows.tokenJoinsCard.laidKinds true Rows.tokenJoinsCard.stood.harness false held (fun _ h => by cases h) (by kernel_rfl) (fun _ h => by cases h) tokenJoins_row_tie rfl ⟨rfl, rfl⟩ (by kernel_rfl) rfl
    (fun f fn hf hfn => by
      obtain rfl : f = 4 := Option.some.inj ((show Tryd.prog.funcNamed "orangery/orangerylaw15.TokenJoins" = some 4 by kernel_rfl).symm.trans hf) |>.symm
      obtain rfl : fn = Tryd.f4 := (Option.some.inj (Tryd.func4.symm.trans hfn)).symm
      exact ⟨by kernel_rfl, fun j t ht => by
        rw [Tryd.params4] at ht
        have hm : t ∈ [9, 9] := by simpa using Array.mem_of_getElem? ht
        have hall : ([9, 9].all fun u => !Tryd.prog.wantsStandIn u) = true := by kernel_rfl
        exact (show Tryd.prog.wantsStandIn t = false by simpa using List.all_eq_true.1 hall t hm)⟩)
    (by kernel_rfl)
end Go.Proofs.YtglcpfnfldaimaaDoor.tokenJoins
