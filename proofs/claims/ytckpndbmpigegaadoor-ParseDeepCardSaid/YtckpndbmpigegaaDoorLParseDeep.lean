/- ParseDeep: arrays, or objects, in one another are parsed up to the limit, and no deeper: the error is told where the one too many begins: whatever the input, the law returns true and the input reads as it did. No condition. -/
import Derived.Test.YtckpndbmpigegaaDoorRows
import Derived.Test.YtckpndbmpigegaaDoorCards
import Derived.Test.YtckpndbmpigegaaDoorTie
import Derived.Test.YtckpndbmpigegaaDoorPaZ
import Derived.Test.YtckpndbmpigegaaDoorQDeep
import Derived.Test.YtckpndbmpigegaaDoorFrame
import Derived.ProofKit
import Derived.SizedLaws
import Derived.OpenShut
import Derived.Lay
import Derived.LaidMore
import Derived.SevenTiedAt
import Derived.IntWalk
import Derived.Laws.BitsLemmas
set_option linter.unusedVariables false
set_option linter.unusedSimpArgs false
set_option maxRecDepth 100000
namespace Go.Proofs.YtckpndbmpigegaaDoor.parseDeep
open Go.ChangeShapes Go.WideShapes Go.ChangeAt Go.RowKit Go.Mem Orange

theorem i64_and127 (n : Int) : bits .and .i64 n 127 = n % 128 := by
  have h127 : (BitVec.ofInt 64 127).toNat = 2 ^ 7 - 1 := by decide
  have key : (BitVec.ofInt 64 n &&& BitVec.ofInt 64 127).toNat = (n % ((2 ^ 64 : Nat) : Int)).toNat % 2 ^ 7 := by
    rw [BitVec.toNat_and, BitVec.toNat_ofInt, h127, Nat.and_two_pow_sub_one_eq_mod]
  show IntKind.i64.wrap ((BitVec.ofInt 64 n &&& BitVec.ofInt 64 127).toNat : Nat) = n % 128
  rw [key, IntKind.wrap_i64]
  omega
theorem pick (a : Int) : ∃ p : Nat, bits .and .i64 a 127 = p ∧ p < 128 := by
  exact ⟨(a % 128).toNat, by rw [i64_and127]; omega, by omega⟩
def ahead (o : Bool) (i : Nat) : Int := if i = 0 then 1 else (dHead o).length
theorem dText_small (o : Bool) (i : Nat) (h : i ≤ 128) : (dText o i).length ≤ 1000 := by
  rw [dText_len]
  have h5 : (dHead o).length ≤ 5 := by cases o <;> decide
  have : (dHead o).length * i ≤ 5 * i := Nat.mul_le_mul_right _ h5
  omega
set_option maxHeartbeats 12800000 in
theorem walk (n : Int) (hn0 : -9223372036854775808 ≤ n) (hn1 : n ≤ 9223372036854775807) (o : Bool) (w : World) :
    Calls Tryd.prog 8 #[.int .i64 n, .bool o] w fun e w' => e = .returned (.bool true) ∧ Ext w w' := by
  obtain ⟨p, hp, hpl⟩ := pick n
  go_enter Tryd.func8, Tryd.ntmps8
  go_wp2_with fail
  refine (pawake _).mono ?_
  rintro e w1 ⟨rfl, hw1⟩
  have HE := Lib.hid hw1
  clear hw1
  go_wp2_with fail
  clear hp
  go_loopw [7, 8, 9] (fun sv av iv wr => ∃ i : Nat, iv = .int .i64 i ∧ i ≤ p ∧ sv = .string ⟨(dText o i).toArray⟩ ∧ av = .int .i64 (ahead o i) ∧ Ext w wr) (fun _ _ iv _ => 5000 - (intOf iv).toNat)
  case atStart => exact ⟨0, rfl, by omega, rfl, rfl, HE.out⟩
  case round =>
    obtain ⟨i, rfl, hi, rfl, rfl, hE⟩ := hrel
    replace HE := Lib.hid hE
    clear hE
    by_cases hlt : i < p
    · have hlti : (i : Int) < p := by omega
      have hsm := dText_small o i (by omega)
      have e9 : IntKind.i64.wrap ((i : Int) + 1) = ((i + 1 : Nat) : Int) := by rw [IntWalk.i64_in _ (by omega)]; omega
      cases o with
      | true =>
        have hap1 := ba_app [123, 34, 97, 34, 58] (dText true i)
        have hap2 := ba_app ([123, 34, 97, 34, 58] ++ dText true i) [125]
        have HD : Hid ([123, 34, 97, 34, 58] ++ dText true i ++ [125] = dText true (i + 1)) := Lib.hid (by rw [dText]; simp [dHead, dEnd])
        obtain ⟨T1, hT1⟩ : ∃ T1, [123, 34, 97, 34, 58] ++ dText true i = T1 := ⟨_, rfl⟩
        rw [hT1] at hap1 hap2 HD
        have hT1l : T1.length ≤ 1005 := by rw [← hT1]; simp; omega
        have hc1 : ¬ 9223372036854775807 < 5 + (dText true i).length := by omega
        have hc2 : ¬ 9223372036854775807 < T1.length + 1 := by omega
        clear hT1
        go_wp2_with fail
        go_roundw
        case rel => exact ⟨i + 1, by go_num, by omega, by rw [← HD.out]; try rfl, by simp [ahead, dHead], HE.out⟩
        case measure => simp [intOf]; omega
      | false =>
        have hap1 := ba_app [91] (dText false i)
        have hap2 := ba_app ([91] ++ dText false i) [93]
        have HD : Hid ([91] ++ dText false i ++ [93] = dText false (i + 1)) := Lib.hid (by rw [dText]; simp [dHead, dEnd])
        obtain ⟨T1, hT1⟩ : ∃ T1, [91] ++ dText false i = T1 := ⟨_, rfl⟩
        rw [hT1] at hap1 hap2 HD
        have hT1l : T1.length ≤ 1005 := by rw [← hT1]; simp; omega
        have hc1 : ¬ 9223372036854775807 < 1 + (dText false i).length := by omega
        have hc2 : ¬ 9223372036854775807 < T1.length + 1 := by omega
        clear hT1
        go_wp2_with fail
        go_roundw
        case rel => exact ⟨i + 1, by go_num, by omega, by rw [← HD.out]; try rfl, by simp [ahead, dHead], HE.out⟩
        case measure => simp [intOf]; omega
    · obtain rfl : i = p := by omega
      have hnlt : ¬ ((i : Int) < (i : Int)) := by omega
      have hlaw := deeps_law o i (by omega)
      have hsm := dText_small o i (by omega)
      have hdep := dTree_depth o i
      have hcnt := dTree_count o i
      have hah : i ≤ 64 ∨ ahead o i = (dHead o).length := by
        by_cases h : i ≤ 64
        · exact .inl h
        · exact .inr (by unfold ahead; rw [if_neg (by omega)])
      have hdh : (dHead o).length ≤ 5 := by cases o <;> decide
      obtain ⟨T, hT⟩ : ∃ T, dText o i = T := ⟨_, rfl⟩
      rw [hT] at hlaw hsm ⊢
      obtain ⟨ah, hahe⟩ : ∃ ah, ahead o i = ah := ⟨_, rfl⟩
      rw [hahe] at hah ⊢
      obtain ⟨DT, hDT⟩ : ∃ DT, dTree o i = DT := ⟨_, rfl⟩
      rw [hDT] at hlaw hdep hcnt
      have hs4 : (ByteArray.mk T.toArray).size ≤ 140737488355328 := by rw [sx_size]; omega
      clear hT hahe hDT
      have HLAW := Lib.hid hlaw
      have HDEP := Lib.hid hdep
      have HCNT := Lib.hid hcnt
      have HAH := Lib.hid hah
      clear hlaw hdep hcnt hah
      go_wp2_with (first
        | (refine wpList_bytes_of_string wr rfl 9 22 5 _ rfl ⟨T.toArray⟩ rfl Tryd.underlying9 Tryd.underlying22 Tryd.underlying5 hs4 ?_; intro capA wA hEA hcapA hcmA hszA hatA)
        | fail)
      rw [sx_size] at hcapA
      refine (top_any _ T _ (Bytes.mk hatA rfl hcapA hcmA (by omega))).mono ?_
      intro e w3 hend
      obtain ⟨ct, rfl, htv, hw3⟩ := hend
      replace hw3 := ext_trans hEA hw3
      clear hEA hatA hcapA hcmA hszA hs4
      rw [HLAW.out] at htv ⊢
      by_cases h64 : i ≤ 64
      · rw [if_pos h64] at htv ⊢
        simp only at htv ⊢
        obtain ⟨k, b, d, ss, la, ln, lc, ma, mn, mc, rfl⟩ := htv.eight
        have hv := VAt.new w3 (cellsV k b d ss (.slice la ln lc) (.slice ma mn mc))
        have hx : Ext w3 (w3.alloc (.cells (cellsV k b d ss (.slice la ln lc) (.slice ma mn mc)) 29)) := (ext_refl w3).alloc (Nat.le_refl _) _
        simp only [cellsV] at hv hx ⊢
        obtain ⟨P, hP⟩ : ∃ P, w3.heap.size = P := ⟨_, rfl⟩
        rw [hP] at hv
        go_upto_region 13 with fail
        have HTV := Lib.hid (htv.keep (A' := fun _ => True) hx.size (fun g _ hlt => ⟨trivial, hx.block g hlt⟩))
        replace HE := Lib.hid (ext_trans (ext_trans HE.out hw3) hx)
        clear hP htv hx hw3
        generalize w3.alloc (.cells #[.int .i64 k, .bool b, .bool d.neg, .string ⟨d.digits.toArray⟩, .int .i64 d.exp, .string ⟨ss.toArray⟩, .slice la ln lc, .slice ma mn mc] 29) = w4 at *
        have c0 := hv.cell 0; have c1 := hv.cell 1; have c2 := hv.cell 2; have c3 := hv.cell 3; have c4 := hv.cell 4; have c5 := hv.cell 5; have c6 := hv.cell 6; have c7 := hv.cell 7
        simp at c0 c1 c2 c3 c4 c5 c6 c7
        clear hv
        have h64i : (i : Int) ≤ 64 := by omega
        have hd : decide (64 < (i : Int)) = false := by simp; omega
        go_wp2_with fail
        refine (depth_any DT _ _ w4 (by rw [HCNT.out]; omega) HTV.out).mono ?_
        rintro e w5 ⟨rfl, hw5⟩
        rw [HDEP.out]
        have e8 : IntKind.i64.wrap ((i : Int) + 1) = ((i + 1 : Nat) : Int) := by rw [IntWalk.i64_in _ (by omega)]; omega
        have HE5 := Lib.hid (ext_trans HE.out hw5)
        clear hw5 c0 c1 c2 c3 c4 c5 c6 c7
        go_wp2_with fail
        go_ret
        exact ⟨rfl, HE5.out⟩
      · rw [if_neg h64] at htv ⊢
        simp only at htv ⊢
        obtain ⟨ya, yb, yc, yd, rfl⟩ := htv.shape
        simp only [tNull, Num.zero, Tree.kind, Tree.bit, Tree.num, Tree.str, Tree.list, Tree.mems, cellsV, List.length_nil]
        have hE4 := ext_trans (ext_trans HE.out hw3) ((ext_refl w3).alloc (Nat.le_refl _) (.cells #[.int .i64 0, .bool false, .bool false, .string ⟨#[]⟩, .int .i64 0, .string ⟨#[]⟩, .slice ya 0 yb, .slice yc 0 yd] 29))
        obtain rfl : ah = (dHead o).length := by rcases HAH.out with h | h; exact absurd h h64; exact h
        have hmul : IntKind.i64.wrap (64 * ((dHead o).length : Int)) = ((64 * (dHead o).length : Nat) : Int) := by rw [IntWalk.i64_in _ (by omega)]; omega
        have hd : decide (64 < (i : Int)) = true := by simp; omega
        go_upto_region 13 with fail
        generalize w3.alloc (.cells #[.int .i64 0, .bool false, .bool false, .string ⟨#[]⟩, .int .i64 0, .string ⟨#[]⟩, .slice ya 0 yb, .slice yc 0 yd] 29) = w4 at *
        have HE4 := Lib.hid hE4
        clear hE4 htv hw3
        go_wp2_with fail
        go_ret
        exact ⟨rfl, HE4.out⟩
set_option linter.unusedSimpArgs false
theorem own : ownKnob Tryd.prog.godebug = none := by kernel_rfl
theorem laid : laidOutB Tryd.prog = true := by kernel_rfl
set_option maxHeartbeats 1600000 in
set_option maxRecDepth 100000 in
theorem lifted (os : Os) (started : os.Started) (H : Type) (enc : TypeId × Value → H) :
    ReturnsInHanded {} Tryd.checked os 8 .any (fun w args => (Rows.parseDeepSpec.pre enc Tryd.prog Tryd.f8 [] false w args ∧ laidMetH Tryd.prog Rows.parseDeepRow.laid w) ∧ sizedMet enc Tryd.prog Tryd.f8 (OpenSpec.ofChange Rows.parseDeepSpec) false w args) (Rows.parseDeepSpec.post enc Tryd.prog Tryd.f8 false true false false) := by
  refine returnsInHanded_of_change_and (C := Tryd.checked) (X := fun w _ => laidMetH Tryd.prog Rows.parseDeepRow.laid w) (fun _ _ _ hh h => h.of_heap hh) own started (by kernel_rfl) Tryd.func8
    (ChangeSpec.witness_shaped (enc := enc) (C := Tryd.checked) (os := os) (X := fun w _ => laidMetH Tryd.prog Rows.parseDeepRow.laid w) false (World.laidAll Tryd.prog os Rows.parseDeepRow.laid) #[.int .i64 0, .bool false] 8 (World.laidAll_os _ _ _)
      (World.shaped_of_ZipB (by kernel_rfl) (by kernel_rfl)) (by kernel_rfl) (by kernel_rfl) (by kernel_rfl)
      (by rw [MakeChecks.laidMetH_plain _ _ _ (by kernel_rfl)]; exact laidMet_laidAll _ (by kernel_rfl) (by kernel_rfl))) ?_
  intro W base args ds gs before hval0 hW _ hsz0 _ _
  have hsz : (DataW.weightsEach Tryd.prog (Tryd.f8.params.toList ++ Rows.parseDeepSpec.plain.varTypes Tryd.prog) (ds ++ gs)).all (· ≤ reachBytes) = true := hsz0
  clear hsz0
  have hval : ∀ (j : Nat) t v, Tryd.f8.params[j]? = some t → args[j]? = some v → Value.okWide Tryd.prog W .any base t v := hval0
  have hW' := hW
  obtain ⟨p, q, hA0, hV, rfl, _, _⟩ := hW
  have hA : DataW.TrodAll enc Tryd.prog W 0 (fun _ => true) true Tryd.f8.params.toList args.toList ds p := hA0
  rw [Tryd.params8] at hA hval hsz
  obtain ⟨v0, vs0, d0, ds0, p0, q0, ha0, rfl, rfl, h0, r0⟩ := trodAll_cons hA
  obtain ⟨v1, vs1, d1, ds1, p1, q1, ha1, rfl, rfl, h1, r1⟩ := trodAll_cons r0
  obtain ⟨hb2, rfl, rfl⟩ := trodAll_nil r1
  subst hb2
  subst ha1
  obtain rfl : args = #[v0, v1] := by cases args; simpa using ha0
  obtain ⟨rfl, rfl⟩ := trodVars_none hV
  have hk0 := h0
  obtain ⟨a0, rfl, rfl, rfl, wf0⟩ := open_int Tryd.underlying3 (hval 0 3 v0 rfl rfl) h0
  have hr0 : -9223372036854775808 ≤ a0 ∧ a0 ≤ 9223372036854775807 := by simpa [Lit.wf, IntKind.min, IntKind.max, IntKind.signed, IntKind.bits] using wf0
  have hk1 := h1
  obtain ⟨a1, rfl, rfl, rfl⟩ := open_bool Tryd.underlying4 (hval 1 4 v1 rfl rfl) h1
  have hlt := fun x hx => hW'.lt x hx
  simp only [List.append_nil, List.nil_append] at hW' hlt
  refine (walk a0 hr0.1 hr0.2 a1 W ).mono fun e W' ⟨he, hb⟩ => ?_
  subst he
  have hargs := (trodAll_cons_mk (Below.trod laid (by kernel_rfl) (of_decide_eq_true (by kernel_rfl)) hk0 hb (fun x hx => by first | exact hlt x hx | exact absurd hx (List.not_mem_nil) | exact hlt x (by simp [hx]))) (trodAll_cons_mk (Below.trod laid (by kernel_rfl) (of_decide_eq_true (by kernel_rfl)) hk1 hb (fun x hx => by first | exact hlt x hx | exact absurd hx (List.not_mem_nil) | exact hlt x (by simp [hx]))) trodAll_mk0))
  exact ⟨_, rfl, _, _, _, [], _, [], hW', trodAll_cons_mk (shut_bool Tryd.underlying4 _) trodAll_mk0, hargs, rfl, hb.frame _, fun h => by cases h⟩

theorem held : Rows.ParseDeepSaid :=
  OpenClaim.holds_of_wide 8 Tryd.f8 rfl rfl rfl rfl rfl rfl rfl ⟨rfl, rfl, rfl, rfl, rfl⟩ rfl rfl rfl rfl rfl (by kernel_rfl) Tryd.func8 (by kernel_rfl)
    (of_decide_eq_true (by kernel_rfl)) (by unfold Func.isWrapper; first | (rw [if_pos (by decide +kernel)]; kernel_rfl) | (rw [if_neg (by decide +kernel)]; exact ⟨rfl, rfl⟩))
    (fun os started H enc _ => lifted os started H enc)

theorem proved : Rows.ParseDeepCardSaid :=
  Claim7.holds_tied_plain_at .later [] Rows.parseDeepCard.laidKinds true Rows.parseDeepCard.stood.harness Rows.parseDeepCard.stood.looks held (fun _ h => by cases h) (by kernel_rfl) (fun _ h => by cases h) parseDeep_row_tie rfl ⟨rfl, rfl⟩ (by kernel_rfl) rfl
    (fun f fn hf hfn => by
      obtain rfl : f = 8 := Option.some.inj ((show Tryd.prog.funcNamed "orangery/orangerylaw04.ParseDeep" = some 8 by kernel_rfl).symm.trans hf) |>.symm
      obtain rfl : fn = Tryd.f8 := (Option.some.inj (Tryd.func8.symm.trans hfn)).symm
      exact ⟨by kernel_rfl, fun j t ht => by
        rw [Tryd.params8] at ht
        have hm : t ∈ [3, 4] := by simpa using Array.mem_of_getElem? ht
        have hall : ([3, 4].all fun u => !Tryd.prog.wantsStandIn u) = true := by kernel_rfl
        exact (show Tryd.prog.wantsStandIn t = false by simpa using List.all_eq_true.1 hall t hm)⟩)
    (by kernel_rfl)
end Go.Proofs.YtckpndbmpigegaaDoor.parseDeep
