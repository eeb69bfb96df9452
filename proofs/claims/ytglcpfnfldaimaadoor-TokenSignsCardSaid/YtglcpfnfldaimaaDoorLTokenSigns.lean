/- TokenSigns: each sign is a Sign, alone; two of them with white between are two: whatever the input, the law returns true and the input reads as it did. No condition. -/
import Derived.Test.YtglcpfnfldaimaaDoorRows
import Derived.Test.YtglcpfnfldaimaaDoorCards
import Derived.Test.YtglcpfnfldaimaaDoorTie
import Derived.Test.YtglcpfnfldaimaaDoorTokW
import Derived.Test.YtglcpfnfldaimaaDoorFrame
import Derived.ProofKit
import Derived.SizedLaws
import Derived.OpenShut
import Derived.Lay
import Derived.LaidMore
import Derived.SevenTiedAt
import Derived.IntWalk
import Derived.Laws.BitsLemmas
set_option linter.unusedVariables false
set_option linter.unusedSimpArgs false
set_option maxRecDepth 100000
namespace Go.Proofs.YtglcpfnfldaimaaDoor.tokenSigns
open Go.ChangeShapes Go.WideShapes Go.ChangeAt Go.RowKit Go.Mem Orange

def signs : List (List UInt8) := [[36], [64], [46], [44], [58], [59], [63], [42], [91], [93], [40], [41], [123], [125], [60], [62], [33], [61], [43], [45], [46, 46], [61, 61], [33, 61], [60, 61], [62, 61], [38, 38], [124, 124], [58, 61]]
def one (x : List UInt8) : List Orange.Tok := [⟨4, x, Num.zero, 0, x.length⟩]
def two (x y : List UInt8) : List Orange.Tok := [⟨4, x, Num.zero, 0, x.length⟩, ⟨4, y, Num.zero, (x.length : Int) + 1, (x.length : Int) + 1 + y.length⟩]
theorem all_one : ∀ i : Fin 28, allP (signs.getD i.val []) = (one (signs.getD i.val []), 0) ∧ isName (signs.getD i.val []) = false ∧ (signs.getD i.val []).length ≤ 2 := by decide +kernel
theorem all_two : ∀ i j : Fin 28, allP (signs.getD i.val [] ++ [32] ++ signs.getD j.val []) = (two (signs.getD i.val []) (signs.getD j.val []), 0) := by decide +kernel

theorem i64_and16 (n : Int) : bits .and .i64 n 65535 = n % 65536 := by
  have h127 : (BitVec.ofInt 64 65535).toNat = 2 ^ 16 - 1 := by decide
  have key : (BitVec.ofInt 64 n &&& BitVec.ofInt 64 65535).toNat = (n % ((2 ^ 64 : Nat) : Int)).toNat % 2 ^ 16 := by
    rw [BitVec.toNat_and, BitVec.toNat_ofInt, h127, Nat.and_two_pow_sub_one_eq_mod]
  show IntKind.i64.wrap ((BitVec.ofInt 64 n &&& BitVec.ofInt 64 65535).toNat : Nat) = n % 65536
  rw [key, IntKind.wrap_i64]
  omega
def signVs : List Value := signs.map fun x => .string ⟨x.toArray⟩
theorem pick (a : Int) : ∃ p i : Nat, bits .and .i64 a 65535 = p ∧ p < 65536 ∧ (p : Int).tmod 28 = i ∧ i < 28 := by
  refine ⟨(a % 65536).toNat, (a % 65536).toNat % 28, by rw [i64_and16]; omega, by omega, ?_, by omega⟩
  rw [Int.tmod_eq_emod_of_nonneg (by omega)]; omega
theorem sign_cell (i : Nat) (h : i < 28) (w : World) (cs : Array Value) (g : Nat) (t : TypeId) (hg : w.heap[g]? = some (.cells cs t (0, 0))) (hc : cs.toList = signVs) : w.cell? ⟨g, i, none⟩ = some (.string ⟨(signs.getD i []).toArray⟩) := by
  rw [cell_of_cells hg, ← Array.getElem?_toList, hc, signVs, List.getElem?_map]
  have : i < signs.length := h
  simp [this]

set_option maxHeartbeats 3200000 in
theorem walk (a : Int) (ha0 : -9223372036854775808 ≤ a) (ha1 : a ≤ 9223372036854775807) (b : Int) (hb0 : -9223372036854775808 ≤ b) (hb1 : b ≤ 9223372036854775807) (w : World) :
    Calls Tryd.prog 8 #[.int .i64 a, .int .i64 b] w fun e w' => e = .returned (.bool true) ∧ Ext w w' := by
  go_enter Tryd.func8, Tryd.ntmps8
  go_wp2_with fail
  refine (tawake _).mono ?_
  rintro e w1 ⟨rfl, hw1⟩
  obtain ⟨p, i, hp, hpl, hpi, hi⟩ := pick a
  obtain ⟨q, j, hq, hql, hqj, hj⟩ := pick b
  have hcs : (#[.string ⟨#[36]⟩, .string ⟨#[64]⟩, .string ⟨#[46]⟩, .string ⟨#[44]⟩, .string ⟨#[58]⟩, .string ⟨#[59]⟩, .string ⟨#[63]⟩, .string ⟨#[42]⟩, .string ⟨#[91]⟩, .string ⟨#[93]⟩, .string ⟨#[40]⟩, .string ⟨#[41]⟩, .string ⟨#[123]⟩, .string ⟨#[125]⟩, .string ⟨#[60]⟩, .string ⟨#[62]⟩, .string ⟨#[33]⟩, .string ⟨#[61]⟩, .string ⟨#[43]⟩, .string ⟨#[45]⟩, .string ⟨#[46, 46]⟩, .string ⟨#[61, 61]⟩, .string ⟨#[33, 61]⟩, .string ⟨#[60, 61]⟩, .string ⟨#[62, 61]⟩, .string ⟨#[38, 38]⟩, .string ⟨#[124, 124]⟩, .string ⟨#[58, 61]⟩] : Array Value).toList = signVs := rfl
  have hc1 := sign_cell i hi _ _ w1.heap.size _ (heap_alloc_new w1 (.cells #[.string ⟨#[36]⟩, .string ⟨#[64]⟩, .string ⟨#[46]⟩, .string ⟨#[44]⟩, .string ⟨#[58]⟩, .string ⟨#[59]⟩, .string ⟨#[63]⟩, .string ⟨#[42]⟩, .string ⟨#[91]⟩, .string ⟨#[93]⟩, .string ⟨#[40]⟩, .string ⟨#[41]⟩, .string ⟨#[123]⟩, .string ⟨#[125]⟩, .string ⟨#[60]⟩, .string ⟨#[62]⟩, .string ⟨#[33]⟩, .string ⟨#[61]⟩, .string ⟨#[43]⟩, .string ⟨#[45]⟩, .string ⟨#[46, 46]⟩, .string ⟨#[61, 61]⟩, .string ⟨#[33, 61]⟩, .string ⟨#[60, 61]⟩, .string ⟨#[62, 61]⟩, .string ⟨#[38, 38]⟩, .string ⟨#[124, 124]⟩, .string ⟨#[58, 61]⟩] 9)) hcs
  have hc2 := sign_cell j hj _ _ w1.heap.size _ (heap_alloc_new w1 (.cells #[.string ⟨#[36]⟩, .string ⟨#[64]⟩, .string ⟨#[46]⟩, .string ⟨#[44]⟩, .string ⟨#[58]⟩, .string ⟨#[59]⟩, .string ⟨#[63]⟩, .string ⟨#[42]⟩, .string ⟨#[91]⟩, .string ⟨#[93]⟩, .string ⟨#[40]⟩, .string ⟨#[41]⟩, .string ⟨#[123]⟩, .string ⟨#[125]⟩, .string ⟨#[60]⟩, .string ⟨#[62]⟩, .string ⟨#[33]⟩, .string ⟨#[61]⟩, .string ⟨#[43]⟩, .string ⟨#[45]⟩, .string ⟨#[46, 46]⟩, .string ⟨#[61, 61]⟩, .string ⟨#[33, 61]⟩, .string ⟨#[60, 61]⟩, .string ⟨#[62, 61]⟩, .string ⟨#[38, 38]⟩, .string ⟨#[124, 124]⟩, .string ⟨#[58, 61]⟩] 9)) hcs
  have h1 := all_one ⟨i, hi⟩
  have h2 := all_two ⟨i, hi⟩ ⟨j, hj⟩
  have hyl := (all_one ⟨j, hj⟩).2.2
  simp only at h1 h2 hyl
  obtain ⟨hA, hN, hxl⟩ := h1
  generalize signs.getD i [] = x at *
  generalize signs.getD j [] = y at *
  have hx0 : Ext w1 (w1.alloc (.cells #[.string ⟨#[36]⟩, .string ⟨#[64]⟩, .string ⟨#[46]⟩, .string ⟨#[44]⟩, .string ⟨#[58]⟩, .string ⟨#[59]⟩, .string ⟨#[63]⟩, .string ⟨#[42]⟩, .string ⟨#[91]⟩, .string ⟨#[93]⟩, .string ⟨#[40]⟩, .string ⟨#[41]⟩, .string ⟨#[123]⟩, .string ⟨#[125]⟩, .string ⟨#[60]⟩, .string ⟨#[62]⟩, .string ⟨#[33]⟩, .string ⟨#[61]⟩, .string ⟨#[43]⟩, .string ⟨#[45]⟩, .string ⟨#[46, 46]⟩, .string ⟨#[61, 61]⟩, .string ⟨#[33, 61]⟩, .string ⟨#[60, 61]⟩, .string ⟨#[62, 61]⟩, .string ⟨#[38, 38]⟩, .string ⟨#[124, 124]⟩, .string ⟨#[58, 61]⟩] 9)) := (ext_refl w1).alloc (Nat.le_refl _) _
  have happ1 := ba_app x [32]
  have happ2 := ba_app (x ++ [32]) y
  have HA := Lib.hid hA
  have H2 := Lib.hid h2
  have HN := Lib.hid hN
  clear hA h2 hN hcs
  have hxb : x.length ≤ 1000000000 := by omega
  go_wp2_with fail
  generalize w1.alloc (.cells #[.string ⟨#[36]⟩, .string ⟨#[64]⟩, .string ⟨#[46]⟩, .string ⟨#[44]⟩, .string ⟨#[58]⟩, .string ⟨#[59]⟩, .string ⟨#[63]⟩, .string ⟨#[42]⟩, .string ⟨#[91]⟩, .string ⟨#[93]⟩, .string ⟨#[40]⟩, .string ⟨#[41]⟩, .string ⟨#[123]⟩, .string ⟨#[125]⟩, .string ⟨#[60]⟩, .string ⟨#[62]⟩, .string ⟨#[33]⟩, .string ⟨#[61]⟩, .string ⟨#[43]⟩, .string ⟨#[45]⟩, .string ⟨#[46, 46]⟩, .string ⟨#[61, 61]⟩, .string ⟨#[33, 61]⟩, .string ⟨#[60, 61]⟩, .string ⟨#[62, 61]⟩, .string ⟨#[38, 38]⟩, .string ⟨#[124, 124]⟩, .string ⟨#[58, 61]⟩] 9) = w2 at *
  have hE2 := ext_trans hw1 hx0
  clear hc1 hc2 hx0 hp hq hpi hqj
  refine (all_any x _ hxb).mono ?_
  rintro e w3 ⟨⟨v, rfl, ht⟩, hw3⟩
  rw [HA.out] at ht ⊢
  simp only at ht ⊢
  obtain ⟨v1, c1, rfl, hcap1⟩ := ht.shape
  obtain ⟨g1, rfl, hg1, hcell1⟩ := ht.at' (by simp [one])
  have k1 := hcell1 0 (by simp [one])
  obtain ⟨kk1, ks1, _⟩ := k1
  simp only [one, List.getElem_cons_zero, Nat.zero_mul, Nat.zero_add] at kk1 ks1
  have hl1 : (one x).length = 1 := rfl
  rw [hl1] at hcap1 ⊢
  have HT1 := Lib.hid ht
  clear hcell1 hl1 ht
  have hxy : (x ++ 32 :: y).length ≤ 1000000000 := by simp; omega
  have H2' : Hid (allP (x ++ 32 :: y) = (two x y, 0)) := by have := H2.out; exact Lib.hid (by simpa using this)
  clear H2
  go_wp2_with fail
  refine (all_any (x ++ 32 :: y) _ hxy).mono ?_
  rintro e w4 ⟨⟨v2, rfl, ht2⟩, hw4⟩
  rw [H2'.out] at ht2 ⊢
  simp only at ht2 ⊢
  obtain ⟨v3, c3, rfl, hcap3⟩ := ht2.shape
  obtain ⟨g3, rfl, hg3, hcell3⟩ := ht2.at' (by simp [two])
  have m0 := hcell3 0 (by simp [two])
  have m1 := hcell3 1 (by simp [two])
  obtain ⟨mk0, ms0, _⟩ := m0
  obtain ⟨mk1, ms1, _⟩ := m1
  simp only [two, List.getElem_cons_zero, List.getElem_cons_succ, Nat.zero_mul, Nat.zero_add, Nat.one_mul] at mk0 ms0 mk1 ms1
  have hl3 : (two x y).length = 2 := rfl
  rw [hl3] at hcap3 ⊢
  clear hcell3 hl3 ht2
  have kk4 := (hw4.cell (p := ⟨g1, 0, none⟩) hg1).trans kk1
  have ks4 := (hw4.cell (p := ⟨g1, 1, none⟩) hg1).trans ks1
  have ms1' : w4.cell? ⟨g3, 8, none⟩ = some (.string ⟨y.toArray⟩) := ms1
  clear ms1 kk1 ks1
  go_wp2_with fail
  refine (isname_any x _ hxb).mono ?_
  rintro e w5 ⟨rfl, hw5⟩
  rw [HN.out]
  go_wp2_with fail
  go_ret
  exact ⟨rfl, ext_trans hE2 (ext_trans hw3 (ext_trans hw4 hw5))⟩
set_option linter.unusedSimpArgs false
theorem own : ownKnob Tryd.prog.godebug = none := by kernel_rfl
theorem laid : laidOutB Tryd.prog = true := by kernel_rfl
set_option maxHeartbeats 1600000 in
set_option maxRecDepth 100000 in
theorem lifted (os : Os) (started : os.Started) (H : Type) (enc : TypeId × Value → H) :
    ReturnsInHanded {} Tryd.checked os 8 .any (fun w args => (Rows.tokenSignsSpec.pre enc Tryd.prog Tryd.f8 [] false w args ∧ laidMetH Tryd.prog Rows.tokenSignsRow.laid w) ∧ sizedMet enc Tryd.prog Tryd.f8 (OpenSpec.ofChange Rows.tokenSignsSpec) false w args) (Rows.tokenSignsSpec.post enc Tryd.prog Tryd.f8 false true false false) := by
  refine returnsInHanded_of_change_and (C := Tryd.checked) (X := fun w _ => laidMetH Tryd.prog Rows.tokenSignsRow.laid w) (fun _ _ _ hh h => h.of_heap hh) own started (by kernel_rfl) Tryd.func8
    (ChangeSpec.witness_shaped (enc := enc) (C := Tryd.checked) (os := os) (X := fun w _ => laidMetH Tryd.prog Rows.tokenSignsRow.laid w) false (World.laidAll Tryd.prog os Rows.tokenSignsRow.laid) #[.int .i64 0, .int .i64 0] 8 (World.laidAll_os _ _ _)
      (World.shaped_of_ZipB (by kernel_rfl) (by kernel_rfl)) (by kernel_rfl) (by kernel_rfl) (by kernel_rfl)
      (by rw [MakeChecks.laidMetH_plain _ _ _ (by kernel_rfl)]; exact laidMet_laidAll _ (by kernel_rfl) (by kernel_rfl))) ?_
  intro W base args ds gs before hval0 hW _ hsz0 _ _
  have hsz : (DataW.weightsEach Tryd.prog (Tryd.f8.params.toList ++ Rows.tokenSignsSpec.plain.varTypes Tryd.prog) (ds ++ gs)).all (· ≤ reachBytes) = true := hsz0
  clear hsz0
  have hval : ∀ (j : Nat) t v, Tryd.f8.params[j]? = some t → args[j]? = some v → Value.okWide Tryd.prog W .any base t v := hval0
  have hW' := hW
  obtain ⟨p, q, hA0, hV, rfl, _, _⟩ := hW
  have hA : DataW.TrodAll enc Tryd.prog W 0 (fun _ => true) true Tryd.f8.params.toList args.toList ds p := hA0
  rw [Tryd.params8] at hA hval hsz
  obtain ⟨v0, vs0, d0, ds0, p0, q0, ha0, rfl, rfl, h0, r0⟩ := trodAll_cons hA
  obtain ⟨v1, vs1, d1, ds1, p1, q1, ha1, rfl, rfl, h1, r1⟩ := trodAll_cons r0
  obtain ⟨hb2, rfl, rfl⟩ := trodAll_nil r1
  subst hb2
  subst ha1
  obtain rfl : args = #[v0, v1] := by cases args; simpa using ha0
  obtain ⟨rfl, rfl⟩ := trodVars_none hV
  have hk0 := h0
  obtain ⟨a0, rfl, rfl, rfl, wf0⟩ := open_int Tryd.underlying3 (hval 0 3 v0 rfl rfl) h0
  have hr0 : -9223372036854775808 ≤ a0 ∧ a0 ≤ 9223372036854775807 := by simpa [Lit.wf, IntKind.min, IntKind.max, IntKind.signed, IntKind.bits] using wf0
  have hk1 := h1
  obtain ⟨a1, rfl, rfl, rfl, wf1⟩ := open_int Tryd.underlying3 (hval 1 3 v1 rfl rfl) h1
  have hr1 : -9223372036854775808 ≤ a1 ∧ a1 ≤ 9223372036854775807 := by simpa [Lit.wf, IntKind.min, IntKind.max, IntKind.signed, IntKind.bits] using wf1
  have hlt := fun x hx => hW'.lt x hx
  simp only [List.append_nil, List.nil_append] at hW' hlt
  refine (walk a0 hr0.1 hr0.2 a1 hr1.1 hr1.2 W ).mono fun e W' ⟨he, hb⟩ => ?_
  subst he
  have hargs := (trodAll_cons_mk (Below.trod laid (by kernel_rfl) (of_decide_eq_true (by kernel_rfl)) hk0 hb (fun x hx => by first | exact hlt x hx | exact absurd hx (List.not_mem_nil) | exact hlt x (by simp [hx]))) (trodAll_cons_mk (Below.trod laid (by kernel_rfl) (of_decide_eq_true (by kernel_rfl)) hk1 hb (fun x hx => by first | exact hlt x hx | exact absurd hx (List.not_mem_nil) | exact hlt x (by simp [hx]))) trodAll_mk0))
  exact ⟨_, rfl, _, _, _, [], _, [], hW', trodAll_cons_mk (shut_bool Tryd.underlying4 _) trodAll_mk0, hargs, rfl, hb.frame _, fun h => by cases h⟩

theorem held : Rows.TokenSignsSaid :=
  OpenClaim.holds_of_wide 8 Tryd.f8 rfl rfl rfl rfl rfl rfl rfl ⟨rfl, rfl, rfl, rfl, rfl⟩ rfl rfl rfl rfl rfl (by kernel_rfl) Tryd.func8 (by kernel_rfl)
    (of_decide_eq_true (by kernel_rfl)) (by unfold Func.isWrapper; first | (rw [if_pos (by decide +kernel)]; kernel_rfl) | (rw [if_neg (by decide +kernel)]; exact ⟨rfl, rfl⟩))
    (fun os started H enc _ => lifted os started H enc)

theorem proved : Rows.TokenSignsCardSaid :=
  Claim7.holds_tied_plain_at .later [] Rows.tokenSignsCard.laidKinds true Rows.tokenSignsCard.stood.harness false held (fun _ h => by cases h) (by kernel_rfl) (fun _ h => by cases h) tokenSigns_row_tie rfl ⟨rfl, rfl⟩ (by kernel_rfl) rfl
    (fun f fn hf hfn => by
      obtain rfl : f = 8 := Option.some.inj ((show Tryd.prog.funcNamed "orangery/orangerylaw15.TokenSigns" = some 8 by kernel_rfl).symm.trans hf) |>.symm
      obtain rfl : fn = Tryd.f8 := (Option.some.inj (Tryd.func8.symm.trans hfn)).symm
      exact ⟨by kernel_rfl, fun j t ht => by
        rw [Tryd.params8] at ht
        have hm : t ∈ [3, 3] := by simpa using Array.mem_of_getElem? ht
        have hall : ([3, 3].all fun u => !Tryd.prog.wantsStandIn u) = true := by kernel_rfl
        exact (show Tryd.prog.wantsStandIn t = false by simpa using List.all_eq_true.1 hall t hm)⟩)
    (by kernel_rfl)
end Go.Proofs.YtglcpfnfldaimaaDoor.tokenSigns
