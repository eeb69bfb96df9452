/- ParseWhites: white ahead of a value, and behind it, says nothing; other bytes behind it are an error, there: whatever the input, the law returns true and the input reads as it did. No condition. -/
import Derived.Test.YtckpndbmpigegaaDoorRows
import Derived.Test.YtckpndbmpigegaaDoorCards
import Derived.Test.YtckpndbmpigegaaDoorTie
import Derived.Test.YtckpndbmpigegaaDoorPaSp
import Derived.Test.YtckpndbmpigegaaDoorPaWh
import Derived.Test.YtckpndbmpigegaaDoorExW
import Derived.Test.YtckpndbmpigegaaDoorFrame
import Derived.ProofKit
import Derived.SizedLaws
import Derived.OpenShut
import Derived.Lay
import Derived.LaidMore
import Derived.SevenTiedAt
import Derived.IntWalk
import Derived.Laws.BitsLemmas
set_option linter.unusedVariables false
set_option linter.unusedSimpArgs false
set_option maxRecDepth 100000
namespace Go.Proofs.YtckpndbmpigegaaDoor.parseWhites
open Go.ChangeShapes Go.WideShapes Go.ChangeAt Go.RowKit Go.Mem Orange

theorem i64_and7 (n : Int) : bits .and .i64 n 7 = n % 8 := by
  have h127 : (BitVec.ofInt 64 7).toNat = 2 ^ 3 - 1 := by decide
  have key : (BitVec.ofInt 64 n &&& BitVec.ofInt 64 7).toNat = (n % ((2 ^ 64 : Nat) : Int)).toNat % 2 ^ 3 := by
    rw [BitVec.toNat_and, BitVec.toNat_ofInt, h127, Nat.and_two_pow_sub_one_eq_mod]
  show IntKind.i64.wrap ((BitVec.ofInt 64 n &&& BitVec.ofInt 64 7).toNat : Nat) = n % 8
  rw [key, IntKind.wrap_i64]
  omega
theorem pick (a : Int) : ∃ p : Nat, bits .and .i64 a 7 = p ∧ p < 8 := by
  exact ⟨(a % 8).toNat, by rw [i64_and7]; omega, by omega⟩
theorem tabs_cut (d : Nat) (h : d < 8) : ByteArray.extract ⟨#[9, 10, 13, 32, 32, 32, 32]⟩ 0 d = ⟨(tabs d).toArray⟩ := by
  have : d = 0 ∨ d = 1 ∨ d = 2 ∨ d = 3 ∨ d = 4 ∨ d = 5 ∨ d = 6 ∨ d = 7 := by omega
  rcases this with rfl | rfl | rfl | rfl | rfl | rfl | rfl | rfl <;> rfl
theorem parseP_le (xs : List UInt8) : (parseP xs).2.2 ≤ xs.length := by
  unfold parseP
  split
  · exact Nat.zero_le _
  · have hf := oneP_fine xs 0
    cases h : oneP xs 0 with
    | err e p => rw [h] at hf; exact hf.2
    | ok t a n =>
      simp only
      split
      · exact whiteN_le _ _
      · exact whiteN_le _ _
-- a value's new variable: $1 its TV, $2 the world behind it's parse, $3 the new world's name, $4 the block's name
set_option maxHeartbeats 12800000 in
theorem walk (v : Value) (xs : List UInt8) (n : Int) (hn0 : -9223372036854775808 ≤ n) (hn1 : n ≤ 9223372036854775807) (c : Int) (hc0 : 0 ≤ c) (hc1 : c ≤ 255) (w : World) (hb : Bytes w v xs) :
    Calls Tryd.prog 4 #[v, .int .i64 n, .int .u8 c] w fun e w' => e = .returned (.bool true) ∧ Ext w w' := by
  obtain ⟨p, hp, hpl⟩ := pick n
  obtain ⟨va, vc, rfl, hnc, hcm, hl47, _⟩ := id hb
  have HB := Lib.hid hb
  clear hb
  go_enter Tryd.func4, Tryd.ntmps4
  go_wp2_with fail
  refine (pawake _).mono ?_
  rintro e w1 ⟨rfl, hw1⟩
  by_cases hlen : 1000 < xs.length
  · have hd : decide (1000 < (xs.length : Int)) = true := by simp; omega
    go_wp2_with fail
    go_ret
    exact ⟨rfl, hw1⟩
  have hd : decide (1000 < (xs.length : Int)) = false := by simp; omega
  go_wp2_with fail
  refine (top_any _ xs _ (HB.out.ext hw1)).mono ?_
  intro e w2 hend
  obtain ⟨ct, rfl, htv, hw2⟩ := hend
  have HERR := Lib.hid (whites_err xs p (by omega))
  have HOK := Lib.hid (whites_ok xs p (by omega))
  have hple := parseP_le xs
  have hcut := tabs_cut p hpl
  have hsl : (tabs p).length = p := by simp [tabs]; omega
  have hswh := Lib.hid (tabs_white p)
  have hsl7 : (tabs p).length ≤ 7 := by omega
  generalize tabs p = s at *
  obtain ⟨T, hT⟩ : ∃ T, parseP xs = T := ⟨_, rfl⟩
  rw [hT] at HERR HOK htv hple ⊢
  clear hT
  obtain ⟨t, er, pl⟩ := T
  simp only at htv HERR HOK hple ⊢
  obtain ⟨k, b, d, ss, la, ln, lc, ma, mn, mc, rfl⟩ := htv.eight
  have hv := VAt.new w2 (cellsV k b d ss (.slice la ln lc) (.slice ma mn mc))
  have hx : Ext w2 (w2.alloc (.cells (cellsV k b d ss (.slice la ln lc) (.slice ma mn mc)) 29)) := (ext_refl w2).alloc (Nat.le_refl _) _
  simp only [cellsV] at hv hx ⊢
  have HW1 := Lib.hid (ext_trans hw1 hw2)
  clear hw1 hw2
  obtain ⟨P, hP⟩ : ∃ P, w2.heap.size = P := ⟨_, rfl⟩
  rw [hP] at hv
  have hp7 : (p : Int) ≤ 7 := by omega
  have hp70 : p ≤ 7 := by omega
  go_upto_region 6 with fail
  have HTV := Lib.hid (htv.keep (A' := fun _ => True) hx.size (fun g _ hlt => ⟨trivial, hx.block g hlt⟩))
  have HE := Lib.hid (ext_trans HW1.out hx)
  have HWZ := Lib.hid (ext_trans HW1.out hx).size
  clear hP htv hx HW1 hcut
  generalize w2.alloc (.cells #[.int .i64 k, .bool b, .bool d.neg, .string ⟨d.digits.toArray⟩, .int .i64 d.exp, .string ⟨ss.toArray⟩, .slice la ln lc, .slice ma mn mc] 29) = w3 at *
  have HV := Lib.hid hv
  clear hv
  obtain ⟨X1, hX1⟩ : ∃ X1, s ++ xs = X1 := ⟨_, rfl⟩
  obtain ⟨X, hX⟩ : ∃ X, X1 ++ s = X := ⟨_, rfl⟩
  have hX1l : X1.length = s.length + xs.length := by rw [← hX1, List.length_append]
  have hXl : X.length = X1.length + s.length := by rw [← hX, List.length_append]
  have hXX : s ++ (xs ++ s) = X := by rw [← hX, ← hX1, List.append_assoc]
  rw [hXX] at HERR HOK
  have hl1 : s.length + xs.length ≤ 140737488355328 := by omega
  have hl2 : X1.length + s.length ≤ 140737488355328 := by omega
  have hl3 : s.length ≤ 140737488355328 := by omega
  have hb3 := HB.out.ext HE.out
  have HX1 := Lib.hid hX1
  have HX := Lib.hid hX
  have HX1L := Lib.hid hX1l
  have HXL := Lib.hid hXl
  clear hX1 hX hX1l hXl hXX hsl
  go_wp2_with (first
    | (refine wpList_appc_of_string w3 rfl _ rfl s rfl hl3 ?_; intro c4 w4 hE4 hap4; have hb4 := hb3.ext hE4)
    | (at_builtin; refine wpList_appc rfl _ _ 22 rfl w3.heap.size _ s rfl hap4 _ xs rfl (hb4.src Tryd.underlying22) hl1 hE4.size ?_; intro g5 c5 w5 hap5 hB5; rw [HX1.out] at hap5; have hs5 := Nat.le_trans hE4.size hB5.size; clear hap4)
    | (at_builtin; refine wpList_appc rfl _ _ 9 rfl w3.heap.size _ X1 rfl hap5 _ s rfl (str_src w5 s) hl2 hs5 ?_; intro g6 c6 w6 hap6 hB6; rw [HX.out] at hap6; clear hap5)
    | fail)
  have hL := HXL.out
  rw [← hL]
  have hb6 := hap6.bytes (by omega)
  rw [← hL] at hb6 hap6
  have hB36 : Below w3.heap.size w3 w6 := (hE4.trans hB5).trans hB6
  have HAP := Lib.hid hap6
  replace HE := Lib.hid (HE.out.trans (hB36.mono HE.out.size))
  replace HV := Lib.hid (HV.out.ext hB36)
  replace HTV := Lib.hid (HTV.out.keep (A' := fun _ => True) hB36.size (fun g _ hlt => ⟨trivial, hB36.block g hlt⟩))
  have HS3 := Lib.hid (Nat.le_trans hs5 hB6.size)
  clear hE4 hB5 hB6 hs5 hap6 hb4 hb3 hL hl1 hl2 hl3 hB36
  refine (top_any _ X _ hb6).mono ?_
  intro e w7 hend
  obtain ⟨ct2, rfl, htv2, hw7⟩ := hend
  clear hb6
  obtain ⟨T2, hT2⟩ : ∃ T2, parseP X = T2 := ⟨_, rfl⟩
  have hp2le := parseP_le X
  rw [hT2] at HERR HOK htv2 hp2le ⊢
  clear hT2
  obtain ⟨t2, er2, pl2⟩ := T2
  simp only at htv2 HERR HOK hp2le ⊢
  obtain ⟨k2, b2, d2, ss2, la2, ln2, lc2, ma2, mn2, mc2, rfl⟩ := htv2.eight
  have hv := VAt.new w7 (cellsV k2 b2 d2 ss2 (.slice la2 ln2 lc2) (.slice ma2 mn2 mc2))
  have hx : Ext w7 (w7.alloc (.cells (cellsV k2 b2 d2 ss2 (.slice la2 ln2 lc2) (.slice ma2 mn2 mc2)) 29)) := (ext_refl w7).alloc (Nat.le_refl _) _
  simp only [cellsV] at hv hx ⊢
  obtain ⟨P2, hP2⟩ : ∃ P2, w7.heap.size = P2 := ⟨_, rfl⟩
  rw [hP2] at hv
  go_upto_region 8 with fail
  replace HAP := Lib.hid ((HAP.out.ext hw7).ext hx)
  have HTV2 := Lib.hid (htv2.keep (A' := fun _ => True) hx.size (fun g _ hlt => ⟨trivial, hx.block g hlt⟩))
  replace HTV := Lib.hid (HTV.out.keep (A' := fun _ => True) (ext_trans hw7 hx).size (fun g _ hlt => ⟨trivial, (ext_trans hw7 hx).block g hlt⟩))
  replace HE := Lib.hid (ext_trans HE.out (ext_trans hw7 hx))
  replace HV := Lib.hid (HV.out.ext (ext_trans hw7 hx))
  replace HS3 := Lib.hid (Nat.le_trans HS3.out (ext_trans hw7 hx).size)
  clear hP2 htv2 hx hw7
  generalize w7.alloc (.cells #[.int .i64 k2, .bool b2, .bool d2.neg, .string ⟨d2.digits.toArray⟩, .int .i64 d2.exp, .string ⟨ss2.toArray⟩, .slice la2 ln2 lc2, .slice ma2 mn2 mc2] 29) = w8 at *
  have HV2 := Lib.hid hv
  clear hv
  have hXb : X.length ≤ 2000 := by have := HXL.out; have := HX1L.out; omega
  by_cases her : er = 0
  · subst her
    have hok := HOK.out rfl
    clear HERR HOK
    obtain ⟨hok1, hok2⟩ := hok
    simp only [Prod.mk.injEq] at hok1
    obtain ⟨rfl, rfl, rfl⟩ := hok1
    have HOK2 := Lib.hid hok2
    clear hok2
    go_upto_region 10 with fail
    have c0 := HV.out.cell 0; have c1 := HV.out.cell 1; have c2 := HV.out.cell 2; have c3 := HV.out.cell 3; have c4 := HV.out.cell 4; have c5 := HV.out.cell 5; have c6 := HV.out.cell 6; have c7 := HV.out.cell 7; have d0 := HV2.out.cell 0; have d1 := HV2.out.cell 1; have d2 := HV2.out.cell 2; have d3 := HV2.out.cell 3; have d4 := HV2.out.cell 4; have d5 := HV2.out.cell 5; have d6 := HV2.out.cell 6; have d7 := HV2.out.cell 7
    simp at c0 c1 c2 c3 c4 c5 c6 c7 d0 d1 d2 d3 d4 d5 d6 d7
    go_wp2_with fail
    refine (exact_any _ _ _ _ _ _ w8 HTV.out HTV2.out).mono ?_
    rintro e w9 ⟨rfl, hB⟩
    rw [exactT_refl]
    clear c0 c1 c2 c3 c4 c5 c6 c7 d0 d1 d2 d3 d4 d5 d6 d7
    replace HAP := Lib.hid (HAP.out.ext hB)
    replace HE := Lib.hid (ext_trans HE.out hB)
    replace HS3 := Lib.hid (Nat.le_trans HS3.out hB.size)
    clear hB HTV HTV2 HV HV2
    obtain ⟨cu, hcu⟩ : ∃ cu : UInt8, c = (cu.toNat : Int) := ⟨UInt8.ofNat c.toNat, by rw [UInt8.toNat_ofNat']; omega⟩
    subst hcu
    by_cases hcw : isWhite cu = true
    · have hcw2 : cu.toNat = 9 ∨ cu.toNat = 10 ∨ cu.toNat = 13 ∨ cu.toNat = 32 := by
        have : ∀ c : Fin 256, isWhite (UInt8.ofFin c) = true → (UInt8.ofFin c).toNat = 9 ∨ (UInt8.ofFin c).toNat = 10 ∨ (UInt8.ofFin c).toNat = 13 ∨ (UInt8.ofFin c).toNat = 32 := by decide +kernel
        exact this cu.toFin hcw
      clear hcw
      rcases hcw2 with h | h | h | h
      · go_wp2_with fail
        go_ret
        exact ⟨rfl, HE.out⟩
      · go_wp2_with fail
        go_ret
        exact ⟨rfl, HE.out⟩
      · go_wp2_with fail
        go_ret
        exact ⟨rfl, HE.out⟩
      · go_wp2_with fail
        go_ret
        exact ⟨rfl, HE.out⟩
    · replace hcw : isWhite cu = false := by simpa using hcw
      have hfin := HOK2.out cu hcw
      have hcn : ((cu.toNat : Int) == 9) = false ∧ ((cu.toNat : Int) == 10) = false ∧ ((cu.toNat : Int) == 13) = false ∧ ((cu.toNat : Int) == 32) = false := by
        have : ∀ c : Fin 256, isWhite (UInt8.ofFin c) = false → (((UInt8.ofFin c).toNat : Int) == 9) = false ∧ (((UInt8.ofFin c).toNat : Int) == 10) = false ∧ (((UInt8.ofFin c).toNat : Int) == 13) = false ∧ (((UInt8.ofFin c).toNat : Int) == 32) = false := by decide +kernel
        exact this cu.toFin hcw
      obtain ⟨n9, n10, n13, n32⟩ := hcn
      clear hcw HOK2
      obtain ⟨Z, hZ⟩ : ∃ Z, X ++ [32, cu] = Z := ⟨_, rfl⟩
      rw [hZ] at hfin
      have HFIN := Lib.hid hfin
      have hZl : Z.length = X.length + 2 := by rw [← hZ, List.length_append]; rfl
      have HZ := Lib.hid hZ
      have HZL := Lib.hid hZl
      clear hfin hZ hZl
      have hx9 : Ext w9 (w9.alloc (.cells #[.int .u8 32, .int .u8 cu.toNat] 5)) := (ext_refl w9).alloc (Nat.le_refl _) _
      have hn9 := bytes_new w9 #[.int .u8 32, .int .u8 cu.toNat] 5 [32, cu] rfl 2 rfl (by omega)
      have hap9 := HAP.out.ext hx9
      have hs9 := Nat.le_trans HS3.out hx9.size
      have hl9 : X.length + [(32 : UInt8), cu].length ≤ 140737488355328 := by simp; omega
      go_wp2_with (first
        | (at_builtin; refine wpList_appc rfl _ _ 22 rfl w3.heap.size _ X rfl hap9 _ [32, cu] rfl (hn9.src Tryd.underlying22) hl9 hs9 ?_; intro g10 c10 w10 hap10 hB10; rw [HZ.out] at hap10)
        | fail)
      have hb10 : Bytes w10 (.slice (some ⟨g10, 0, none⟩) (X.length + 2) c10) Z := hap10.bytes (by have := HZL.out; omega)
      replace HE := Lib.hid ((ext_trans HE.out hx9).trans (hB10.mono HWZ.out))
      clear hap10 hB10 hap9 hs9 hl9 hn9 hx9 HAP HB
      refine (top_any _ Z _ hb10).mono ?_
      intro e w11 hend
      obtain ⟨ct3, rfl, htv3, hw11⟩ := hend
      rw [HFIN.out] at htv3 ⊢
      obtain ⟨ya, yb, yc, yd, rfl⟩ := htv3.shape
      clear htv3 hb10
      simp only [tNull, Num.zero, Tree.kind, Tree.bit, Tree.num, Tree.str, Tree.list, Tree.mems, cellsV, List.length_nil]
      have hE11 := ext_trans HE.out (ext_trans hw11 ((ext_refl w11).alloc (Nat.le_refl _) (.cells #[.int .i64 0, .bool false, .bool false, .string ⟨#[]⟩, .int .i64 0, .string ⟨#[]⟩, .slice ya 0 yb, .slice yc 0 yd] 29)))
      go_upto_region 16 with fail
      generalize w11.alloc (.cells #[.int .i64 0, .bool false, .bool false, .string ⟨#[]⟩, .int .i64 0, .string ⟨#[]⟩, .slice ya 0 yb, .slice yc 0 yd] 29) = w12 at *
      have HE12 := Lib.hid hE11
      clear hE11 hw11
      have e8 : IntKind.i64.wrap (((X.length : Int) + 2) - 1) = ((X.length + 1 : Nat) : Int) := by rw [IntWalk.i64_in _ (by omega)]; omega
      go_wp2_with fail
      go_ret
      exact ⟨rfl, HE12.out⟩
  · have her2 : (er != 0) = true := by simpa using her
    obtain ⟨he1, he2, _, _⟩ := HERR.out her
    subst he1
    clear HERR HOK
    by_cases h1 : pl2 = pl + s.length
    · subst h1
      have e8 : IntKind.i64.wrap ((pl : Int) + (s.length : Int)) = ((pl + s.length : Nat) : Int) := by rw [IntWalk.i64_in _ (by omega)]; omega
      go_wp2_with fail
      go_ret
      exact ⟨rfl, HE.out⟩
    · obtain rfl : pl2 = X.length := by rcases he2 with h | h; exact absurd h h1; exact h
      have hne : ((X.length : Int) == ((pl + s.length : Nat) : Int)) = false := by simp; omega
      have e8 : IntKind.i64.wrap ((pl : Int) + (s.length : Int)) = ((pl + s.length : Nat) : Int) := by rw [IntWalk.i64_in _ (by omega)]; omega
      go_wp2_with fail
      go_ret
      exact ⟨rfl, HE.out⟩
set_option linter.unusedSimpArgs false
theorem own : ownKnob Tryd.prog.godebug = none := by kernel_rfl
theorem laid : laidOutB Tryd.prog = true := by kernel_rfl
theorem cells1 : Tryd.prog.cellsOf 5 = 1 := by kernel_rfl
theorem bytes1 : Tryd.prog.bytesOf 5 = 1 := by kernel_rfl
set_option maxHeartbeats 1600000 in
set_option maxRecDepth 100000 in
theorem lifted (os : Os) (started : os.Started) (H : Type) (enc : TypeId × Value → H) :
    ReturnsInHanded {} Tryd.checked os 4 .any (fun w args => (Rows.parseWhitesSpec.pre enc Tryd.prog Tryd.f4 [] false w args ∧ laidMetH Tryd.prog Rows.parseWhitesRow.laid w) ∧ sizedMet enc Tryd.prog Tryd.f4 (OpenSpec.ofChange Rows.parseWhitesSpec) false w args) (Rows.parseWhitesSpec.post enc Tryd.prog Tryd.f4 false true false false) := by
  refine returnsInHanded_of_change_and (C := Tryd.checked) (X := fun w _ => laidMetH Tryd.prog Rows.parseWhitesRow.laid w) (fun _ _ _ hh h => h.of_heap hh) own started (by kernel_rfl) Tryd.func4
    (ChangeSpec.witness_shaped (enc := enc) (C := Tryd.checked) (os := os) (X := fun w _ => laidMetH Tryd.prog Rows.parseWhitesRow.laid w) false (World.laidAll Tryd.prog os Rows.parseWhitesRow.laid) #[.slice none 0 0, .int .i64 0, .int .u8 0] 8 (World.laidAll_os _ _ _)
      (World.shaped_of_ZipB (by kernel_rfl) (by kernel_rfl)) (by kernel_rfl) (by kernel_rfl) (by kernel_rfl)
      (by rw [MakeChecks.laidMetH_plain _ _ _ (by kernel_rfl)]; exact laidMet_laidAll _ (by kernel_rfl) (by kernel_rfl))) ?_
  intro W base args ds gs before hval0 hW _ hsz0 _ _
  have hsz : (DataW.weightsEach Tryd.prog (Tryd.f4.params.toList ++ Rows.parseWhitesSpec.plain.varTypes Tryd.prog) (ds ++ gs)).all (· ≤ reachBytes) = true := hsz0
  clear hsz0
  have hval : ∀ (j : Nat) t v, Tryd.f4.params[j]? = some t → args[j]? = some v → Value.okWide Tryd.prog W .any base t v := hval0
  have hW' := hW
  obtain ⟨p, q, hA0, hV, rfl, _, _⟩ := hW
  have hA : DataW.TrodAll enc Tryd.prog W 0 (fun _ => true) true Tryd.f4.params.toList args.toList ds p := hA0
  rw [Tryd.params4] at hA hval hsz
  obtain ⟨v0, vs0, d0, ds0, p0, q0, ha0, rfl, rfl, h0, r0⟩ := trodAll_cons hA
  obtain ⟨v1, vs1, d1, ds1, p1, q1, ha1, rfl, rfl, h1, r1⟩ := trodAll_cons r0
  obtain ⟨v2, vs2, d2, ds2, p2, q2, ha2, rfl, rfl, h2, r2⟩ := trodAll_cons r1
  obtain ⟨hb3, rfl, rfl⟩ := trodAll_nil r2
  subst hb3
  subst ha2
  subst ha1
  obtain rfl : args = #[v0, v1, v2] := by cases args; simpa using ha0
  obtain ⟨rfl, rfl⟩ := trodVars_none hV
  have hk0 := h0
  obtain ⟨a0, len0, cap0, rfl⟩ := okWide_slice Tryd.underlying22 (hval 0 22 v0 rfl rfl)
  obtain ⟨xs0, hx0⟩ := bytes_of_trod Tryd.underlying22 Tryd.underlying5 cells1 h0 (fun elems spare e => by subst e; have := sized_slice hsz (j := 0) rfl rfl Tryd.underlying22; rw [bytes1] at this; simp only [reachBytes] at this; omega)
  have hk1 := h1
  obtain ⟨a1, rfl, rfl, rfl, wf1⟩ := open_int Tryd.underlying3 (hval 1 3 v1 rfl rfl) h1
  have hr1 : -9223372036854775808 ≤ a1 ∧ a1 ≤ 9223372036854775807 := by simpa [Lit.wf, IntKind.min, IntKind.max, IntKind.signed, IntKind.bits] using wf1
  have hk2 := h2
  obtain ⟨a2, rfl, rfl, rfl, wf2⟩ := open_int Tryd.underlying5 (hval 2 5 v2 rfl rfl) h2
  have hr2 : 0 ≤ a2 ∧ a2 ≤ 255 := by simpa [Lit.wf, IntKind.min, IntKind.max, IntKind.signed, IntKind.bits] using wf2
  have hlt := fun x hx => hW'.lt x hx
  simp only [List.append_nil, List.nil_append] at hW' hlt
  refine (walk _ xs0 a1 hr1.1 hr1.2 a2 hr2.1 hr2.2 W hx0).mono fun e W' ⟨he, hb⟩ => ?_
  subst he
  have hargs := (trodAll_cons_mk (Below.trod laid (by kernel_rfl) (of_decide_eq_true (by kernel_rfl)) hk0 hb (fun x hx => by first | exact hlt x hx | exact absurd hx (List.not_mem_nil) | exact hlt x (by simp [hx]))) (trodAll_cons_mk (Below.trod laid (by kernel_rfl) (of_decide_eq_true (by kernel_rfl)) hk1 hb (fun x hx => by first | exact hlt x hx | exact absurd hx (List.not_mem_nil) | exact hlt x (by simp [hx]))) (trodAll_cons_mk (Below.trod laid (by kernel_rfl) (of_decide_eq_true (by kernel_rfl)) hk2 hb (fun x hx => by first | exact hlt x hx | exact absurd hx (List.not_mem_nil) | exact hlt x (by simp [hx]))) trodAll_mk0)))
  exact ⟨_, rfl, _, _, _, [], _, [], hW', trodAll_cons_mk (shut_bool Tryd.underlying4 _) trodAll_mk0, hargs, rfl, hb.frame _, fun h => by cases h⟩

theorem held : Rows.ParseWhitesSaid :=
  OpenClaim.holds_of_wide 4 Tryd.f4 rfl rfl rfl rfl rfl rfl rfl ⟨rfl, rfl, rfl, rfl, rfl⟩ rfl rfl rfl rfl rfl (by kernel_rfl) Tryd.func4 (by kernel_rfl)
    (of_decide_eq_true (by kernel_rfl)) (by unfold Func.isWrapper; first | (rw [if_pos (by decide +kernel)]; kernel_rfl) | (rw [if_neg (by decide +kernel)]; exact ⟨rfl, rfl⟩))
    (fun os started H enc _ => lifted os started H enc)

theorem proved : Rows.ParseWhitesCardSaid :=
  Claim7.holds_tied_plain_at .later [] Rows.parseWhitesCard.laidKinds true Rows.parseWhitesCard.stood.harness Rows.parseWhitesCard.stood.looks held (fun _ h => by cases h) (by kernel_rfl) (fun _ h => by cases h) parseWhites_row_tie rfl ⟨rfl, rfl⟩ (by kernel_rfl) rfl
    (fun f fn hf hfn => by
      obtain rfl : f = 4 := Option.some.inj ((show Tryd.prog.funcNamed "orangery/orangerylaw04.ParseWhites" = some 4 by kernel_rfl).symm.trans hf) |>.symm
      obtain rfl : fn = Tryd.f4 := (Option.some.inj (Tryd.func4.symm.trans hfn)).symm
      exact ⟨by kernel_rfl, fun j t ht => by
        rw [Tryd.params4] at ht
        have hm : t ∈ [22, 3, 5] := by simpa using Array.mem_of_getElem? ht
        have hall : ([22, 3, 5].all fun u => !Tryd.prog.wantsStandIn u) = true := by kernel_rfl
        exact (show Tryd.prog.wantsStandIn t = false by simpa using List.all_eq_true.1 hall t hm)⟩)
    (by kernel_rfl)
end Go.Proofs.YtckpndbmpigegaaDoor.parseWhites
