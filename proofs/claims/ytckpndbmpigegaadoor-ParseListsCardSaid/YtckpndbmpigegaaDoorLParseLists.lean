/- ParseLists: values' texts with commas between, in brackets, are an array of these; with names ahead an object: whatever the input, the law returns true and the input reads as it did. No condition. -/
import Derived.Test.YtckpndbmpigegaaDoorRows
import Derived.Test.YtckpndbmpigegaaDoorCards
import Derived.Test.YtckpndbmpigegaaDoorTie
import Derived.Test.YtckpndbmpigegaaDoorPaZ
import Derived.Test.YtckpndbmpigegaaDoorPaLi
import Derived.Test.YtckpndbmpigegaaDoorExW
import Derived.Test.YtckpndbmpigegaaDoorFrame
import Derived.ProofKit
import Derived.SizedLaws
import Derived.OpenShut
import Derived.Lay
import Derived.LaidMore
import Derived.SevenTiedAt
import Derived.IntWalk
set_option linter.unusedVariables false
set_option linter.unusedSimpArgs false
set_option maxRecDepth 100000
namespace Go.Proofs.YtckpndbmpigegaaDoor.parseLists
open Go.ChangeShapes Go.WideShapes Go.ChangeAt Go.RowKit Go.Mem Orange

theorem tv_rows {w : World} {A : Nat → Prop} {t : Tree} {k : Int} {b : Bool} {d : Num} {s : List UInt8} {vL vM : Value} (h : TV w A t (cellsV k b d s vL vM)) : ∃ cl cm, TL w A t.list cl ∧ RowAt w A 8 vL t.list.length cl ∧ TM w A t.mems cm ∧ RowAt w A 9 vM t.mems.length cm ∧ k = t.kind := by
  generalize hc : cellsV k b d s vL vM = c at h
  cases h with
  | mk h1 h2 h3 h4 =>
    simp only [cellsV, Array.mk.injEq, List.cons.injEq, Value.int.injEq, and_true, true_and] at hc
    obtain ⟨rfl, _, _, _, _, _, rfl, rfl⟩ := hc
    exact ⟨_, _, h1, h2, h3, h4, rfl⟩
-- one read: $1 facts
-- a call of Exact: $1, $2 the TV facts (at w9)
-- the two conversions of a region: $1 the world; $2 the text to parse; $3 its size's fact; bytes HB1 (xs), HB2 (ys)
set_option maxHeartbeats 12800000 in
theorem walk (v : Value) (xs : List UInt8) (u : Value) (ys : List UInt8) (w : World) (hb : Bytes w v xs) (hbu : Bytes w u ys) :
    Calls Tryd.prog 6 #[v, u] w fun e w' => e = .returned (.bool true) ∧ Ext w w' := by
  obtain ⟨va, vc, rfl, hnc, hcm, hl47, _⟩ := id hb
  obtain ⟨ua, uc, rfl, huc, hum, hu47, _⟩ := id hbu
  have HB := Lib.hid hb
  have HU := Lib.hid hbu
  clear hb hbu
  go_enter Tryd.func6, Tryd.ntmps6
  go_wp2_with fail
  refine (pawake _).mono ?_
  rintro e w1 ⟨rfl, hw1⟩
  have hadd : IntKind.i64.wrap ((xs.length : Int) + (ys.length : Int)) = ((xs.length + ys.length : Nat) : Int) := by rw [IntWalk.i64_in _ (by omega)]; omega
  by_cases hlen : 1000 < xs.length + ys.length
  · have hd : decide (1000 < ((xs.length + ys.length : Nat) : Int)) = true := by simp; omega
    go_wp2_with fail
    go_ret
    exact ⟨rfl, hw1⟩
  have hd : decide (1000 < ((xs.length + ys.length : Nat) : Int)) = false := by simp; omega
  go_wp2_with fail
  refine (top_any _ xs _ (HB.out.ext hw1)).mono ?_
  intro e w2 hend
  obtain ⟨ct, rfl, htv, hw2⟩ := hend
  have HLAW := Lib.hid (fun h1 h2 => lists_law xs ys (by omega) h1 h2)
  obtain ⟨T, hT⟩ : ∃ T, parseP xs = T := ⟨_, rfl⟩
  rw [hT] at HLAW htv ⊢
  clear hT
  obtain ⟨t, er, pl⟩ := T
  simp only at htv HLAW ⊢
  obtain ⟨k, b, d, ss, la, ln, lc, ma, mn, mc, rfl⟩ := htv.eight
  have hv := VAt.new w2 (cellsV k b d ss (.slice la ln lc) (.slice ma mn mc))
  have hx : Ext w2 (w2.alloc (.cells (cellsV k b d ss (.slice la ln lc) (.slice ma mn mc)) 29)) := (ext_refl w2).alloc (Nat.le_refl _) _
  simp only [cellsV] at hv hx ⊢
  obtain ⟨P, hP⟩ : ∃ P, w2.heap.size = P := ⟨_, rfl⟩
  rw [hP] at hv
  go_upto_region 5 with fail
  have HTV := Lib.hid (htv.keep (A' := fun _ => True) hx.size (fun g _ hlt => ⟨trivial, hx.block g hlt⟩))
  have HE := Lib.hid (ext_trans (ext_trans hw1 hw2) hx)
  clear hP htv hx hw1 hw2 hadd hd
  generalize w2.alloc (.cells #[.int .i64 k, .bool b, .bool d.neg, .string ⟨d.digits.toArray⟩, .int .i64 d.exp, .string ⟨ss.toArray⟩, .slice la ln lc, .slice ma mn mc] 29) = w3 at *
  have HV := Lib.hid hv
  clear hv
  go_wp2_with fail
  refine (top_any _ ys _ (HU.out.ext HE.out)).mono ?_
  intro e w4 hend
  obtain ⟨ct2, rfl, htv2, hw4⟩ := hend
  obtain ⟨T2, hT2⟩ : ∃ T2, parseP ys = T2 := ⟨_, rfl⟩
  rw [hT2] at HLAW htv2 ⊢
  clear hT2
  obtain ⟨t2, er2, pl2⟩ := T2
  simp only at htv2 HLAW ⊢
  obtain ⟨k2, b2, d2, ss2, la2, ln2, lc2, ma2, mn2, mc2, rfl⟩ := htv2.eight
  have hv := VAt.new w4 (cellsV k2 b2 d2 ss2 (.slice la2 ln2 lc2) (.slice ma2 mn2 mc2))
  have hx : Ext w4 (w4.alloc (.cells (cellsV k2 b2 d2 ss2 (.slice la2 ln2 lc2) (.slice ma2 mn2 mc2)) 29)) := (ext_refl w4).alloc (Nat.le_refl _) _
  simp only [cellsV] at hv hx ⊢
  obtain ⟨P2, hP2⟩ : ∃ P2, w4.heap.size = P2 := ⟨_, rfl⟩
  rw [hP2] at hv
  go_upto_region 6 with fail
  have HTV2 := Lib.hid (htv2.keep (A' := fun _ => True) hx.size (fun g _ hlt => ⟨trivial, hx.block g hlt⟩))
  replace HTV := Lib.hid (HTV.out.keep (A' := fun _ => True) (ext_trans hw4 hx).size (fun g _ hlt => ⟨trivial, (ext_trans hw4 hx).block g hlt⟩))
  replace HE := Lib.hid (ext_trans HE.out (ext_trans hw4 hx))
  replace HV := Lib.hid (HV.out.ext (ext_trans hw4 hx))
  clear hP2 htv2 hx hw4
  generalize w4.alloc (.cells #[.int .i64 k2, .bool b2, .bool d2.neg, .string ⟨d2.digits.toArray⟩, .int .i64 d2.exp, .string ⟨ss2.toArray⟩, .slice la2 ln2 lc2, .slice ma2 mn2 mc2] 29) = w5 at *
  have HV2 := Lib.hid hv
  clear hv
  by_cases her : ¬ er = 0
  · have her1 : (er != 0) = true := by simpa using her
    go_wp2_with fail
    go_ret
    exact ⟨rfl, HE.out⟩
  replace her : er = 0 := Decidable.of_not_not her
  subst her
  by_cases her2 : ¬ er2 = 0
  · have her1 : (er2 != 0) = true := by simpa using her2
    go_wp2_with fail
    go_ret
    exact ⟨rfl, HE.out⟩
  replace her2 : er2 = 0 := Decidable.of_not_not her2
  subst her2
  have HL := Lib.hid (HLAW.out rfl rfl)
  clear HLAW
  -- the list's text
  have ba1 := ba_app [91] xs
  have ba2 := ba_app ([91] ++ xs) [44]
  have ba3 := ba_app ([91] ++ xs ++ [44]) ys
  have ba4 := ba_app ([91] ++ xs ++ [44] ++ ys) [93]
  obtain ⟨S1, hS1⟩ : ∃ S1, [91] ++ xs = S1 := ⟨_, rfl⟩
  rw [hS1] at ba1 ba2 ba3 ba4
  obtain ⟨S2, hS2⟩ : ∃ S2, S1 ++ [44] = S2 := ⟨_, rfl⟩
  rw [hS2] at ba2 ba3 ba4
  obtain ⟨S3, hS3⟩ : ∃ S3, S2 ++ ys = S3 := ⟨_, rfl⟩
  rw [hS3] at ba3 ba4
  obtain ⟨S4, hS4⟩ : ∃ S4, S3 ++ [93] = S4 := ⟨_, rfl⟩
  rw [hS4] at ba4
  have hl4 : S4.length ≤ 2000 := by rw [← hS4, ← hS3, ← hS2, ← hS1]; simp; omega
  have hLT : lText xs ys = S4 := by rw [← hS4, ← hS3, ← hS2, ← hS1]; simp [lText]
  rw [hLT] at HL
  have hl1 : S1.length ≤ 2000 := by rw [← hS1]; simp; omega
  have hl2 : S2.length ≤ 2000 := by rw [← hS2, ← hS1]; simp; omega
  have hl3 : S3.length ≤ 2000 := by rw [← hS3, ← hS2, ← hS1]; simp; omega
  have hc1 : ¬ 9223372036854775807 < 1 + xs.length := by omega
  have hc2 : ¬ 9223372036854775807 < S1.length + 1 := by omega
  have hc3 : ¬ 9223372036854775807 < S2.length + ys.length := by omega
  have hc4 : ¬ 9223372036854775807 < S3.length + 1 := by omega
  have hs4 : (ByteArray.mk S4.toArray).size ≤ 140737488355328 := by rw [sx_size]; omega
  have hb1 := HB.out.ext HE.out
  have hb2 := HU.out.ext HE.out
  clear hS1 hS2 hS3 hS4 hLT
  go_wp2_with (first
    | (refine wpList_string_of_bytes w5 rfl 22 9 5 _ rfl _ xs rfl hb1 Tryd.underlying22 Tryd.underlying5 Tryd.underlying9 ?_)
    | (refine wpList_string_of_bytes w5 rfl 22 9 5 _ rfl _ ys rfl hb2 Tryd.underlying22 Tryd.underlying5 Tryd.underlying9 ?_)
    | (refine wpList_bytes_of_string w5 rfl 9 22 5 _ rfl ⟨(S4).toArray⟩ rfl Tryd.underlying9 Tryd.underlying22 Tryd.underlying5 hs4 ?_; intro capA wA hEA hcapA hcmA hszA hatA)
    | fail)
  rw [sx_size] at hcapA
  clear ba1 ba2 ba3 ba4 hc1 hc2 hc3 hc4 hb1 hb2
  refine (top_any _ S4 _ (Bytes.mk hatA rfl hcapA hcmA (by omega))).mono ?_
  intro e w6 hend
  obtain ⟨ct3, rfl, htv3, hw6⟩ := hend
  replace hw6 := ext_trans hEA hw6
  clear hEA hatA hcapA hcmA hszA hs4
  obtain ⟨T3, hT3⟩ : ∃ T3, parseP S4 = T3 := ⟨_, rfl⟩
  rw [hT3] at HL htv3 ⊢
  clear hT3
  obtain ⟨t3, er3, pl3⟩ := T3
  simp only at htv3 HL ⊢
  obtain ⟨k3, b3, d3, ss3, la3, ln3, lc3, ma3, mn3, mc3, rfl⟩ := htv3.eight
  have hv := VAt.new w6 (cellsV k3 b3 d3 ss3 (.slice la3 ln3 lc3) (.slice ma3 mn3 mc3))
  have hx : Ext w6 (w6.alloc (.cells (cellsV k3 b3 d3 ss3 (.slice la3 ln3 lc3) (.slice ma3 mn3 mc3)) 29)) := (ext_refl w6).alloc (Nat.le_refl _) _
  simp only [cellsV] at hv hx ⊢
  obtain ⟨P3, hP3⟩ : ∃ P3, w6.heap.size = P3 := ⟨_, rfl⟩
  rw [hP3] at hv
  go_upto_region 9 with fail
  have HTV3 := Lib.hid (htv3.keep (A' := fun _ => True) hx.size (fun g _ hlt => ⟨trivial, hx.block g hlt⟩))
  replace HTV := Lib.hid (HTV.out.keep (A' := fun _ => True) (ext_trans hw6 hx).size (fun g _ hlt => ⟨trivial, (ext_trans hw6 hx).block g hlt⟩))
  replace HTV2 := Lib.hid (HTV2.out.keep (A' := fun _ => True) (ext_trans hw6 hx).size (fun g _ hlt => ⟨trivial, (ext_trans hw6 hx).block g hlt⟩))
  replace HE := Lib.hid (ext_trans HE.out (ext_trans hw6 hx))
  replace HV := Lib.hid (HV.out.ext (ext_trans hw6 hx))
  replace HV2 := Lib.hid (HV2.out.ext (ext_trans hw6 hx))
  clear hP3 htv3 hx hw6
  generalize w6.alloc (.cells #[.int .i64 k3, .bool b3, .bool d3.neg, .string ⟨d3.digits.toArray⟩, .int .i64 d3.exp, .string ⟨ss3.toArray⟩, .slice la3 ln3 lc3, .slice ma3 mn3 mc3] 29) = w7 at *
  have HV3 := Lib.hid hv
  clear hv
  -- the object's text
  have ba1 := ba_app [123, 34, 121, 34, 58] xs
  have ba2 := ba_app ([123, 34, 121, 34, 58] ++ xs) [44, 34, 120, 34, 58]
  have ba3 := ba_app ([123, 34, 121, 34, 58] ++ xs ++ [44, 34, 120, 34, 58]) ys
  have ba4 := ba_app ([123, 34, 121, 34, 58] ++ xs ++ [44, 34, 120, 34, 58] ++ ys) [125]
  obtain ⟨R1, hR1⟩ : ∃ R1, [123, 34, 121, 34, 58] ++ xs = R1 := ⟨_, rfl⟩
  rw [hR1] at ba1 ba2 ba3 ba4
  obtain ⟨R2, hR2⟩ : ∃ R2, R1 ++ [44, 34, 120, 34, 58] = R2 := ⟨_, rfl⟩
  rw [hR2] at ba2 ba3 ba4
  obtain ⟨R3, hR3⟩ : ∃ R3, R2 ++ ys = R3 := ⟨_, rfl⟩
  rw [hR3] at ba3 ba4
  obtain ⟨R4, hR4⟩ : ∃ R4, R3 ++ [125] = R4 := ⟨_, rfl⟩
  rw [hR4] at ba4
  have hm4 : R4.length ≤ 2000 := by rw [← hR4, ← hR3, ← hR2, ← hR1]; simp; omega
  have hOT : oText xs ys = R4 := by rw [← hR4, ← hR3, ← hR2, ← hR1]; simp [oText]
  rw [hOT] at HL
  have hm1 : R1.length ≤ 2000 := by rw [← hR1]; simp; omega
  have hm2 : R2.length ≤ 2000 := by rw [← hR2, ← hR1]; simp; omega
  have hm3 : R3.length ≤ 2000 := by rw [← hR3, ← hR2, ← hR1]; simp; omega
  have hc1 : ¬ 9223372036854775807 < 5 + xs.length := by omega
  have hc2 : ¬ 9223372036854775807 < R1.length + 5 := by omega
  have hc3 : ¬ 9223372036854775807 < R2.length + ys.length := by omega
  have hc4 : ¬ 9223372036854775807 < R3.length + 1 := by omega
  have hs4 : (ByteArray.mk R4.toArray).size ≤ 140737488355328 := by rw [sx_size]; omega
  have hb1 := HB.out.ext HE.out
  have hb2 := HU.out.ext HE.out
  clear hR1 hR2 hR3 hR4 hOT
  go_wp2_with (first
    | (refine wpList_string_of_bytes w7 rfl 22 9 5 _ rfl _ xs rfl hb1 Tryd.underlying22 Tryd.underlying5 Tryd.underlying9 ?_)
    | (refine wpList_string_of_bytes w7 rfl 22 9 5 _ rfl _ ys rfl hb2 Tryd.underlying22 Tryd.underlying5 Tryd.underlying9 ?_)
    | (refine wpList_bytes_of_string w7 rfl 9 22 5 _ rfl ⟨(R4).toArray⟩ rfl Tryd.underlying9 Tryd.underlying22 Tryd.underlying5 hs4 ?_; intro capA wA hEA hcapA hcmA hszA hatA)
    | fail)
  rw [sx_size] at hcapA
  clear ba1 ba2 ba3 ba4 hc1 hc2 hc3 hc4 hb1 hb2
  refine (top_any _ R4 _ (Bytes.mk hatA rfl hcapA hcmA (by omega))).mono ?_
  intro e w8 hend
  obtain ⟨ct4, rfl, htv4, hw8⟩ := hend
  replace hw8 := ext_trans hEA hw8
  clear hEA hatA hcapA hcmA hszA hs4
  obtain ⟨T4, hT4⟩ : ∃ T4, parseP R4 = T4 := ⟨_, rfl⟩
  rw [hT4] at HL htv4 ⊢
  clear hT4
  obtain ⟨t4, er4, pl4⟩ := T4
  simp only at htv4 HL ⊢
  obtain ⟨k4, b4, d4, ss4, la4, ln4, lc4, ma4, mn4, mc4, rfl⟩ := htv4.eight
  have hv := VAt.new w8 (cellsV k4 b4 d4 ss4 (.slice la4 ln4 lc4) (.slice ma4 mn4 mc4))
  have hx : Ext w8 (w8.alloc (.cells (cellsV k4 b4 d4 ss4 (.slice la4 ln4 lc4) (.slice ma4 mn4 mc4)) 29)) := (ext_refl w8).alloc (Nat.le_refl _) _
  simp only [cellsV] at hv hx ⊢
  obtain ⟨P4, hP4⟩ : ∃ P4, w8.heap.size = P4 := ⟨_, rfl⟩
  rw [hP4] at hv
  go_upto_region 10 with fail
  have HTV4 := Lib.hid (htv4.keep (A' := fun _ => True) hx.size (fun g _ hlt => ⟨trivial, hx.block g hlt⟩))
  replace HTV := Lib.hid (HTV.out.keep (A' := fun _ => True) (ext_trans hw8 hx).size (fun g _ hlt => ⟨trivial, (ext_trans hw8 hx).block g hlt⟩))
  replace HTV2 := Lib.hid (HTV2.out.keep (A' := fun _ => True) (ext_trans hw8 hx).size (fun g _ hlt => ⟨trivial, (ext_trans hw8 hx).block g hlt⟩))
  replace HTV3 := Lib.hid (HTV3.out.keep (A' := fun _ => True) (ext_trans hw8 hx).size (fun g _ hlt => ⟨trivial, (ext_trans hw8 hx).block g hlt⟩))
  replace HE := Lib.hid (ext_trans HE.out (ext_trans hw8 hx))
  replace HV := Lib.hid (HV.out.ext (ext_trans hw8 hx))
  replace HV2 := Lib.hid (HV2.out.ext (ext_trans hw8 hx))
  replace HV3 := Lib.hid (HV3.out.ext (ext_trans hw8 hx))
  clear hP4 htv4 hx hw8
  generalize w8.alloc (.cells #[.int .i64 k4, .bool b4, .bool d4.neg, .string ⟨d4.digits.toArray⟩, .int .i64 d4.exp, .string ⟨ss4.toArray⟩, .slice la4 ln4 lc4, .slice ma4 mn4 mc4] 29) = w9 at *
  have HV4 := Lib.hid hv
  clear hv
  rcases HL.out with ⟨e, he, rfl, rfl, _, _⟩ | ⟨h3, h4⟩
  · clear HL
    rcases he with rfl | rfl
    · go_wp2_with fail
      go_ret
      exact ⟨rfl, HE.out⟩
    · go_wp2_with fail
      go_ret
      exact ⟨rfl, HE.out⟩
  · simp only [Prod.mk.injEq] at h3 h4
    obtain ⟨rfl, rfl, rfl⟩ := h3
    obtain ⟨rfl, rfl, rfl⟩ := h4
    clear HL
    obtain ⟨cl, _, htl, hrl, _, _, rfl⟩ := tv_rows HTV3.out
    obtain ⟨_, cm, _, _, htm, hrm, rfl⟩ := tv_rows HTV4.out
    obtain ⟨hrl0, a0, c0, ea, _⟩ := id hrl
    simp only [Value.slice.injEq] at ea
    obtain ⟨rfl, rfl, rfl⟩ := ea
    obtain ⟨hrm0, a1, c1, ea, _⟩ := id hrm
    simp only [Value.slice.injEq] at ea
    obtain ⟨rfl, rfl, rfl⟩ := ea
    obtain ⟨g, o, rfl, hgl, hgc⟩ := hrl.cells (Nat.succ_pos 1)
    obtain ⟨g', o', rfl, hgl', hgc'⟩ := hrm.cells (Nat.succ_pos 1)
    have hq0 : 0 < (tArr [t, t2]).list.length := Nat.succ_pos 1
    have hq1 : 1 < (tArr [t, t2]).list.length := Nat.lt_succ_self 1
    have hq2 : 0 < (tObj [([121], t), ([120], t2)]).mems.length := Nat.succ_pos 1
    have hq3 : 1 < (tObj [([121], t), ([120], t2)]).mems.length := Nat.lt_succ_self 1
    obtain ⟨X0, hX0, hc0⟩ := htl.at 0 hq0
    obtain ⟨X1, hX1, hc1⟩ := htl.at 1 hq1
    obtain ⟨Y0, hY0, hk0, hd0⟩ := htm.at 0 hq2
    obtain ⟨Y1, hY1, hk1, hd1⟩ := htm.at 1 hq3
    obtain ⟨xk, xb, xd, xs1, xa1, xn1, xc1, xa2, xn2, xc2, rfl⟩ := hX0.eight
    obtain ⟨yk, yb, yd, ys1, ya1, yn1, yc1, ya2, yn2, yc2, rfl⟩ := hX1.eight
    obtain ⟨zk, zb, zd, zs1, za1, zn1, zc1, za2, zn2, zc2, rfl⟩ := hY0.eight
    obtain ⟨uk, ub, ud, us1, ua1, un1, uc1, ua2, un2, uc2, rfl⟩ := hY1.eight
    have HX0 : Hid (TV w9 (fun _ => True) t (cellsV xk xb xd xs1 (.slice xa1 xn1 xc1) (.slice xa2 xn2 xc2))) := Lib.hid hX0
    have HX1 : Hid (TV w9 (fun _ => True) t2 (cellsV yk yb yd ys1 (.slice ya1 yn1 yc1) (.slice ya2 yn2 yc2))) := Lib.hid hX1
    have HY0 : Hid (TV w9 (fun _ => True) t (cellsV zk zb zd zs1 (.slice za1 zn1 zc1) (.slice za2 zn2 zc2))) := Lib.hid hY0
    have HY1 : Hid (TV w9 (fun _ => True) t2 (cellsV uk ub ud us1 (.slice ua1 un1 uc1) (.slice ua2 un2 uc2))) := Lib.hid hY1
    have RX0 : Hid (∀ w', Ext w9 w' → ∀ j u, (cellsV xk xb xd xs1 (.slice xa1 xn1 xc1) (.slice xa2 xn2 xc2))[j]? = some u → w'.cell? ⟨g, o + j, none⟩ = some u) := Lib.hid (fun w' hw j u hu => by
      have hj : j < 8 := by have := (Array.getElem?_eq_some_iff.1 hu).1; simpa using this
      rw [hw.cell (p := ⟨g, o + j, none⟩) hgl]
      exact hgc _ _ (by have := hc0 j hj; rw [show 0 * 8 + j = j by omega] at this; exact this.trans hu))
    have RX1 : Hid (∀ w', Ext w9 w' → ∀ j u, (cellsV yk yb yd ys1 (.slice ya1 yn1 yc1) (.slice ya2 yn2 yc2))[j]? = some u → w'.cell? ⟨g, o + 8 + j, none⟩ = some u) := Lib.hid (fun w' hw j u hu => by
      have hj : j < 8 := by have := (Array.getElem?_eq_some_iff.1 hu).1; simpa using this
      rw [Nat.add_assoc, hw.cell (p := ⟨g, o + (8 + j), none⟩) hgl]
      exact hgc _ _ (by have := hc1 j hj; rw [show 1 * 8 + j = 8 + j by omega] at this; exact this.trans hu))
    have RY0 : Hid (∀ w', Ext w9 w' → ∀ j u, (cellsV zk zb zd zs1 (.slice za1 zn1 zc1) (.slice za2 zn2 zc2))[j]? = some u → w'.cell? ⟨g', o' + 1 + j, none⟩ = some u) := Lib.hid (fun w' hw j u hu => by
      have hj : j < 8 := by have := (Array.getElem?_eq_some_iff.1 hu).1; simpa using this
      rw [Nat.add_assoc, hw.cell (p := ⟨g', o' + (1 + j), none⟩) hgl']
      exact hgc' _ _ (by have := hd0 j hj; rw [show 0 * 9 + 1 + j = 1 + j by omega] at this; exact this.trans hu))
    have RY1 : Hid (∀ w', Ext w9 w' → ∀ j u, (cellsV uk ub ud us1 (.slice ua1 un1 uc1) (.slice ua2 un2 uc2))[j]? = some u → w'.cell? ⟨g', o' + 9 + 1 + j, none⟩ = some u) := Lib.hid (fun w' hw j u hu => by
      have hj : j < 8 := by have := (Array.getElem?_eq_some_iff.1 hu).1; simpa using this
      rw [show o' + 9 + 1 + j = o' + (10 + j) by omega, hw.cell (p := ⟨g', o' + (10 + j), none⟩) hgl']
      exact hgc' _ _ (by have := hd1 j hj; rw [show 1 * 9 + 1 + j = 10 + j by omega] at this; exact this.trans hu))
    have RK : Hid (∀ w', Ext w9 w' → w'.cell? ⟨g', o', none⟩ = some (.string ⟨#[121]⟩) ∧ w'.cell? ⟨g', o' + 9, none⟩ = some (.string ⟨#[120]⟩)) := Lib.hid (fun w' hw => ⟨by
      rw [hw.cell (p := ⟨g', o', none⟩) hgl']; exact hgc' 0 _ hk0, by
      rw [hw.cell (p := ⟨g', o' + 9, none⟩) hgl']; exact hgc' 9 _ hk1⟩)
    have FX0 : Hid (∀ w', Ext w9 w' → w'.cell? ⟨g, o, none⟩ = some (.int .i64 xk) ∧ w'.cell? ⟨g, o + 1, none⟩ = some (.bool xb) ∧ w'.cell? ⟨g, o + 2, none⟩ = some (.bool xd.neg) ∧ w'.cell? ⟨g, o + 3, none⟩ = some (.string ⟨xd.digits.toArray⟩) ∧ w'.cell? ⟨g, o + 4, none⟩ = some (.int .i64 xd.exp) ∧ w'.cell? ⟨g, o + 5, none⟩ = some (.string ⟨xs1.toArray⟩) ∧ w'.cell? ⟨g, o + 6, none⟩ = some (.slice xa1 xn1 xc1) ∧ w'.cell? ⟨g, o + 7, none⟩ = some (.slice xa2 xn2 xc2)) := Lib.hid (fun w' hw => ⟨RX0.out _ hw 0 _ rfl, RX0.out _ hw 1 _ rfl, RX0.out _ hw 2 _ rfl, RX0.out _ hw 3 _ rfl, RX0.out _ hw 4 _ rfl, RX0.out _ hw 5 _ rfl, RX0.out _ hw 6 _ rfl, RX0.out _ hw 7 _ rfl⟩)
    have FX1 : Hid (∀ w', Ext w9 w' → w'.cell? ⟨g, o + 8, none⟩ = some (.int .i64 yk) ∧ w'.cell? ⟨g, o + 8 + 1, none⟩ = some (.bool yb) ∧ w'.cell? ⟨g, o + 8 + 2, none⟩ = some (.bool yd.neg) ∧ w'.cell? ⟨g, o + 8 + 3, none⟩ = some (.string ⟨yd.digits.toArray⟩) ∧ w'.cell? ⟨g, o + 8 + 4, none⟩ = some (.int .i64 yd.exp) ∧ w'.cell? ⟨g, o + 8 + 5, none⟩ = some (.string ⟨ys1.toArray⟩) ∧ w'.cell? ⟨g, o + 8 + 6, none⟩ = some (.slice ya1 yn1 yc1) ∧ w'.cell? ⟨g, o + 8 + 7, none⟩ = some (.slice ya2 yn2 yc2)) := Lib.hid (fun w' hw => ⟨RX1.out _ hw 0 _ rfl, RX1.out _ hw 1 _ rfl, RX1.out _ hw 2 _ rfl, RX1.out _ hw 3 _ rfl, RX1.out _ hw 4 _ rfl, RX1.out _ hw 5 _ rfl, RX1.out _ hw 6 _ rfl, RX1.out _ hw 7 _ rfl⟩)
    have FY0 : Hid (∀ w', Ext w9 w' → w'.cell? ⟨g', o' + 1, none⟩ = some (.int .i64 zk) ∧ w'.cell? ⟨g', o' + 1 + 1, none⟩ = some (.bool zb) ∧ w'.cell? ⟨g', o' + 1 + 2, none⟩ = some (.bool zd.neg) ∧ w'.cell? ⟨g', o' + 1 + 3, none⟩ = some (.string ⟨zd.digits.toArray⟩) ∧ w'.cell? ⟨g', o' + 1 + 4, none⟩ = some (.int .i64 zd.exp) ∧ w'.cell? ⟨g', o' + 1 + 5, none⟩ = some (.string ⟨zs1.toArray⟩) ∧ w'.cell? ⟨g', o' + 1 + 6, none⟩ = some (.slice za1 zn1 zc1) ∧ w'.cell? ⟨g', o' + 1 + 7, none⟩ = some (.slice za2 zn2 zc2)) := Lib.hid (fun w' hw => ⟨RY0.out _ hw 0 _ rfl, RY0.out _ hw 1 _ rfl, RY0.out _ hw 2 _ rfl, RY0.out _ hw 3 _ rfl, RY0.out _ hw 4 _ rfl, RY0.out _ hw 5 _ rfl, RY0.out _ hw 6 _ rfl, RY0.out _ hw 7 _ rfl⟩)
    have FY1 : Hid (∀ w', Ext w9 w' → w'.cell? ⟨g', o' + 9 + 1, none⟩ = some (.int .i64 uk) ∧ w'.cell? ⟨g', o' + 9 + 1 + 1, none⟩ = some (.bool ub) ∧ w'.cell? ⟨g', o' + 9 + 1 + 2, none⟩ = some (.bool ud.neg) ∧ w'.cell? ⟨g', o' + 9 + 1 + 3, none⟩ = some (.string ⟨ud.digits.toArray⟩) ∧ w'.cell? ⟨g', o' + 9 + 1 + 4, none⟩ = some (.int .i64 ud.exp) ∧ w'.cell? ⟨g', o' + 9 + 1 + 5, none⟩ = some (.string ⟨us1.toArray⟩) ∧ w'.cell? ⟨g', o' + 9 + 1 + 6, none⟩ = some (.slice ua1 un1 uc1) ∧ w'.cell? ⟨g', o' + 9 + 1 + 7, none⟩ = some (.slice ua2 un2 uc2)) := Lib.hid (fun w' hw => ⟨RY1.out _ hw 0 _ rfl, RY1.out _ hw 1 _ rfl, RY1.out _ hw 2 _ rfl, RY1.out _ hw 3 _ rfl, RY1.out _ hw 4 _ rfl, RY1.out _ hw 5 _ rfl, RY1.out _ hw 6 _ rfl, RY1.out _ hw 7 _ rfl⟩)
    clear hX0 hX1 hY0 hY1 hc0 hc1 hd0 hd1 hk0 hk1 hgc hgc' hgl hgl' htl hrl htm hrm hrl0 hrm0
    have hv3 := HV3.out
    have hv4 := HV4.out
    simp only [tArr, tObj, Tree.kind, Tree.list, Tree.mems, List.length_cons, List.length_nil, Nat.reduceAdd] at hv3 hv4 ⊢
    have FV : Hid (∀ w', Ext w9 w' → w'.cell? ⟨P3, 6, none⟩ = some (.slice (some ⟨g, o, none⟩) 2 lc3) ∧ w'.cell? ⟨P4, 7, none⟩ = some (.slice (some ⟨g', o', none⟩) 2 mc4)) := Lib.hid (fun w' hw => ⟨by rw [(hv3.ext hw).cell 6]; rfl, by rw [(hv4.ext hw).cell 7]; rfl⟩)
    have FT : Hid (∀ w', Ext w9 w' → w'.cell? ⟨P, 0, none⟩ = some (.int .i64 k) ∧ w'.cell? ⟨P, 1, none⟩ = some (.bool b) ∧ w'.cell? ⟨P, 2, none⟩ = some (.bool d.neg) ∧ w'.cell? ⟨P, 3, none⟩ = some (.string ⟨d.digits.toArray⟩) ∧ w'.cell? ⟨P, 4, none⟩ = some (.int .i64 d.exp) ∧ w'.cell? ⟨P, 5, none⟩ = some (.string ⟨ss.toArray⟩) ∧ w'.cell? ⟨P, 6, none⟩ = some (.slice la ln lc) ∧ w'.cell? ⟨P, 7, none⟩ = some (.slice ma mn mc)) := Lib.hid (fun w' hw => ⟨by rw [(HV.out.ext hw).cell 0]; rfl, by rw [(HV.out.ext hw).cell 1]; rfl, by rw [(HV.out.ext hw).cell 2]; rfl, by rw [(HV.out.ext hw).cell 3]; rfl, by rw [(HV.out.ext hw).cell 4]; rfl, by rw [(HV.out.ext hw).cell 5]; rfl, by rw [(HV.out.ext hw).cell 6]; rfl, by rw [(HV.out.ext hw).cell 7]; rfl⟩)
    have FT2 : Hid (∀ w', Ext w9 w' → w'.cell? ⟨P2, 0, none⟩ = some (.int .i64 k2) ∧ w'.cell? ⟨P2, 1, none⟩ = some (.bool b2) ∧ w'.cell? ⟨P2, 2, none⟩ = some (.bool d2.neg) ∧ w'.cell? ⟨P2, 3, none⟩ = some (.string ⟨d2.digits.toArray⟩) ∧ w'.cell? ⟨P2, 4, none⟩ = some (.int .i64 d2.exp) ∧ w'.cell? ⟨P2, 5, none⟩ = some (.string ⟨ss2.toArray⟩) ∧ w'.cell? ⟨P2, 6, none⟩ = some (.slice la2 ln2 lc2) ∧ w'.cell? ⟨P2, 7, none⟩ = some (.slice ma2 mn2 mc2)) := Lib.hid (fun w' hw => ⟨by rw [(HV2.out.ext hw).cell 0]; rfl, by rw [(HV2.out.ext hw).cell 1]; rfl, by rw [(HV2.out.ext hw).cell 2]; rfl, by rw [(HV2.out.ext hw).cell 3]; rfl, by rw [(HV2.out.ext hw).cell 4]; rfl, by rw [(HV2.out.ext hw).cell 5]; rfl, by rw [(HV2.out.ext hw).cell 6]; rfl, by rw [(HV2.out.ext hw).cell 7]; rfl⟩)
    go_upto_region 12 with fail
    refine Grow.wp_region_litW (G := Ext) (B := fun w' => Ext w9 w') (anc := fun _ => []) (I := fun j => if j = 13 then some (Grow.Spec.val Ext (.bool true)) else if j = 21 then some (Grow.Spec.val Ext (.bool true)) else if j = 52 then some (Grow.Spec.val Ext (.bool true)) else if j = 61 then some (Grow.Spec.val Ext (.bool true)) else none) (by kernel_rfl) (by kernel_rfl) (by kernel_rfl) ?_ ?_ ?_
    · exact fun w w' h hg => ext_trans h hg
    · exact (ext_refl _).drew
    iterate 11
      refine Grow.Wk.step (fun K hK => ?_)
      first
      | (refine Grow.step_read (by rfl) (by rfl) ext_refl ?_
         apply Exists.intro
         refine ⟨fun w hB hF => ?_, ?_⟩
         · obtain ⟨f1, f2⟩ := FV.out _ hB
           go_simp
           try exact rfl
         go_simp
         refine hK _ _ ?_
         clear hK K)
      | (refine Grow.step_off (by rfl) ?_
         go_simp
         refine hK _ _ ?_
         clear hK K)
    refine Grow.Wk.step (fun K hK => ?_)
    first
    | (refine Grow.step_read (by rfl) (by rfl) ext_refl ?_
       apply Exists.intro
       refine ⟨fun w hB hF => ?_, ?_⟩
       · obtain ⟨x0, x1, x2, x3, x4, x5, x6, x7⟩ := FX0.out _ hB
         go_simp
         try exact rfl
       go_simp
       refine hK _ _ ?_
       clear hK K)
    | (refine Grow.step_off (by rfl) ?_
       go_simp
       refine hK _ _ ?_
       clear hK K)
    refine Grow.Wk.step (fun K hK => ?_)
    first
    | (refine Grow.step_read (by rfl) (by rfl) ext_refl ?_
       apply Exists.intro
       refine ⟨fun w hB hF => ?_, ?_⟩
       · obtain ⟨x0, x1, x2, x3, x4, x5, x6, x7⟩ := FT.out _ hB
         go_simp
         try exact rfl
       go_simp
       refine hK _ _ ?_
       clear hK K)
    | (refine Grow.step_off (by rfl) ?_
       go_simp
       refine hK _ _ ?_
       clear hK K)
    refine Grow.Wk.step (fun K hK => ?_)
    refine Grow.step_rel (by rfl) (by rfl) (fun w' hB hF => ?_) (fun v hv => ?_)
    · go_simp
      refine Grow.relUpon_enter ((exact_any _ _ _ _ _ _ w' (HX0.out.keep (A' := fun _ => True) hB.size (fun g _ hlt => ⟨trivial, hB.block g hlt⟩)) (HTV.out.keep (A' := fun _ => True) hB.size (fun g _ hlt => ⟨trivial, hB.block g hlt⟩))).mono ?_)
      rintro e w'' ⟨rfl, hw''⟩
      exact ⟨_, rfl, hw'', by rw [exactT_refl]; rfl, trivial⟩
    obtain rfl : v = _ := hv
    go_simp
    refine hK _ _ ?_
    clear hK K
    iterate 5
      refine Grow.Wk.step (fun K hK => ?_)
      first
      | (refine Grow.step_read (by rfl) (by rfl) ext_refl ?_
         apply Exists.intro
         refine ⟨fun w hB hF => ?_, ?_⟩
         · obtain ⟨f1, f2⟩ := FV.out _ hB
           go_simp
           try exact rfl
         go_simp
         refine hK _ _ ?_
         clear hK K)
      | (refine Grow.step_off (by rfl) ?_
         go_simp
         refine hK _ _ ?_
         clear hK K)
    refine Grow.Wk.step (fun K hK => ?_)
    first
    | (refine Grow.step_read (by rfl) (by rfl) ext_refl ?_
       apply Exists.intro
       refine ⟨fun w hB hF => ?_, ?_⟩
       · obtain ⟨x0, x1, x2, x3, x4, x5, x6, x7⟩ := FX1.out _ hB
         go_simp
         try exact rfl
       go_simp
       refine hK _ _ ?_
       clear hK K)
    | (refine Grow.step_off (by rfl) ?_
       go_simp
       refine hK _ _ ?_
       clear hK K)
    refine Grow.Wk.step (fun K hK => ?_)
    first
    | (refine Grow.step_read (by rfl) (by rfl) ext_refl ?_
       apply Exists.intro
       refine ⟨fun w hB hF => ?_, ?_⟩
       · obtain ⟨x0, x1, x2, x3, x4, x5, x6, x7⟩ := FT2.out _ hB
         go_simp
         try exact rfl
       go_simp
       refine hK _ _ ?_
       clear hK K)
    | (refine Grow.step_off (by rfl) ?_
       go_simp
       refine hK _ _ ?_
       clear hK K)
    refine Grow.Wk.step (fun K hK => ?_)
    refine Grow.step_rel (by rfl) (by rfl) (fun w' hB hF => ?_) (fun v hv => ?_)
    · go_simp
      refine Grow.relUpon_enter ((exact_any _ _ _ _ _ _ w' (HX1.out.keep (A' := fun _ => True) hB.size (fun g _ hlt => ⟨trivial, hB.block g hlt⟩)) (HTV2.out.keep (A' := fun _ => True) hB.size (fun g _ hlt => ⟨trivial, hB.block g hlt⟩))).mono ?_)
      rintro e w'' ⟨rfl, hw''⟩
      exact ⟨_, rfl, hw'', by rw [exactT_refl]; rfl, trivial⟩
    obtain rfl : v = _ := hv
    go_simp
    refine hK _ _ ?_
    clear hK K
    iterate 12
      refine Grow.Wk.step (fun K hK => ?_)
      first
      | (refine Grow.step_read (by rfl) (by rfl) ext_refl ?_
         apply Exists.intro
         refine ⟨fun w hB hF => ?_, ?_⟩
         · obtain ⟨f1, f2⟩ := FV.out _ hB
           go_simp
           try exact rfl
         go_simp
         refine hK _ _ ?_
         clear hK K)
      | (refine Grow.step_off (by rfl) ?_
         go_simp
         refine hK _ _ ?_
         clear hK K)
    refine Grow.Wk.step (fun K hK => ?_)
    first
    | (refine Grow.step_read (by rfl) (by rfl) ext_refl ?_
       apply Exists.intro
       refine ⟨fun w hB hF => ?_, ?_⟩
       · obtain ⟨f1, f2⟩ := RK.out _ hB
         go_simp
         try exact rfl
       go_simp
       refine hK _ _ ?_
       clear hK K)
    | (refine Grow.step_off (by rfl) ?_
       go_simp
       refine hK _ _ ?_
       clear hK K)
    iterate 7
      refine Grow.Wk.step (fun K hK => ?_)
      first
      | (refine Grow.step_read (by rfl) (by rfl) ext_refl ?_
         apply Exists.intro
         refine ⟨fun w hB hF => ?_, ?_⟩
         · obtain ⟨f1, f2⟩ := FV.out _ hB
           go_simp
           try exact rfl
         go_simp
         refine hK _ _ ?_
         clear hK K)
      | (refine Grow.step_off (by rfl) ?_
         go_simp
         refine hK _ _ ?_
         clear hK K)
    refine Grow.Wk.step (fun K hK => ?_)
    first
    | (refine Grow.step_read (by rfl) (by rfl) ext_refl ?_
       apply Exists.intro
       refine ⟨fun w hB hF => ?_, ?_⟩
       · obtain ⟨f1, f2⟩ := RK.out _ hB
         go_simp
         try exact rfl
       go_simp
       refine hK _ _ ?_
       clear hK K)
    | (refine Grow.step_off (by rfl) ?_
       go_simp
       refine hK _ _ ?_
       clear hK K)
    iterate 7
      refine Grow.Wk.step (fun K hK => ?_)
      first
      | (refine Grow.step_read (by rfl) (by rfl) ext_refl ?_
         apply Exists.intro
         refine ⟨fun w hB hF => ?_, ?_⟩
         · obtain ⟨f1, f2⟩ := FV.out _ hB
           go_simp
           try exact rfl
         go_simp
         refine hK _ _ ?_
         clear hK K)
      | (refine Grow.step_off (by rfl) ?_
         go_simp
         refine hK _ _ ?_
         clear hK K)
    refine Grow.Wk.step (fun K hK => ?_)
    first
    | (refine Grow.step_read (by rfl) (by rfl) ext_refl ?_
       apply Exists.intro
       refine ⟨fun w hB hF => ?_, ?_⟩
       · obtain ⟨x0, x1, x2, x3, x4, x5, x6, x7⟩ := FY0.out _ hB
         go_simp
         try exact rfl
       go_simp
       refine hK _ _ ?_
       clear hK K)
    | (refine Grow.step_off (by rfl) ?_
       go_simp
       refine hK _ _ ?_
       clear hK K)
    refine Grow.Wk.step (fun K hK => ?_)
    first
    | (refine Grow.step_read (by rfl) (by rfl) ext_refl ?_
       apply Exists.intro
       refine ⟨fun w hB hF => ?_, ?_⟩
       · obtain ⟨x0, x1, x2, x3, x4, x5, x6, x7⟩ := FT.out _ hB
         go_simp
         try exact rfl
       go_simp
       refine hK _ _ ?_
       clear hK K)
    | (refine Grow.step_off (by rfl) ?_
       go_simp
       refine hK _ _ ?_
       clear hK K)
    refine Grow.Wk.step (fun K hK => ?_)
    refine Grow.step_rel (by rfl) (by rfl) (fun w' hB hF => ?_) (fun v hv => ?_)
    · go_simp
      refine Grow.relUpon_enter ((exact_any _ _ _ _ _ _ w' (HY0.out.keep (A' := fun _ => True) hB.size (fun g _ hlt => ⟨trivial, hB.block g hlt⟩)) (HTV.out.keep (A' := fun _ => True) hB.size (fun g _ hlt => ⟨trivial, hB.block g hlt⟩))).mono ?_)
      rintro e w'' ⟨rfl, hw''⟩
      exact ⟨_, rfl, hw'', by rw [exactT_refl]; rfl, trivial⟩
    obtain rfl : v = _ := hv
    go_simp
    refine hK _ _ ?_
    clear hK K
    iterate 6
      refine Grow.Wk.step (fun K hK => ?_)
      first
      | (refine Grow.step_read (by rfl) (by rfl) ext_refl ?_
         apply Exists.intro
         refine ⟨fun w hB hF => ?_, ?_⟩
         · obtain ⟨f1, f2⟩ := FV.out _ hB
           go_simp
           try exact rfl
         go_simp
         refine hK _ _ ?_
         clear hK K)
      | (refine Grow.step_off (by rfl) ?_
         go_simp
         refine hK _ _ ?_
         clear hK K)
    refine Grow.Wk.step (fun K hK => ?_)
    first
    | (refine Grow.step_read (by rfl) (by rfl) ext_refl ?_
       apply Exists.intro
       refine ⟨fun w hB hF => ?_, ?_⟩
       · obtain ⟨x0, x1, x2, x3, x4, x5, x6, x7⟩ := FY1.out _ hB
         go_simp
         try exact rfl
       go_simp
       refine hK _ _ ?_
       clear hK K)
    | (refine Grow.step_off (by rfl) ?_
       go_simp
       refine hK _ _ ?_
       clear hK K)
    refine Grow.Wk.step (fun K hK => ?_)
    first
    | (refine Grow.step_read (by rfl) (by rfl) ext_refl ?_
       apply Exists.intro
       refine ⟨fun w hB hF => ?_, ?_⟩
       · obtain ⟨x0, x1, x2, x3, x4, x5, x6, x7⟩ := FT2.out _ hB
         go_simp
         try exact rfl
       go_simp
       refine hK _ _ ?_
       clear hK K)
    | (refine Grow.step_off (by rfl) ?_
       go_simp
       refine hK _ _ ?_
       clear hK K)
    refine Grow.Wk.step (fun K hK => ?_)
    refine Grow.step_rel (by rfl) (by rfl) (fun w' hB hF => ?_) (fun v hv => ?_)
    · go_simp
      refine Grow.relUpon_enter ((exact_any _ _ _ _ _ _ w' (HY1.out.keep (A' := fun _ => True) hB.size (fun g _ hlt => ⟨trivial, hB.block g hlt⟩)) (HTV2.out.keep (A' := fun _ => True) hB.size (fun g _ hlt => ⟨trivial, hB.block g hlt⟩))).mono ?_)
      rintro e w'' ⟨rfl, hw''⟩
      exact ⟨_, rfl, hw'', by rw [exactT_refl]; rfl, trivial⟩
    obtain rfl : v = _ := hv
    go_simp
    refine hK _ _ ?_
    clear hK K
    iterate 2
      refine Grow.Wk.step (fun K hK => ?_)
      first
      | (refine Grow.step_read (by rfl) (by rfl) ext_refl ?_
         apply Exists.intro
         refine ⟨fun w hB hF => ?_, ?_⟩
         · obtain ⟨f1, f2⟩ := FV.out _ hB
           go_simp
           try exact rfl
         go_simp
         refine hK _ _ ?_
         clear hK K)
      | (refine Grow.step_off (by rfl) ?_
         go_simp
         refine hK _ _ ?_
         clear hK K)
    refine Grow.Wk.nil ?_
    intro w10 hB hF
    clear hF
    replace HE := Lib.hid (ext_trans HE.out hB)
    clear hB
    go_wp2_with fail
    go_ret
    exact ⟨rfl, HE.out⟩
set_option linter.unusedSimpArgs false
theorem own : ownKnob Tryd.prog.godebug = none := by kernel_rfl
theorem laid : laidOutB Tryd.prog = true := by kernel_rfl
theorem cells1 : Tryd.prog.cellsOf 5 = 1 := by kernel_rfl
theorem bytes1 : Tryd.prog.bytesOf 5 = 1 := by kernel_rfl
set_option maxHeartbeats 1600000 in
set_option maxRecDepth 100000 in
theorem lifted (os : Os) (started : os.Started) (H : Type) (enc : TypeId × Value → H) :
    ReturnsInHanded {} Tryd.checked os 6 .any (fun w args => (Rows.parseListsSpec.pre enc Tryd.prog Tryd.f6 [] false w args ∧ laidMetH Tryd.prog Rows.parseListsRow.laid w) ∧ sizedMet enc Tryd.prog Tryd.f6 (OpenSpec.ofChange Rows.parseListsSpec) false w args) (Rows.parseListsSpec.post enc Tryd.prog Tryd.f6 false true false false) := by
  refine returnsInHanded_of_change_and (C := Tryd.checked) (X := fun w _ => laidMetH Tryd.prog Rows.parseListsRow.laid w) (fun _ _ _ hh h => h.of_heap hh) own started (by kernel_rfl) Tryd.func6
    (ChangeSpec.witness_shaped (enc := enc) (C := Tryd.checked) (os := os) (X := fun w _ => laidMetH Tryd.prog Rows.parseListsRow.laid w) false (World.laidAll Tryd.prog os Rows.parseListsRow.laid) #[.slice none 0 0, .slice none 0 0] 8 (World.laidAll_os _ _ _)
      (World.shaped_of_ZipB (by kernel_rfl) (by kernel_rfl)) (by kernel_rfl) (by kernel_rfl) (by kernel_rfl)
      (by rw [MakeChecks.laidMetH_plain _ _ _ (by kernel_rfl)]; exact laidMet_laidAll _ (by kernel_rfl) (by kernel_rfl))) ?_
  intro W base args ds gs before hval0 hW _ hsz0 _ _
  have hsz : (DataW.weightsEach Tryd.prog (Tryd.f6.params.toList ++ Rows.parseListsSpec.plain.varTypes Tryd.prog) (ds ++ gs)).all (· ≤ reachBytes) = true := hsz0
  clear hsz0
  have hval : ∀ (j : Nat) t v, Tryd.f6.params[j]? = some t → args[j]? = some v → Value.okWide Tryd.prog W .any base t v := hval0
  have hW' := hW
  obtain ⟨p, q, hA0, hV, rfl, _, _⟩ := hW
  have hA : DataW.TrodAll enc Tryd.prog W 0 (fun _ => true) true Tryd.f6.params.toList args.toList ds p := hA0
  rw [Tryd.params6] at hA hval hsz
  obtain ⟨v0, vs0, d0, ds0, p0, q0, ha0, rfl, rfl, h0, r0⟩ := trodAll_cons hA
  obtain ⟨v1, vs1, d1, ds1, p1, q1, ha1, rfl, rfl, h1, r1⟩ := trodAll_cons r0
  obtain ⟨hb2, rfl, rfl⟩ := trodAll_nil r1
  subst hb2
  subst ha1
  obtain rfl : args = #[v0, v1] := by cases args; simpa using ha0
  obtain ⟨rfl, rfl⟩ := trodVars_none hV
  have hk0 := h0
  obtain ⟨a0, len0, cap0, rfl⟩ := okWide_slice Tryd.underlying22 (hval 0 22 v0 rfl rfl)
  obtain ⟨xs0, hx0⟩ := bytes_of_trod Tryd.underlying22 Tryd.underlying5 cells1 h0 (fun elems spare e => by subst e; have := sized_slice hsz (j := 0) rfl rfl Tryd.underlying22; rw [bytes1] at this; simp only [reachBytes] at this; omega)
  have hk1 := h1
  obtain ⟨a1, len1, cap1, rfl⟩ := okWide_slice Tryd.underlying22 (hval 1 22 v1 rfl rfl)
  obtain ⟨xs1, hx1⟩ := bytes_of_trod Tryd.underlying22 Tryd.underlying5 cells1 h1 (fun elems spare e => by subst e; have := sized_slice hsz (j := 1) rfl rfl Tryd.underlying22; rw [bytes1] at this; simp only [reachBytes] at this; omega)
  have hlt := fun x hx => hW'.lt x hx
  simp only [List.append_nil, List.nil_append] at hW' hlt
  refine (walk _ xs0 _ xs1 W hx0 hx1).mono fun e W' ⟨he, hb⟩ => ?_
  subst he
  have hargs := (trodAll_cons_mk (Below.trod laid (by kernel_rfl) (of_decide_eq_true (by kernel_rfl)) hk0 hb (fun x hx => by first | exact hlt x hx | exact absurd hx (List.not_mem_nil) | exact hlt x (by simp [hx]))) (trodAll_cons_mk (Below.trod laid (by kernel_rfl) (of_decide_eq_true (by kernel_rfl)) hk1 hb (fun x hx => by first | exact hlt x hx | exact absurd hx (List.not_mem_nil) | exact hlt x (by simp [hx]))) trodAll_mk0))
  exact ⟨_, rfl, _, _, _, [], _, [], hW', trodAll_cons_mk (shut_bool Tryd.underlying4 _) trodAll_mk0, hargs, rfl, hb.frame _, fun h => by cases h⟩

theorem held : Rows.ParseListsSaid :=
  OpenClaim.holds_of_wide 6 Tryd.f6 rfl rfl rfl rfl rfl rfl rfl ⟨rfl, rfl, rfl, rfl, rfl⟩ rfl rfl rfl rfl rfl (by kernel_rfl) Tryd.func6 (by kernel_rfl)
    (of_decide_eq_true (by kernel_rfl)) (by unfold Func.isWrapper; first | (rw [if_pos (by decide +kernel)]; kernel_rfl) | (rw [if_neg (by decide +kernel)]; exact ⟨rfl, rfl⟩))
    (fun os started H enc _ => lifted os started H enc)

theorem proved : Rows.ParseListsCardSaid :=
  Claim7.holds_tied_plain_at .later [] Rows.parseListsCard.laidKinds true Rows.parseListsCard.stood.harness Rows.parseListsCard.stood.looks held (fun _ h => by cases h) (by kernel_rfl) (fun _ h => by cases h) parseLists_row_tie rfl ⟨rfl, rfl⟩ (by kernel_rfl) rfl
    (fun f fn hf hfn => by
      obtain rfl : f = 6 := Option.some.inj ((show Tryd.prog.funcNamed "orangery/orangerylaw04.ParseLists" = some 6 by kernel_rfl).symm.trans hf) |>.symm
      obtain rfl : fn = Tryd.f6 := (Option.some.inj (Tryd.func6.symm.trans hfn)).symm
      exact ⟨by kernel_rfl, fun j t ht => by
        rw [Tryd.params6] at ht
        have hm : t ∈ [22, 22] := by simpa using Array.mem_of_getElem? ht
        have hall : ([22, 22].all fun u => !Tryd.prog.wantsStandIn u) = true := by kernel_rfl
        exact (show Tryd.prog.wantsStandIn t = false by simpa using List.all_eq_true.1 hall t hm)⟩)
    (by kernel_rfl)
end Go.Proofs.YtckpndbmpigegaaDoor.parseLists
