/- ParseCounts: so many elements are as many values, up to the limit; two members of one key are one too many: whatever the input, the law returns true and the input reads as it did. No condition. -/
import Derived.Test.YtckpndbmpigegaaDoorRows
import Derived.Test.YtckpndbmpigegaaDoorCards
import Derived.Test.YtckpndbmpigegaaDoorTie
import Derived.Test.YtckpndbmpigegaaDoorPaAp
import Derived.Test.YtckpndbmpigegaaDoorPaCt
import Derived.Test.YtckpndbmpigegaaDoorFrame
import Derived.ProofKit
import Derived.SizedLaws
import Derived.OpenShut
import Derived.Lay
import Derived.LaidMore
import Derived.SevenTiedAt
import Derived.IntWalk
import Derived.Laws.BitsLemmas
set_option linter.unusedVariables false
set_option linter.unusedSimpArgs false
set_option maxRecDepth 100000
namespace Go.Proofs.YtckpndbmpigegaaDoor.parseCounts
open Go.ChangeShapes Go.WideShapes Go.ChangeAt Go.RowKit Go.Mem Orange

theorem i64_and15 (n : Int) : bits .and .i64 n 15 = n % 16 := by
  have h127 : (BitVec.ofInt 64 15).toNat = 2 ^ 4 - 1 := by decide
  have key : (BitVec.ofInt 64 n &&& BitVec.ofInt 64 15).toNat = (n % ((2 ^ 64 : Nat) : Int)).toNat % 2 ^ 4 := by
    rw [BitVec.toNat_and, BitVec.toNat_ofInt, h127, Nat.and_two_pow_sub_one_eq_mod]
  show IntKind.i64.wrap ((BitVec.ofInt 64 n &&& BitVec.ofInt 64 15).toNat : Nat) = n % 16
  rw [key, IntKind.wrap_i64]
  omega
theorem pick (a : Int) : ∃ p : Nat, bits .and .i64 a 15 = p ∧ p < 16 := by
  exact ⟨(a % 16).toNat, by rw [i64_and15]; omega, by omega⟩
def zPre (i : Nat) : List UInt8 := 91 :: 48 :: (List.replicate (i - 1) [44, 48]).flatten
theorem zPre_len (i : Nat) (h : 1 ≤ i) : (zPre i).length = 2 * i := by
  obtain ⟨r, rfl⟩ : ∃ r, i = r + 1 := ⟨i - 1, by omega⟩
  have : ∀ r, ((List.replicate r [(44 : UInt8), 48]).flatten).length = 2 * r := fun r => by
    induction r with
    | zero => rfl
    | succ r ih => simp [List.replicate_succ, ih]; omega
  simp [zPre, this]; omega
theorem zPre_succ (i : Nat) (h : 1 ≤ i) : zPre i ++ [44, 48] = zPre (i + 1) := by
  obtain ⟨r, rfl⟩ : ∃ r, i = r + 1 := ⟨i - 1, by omega⟩
  have : ∀ r, (List.replicate r [(44 : UInt8), 48]).flatten ++ [44, 48] = (List.replicate (r + 1) [44, 48]).flatten := fun r => by
    rw [List.replicate_succ', List.flatten_append]; simp
  simp only [zPre, List.cons_append, Nat.add_sub_cancel, this]
theorem zPre_end (m : Nat) : zPre m ++ [93] = zText m := by simp [zPre, zText, zTail]
theorem zText_top (m : Nat) (hm : 1 ≤ m) (hm2 : m ≤ 4200) : (m ≤ 4095 → parseP (zText m) = (tArr (List.replicate m (tNum Num.zero)), 0, (zText m).length)) ∧ (4095 < m → parseP (zText m) = (tNull, 4, (parseP (zText m)).2.2)) := by
  obtain ⟨h1, h2⟩ := zText_parse m hm hm2
  have hl : ¬ 65536 < (zText m).length := by
    rw [← zPre_end, List.length_append, zPre_len m hm]; simp; omega
  refine ⟨fun h => ?_, fun h => ?_⟩
  · obtain ⟨a, n, h3, h4⟩ := h1 h
    rw [parseP, if_neg hl, h3]
    simp only [h4, Nat.lt_irrefl, if_false]
  · obtain ⟨b, h3⟩ := h2 h
    rw [parseP, if_neg hl, h3]
theorem lets_cut (d : Nat) (h : d < 16) : ByteArray.extract ⟨#[98, 99, 100, 101, 102, 103, 104, 105, 106, 107, 108, 109, 110, 111, 112, 113]⟩ d (d + 1) = ⟨[UInt8.ofNat (98 + d)].toArray⟩ := by
  have : d = 0 ∨ d = 1 ∨ d = 2 ∨ d = 3 ∨ d = 4 ∨ d = 5 ∨ d = 6 ∨ d = 7 ∨ d = 8 ∨ d = 9 ∨ d = 10 ∨ d = 11 ∨ d = 12 ∨ d = 13 ∨ d = 14 ∨ d = 15 := by omega
  rcases this with rfl | rfl | rfl | rfl | rfl | rfl | rfl | rfl | rfl | rfl | rfl | rfl | rfl | rfl | rfl | rfl <;> rfl
theorem cBase_succ (i : Nat) : cBase i ++ [44, 34] ++ [UInt8.ofNat (98 + i)] ++ [34, 58, 50] = cBase (i + 1) := by
  simp [cBase, List.range_succ]
theorem cBase_len (i : Nat) (h : i ≤ 16) : (cBase i).length ≤ 102 := by
  have : ∀ i : Fin 17, (cBase i).length ≤ 102 := by decide
  exact this ⟨i, by omega⟩
set_option maxHeartbeats 12800000 in
theorem walk (n : Int) (hn0 : -9223372036854775808 ≤ n) (hn1 : n ≤ 9223372036854775807) (k : Int) (hk0 : -9223372036854775808 ≤ k) (hk1 : k ≤ 9223372036854775807) (w : World) :
    Calls Tryd.prog 5 #[.int .i64 n, .int .i64 k] w fun e w' => e = .returned (.bool true) ∧ Ext w w' := by
  have kc := fun (w : World) (C : Array Value) (n c : Nat) => Lib.run_convert_bytes_const (P := Tryd.prog) w 22 5 C n c Tryd.underlying22 Tryd.underlying5
  obtain ⟨p, hp, hpl⟩ := pick n
  obtain ⟨j, hj, hjl⟩ := pick k
  go_enter Tryd.func5, Tryd.ntmps5
  go_wp2_with fail
  refine (pawake _).mono ?_
  rintro e w1 ⟨rfl, hw1⟩
  go_wp2_with fail
  have hx1 : Ext w1 (w1.alloc (.cells #[.int .u8 91, .int .u8 48] 5 (2, 3))) := (ext_refl w1).alloc (Nat.le_refl _) _
  have hb1 : AppB (w1.alloc (.cells #[.int .u8 91, .int .u8 48] 5 (2, 3))) w.heap.size (.slice (some ⟨w1.heap.size, 0, none⟩) 2 2) (zPre 1) := .inr ⟨⟨_, rfl⟩, bytes_newF w1 _ _ [91, 48] rfl 2 rfl (by omega)⟩
  have HE := Lib.hid (ext_trans hw1 hx1)
  have HB := Lib.hid hb1
  clear hx1 hb1 hw1
  go_loopw [7, 8] (fun bv iv wr => ∃ (i : Nat) (a : Option Addr) (c : Nat), iv = .int .i64 i ∧ 1 ≤ i ∧ i ≤ 4090 + p ∧ bv = .slice a (zPre i).length c ∧ AppB wr w.heap.size (.slice a (zPre i).length c) (zPre i) ∧ Ext w wr) (fun _ iv _ => 5000 - (intOf iv).toNat)
  case atStart => exact ⟨1, _, _, rfl, by omega, by omega, rfl, HB.out, HE.out⟩
  case round =>
    obtain ⟨i, ba, bc, rfl, hi1, hi2, rfl, hb, hE⟩ := hrel
    have HZL := Lib.hid (zPre_len i hi1)
    have HB := Lib.hid hb
    have HE := Lib.hid hE
    clear hb hE
    by_cases hlt : i < 4090 + p
    · have hd : decide ((i : Int) < 4090 + (p : Int)) = true := by simp; omega
      have hs9 : w.heap.size ≤ (wr.alloc (.cells #[.int .u8 44, .int .u8 48] 5)).heap.size := by have := HE.out.size; simp; omega
      have hx9 : Ext wr (wr.alloc (.cells #[.int .u8 44, .int .u8 48] 5)) := (ext_refl wr).alloc (Nat.le_refl _) _
      have hb9 := HB.out.ext hx9
      have hn9 := bytes_new wr #[.int .u8 44, .int .u8 48] 5 [44, 48] rfl 2 rfl (by omega)
      have hl9 : (zPre i).length + [(44 : UInt8), 48].length ≤ 70368744177664 := by rw [HZL.out]; simp; omega
      have e9 : IntKind.i64.wrap ((i : Int) + 1) = ((i + 1 : Nat) : Int) := by rw [IntWalk.i64_in _ (by omega)]; omega
      go_wp2_with (first | (at_builtin; refine wpList_append_anyB rfl _ _ rfl w.heap.size _ (zPre i) rfl hb9 _ [44, 48] rfl hn9 (by decide) hl9 hs9 ?_; intro a8 c8 w8 hb8 hw8) | fail)
      rw [zPre_succ i hi1] at hb8
      have hl8 : (zPre i).length + 2 = (zPre (i + 1)).length := by rw [HZL.out, zPre_len (i + 1) (by omega)]; omega
      replace hb8 : AppB w8 w.heap.size (.slice a8 ((zPre i).length + 2) c8) (zPre (i + 1)) := hb8
      rw [hl8] at hb8
      have HB8 := Lib.hid hb8
      have HE8 := Lib.hid (Below.trans HE.out (Below.trans (hx9.mono HE.out.size) hw8))
      go_roundw
      case rel => exact ⟨i + 1, a8, c8, by go_num, by omega, by omega, by rw [hl8], HB8.out, HE8.out⟩
      case measure => simp [intOf]; omega
    · obtain rfl : i = 4090 + p := by omega
      have hd : decide (((4090 + p : Nat) : Int) < 4090 + (p : Int)) = false := by simp
      have hs9 : w.heap.size ≤ (wr.alloc (.cells #[.int .u8 93] 5)).heap.size := by have := HE.out.size; simp; omega
      have hx9 : Ext wr (wr.alloc (.cells #[.int .u8 93] 5)) := (ext_refl wr).alloc (Nat.le_refl _) _
      have hb9 := HB.out.ext hx9
      have hn9 := bytes_new wr #[.int .u8 93] 5 [93] rfl 1 rfl (by omega)
      have hl9 : (zPre (4090 + p)).length + [(93 : UInt8)].length ≤ 70368744177664 := by rw [HZL.out]; simp; omega
      go_wp2_with (first | (at_builtin; refine wpList_append_anyB rfl _ _ rfl w.heap.size _ (zPre (4090 + p)) rfl hb9 _ [93] rfl hn9 (by decide) hl9 hs9 ?_; intro a8 c8 w8 hb8 hw8) | fail)
      rw [zPre_end] at hb8
      have hb10 : Bytes w8 (.slice a8 ((zPre (4090 + p)).length + 1) c8) (zText (4090 + p)) := hb8.bytes (by rw [← zPre_end, List.length_append, HZL.out]; simp; omega)
      have HE8 := Lib.hid (Below.trans HE.out (Below.trans (hx9.mono HE.out.size) hw8))
      have hzt := Lib.hid (zText_top (4090 + p) (by omega) (by omega))
      clear hb8 hb9 hn9 hw8 hx9 hs9 HB HE
      refine (top_any _ (zText (4090 + p)) _ hb10).mono ?_
      intro e w9 hend
      obtain ⟨c, rfl, htv, hw9⟩ := hend
      by_cases hm : 4090 + p ≤ 4095
      · rw [hzt.out.1 hm] at htv ⊢
        obtain ⟨la, lc, ma, mc, rfl⟩ := htv.shape
        have hle : decide (4090 + (p : Int) ≤ 4095) = true := by simp; omega
        simp only [tArr, Tree.kind, Tree.bit, Tree.num, Tree.str, Tree.list, Tree.mems, List.length_replicate, List.length_nil, cellsV, Num.zero]
        have hne : ((((4090 + p : Nat) : Int)) != 4090 + (p : Int)) = false := by simp
        go_wp2_with fail
        have hwL : Ext w (w9.alloc (.cells #[.int .i64 4, .bool false, .bool false, .string ⟨#[]⟩, .int .i64 0, .string ⟨#[]⟩, .slice la (4090 + p) lc, .slice ma 0 mc] 29)) := ext_trans (ext_trans HE8.out hw9) ((ext_refl w9).alloc (Nat.le_refl _) _)
        generalize w9.alloc (.cells #[.int .i64 4, .bool false, .bool false, .string ⟨#[]⟩, .int .i64 0, .string ⟨#[]⟩, .slice la (4090 + p) lc, .slice ma 0 mc] 29) = wL at *
        have HWL := Lib.hid hwL
        clear hwL htv hw9
        go_loopw [12, 14] (fun sv iv wr => ∃ i : Nat, iv = .int .i64 i ∧ i ≤ j ∧ sv = .string ⟨(cBase i).toArray⟩ ∧ Ext w wr) (fun _ iv _ => 5000 - (intOf iv).toNat)
        case atStart => exact ⟨0, rfl, by omega, rfl, HWL.out⟩
        case round =>
          obtain ⟨i, rfl, hi1, rfl, hE⟩ := hrel
          have HE := Lib.hid hE
          clear hE
          by_cases hlt : i < j
          · have hcut := lets_cut i (by omega)
            have hap1 := ba_app (cBase i) [44, 34]
            have hap2 := ba_app (cBase i ++ [44, 34]) [UInt8.ofNat (98 + i)]
            have hap3 := ba_app (cBase i ++ [44, 34] ++ [UInt8.ofNat (98 + i)]) [34, 58, 50]
            have hcs := cBase_succ i
            have hcl := cBase_len i (by omega)
            have hi16 : (i : Int) + 1 ≤ 16 := by omega
            have hi17 : i + 1 ≤ 16 := by omega
            have e9 : IntKind.i64.wrap ((i : Int) + 1) = ((i + 1 : Nat) : Int) := by rw [IntWalk.i64_in _ (by omega)]; omega
            generalize UInt8.ofNat (98 + i) = ci at *
            go_wp2_with fail
            go_roundw
            case rel => exact ⟨i + 1, by go_num, by omega, by rw [ba_app (cBase i ++ [44, 34, ci]) [34, 58, 50], ← hcs]; simp, HE.out⟩
            case measure => simp [intOf]; omega
          · obtain rfl : i = j := by omega
            have hd : decide ((i : Int) < (i : Int)) = false := by simp
            have hap1 := ba_app (cBase i) [44, 32, 34, 92, 117, 48, 48, 54, 49, 34, 58, 51, 125]
            have hap2 := ba_app (cBase i) [125]
            have hcl := cBase_len i (by omega)
            have hfin := cBase_is ⟨i, hjl⟩
            simp only at hfin
            obtain ⟨T1, hT1⟩ : ∃ T1, cBase i ++ [44, 32, 34, 92, 117, 48, 48, 54, 49, 34, 58, 51, 125] = T1 := ⟨_, rfl⟩
            obtain ⟨T2, hT2⟩ : ∃ T2, cBase i ++ [125] = T2 := ⟨_, rfl⟩
            have hl1 : T1.length ≤ 1000 := by rw [← hT1, List.length_append]; simp; omega
            have hl2 : T2.length ≤ 1000 := by rw [← hT2, List.length_append]; simp; omega
            rw [hT1] at hap1 hfin
            rw [hT2] at hap2 hfin
            obtain ⟨f1, f2, f3⟩ := hfin
            have F1 := Lib.hid f1
            have F2 := Lib.hid f2
            have F3 := Lib.hid f3
            have hs1 : (ByteArray.mk T1.toArray).size ≤ 140737488355328 := by rw [sx_size]; omega
            have hs2 : (ByteArray.mk T2.toArray).size ≤ 140737488355328 := by rw [sx_size]; omega
            clear f1 f2 f3 hT1 hT2
            go_wp2_with (first | (refine wpList_bytes_of_string wr rfl 9 22 5 _ rfl ⟨T1.toArray⟩ rfl Tryd.underlying9 Tryd.underlying22 Tryd.underlying5 hs1 ?_; intro cap2 w2 hE2 hcap2 hcm2 hsz2 hat2) | fail)
            rw [sx_size] at hcap2
            refine (top_any _ T1 _ (Bytes.mk hat2 rfl hcap2 hcm2 (by omega))).mono ?_
            intro e w3 hend
            obtain ⟨c3, rfl, htv3, hw3⟩ := hend
            rw [F1.out, F2.out]
            obtain ⟨ya, yb, yc, yd, rfl⟩ := htv3.shape
            have HW3 := Lib.hid (ext_trans (ext_trans HE.out hE2) hw3)
            clear htv3 hw3 hE2 hat2
            generalize (parseP T1).1 = t1 at *
            obtain ⟨tk, tb, td, ts, tl, tm⟩ := t1
            simp only [Tree.kind, Tree.bit, Tree.num, Tree.str, Tree.list, Tree.mems, cellsV]
            go_upto_region 19 with fail
            have hx4 := ext_trans HW3.out ((ext_refl w3).alloc (Nat.le_refl _) (.cells #[.int .i64 tk, .bool tb, .bool td.neg, .string ⟨td.digits.toArray⟩, .int .i64 td.exp, .string ⟨ts.toArray⟩, .slice ya tl.length yb, .slice yc tm.length yd] 29))
            generalize w3.alloc (.cells #[.int .i64 tk, .bool tb, .bool td.neg, .string ⟨td.digits.toArray⟩, .int .i64 td.exp, .string ⟨ts.toArray⟩, .slice ya tl.length yb, .slice yc tm.length yd] 29) = w4 at *
            have HX4 := Lib.hid hx4
            clear hx4 HW3
            go_wp2_with (first | (refine wpList_bytes_of_string w4 rfl 9 22 5 _ rfl ⟨T2.toArray⟩ rfl Tryd.underlying9 Tryd.underlying22 Tryd.underlying5 hs2 ?_; intro cap5 w5 hE5 hcap5 hcm5 hsz5 hat5) | fail)
            rw [sx_size] at hcap5
            refine (top_any _ T2 _ (Bytes.mk hat5 rfl hcap5 hcm5 (by omega))).mono ?_
            intro e w6 hend
            obtain ⟨c6, rfl, htv6, hw6⟩ := hend
            rw [F3.out]
            obtain ⟨za, zb, zc, zd, rfl⟩ := htv6.shape
            have HW6 := Lib.hid (ext_trans (ext_trans HX4.out hE5) hw6)
            clear htv6 hw6 hE5 hat5
            generalize (parseP T2).1 = t2 at *
            obtain ⟨uk, ub, ud, us, ul, um⟩ := t2
            simp only [Tree.kind, Tree.bit, Tree.num, Tree.str, Tree.list, Tree.mems, cellsV]
            have e2 : IntKind.i64.wrap (((cBase i).length : Int) + 2) = (((cBase i).length + 2 : Nat) : Int) := by rw [IntWalk.i64_in _ (by omega)]; omega
            go_wp2_with fail
            go_ret
            exact ⟨rfl, Below.alloc HW6.out HW6.out.size _⟩
      · rw [hzt.out.2 (by omega)] at htv ⊢
        obtain ⟨la, lc, ma, mc, rfl⟩ := htv.shape
        have hle : decide (4090 + (p : Int) ≤ 4095) = false := by simp; omega
        simp only [tNull, Tree.kind, Tree.bit, Tree.num, Tree.str, Tree.list, Tree.mems, List.length_nil, cellsV, Num.zero]
        go_wp2_with fail
        have hwL : Ext w (w9.alloc (.cells #[.int .i64 0, .bool false, .bool false, .string ⟨#[]⟩, .int .i64 0, .string ⟨#[]⟩, .slice la 0 lc, .slice ma 0 mc] 29)) := ext_trans (ext_trans HE8.out hw9) ((ext_refl w9).alloc (Nat.le_refl _) _)
        generalize w9.alloc (.cells #[.int .i64 0, .bool false, .bool false, .string ⟨#[]⟩, .int .i64 0, .string ⟨#[]⟩, .slice la 0 lc, .slice ma 0 mc] 29) = wL at *
        have HWL := Lib.hid hwL
        clear hwL htv hw9
        go_loopw [12, 14] (fun sv iv wr => ∃ i : Nat, iv = .int .i64 i ∧ i ≤ j ∧ sv = .string ⟨(cBase i).toArray⟩ ∧ Ext w wr) (fun _ iv _ => 5000 - (intOf iv).toNat)
        case atStart => exact ⟨0, rfl, by omega, rfl, HWL.out⟩
        case round =>
          obtain ⟨i, rfl, hi1, rfl, hE⟩ := hrel
          have HE := Lib.hid hE
          clear hE
          by_cases hlt : i < j
          · have hcut := lets_cut i (by omega)
            have hap1 := ba_app (cBase i) [44, 34]
            have hap2 := ba_app (cBase i ++ [44, 34]) [UInt8.ofNat (98 + i)]
            have hap3 := ba_app (cBase i ++ [44, 34] ++ [UInt8.ofNat (98 + i)]) [34, 58, 50]
            have hcs := cBase_succ i
            have hcl := cBase_len i (by omega)
            have hi16 : (i : Int) + 1 ≤ 16 := by omega
            have hi17 : i + 1 ≤ 16 := by omega
            have e9 : IntKind.i64.wrap ((i : Int) + 1) = ((i + 1 : Nat) : Int) := by rw [IntWalk.i64_in _ (by omega)]; omega
            generalize UInt8.ofNat (98 + i) = ci at *
            go_wp2_with fail
            go_roundw
            case rel => exact ⟨i + 1, by go_num, by omega, by rw [ba_app (cBase i ++ [44, 34, ci]) [34, 58, 50], ← hcs]; simp, HE.out⟩
            case measure => simp [intOf]; omega
          · obtain rfl : i = j := by omega
            have hd : decide ((i : Int) < (i : Int)) = false := by simp
            have hap1 := ba_app (cBase i) [44, 32, 34, 92, 117, 48, 48, 54, 49, 34, 58, 51, 125]
            have hap2 := ba_app (cBase i) [125]
            have hcl := cBase_len i (by omega)
            have hfin := cBase_is ⟨i, hjl⟩
            simp only at hfin
            obtain ⟨T1, hT1⟩ : ∃ T1, cBase i ++ [44, 32, 34, 92, 117, 48, 48, 54, 49, 34, 58, 51, 125] = T1 := ⟨_, rfl⟩
            obtain ⟨T2, hT2⟩ : ∃ T2, cBase i ++ [125] = T2 := ⟨_, rfl⟩
            have hl1 : T1.length ≤ 1000 := by rw [← hT1, List.length_append]; simp; omega
            have hl2 : T2.length ≤ 1000 := by rw [← hT2, List.length_append]; simp; omega
            rw [hT1] at hap1 hfin
            rw [hT2] at hap2 hfin
            obtain ⟨f1, f2, f3⟩ := hfin
            have F1 := Lib.hid f1
            have F2 := Lib.hid f2
            have F3 := Lib.hid f3
            have hs1 : (ByteArray.mk T1.toArray).size ≤ 140737488355328 := by rw [sx_size]; omega
            have hs2 : (ByteArray.mk T2.toArray).size ≤ 140737488355328 := by rw [sx_size]; omega
            clear f1 f2 f3 hT1 hT2
            go_wp2_with (first | (refine wpList_bytes_of_string wr rfl 9 22 5 _ rfl ⟨T1.toArray⟩ rfl Tryd.underlying9 Tryd.underlying22 Tryd.underlying5 hs1 ?_; intro cap2 w2 hE2 hcap2 hcm2 hsz2 hat2) | fail)
            rw [sx_size] at hcap2
            refine (top_any _ T1 _ (Bytes.mk hat2 rfl hcap2 hcm2 (by omega))).mono ?_
            intro e w3 hend
            obtain ⟨c3, rfl, htv3, hw3⟩ := hend
            rw [F1.out, F2.out]
            obtain ⟨ya, yb, yc, yd, rfl⟩ := htv3.shape
            have HW3 := Lib.hid (ext_trans (ext_trans HE.out hE2) hw3)
            clear htv3 hw3 hE2 hat2
            generalize (parseP T1).1 = t1 at *
            obtain ⟨tk, tb, td, ts, tl, tm⟩ := t1
            simp only [Tree.kind, Tree.bit, Tree.num, Tree.str, Tree.list, Tree.mems, cellsV]
            go_upto_region 19 with fail
            have hx4 := ext_trans HW3.out ((ext_refl w3).alloc (Nat.le_refl _) (.cells #[.int .i64 tk, .bool tb, .bool td.neg, .string ⟨td.digits.toArray⟩, .int .i64 td.exp, .string ⟨ts.toArray⟩, .slice ya tl.length yb, .slice yc tm.length yd] 29))
            generalize w3.alloc (.cells #[.int .i64 tk, .bool tb, .bool td.neg, .string ⟨td.digits.toArray⟩, .int .i64 td.exp, .string ⟨ts.toArray⟩, .slice ya tl.length yb, .slice yc tm.length yd] 29) = w4 at *
            have HX4 := Lib.hid hx4
            clear hx4 HW3
            go_wp2_with (first | (refine wpList_bytes_of_string w4 rfl 9 22 5 _ rfl ⟨T2.toArray⟩ rfl Tryd.underlying9 Tryd.underlying22 Tryd.underlying5 hs2 ?_; intro cap5 w5 hE5 hcap5 hcm5 hsz5 hat5) | fail)
            rw [sx_size] at hcap5
            refine (top_any _ T2 _ (Bytes.mk hat5 rfl hcap5 hcm5 (by omega))).mono ?_
            intro e w6 hend
            obtain ⟨c6, rfl, htv6, hw6⟩ := hend
            rw [F3.out]
            obtain ⟨za, zb, zc, zd, rfl⟩ := htv6.shape
            have HW6 := Lib.hid (ext_trans (ext_trans HX4.out hE5) hw6)
            clear htv6 hw6 hE5 hat5
            generalize (parseP T2).1 = t2 at *
            obtain ⟨uk, ub, ud, us, ul, um⟩ := t2
            simp only [Tree.kind, Tree.bit, Tree.num, Tree.str, Tree.list, Tree.mems, cellsV]
            have e2 : IntKind.i64.wrap (((cBase i).length : Int) + 2) = (((cBase i).length + 2 : Nat) : Int) := by rw [IntWalk.i64_in _ (by omega)]; omega
            go_wp2_with fail
            go_ret
            exact ⟨rfl, Below.alloc HW6.out HW6.out.size _⟩
set_option linter.unusedSimpArgs false
theorem own : ownKnob Tryd.prog.godebug = none := by kernel_rfl
theorem laid : laidOutB Tryd.prog = true := by kernel_rfl
set_option maxHeartbeats 1600000 in
set_option maxRecDepth 100000 in
theorem lifted (os : Os) (started : os.Started) (H : Type) (enc : TypeId × Value → H) :
    ReturnsInHanded {} Tryd.checked os 5 .any (fun w args => (Rows.parseCountsSpec.pre enc Tryd.prog Tryd.f5 [] false w args ∧ laidMetH Tryd.prog Rows.parseCountsRow.laid w) ∧ sizedMet enc Tryd.prog Tryd.f5 (OpenSpec.ofChange Rows.parseCountsSpec) false w args) (Rows.parseCountsSpec.post enc Tryd.prog Tryd.f5 false true false false) := by
  refine returnsInHanded_of_change_and (C := Tryd.checked) (X := fun w _ => laidMetH Tryd.prog Rows.parseCountsRow.laid w) (fun _ _ _ hh h => h.of_heap hh) own started (by kernel_rfl) Tryd.func5
    (ChangeSpec.witness_shaped (enc := enc) (C := Tryd.checked) (os := os) (X := fun w _ => laidMetH Tryd.prog Rows.parseCountsRow.laid w) false (World.laidAll Tryd.prog os Rows.parseCountsRow.laid) #[.int .i64 0, .int .i64 0] 8 (World.laidAll_os _ _ _)
      (World.shaped_of_ZipB (by kernel_rfl) (by kernel_rfl)) (by kernel_rfl) (by kernel_rfl) (by kernel_rfl)
      (by rw [MakeChecks.laidMetH_plain _ _ _ (by kernel_rfl)]; exact laidMet_laidAll _ (by kernel_rfl) (by kernel_rfl))) ?_
  intro W base args ds gs before hval0 hW _ hsz0 _ _
  have hsz : (DataW.weightsEach Tryd.prog (Tryd.f5.params.toList ++ Rows.parseCountsSpec.plain.varTypes Tryd.prog) (ds ++ gs)).all (· ≤ reachBytes) = true := hsz0
  clear hsz0
  have hval : ∀ (j : Nat) t v, Tryd.f5.params[j]? = some t → args[j]? = some v → Value.okWide Tryd.prog W .any base t v := hval0
  have hW' := hW
  obtain ⟨p, q, hA0, hV, rfl, _, _⟩ := hW
  have hA : DataW.TrodAll enc Tryd.prog W 0 (fun _ => true) true Tryd.f5.params.toList args.toList ds p := hA0
  rw [Tryd.params5] at hA hval hsz
  obtain ⟨v0, vs0, d0, ds0, p0, q0, ha0, rfl, rfl, h0, r0⟩ := trodAll_cons hA
  obtain ⟨v1, vs1, d1, ds1, p1, q1, ha1, rfl, rfl, h1, r1⟩ := trodAll_cons r0
  obtain ⟨hb2, rfl, rfl⟩ := trodAll_nil r1
  subst hb2
  subst ha1
  obtain rfl : args = #[v0, v1] := by cases args; simpa using ha0
  obtain ⟨rfl, rfl⟩ := trodVars_none hV
  have hk0 := h0
  obtain ⟨a0, rfl, rfl, rfl, wf0⟩ := open_int Tryd.underlying3 (hval 0 3 v0 rfl rfl) h0
  have hr0 : -9223372036854775808 ≤ a0 ∧ a0 ≤ 9223372036854775807 := by simpa [Lit.wf, IntKind.min, IntKind.max, IntKind.signed, IntKind.bits] using wf0
  have hk1 := h1
  obtain ⟨a1, rfl, rfl, rfl, wf1⟩ := open_int Tryd.underlying3 (hval 1 3 v1 rfl rfl) h1
  have hr1 : -9223372036854775808 ≤ a1 ∧ a1 ≤ 9223372036854775807 := by simpa [Lit.wf, IntKind.min, IntKind.max, IntKind.signed, IntKind.bits] using wf1
  have hlt := fun x hx => hW'.lt x hx
  simp only [List.append_nil, List.nil_append] at hW' hlt
  refine (walk a0 hr0.1 hr0.2 a1 hr1.1 hr1.2 W ).mono fun e W' ⟨he, hb⟩ => ?_
  subst he
  have hargs := (trodAll_cons_mk (Below.trod laid (by kernel_rfl) (of_decide_eq_true (by kernel_rfl)) hk0 hb (fun x hx => by first | exact hlt x hx | exact absurd hx (List.not_mem_nil) | exact hlt x (by simp [hx]))) (trodAll_cons_mk (Below.trod laid (by kernel_rfl) (of_decide_eq_true (by kernel_rfl)) hk1 hb (fun x hx => by first | exact hlt x hx | exact absurd hx (List.not_mem_nil) | exact hlt x (by simp [hx]))) trodAll_mk0))
  exact ⟨_, rfl, _, _, _, [], _, [], hW', trodAll_cons_mk (shut_bool Tryd.underlying4 _) trodAll_mk0, hargs, rfl, hb.frame _, fun h => by cases h⟩

theorem held : Rows.ParseCountsSaid :=
  OpenClaim.holds_of_wide 5 Tryd.f5 rfl rfl rfl rfl rfl rfl rfl ⟨rfl, rfl, rfl, rfl, rfl⟩ rfl rfl rfl rfl rfl (by kernel_rfl) Tryd.func5 (by kernel_rfl)
    (of_decide_eq_true (by kernel_rfl)) (by unfold Func.isWrapper; first | (rw [if_pos (by decide +kernel)]; kernel_rfl) | (rw [if_neg (by decide +kernel)]; exact ⟨rfl, rfl⟩))
    (fun os started H enc _ => lifted os started H enc)

theorem proved : Rows.ParseCountsCardSaid :=
  Claim7.holds_tied_plain_at .later [] Rows.parseCountsCard.laidKinds true Rows.parseCountsCard.stood.harness Rows.parseCountsCard.stood.looks held (fun _ h => by cases h) (by kernel_rfl) (fun _ h => by cases h) parseCounts_row_tie rfl ⟨rfl, rfl⟩ (by kernel_rfl) rfl
    (fun f fn hf hfn => by
      obtain rfl : f = 5 := Option.some.inj ((show Tryd.prog.funcNamed "orangery/orangerylaw04.ParseCounts" = some 5 by kernel_rfl).symm.trans hf) |>.symm
      obtain rfl : fn = Tryd.f5 := (Option.some.inj (Tryd.func5.symm.trans hfn)).symm
      exact ⟨by kernel_rfl, fun j t ht => by
        rw [Tryd.params5] at ht
        have hm : t ∈ [3, 3] := by simpa using Array.mem_of_getElem? ht
        have hall : ([3, 3].all fun u => !Tryd.prog.wantsStandIn u) = true := by kernel_rfl
        exact (show Tryd.prog.wantsStandIn t = false by simpa using List.all_eq_true.1 hall t hm)⟩)
    (by kernel_rfl)
end Go.Proofs.YtckpndbmpigegaaDoor.parseCounts
