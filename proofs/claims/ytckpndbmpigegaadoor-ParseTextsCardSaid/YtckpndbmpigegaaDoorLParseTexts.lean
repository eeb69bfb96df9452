/- ParseTexts: letters in signs are a Str of them; a control, or no sign at the end, is an error, there: whatever the input, the law returns true and the input reads as it did. No condition. -/
import Derived.Test.YtckpndbmpigegaaDoorRows
import Derived.Test.YtckpndbmpigegaaDoorCards
import Derived.Test.YtckpndbmpigegaaDoorTie
import Derived.Test.YtckpndbmpigegaaDoorPaAp
import Derived.Test.YtckpndbmpigegaaDoorPaGw
import Derived.Test.YtckpndbmpigegaaDoorPaTx
import Derived.Test.YtckpndbmpigegaaDoorFrame
import Derived.ProofKit
import Derived.SizedLaws
import Derived.OpenShut
import Derived.Lay
import Derived.LaidMore
import Derived.SevenTiedAt
import Derived.IntWalk
import Derived.Laws.BitsLemmas
set_option linter.unusedVariables false
set_option linter.unusedSimpArgs false
set_option maxRecDepth 100000
namespace Go.Proofs.YtckpndbmpigegaaDoor.parseTexts
open Go.ChangeShapes Go.WideShapes Go.ChangeAt Go.RowKit Go.Mem Orange

theorem i64_and16 (n : Int) : bits .and .i64 n 65535 = n % 65536 := by
  have h127 : (BitVec.ofInt 64 65535).toNat = 2 ^ 16 - 1 := by decide
  have key : (BitVec.ofInt 64 n &&& BitVec.ofInt 64 65535).toNat = (n % ((2 ^ 64 : Nat) : Int)).toNat % 2 ^ 16 := by
    rw [BitVec.toNat_and, BitVec.toNat_ofInt, h127, Nat.and_two_pow_sub_one_eq_mod]
  show IntKind.i64.wrap ((BitVec.ofInt 64 n &&& BitVec.ofInt 64 65535).toNat : Nat) = n % 65536
  rw [key, IntKind.wrap_i64]
  omega
theorem get_arr (l : List UInt8) (i : Nat) (h : i < l.length) : (ByteArray.mk l.toArray)[i]'(by show i < l.toArray.size; simpa using h) = l[i] := rfl
theorem pick (a : Int) : ∃ p : Nat, bits .and .i64 a 65535 = p ∧ p < 65536 := by
  exact ⟨(a % 65536).toNat, by rw [i64_and16]; omega, by omega⟩
-- a string's bytes, parsed, laid in a new box: $1 the text, $2 its size's fact, $3 the world ahead, $4 the fact on parseP ('rw'), $5 the next region
set_option maxHeartbeats 12800000 in
theorem walk (s : ByteArray) (hs : s.size ≤ 140737488351232) (c : Int) (hc0 : 0 ≤ c) (hc1 : c ≤ 255) (k : Int) (hk0 : -9223372036854775808 ≤ k) (hk1 : k ≤ 9223372036854775807) (w : World) :
    Calls Tryd.prog 7 #[.string s, .int .u8 c, .int .i64 k] w fun e w' => e = .returned (.bool true) ∧ Ext w w' := by
  obtain ⟨l, rfl⟩ := sx_of s
  rw [sx_size] at hs
  go_enter Tryd.func7, Tryd.ntmps7
  go_wp2_with fail
  refine (pawake _).mono ?_
  rintro e w1 ⟨rfl, hw1⟩
  by_cases hlen : 300 < l.length
  · have hd : decide (300 < (l.length : Int)) = true := by simp; omega
    go_wp2_with fail
    go_ret
    exact ⟨rfl, hw1⟩
  have hd : decide (300 < (l.length : Int)) = false := by simp; omega
  go_wp2_with fail
  have HE := Lib.hid hw1
  clear hw1
  go_loopw [8] (fun iv wr => ∃ i : Nat, iv = .int .i64 i ∧ i ≤ l.length ∧ (l.take i).all isLet = true ∧ wr = w1) (fun iv _ => 5000 - (intOf iv).toNat)
  case atStart => exact ⟨0, rfl, by omega, by simp, rfl⟩
  case round =>
    obtain ⟨i, rfl, hi, hall, rfl⟩ := hrel
    have HA := Lib.hid hall
    clear hall
    by_cases hlt : i < l.length
    · have hget := get_arr l i hlt
      have hlti : (i : Int) < l.length := by omega
      obtain ⟨x, hx⟩ : ∃ x, l[i] = x := ⟨_, rfl⟩
      have HX := Lib.hid hx
      rw [hx] at hget
      have e9 : IntKind.i64.wrap ((i : Int) + 1) = ((i + 1 : Nat) : Int) := by rw [IntWalk.i64_in _ (by omega)]; omega
      clear hx
      by_cases h97 : x.toNat < 97
      · have hb : decide ((x.toNat : Int) < 97) = true := by simp; omega
        go_wp2_with fail
        go_ret
        exact ⟨rfl, HE.out⟩
      have hb : decide ((x.toNat : Int) < 97) = false := by simp; omega
      by_cases h122 : 122 < x.toNat
      · have hb2 : decide (122 < (x.toNat : Int)) = true := by simp; omega
        go_wp2_with fail
        go_ret
        exact ⟨rfl, HE.out⟩
      have hb2 : decide (122 < (x.toNat : Int)) = false := by simp; omega
      have HN : Hid ((l.take (i + 1)).all isLet = true) := Lib.hid (by
        rw [List.take_add_one, List.all_append, HA.out, List.getElem?_eq_getElem hlt, HX.out]
        simp [isLet]; omega)
      clear h97 h122
      go_wp2_with fail
      go_roundw
      case rel => exact ⟨i + 1, by go_num, by omega, HN.out, by first | rfl | trivial⟩
      case measure => simp [intOf]; omega
    · obtain rfl : i = l.length := by omega
      have hdl : decide ((l.length : Int) < (l.length : Int)) = false := by simp
      have HL : Hid (l.all isLet = true) := Lib.hid (by have := HA.out; rwa [List.take_length] at this)
      clear hi hlt HA
      have hg1 := Lib.hid (text_good l HL.out (by omega))
      have hg2 := Lib.hid (text_open l HL.out (by omega))
      obtain ⟨T0, hT0⟩ : ∃ T0, 34 :: l = T0 := ⟨_, rfl⟩
      obtain ⟨T1, hT1⟩ : ∃ T1, 34 :: (l ++ [34]) = T1 := ⟨_, rfl⟩
      have hap1 : ByteArray.mk #[34] ++ ByteArray.mk l.toArray = ⟨T0.toArray⟩ := by rw [← hT0]; exact ba_app [34] l
      have hap2 : ByteArray.mk T0.toArray ++ ByteArray.mk #[34] = ⟨T1.toArray⟩ := by rw [← hT1, ← hT0]; exact ba_app (34 :: l) [34]
      have hl0 : T0.length ≤ 1000 := by rw [← hT0]; simp; omega
      have hl1 : T1.length ≤ 1000 := by rw [← hT1]; simp; omega
      rw [hT1] at hg1
      rw [hT0] at hg2
      have hs0 : (ByteArray.mk T0.toArray).size ≤ 140737488355328 := by rw [sx_size]; omega
      have hs1 : (ByteArray.mk T1.toArray).size ≤ 140737488355328 := by rw [sx_size]; omega
      have HT0 := Lib.hid hT0
      clear hT0 hT1
      go_wp2_with (first | (refine wpList_bytes_of_string wr rfl 9 22 5 _ rfl ⟨(T1).toArray⟩ rfl Tryd.underlying9 Tryd.underlying22 Tryd.underlying5 hs1 ?_; intro cap2 w2 hE2 hcap2 hcm2 hsz2 hat2) | fail)
      rw [sx_size] at hcap2
      refine (top_any _ (T1) _ (Bytes.mk hat2 rfl hcap2 hcm2 (by omega))).mono ?_
      intro e w3 hend
      obtain ⟨c3, rfl, htv3, hw3⟩ := hend
      rw [hg1.out] at htv3 ⊢
      obtain ⟨ya, yb, yc, yd, rfl⟩ := htv3.shape
      have HX3 := Lib.hid (ext_trans hE2 hw3)
      have HW3 := Lib.hid (ext_trans (ext_trans HE.out hE2) hw3)
      clear htv3 hw3 hE2 hat2 hcap2 hcm2 hsz2
      simp only [tStr, tNull, Num.zero, Tree.kind, Tree.bit, Tree.num, Tree.str, Tree.list, Tree.mems, cellsV, List.length_nil]
      go_upto_region 10 with fail
      have hx4 := (ext_refl w3).alloc (Nat.le_refl _) (.cells #[.int .i64 3, .bool false, .bool false, .string ⟨#[]⟩, .int .i64 0, .string ⟨l.toArray⟩, .slice ya 0 yb, .slice yc 0 yd] 29)
      have hv4 := VAt.new w3 #[.int .i64 3, .bool false, .bool false, .string ⟨#[]⟩, .int .i64 0, .string ⟨l.toArray⟩, .slice ya 0 yb, .slice yc 0 yd]
      generalize w3.alloc (.cells #[.int .i64 3, .bool false, .bool false, .string ⟨#[]⟩, .int .i64 0, .string ⟨l.toArray⟩, .slice ya 0 yb, .slice yc 0 yd] 29) = w4 at *
      obtain ⟨P, hP⟩ : ∃ P, w3.heap.size = P := ⟨_, rfl⟩
      rw [hP] at hv4 ⊢
      replace HE := Lib.hid (ext_trans HW3.out hx4)
      have HV := Lib.hid hv4
      clear hx4 hv4 HW3 hP
      go_wp2_with (first | (refine wpList_bytes_of_string w4 rfl 9 22 5 _ rfl ⟨(T0).toArray⟩ rfl Tryd.underlying9 Tryd.underlying22 Tryd.underlying5 hs0 ?_; intro cap2 w2 hE2 hcap2 hcm2 hsz2 hat2) | fail)
      rw [sx_size] at hcap2
      refine (top_any _ (T0) _ (Bytes.mk hat2 rfl hcap2 hcm2 (by omega))).mono ?_
      intro e w3 hend
      obtain ⟨c3, rfl, htv3, hw3⟩ := hend
      rw [hg2.out] at htv3 ⊢
      obtain ⟨ya, yb, yc, yd, rfl⟩ := htv3.shape
      have HX3 := Lib.hid (ext_trans hE2 hw3)
      have HW3 := Lib.hid (ext_trans (ext_trans HE.out hE2) hw3)
      clear htv3 hw3 hE2 hat2 hcap2 hcm2 hsz2
      simp only [tStr, tNull, Num.zero, Tree.kind, Tree.bit, Tree.num, Tree.str, Tree.list, Tree.mems, cellsV, List.length_nil]
      go_upto_region 11 with fail
      have hx4 := (ext_refl w3).alloc (Nat.le_refl _) (.cells #[.int .i64 0, .bool false, .bool false, .string ⟨#[]⟩, .int .i64 0, .string ⟨#[]⟩, .slice ya 0 yb, .slice yc 0 yd] 29)
      replace HV := Lib.hid ((HV.out.ext HX3.out).ext hx4)
      replace HE := Lib.hid (ext_trans HW3.out hx4)
      generalize w3.alloc (.cells #[.int .i64 0, .bool false, .bool false, .string ⟨#[]⟩, .int .i64 0, .string ⟨#[]⟩, .slice ya 0 yb, .slice yc 0 yd] 29) = w5 at *
      obtain ⟨P2, hP2⟩ : ∃ P2, w3.heap.size = P2 := ⟨_, rfl⟩
      rw [hP2] at hx4 ⊢
      clear hx4 HW3 HX3 hP2 hs0 hs1 hap1 hap2 hg1 hg2 hl1
      obtain ⟨p, hp, hpl⟩ := pick k
      obtain ⟨q, hq⟩ : ∃ q, p % (l.length + 1) = q := ⟨_, rfl⟩
      have hql : q ≤ l.length := by have := Nat.mod_lt p (show 0 < l.length + 1 by omega); omega
      have hrem : (p : Int).tmod ((l.length : Int) + 1) = q := by
        rw [Int.tmod_eq_emod_of_nonneg (by omega)]
        show (p : Int) % ((l.length + 1 : Nat) : Int) = q
        rw [← Int.natCast_emod, hq]
      have hz : ¬ ((l.length : Int) + 1 = 0) := by omega
      clear hq
      go_upto_region 12 with fail
      clear hp hpl hrem hz
      obtain ⟨cu, hcu⟩ : ∃ cu : UInt8, c = (cu.toNat : Int) := ⟨UInt8.ofNat c.toNat, by rw [UInt8.toNat_ofNat']; omega⟩
      subst hcu
      have hand := and_u8 cu 31 (by decide)
      obtain ⟨xb, hxb⟩ : ∃ xb : UInt8, ((cu.toNat &&& 31 : Nat) : Int) = (xb.toNat : Int) := ⟨UInt8.ofNat (cu.toNat &&& 31), by rw [UInt8.toNat_ofNat']; have : cu.toNat &&& 31 ≤ 31 := Nat.and_le_right; omega⟩
      have hx32 : xb.toNat < 32 := by have : cu.toNat &&& 31 ≤ 31 := Nat.and_le_right; omega
      rw [hxb] at hand
      have hand : bits .and .u8 (cu.toNat : Int) 31 = (xb.toNat : Int) := hand
      clear hxb hc0 hc1
      have hall1 : (l.take q).all isLet = true := by
        have := HL.out
        rw [← List.take_append_drop q l, List.all_append, Bool.and_eq_true] at this
        exact this.1
      have hg3 := Lib.hid (text_ctl (l.take q) (l.drop q ++ [34]) xb hall1 hx32 (by simp; omega))
      have hsl1 := sx_take l q
      have hsl2 := sx_drop l q l.length (Nat.le_refl _)
      obtain ⟨A, hA⟩ : ∃ A, l.take q = A := ⟨_, rfl⟩
      obtain ⟨D, hD⟩ : ∃ D, l.drop q = D := ⟨_, rfl⟩
      rw [hA] at hsl1 hg3
      rw [hD] at hsl2 hg3
      have hAl : A.length = q := by rw [← hA, List.length_take]; omega
      have hDl : D.length ≤ 300 := by rw [← hD, List.length_drop]; omega
      rw [hAl] at hg3
      have hqi : (q : Int) ≤ l.length := by omega
      have hap3 := ba_app [34] A
      have hap4 := ba_app ([34] ++ A) [xb]
      have hap5 := ba_app ([34] ++ A ++ [xb]) D
      have hap6 := ba_app ([34] ++ A ++ [xb] ++ D) [34]
      obtain ⟨S1, hS1⟩ : ∃ S1, [34] ++ A = S1 := ⟨_, rfl⟩
      rw [hS1] at hap3 hap4 hap5 hap6
      obtain ⟨S2, hS2⟩ : ∃ S2, S1 ++ [xb] = S2 := ⟨_, rfl⟩
      rw [hS2] at hap4 hap5 hap6
      obtain ⟨S3, hS3⟩ : ∃ S3, S2 ++ D = S3 := ⟨_, rfl⟩
      rw [hS3] at hap5 hap6
      obtain ⟨S4, hS4⟩ : ∃ S4, S3 ++ [34] = S4 := ⟨_, rfl⟩
      rw [hS4] at hap6
      have h4l : S4.length ≤ 1000 := by rw [← hS4, ← hS3, ← hS2, ← hS1]; simp; omega
      rw [show 34 :: (A ++ xb :: (D ++ [34])) = S4 by rw [← hS4, ← hS3, ← hS2, ← hS1]; simp] at hg3
      have hl1 : S1.length ≤ 1000 := by rw [← hS1]; simp; omega
      have hl2 : S2.length ≤ 1000 := by rw [← hS2, ← hS1]; simp; omega
      have hl3 : S3.length ≤ 1000 := by rw [← hS3, ← hS2, ← hS1]; simp; omega
      have hc3 : ¬ 9223372036854775807 < 1 + q := by omega
      have hc4 : ¬ 9223372036854775807 < S1.length + 1 := by omega
      have hc5 : ¬ 9223372036854775807 < S2.length + D.length := by omega
      have hc6 : ¬ 9223372036854775807 < S3.length + 1 := by omega
      clear hS1 hS2 hS3 hS4 hA hD hall1
      refine Grow.wp_region_litW (G := GW w5.heap.size) (B := fun w' => GW w5.heap.size w5 w') (anc := fun j => if j = 7 then [6] else if j = 15 then [14] else if j = 21 then [20] else [])
        (I := fun j => if j = 6 then some (specU _ [xb]) else if j = 7 then some (Grow.specV _ (.string ⟨#[xb]⟩)) else if j = 14 then some (specU _ S4) else if j = 15 then some (specT _ 2 (q + 1 : Nat)) else if j = 20 then some (specBox _) else if j = 21 then some (specN _) else none)
        (by kernel_rfl) (by kernel_rfl) (by kernel_rfl) ?_ ?_ ?_
      · exact fun w w' h hg => h.trans hg
      · exact GW.ofExt (ext_refl _).drew (Nat.le_refl _)
      repeat
        (refine Grow.Wk.step (fun K hK => ?_)
         first
         | (refine Grow.step_read (by rfl) (by rfl) GW.refl ?_
            apply Exists.intro
            refine ⟨fun w hB hF => ?_, ?_⟩
            · skip
              go_simp
              try exact rfl
            go_simp
            refine hK _ _ ?_
            clear hK K)
         | (refine Grow.step_off (by rfl) ?_
            go_simp
            refine hK _ _ ?_
            clear hK K))
      refine Grow.Wk.step (fun K hK => ?_)
      refine Grow.step_rel (by rfl) (by rfl) (fun w' hB hF => ?_) (fun v hv => ?_)
      · have hn := bytes_new w' #[.int .u8 xb.toNat] 5 [xb] rfl 1 rfl (by omega)
        go_simp
        exact Grow.relUpon_value (GW.ofExt ((ext_refl w').alloc (Nat.le_refl _) _) hB.below.size) ⟨_, _, rfl⟩ ⟨_, _, _, _, rfl, heap_alloc_new _ _, hn⟩
      obtain ⟨va, vc, rfl⟩ := hv
      go_simp
      refine hK _ _ ?_
      clear hK K
      refine Grow.Wk.step (fun K hK => ?_)
      refine Grow.step_rel (by rfl) (by rfl) (fun w' hB hF => ?_) (fun v hv => ?_)
      · obtain ⟨g, cap, cur, fr, e1, _, hb⟩ := hF 6 (by simp)
        simp only [Value.slice.injEq] at e1
        obtain ⟨rfl, -, rfl⟩ := e1
        have hrs := run_string_of_bytes w' hb 22 9 5 Tryd.underlying22 Tryd.underlying5 Tryd.underlying9
        go_simp
        exact ⟨GW.refl _, rfl, trivial⟩
      obtain rfl : v = _ := hv
      go_simp
      refine hK _ _ ?_
      clear hK K
      repeat
        (refine Grow.Wk.step (fun K hK => ?_)
         first
         | (refine Grow.step_read (by rfl) (by rfl) GW.refl ?_
            apply Exists.intro
            refine ⟨fun w hB hF => ?_, ?_⟩
            · skip
              go_simp
              try exact rfl
            go_simp
            refine hK _ _ ?_
            clear hK K)
         | (refine Grow.step_off (by rfl) ?_
            go_simp
            refine hK _ _ ?_
            clear hK K))
      refine Grow.Wk.step (fun K hK => ?_)
      refine Grow.step_rel (by rfl) (by rfl) (fun w' hB hF => ?_) (fun v hv => ?_)
      · have hrs := run_bytes_of_string (P := Tryd.prog) w' 9 22 5 ⟨S4.toArray⟩ Tryd.underlying9 Tryd.underlying22 Tryd.underlying5
        have hge := grownCap_ge w' S4.length 0 5
        have hm2 := grownCap_le_maxLen w' S4.length 0 5 (by simp only [maxLen]; omega)
        simp only [maxLen] at hm2
        go_simp
        exact Grow.relUpon_value (GW.ofExt (((ext_refl w').alloc (Nat.le_refl _) _).drew) hB.below.size) ⟨_, _, rfl⟩ ⟨_, _, _, _, rfl, heap_alloc_new w' _, Bytes.mk (BytesAt.ext (bytes_of_string_at w' ⟨S4.toArray⟩ _ _ _ hge) (ext_refl _).drew) rfl hge hm2 (by omega)⟩
      obtain ⟨ba, bc, rfl⟩ := hv
      go_simp
      refine hK _ _ ?_
      clear hK K
      refine Grow.Wk.step (fun K hK => ?_)
      refine Grow.step_rel (by rfl) (by rfl) (fun w' hB hF => ?_) (fun v hv => ?_)
      · obtain ⟨g, cap, cur, fr, e1, _, hb⟩ := hF 14 (by simp)
        simp only [Value.slice.injEq] at e1
        obtain ⟨rfl, -, rfl⟩ := e1
        go_simp
        refine Grow.relUpon_enter ((top_any _ S4 w' hb).mono ?_)
        rintro e w'' ⟨c9, rfl, htv, hw''⟩
        rw [hg3.out] at htv ⊢
        obtain ⟨za, zb, zc, zd, rfl⟩ := htv.shape
        exact ⟨_, rfl, GW.ofExt hw'' hB.below.size, ⟨za, zb, zc, zd, rfl⟩, trivial⟩
      obtain ⟨za, zb, zc, zd, rfl⟩ := hv
      go_simp
      refine hK _ _ ?_
      clear hK K
      repeat
        (refine Grow.Wk.step (fun K hK => ?_)
         first
         | (refine Grow.step_read (by rfl) (by rfl) GW.refl ?_
            apply Exists.intro
            refine ⟨fun w hB hF => ?_, ?_⟩
            · skip
              go_simp
              try exact rfl
            go_simp
            refine hK _ _ ?_
            clear hK K)
         | (refine Grow.step_off (by rfl) ?_
            go_simp
            refine hK _ _ ?_
            clear hK K))
      refine Grow.Wk.step (fun K hK => ?_)
      refine Grow.step_rel (by rfl) (by rfl) (fun w' hB hF => ?_) (fun v hv => ?_)
      · go_simp
        exact Grow.relUpon_value (GW.ofExt ((ext_refl w').alloc (Nat.le_refl _) _) hB.below.size) ⟨_, rfl⟩ ⟨_, _, rfl, hB.below.size, VAt.new w' zeroV, rfl⟩
      obtain ⟨bp, rfl⟩ := hv
      go_simp
      refine hK _ _ ?_
      clear hK K
      refine Grow.Wk.step (fun K hK => ?_)
      refine Grow.step_rel (by rfl) (by rfl) (fun w' hB hF => ?_) (fun v hv => ?_)
      · obtain ⟨p9, c9, e1, hpb, hv9, h8⟩ := hF 20 (by simp)
        obtain rfl : bp = p9 := by simpa using e1
        have HV9 := Lib.hid hv9
        obtain ⟨x0, r0⟩ := eight_cells HV9.out h8 0 (by omega)
        obtain ⟨x1, r1⟩ := eight_cells HV9.out h8 1 (by omega)
        obtain ⟨x2, r2⟩ := eight_cells HV9.out h8 2 (by omega)
        obtain ⟨x3, r3⟩ := eight_cells HV9.out h8 3 (by omega)
        obtain ⟨x4, r4⟩ := eight_cells HV9.out h8 4 (by omega)
        obtain ⟨x5, r5⟩ := eight_cells HV9.out h8 5 (by omega)
        obtain ⟨x6, r6⟩ := eight_cells HV9.out h8 6 (by omega)
        obtain ⟨x7, r7⟩ := eight_cells HV9.out h8 7 (by omega)
        have s0 := HV9.out.free 0; have s1 := HV9.out.free 1; have s2 := HV9.out.free 2; have s3 := HV9.out.free 3; have s4 := HV9.out.free 4; have s5 := HV9.out.free 5; have s6 := HV9.out.free 6; have s7 := HV9.out.free 7
        have hst := gw_store (us := [.int .i64 0, .bool false, .bool false, .string ⟨#[]⟩, .int .i64 0, .string ⟨#[]⟩, .slice za 0 zb, .slice zc 0 zd]) HV9.out hpb h8
        simp only [storeL, Nat.zero_add, Nat.reduceAdd] at hst
        have HST := Lib.hid hst
        clear hst hv9 hB hF e1
        go_simp
        exact ⟨HST.out, rfl, trivial⟩
      obtain rfl : v = _ := hv
      go_simp
      refine hK _ _ ?_
      clear hK K
      repeat
        (refine Grow.Wk.step (fun K hK => ?_)
         first
         | (refine Grow.step_read (by rfl) (by rfl) GW.refl ?_
            apply Exists.intro
            refine ⟨fun w hB hF => ?_, ?_⟩
            · skip
              go_simp
              try exact rfl
            go_simp
            refine hK _ _ ?_
            clear hK K)
         | (refine Grow.step_off (by rfl) ?_
            go_simp
            refine hK _ _ ?_
            clear hK K))
      refine Grow.Wk.nil ?_
      intro w6 hB hF
      have hE6 := ext_trans HE.out hB.below
      have hv6 := HV.out.ext hB.below
      clear hF hB
      have HV6 := Lib.hid hv6
      have HE6 := Lib.hid hE6
      have q0 := HV6.out.cell 0; have q5 := HV6.out.cell 5
      simp at q0 q5
      clear hv6 hE6 hap3 hap4 hap5 hap6 hc3 hc4 hc5 hc6
      have e2 : IntKind.i64.wrap ((l.length : Int) + 2) = ((l.length + 2 : Nat) : Int) := by rw [IntWalk.i64_in _ (by omega)]; omega
      go_wp2_with fail
      go_ret
      exact ⟨rfl, HE6.out⟩
set_option linter.unusedSimpArgs false
theorem own : ownKnob Tryd.prog.godebug = none := by kernel_rfl
theorem laid : laidOutB Tryd.prog = true := by kernel_rfl
set_option maxHeartbeats 1600000 in
set_option maxRecDepth 100000 in
theorem lifted (os : Os) (started : os.Started) (H : Type) (enc : TypeId × Value → H) :
    ReturnsInHanded {} Tryd.checked os 7 .any (fun w args => (Rows.parseTextsSpec.pre enc Tryd.prog Tryd.f7 [] false w args ∧ laidMetH Tryd.prog Rows.parseTextsRow.laid w) ∧ sizedMet enc Tryd.prog Tryd.f7 (OpenSpec.ofChange Rows.parseTextsSpec) false w args) (Rows.parseTextsSpec.post enc Tryd.prog Tryd.f7 false true false false) := by
  refine returnsInHanded_of_change_and (C := Tryd.checked) (X := fun w _ => laidMetH Tryd.prog Rows.parseTextsRow.laid w) (fun _ _ _ hh h => h.of_heap hh) own started (by kernel_rfl) Tryd.func7
    (ChangeSpec.witness_shaped (enc := enc) (C := Tryd.checked) (os := os) (X := fun w _ => laidMetH Tryd.prog Rows.parseTextsRow.laid w) false (World.laidAll Tryd.prog os Rows.parseTextsRow.laid) #[.string ⟨#[]⟩, .int .u8 0, .int .i64 0] 8 (World.laidAll_os _ _ _)
      (World.shaped_of_ZipB (by kernel_rfl) (by kernel_rfl)) (by kernel_rfl) (by kernel_rfl) (by kernel_rfl)
      (by rw [MakeChecks.laidMetH_plain _ _ _ (by kernel_rfl)]; exact laidMet_laidAll _ (by kernel_rfl) (by kernel_rfl))) ?_
  intro W base args ds gs before hval0 hW _ hsz0 _ _
  have hsz : (DataW.weightsEach Tryd.prog (Tryd.f7.params.toList ++ Rows.parseTextsSpec.plain.varTypes Tryd.prog) (ds ++ gs)).all (· ≤ reachBytes) = true := hsz0
  clear hsz0
  have hval : ∀ (j : Nat) t v, Tryd.f7.params[j]? = some t → args[j]? = some v → Value.okWide Tryd.prog W .any base t v := hval0
  have hW' := hW
  obtain ⟨p, q, hA0, hV, rfl, _, _⟩ := hW
  have hA : DataW.TrodAll enc Tryd.prog W 0 (fun _ => true) true Tryd.f7.params.toList args.toList ds p := hA0
  rw [Tryd.params7] at hA hval hsz
  obtain ⟨v0, vs0, d0, ds0, p0, q0, ha0, rfl, rfl, h0, r0⟩ := trodAll_cons hA
  obtain ⟨v1, vs1, d1, ds1, p1, q1, ha1, rfl, rfl, h1, r1⟩ := trodAll_cons r0
  obtain ⟨v2, vs2, d2, ds2, p2, q2, ha2, rfl, rfl, h2, r2⟩ := trodAll_cons r1
  obtain ⟨hb3, rfl, rfl⟩ := trodAll_nil r2
  subst hb3
  subst ha2
  subst ha1
  obtain rfl : args = #[v0, v1, v2] := by cases args; simpa using ha0
  obtain ⟨rfl, rfl⟩ := trodVars_none hV
  have hk0 := h0
  obtain ⟨a0, rfl, rfl, rfl, _⟩ := Go.ChangeMaps.open_string Tryd.underlying9 (hval 0 9 v0 rfl rfl) h0
  have hs0 : a0.size ≤ 140737488351232 := by have := sized_string hsz (j := 0) rfl rfl; simpa [reachBytes] using this
  have hk1 := h1
  obtain ⟨a1, rfl, rfl, rfl, wf1⟩ := open_int Tryd.underlying5 (hval 1 5 v1 rfl rfl) h1
  have hr1 : 0 ≤ a1 ∧ a1 ≤ 255 := by simpa [Lit.wf, IntKind.min, IntKind.max, IntKind.signed, IntKind.bits] using wf1
  have hk2 := h2
  obtain ⟨a2, rfl, rfl, rfl, wf2⟩ := open_int Tryd.underlying3 (hval 2 3 v2 rfl rfl) h2
  have hr2 : -9223372036854775808 ≤ a2 ∧ a2 ≤ 9223372036854775807 := by simpa [Lit.wf, IntKind.min, IntKind.max, IntKind.signed, IntKind.bits] using wf2
  have hlt := fun x hx => hW'.lt x hx
  simp only [List.append_nil, List.nil_append] at hW' hlt
  refine (walk a0 hs0 a1 hr1.1 hr1.2 a2 hr2.1 hr2.2 W ).mono fun e W' ⟨he, hb⟩ => ?_
  subst he
  have hargs := (trodAll_cons_mk (Below.trod laid (by kernel_rfl) (of_decide_eq_true (by kernel_rfl)) hk0 hb (fun x hx => by first | exact hlt x hx | exact absurd hx (List.not_mem_nil) | exact hlt x (by simp [hx]))) (trodAll_cons_mk (Below.trod laid (by kernel_rfl) (of_decide_eq_true (by kernel_rfl)) hk1 hb (fun x hx => by first | exact hlt x hx | exact absurd hx (List.not_mem_nil) | exact hlt x (by simp [hx]))) (trodAll_cons_mk (Below.trod laid (by kernel_rfl) (of_decide_eq_true (by kernel_rfl)) hk2 hb (fun x hx => by first | exact hlt x hx | exact absurd hx (List.not_mem_nil) | exact hlt x (by simp [hx]))) trodAll_mk0)))
  exact ⟨_, rfl, _, _, _, [], _, [], hW', trodAll_cons_mk (shut_bool Tryd.underlying4 _) trodAll_mk0, hargs, rfl, hb.frame _, fun h => by cases h⟩

theorem held : Rows.ParseTextsSaid :=
  OpenClaim.holds_of_wide 7 Tryd.f7 rfl rfl rfl rfl rfl rfl rfl ⟨rfl, rfl, rfl, rfl, rfl⟩ rfl rfl rfl rfl rfl (by kernel_rfl) Tryd.func7 (by kernel_rfl)
    (of_decide_eq_true (by kernel_rfl)) (by unfold Func.isWrapper; first | (rw [if_pos (by decide +kernel)]; kernel_rfl) | (rw [if_neg (by decide +kernel)]; exact ⟨rfl, rfl⟩))
    (fun os started H enc _ => lifted os started H enc)

theorem proved : Rows.ParseTextsCardSaid :=
  Claim7.holds_tied_plain_at .later [] Rows.parseTextsCard.laidKinds true Rows.parseTextsCard.stood.harness Rows.parseTextsCard.stood.looks held (fun _ h => by cases h) (by kernel_rfl) (fun _ h => by cases h) parseTexts_row_tie rfl ⟨rfl, rfl⟩ (by kernel_rfl) rfl
    (fun f fn hf hfn => by
      obtain rfl : f = 7 := Option.some.inj ((show Tryd.prog.funcNamed "orangery/orangerylaw04.ParseTexts" = some 7 by kernel_rfl).symm.trans hf) |>.symm
      obtain rfl : fn = Tryd.f7 := (Option.some.inj (Tryd.func7.symm.trans hfn)).symm
      exact ⟨by kernel_rfl, fun j t ht => by
        rw [Tryd.params7] at ht
        have hm : t ∈ [9, 5, 3] := by simpa using Array.mem_of_getElem? ht
        have hall : ([9, 5, 3].all fun u => !Tryd.prog.wantsStandIn u) = true := by kernel_rfl
        exact (show Tryd.prog.wantsStandIn t = false by simpa using List.all_eq_true.1 hall t hm)⟩)
    (by kernel_rfl)
end Go.Proofs.YtckpndbmpigegaaDoor.parseTexts
