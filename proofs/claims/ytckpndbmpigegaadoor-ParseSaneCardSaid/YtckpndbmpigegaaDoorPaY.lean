/- parse: what Value does. -/
import Derived.Test.YtckpndbmpigegaaDoorPaW
import Derived.Test.YtckpndbmpigegaaDoorPaG
set_option linter.unusedVariables false
set_option linter.unusedSimpArgs false
set_option maxRecDepth 100000
namespace Go.Proofs.YtckpndbmpigegaaDoor
open Go.RowKit Go.Mem Orange
def EndTop (w : World) (e : Ending) (w' : World) (r : Tree × Int × Nat) : Prop :=
  ∃ c, e = .returned (.tuple #[.agg c, .int .i64 r.2.1, .int .i64 r.2.2]) ∧ TV w' (fun g => w.heap.size ≤ g) r.1 c ∧ Ext w w'
theorem ext_set8 {w w2 : World} {S : Nat} {a b c d e f g i : Value} (h : Ext w w2) (hS : w.heap.size ≤ S) : Ext w ((((((((w2.setCell ⟨S, 0, none⟩ a).setCell ⟨S, 1, none⟩ b).setCell ⟨S, 2, none⟩ c).setCell ⟨S, 3, none⟩ d).setCell ⟨S, 4, none⟩ e).setCell ⟨S, 5, none⟩ f).setCell ⟨S, 6, none⟩ g).setCell ⟨S, 7, none⟩ i) := below_store8 h hS a b c d e f g i
theorem top_end {w w2 : World} {S : Nat} {t : Tree} {y0 y1 y2 y3 y4 y5 y6 y7 : Value} {er : Int} {k : Nat} (hE : Ext w w2) (hS : w.heap.size ≤ S) (htv : TV w2 (fun g => S + 1 ≤ g) t #[y0, y1, y2, y3, y4, y5, y6, y7]) :
    EndTop w (.returned (.tuple #[.agg #[y0, y1, y2, y3, y4, y5, y6, y7], .int .i64 er, .int .i64 k])) ((((((((w2.setCell ⟨S, 0, none⟩ y0).setCell ⟨S, 1, none⟩ y1).setCell ⟨S, 2, none⟩ y2).setCell ⟨S, 3, none⟩ y3).setCell ⟨S, 4, none⟩ y4).setCell ⟨S, 5, none⟩ y5).setCell ⟨S, 6, none⟩ y6).setCell ⟨S, 7, none⟩ y7) (t, er, k) :=
  ⟨_, rfl, htv.keep (by simp [World.setCell]) (fun g hg hlt => ⟨by omega, heap8 (by omega)⟩), ext_set8 hE hS⟩
set_option maxHeartbeats 6400000 in
theorem top_any (v : Value) (xs : List UInt8) (w : World) (hb : Bytes w v xs) :
    Calls Tryd.prog 11 #[v] w (fun e w' => EndTop w e w' (parseP xs)) := by
  obtain ⟨T, hT⟩ : ∃ T, parseP xs = T := ⟨_, rfl⟩
  rw [hT]
  rw [parseP] at hT
  replace hT := Lib.hid hT
  obtain ⟨va, vc, rfl, hnc, hcm, hl47, _⟩ := id hb
  have HB := Lib.hid hb
  clear hb
  have hr := VAt.new w zeroV
  have hE : Ext w (w.alloc (.cells zeroV 29)) := (ext_refl w).alloc (Nat.le_refl _) _
  simp only [zeroV, cellsV, Num.zero] at hr hE
  go_enter Tryd.func11, Tryd.ntmps11
  by_cases hlen : 65536 < xs.length
  · have hd : decide (65536 < (xs.length : Int)) = true := by simp; omega
    have hres : Hid (T = (tNull, 4, 0)) := Lib.hid (by rw [← hT.out, if_pos hlen])
    go_wp2_with fail
    refine bodyPost_ret (v := .tuple #[.agg zeroV, .int .i64 4, .int .i64 (0 : Nat)]) (by simp [results, Tryd.results11, go_sem, Num.zero]) rfl ?_
    rw [hres.out]
    exact ⟨_, rfl, TV.leaf _ _ 0 false Num.zero [], hE⟩
  · have hd : decide (65536 < (xs.length : Int)) = false := by simp; omega
    have hT1 := hT.out
    rw [if_neg hlen] at hT1
    replace hT := Lib.hid hT1
    clear hT1
    go_wp2_with fail
    obtain ⟨S, hS⟩ : ∃ S, w.heap.size = S := ⟨_, rfl⟩
    rw [hS] at hr ⊢
    have hsz : (w.alloc (.cells #[.int .i64 0, .bool false, .bool false, .string ⟨#[]⟩, .int .i64 0, .string ⟨#[]⟩, .slice none 0 0, .slice none 0 0] 29)).heap.size = S + 1 := by rw [← hS]; simp
    generalize w.alloc (.cells #[.int .i64 0, .bool false, .bool false, .string ⟨#[]⟩, .int .i64 0, .string ⟨#[]⟩, .slice none 0 0, .slice none 0 0] 29) = w1 at *
    have HR := Lib.hid hr
    have HE := Lib.hid hE
    have HS := Lib.hid hS
    clear hr hE hS
    refine (one_any _ xs 0 _ (HB.out.ext HE.out) (by omega)).mono ?_
    intro e w2 hend
    cases hop : oneP xs 0 with
    | err er b =>
      rw [hop] at hend
      obtain ⟨rfl, hw⟩ := hend
      have hres : Hid (T = (tNull, er, b)) := Lib.hid (by rw [← hT.out, hop])
      replace HR := Lib.hid (HR.out.ext hw)
      replace HE := Lib.hid (ext_trans HE.out hw)
      have hsz2 := hw.size
      clear hw hT
      have hf := oneP_fine xs 0
      rw [hop] at hf
      have her : (er != 0) = true := by simpa using hf.1
      have ht0 := VAt.new w2 zeroV
      have hx : Ext w2 (w2.alloc (.cells zeroV 29)) := (ext_refl w2).alloc (Nat.le_refl _) _
      clear hf hop
      simp only [zeroV, cellsV, Num.zero] at ht0 hx
      replace HR := Lib.hid (HR.out.ext hx)
      replace HE := Lib.hid (ext_trans HE.out hx)
      clear hx ht0
      simp only [zeroV, cellsV, Num.zero] at HR ⊢
      go_upto_region 4 with fail
      generalize w2.alloc (.cells #[.int .i64 0, .bool false, .bool false, .string ⟨#[]⟩, .int .i64 0, .string ⟨#[]⟩, .slice none 0 0, .slice none 0 0] 29) = w3 at *
      have r0 := HR.out.cell 0; have r1 := HR.out.cell 1; have r2 := HR.out.cell 2; have r3 := HR.out.cell 3; have r4 := HR.out.cell 4; have r5 := HR.out.cell 5; have r6 := HR.out.cell 6; have r7 := HR.out.cell 7
      have s0 := HR.out.free 0; have s1 := HR.out.free 1; have s2 := HR.out.free 2; have s3 := HR.out.free 3; have s4 := HR.out.free 4; have s5 := HR.out.free 5; have s6 := HR.out.free 6; have s7 := HR.out.free 7
      simp at r0 r1 r2 r3 r4 r5 r6 r7
      go_wp2_with fail
      have hV := VAt.store8 HR.out (.int .i64 0) (.bool false) (.bool false) (.string ⟨#[]⟩) (.int .i64 0) (.string ⟨#[]⟩) (.slice none 0 0) (.slice none 0 0)
      have HV := Lib.hid hV
      have v0 := HV.out.cell 0; have v1 := HV.out.cell 1; have v2 := HV.out.cell 2; have v3 := HV.out.cell 3; have v4 := HV.out.cell 4; have v5 := HV.out.cell 5; have v6 := HV.out.cell 6; have v7 := HV.out.cell 7
      simp only [List.getElem?_toArray, List.getElem?_cons_zero, List.getElem?_cons_succ] at v0 v1 v2 v3 v4 v5 v6 v7
      refine bodyPost_ret (v := .tuple #[.agg #[.int .i64 0, .bool false, .bool false, .string ⟨#[]⟩, .int .i64 0, .string ⟨#[]⟩, .slice none 0 0, .slice none 0 0], .int .i64 er, .int .i64 b]) (by simp [results, Tryd.results11, go_sem, v0, v1, v2, v3, v4, v5, v6, v7]) rfl ?_
      rw [hres.out]
      exact top_end HE.out (by rw [HS.out]; exact Nat.le_refl _) (TV.leaf _ _ 0 false Num.zero [])
    | ok t a n =>
      rw [hop] at hend
      obtain ⟨c, rfl, htv, hw⟩ := hend
      have hT1 : (if whiteN xs a < xs.length then (tNull, (2 : Int), whiteN xs a) else (t, 0, whiteN xs a)) = T := by rw [← hT.out, hop]
      replace hT := Lib.hid hT1
      have hf := oneP_fine xs 0
      rw [hop] at hf
      have hal : a ≤ xs.length := hf
      clear hT1 hf hop
      obtain ⟨k, b, d, s, la, ln, lc, ma, mn, mc, rfl⟩ := htv.eight
      have hsz2 := hw.size
      have ht0 := VAt.new w2 (cellsV k b d s (.slice la ln lc) (.slice ma mn mc))
      have hx : Ext w2 (w2.alloc (.cells (cellsV k b d s (.slice la ln lc) (.slice ma mn mc)) 29)) := (ext_refl w2).alloc (Nat.le_refl _) _
      have htv3 := TV.keep (A' := fun g => S + 1 ≤ g) hx.size (fun g hg hlt => ⟨by omega, hx.block g hlt⟩) htv
      replace HR := Lib.hid ((HR.out.ext hw).ext hx)
      replace HE := Lib.hid (ext_trans (ext_trans HE.out hw) hx)
      have hP2 : w2.heap.size ≠ S := by omega
      obtain ⟨P, hP⟩ : ∃ P, w2.heap.size = P := ⟨_, rfl⟩
      rw [hP] at ht0 hP2
      have HP2 := Lib.hid hP
      clear hx hw htv
      simp only [zeroV, cellsV, Num.zero] at HR ht0 HE htv3 ⊢
      go_upto_region 6 with fail
      clear hP
      generalize w2.alloc (.cells #[.int .i64 k, .bool b, .bool d.neg, .string ⟨d.digits.toArray⟩, .int .i64 d.exp, .string ⟨s.toArray⟩, .slice la ln lc, .slice ma mn mc] 29) = w3 at *
      have HT0 := Lib.hid ht0
      have HTV := Lib.hid htv3
      clear ht0 htv3
      go_wp2_with fail
      refine (white_any _ xs a _ (HB.out.ext HE.out)).mono ?_
      rintro e w4 ⟨rfl, hw⟩
      rw [clampN_nat xs.length a hal]
      obtain ⟨m, hm⟩ : ∃ m, whiteN xs a = m := ⟨_, rfl⟩
      have hT1 := hT.out
      rw [hm] at hT1 ⊢
      replace hT := Lib.hid hT1
      have htv4 := TV.keep (A' := fun g => S + 1 ≤ g) hw.size (fun g hg hlt => ⟨hg, hw.block g hlt⟩) HTV.out
      replace HT0 := Lib.hid (HT0.out.ext hw)
      replace HR := Lib.hid (HR.out.ext hw)
      replace HE := Lib.hid (ext_trans HE.out hw)
      replace HTV := Lib.hid htv4
      clear hm hT1 htv4 hw
      have r0 := HR.out.cell 0; have r1 := HR.out.cell 1; have r2 := HR.out.cell 2; have r3 := HR.out.cell 3; have r4 := HR.out.cell 4; have r5 := HR.out.cell 5; have r6 := HR.out.cell 6; have r7 := HR.out.cell 7
      have s0 := HR.out.free 0; have s1 := HR.out.free 1; have s2 := HR.out.free 2; have s3 := HR.out.free 3; have s4 := HR.out.free 4; have s5 := HR.out.free 5; have s6 := HR.out.free 6; have s7 := HR.out.free 7
      simp at r0 r1 r2 r3 r4 r5 r6 r7
      have t0 := HT0.out.cell 0; have t1 := HT0.out.cell 1; have t2 := HT0.out.cell 2; have t3 := HT0.out.cell 3; have t4 := HT0.out.cell 4; have t5 := HT0.out.cell 5; have t6 := HT0.out.cell 6; have t7 := HT0.out.cell 7
      simp at t0 t1 t2 t3 t4 t5 t6 t7
      by_cases hml : m < xs.length
      · have hmi : (m : Int) < xs.length := by omega
        have hT1 := hT.out
        rw [if_pos hml] at hT1
        have hres := Lib.hid hT1.symm
        clear hT1 hT hml
        go_wp2_with fail
        have hV := VAt.store8 HR.out (.int .i64 0) (.bool false) (.bool false) (.string ⟨#[]⟩) (.int .i64 0) (.string ⟨#[]⟩) (.slice none 0 0) (.slice none 0 0)
        have HV := Lib.hid hV
        have v0 := HV.out.cell 0; have v1 := HV.out.cell 1; have v2 := HV.out.cell 2; have v3 := HV.out.cell 3; have v4 := HV.out.cell 4; have v5 := HV.out.cell 5; have v6 := HV.out.cell 6; have v7 := HV.out.cell 7
        simp only [List.getElem?_toArray, List.getElem?_cons_zero, List.getElem?_cons_succ] at v0 v1 v2 v3 v4 v5 v6 v7
        refine bodyPost_ret (v := .tuple #[.agg #[.int .i64 0, .bool false, .bool false, .string ⟨#[]⟩, .int .i64 0, .string ⟨#[]⟩, .slice none 0 0, .slice none 0 0], .int .i64 2, .int .i64 m]) (by simp [results, Tryd.results11, go_sem, v0, v1, v2, v3, v4, v5, v6, v7]) rfl ?_
        rw [hres.out]
        exact top_end HE.out (by rw [HS.out]; exact Nat.le_refl _) (TV.leaf _ _ 0 false Num.zero [])
      · have hmi : ¬ (m : Int) < xs.length := by omega
        have hT1 := hT.out
        rw [if_neg hml] at hT1
        have hres := Lib.hid hT1.symm
        clear hT1 hT hml
        go_wp2_with fail
        have hV := VAt.store8 HR.out (.int .i64 k) (.bool b) (.bool d.neg) (.string ⟨d.digits.toArray⟩) (.int .i64 d.exp) (.string ⟨s.toArray⟩) (.slice la ln lc) (.slice ma mn mc)
        have HV := Lib.hid hV
        have v0 := HV.out.cell 0; have v1 := HV.out.cell 1; have v2 := HV.out.cell 2; have v3 := HV.out.cell 3; have v4 := HV.out.cell 4; have v5 := HV.out.cell 5; have v6 := HV.out.cell 6; have v7 := HV.out.cell 7
        simp only [List.getElem?_toArray, List.getElem?_cons_zero, List.getElem?_cons_succ] at v0 v1 v2 v3 v4 v5 v6 v7
        refine bodyPost_ret (v := .tuple #[.agg #[.int .i64 k, .bool b, .bool d.neg, .string ⟨d.digits.toArray⟩, .int .i64 d.exp, .string ⟨s.toArray⟩, .slice la ln lc, .slice ma mn mc], .int .i64 0, .int .i64 m]) (by simp [results, Tryd.results11, go_sem, v0, v1, v2, v3, v4, v5, v6, v7]) rfl ?_
        rw [hres.out]
        exact top_end HE.out (by rw [HS.out]; exact Nat.le_refl _) HTV.out
end Go.Proofs.YtckpndbmpigegaaDoor
