/- DecShifts: a number times ten to any exponent has its digits, and that exponent more, as far as it may be; by one it is itself; by nothing nothing: whatever the input, the law returns true and the input reads as it did. No condition beyond the row's. -/
import Derived.Test.YtpheohgceepboaaDoorRows
import Derived.Test.YtpheohgceepboaaDoorCards
import Derived.Test.YtpheohgceepboaaDoorTie
import Derived.Test.YtpheohgceepboaaDoorDecT
import Derived.Test.YtpheohgceepboaaDoorDecR
import Derived.Test.YtpheohgceepboaaDoorDecS
import Derived.Test.YtpheohgceepboaaDoorDecK
import Derived.Test.YtpheohgceepboaaDoorGst
import Derived.Test.YtpheohgceepboaaDoorBits
import Derived.Test.YtpheohgceepboaaDoorDecW
import Derived.Test.YtpheohgceepboaaDoorFrame
import Derived.ProofKit
import Derived.SizedLaws
import Derived.OpenShut
import Derived.Lay
import Derived.LaidMore
import Derived.SevenTiedAt
import Derived.IntWalk
set_option linter.unusedVariables false
set_option linter.unusedSimpArgs false
set_option maxRecDepth 100000
namespace Go.Proofs.YtpheohgceepboaaDoor.decShifts
open Go.ChangeShapes Go.WideShapes Go.ChangeAt Go.RowKit Go.Mem Orange

theorem shift_same {neg : Bool} {l : List UInt8} {x k : Int} (h : l ≠ []) : shift ⟨neg, l, x⟩ k = ⟨neg, l, x + k⟩ := by unfold shift; rw [if_neg h]
theorem toldP_cases (d : Num) : (sane d = true ∧ toldP d = (d, 0)) ∨ (sane d = false ∧ toldP d = (Num.zero, 4)) := by
  unfold toldP
  cases h : sane d with
  | true => exact .inl ⟨rfl, by simp⟩
  | false => exact .inr ⟨rfl, by simp⟩
-- the end, all facts laid: $1: digits; $2: exp
set_option maxHeartbeats 6400000 in
theorem walk (d : Num) (hd : d.digits.length ≤ 140737488351232) (hd0 : -9223372036854775808 ≤ d.exp) (hd1 : d.exp ≤ 9223372036854775807) (n : Int) (hn0 : -9223372036854775808 ≤ n) (hn1 : n ≤ 9223372036854775807) (w : World) (hT : Tab w) :
    Calls Tryd.prog 7 #[.agg #[.bool d.neg, .string ⟨d.digits.toArray⟩, .int .i64 d.exp], .int .i64 n] w fun e w' => e = .returned (.bool true) ∧ Ext w w' := by
  obtain ⟨an, al, ax⟩ := d
  simp only at hd ⊢
  clear hd0 hd1
  have HLD : Hid (al.length ≤ 140737488355328) := Lib.hid (by omega)
  clear hd
  have HTT := Lib.hid hT
  clear hT
  obtain ⟨X, hX, hx⟩ := pick_low 8 255 (by decide) (by omega) n
  have hx2 : X < 256 := hx
  clear hx
  obtain ⟨k, hk⟩ : ∃ k : Int, (X : Int) - 128 = k := ⟨_, rfl⟩
  have hkb : -128 ≤ k ∧ k ≤ 127 := by omega
  obtain ⟨hk1, hk2⟩ := hkb
  have hw1 : IntKind.i64.wrap ((X : Int) - 128) = k := by rw [IntWalk.i64_in _ (by omega)]; exact hk
  have hE := ext_refl w
  have HD0 := NumAt.new w ⟨an, al, ax⟩
  have hx := ext_newnum w ⟨an, al, ax⟩
  simp only at HD0 hx
  replace hE := ext_trans hE hx
  have HD := Lib.hid HD0
  clear hx HD0
  generalize hwD : w.alloc (.cells #[.bool an, .string ⟨al.toArray⟩, .int .i64 ax] 25) = wD at *
  go_enter Tryd.func7, Tryd.ntmps7
  go_wp2_with fail
  clear hwD
  refine (dawake _ (HTT.out.ext hE)).mono ?_
  rintro e wn ⟨rfl, hw⟩
  replace HD := Lib.hid (HD.out.ext hw)
  replace hE := ext_trans hE hw
  clear hw
  obtain ⟨fD0, fD1, fD2, gD0, gD1, gD2, lD⟩ := HD.out.cells
  simp only at fD0 fD1 fD2
  go_wp2_with fail
  clear fD0 fD1 fD2 gD0 gD1 gD2 lD
  refine (sane_any ⟨an, al, ax⟩ _ HLD.out).mono ?_
  rintro e wn ⟨rfl, hw⟩
  replace HD := Lib.hid (HD.out.ext hw)
  replace hE := ext_trans hE hw
  clear hw
  cases hsa : sane ⟨an, al, ax⟩ with
  | false =>
    clear hsa
    obtain ⟨fD0, fD1, fD2, gD0, gD1, gD2, lD⟩ := HD.out.cells
    simp only at fD0 fD1 fD2
    go_wp2_with fail
    clear fD0 fD1 fD2 gD0 gD1 gD2 lD
    go_ret
    exact ⟨rfl, hE⟩
  | true =>
    have HSA := Lib.hid hsa
    have hxb : -800 ≤ ax ∧ ax ≤ 800 := by
      rcases sane_parts hsa with e | e
      · simp only [Num.zero, Num.mk.injEq] at e; omega
      · exact ⟨e.2.2.2.2.2.1, e.2.2.2.2.2.2.1⟩
    obtain ⟨hxb1, hxb2⟩ := hxb
    have M1 := mulP_one hsa k (by omega)
    have M2 := mulP_one hsa 0 (by omega)
    have M3 := mulP_zero hsa
    rw [shift_zero, toldP_sane hsa] at M2
    have HO := Lib.hid ofP_one
    have HM2 := Lib.hid M2
    have HM3 := Lib.hid M3
    simp only [Num.zero] at HM3
    have HMM := Lib.hid M1
    clear hsa M1 M2 M3
    obtain ⟨fD0, fD1, fD2, gD0, gD1, gD2, lD⟩ := HD.out.cells
    simp only at fD0 fD1 fD2
    go_wp2_with fail
    clear fD0 fD1 fD2 gD0 gD1 gD2 lD
    clear hX hk
    refine (mul_any ⟨an, al, ax⟩ ⟨false, [49], k⟩ _ HLD.out (show (1 : Nat) ≤ 140737488355328 by decide)).mono ?_
    rintro e wn ⟨rfl, hw⟩
    replace HD := Lib.hid (HD.out.ext hw)
    replace hE := ext_trans hE hw
    clear hw
    rw [HMM.out]
    obtain ⟨T, hT⟩ : ∃ T, toldP (shift ⟨an, al, ax⟩ k) = T := ⟨_, rfl⟩
    rw [hT]
    obtain ⟨⟨xn, xl, xx⟩, xe⟩ := T
    simp only
    have HM0 := Lib.hid hT
    clear hT
    have HX0 := NumAt.new wn ⟨xn, xl, xx⟩
    have hx := ext_newnum wn ⟨xn, xl, xx⟩
    simp only at HX0 hx
    replace HD := Lib.hid (HD.out.ext hx)
    replace hE := ext_trans hE hx
    have HX := Lib.hid HX0
    clear hx HX0
    go_wp2_with fail
    generalize hg : wn.heap.size = pX at *
    generalize hwm : wn.alloc (.cells #[.bool xn, .string ⟨xl.toArray⟩, .int .i64 xx] 25) = wmX at *
    clear hg hwm
    refine Grow.wp_region_slots (G := Grow.Gst wmX.heap.size (numObj Num.zero) (numObj (⟨an, al, ax⟩ : Num))) (B := fun w' => Grow.Gst wmX.heap.size (numObj Num.zero) (numObj (⟨an, al, ax⟩ : Num)) wmX w') (anc := fun j => if j = 7 then [6] else []) (I := fun j => if j = 6 then some (Grow.specAlloc wmX.heap.size (numObj Num.zero) (numObj (⟨an, al, ax⟩ : Num))) else if j = 1 then some (Grow.specV _ (.agg #[.bool false, .string ⟨#[49]⟩, .int .i64 0])) else if j = 2 then some (Grow.specV _ (.tuple #[.agg #[.bool an, .string ⟨al.toArray⟩, .int .i64 ax], .int .i64 0])) else none) (sl := fun j => if j = 7 then some 9 else none) (J := fun _ v => Grow.specStore wmX.heap.size (numObj Num.zero) (numObj (⟨an, al, ax⟩ : Num)) v) (by kernel_rfl) (by kernel_rfl) (by kernel_rfl) (by kernel_rfl) ?_ ?_ ?_
    · exact fun w w' h hg => h.trans hg
    · exact Grow.Gst.ofExt (ext_refl _).drew (Nat.le_refl _)
    · repeat
        (refine Grow.walk_step (fun K hK => ?_)
         first
         | (refine Grow.step_read (by rfl) (by rfl) Grow.Gst.refl ?_
            apply Exists.intro
            refine ⟨fun w hB hF => ?_, ?_⟩
            · obtain ⟨a0, a1, a2, af0, af1, af2, hp⟩ := (HD.out.ext hB.1).cells; simp only at a0 a1 a2
              go_simp
              try exact rfl
            go_simp
            refine hK _ _ ?_
            clear hK K)
         | (refine Grow.step_off (by rfl) ?_
            go_simp
            refine hK _ _ ?_
            clear hK K))
      refine Grow.walk_step (fun K hK => ?_)
      refine Grow.step_rel (by rfl) (by rfl) (fun w' hB hF => ?_) (fun v hv => ?_)
      · go_simp
        refine Grow.relUpon_enter ((of_any 1 w' (HTT.out.ext (ext_trans hE hB.1)) (by decide) (by decide)).mono ?_)
        rintro e w'' ⟨rfl, hw''⟩
        exact ⟨_, rfl, Grow.Gst.ofExt hw'' hB.1.size, by rw [HO.out]; rfl, trivial⟩
      obtain rfl : v = _ := hv
      go_simp
      refine hK _ _ ?_
      clear hK K
      refine Grow.walk_step (fun K hK => ?_)
      refine Grow.step_rel (by rfl) (by rfl) (fun w' hB hF => ?_) (fun v hv => ?_)
      · go_simp
        refine Grow.relUpon_enter ((mul_any ⟨an, al, ax⟩ ⟨false, [49], 0⟩ w' HLD.out (show (1 : Nat) ≤ 140737488355328 by decide)).mono ?_)
        rintro e w'' ⟨rfl, hw''⟩
        exact ⟨_, rfl, Grow.Gst.ofExt hw'' hB.1.size, by rw [HM2.out]; rfl, trivial⟩
      obtain rfl : v = _ := hv
      go_simp
      refine hK _ _ ?_
      clear hK K
      repeat
        (refine Grow.walk_step (fun K hK => ?_)
         first
         | (refine Grow.step_read (by rfl) (by rfl) Grow.Gst.refl ?_
            apply Exists.intro
            refine ⟨fun w hB hF => ?_, ?_⟩
            · skip
              go_simp
              try exact rfl
            go_simp
            refine hK _ _ ?_
            clear hK K)
         | (refine Grow.step_off (by rfl) ?_
            go_simp
            refine hK _ _ ?_
            clear hK K))
      refine Grow.walk_step (fun K hK => ?_)
      refine Grow.step_rel (by rfl) (by rfl) (fun w' hB hF => ?_) (fun v hv => ?_)
      · go_simp
        exact Grow.relUpon_value (Grow.Gst.ofExt ((ext_refl w').alloc (Nat.le_refl _) _) hB.1.size) ⟨_, rfl⟩ ⟨_, rfl, hB.1.size, by simp, .inl (heap_alloc_new _ _)⟩
      obtain ⟨pY, rfl⟩ := hv
      go_simp
      refine hK _ _ ?_
      clear hK K
      refine Grow.walk_step (fun K hK => ?_)
      refine Grow.step_rel (by rfl) (by rfl) (fun w' hB hF => ?_) (fun v hv => ?_)
      · obtain ⟨p', e', hp', hl', hz'⟩ := hF 6 (by simp)
        obtain rfl : p' = pY := by simp only [Value.pointer.injEq, Option.some.injEq, Addr.mk.injEq, and_true] at e'; exact e'.symm
        obtain ⟨d0, hd0, hd1⟩ : ∃ d0 : Num, NumAt w' p' d0 ∧ (d0 = Num.zero ∨ d0 = ⟨an, al, ax⟩) := by
          rcases hz' with h | h
          · exact ⟨_, h, .inl rfl⟩
          · exact ⟨_, h, .inr rfl⟩
        have hst := gst_store hd0 hp' hd1
        have hnn := hd0.store ⟨an, al, ax⟩
        obtain ⟨z0, z1, z2, y0, y1, y2, _⟩ := hd0.cells
        simp only at hst hnn
        clear hB hF hz'
        go_simp
        exact ⟨hst, rfl, fun q e => by
          simp only [Value.pointer.injEq, Option.some.injEq, Addr.mk.injEq, and_true] at e
          subst e
          exact ⟨hp', Nat.lt_of_lt_of_le hl' hst.1.size, hnn⟩⟩
      obtain rfl : v = _ := hv
      go_simp
      refine hK _ _ ?_
      clear hK K
      repeat
        (refine Grow.walk_step (fun K hK => ?_)
         first
         | (refine Grow.step_read (by rfl) (by rfl) Grow.Gst.refl ?_
            apply Exists.intro
            refine ⟨fun w hB hF => ?_, ?_⟩
            · skip
              go_simp
              try exact rfl
            go_simp
            refine hK _ _ ?_
            clear hK K)
         | (refine Grow.step_off (by rfl) ?_
            go_simp
            refine hK _ _ ?_
            clear hK K))
      refine Grow.walk_nil ?_
      intro wn hB hF
      have hY7 : NumAt wn pY ⟨an, al, ax⟩ := (hF 7 pY rfl).2.2
      have hpY : w.heap.size ≤ pY := Nat.le_trans hE.size (hF 7 pY rfl).1
      have HY := Lib.hid hY7
      replace HD := Lib.hid (HD.out.ext hB.1)
      replace HX := Lib.hid (HX.out.ext hB.1)
      replace hE := ext_trans hE hB.1
      clear hB hF hY7
      obtain ⟨fD0, fD1, fD2, gD0, gD1, gD2, lD⟩ := HD.out.cells
      simp only at fD0 fD1 fD2
      go_wp2_with fail
      clear fD0 fD1 fD2 gD0 gD1 gD2 lD
      refine (mul_any ⟨an, al, ax⟩ ⟨false, [], 0⟩ _ HLD.out (show (0 : Nat) ≤ 140737488355328 by decide)).mono ?_
      rintro e wn ⟨rfl, hw⟩
      replace HD := Lib.hid (HD.out.ext hw)
      replace HX := Lib.hid (HX.out.ext hw)
      replace HY := Lib.hid (HY.out.ext hw)
      replace hE := ext_trans hE hw
      clear hw
      rw [HM3.out]
      simp only
      have HZ0 := NumAt.new wn ⟨false, [], 0⟩
      have hx := ext_newnum wn ⟨false, [], 0⟩
      simp only at HZ0 hx
      replace HD := Lib.hid (HD.out.ext hx)
      replace HX := Lib.hid (HX.out.ext hx)
      replace HY := Lib.hid (HY.out.ext hx)
      replace hE := ext_trans hE hx
      have HZ := Lib.hid HZ0
      clear hx HZ0
      have e5 : IntKind.i64.wrap (ax + k) = ax + k := IntWalk.i64_in _ (by omega)
      by_cases hal : al = []
      · subst hal
        have hm := HM0.out
        rw [show shift ⟨an, [], ax⟩ k = ⟨an, [], ax⟩ from rfl, toldP_sane HSA.out] at hm
        simp only [Prod.mk.injEq, Num.mk.injEq] at hm
        obtain ⟨⟨rfl, rfl, rfl⟩, rfl⟩ := hm
        have HS := HSA
        have heq2 := fun w => eql_same ⟨an, [], ax⟩ w
        simp only at heq2
        clear HM0 HMM e5
        obtain ⟨q0, q1, q2, q3, q4, q5, q6⟩ := (HD.out.ext (ext_newnum _ ⟨an, [], ax⟩)).cells
        obtain ⟨fD0, fD1, fD2, gD0, gD1, gD2, lD⟩ := HD.out.cells
        simp only at fD0 fD1 fD2
        simp only at q0 q1 q2
        go_wp2_with fail
        clear q0 q1 q2 q3 q4 q5 q6 fD0 fD1 fD2 gD0 gD1 gD2 lD
        have hsz : (wn.alloc (.cells #[.bool false, .string ⟨#[]⟩, .int .i64 0] 25)).heap.size = wn.heap.size + 1 := by simp
        generalize wn.heap.size = pZ at *
        generalize wn.alloc (.cells #[.bool false, .string ⟨#[]⟩, .int .i64 0] 25) = wZ at *
        have HW0 := NumAt.new wZ ⟨an, [], ax⟩
        have hx := ext_newnum wZ ⟨an, [], ax⟩
        simp only at HW0 hx
        replace HD := Lib.hid (HD.out.ext hx)
        replace HX := Lib.hid (HX.out.ext hx)
        replace HY := Lib.hid (HY.out.ext hx)
        replace HZ := Lib.hid (HZ.out.ext hx)
        replace hE := ext_trans hE hx
        have HW := Lib.hid HW0
        clear hx HW0
        rw [hsz] at HW
        generalize wZ.alloc (.cells #[.bool an, .string ⟨([]).toArray⟩, .int .i64 (ax)] 25) = wW at *
        refine (sane_any ⟨an, [], ax⟩ _ HLD.out).mono ?_
        rintro e wn ⟨rfl, hw⟩
        replace HD := Lib.hid (HD.out.ext hw)
        replace HW := Lib.hid (HW.out.ext hw)
        replace HX := Lib.hid (HX.out.ext hw)
        replace HY := Lib.hid (HY.out.ext hw)
        replace HZ := Lib.hid (HZ.out.ext hw)
        replace hE := ext_trans hE hw
        clear hw
        rw [HS.out]
        obtain ⟨fD0, fD1, fD2, gD0, gD1, gD2, lD⟩ := HD.out.cells
        simp only at fD0 fD1 fD2
        obtain ⟨fW0, fW1, fW2, gW0, gW1, gW2, lW⟩ := HW.out.cells
        simp only at fW0 fW1 fW2
        obtain ⟨fX0, fX1, fX2, gX0, gX1, gX2, lX⟩ := HX.out.cells
        simp only at fX0 fX1 fX2
        obtain ⟨fY0, fY1, fY2, gY0, gY1, gY2, lY⟩ := HY.out.cells
        simp only at fY0 fY1 fY2
        obtain ⟨fZ0, fZ1, fZ2, gZ0, gZ1, gZ2, lZ⟩ := HZ.out.cells
        simp only at fZ0 fZ1 fZ2
        go_wp2_with fail
        go_ret
        exact ⟨rfl, hE⟩
      · have hale : al.isEmpty = false := by simpa using hal
        have hsh : Hid (shift ⟨an, al, ax⟩ k = ⟨an, al, ax + k⟩) := Lib.hid (shift_same hal)
        clear hal
        have heq2 := fun w => eql_same ⟨an, al, ax⟩ w
        simp only at heq2
        rcases toldP_cases ⟨an, al, ax + k⟩ with ⟨hs, ht⟩ | ⟨hs, ht⟩
        · have HS := Lib.hid hs
          have hm := HM0.out
          rw [hsh.out, ht] at hm
          simp only [Prod.mk.injEq, Num.mk.injEq] at hm
          obtain ⟨⟨rfl, rfl, rfl⟩, rfl⟩ := hm
          have heq := fun w => eql_same ⟨an, al, ax + k⟩ w
          simp only at heq
          clear hs ht HM0 HMM
          obtain ⟨q0, q1, q2, q3, q4, q5, q6⟩ := (HD.out.ext (ext_newnum _ ⟨an, al, ax⟩)).cells
          obtain ⟨fD0, fD1, fD2, gD0, gD1, gD2, lD⟩ := HD.out.cells
          simp only at fD0 fD1 fD2
          simp only at q0 q1 q2
          go_wp2_with fail
          clear q0 q1 q2 q3 q4 q5 q6 fD0 fD1 fD2 gD0 gD1 gD2 lD
          have hsz : (wn.alloc (.cells #[.bool false, .string ⟨#[]⟩, .int .i64 0] 25)).heap.size = wn.heap.size + 1 := by simp
          generalize wn.heap.size = pZ at *
          generalize wn.alloc (.cells #[.bool false, .string ⟨#[]⟩, .int .i64 0] 25) = wZ at *
          have HW0 := NumAt.new wZ ⟨an, al, ax + k⟩
          have hx := ext_newnum wZ ⟨an, al, ax + k⟩
          simp only at HW0 hx
          replace HD := Lib.hid (HD.out.ext hx)
          replace HX := Lib.hid (HX.out.ext hx)
          replace HY := Lib.hid (HY.out.ext hx)
          replace HZ := Lib.hid (HZ.out.ext hx)
          replace hE := ext_trans hE hx
          have HW := Lib.hid HW0
          clear hx HW0
          rw [hsz] at HW
          generalize wZ.alloc (.cells #[.bool an, .string ⟨(al).toArray⟩, .int .i64 (ax + k)] 25) = wW at *
          refine (sane_any ⟨an, al, ax + k⟩ _ HLD.out).mono ?_
          rintro e wn ⟨rfl, hw⟩
          replace HD := Lib.hid (HD.out.ext hw)
          replace HW := Lib.hid (HW.out.ext hw)
          replace HX := Lib.hid (HX.out.ext hw)
          replace HY := Lib.hid (HY.out.ext hw)
          replace HZ := Lib.hid (HZ.out.ext hw)
          replace hE := ext_trans hE hw
          clear hw
          rw [HS.out]
          obtain ⟨fD0, fD1, fD2, gD0, gD1, gD2, lD⟩ := HD.out.cells
          simp only at fD0 fD1 fD2
          obtain ⟨fW0, fW1, fW2, gW0, gW1, gW2, lW⟩ := HW.out.cells
          simp only at fW0 fW1 fW2
          obtain ⟨fX0, fX1, fX2, gX0, gX1, gX2, lX⟩ := HX.out.cells
          simp only at fX0 fX1 fX2
          obtain ⟨fY0, fY1, fY2, gY0, gY1, gY2, lY⟩ := HY.out.cells
          simp only at fY0 fY1 fY2
          obtain ⟨fZ0, fZ1, fZ2, gZ0, gZ1, gZ2, lZ⟩ := HZ.out.cells
          simp only at fZ0 fZ1 fZ2
          go_wp2_with fail
          go_ret
          exact ⟨rfl, hE⟩
        · have HS := Lib.hid hs
          have hm := HM0.out
          rw [hsh.out, ht] at hm
          simp only [Num.zero, Prod.mk.injEq, Num.mk.injEq] at hm
          obtain ⟨⟨rfl, rfl, rfl⟩, rfl⟩ := hm
          clear hs ht HM0 HMM
          obtain ⟨q0, q1, q2, q3, q4, q5, q6⟩ := (HD.out.ext (ext_newnum _ ⟨an, al, ax⟩)).cells
          obtain ⟨fD0, fD1, fD2, gD0, gD1, gD2, lD⟩ := HD.out.cells
          simp only at fD0 fD1 fD2
          simp only at q0 q1 q2
          go_wp2_with fail
          clear q0 q1 q2 q3 q4 q5 q6 fD0 fD1 fD2 gD0 gD1 gD2 lD
          have hsz : (wn.alloc (.cells #[.bool false, .string ⟨#[]⟩, .int .i64 0] 25)).heap.size = wn.heap.size + 1 := by simp
          generalize wn.heap.size = pZ at *
          generalize wn.alloc (.cells #[.bool false, .string ⟨#[]⟩, .int .i64 0] 25) = wZ at *
          have HW0 := NumAt.new wZ ⟨an, al, ax + k⟩
          have hx := ext_newnum wZ ⟨an, al, ax + k⟩
          simp only at HW0 hx
          replace HD := Lib.hid (HD.out.ext hx)
          replace HX := Lib.hid (HX.out.ext hx)
          replace HY := Lib.hid (HY.out.ext hx)
          replace HZ := Lib.hid (HZ.out.ext hx)
          replace hE := ext_trans hE hx
          have HW := Lib.hid HW0
          clear hx HW0
          rw [hsz] at HW
          generalize wZ.alloc (.cells #[.bool an, .string ⟨(al).toArray⟩, .int .i64 (ax + k)] 25) = wW at *
          refine (sane_any ⟨an, al, ax + k⟩ _ HLD.out).mono ?_
          rintro e wn ⟨rfl, hw⟩
          replace HD := Lib.hid (HD.out.ext hw)
          replace HW := Lib.hid (HW.out.ext hw)
          replace HX := Lib.hid (HX.out.ext hw)
          replace HY := Lib.hid (HY.out.ext hw)
          replace HZ := Lib.hid (HZ.out.ext hw)
          replace hE := ext_trans hE hw
          clear hw
          rw [HS.out]
          obtain ⟨fD0, fD1, fD2, gD0, gD1, gD2, lD⟩ := HD.out.cells
          simp only at fD0 fD1 fD2
          obtain ⟨fW0, fW1, fW2, gW0, gW1, gW2, lW⟩ := HW.out.cells
          simp only at fW0 fW1 fW2
          obtain ⟨fX0, fX1, fX2, gX0, gX1, gX2, lX⟩ := HX.out.cells
          simp only at fX0 fX1 fX2
          obtain ⟨fY0, fY1, fY2, gY0, gY1, gY2, lY⟩ := HY.out.cells
          simp only at fY0 fY1 fY2
          obtain ⟨fZ0, fZ1, fZ2, gZ0, gZ1, gZ2, lZ⟩ := HZ.out.cells
          simp only at fZ0 fZ1 fZ2
          go_wp2_with fail
          go_ret
          exact ⟨rfl, hE⟩
set_option linter.unusedSimpArgs false
theorem own : ownKnob Tryd.prog.godebug = none := by kernel_rfl
theorem laid : laidOutB Tryd.prog = true := by kernel_rfl
set_option maxHeartbeats 1600000 in
set_option maxRecDepth 100000 in
theorem lifted (os : Os) (started : os.Started) (H : Type) (enc : TypeId × Value → H) :
    ReturnsInHanded {} Tryd.checked os 7 .any (fun w args => (Rows.decShiftsSpec.pre enc Tryd.prog Tryd.f7 [] false w args ∧ laidMetH Tryd.prog Rows.decShiftsRow.laid w) ∧ sizedMet enc Tryd.prog Tryd.f7 (OpenSpec.ofChange Rows.decShiftsSpec) false w args) (Rows.decShiftsSpec.post enc Tryd.prog Tryd.f7 false true false false) := by
  refine returnsInHanded_of_change_and (C := Tryd.checked) (X := fun w _ => laidMetH Tryd.prog Rows.decShiftsRow.laid w) (fun _ _ _ hh h => h.of_heap hh) own started (by kernel_rfl) Tryd.func7
    (ChangeSpec.witness_shaped (enc := enc) (C := Tryd.checked) (os := os) (X := fun w _ => laidMetH Tryd.prog Rows.decShiftsRow.laid w) false (World.laidAll Tryd.prog os Rows.decShiftsRow.laid) #[.agg #[.bool false, .string ⟨#[]⟩, .int .i64 0], .int .i64 0] 8 (World.laidAll_os _ _ _)
      (World.shaped_of_ZipB (by kernel_rfl) (by kernel_rfl)) (by kernel_rfl) (by kernel_rfl) (by kernel_rfl)
      (by rw [MakeChecks.laidMetH_plain _ _ _ (by kernel_rfl)]; exact laidMet_laidAll _ (by kernel_rfl) (by kernel_rfl))) ?_
  intro W base args ds gs before hval0 hW _ hsz0 hX _
  have hT : Tab W := tab_of hX
  have hsz : (DataW.weightsEach Tryd.prog (Tryd.f7.params.toList ++ Rows.decShiftsSpec.plain.varTypes Tryd.prog) (ds ++ gs)).all (· ≤ reachBytes) = true := hsz0
  clear hsz0
  have hval : ∀ (j : Nat) t v, Tryd.f7.params[j]? = some t → args[j]? = some v → Value.okWide Tryd.prog W .any base t v := hval0
  have hW' := hW
  obtain ⟨p, q, hA0, hV, rfl, _, _⟩ := hW
  have hA : DataW.TrodAll enc Tryd.prog W 0 (fun _ => true) true Tryd.f7.params.toList args.toList ds p := hA0
  rw [Tryd.params7] at hA hval hsz
  obtain ⟨v0, vs0, d0, ds0, p0, q0, ha0, rfl, rfl, h0, r0⟩ := trodAll_cons hA
  obtain ⟨v1, vs1, d1, ds1, p1, q1, ha1, rfl, rfl, h1, r1⟩ := trodAll_cons r0
  obtain ⟨hb2, rfl, rfl⟩ := trodAll_nil r1
  subst hb2
  subst ha1
  obtain rfl : args = #[v0, v1] := by cases args; simpa using ha0
  obtain ⟨rfl, rfl⟩ := trodVars_none hV
  have hk0 := h0
  obtain ⟨c00, c01, c02, y00, y01, y02, m0, rfl, rfl, rfl, hy00, hy01, hy02⟩ := Go.Joins.open_agg3 Tryd.underlying25 (by kernel_rfl) (by kernel_rfl) (hval 0 25 v0 rfl rfl) h0
  obtain ⟨n0, e00, rfl⟩ := DataW.trod_bool Tryd.underlying4 hy00
  obtain ⟨s0, e01, rfl, _⟩ := DataW.trod_string Tryd.underlying9 hy01
  obtain ⟨x0, e02, rfl, wf0⟩ := DataW.trod_int Tryd.underlying3 hy02
  simp only [List.cons.injEq, and_true] at e00 e01 e02
  subst e00 e01 e02
  obtain ⟨l0, rfl⟩ : ∃ l : List UInt8, s0 = ⟨l.toArray⟩ := ⟨s0.data.toList, by cases s0; simp⟩
  have hs0 : l0.length ≤ 140737488351232 := sized_dec hsz (j := 0) Tryd.underlying25 rfl rfl
  have hr0 : -9223372036854775808 ≤ x0 ∧ x0 ≤ 9223372036854775807 := by simpa [Lit.wf, IntKind.min, IntKind.max, IntKind.signed, IntKind.bits] using wf0
  have hk1 := h1
  obtain ⟨a1, rfl, rfl, rfl, wf1⟩ := open_int Tryd.underlying3 (hval 1 3 v1 rfl rfl) h1
  have hr1 : -9223372036854775808 ≤ a1 ∧ a1 ≤ 9223372036854775807 := by simpa [Lit.wf, IntKind.min, IntKind.max, IntKind.signed, IntKind.bits] using wf1
  have hlt := fun x hx => hW'.lt x hx
  simp only [List.append_nil, List.nil_append] at hW' hlt
  refine (walk ⟨n0, l0, x0⟩ hs0 hr0.1 hr0.2 a1 hr1.1 hr1.2 W hT ).mono fun e W' ⟨he, hb⟩ => ?_
  subst he
  have hargs := (trodAll_cons_mk (Below.trod laid (by kernel_rfl) (of_decide_eq_true (by kernel_rfl)) hk0 hb (fun x hx => by first | exact hlt x hx | exact absurd hx (List.not_mem_nil) | exact hlt x (by simp [hx]))) (trodAll_cons_mk (Below.trod laid (by kernel_rfl) (of_decide_eq_true (by kernel_rfl)) hk1 hb (fun x hx => by first | exact hlt x hx | exact absurd hx (List.not_mem_nil) | exact hlt x (by simp [hx]))) trodAll_mk0))
  exact ⟨_, rfl, _, _, _, [], _, [], hW', trodAll_cons_mk (shut_bool Tryd.underlying4 _) trodAll_mk0, hargs, rfl, hb.frame _, fun h => by cases h⟩

theorem held : Rows.DecShiftsSaid :=
  OpenClaim.holds_of_wide 7 Tryd.f7 rfl rfl rfl rfl rfl rfl rfl ⟨rfl, rfl, rfl, rfl, rfl⟩ rfl rfl rfl rfl rfl (by kernel_rfl) Tryd.func7 (by kernel_rfl)
    (of_decide_eq_true (by kernel_rfl)) (by unfold Func.isWrapper; first | (rw [if_pos (by decide +kernel)]; kernel_rfl) | (rw [if_neg (by decide +kernel)]; exact ⟨rfl, rfl⟩))
    (fun os started H enc _ => lifted os started H enc)

theorem proved : Rows.DecShiftsCardSaid :=
  Claim7.holds_tied_plain_at .later [] Rows.decShiftsCard.laidKinds true Rows.decShiftsCard.stood.harness false held (fun _ h => by cases h) (by kernel_rfl) (fun _ h => by cases h) decShifts_row_tie rfl ⟨rfl, rfl⟩ (by kernel_rfl) rfl
    (fun f fn hf hfn => by
      obtain rfl : f = 7 := Option.some.inj ((show Tryd.prog.funcNamed "orangery/orangerylaw02.DecShifts" = some 7 by kernel_rfl).symm.trans hf) |>.symm
      obtain rfl : fn = Tryd.f7 := (Option.some.inj (Tryd.func7.symm.trans hfn)).symm
      exact ⟨by kernel_rfl, fun j t ht => by
        rw [Tryd.params7] at ht
        have hm : t ∈ [25, 3] := by simpa using Array.mem_of_getElem? ht
        have hall : ([25, 3].all fun u => !Tryd.prog.wantsStandIn u) = true := by kernel_rfl
        exact (show Tryd.prog.wantsStandIn t = false by simpa using List.all_eq_true.1 hall t hm)⟩)
    (by kernel_rfl)
end Go.Proofs.YtpheohgceepboaaDoor.decShifts
