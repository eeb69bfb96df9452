/- DecOrder: of two numbers one is below the other, or they are one; a sum with the same keeps that; with the other sign it is turned: whatever the input, the law returns true and the input reads as it did. No condition beyond the row's. -/
import Derived.Test.YtpheohgceepboaaDoorRows
import Derived.Test.YtpheohgceepboaaDoorCards
import Derived.Test.YtpheohgceepboaaDoorTie
import Derived.Test.YtpheohgceepboaaDoorDecT
import Derived.Test.YtpheohgceepboaaDoorDecO
import Derived.Test.YtpheohgceepboaaDoorDecF
import Derived.Test.YtpheohgceepboaaDoorDecK
import Derived.Test.YtpheohgceepboaaDoorFrame
import Derived.ProofKit
import Derived.SizedLaws
import Derived.OpenShut
import Derived.Lay
import Derived.LaidMore
import Derived.SevenTiedAt
import Derived.IntWalk
set_option linter.unusedVariables false
set_option linter.unusedSimpArgs false
set_option maxRecDepth 100000
namespace Go.Proofs.YtpheohgceepboaaDoor.decOrder
open Go.ChangeShapes Go.WideShapes Go.ChangeAt Go.RowKit Go.Mem Orange

theorem eql_dec (a b : Num) (w : World) : (binOp .eql 25 (.agg #[.bool a.neg, .string ⟨a.digits.toArray⟩, .int .i64 a.exp]) (.agg #[.bool b.neg, .string ⟨b.digits.toArray⟩, .int .i64 b.exp])).run Tryd.prog w = .ok (.bool (decide (a = b))) w := by
  obtain ⟨a1, a2, a3⟩ := a
  obtain ⟨b1, b2, b3⟩ := b
  simp only [Num.mk.injEq]
  by_cases h1 : a1 = b1
  · by_cases h2 : a2 = b2
    · by_cases h3 : a3 = b3
      · subst h1; subst h2; subst h3
        go_simp
      · have q3 : (a3 == b3) = false := by simpa using h3
        subst h1; subst h2
        go_simp
    · have q2 : (a2 == b2) = false := by simpa using h2
      subst h1
      go_simp
  · have q1 : (a1 == b1) = false := by simpa using h1
    go_simp
theorem ext_newnum (w : World) (d : Num) : Ext w (w.alloc (.cells #[.bool d.neg, .string ⟨d.digits.toArray⟩, .int .i64 d.exp] 25)) := (ext_refl w).alloc (Nat.le_refl _) _
set_option maxHeartbeats 6400000 in
theorem walk (a : Num) (ha : a.digits.length ≤ 140737488351232) (ha0 : -9223372036854775808 ≤ a.exp) (ha1 : a.exp ≤ 9223372036854775807) (b : Num) (hb : b.digits.length ≤ 140737488351232) (hb0 : -9223372036854775808 ≤ b.exp) (hb1 : b.exp ≤ 9223372036854775807) (c : Num) (hc : c.digits.length ≤ 140737488351232) (hc0 : -9223372036854775808 ≤ c.exp) (hc1 : c.exp ≤ 9223372036854775807) (w : World) (hT : Tab w) :
    Calls Tryd.prog 5 #[.agg #[.bool a.neg, .string ⟨a.digits.toArray⟩, .int .i64 a.exp], .agg #[.bool b.neg, .string ⟨b.digits.toArray⟩, .int .i64 b.exp], .agg #[.bool c.neg, .string ⟨c.digits.toArray⟩, .int .i64 c.exp]] w fun e w' => e = .returned (.bool true) ∧ Ext w w' := by
  obtain ⟨an, al, ax⟩ := a
  obtain ⟨bn, bl, bx⟩ := b
  obtain ⟨cn, cl, cx⟩ := c
  simp only at ha hb hc ⊢
  clear ha0 ha1 hb0 hb1 hc0 hc1
  have HLA : Hid (al.length ≤ 140737488355328) := Lib.hid (by omega)
  have HLB : Hid (bl.length ≤ 140737488355328) := Lib.hid (by omega)
  have HLC : Hid (cl.length ≤ 140737488355328) := Lib.hid (by omega)
  clear ha hb hc
  go_enter Tryd.func5, Tryd.ntmps5
  go_wp2_with fail
  have hA := NumAt.new w ⟨an, al, ax⟩
  have hx := ext_newnum w ⟨an, al, ax⟩
  simp only at hA hx
  generalize hw1 : w.alloc (.cells #[.bool an, .string ⟨al.toArray⟩, .int .i64 ax] 25) = w1 at *
  have hs1 : w1.heap.size = w.heap.size + 1 := by rw [← hw1]; simp
  have hE := hx
  clear hx
  have hB := NumAt.new w1 ⟨bn, bl, bx⟩
  have hx := ext_newnum w1 ⟨bn, bl, bx⟩
  simp only at hB hx
  have hA := hA.ext hx
  have hE := ext_trans hE hx
  generalize hw2 : w1.alloc (.cells #[.bool bn, .string ⟨bl.toArray⟩, .int .i64 bx] 25) = w2 at *
  have hs2 : w2.heap.size = w.heap.size + 2 := by rw [← hw2]; simp [hs1]
  clear hx
  have hC := NumAt.new w2 ⟨cn, cl, cx⟩
  have hx := ext_newnum w2 ⟨cn, cl, cx⟩
  simp only at hC hx
  have hA := hA.ext hx
  have hB := hB.ext hx
  have hE := ext_trans hE hx
  generalize hw3 : w2.alloc (.cells #[.bool cn, .string ⟨cl.toArray⟩, .int .i64 cx] 25) = w3 at *
  rw [hs1] at hB
  rw [hs2] at hC
  clear hx hw1 hw2 hw3 hs1 hs2
  refine (dawake w3 (hT.ext hE)).mono ?_
  rintro e w4 ⟨rfl, hw4⟩
  have HA := Lib.hid (hA.ext hw4)
  have HB := Lib.hid (hB.ext hw4)
  have HC := Lib.hid (hC.ext hw4)
  have hE4 := ext_trans hE hw4
  clear hA hB hC hw4 hE
  obtain ⟨a0, a1, a2, af0, af1, af2, hp⟩ := (HA.out).cells
  simp only at a0 a1 a2
  obtain ⟨b0, b1, b2, bf0, bf1, bf2, hq⟩ := (HB.out).cells
  simp only at b0 b1 b2
  obtain ⟨c0, c1, c2, cf0, cf1, cf2, hr⟩ := (HC.out).cells
  simp only at c0 c1 c2
  go_wp2_with fail
  refine (sane_any ⟨an, al, ax⟩ _ HLA.out).mono ?_
  rintro e w5 ⟨rfl, hw5⟩
  have HA5 := Lib.hid (HA.out.ext hw5)
  have HB5 := Lib.hid (HB.out.ext hw5)
  have HC5 := Lib.hid (HC.out.ext hw5)
  have hE5 := ext_trans hE4 hw5
  clear a0 a1 a2 af0 af1 af2 hp b0 b1 b2 bf0 bf1 bf2 hq c0 c1 c2 cf0 cf1 cf2 hr
  clear hw5 hE4 HA HB HC
  obtain ⟨a0, a1, a2, af0, af1, af2, hp⟩ := (HA5.out).cells
  simp only at a0 a1 a2
  obtain ⟨b0, b1, b2, bf0, bf1, bf2, hq⟩ := (HB5.out).cells
  simp only at b0 b1 b2
  obtain ⟨c0, c1, c2, cf0, cf1, cf2, hr⟩ := (HC5.out).cells
  simp only at c0 c1 c2
  cases hsa : sane ⟨an, al, ax⟩ with
  | false =>
    clear hsa
    go_wp2_with fail
    go_ret
    exact ⟨rfl, hE5⟩
  | true =>
    have HSA := Lib.hid hsa
    clear hsa
    go_wp2_with fail
    refine (sane_any ⟨bn, bl, bx⟩ _ HLB.out).mono ?_
    rintro e w6 ⟨rfl, hw6⟩
    have HA6 := Lib.hid (HA5.out.ext hw6)
    have HB6 := Lib.hid (HB5.out.ext hw6)
    have HC6 := Lib.hid (HC5.out.ext hw6)
    have hE6 := ext_trans hE5 hw6
    clear a0 a1 a2 af0 af1 af2 hp b0 b1 b2 bf0 bf1 bf2 hq c0 c1 c2 cf0 cf1 cf2 hr
    clear hw6 hE5 HA5 HB5 HC5
    obtain ⟨a0, a1, a2, af0, af1, af2, hp⟩ := (HA6.out).cells
    simp only at a0 a1 a2
    obtain ⟨b0, b1, b2, bf0, bf1, bf2, hq⟩ := (HB6.out).cells
    simp only at b0 b1 b2
    obtain ⟨c0, c1, c2, cf0, cf1, cf2, hr⟩ := (HC6.out).cells
    simp only at c0 c1 c2
    cases hsb : sane ⟨bn, bl, bx⟩ with
    | false =>
      clear hsb
      go_wp2_with fail
      go_ret
      exact ⟨rfl, hE6⟩
    | true =>
      have HSB := Lib.hid hsb
      clear hsb
      go_wp2_with fail
      refine (sane_any ⟨cn, cl, cx⟩ _ HLC.out).mono ?_
      rintro e w7 ⟨rfl, hw7⟩
      have HA7 := Lib.hid (HA6.out.ext hw7)
      have HB7 := Lib.hid (HB6.out.ext hw7)
      have HC7 := Lib.hid (HC6.out.ext hw7)
      have hE7 := ext_trans hE6 hw7
      clear a0 a1 a2 af0 af1 af2 hp b0 b1 b2 bf0 bf1 bf2 hq c0 c1 c2 cf0 cf1 cf2 hr
      clear hw7 hE6 HA6 HB6 HC6
      obtain ⟨a0, a1, a2, af0, af1, af2, hp⟩ := (HA7.out).cells
      simp only at a0 a1 a2
      obtain ⟨b0, b1, b2, bf0, bf1, bf2, hq⟩ := (HB7.out).cells
      simp only at b0 b1 b2
      obtain ⟨c0, c1, c2, cf0, cf1, cf2, hr⟩ := (HC7.out).cells
      simp only at c0 c1 c2
      cases hsc : sane ⟨cn, cl, cx⟩ with
      | false =>
        clear hsc
        go_wp2_with fail
        go_ret
        exact ⟨rfl, hE7⟩
      | true =>
        have HSC := Lib.hid hsc
        clear hsc
        go_wp2_with fail
        refine (compare_any ⟨an, al, ax⟩ ⟨bn, bl, bx⟩ _ HLA.out HLB.out).mono ?_
        rintro e w8 ⟨rfl, hw8⟩
        obtain ⟨n, hn⟩ : ∃ n, cmpP ⟨an, al, ax⟩ ⟨bn, bl, bx⟩ = n := ⟨_, rfl⟩
        rw [hn]
        have HN := Lib.hid hn
        clear hn
        have HA8 := Lib.hid (HA7.out.ext hw8)
        have HB8 := Lib.hid (HB7.out.ext hw8)
        have HC8 := Lib.hid (HC7.out.ext hw8)
        have hE8 := ext_trans hE7 hw8
        clear a0 a1 a2 af0 af1 af2 hp b0 b1 b2 bf0 bf1 bf2 hq c0 c1 c2 cf0 cf1 cf2 hr
        clear hw8 hE7 HA7 HB7 HC7
        obtain ⟨a0, a1, a2, af0, af1, af2, hp⟩ := (HA8.out).cells
        simp only at a0 a1 a2
        obtain ⟨b0, b1, b2, bf0, bf1, bf2, hq⟩ := (HB8.out).cells
        simp only at b0 b1 b2
        obtain ⟨c0, c1, c2, cf0, cf1, cf2, hr⟩ := (HC8.out).cells
        simp only at c0 c1 c2
        go_wp2_with fail
        refine (add_any ⟨an, al, ax⟩ ⟨cn, cl, cx⟩ _ HLA.out HLC.out).mono ?_
        rintro e w9 ⟨rfl, hw9⟩
        obtain ⟨X, hX⟩ : ∃ X, addP ⟨an, al, ax⟩ ⟨cn, cl, cx⟩ = X := ⟨_, rfl⟩
        rw [hX]
        have HX := Lib.hid hX
        clear hX
        obtain ⟨⟨xn, xl, xx⟩, xe⟩ := X
        have HA9 := Lib.hid (HA8.out.ext hw9)
        have HB9 := Lib.hid (HB8.out.ext hw9)
        have HC9 := Lib.hid (HC8.out.ext hw9)
        have hE9 := ext_trans hE8 hw9
        clear a0 a1 a2 af0 af1 af2 hp b0 b1 b2 bf0 bf1 bf2 hq c0 c1 c2 cf0 cf1 cf2 hr
        clear hw9 hE8 HA8 HB8 HC8
        simp only
        have hD := NumAt.new w9 ⟨xn, xl, xx⟩
        have hx := ext_newnum w9 ⟨xn, xl, xx⟩
        simp only at hD hx
        have HA10 := Lib.hid (HA9.out.ext hx)
        have HB10 := Lib.hid (HB9.out.ext hx)
        have HC10 := Lib.hid (HC9.out.ext hx)
        have hE10 := ext_trans hE9 hx
        obtain ⟨a0, a1, a2, af0, af1, af2, hp⟩ := (HA10.out).cells
        simp only at a0 a1 a2
        obtain ⟨b0, b1, b2, bf0, bf1, bf2, hq⟩ := (HB10.out).cells
        simp only at b0 b1 b2
        obtain ⟨c0, c1, c2, cf0, cf1, cf2, hr⟩ := (HC10.out).cells
        simp only at c0 c1 c2
        go_wp2_with fail
        generalize hg : w9.heap.size = p9 at *
        generalize hw10 : w9.alloc (.cells #[.bool xn, .string ⟨xl.toArray⟩, .int .i64 xx] 25) = w10 at *
        refine (add_any ⟨bn, bl, bx⟩ ⟨cn, cl, cx⟩ _ HLB.out HLC.out).mono ?_
        rintro e w11 ⟨rfl, hw11⟩
        obtain ⟨Y, hY⟩ : ∃ Y, addP ⟨bn, bl, bx⟩ ⟨cn, cl, cx⟩ = Y := ⟨_, rfl⟩
        rw [hY]
        have HY := Lib.hid hY
        clear hY
        obtain ⟨⟨yn, yl, yx⟩, ye⟩ := Y
        simp only
        have HA11 := Lib.hid (HA10.out.ext hw11)
        have HB11 := Lib.hid (HB10.out.ext hw11)
        have HC11 := Lib.hid (HC10.out.ext hw11)
        have HD11 := Lib.hid (hD.ext hw11)
        have hE11 := ext_trans hE10 hw11
        clear a0 a1 a2 af0 af1 af2 hp b0 b1 b2 bf0 bf1 bf2 hq c0 c1 c2 cf0 cf1 cf2 hr
        clear hw11 hE10 HA10 HB10 HC10 HA9 HB9 HC9 hE9 hx hg hw10 hD
        have hF := NumAt.new w11 ⟨yn, yl, yx⟩
        have hx := ext_newnum w11 ⟨yn, yl, yx⟩
        simp only at hF hx
        have HA12 := Lib.hid (HA11.out.ext hx)
        have HB12 := Lib.hid (HB11.out.ext hx)
        have HC12 := Lib.hid (HC11.out.ext hx)
        have HD12 := Lib.hid (HD11.out.ext hx)
        have hE12 := ext_trans hE11 hx
        have HF12 := Lib.hid hF
        clear hF
        go_wp2_with fail
        generalize hg : w11.heap.size = p11 at *
        generalize hw12 : w11.alloc (.cells #[.bool yn, .string ⟨yl.toArray⟩, .int .i64 yx] 25) = w12 at *
        clear hw12 hg hx HA11 HB11 HC11 HD11 hE11
        rcases cmpP_range ⟨an, al, ax⟩ ⟨bn, bl, bx⟩ with h | h | h
        · obtain rfl : n = -1 := HN.out.symm.trans h
          clear h
          have hd : decide ((⟨an, al, ax⟩ : Num) = ⟨bn, bl, bx⟩) = false := decide_eq_false (fun h => by have := (cmpP_zero HSA.out HSB.out).2 h; rw [HN.out] at this; omega)
          have H1 : Hid (cmpP ⟨bn, bl, bx⟩ ⟨an, al, ax⟩ = 1) := Lib.hid (by rw [cmpP_swap HSA.out HSB.out, HN.out] <;> rfl)
          have H2 : Hid (cmpP (negP ⟨an, al, ax⟩) (negP ⟨bn, bl, bx⟩) = 1) := Lib.hid (by rw [cmpP_neg HSA.out HSB.out, HN.out] <;> rfl)
          have HL1 := Lib.hid (sane_len (negP_sane HSA.out))
          have HL2 := Lib.hid (sane_len (negP_sane HSB.out))
          obtain ⟨U, hU⟩ : ∃ U, negP ⟨an, al, ax⟩ = U := ⟨_, rfl⟩
          obtain ⟨V, hV⟩ : ∃ V, negP ⟨bn, bl, bx⟩ = V := ⟨_, rfl⟩
          rw [hU] at H2 HL1
          rw [hV] at H2 HL2
          have HU := Lib.hid hU
          have HV := Lib.hid hV
          clear hU hV
          obtain ⟨un, ul, ux⟩ := U
          obtain ⟨vn, vl, vx⟩ := V
          simp only at HL1 HL2
          have heql := fun w => eql_dec ⟨an, al, ax⟩ ⟨bn, bl, bx⟩ w
          rw [hd] at heql
          simp only at heql
          clear hd
          refine Grow.wp_region_lit (G := Ext) (B := fun w' => Ext w12 w') (anc := fun _ => []) (I := fun j => if j = 3 then some (Grow.Spec.val Ext (.int .i64 1)) else if j = 16 then some (Grow.Spec.val Ext (.agg #[.bool un, .string ⟨ul.toArray⟩, .int .i64 ux])) else if j = 18 then some (Grow.Spec.val Ext (.agg #[.bool vn, .string ⟨vl.toArray⟩, .int .i64 vx])) else if j = 19 then some (Grow.Spec.val Ext (.int .i64 1)) else none) (by kernel_rfl) (by kernel_rfl) (by kernel_rfl) ?_ ?_ ?_
          · exact fun w w' h hg => ext_trans h hg
          · exact (ext_refl _).drew
          repeat
            (refine Grow.walk_step (fun K hK => ?_)
             first
             | (refine Grow.step_read (by rfl) (by rfl) ext_refl ?_
                apply Exists.intro
                refine ⟨fun w hB hF => ?_, ?_⟩
                · obtain ⟨a0, a1, a2, af0, af1, af2, hp⟩ := (HA12.out.ext hB).cells; obtain ⟨b0, b1, b2, bf0, bf1, bf2, hq⟩ := (HB12.out.ext hB).cells; simp only at a0 a1 a2 b0 b1 b2
                  go_simp
                  try exact rfl
                go_simp
                refine hK _ _ ?_
                clear hK K)
             | (refine Grow.step_off (by rfl) ?_
                go_simp
                refine hK _ _ ?_
                clear hK K))
          refine Grow.walk_step (fun K hK => ?_)
          refine Grow.step_rel (by rfl) (by rfl) (fun w' hB hF => ?_) (fun v hv => ?_)
          · go_simp
            refine Grow.relUpon_enter ((compare_any ⟨bn, bl, bx⟩ ⟨an, al, ax⟩ w' HLB.out HLA.out).mono ?_)
            rintro e w'' ⟨rfl, hw''⟩
            exact ⟨_, rfl, hw'', by rw [H1.out]; rfl, trivial⟩
          obtain rfl : v = _ := hv
          go_simp
          refine hK _ _ ?_
          clear hK K
          repeat
            (refine Grow.walk_step (fun K hK => ?_)
             first
             | (refine Grow.step_read (by rfl) (by rfl) ext_refl ?_
                apply Exists.intro
                refine ⟨fun w hB hF => ?_, ?_⟩
                · obtain ⟨a0, a1, a2, af0, af1, af2, hp⟩ := (HA12.out.ext hB).cells; obtain ⟨b0, b1, b2, bf0, bf1, bf2, hq⟩ := (HB12.out.ext hB).cells; simp only at a0 a1 a2 b0 b1 b2
                  go_simp
                  try exact rfl
                go_simp
                refine hK _ _ ?_
                clear hK K)
             | (refine Grow.step_off (by rfl) ?_
                go_simp
                refine hK _ _ ?_
                clear hK K))
          refine Grow.walk_step (fun K hK => ?_)
          refine Grow.step_rel (by rfl) (by rfl) (fun w' hB hF => ?_) (fun v hv => ?_)
          · go_simp
            refine Grow.relUpon_enter ((neg_any ⟨an, al, ax⟩ w' HLA.out).mono ?_)
            rintro e w'' ⟨rfl, hw''⟩
            exact ⟨_, rfl, hw'', by rw [HU.out]; rfl, trivial⟩
          obtain rfl : v = _ := hv
          go_simp
          refine hK _ _ ?_
          clear hK K
          repeat
            (refine Grow.walk_step (fun K hK => ?_)
             first
             | (refine Grow.step_read (by rfl) (by rfl) ext_refl ?_
                apply Exists.intro
                refine ⟨fun w hB hF => ?_, ?_⟩
                · obtain ⟨a0, a1, a2, af0, af1, af2, hp⟩ := (HA12.out.ext hB).cells; obtain ⟨b0, b1, b2, bf0, bf1, bf2, hq⟩ := (HB12.out.ext hB).cells; simp only at a0 a1 a2 b0 b1 b2
                  go_simp
                  try exact rfl
                go_simp
                refine hK _ _ ?_
                clear hK K)
             | (refine Grow.step_off (by rfl) ?_
                go_simp
                refine hK _ _ ?_
                clear hK K))
          refine Grow.walk_step (fun K hK => ?_)
          refine Grow.step_rel (by rfl) (by rfl) (fun w' hB hF => ?_) (fun v hv => ?_)
          · go_simp
            refine Grow.relUpon_enter ((neg_any ⟨bn, bl, bx⟩ w' HLB.out).mono ?_)
            rintro e w'' ⟨rfl, hw''⟩
            exact ⟨_, rfl, hw'', by rw [HV.out]; rfl, trivial⟩
          obtain rfl : v = _ := hv
          go_simp
          refine hK _ _ ?_
          clear hK K
          refine Grow.walk_step (fun K hK => ?_)
          refine Grow.step_rel (by rfl) (by rfl) (fun w' hB hF => ?_) (fun v hv => ?_)
          · go_simp
            refine Grow.relUpon_enter ((compare_any ⟨un, ul, ux⟩ ⟨vn, vl, vx⟩ w' (Nat.le_trans HL1.out (by decide)) (Nat.le_trans HL2.out (by decide))).mono ?_)
            rintro e w'' ⟨rfl, hw''⟩
            exact ⟨_, rfl, hw'', by rw [H2.out]; rfl, trivial⟩
          obtain rfl : v = _ := hv
          go_simp
          refine hK _ _ ?_
          clear hK K
          repeat
            (refine Grow.walk_step (fun K hK => ?_)
             first
             | (refine Grow.step_read (by rfl) (by rfl) ext_refl ?_
                apply Exists.intro
                refine ⟨fun w hB hF => ?_, ?_⟩
                · skip
                  go_simp
                  try exact rfl
                go_simp
                refine hK _ _ ?_
                clear hK K)
             | (refine Grow.step_off (by rfl) ?_
                go_simp
                refine hK _ _ ?_
                clear hK K))
          refine Grow.walk_nil ?_
          intro w13 hB hF
          clear hF heql
          have HA13 := Lib.hid (HA12.out.ext hB)
          have HB13 := Lib.hid (HB12.out.ext hB)
          have HC13 := Lib.hid (HC12.out.ext hB)
          have HD13 := Lib.hid (HD12.out.ext hB)
          have HF13 := Lib.hid (HF12.out.ext hB)
          have hE13 := ext_trans hE12 hB
          clear hB hE12 HA12 HB12 HC12 HD12 HF12
          obtain ⟨a0, a1, a2, af0, af1, af2, hp⟩ := (HA13.out).cells
          simp only at a0 a1 a2
          obtain ⟨b0, b1, b2, bf0, bf1, bf2, hq⟩ := (HB13.out).cells
          simp only at b0 b1 b2
          obtain ⟨c0, c1, c2, cf0, cf1, cf2, hr⟩ := (HC13.out).cells
          simp only at c0 c1 c2
          go_wp2_with fail
          refine (compare_any ⟨bn, bl, bx⟩ ⟨cn, cl, cx⟩ _ HLB.out HLC.out).mono ?_
          rintro e w14 ⟨rfl, hw14⟩
          have HA14 := Lib.hid (HA13.out.ext hw14)
          have HB14 := Lib.hid (HB13.out.ext hw14)
          have HC14 := Lib.hid (HC13.out.ext hw14)
          have HD14 := Lib.hid (HD13.out.ext hw14)
          have HF14 := Lib.hid (HF13.out.ext hw14)
          have hE14 := ext_trans hE13 hw14
          clear a0 a1 a2 af0 af1 af2 hp b0 b1 b2 bf0 bf1 bf2 hq c0 c1 c2 cf0 cf1 cf2 hr
          clear hw14 hE13 HA13 HB13 HC13 HD13 HF13
          obtain ⟨a0, a1, a2, af0, af1, af2, hp⟩ := (HA14.out).cells
          simp only at a0 a1 a2
          obtain ⟨b0, b1, b2, bf0, bf1, bf2, hq⟩ := (HB14.out).cells
          simp only at b0 b1 b2
          obtain ⟨c0, c1, c2, cf0, cf1, cf2, hr⟩ := (HC14.out).cells
          simp only at c0 c1 c2
          rcases cmpP_range ⟨bn, bl, bx⟩ ⟨cn, cl, cx⟩ with h | h | h
          · rw [h]
            have HM := Lib.hid h
            clear h
            go_wp2_with fail
            refine (compare_any ⟨an, al, ax⟩ ⟨cn, cl, cx⟩ _ HLA.out HLC.out).mono ?_
            rintro e w15 ⟨rfl, hw15⟩
            have h : cmpP ⟨an, al, ax⟩ ⟨cn, cl, cx⟩ = -1 := by
              have h1 := cmpP_trans HSA.out HSB.out HSC.out (by rw [HN.out]; decide) (by rw [HM.out]; decide)
              have h2 := cmpP_range ⟨an, al, ax⟩ ⟨cn, cl, cx⟩
              omega
            rw [h]
            clear h
            have HA15 := Lib.hid (HA14.out.ext hw15)
            have HB15 := Lib.hid (HB14.out.ext hw15)
            have HC15 := Lib.hid (HC14.out.ext hw15)
            have HD15 := Lib.hid (HD14.out.ext hw15)
            have HF15 := Lib.hid (HF14.out.ext hw15)
            have hE15 := ext_trans hE14 hw15
            clear a0 a1 a2 af0 af1 af2 hp b0 b1 b2 bf0 bf1 bf2 hq c0 c1 c2 cf0 cf1 cf2 hr
            clear hw15 hE14 HA14 HB14 HC14 HD14 HF14
            by_cases hxe : xe = 0
            · by_cases hye : ye = 0
              · subst hxe; subst hye
                obtain ⟨u1, u2, u3⟩ := under3 ⟨an, al, ax⟩ ⟨bn, bl, bx⟩ ⟨cn, cl, cx⟩
                have hs1 := (addP_ok HSA.out HSC.out _ u1 u3 (by rw [HX.out])).2
                have hs2 := (addP_ok HSB.out HSC.out _ u2 u3 (by rw [HY.out])).2
                have hf := cmpP_add HSA.out HSB.out HSC.out (by rw [HX.out]) (by rw [HY.out])
                rw [HX.out] at hs1 hf
                rw [HY.out] at hs2 hf
                rw [HN.out] at hf
                simp only at hs1 hs2 hf
                have HL1 := Lib.hid (sane_len hs1)
                have HL2 := Lib.hid (sane_len hs2)
                simp only at HL1 HL2
                have HFF := Lib.hid hf
                clear hs1 hs2 hf u1 u2 u3
                obtain ⟨a0, a1, a2, af0, af1, af2, hp⟩ := ((HD15).out).cells
                simp only at a0 a1 a2
                obtain ⟨b0, b1, b2, bf0, bf1, bf2, hq⟩ := ((HF15).out).cells
                simp only at b0 b1 b2
                go_wp2_with fail
                refine (compare_any ⟨xn, xl, xx⟩ ⟨yn, yl, yx⟩ _ (Nat.le_trans HL1.out (by decide)) (Nat.le_trans HL2.out (by decide))).mono ?_
                rintro e wz ⟨rfl, hwz⟩
                rw [HFF.out]
                go_wp2_with fail
                go_ret
                exact ⟨rfl, ext_trans (hE15) hwz⟩
              · subst hxe
                have hq : (ye != 0) = true := by simpa using hye
                go_wp2_with fail
                go_ret
                exact ⟨rfl, (hE15)⟩
            · have hq : (xe != 0) = true := by simpa using hxe
              go_wp2_with fail
              go_ret
              exact ⟨rfl, (hE15)⟩
          · rw [h]
            clear h
            clear a0 a1 a2 af0 af1 af2 hp b0 b1 b2 bf0 bf1 bf2 hq c0 c1 c2 cf0 cf1 cf2 hr
            by_cases hxe : xe = 0
            · by_cases hye : ye = 0
              · subst hxe; subst hye
                obtain ⟨u1, u2, u3⟩ := under3 ⟨an, al, ax⟩ ⟨bn, bl, bx⟩ ⟨cn, cl, cx⟩
                have hs1 := (addP_ok HSA.out HSC.out _ u1 u3 (by rw [HX.out])).2
                have hs2 := (addP_ok HSB.out HSC.out _ u2 u3 (by rw [HY.out])).2
                have hf := cmpP_add HSA.out HSB.out HSC.out (by rw [HX.out]) (by rw [HY.out])
                rw [HX.out] at hs1 hf
                rw [HY.out] at hs2 hf
                rw [HN.out] at hf
                simp only at hs1 hs2 hf
                have HL1 := Lib.hid (sane_len hs1)
                have HL2 := Lib.hid (sane_len hs2)
                simp only at HL1 HL2
                have HFF := Lib.hid hf
                clear hs1 hs2 hf u1 u2 u3
                obtain ⟨a0, a1, a2, af0, af1, af2, hp⟩ := ((HD14).out).cells
                simp only at a0 a1 a2
                obtain ⟨b0, b1, b2, bf0, bf1, bf2, hq⟩ := ((HF14).out).cells
                simp only at b0 b1 b2
                go_wp2_with fail
                refine (compare_any ⟨xn, xl, xx⟩ ⟨yn, yl, yx⟩ _ (Nat.le_trans HL1.out (by decide)) (Nat.le_trans HL2.out (by decide))).mono ?_
                rintro e wz ⟨rfl, hwz⟩
                rw [HFF.out]
                go_wp2_with fail
                go_ret
                exact ⟨rfl, ext_trans (hE14) hwz⟩
              · subst hxe
                have hq : (ye != 0) = true := by simpa using hye
                go_wp2_with fail
                go_ret
                exact ⟨rfl, (hE14)⟩
            · have hq : (xe != 0) = true := by simpa using hxe
              go_wp2_with fail
              go_ret
              exact ⟨rfl, (hE14)⟩
          · rw [h]
            clear h
            clear a0 a1 a2 af0 af1 af2 hp b0 b1 b2 bf0 bf1 bf2 hq c0 c1 c2 cf0 cf1 cf2 hr
            by_cases hxe : xe = 0
            · by_cases hye : ye = 0
              · subst hxe; subst hye
                obtain ⟨u1, u2, u3⟩ := under3 ⟨an, al, ax⟩ ⟨bn, bl, bx⟩ ⟨cn, cl, cx⟩
                have hs1 := (addP_ok HSA.out HSC.out _ u1 u3 (by rw [HX.out])).2
                have hs2 := (addP_ok HSB.out HSC.out _ u2 u3 (by rw [HY.out])).2
                have hf := cmpP_add HSA.out HSB.out HSC.out (by rw [HX.out]) (by rw [HY.out])
                rw [HX.out] at hs1 hf
                rw [HY.out] at hs2 hf
                rw [HN.out] at hf
                simp only at hs1 hs2 hf
                have HL1 := Lib.hid (sane_len hs1)
                have HL2 := Lib.hid (sane_len hs2)
                simp only at HL1 HL2
                have HFF := Lib.hid hf
                clear hs1 hs2 hf u1 u2 u3
                obtain ⟨a0, a1, a2, af0, af1, af2, hp⟩ := ((HD14).out).cells
                simp only at a0 a1 a2
                obtain ⟨b0, b1, b2, bf0, bf1, bf2, hq⟩ := ((HF14).out).cells
                simp only at b0 b1 b2
                go_wp2_with fail
                refine (compare_any ⟨xn, xl, xx⟩ ⟨yn, yl, yx⟩ _ (Nat.le_trans HL1.out (by decide)) (Nat.le_trans HL2.out (by decide))).mono ?_
                rintro e wz ⟨rfl, hwz⟩
                rw [HFF.out]
                go_wp2_with fail
                go_ret
                exact ⟨rfl, ext_trans (hE14) hwz⟩
              · subst hxe
                have hq : (ye != 0) = true := by simpa using hye
                go_wp2_with fail
                go_ret
                exact ⟨rfl, (hE14)⟩
            · have hq : (xe != 0) = true := by simpa using hxe
              go_wp2_with fail
              go_ret
              exact ⟨rfl, (hE14)⟩
        · obtain rfl : n = 0 := HN.out.symm.trans h
          clear h
          have hd : decide ((⟨an, al, ax⟩ : Num) = ⟨bn, bl, bx⟩) = true := decide_eq_true ((cmpP_zero HSA.out HSB.out).1 HN.out)
          have H1 : Hid (cmpP ⟨bn, bl, bx⟩ ⟨an, al, ax⟩ = 0) := Lib.hid (by rw [cmpP_swap HSA.out HSB.out, HN.out] <;> rfl)
          have H2 : Hid (cmpP (negP ⟨an, al, ax⟩) (negP ⟨bn, bl, bx⟩) = 0) := Lib.hid (by rw [cmpP_neg HSA.out HSB.out, HN.out] <;> rfl)
          have HL1 := Lib.hid (sane_len (negP_sane HSA.out))
          have HL2 := Lib.hid (sane_len (negP_sane HSB.out))
          obtain ⟨U, hU⟩ : ∃ U, negP ⟨an, al, ax⟩ = U := ⟨_, rfl⟩
          obtain ⟨V, hV⟩ : ∃ V, negP ⟨bn, bl, bx⟩ = V := ⟨_, rfl⟩
          rw [hU] at H2 HL1
          rw [hV] at H2 HL2
          have HU := Lib.hid hU
          have HV := Lib.hid hV
          clear hU hV
          obtain ⟨un, ul, ux⟩ := U
          obtain ⟨vn, vl, vx⟩ := V
          simp only at HL1 HL2
          have heql := fun w => eql_dec ⟨an, al, ax⟩ ⟨bn, bl, bx⟩ w
          rw [hd] at heql
          simp only at heql
          clear hd
          refine Grow.wp_region_lit (G := Ext) (B := fun w' => Ext w12 w') (anc := fun _ => []) (I := fun j => if j = 3 then some (Grow.Spec.val Ext (.int .i64 0)) else if j = 16 then some (Grow.Spec.val Ext (.agg #[.bool un, .string ⟨ul.toArray⟩, .int .i64 ux])) else if j = 18 then some (Grow.Spec.val Ext (.agg #[.bool vn, .string ⟨vl.toArray⟩, .int .i64 vx])) else if j = 19 then some (Grow.Spec.val Ext (.int .i64 0)) else none) (by kernel_rfl) (by kernel_rfl) (by kernel_rfl) ?_ ?_ ?_
          · exact fun w w' h hg => ext_trans h hg
          · exact (ext_refl _).drew
          repeat
            (refine Grow.walk_step (fun K hK => ?_)
             first
             | (refine Grow.step_read (by rfl) (by rfl) ext_refl ?_
                apply Exists.intro
                refine ⟨fun w hB hF => ?_, ?_⟩
                · obtain ⟨a0, a1, a2, af0, af1, af2, hp⟩ := (HA12.out.ext hB).cells; obtain ⟨b0, b1, b2, bf0, bf1, bf2, hq⟩ := (HB12.out.ext hB).cells; simp only at a0 a1 a2 b0 b1 b2
                  go_simp
                  try exact rfl
                go_simp
                refine hK _ _ ?_
                clear hK K)
             | (refine Grow.step_off (by rfl) ?_
                go_simp
                refine hK _ _ ?_
                clear hK K))
          refine Grow.walk_step (fun K hK => ?_)
          refine Grow.step_rel (by rfl) (by rfl) (fun w' hB hF => ?_) (fun v hv => ?_)
          · go_simp
            refine Grow.relUpon_enter ((compare_any ⟨bn, bl, bx⟩ ⟨an, al, ax⟩ w' HLB.out HLA.out).mono ?_)
            rintro e w'' ⟨rfl, hw''⟩
            exact ⟨_, rfl, hw'', by rw [H1.out]; rfl, trivial⟩
          obtain rfl : v = _ := hv
          go_simp
          refine hK _ _ ?_
          clear hK K
          repeat
            (refine Grow.walk_step (fun K hK => ?_)
             first
             | (refine Grow.step_read (by rfl) (by rfl) ext_refl ?_
                apply Exists.intro
                refine ⟨fun w hB hF => ?_, ?_⟩
                · obtain ⟨a0, a1, a2, af0, af1, af2, hp⟩ := (HA12.out.ext hB).cells; obtain ⟨b0, b1, b2, bf0, bf1, bf2, hq⟩ := (HB12.out.ext hB).cells; simp only at a0 a1 a2 b0 b1 b2
                  go_simp
                  try exact rfl
                go_simp
                refine hK _ _ ?_
                clear hK K)
             | (refine Grow.step_off (by rfl) ?_
                go_simp
                refine hK _ _ ?_
                clear hK K))
          refine Grow.walk_step (fun K hK => ?_)
          refine Grow.step_rel (by rfl) (by rfl) (fun w' hB hF => ?_) (fun v hv => ?_)
          · go_simp
            refine Grow.relUpon_enter ((neg_any ⟨an, al, ax⟩ w' HLA.out).mono ?_)
            rintro e w'' ⟨rfl, hw''⟩
            exact ⟨_, rfl, hw'', by rw [HU.out]; rfl, trivial⟩
          obtain rfl : v = _ := hv
          go_simp
          refine hK _ _ ?_
          clear hK K
          repeat
            (refine Grow.walk_step (fun K hK => ?_)
             first
             | (refine Grow.step_read (by rfl) (by rfl) ext_refl ?_
                apply Exists.intro
                refine ⟨fun w hB hF => ?_, ?_⟩
                · obtain ⟨a0, a1, a2, af0, af1, af2, hp⟩ := (HA12.out.ext hB).cells; obtain ⟨b0, b1, b2, bf0, bf1, bf2, hq⟩ := (HB12.out.ext hB).cells; simp only at a0 a1 a2 b0 b1 b2
                  go_simp
                  try exact rfl
                go_simp
                refine hK _ _ ?_
                clear hK K)
             | (refine Grow.step_off (by rfl) ?_
                go_simp
                refine hK _ _ ?_
                clear hK K))
          refine Grow.walk_step (fun K hK => ?_)
          refine Grow.step_rel (by rfl) (by rfl) (fun w' hB hF => ?_) (fun v hv => ?_)
          · go_simp
            refine Grow.relUpon_enter ((neg_any ⟨bn, bl, bx⟩ w' HLB.out).mono ?_)
            rintro e w'' ⟨rfl, hw''⟩
            exact ⟨_, rfl, hw'', by rw [HV.out]; rfl, trivial⟩
          obtain rfl : v = _ := hv
          go_simp
          refine hK _ _ ?_
          clear hK K
          refine Grow.walk_step (fun K hK => ?_)
          refine Grow.step_rel (by rfl) (by rfl) (fun w' hB hF => ?_) (fun v hv => ?_)
          · go_simp
            refine Grow.relUpon_enter ((compare_any ⟨un, ul, ux⟩ ⟨vn, vl, vx⟩ w' (Nat.le_trans HL1.out (by decide)) (Nat.le_trans HL2.out (by decide))).mono ?_)
            rintro e w'' ⟨rfl, hw''⟩
            exact ⟨_, rfl, hw'', by rw [H2.out]; rfl, trivial⟩
          obtain rfl : v = _ := hv
          go_simp
          refine hK _ _ ?_
          clear hK K
          repeat
            (refine Grow.walk_step (fun K hK => ?_)
             first
             | (refine Grow.step_read (by rfl) (by rfl) ext_refl ?_
                apply Exists.intro
                refine ⟨fun w hB hF => ?_, ?_⟩
                · skip
                  go_simp
                  try exact rfl
                go_simp
                refine hK _ _ ?_
                clear hK K)
             | (refine Grow.step_off (by rfl) ?_
                go_simp
                refine hK _ _ ?_
                clear hK K))
          refine Grow.walk_nil ?_
          intro w13 hB hF
          clear hF heql
          have HA13 := Lib.hid (HA12.out.ext hB)
          have HB13 := Lib.hid (HB12.out.ext hB)
          have HC13 := Lib.hid (HC12.out.ext hB)
          have HD13 := Lib.hid (HD12.out.ext hB)
          have HF13 := Lib.hid (HF12.out.ext hB)
          have hE13 := ext_trans hE12 hB
          clear hB hE12 HA12 HB12 HC12 HD12 HF12
          by_cases hxe : xe = 0
          · by_cases hye : ye = 0
            · subst hxe; subst hye
              obtain ⟨u1, u2, u3⟩ := under3 ⟨an, al, ax⟩ ⟨bn, bl, bx⟩ ⟨cn, cl, cx⟩
              have hs1 := (addP_ok HSA.out HSC.out _ u1 u3 (by rw [HX.out])).2
              have hs2 := (addP_ok HSB.out HSC.out _ u2 u3 (by rw [HY.out])).2
              have hf := cmpP_add HSA.out HSB.out HSC.out (by rw [HX.out]) (by rw [HY.out])
              rw [HX.out] at hs1 hf
              rw [HY.out] at hs2 hf
              rw [HN.out] at hf
              simp only at hs1 hs2 hf
              have HL1 := Lib.hid (sane_len hs1)
              have HL2 := Lib.hid (sane_len hs2)
              simp only at HL1 HL2
              have HFF := Lib.hid hf
              clear hs1 hs2 hf u1 u2 u3
              obtain ⟨a0, a1, a2, af0, af1, af2, hp⟩ := ((HD13).out).cells
              simp only at a0 a1 a2
              obtain ⟨b0, b1, b2, bf0, bf1, bf2, hq⟩ := ((HF13).out).cells
              simp only at b0 b1 b2
              go_wp2_with fail
              refine (compare_any ⟨xn, xl, xx⟩ ⟨yn, yl, yx⟩ _ (Nat.le_trans HL1.out (by decide)) (Nat.le_trans HL2.out (by decide))).mono ?_
              rintro e wz ⟨rfl, hwz⟩
              rw [HFF.out]
              go_wp2_with fail
              go_ret
              exact ⟨rfl, ext_trans (hE13) hwz⟩
            · subst hxe
              have hq : (ye != 0) = true := by simpa using hye
              go_wp2_with fail
              go_ret
              exact ⟨rfl, (hE13)⟩
          · have hq : (xe != 0) = true := by simpa using hxe
            go_wp2_with fail
            go_ret
            exact ⟨rfl, (hE13)⟩
        · obtain rfl : n = 1 := HN.out.symm.trans h
          clear h
          have hd : decide ((⟨an, al, ax⟩ : Num) = ⟨bn, bl, bx⟩) = false := decide_eq_false (fun h => by have := (cmpP_zero HSA.out HSB.out).2 h; rw [HN.out] at this; omega)
          have H1 : Hid (cmpP ⟨bn, bl, bx⟩ ⟨an, al, ax⟩ = (-1)) := Lib.hid (by rw [cmpP_swap HSA.out HSB.out, HN.out] <;> rfl)
          have H2 : Hid (cmpP (negP ⟨an, al, ax⟩) (negP ⟨bn, bl, bx⟩) = (-1)) := Lib.hid (by rw [cmpP_neg HSA.out HSB.out, HN.out] <;> rfl)
          have HL1 := Lib.hid (sane_len (negP_sane HSA.out))
          have HL2 := Lib.hid (sane_len (negP_sane HSB.out))
          obtain ⟨U, hU⟩ : ∃ U, negP ⟨an, al, ax⟩ = U := ⟨_, rfl⟩
          obtain ⟨V, hV⟩ : ∃ V, negP ⟨bn, bl, bx⟩ = V := ⟨_, rfl⟩
          rw [hU] at H2 HL1
          rw [hV] at H2 HL2
          have HU := Lib.hid hU
          have HV := Lib.hid hV
          clear hU hV
          obtain ⟨un, ul, ux⟩ := U
          obtain ⟨vn, vl, vx⟩ := V
          simp only at HL1 HL2
          have heql := fun w => eql_dec ⟨an, al, ax⟩ ⟨bn, bl, bx⟩ w
          rw [hd] at heql
          simp only at heql
          clear hd
          refine Grow.wp_region_lit (G := Ext) (B := fun w' => Ext w12 w') (anc := fun _ => []) (I := fun j => if j = 3 then some (Grow.Spec.val Ext (.int .i64 (-1))) else if j = 16 then some (Grow.Spec.val Ext (.agg #[.bool un, .string ⟨ul.toArray⟩, .int .i64 ux])) else if j = 18 then some (Grow.Spec.val Ext (.agg #[.bool vn, .string ⟨vl.toArray⟩, .int .i64 vx])) else if j = 19 then some (Grow.Spec.val Ext (.int .i64 (-1))) else none) (by kernel_rfl) (by kernel_rfl) (by kernel_rfl) ?_ ?_ ?_
          · exact fun w w' h hg => ext_trans h hg
          · exact (ext_refl _).drew
          repeat
            (refine Grow.walk_step (fun K hK => ?_)
             first
             | (refine Grow.step_read (by rfl) (by rfl) ext_refl ?_
                apply Exists.intro
                refine ⟨fun w hB hF => ?_, ?_⟩
                · obtain ⟨a0, a1, a2, af0, af1, af2, hp⟩ := (HA12.out.ext hB).cells; obtain ⟨b0, b1, b2, bf0, bf1, bf2, hq⟩ := (HB12.out.ext hB).cells; simp only at a0 a1 a2 b0 b1 b2
                  go_simp
                  try exact rfl
                go_simp
                refine hK _ _ ?_
                clear hK K)
             | (refine Grow.step_off (by rfl) ?_
                go_simp
                refine hK _ _ ?_
                clear hK K))
          refine Grow.walk_step (fun K hK => ?_)
          refine Grow.step_rel (by rfl) (by rfl) (fun w' hB hF => ?_) (fun v hv => ?_)
          · go_simp
            refine Grow.relUpon_enter ((compare_any ⟨bn, bl, bx⟩ ⟨an, al, ax⟩ w' HLB.out HLA.out).mono ?_)
            rintro e w'' ⟨rfl, hw''⟩
            exact ⟨_, rfl, hw'', by rw [H1.out]; rfl, trivial⟩
          obtain rfl : v = _ := hv
          go_simp
          refine hK _ _ ?_
          clear hK K
          repeat
            (refine Grow.walk_step (fun K hK => ?_)
             first
             | (refine Grow.step_read (by rfl) (by rfl) ext_refl ?_
                apply Exists.intro
                refine ⟨fun w hB hF => ?_, ?_⟩
                · obtain ⟨a0, a1, a2, af0, af1, af2, hp⟩ := (HA12.out.ext hB).cells; obtain ⟨b0, b1, b2, bf0, bf1, bf2, hq⟩ := (HB12.out.ext hB).cells; simp only at a0 a1 a2 b0 b1 b2
                  go_simp
                  try exact rfl
                go_simp
                refine hK _ _ ?_
                clear hK K)
             | (refine Grow.step_off (by rfl) ?_
                go_simp
                refine hK _ _ ?_
                clear hK K))
          refine Grow.walk_step (fun K hK => ?_)
          refine Grow.step_rel (by rfl) (by rfl) (fun w' hB hF => ?_) (fun v hv => ?_)
          · go_simp
            refine Grow.relUpon_enter ((neg_any ⟨an, al, ax⟩ w' HLA.out).mono ?_)
            rintro e w'' ⟨rfl, hw''⟩
            exact ⟨_, rfl, hw'', by rw [HU.out]; rfl, trivial⟩
          obtain rfl : v = _ := hv
          go_simp
          refine hK _ _ ?_
          clear hK K
          repeat
            (refine Grow.walk_step (fun K hK => ?_)
             first
             | (refine Grow.step_read (by rfl) (by rfl) ext_refl ?_
                apply Exists.intro
                refine ⟨fun w hB hF => ?_, ?_⟩
                · obtain ⟨a0, a1, a2, af0, af1, af2, hp⟩ := (HA12.out.ext hB).cells; obtain ⟨b0, b1, b2, bf0, bf1, bf2, hq⟩ := (HB12.out.ext hB).cells; simp only at a0 a1 a2 b0 b1 b2
                  go_simp
                  try exact rfl
                go_simp
                refine hK _ _ ?_
                clear hK K)
             | (refine Grow.step_off (by rfl) ?_
                go_simp
                refine hK _ _ ?_
                clear hK K))
          refine Grow.walk_step (fun K hK => ?_)
          refine Grow.step_rel (by rfl) (by rfl) (fun w' hB hF => ?_) (fun v hv => ?_)
          · go_simp
            refine Grow.relUpon_enter ((neg_any ⟨bn, bl, bx⟩ w' HLB.out).mono ?_)
            rintro e w'' ⟨rfl, hw''⟩
            exact ⟨_, rfl, hw'', by rw [HV.out]; rfl, trivial⟩
          obtain rfl : v = _ := hv
          go_simp
          refine hK _ _ ?_
          clear hK K
          refine Grow.walk_step (fun K hK => ?_)
          refine Grow.step_rel (by rfl) (by rfl) (fun w' hB hF => ?_) (fun v hv => ?_)
          · go_simp
            refine Grow.relUpon_enter ((compare_any ⟨un, ul, ux⟩ ⟨vn, vl, vx⟩ w' (Nat.le_trans HL1.out (by decide)) (Nat.le_trans HL2.out (by decide))).mono ?_)
            rintro e w'' ⟨rfl, hw''⟩
            exact ⟨_, rfl, hw'', by rw [H2.out]; rfl, trivial⟩
          obtain rfl : v = _ := hv
          go_simp
          refine hK _ _ ?_
          clear hK K
          repeat
            (refine Grow.walk_step (fun K hK => ?_)
             first
             | (refine Grow.step_read (by rfl) (by rfl) ext_refl ?_
                apply Exists.intro
                refine ⟨fun w hB hF => ?_, ?_⟩
                · skip
                  go_simp
                  try exact rfl
                go_simp
                refine hK _ _ ?_
                clear hK K)
             | (refine Grow.step_off (by rfl) ?_
                go_simp
                refine hK _ _ ?_
                clear hK K))
          refine Grow.walk_nil ?_
          intro w13 hB hF
          clear hF heql
          have HA13 := Lib.hid (HA12.out.ext hB)
          have HB13 := Lib.hid (HB12.out.ext hB)
          have HC13 := Lib.hid (HC12.out.ext hB)
          have HD13 := Lib.hid (HD12.out.ext hB)
          have HF13 := Lib.hid (HF12.out.ext hB)
          have hE13 := ext_trans hE12 hB
          clear hB hE12 HA12 HB12 HC12 HD12 HF12
          by_cases hxe : xe = 0
          · by_cases hye : ye = 0
            · subst hxe; subst hye
              obtain ⟨u1, u2, u3⟩ := under3 ⟨an, al, ax⟩ ⟨bn, bl, bx⟩ ⟨cn, cl, cx⟩
              have hs1 := (addP_ok HSA.out HSC.out _ u1 u3 (by rw [HX.out])).2
              have hs2 := (addP_ok HSB.out HSC.out _ u2 u3 (by rw [HY.out])).2
              have hf := cmpP_add HSA.out HSB.out HSC.out (by rw [HX.out]) (by rw [HY.out])
              rw [HX.out] at hs1 hf
              rw [HY.out] at hs2 hf
              rw [HN.out] at hf
              simp only at hs1 hs2 hf
              have HL1 := Lib.hid (sane_len hs1)
              have HL2 := Lib.hid (sane_len hs2)
              simp only at HL1 HL2
              have HFF := Lib.hid hf
              clear hs1 hs2 hf u1 u2 u3
              obtain ⟨a0, a1, a2, af0, af1, af2, hp⟩ := ((HD13).out).cells
              simp only at a0 a1 a2
              obtain ⟨b0, b1, b2, bf0, bf1, bf2, hq⟩ := ((HF13).out).cells
              simp only at b0 b1 b2
              go_wp2_with fail
              refine (compare_any ⟨xn, xl, xx⟩ ⟨yn, yl, yx⟩ _ (Nat.le_trans HL1.out (by decide)) (Nat.le_trans HL2.out (by decide))).mono ?_
              rintro e wz ⟨rfl, hwz⟩
              rw [HFF.out]
              go_wp2_with fail
              go_ret
              exact ⟨rfl, ext_trans (hE13) hwz⟩
            · subst hxe
              have hq : (ye != 0) = true := by simpa using hye
              go_wp2_with fail
              go_ret
              exact ⟨rfl, (hE13)⟩
          · have hq : (xe != 0) = true := by simpa using hxe
            go_wp2_with fail
            go_ret
            exact ⟨rfl, (hE13)⟩
set_option linter.unusedSimpArgs false
theorem own : ownKnob Tryd.prog.godebug = none := by kernel_rfl
theorem laid : laidOutB Tryd.prog = true := by kernel_rfl
set_option maxHeartbeats 1600000 in
set_option maxRecDepth 100000 in
theorem lifted (os : Os) (started : os.Started) (H : Type) (enc : TypeId × Value → H) :
    ReturnsInHanded {} Tryd.checked os 5 .any (fun w args => (Rows.decOrderSpec.pre enc Tryd.prog Tryd.f5 [] false w args ∧ laidMetH Tryd.prog Rows.decOrderRow.laid w) ∧ sizedMet enc Tryd.prog Tryd.f5 (OpenSpec.ofChange Rows.decOrderSpec) false w args) (Rows.decOrderSpec.post enc Tryd.prog Tryd.f5 false true false false) := by
  refine returnsInHanded_of_change_and (C := Tryd.checked) (X := fun w _ => laidMetH Tryd.prog Rows.decOrderRow.laid w) (fun _ _ _ hh h => h.of_heap hh) own started (by kernel_rfl) Tryd.func5
    (ChangeSpec.witness_shaped (enc := enc) (C := Tryd.checked) (os := os) (X := fun w _ => laidMetH Tryd.prog Rows.decOrderRow.laid w) false (World.laidAll Tryd.prog os Rows.decOrderRow.laid) #[.agg #[.bool false, .string ⟨#[]⟩, .int .i64 0], .agg #[.bool false, .string ⟨#[]⟩, .int .i64 0], .agg #[.bool false, .string ⟨#[]⟩, .int .i64 0]] 8 (World.laidAll_os _ _ _)
      (World.shaped_of_ZipB (by kernel_rfl) (by kernel_rfl)) (by kernel_rfl) (by kernel_rfl) (by kernel_rfl)
      (by rw [MakeChecks.laidMetH_plain _ _ _ (by kernel_rfl)]; exact laidMet_laidAll _ (by kernel_rfl) (by kernel_rfl))) ?_
  intro W base args ds gs before hval0 hW _ hsz0 hX _
  have hT : Tab W := tab_of hX
  have hsz : (DataW.weightsEach Tryd.prog (Tryd.f5.params.toList ++ Rows.decOrderSpec.plain.varTypes Tryd.prog) (ds ++ gs)).all (· ≤ reachBytes) = true := hsz0
  clear hsz0
  have hval : ∀ (j : Nat) t v, Tryd.f5.params[j]? = some t → args[j]? = some v → Value.okWide Tryd.prog W .any base t v := hval0
  have hW' := hW
  obtain ⟨p, q, hA0, hV, rfl, _, _⟩ := hW
  have hA : DataW.TrodAll enc Tryd.prog W 0 (fun _ => true) true Tryd.f5.params.toList args.toList ds p := hA0
  rw [Tryd.params5] at hA hval hsz
  obtain ⟨v0, vs0, d0, ds0, p0, q0, ha0, rfl, rfl, h0, r0⟩ := trodAll_cons hA
  obtain ⟨v1, vs1, d1, ds1, p1, q1, ha1, rfl, rfl, h1, r1⟩ := trodAll_cons r0
  obtain ⟨v2, vs2, d2, ds2, p2, q2, ha2, rfl, rfl, h2, r2⟩ := trodAll_cons r1
  obtain ⟨hb3, rfl, rfl⟩ := trodAll_nil r2
  subst hb3
  subst ha2
  subst ha1
  obtain rfl : args = #[v0, v1, v2] := by cases args; simpa using ha0
  obtain ⟨rfl, rfl⟩ := trodVars_none hV
  have hk0 := h0
  obtain ⟨c00, c01, c02, y00, y01, y02, m0, rfl, rfl, rfl, hy00, hy01, hy02⟩ := Go.Joins.open_agg3 Tryd.underlying25 (by kernel_rfl) (by kernel_rfl) (hval 0 25 v0 rfl rfl) h0
  obtain ⟨n0, e00, rfl⟩ := DataW.trod_bool Tryd.underlying4 hy00
  obtain ⟨s0, e01, rfl, _⟩ := DataW.trod_string Tryd.underlying9 hy01
  obtain ⟨x0, e02, rfl, wf0⟩ := DataW.trod_int Tryd.underlying3 hy02
  simp only [List.cons.injEq, and_true] at e00 e01 e02
  subst e00 e01 e02
  obtain ⟨l0, rfl⟩ : ∃ l : List UInt8, s0 = ⟨l.toArray⟩ := ⟨s0.data.toList, by cases s0; simp⟩
  have hs0 : l0.length ≤ 140737488351232 := sized_dec hsz (j := 0) Tryd.underlying25 rfl rfl
  have hr0 : -9223372036854775808 ≤ x0 ∧ x0 ≤ 9223372036854775807 := by simpa [Lit.wf, IntKind.min, IntKind.max, IntKind.signed, IntKind.bits] using wf0
  have hk1 := h1
  obtain ⟨c10, c11, c12, y10, y11, y12, m1, rfl, rfl, rfl, hy10, hy11, hy12⟩ := Go.Joins.open_agg3 Tryd.underlying25 (by kernel_rfl) (by kernel_rfl) (hval 1 25 v1 rfl rfl) h1
  obtain ⟨n1, e10, rfl⟩ := DataW.trod_bool Tryd.underlying4 hy10
  obtain ⟨s1, e11, rfl, _⟩ := DataW.trod_string Tryd.underlying9 hy11
  obtain ⟨x1, e12, rfl, wf1⟩ := DataW.trod_int Tryd.underlying3 hy12
  simp only [List.cons.injEq, and_true] at e10 e11 e12
  subst e10 e11 e12
  obtain ⟨l1, rfl⟩ : ∃ l : List UInt8, s1 = ⟨l.toArray⟩ := ⟨s1.data.toList, by cases s1; simp⟩
  have hs1 : l1.length ≤ 140737488351232 := sized_dec hsz (j := 1) Tryd.underlying25 rfl rfl
  have hr1 : -9223372036854775808 ≤ x1 ∧ x1 ≤ 9223372036854775807 := by simpa [Lit.wf, IntKind.min, IntKind.max, IntKind.signed, IntKind.bits] using wf1
  have hk2 := h2
  obtain ⟨c20, c21, c22, y20, y21, y22, m2, rfl, rfl, rfl, hy20, hy21, hy22⟩ := Go.Joins.open_agg3 Tryd.underlying25 (by kernel_rfl) (by kernel_rfl) (hval 2 25 v2 rfl rfl) h2
  obtain ⟨n2, e20, rfl⟩ := DataW.trod_bool Tryd.underlying4 hy20
  obtain ⟨s2, e21, rfl, _⟩ := DataW.trod_string Tryd.underlying9 hy21
  obtain ⟨x2, e22, rfl, wf2⟩ := DataW.trod_int Tryd.underlying3 hy22
  simp only [List.cons.injEq, and_true] at e20 e21 e22
  subst e20 e21 e22
  obtain ⟨l2, rfl⟩ : ∃ l : List UInt8, s2 = ⟨l.toArray⟩ := ⟨s2.data.toList, by cases s2; simp⟩
  have hs2 : l2.length ≤ 140737488351232 := sized_dec hsz (j := 2) Tryd.underlying25 rfl rfl
  have hr2 : -9223372036854775808 ≤ x2 ∧ x2 ≤ 9223372036854775807 := by simpa [Lit.wf, IntKind.min, IntKind.max, IntKind.signed, IntKind.bits] using wf2
  have hlt := fun x hx => hW'.lt x hx
  simp only [List.append_nil, List.nil_append] at hW' hlt
  refine (walk ⟨n0, l0, x0⟩ hs0 hr0.1 hr0.2 ⟨n1, l1, x1⟩ hs1 hr1.1 hr1.2 ⟨n2, l2, x2⟩ hs2 hr2.1 hr2.2 W hT ).mono fun e W' ⟨he, hb⟩ => ?_
  subst he
  have hargs := (trodAll_cons_mk (Below.trod laid (by kernel_rfl) (of_decide_eq_true (by kernel_rfl)) hk0 hb (fun x hx => by first | exact hlt x hx | exact absurd hx (List.not_mem_nil) | exact hlt x (by simp [hx]))) (trodAll_cons_mk (Below.trod laid (by kernel_rfl) (of_decide_eq_true (by kernel_rfl)) hk1 hb (fun x hx => by first | exact hlt x hx | exact absurd hx (List.not_mem_nil) | exact hlt x (by simp [hx]))) (trodAll_cons_mk (Below.trod laid (by kernel_rfl) (of_decide_eq_true (by kernel_rfl)) hk2 hb (fun x hx => by first | exact hlt x hx | exact absurd hx (List.not_mem_nil) | exact hlt x (by simp [hx]))) trodAll_mk0)))
  exact ⟨_, rfl, _, _, _, [], _, [], hW', trodAll_cons_mk (shut_bool Tryd.underlying4 _) trodAll_mk0, hargs, rfl, hb.frame _, fun h => by cases h⟩

theorem held : Rows.DecOrderSaid :=
  OpenClaim.holds_of_wide 5 Tryd.f5 rfl rfl rfl rfl rfl rfl rfl ⟨rfl, rfl, rfl, rfl, rfl⟩ rfl rfl rfl rfl rfl (by kernel_rfl) Tryd.func5 (by kernel_rfl)
    (of_decide_eq_true (by kernel_rfl)) (by unfold Func.isWrapper; first | (rw [if_pos (by decide +kernel)]; kernel_rfl) | (rw [if_neg (by decide +kernel)]; exact ⟨rfl, rfl⟩))
    (fun os started H enc _ => lifted os started H enc)

theorem proved : Rows.DecOrderCardSaid :=
  Claim7.holds_tied_plain_at .later [] Rows.decOrderCard.laidKinds true Rows.decOrderCard.stood.harness false held (fun _ h => by cases h) (by kernel_rfl) (fun _ h => by cases h) decOrder_row_tie rfl ⟨rfl, rfl⟩ (by kernel_rfl) rfl
    (fun f fn hf hfn => by
      obtain rfl : f = 5 := Option.some.inj ((show Tryd.prog.funcNamed "orangery/orangerylaw02.DecOrder" = some 5 by kernel_rfl).symm.trans hf) |>.symm
      obtain rfl : fn = Tryd.f5 := (Option.some.inj (Tryd.func5.symm.trans hfn)).symm
      exact ⟨by kernel_rfl, fun j t ht => by
        rw [Tryd.params5] at ht
        have hm : t ∈ [25, 25, 25] := by simpa using Array.mem_of_getElem? ht
        have hall : ([25, 25, 25].all fun u => !Tryd.prog.wantsStandIn u) = true := by kernel_rfl
        exact (show Tryd.prog.wantsStandIn t = false by simpa using List.all_eq_true.1 hall t hm)⟩)
    (by kernel_rfl)
end Go.Proofs.YtpheohgceepboaaDoor.decOrder
