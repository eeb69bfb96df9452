/- DecRing: sums and products say nothing of order; what is added and taken away is gone; a product goes through a sum, as far as all may be: whatever the input, the law returns true and the input reads as it did. No condition beyond the row's. -/
import Derived.Test.YtpheohgceepboaaDoorRows
import Derived.Test.YtpheohgceepboaaDoorCards
import Derived.Test.YtpheohgceepboaaDoorTie
import Derived.Test.YtpheohgceepboaaDoorDecT
import Derived.Test.YtpheohgceepboaaDoorDecR
import Derived.Test.YtpheohgceepboaaDoorDecS
import Derived.Test.YtpheohgceepboaaDoorDecK
import Derived.Test.YtpheohgceepboaaDoorGst
import Derived.Test.YtpheohgceepboaaDoorBits
import Derived.Test.YtpheohgceepboaaDoorDecW
import Derived.Test.YtpheohgceepboaaDoorFrame
import Derived.ProofKit
import Derived.SizedLaws
import Derived.OpenShut
import Derived.Lay
import Derived.LaidMore
import Derived.SevenTiedAt
import Derived.IntWalk
set_option linter.unusedVariables false
set_option linter.unusedSimpArgs false
set_option maxRecDepth 100000
namespace Go.Proofs.YtpheohgceepboaaDoor.decRing
open Go.ChangeShapes Go.WideShapes Go.ChangeAt Go.RowKit Go.Mem Orange

theorem toldP_any (d : Num) : sane (toldP d).1 = true := by
  unfold toldP
  split
  · assumption
  · rfl
theorem addP_any {a b : Num} (ha : sane a = true) (hb : sane b = true) : sane (addP a b).1 = true := by
  rw [addP_at ha hb (low a b) under.low.1 under.low.2]; exact toldP_any _
theorem mulP_any {a b : Num} (ha : sane a = true) (hb : sane b = true) : sane (mulP a b).1 = true := by
  rw [mulP_at ha hb a.exp b.exp (.inr (Int.le_refl _)) (.inr (Int.le_refl _))]; exact toldP_any _
theorem sane_ln {a : Num} (ha : sane a = true) : a.digits.length ≤ 140737488355328 := Nat.le_trans (sane_len ha) (by decide)
-- the products with c and the sum of two: $1: the boxes that live
set_option maxHeartbeats 6400000 in
theorem walk (a : Num) (ha : a.digits.length ≤ 140737488351232) (ha0 : -9223372036854775808 ≤ a.exp) (ha1 : a.exp ≤ 9223372036854775807) (b : Num) (hb : b.digits.length ≤ 140737488351232) (hb0 : -9223372036854775808 ≤ b.exp) (hb1 : b.exp ≤ 9223372036854775807) (c : Num) (hc : c.digits.length ≤ 140737488351232) (hc0 : -9223372036854775808 ≤ c.exp) (hc1 : c.exp ≤ 9223372036854775807) (w : World) (hT : Tab w) :
    Calls Tryd.prog 6 #[.agg #[.bool a.neg, .string ⟨a.digits.toArray⟩, .int .i64 a.exp], .agg #[.bool b.neg, .string ⟨b.digits.toArray⟩, .int .i64 b.exp], .agg #[.bool c.neg, .string ⟨c.digits.toArray⟩, .int .i64 c.exp]] w fun e w' => e = .returned (.bool true) ∧ Ext w w' := by
  obtain ⟨an, al, ax⟩ := a
  obtain ⟨bn, bl, bx⟩ := b
  obtain ⟨cn, cl, cx⟩ := c
  simp only at ha hb hc ⊢
  clear ha0 ha1 hb0 hb1 hc0 hc1
  have HLA : Hid (al.length ≤ 140737488355328) := Lib.hid (by omega)
  have HLB : Hid (bl.length ≤ 140737488355328) := Lib.hid (by omega)
  have HLC : Hid (cl.length ≤ 140737488355328) := Lib.hid (by omega)
  clear ha hb hc
  have HTT := Lib.hid hT
  clear hT
  have hE := ext_refl w
  have HA0 := NumAt.new w ⟨an, al, ax⟩
  have hx := ext_newnum w ⟨an, al, ax⟩
  simp only at HA0 hx
  replace hE := ext_trans hE hx
  have HA := Lib.hid HA0
  clear hx HA0
  generalize hwA : w.alloc (.cells #[.bool an, .string ⟨al.toArray⟩, .int .i64 ax] 25) = wA at *
  have hsA : wA.heap.size = w.heap.size + 1 := by rw [← hwA]; simp
  have HB0 := NumAt.new wA ⟨bn, bl, bx⟩
  have hx := ext_newnum wA ⟨bn, bl, bx⟩
  simp only at HB0 hx
  replace HA := Lib.hid (HA.out.ext hx)
  replace hE := ext_trans hE hx
  have HB := Lib.hid HB0
  clear hx HB0
  generalize hwB : wA.alloc (.cells #[.bool bn, .string ⟨bl.toArray⟩, .int .i64 bx] 25) = wB at *
  have hsB : wB.heap.size = w.heap.size + 2 := by rw [← hwB]; simp [hsA]
  rw [hsA] at HB
  have HC0 := NumAt.new wB ⟨cn, cl, cx⟩
  have hx := ext_newnum wB ⟨cn, cl, cx⟩
  simp only at HC0 hx
  replace HA := Lib.hid (HA.out.ext hx)
  replace HB := Lib.hid (HB.out.ext hx)
  replace hE := ext_trans hE hx
  have HC := Lib.hid HC0
  clear hx HC0
  generalize hwC : wB.alloc (.cells #[.bool cn, .string ⟨cl.toArray⟩, .int .i64 cx] 25) = wC at *
  rw [hsB] at HC
  subst hwA hwB
  go_enter Tryd.func6, Tryd.ntmps6
  go_wp2_with fail
  clear hwC hsA hsB
  refine (dawake _ (HTT.out.ext hE)).mono ?_
  rintro e wn ⟨rfl, hw⟩
  replace HA := Lib.hid (HA.out.ext hw)
  replace HB := Lib.hid (HB.out.ext hw)
  replace HC := Lib.hid (HC.out.ext hw)
  replace hE := ext_trans hE hw
  clear hw
  obtain ⟨fA0, fA1, fA2, gA0, gA1, gA2, lA⟩ := HA.out.cells
  simp only at fA0 fA1 fA2
  obtain ⟨fB0, fB1, fB2, gB0, gB1, gB2, lB⟩ := HB.out.cells
  simp only at fB0 fB1 fB2
  obtain ⟨fC0, fC1, fC2, gC0, gC1, gC2, lC⟩ := HC.out.cells
  simp only at fC0 fC1 fC2
  go_wp2_with fail
  clear fA0 fA1 fA2 gA0 gA1 gA2 lA
  clear fB0 fB1 fB2 gB0 gB1 gB2 lB
  clear fC0 fC1 fC2 gC0 gC1 gC2 lC
  refine (sane_any ⟨an, al, ax⟩ _ HLA.out).mono ?_
  rintro e wn ⟨rfl, hw⟩
  replace HA := Lib.hid (HA.out.ext hw)
  replace HB := Lib.hid (HB.out.ext hw)
  replace HC := Lib.hid (HC.out.ext hw)
  replace hE := ext_trans hE hw
  clear hw
  cases hsa : sane ⟨an, al, ax⟩ with
  | false =>
    clear hsa
    obtain ⟨fA0, fA1, fA2, gA0, gA1, gA2, lA⟩ := HA.out.cells
    simp only at fA0 fA1 fA2
    obtain ⟨fB0, fB1, fB2, gB0, gB1, gB2, lB⟩ := HB.out.cells
    simp only at fB0 fB1 fB2
    obtain ⟨fC0, fC1, fC2, gC0, gC1, gC2, lC⟩ := HC.out.cells
    simp only at fC0 fC1 fC2
    go_wp2_with fail
    clear fA0 fA1 fA2 gA0 gA1 gA2 lA
    clear fB0 fB1 fB2 gB0 gB1 gB2 lB
    clear fC0 fC1 fC2 gC0 gC1 gC2 lC
    go_ret
    exact ⟨rfl, hE⟩
  | true =>
  have HSA := Lib.hid hsa
  clear hsa
  obtain ⟨fA0, fA1, fA2, gA0, gA1, gA2, lA⟩ := HA.out.cells
  simp only at fA0 fA1 fA2
  obtain ⟨fB0, fB1, fB2, gB0, gB1, gB2, lB⟩ := HB.out.cells
  simp only at fB0 fB1 fB2
  obtain ⟨fC0, fC1, fC2, gC0, gC1, gC2, lC⟩ := HC.out.cells
  simp only at fC0 fC1 fC2
  go_wp2_with fail
  clear fA0 fA1 fA2 gA0 gA1 gA2 lA
  clear fB0 fB1 fB2 gB0 gB1 gB2 lB
  clear fC0 fC1 fC2 gC0 gC1 gC2 lC
  refine (sane_any ⟨bn, bl, bx⟩ _ HLB.out).mono ?_
  rintro e wn ⟨rfl, hw⟩
  replace HA := Lib.hid (HA.out.ext hw)
  replace HB := Lib.hid (HB.out.ext hw)
  replace HC := Lib.hid (HC.out.ext hw)
  replace hE := ext_trans hE hw
  clear hw
  cases hsb : sane ⟨bn, bl, bx⟩ with
  | false =>
    clear hsb
    obtain ⟨fA0, fA1, fA2, gA0, gA1, gA2, lA⟩ := HA.out.cells
    simp only at fA0 fA1 fA2
    obtain ⟨fB0, fB1, fB2, gB0, gB1, gB2, lB⟩ := HB.out.cells
    simp only at fB0 fB1 fB2
    obtain ⟨fC0, fC1, fC2, gC0, gC1, gC2, lC⟩ := HC.out.cells
    simp only at fC0 fC1 fC2
    go_wp2_with fail
    clear fA0 fA1 fA2 gA0 gA1 gA2 lA
    clear fB0 fB1 fB2 gB0 gB1 gB2 lB
    clear fC0 fC1 fC2 gC0 gC1 gC2 lC
    go_ret
    exact ⟨rfl, hE⟩
  | true =>
  have HSB := Lib.hid hsb
  clear hsb
  obtain ⟨fA0, fA1, fA2, gA0, gA1, gA2, lA⟩ := HA.out.cells
  simp only at fA0 fA1 fA2
  obtain ⟨fB0, fB1, fB2, gB0, gB1, gB2, lB⟩ := HB.out.cells
  simp only at fB0 fB1 fB2
  obtain ⟨fC0, fC1, fC2, gC0, gC1, gC2, lC⟩ := HC.out.cells
  simp only at fC0 fC1 fC2
  go_wp2_with fail
  clear fA0 fA1 fA2 gA0 gA1 gA2 lA
  clear fB0 fB1 fB2 gB0 gB1 gB2 lB
  clear fC0 fC1 fC2 gC0 gC1 gC2 lC
  refine (sane_any ⟨cn, cl, cx⟩ _ HLC.out).mono ?_
  rintro e wn ⟨rfl, hw⟩
  replace HA := Lib.hid (HA.out.ext hw)
  replace HB := Lib.hid (HB.out.ext hw)
  replace HC := Lib.hid (HC.out.ext hw)
  replace hE := ext_trans hE hw
  clear hw
  cases hsc : sane ⟨cn, cl, cx⟩ with
  | false =>
    clear hsc
    obtain ⟨fA0, fA1, fA2, gA0, gA1, gA2, lA⟩ := HA.out.cells
    simp only at fA0 fA1 fA2
    obtain ⟨fB0, fB1, fB2, gB0, gB1, gB2, lB⟩ := HB.out.cells
    simp only at fB0 fB1 fB2
    obtain ⟨fC0, fC1, fC2, gC0, gC1, gC2, lC⟩ := HC.out.cells
    simp only at fC0 fC1 fC2
    go_wp2_with fail
    clear fA0 fA1 fA2 gA0 gA1 gA2 lA
    clear fB0 fB1 fB2 gB0 gB1 gB2 lB
    clear fC0 fC1 fC2 gC0 gC1 gC2 lC
    go_ret
    exact ⟨rfl, hE⟩
  | true =>
  have HSC := Lib.hid hsc
  clear hsc
  have e1 := addP_comm ⟨bn, bl, bx⟩ ⟨an, al, ax⟩
  have e2 := mulP_comm ⟨bn, bl, bx⟩ ⟨an, al, ax⟩
  have s1 := addP_any HSA.out HSB.out
  have s2 := mulP_any HSA.out HSB.out
  have s3 := mulP_any HSA.out HSC.out
  have s4 := mulP_any HSB.out HSC.out
  have k1 := addP_back HSA.out HSB.out
  have k2 := mulP_add HSA.out HSB.out HSC.out
  have s5 := negP_sane HSB.out
  obtain ⟨X, hX⟩ : ∃ X, addP ⟨an, al, ax⟩ ⟨bn, bl, bx⟩ = X := ⟨_, rfl⟩
  obtain ⟨P, hP⟩ : ∃ P, mulP ⟨an, al, ax⟩ ⟨bn, bl, bx⟩ = P := ⟨_, rfl⟩
  obtain ⟨U, hU⟩ : ∃ U, mulP ⟨an, al, ax⟩ ⟨cn, cl, cx⟩ = U := ⟨_, rfl⟩
  obtain ⟨V, hV⟩ : ∃ V, mulP ⟨bn, bl, bx⟩ ⟨cn, cl, cx⟩ = V := ⟨_, rfl⟩
  obtain ⟨N, hN⟩ : ∃ N, negP ⟨bn, bl, bx⟩ = N := ⟨_, rfl⟩
  rw [hX] at e1 s1 k1 k2
  rw [hP] at e2 s2
  rw [hU] at s3 k2
  rw [hV] at s4 k2
  rw [hN] at k1 s5
  obtain ⟨T, hT⟩ : ∃ T, mulP X.1 ⟨cn, cl, cx⟩ = T := ⟨_, rfl⟩
  rw [hT] at k2
  have HX1 := Lib.hid hX
  have HP1 := Lib.hid hP
  have HAC := Lib.hid hU
  have HBC := Lib.hid hV
  have HNN := Lib.hid hN
  have HXC := Lib.hid hT
  have HE1 := Lib.hid e1
  have HE2 := Lib.hid e2
  have HK1 := Lib.hid k1
  have HK2 := Lib.hid k2
  have l1 := sane_ln s1
  have l2 := sane_ln s3
  have l3 := sane_ln s4
  have l4 := sane_ln s5
  clear hX hP hU hV hN hT e1 e2 k1 k2 s1 s2 s3 s4 s5
  obtain ⟨⟨xn, xl, xx⟩, xe⟩ := X
  obtain ⟨⟨pn, pl, px⟩, pe⟩ := P
  obtain ⟨⟨un, ul, ux⟩, ue⟩ := U
  obtain ⟨⟨vn, vl, vx⟩, ve⟩ := V
  obtain ⟨nn, nl, nx⟩ := N
  obtain ⟨⟨tn, tl, tx⟩, te⟩ := T
  simp only at l1 l2 l3 l4 HK1 HK2 HXC
  have HLX := Lib.hid l1
  have HLU := Lib.hid l2
  have HLV := Lib.hid l3
  have HLN := Lib.hid l4
  clear l1 l2 l3 l4
  obtain ⟨fA0, fA1, fA2, gA0, gA1, gA2, lA⟩ := HA.out.cells
  simp only at fA0 fA1 fA2
  obtain ⟨fB0, fB1, fB2, gB0, gB1, gB2, lB⟩ := HB.out.cells
  simp only at fB0 fB1 fB2
  obtain ⟨fC0, fC1, fC2, gC0, gC1, gC2, lC⟩ := HC.out.cells
  simp only at fC0 fC1 fC2
  go_wp2_with fail
  clear fA0 fA1 fA2 gA0 gA1 gA2 lA
  clear fB0 fB1 fB2 gB0 gB1 gB2 lB
  clear fC0 fC1 fC2 gC0 gC1 gC2 lC
  refine (add_any ⟨an, al, ax⟩ ⟨bn, bl, bx⟩ _ HLA.out HLB.out).mono ?_
  rintro e wn ⟨rfl, hw⟩
  replace HA := Lib.hid (HA.out.ext hw)
  replace HB := Lib.hid (HB.out.ext hw)
  replace HC := Lib.hid (HC.out.ext hw)
  replace hE := ext_trans hE hw
  clear hw
  rw [HX1.out]
  simp only
  have HX0 := NumAt.new wn ⟨xn, xl, xx⟩
  have hx := ext_newnum wn ⟨xn, xl, xx⟩
  simp only at HX0 hx
  replace HA := Lib.hid (HA.out.ext hx)
  replace HB := Lib.hid (HB.out.ext hx)
  replace HC := Lib.hid (HC.out.ext hx)
  replace hE := ext_trans hE hx
  have HX := Lib.hid HX0
  clear hx HX0
  obtain ⟨fA0, fA1, fA2, gA0, gA1, gA2, lA⟩ := HA.out.cells
  simp only at fA0 fA1 fA2
  obtain ⟨fB0, fB1, fB2, gB0, gB1, gB2, lB⟩ := HB.out.cells
  simp only at fB0 fB1 fB2
  obtain ⟨fC0, fC1, fC2, gC0, gC1, gC2, lC⟩ := HC.out.cells
  simp only at fC0 fC1 fC2
  go_wp2_with fail
  clear fA0 fA1 fA2 gA0 gA1 gA2 lA
  clear fB0 fB1 fB2 gB0 gB1 gB2 lB
  clear fC0 fC1 fC2 gC0 gC1 gC2 lC
  generalize hg : wn.heap.size = pX at *
  generalize hwm : wn.alloc (.cells #[.bool xn, .string ⟨xl.toArray⟩, .int .i64 xx] 25) = wmX at *
  clear hg hwm
  refine (add_any ⟨bn, bl, bx⟩ ⟨an, al, ax⟩ _ HLB.out HLA.out).mono ?_
  rintro e wn ⟨rfl, hw⟩
  replace HA := Lib.hid (HA.out.ext hw)
  replace HB := Lib.hid (HB.out.ext hw)
  replace HC := Lib.hid (HC.out.ext hw)
  replace HX := Lib.hid (HX.out.ext hw)
  replace hE := ext_trans hE hw
  clear hw
  rw [HE1.out]
  simp only
  have HY0 := NumAt.new wn ⟨xn, xl, xx⟩
  have hx := ext_newnum wn ⟨xn, xl, xx⟩
  simp only at HY0 hx
  replace HA := Lib.hid (HA.out.ext hx)
  replace HB := Lib.hid (HB.out.ext hx)
  replace HC := Lib.hid (HC.out.ext hx)
  replace HX := Lib.hid (HX.out.ext hx)
  replace hE := ext_trans hE hx
  have HY := Lib.hid HY0
  clear hx HY0
  obtain ⟨fA0, fA1, fA2, gA0, gA1, gA2, lA⟩ := HA.out.cells
  simp only at fA0 fA1 fA2
  obtain ⟨fB0, fB1, fB2, gB0, gB1, gB2, lB⟩ := HB.out.cells
  simp only at fB0 fB1 fB2
  obtain ⟨fC0, fC1, fC2, gC0, gC1, gC2, lC⟩ := HC.out.cells
  simp only at fC0 fC1 fC2
  obtain ⟨fX0, fX1, fX2, gX0, gX1, gX2, lX⟩ := HX.out.cells
  simp only at fX0 fX1 fX2
  go_wp2_with fail
  clear fA0 fA1 fA2 gA0 gA1 gA2 lA
  clear fB0 fB1 fB2 gB0 gB1 gB2 lB
  clear fC0 fC1 fC2 gC0 gC1 gC2 lC
  clear fX0 fX1 fX2 gX0 gX1 gX2 lX
  generalize hg : wn.heap.size = pY at *
  generalize hwm : wn.alloc (.cells #[.bool xn, .string ⟨xl.toArray⟩, .int .i64 xx] 25) = wmY at *
  clear hg hwm
  refine (mul_any ⟨an, al, ax⟩ ⟨bn, bl, bx⟩ _ HLA.out HLB.out).mono ?_
  rintro e wn ⟨rfl, hw⟩
  replace HA := Lib.hid (HA.out.ext hw)
  replace HB := Lib.hid (HB.out.ext hw)
  replace HC := Lib.hid (HC.out.ext hw)
  replace HX := Lib.hid (HX.out.ext hw)
  replace HY := Lib.hid (HY.out.ext hw)
  replace hE := ext_trans hE hw
  clear hw
  rw [HP1.out]
  simp only
  have HP0 := NumAt.new wn ⟨pn, pl, px⟩
  have hx := ext_newnum wn ⟨pn, pl, px⟩
  simp only at HP0 hx
  replace HA := Lib.hid (HA.out.ext hx)
  replace HB := Lib.hid (HB.out.ext hx)
  replace HC := Lib.hid (HC.out.ext hx)
  replace HX := Lib.hid (HX.out.ext hx)
  replace HY := Lib.hid (HY.out.ext hx)
  replace hE := ext_trans hE hx
  have HP := Lib.hid HP0
  clear hx HP0
  obtain ⟨fA0, fA1, fA2, gA0, gA1, gA2, lA⟩ := HA.out.cells
  simp only at fA0 fA1 fA2
  obtain ⟨fB0, fB1, fB2, gB0, gB1, gB2, lB⟩ := HB.out.cells
  simp only at fB0 fB1 fB2
  obtain ⟨fC0, fC1, fC2, gC0, gC1, gC2, lC⟩ := HC.out.cells
  simp only at fC0 fC1 fC2
  obtain ⟨fX0, fX1, fX2, gX0, gX1, gX2, lX⟩ := HX.out.cells
  simp only at fX0 fX1 fX2
  obtain ⟨fY0, fY1, fY2, gY0, gY1, gY2, lY⟩ := HY.out.cells
  simp only at fY0 fY1 fY2
  go_wp2_with fail
  clear fA0 fA1 fA2 gA0 gA1 gA2 lA
  clear fB0 fB1 fB2 gB0 gB1 gB2 lB
  clear fC0 fC1 fC2 gC0 gC1 gC2 lC
  clear fX0 fX1 fX2 gX0 gX1 gX2 lX
  clear fY0 fY1 fY2 gY0 gY1 gY2 lY
  generalize hg : wn.heap.size = pP at *
  generalize hwm : wn.alloc (.cells #[.bool pn, .string ⟨pl.toArray⟩, .int .i64 px] 25) = wmP at *
  clear hg hwm
  refine (mul_any ⟨bn, bl, bx⟩ ⟨an, al, ax⟩ _ HLB.out HLA.out).mono ?_
  rintro e wn ⟨rfl, hw⟩
  replace HA := Lib.hid (HA.out.ext hw)
  replace HB := Lib.hid (HB.out.ext hw)
  replace HC := Lib.hid (HC.out.ext hw)
  replace HX := Lib.hid (HX.out.ext hw)
  replace HY := Lib.hid (HY.out.ext hw)
  replace HP := Lib.hid (HP.out.ext hw)
  replace hE := ext_trans hE hw
  clear hw
  rw [HE2.out]
  simp only
  have HQ0 := NumAt.new wn ⟨pn, pl, px⟩
  have hx := ext_newnum wn ⟨pn, pl, px⟩
  simp only at HQ0 hx
  replace HA := Lib.hid (HA.out.ext hx)
  replace HB := Lib.hid (HB.out.ext hx)
  replace HC := Lib.hid (HC.out.ext hx)
  replace HX := Lib.hid (HX.out.ext hx)
  replace HY := Lib.hid (HY.out.ext hx)
  replace HP := Lib.hid (HP.out.ext hx)
  replace hE := ext_trans hE hx
  have HQ := Lib.hid HQ0
  clear hx HQ0
  have hn1 := fun w => nql_dec ⟨xn, xl, xx⟩ w
  have hn2 := fun w => nql_dec ⟨pn, pl, px⟩ w
  simp only at hn1 hn2
  by_cases hxe : xe = 0
  · subst hxe
    have HK3 := Lib.hid (HK1.out rfl)
    have HK4 := Lib.hid (HK2.out rfl)
    clear HK1 HK2
    obtain ⟨fA0, fA1, fA2, gA0, gA1, gA2, lA⟩ := HA.out.cells
    simp only at fA0 fA1 fA2
    obtain ⟨fB0, fB1, fB2, gB0, gB1, gB2, lB⟩ := HB.out.cells
    simp only at fB0 fB1 fB2
    obtain ⟨fC0, fC1, fC2, gC0, gC1, gC2, lC⟩ := HC.out.cells
    simp only at fC0 fC1 fC2
    obtain ⟨fX0, fX1, fX2, gX0, gX1, gX2, lX⟩ := HX.out.cells
    simp only at fX0 fX1 fX2
    obtain ⟨fY0, fY1, fY2, gY0, gY1, gY2, lY⟩ := HY.out.cells
    simp only at fY0 fY1 fY2
    obtain ⟨fP0, fP1, fP2, gP0, gP1, gP2, lP⟩ := HP.out.cells
    simp only at fP0 fP1 fP2
    obtain ⟨fQ0, fQ1, fQ2, gQ0, gQ1, gQ2, lQ⟩ := HQ.out.cells
    simp only at fQ0 fQ1 fQ2
    go_wp2_with fail
    clear fA0 fA1 fA2 gA0 gA1 gA2 lA
    clear fB0 fB1 fB2 gB0 gB1 gB2 lB
    clear fC0 fC1 fC2 gC0 gC1 gC2 lC
    clear fX0 fX1 fX2 gX0 gX1 gX2 lX
    clear fY0 fY1 fY2 gY0 gY1 gY2 lY
    clear fP0 fP1 fP2 gP0 gP1 gP2 lP
    clear fQ0 fQ1 fQ2 gQ0 gQ1 gQ2 lQ
    generalize hg : wn.heap.size = pQ at *
    generalize hwm : wn.alloc (.cells #[.bool pn, .string ⟨pl.toArray⟩, .int .i64 px] 25) = wmQ at *
    clear hg hwm
    clear hn1 hn2
    refine Grow.wp_region_slots (G := Grow.Gst wmQ.heap.size (numObj Num.zero) (numObj (⟨an, al, ax⟩ : Num))) (B := fun w' => Grow.Gst wmQ.heap.size (numObj Num.zero) (numObj (⟨an, al, ax⟩ : Num)) wmQ w') (anc := fun j => if j = 8 then [7] else []) (I := fun j => if j = 7 then some (Grow.specAlloc wmQ.heap.size (numObj Num.zero) (numObj (⟨an, al, ax⟩ : Num))) else if j = 2 then some (Grow.specV _ (.agg #[.bool nn, .string ⟨nl.toArray⟩, .int .i64 nx])) else if j = 3 then some (Grow.specV _ (.tuple #[.agg #[.bool an, .string ⟨al.toArray⟩, .int .i64 ax], .int .i64 0])) else none) (sl := fun j => if j = 8 then some 16 else none) (J := fun _ v => Grow.specStore wmQ.heap.size (numObj Num.zero) (numObj (⟨an, al, ax⟩ : Num)) v) (by kernel_rfl) (by kernel_rfl) (by kernel_rfl) (by kernel_rfl) ?_ ?_ ?_
    · exact fun w w' h hg => h.trans hg
    · exact Grow.Gst.ofExt (ext_refl _).drew (Nat.le_refl _)
    · repeat
        (refine Grow.walk_step (fun K hK => ?_)
         first
         | (refine Grow.step_read (by rfl) (by rfl) Grow.Gst.refl ?_
            apply Exists.intro
            refine ⟨fun w hB hF => ?_, ?_⟩
            · obtain ⟨a0, a1, a2, af0, af1, af2, hp⟩ := (HX.out.ext hB.1).cells; obtain ⟨b0, b1, b2, bf0, bf1, bf2, hq⟩ := (HB.out.ext hB.1).cells; simp only at a0 a1 a2 b0 b1 b2
              go_simp
              try exact rfl
            go_simp
            refine hK _ _ ?_
            clear hK K)
         | (refine Grow.step_off (by rfl) ?_
            go_simp
            refine hK _ _ ?_
            clear hK K))
      refine Grow.walk_step (fun K hK => ?_)
      refine Grow.step_rel (by rfl) (by rfl) (fun w' hB hF => ?_) (fun v hv => ?_)
      · go_simp
        refine Grow.relUpon_enter ((neg_any ⟨bn, bl, bx⟩ w' HLB.out).mono ?_)
        rintro e w'' ⟨rfl, hw''⟩
        exact ⟨_, rfl, Grow.Gst.ofExt hw'' hB.1.size, by rw [HNN.out]; rfl, trivial⟩
      obtain rfl : v = _ := hv
      go_simp
      refine hK _ _ ?_
      clear hK K
      refine Grow.walk_step (fun K hK => ?_)
      refine Grow.step_rel (by rfl) (by rfl) (fun w' hB hF => ?_) (fun v hv => ?_)
      · go_simp
        refine Grow.relUpon_enter ((add_any ⟨xn, xl, xx⟩ ⟨nn, nl, nx⟩ w' HLX.out HLN.out).mono ?_)
        rintro e w'' ⟨rfl, hw''⟩
        exact ⟨_, rfl, Grow.Gst.ofExt hw'' hB.1.size, by rw [HK3.out]; rfl, trivial⟩
      obtain rfl : v = _ := hv
      go_simp
      refine hK _ _ ?_
      clear hK K
      repeat
        (refine Grow.walk_step (fun K hK => ?_)
         first
         | (refine Grow.step_read (by rfl) (by rfl) Grow.Gst.refl ?_
            apply Exists.intro
            refine ⟨fun w hB hF => ?_, ?_⟩
            · skip
              go_simp
              try exact rfl
            go_simp
            refine hK _ _ ?_
            clear hK K)
         | (refine Grow.step_off (by rfl) ?_
            go_simp
            refine hK _ _ ?_
            clear hK K))
      refine Grow.walk_step (fun K hK => ?_)
      refine Grow.step_rel (by rfl) (by rfl) (fun w' hB hF => ?_) (fun v hv => ?_)
      · go_simp
        exact Grow.relUpon_value (Grow.Gst.ofExt ((ext_refl w').alloc (Nat.le_refl _) _) hB.1.size) ⟨_, rfl⟩ ⟨_, rfl, hB.1.size, by simp, .inl (heap_alloc_new _ _)⟩
      obtain ⟨pZ, rfl⟩ := hv
      go_simp
      refine hK _ _ ?_
      clear hK K
      refine Grow.walk_step (fun K hK => ?_)
      refine Grow.step_rel (by rfl) (by rfl) (fun w' hB hF => ?_) (fun v hv => ?_)
      · obtain ⟨p', e', hp', hl', hz'⟩ := hF 7 (by simp)
        obtain rfl : p' = pZ := by simp only [Value.pointer.injEq, Option.some.injEq, Addr.mk.injEq, and_true] at e'; exact e'.symm
        obtain ⟨d0, hd0, hd1⟩ : ∃ d0 : Num, NumAt w' p' d0 ∧ (d0 = Num.zero ∨ d0 = ⟨an, al, ax⟩) := by
          rcases hz' with h | h
          · exact ⟨_, h, .inl rfl⟩
          · exact ⟨_, h, .inr rfl⟩
        have hst := gst_store hd0 hp' hd1
        have hnn := hd0.store ⟨an, al, ax⟩
        obtain ⟨z0, z1, z2, y0, y1, y2, _⟩ := hd0.cells
        simp only at hst hnn
        clear hB hF hz'
        go_simp
        exact ⟨hst, rfl, fun q e => by
          simp only [Value.pointer.injEq, Option.some.injEq, Addr.mk.injEq, and_true] at e
          subst e
          exact ⟨hp', Nat.lt_of_lt_of_le hl' hst.1.size, hnn⟩⟩
      obtain rfl : v = _ := hv
      go_simp
      refine hK _ _ ?_
      clear hK K
      repeat
        (refine Grow.walk_step (fun K hK => ?_)
         first
         | (refine Grow.step_read (by rfl) (by rfl) Grow.Gst.refl ?_
            apply Exists.intro
            refine ⟨fun w hB hF => ?_, ?_⟩
            · skip
              go_simp
              try exact rfl
            go_simp
            refine hK _ _ ?_
            clear hK K)
         | (refine Grow.step_off (by rfl) ?_
            go_simp
            refine hK _ _ ?_
            clear hK K))
      refine Grow.walk_nil ?_
      intro wn hB hF
      have hZ7 : NumAt wn pZ ⟨an, al, ax⟩ := (hF 8 pZ rfl).2.2
      have HZ := Lib.hid hZ7
      replace HA := Lib.hid (HA.out.ext hB.1)
      replace HB := Lib.hid (HB.out.ext hB.1)
      replace HC := Lib.hid (HC.out.ext hB.1)
      replace HX := Lib.hid (HX.out.ext hB.1)
      replace hE := ext_trans hE hB.1
      clear hB hF hZ7 HY HP HQ
      have hn3 := fun w => nql_dec ⟨an, al, ax⟩ w
      simp only at hn3
      obtain ⟨fA0, fA1, fA2, gA0, gA1, gA2, lA⟩ := HA.out.cells
      simp only at fA0 fA1 fA2
      obtain ⟨fB0, fB1, fB2, gB0, gB1, gB2, lB⟩ := HB.out.cells
      simp only at fB0 fB1 fB2
      obtain ⟨fC0, fC1, fC2, gC0, gC1, gC2, lC⟩ := HC.out.cells
      simp only at fC0 fC1 fC2
      obtain ⟨fX0, fX1, fX2, gX0, gX1, gX2, lX⟩ := HX.out.cells
      simp only at fX0 fX1 fX2
      obtain ⟨fZ0, fZ1, fZ2, gZ0, gZ1, gZ2, lZ⟩ := HZ.out.cells
      simp only at fZ0 fZ1 fZ2
      go_wp2_with fail
      clear fA0 fA1 fA2 gA0 gA1 gA2 lA
      clear fB0 fB1 fB2 gB0 gB1 gB2 lB
      clear fC0 fC1 fC2 gC0 gC1 gC2 lC
      clear fX0 fX1 fX2 gX0 gX1 gX2 lX
      clear fZ0 fZ1 fZ2 gZ0 gZ1 gZ2 lZ
      clear hn3 HZ
      refine (mul_any ⟨an, al, ax⟩ ⟨cn, cl, cx⟩ _ HLA.out HLC.out).mono ?_
      rintro e wn ⟨rfl, hw⟩
      replace HA := Lib.hid (HA.out.ext hw)
      replace HB := Lib.hid (HB.out.ext hw)
      replace HC := Lib.hid (HC.out.ext hw)
      replace HX := Lib.hid (HX.out.ext hw)
      replace hE := ext_trans hE hw
      clear hw
      rw [HAC.out]
      simp only
      have HU0 := NumAt.new wn ⟨un, ul, ux⟩
      have hx := ext_newnum wn ⟨un, ul, ux⟩
      simp only at HU0 hx
      replace HA := Lib.hid (HA.out.ext hx)
      replace HB := Lib.hid (HB.out.ext hx)
      replace HC := Lib.hid (HC.out.ext hx)
      replace HX := Lib.hid (HX.out.ext hx)
      replace hE := ext_trans hE hx
      have HU := Lib.hid HU0
      clear hx HU0
      obtain ⟨fA0, fA1, fA2, gA0, gA1, gA2, lA⟩ := HA.out.cells
      simp only at fA0 fA1 fA2
      obtain ⟨fB0, fB1, fB2, gB0, gB1, gB2, lB⟩ := HB.out.cells
      simp only at fB0 fB1 fB2
      obtain ⟨fC0, fC1, fC2, gC0, gC1, gC2, lC⟩ := HC.out.cells
      simp only at fC0 fC1 fC2
      obtain ⟨fX0, fX1, fX2, gX0, gX1, gX2, lX⟩ := HX.out.cells
      simp only at fX0 fX1 fX2
      go_wp2_with fail
      clear fA0 fA1 fA2 gA0 gA1 gA2 lA
      clear fB0 fB1 fB2 gB0 gB1 gB2 lB
      clear fC0 fC1 fC2 gC0 gC1 gC2 lC
      clear fX0 fX1 fX2 gX0 gX1 gX2 lX
      generalize hg : wn.heap.size = pU at *
      generalize hwm : wn.alloc (.cells #[.bool un, .string ⟨ul.toArray⟩, .int .i64 ux] 25) = wmU at *
      clear hg hwm
      refine (mul_any ⟨bn, bl, bx⟩ ⟨cn, cl, cx⟩ _ HLB.out HLC.out).mono ?_
      rintro e wn ⟨rfl, hw⟩
      replace HA := Lib.hid (HA.out.ext hw)
      replace HB := Lib.hid (HB.out.ext hw)
      replace HC := Lib.hid (HC.out.ext hw)
      replace HX := Lib.hid (HX.out.ext hw)
      replace HU := Lib.hid (HU.out.ext hw)
      replace hE := ext_trans hE hw
      clear hw
      rw [HBC.out]
      simp only
      have HV0 := NumAt.new wn ⟨vn, vl, vx⟩
      have hx := ext_newnum wn ⟨vn, vl, vx⟩
      simp only at HV0 hx
      replace HA := Lib.hid (HA.out.ext hx)
      replace HB := Lib.hid (HB.out.ext hx)
      replace HC := Lib.hid (HC.out.ext hx)
      replace HX := Lib.hid (HX.out.ext hx)
      replace HU := Lib.hid (HU.out.ext hx)
      replace hE := ext_trans hE hx
      have HV := Lib.hid HV0
      clear hx HV0
      obtain ⟨fA0, fA1, fA2, gA0, gA1, gA2, lA⟩ := HA.out.cells
      simp only at fA0 fA1 fA2
      obtain ⟨fB0, fB1, fB2, gB0, gB1, gB2, lB⟩ := HB.out.cells
      simp only at fB0 fB1 fB2
      obtain ⟨fC0, fC1, fC2, gC0, gC1, gC2, lC⟩ := HC.out.cells
      simp only at fC0 fC1 fC2
      obtain ⟨fX0, fX1, fX2, gX0, gX1, gX2, lX⟩ := HX.out.cells
      simp only at fX0 fX1 fX2
      obtain ⟨fU0, fU1, fU2, gU0, gU1, gU2, lU⟩ := HU.out.cells
      simp only at fU0 fU1 fU2
      go_wp2_with fail
      clear fA0 fA1 fA2 gA0 gA1 gA2 lA
      clear fB0 fB1 fB2 gB0 gB1 gB2 lB
      clear fC0 fC1 fC2 gC0 gC1 gC2 lC
      clear fX0 fX1 fX2 gX0 gX1 gX2 lX
      clear fU0 fU1 fU2 gU0 gU1 gU2 lU
      generalize hg : wn.heap.size = pV at *
      generalize hwm : wn.alloc (.cells #[.bool vn, .string ⟨vl.toArray⟩, .int .i64 vx] 25) = wmV at *
      clear hg hwm
      refine (mul_any ⟨xn, xl, xx⟩ ⟨cn, cl, cx⟩ _ HLX.out HLC.out).mono ?_
      rintro e wn ⟨rfl, hw⟩
      replace HA := Lib.hid (HA.out.ext hw)
      replace HB := Lib.hid (HB.out.ext hw)
      replace HC := Lib.hid (HC.out.ext hw)
      replace HX := Lib.hid (HX.out.ext hw)
      replace HU := Lib.hid (HU.out.ext hw)
      replace HV := Lib.hid (HV.out.ext hw)
      replace hE := ext_trans hE hw
      clear hw
      rw [HXC.out]
      simp only
      have HT0 := NumAt.new wn ⟨tn, tl, tx⟩
      have hx := ext_newnum wn ⟨tn, tl, tx⟩
      simp only at HT0 hx
      replace HA := Lib.hid (HA.out.ext hx)
      replace HB := Lib.hid (HB.out.ext hx)
      replace HC := Lib.hid (HC.out.ext hx)
      replace HX := Lib.hid (HX.out.ext hx)
      replace HU := Lib.hid (HU.out.ext hx)
      replace HV := Lib.hid (HV.out.ext hx)
      replace hE := ext_trans hE hx
      have HT := Lib.hid HT0
      clear hx HT0
      obtain ⟨fA0, fA1, fA2, gA0, gA1, gA2, lA⟩ := HA.out.cells
      simp only at fA0 fA1 fA2
      obtain ⟨fB0, fB1, fB2, gB0, gB1, gB2, lB⟩ := HB.out.cells
      simp only at fB0 fB1 fB2
      obtain ⟨fC0, fC1, fC2, gC0, gC1, gC2, lC⟩ := HC.out.cells
      simp only at fC0 fC1 fC2
      obtain ⟨fX0, fX1, fX2, gX0, gX1, gX2, lX⟩ := HX.out.cells
      simp only at fX0 fX1 fX2
      obtain ⟨fU0, fU1, fU2, gU0, gU1, gU2, lU⟩ := HU.out.cells
      simp only at fU0 fU1 fU2
      obtain ⟨fV0, fV1, fV2, gV0, gV1, gV2, lV⟩ := HV.out.cells
      simp only at fV0 fV1 fV2
      go_wp2_with fail
      clear fA0 fA1 fA2 gA0 gA1 gA2 lA
      clear fB0 fB1 fB2 gB0 gB1 gB2 lB
      clear fC0 fC1 fC2 gC0 gC1 gC2 lC
      clear fX0 fX1 fX2 gX0 gX1 gX2 lX
      clear fU0 fU1 fU2 gU0 gU1 gU2 lU
      clear fV0 fV1 fV2 gV0 gV1 gV2 lV
      generalize hg : wn.heap.size = pT at *
      generalize hwm : wn.alloc (.cells #[.bool tn, .string ⟨tl.toArray⟩, .int .i64 tx] 25) = wmT at *
      clear hg hwm
      refine (add_any ⟨un, ul, ux⟩ ⟨vn, vl, vx⟩ _ HLU.out HLV.out).mono ?_
      rintro e wn ⟨rfl, hw⟩
      replace HA := Lib.hid (HA.out.ext hw)
      replace HB := Lib.hid (HB.out.ext hw)
      replace HC := Lib.hid (HC.out.ext hw)
      replace HX := Lib.hid (HX.out.ext hw)
      replace HU := Lib.hid (HU.out.ext hw)
      replace HV := Lib.hid (HV.out.ext hw)
      replace HT := Lib.hid (HT.out.ext hw)
      replace hE := ext_trans hE hw
      clear hw
      obtain ⟨S, hS⟩ : ∃ S, addP ⟨un, ul, ux⟩ ⟨vn, vl, vx⟩ = S := ⟨_, rfl⟩
      rw [hS]
      have HS1 := Lib.hid hS
      clear hS
      obtain ⟨⟨sn, sl, sx⟩, se⟩ := S
      simp only
      have HS0 := NumAt.new wn ⟨sn, sl, sx⟩
      have hx := ext_newnum wn ⟨sn, sl, sx⟩
      simp only at HS0 hx
      replace HU := Lib.hid (HU.out.ext hx)
      replace HV := Lib.hid (HV.out.ext hx)
      replace HT := Lib.hid (HT.out.ext hx)
      replace hE := ext_trans hE hx
      have HS := Lib.hid HS0
      clear hx HS0
      by_cases h1 : ue = 0
      · by_cases h2 : ve = 0
        · by_cases h3 : te = 0
          · by_cases h4 : se = 0
            · have hk := HK4.out h1 h2
              rw [HS1.out] at hk
              simp only [Prod.mk.injEq, Num.mk.injEq] at hk
              obtain ⟨⟨rfl, rfl, rfl⟩, _⟩ := hk
              have heq := fun w => eql_same ⟨sn, sl, sx⟩ w
              simp only at heq
              subst h1 h2 h3 h4
              obtain ⟨fU0, fU1, fU2, gU0, gU1, gU2, lU⟩ := HU.out.cells
              simp only at fU0 fU1 fU2
              obtain ⟨fV0, fV1, fV2, gV0, gV1, gV2, lV⟩ := HV.out.cells
              simp only at fV0 fV1 fV2
              obtain ⟨fT0, fT1, fT2, gT0, gT1, gT2, lT⟩ := HT.out.cells
              simp only at fT0 fT1 fT2
              obtain ⟨fS0, fS1, fS2, gS0, gS1, gS2, lS⟩ := HS.out.cells
              simp only at fS0 fS1 fS2
              go_wp2_with fail
              go_ret
              exact ⟨rfl, hE⟩
            · have hq : (se != 0) = true := by simpa using h4
              subst h1 h2 h3
              obtain ⟨fU0, fU1, fU2, gU0, gU1, gU2, lU⟩ := HU.out.cells
              simp only at fU0 fU1 fU2
              obtain ⟨fV0, fV1, fV2, gV0, gV1, gV2, lV⟩ := HV.out.cells
              simp only at fV0 fV1 fV2
              obtain ⟨fT0, fT1, fT2, gT0, gT1, gT2, lT⟩ := HT.out.cells
              simp only at fT0 fT1 fT2
              obtain ⟨fS0, fS1, fS2, gS0, gS1, gS2, lS⟩ := HS.out.cells
              simp only at fS0 fS1 fS2
              go_wp2_with fail
              go_ret
              exact ⟨rfl, hE⟩
          · have hq : (te != 0) = true := by simpa using h3
            subst h1 h2
            obtain ⟨fU0, fU1, fU2, gU0, gU1, gU2, lU⟩ := HU.out.cells
            simp only at fU0 fU1 fU2
            obtain ⟨fV0, fV1, fV2, gV0, gV1, gV2, lV⟩ := HV.out.cells
            simp only at fV0 fV1 fV2
            obtain ⟨fT0, fT1, fT2, gT0, gT1, gT2, lT⟩ := HT.out.cells
            simp only at fT0 fT1 fT2
            obtain ⟨fS0, fS1, fS2, gS0, gS1, gS2, lS⟩ := HS.out.cells
            simp only at fS0 fS1 fS2
            go_wp2_with fail
            go_ret
            exact ⟨rfl, hE⟩
        · have hq : (ve != 0) = true := by simpa using h2
          subst h1
          obtain ⟨fU0, fU1, fU2, gU0, gU1, gU2, lU⟩ := HU.out.cells
          simp only at fU0 fU1 fU2
          obtain ⟨fV0, fV1, fV2, gV0, gV1, gV2, lV⟩ := HV.out.cells
          simp only at fV0 fV1 fV2
          obtain ⟨fT0, fT1, fT2, gT0, gT1, gT2, lT⟩ := HT.out.cells
          simp only at fT0 fT1 fT2
          obtain ⟨fS0, fS1, fS2, gS0, gS1, gS2, lS⟩ := HS.out.cells
          simp only at fS0 fS1 fS2
          go_wp2_with fail
          go_ret
          exact ⟨rfl, hE⟩
      · have hq : (ue != 0) = true := by simpa using h1
        obtain ⟨fU0, fU1, fU2, gU0, gU1, gU2, lU⟩ := HU.out.cells
        simp only at fU0 fU1 fU2
        obtain ⟨fV0, fV1, fV2, gV0, gV1, gV2, lV⟩ := HV.out.cells
        simp only at fV0 fV1 fV2
        obtain ⟨fT0, fT1, fT2, gT0, gT1, gT2, lT⟩ := HT.out.cells
        simp only at fT0 fT1 fT2
        obtain ⟨fS0, fS1, fS2, gS0, gS1, gS2, lS⟩ := HS.out.cells
        simp only at fS0 fS1 fS2
        go_wp2_with fail
        go_ret
        exact ⟨rfl, hE⟩
  · have hq0 : (xe == 0) = false := by simpa using hxe
    have hq : (xe != 0) = true := by simpa using hxe
    obtain ⟨fA0, fA1, fA2, gA0, gA1, gA2, lA⟩ := HA.out.cells
    simp only at fA0 fA1 fA2
    obtain ⟨fB0, fB1, fB2, gB0, gB1, gB2, lB⟩ := HB.out.cells
    simp only at fB0 fB1 fB2
    obtain ⟨fC0, fC1, fC2, gC0, gC1, gC2, lC⟩ := HC.out.cells
    simp only at fC0 fC1 fC2
    obtain ⟨fX0, fX1, fX2, gX0, gX1, gX2, lX⟩ := HX.out.cells
    simp only at fX0 fX1 fX2
    obtain ⟨fY0, fY1, fY2, gY0, gY1, gY2, lY⟩ := HY.out.cells
    simp only at fY0 fY1 fY2
    obtain ⟨fP0, fP1, fP2, gP0, gP1, gP2, lP⟩ := HP.out.cells
    simp only at fP0 fP1 fP2
    obtain ⟨fQ0, fQ1, fQ2, gQ0, gQ1, gQ2, lQ⟩ := HQ.out.cells
    simp only at fQ0 fQ1 fQ2
    go_wp2_with fail
    clear fA0 fA1 fA2 gA0 gA1 gA2 lA
    clear fB0 fB1 fB2 gB0 gB1 gB2 lB
    clear fC0 fC1 fC2 gC0 gC1 gC2 lC
    clear fX0 fX1 fX2 gX0 gX1 gX2 lX
    clear fY0 fY1 fY2 gY0 gY1 gY2 lY
    clear fP0 fP1 fP2 gP0 gP1 gP2 lP
    clear fQ0 fQ1 fQ2 gQ0 gQ1 gQ2 lQ
    generalize hg : wn.heap.size = pQ at *
    generalize hwm : wn.alloc (.cells #[.bool pn, .string ⟨pl.toArray⟩, .int .i64 px] 25) = wmQ at *
    clear hg hwm
    clear hn1 hn2 HY HP HQ
    refine (mul_any ⟨an, al, ax⟩ ⟨cn, cl, cx⟩ _ HLA.out HLC.out).mono ?_
    rintro e wn ⟨rfl, hw⟩
    replace HA := Lib.hid (HA.out.ext hw)
    replace HB := Lib.hid (HB.out.ext hw)
    replace HC := Lib.hid (HC.out.ext hw)
    replace HX := Lib.hid (HX.out.ext hw)
    replace hE := ext_trans hE hw
    clear hw
    rw [HAC.out]
    simp only
    have HU0 := NumAt.new wn ⟨un, ul, ux⟩
    have hx := ext_newnum wn ⟨un, ul, ux⟩
    simp only at HU0 hx
    replace HA := Lib.hid (HA.out.ext hx)
    replace HB := Lib.hid (HB.out.ext hx)
    replace HC := Lib.hid (HC.out.ext hx)
    replace HX := Lib.hid (HX.out.ext hx)
    replace hE := ext_trans hE hx
    have HU := Lib.hid HU0
    clear hx HU0
    obtain ⟨fA0, fA1, fA2, gA0, gA1, gA2, lA⟩ := HA.out.cells
    simp only at fA0 fA1 fA2
    obtain ⟨fB0, fB1, fB2, gB0, gB1, gB2, lB⟩ := HB.out.cells
    simp only at fB0 fB1 fB2
    obtain ⟨fC0, fC1, fC2, gC0, gC1, gC2, lC⟩ := HC.out.cells
    simp only at fC0 fC1 fC2
    obtain ⟨fX0, fX1, fX2, gX0, gX1, gX2, lX⟩ := HX.out.cells
    simp only at fX0 fX1 fX2
    go_wp2_with fail
    clear fA0 fA1 fA2 gA0 gA1 gA2 lA
    clear fB0 fB1 fB2 gB0 gB1 gB2 lB
    clear fC0 fC1 fC2 gC0 gC1 gC2 lC
    clear fX0 fX1 fX2 gX0 gX1 gX2 lX
    generalize hg : wn.heap.size = pU at *
    generalize hwm : wn.alloc (.cells #[.bool un, .string ⟨ul.toArray⟩, .int .i64 ux] 25) = wmU at *
    clear hg hwm
    refine (mul_any ⟨bn, bl, bx⟩ ⟨cn, cl, cx⟩ _ HLB.out HLC.out).mono ?_
    rintro e wn ⟨rfl, hw⟩
    replace HA := Lib.hid (HA.out.ext hw)
    replace HB := Lib.hid (HB.out.ext hw)
    replace HC := Lib.hid (HC.out.ext hw)
    replace HX := Lib.hid (HX.out.ext hw)
    replace HU := Lib.hid (HU.out.ext hw)
    replace hE := ext_trans hE hw
    clear hw
    rw [HBC.out]
    simp only
    have HV0 := NumAt.new wn ⟨vn, vl, vx⟩
    have hx := ext_newnum wn ⟨vn, vl, vx⟩
    simp only at HV0 hx
    replace HA := Lib.hid (HA.out.ext hx)
    replace HB := Lib.hid (HB.out.ext hx)
    replace HC := Lib.hid (HC.out.ext hx)
    replace HX := Lib.hid (HX.out.ext hx)
    replace HU := Lib.hid (HU.out.ext hx)
    replace hE := ext_trans hE hx
    have HV := Lib.hid HV0
    clear hx HV0
    obtain ⟨fA0, fA1, fA2, gA0, gA1, gA2, lA⟩ := HA.out.cells
    simp only at fA0 fA1 fA2
    obtain ⟨fB0, fB1, fB2, gB0, gB1, gB2, lB⟩ := HB.out.cells
    simp only at fB0 fB1 fB2
    obtain ⟨fC0, fC1, fC2, gC0, gC1, gC2, lC⟩ := HC.out.cells
    simp only at fC0 fC1 fC2
    obtain ⟨fX0, fX1, fX2, gX0, gX1, gX2, lX⟩ := HX.out.cells
    simp only at fX0 fX1 fX2
    obtain ⟨fU0, fU1, fU2, gU0, gU1, gU2, lU⟩ := HU.out.cells
    simp only at fU0 fU1 fU2
    go_wp2_with fail
    clear fA0 fA1 fA2 gA0 gA1 gA2 lA
    clear fB0 fB1 fB2 gB0 gB1 gB2 lB
    clear fC0 fC1 fC2 gC0 gC1 gC2 lC
    clear fX0 fX1 fX2 gX0 gX1 gX2 lX
    clear fU0 fU1 fU2 gU0 gU1 gU2 lU
    generalize hg : wn.heap.size = pV at *
    generalize hwm : wn.alloc (.cells #[.bool vn, .string ⟨vl.toArray⟩, .int .i64 vx] 25) = wmV at *
    clear hg hwm
    refine (mul_any ⟨xn, xl, xx⟩ ⟨cn, cl, cx⟩ _ HLX.out HLC.out).mono ?_
    rintro e wn ⟨rfl, hw⟩
    replace HA := Lib.hid (HA.out.ext hw)
    replace HB := Lib.hid (HB.out.ext hw)
    replace HC := Lib.hid (HC.out.ext hw)
    replace HX := Lib.hid (HX.out.ext hw)
    replace HU := Lib.hid (HU.out.ext hw)
    replace HV := Lib.hid (HV.out.ext hw)
    replace hE := ext_trans hE hw
    clear hw
    rw [HXC.out]
    simp only
    have HT0 := NumAt.new wn ⟨tn, tl, tx⟩
    have hx := ext_newnum wn ⟨tn, tl, tx⟩
    simp only at HT0 hx
    replace HA := Lib.hid (HA.out.ext hx)
    replace HB := Lib.hid (HB.out.ext hx)
    replace HC := Lib.hid (HC.out.ext hx)
    replace HX := Lib.hid (HX.out.ext hx)
    replace HU := Lib.hid (HU.out.ext hx)
    replace HV := Lib.hid (HV.out.ext hx)
    replace hE := ext_trans hE hx
    have HT := Lib.hid HT0
    clear hx HT0
    obtain ⟨fA0, fA1, fA2, gA0, gA1, gA2, lA⟩ := HA.out.cells
    simp only at fA0 fA1 fA2
    obtain ⟨fB0, fB1, fB2, gB0, gB1, gB2, lB⟩ := HB.out.cells
    simp only at fB0 fB1 fB2
    obtain ⟨fC0, fC1, fC2, gC0, gC1, gC2, lC⟩ := HC.out.cells
    simp only at fC0 fC1 fC2
    obtain ⟨fX0, fX1, fX2, gX0, gX1, gX2, lX⟩ := HX.out.cells
    simp only at fX0 fX1 fX2
    obtain ⟨fU0, fU1, fU2, gU0, gU1, gU2, lU⟩ := HU.out.cells
    simp only at fU0 fU1 fU2
    obtain ⟨fV0, fV1, fV2, gV0, gV1, gV2, lV⟩ := HV.out.cells
    simp only at fV0 fV1 fV2
    go_wp2_with fail
    clear fA0 fA1 fA2 gA0 gA1 gA2 lA
    clear fB0 fB1 fB2 gB0 gB1 gB2 lB
    clear fC0 fC1 fC2 gC0 gC1 gC2 lC
    clear fX0 fX1 fX2 gX0 gX1 gX2 lX
    clear fU0 fU1 fU2 gU0 gU1 gU2 lU
    clear fV0 fV1 fV2 gV0 gV1 gV2 lV
    generalize hg : wn.heap.size = pT at *
    generalize hwm : wn.alloc (.cells #[.bool tn, .string ⟨tl.toArray⟩, .int .i64 tx] 25) = wmT at *
    clear hg hwm
    refine (add_any ⟨un, ul, ux⟩ ⟨vn, vl, vx⟩ _ HLU.out HLV.out).mono ?_
    rintro e wn ⟨rfl, hw⟩
    replace HA := Lib.hid (HA.out.ext hw)
    replace HB := Lib.hid (HB.out.ext hw)
    replace HC := Lib.hid (HC.out.ext hw)
    replace HX := Lib.hid (HX.out.ext hw)
    replace HU := Lib.hid (HU.out.ext hw)
    replace HV := Lib.hid (HV.out.ext hw)
    replace HT := Lib.hid (HT.out.ext hw)
    replace hE := ext_trans hE hw
    clear hw
    obtain ⟨S, hS⟩ : ∃ S, addP ⟨un, ul, ux⟩ ⟨vn, vl, vx⟩ = S := ⟨_, rfl⟩
    rw [hS]
    clear hS
    obtain ⟨⟨sn, sl, sx⟩, se⟩ := S
    simp only
    have HS0 := NumAt.new wn ⟨sn, sl, sx⟩
    have hx := ext_newnum wn ⟨sn, sl, sx⟩
    simp only at HS0 hx
    replace HU := Lib.hid (HU.out.ext hx)
    replace HV := Lib.hid (HV.out.ext hx)
    replace HT := Lib.hid (HT.out.ext hx)
    replace hE := ext_trans hE hx
    have HS := Lib.hid HS0
    clear hx HS0
    go_wp2_with fail
    go_ret
    exact ⟨rfl, hE⟩
set_option linter.unusedSimpArgs false
theorem own : ownKnob Tryd.prog.godebug = none := by kernel_rfl
theorem laid : laidOutB Tryd.prog = true := by kernel_rfl
set_option maxHeartbeats 1600000 in
set_option maxRecDepth 100000 in
theorem lifted (os : Os) (started : os.Started) (H : Type) (enc : TypeId × Value → H) :
    ReturnsInHanded {} Tryd.checked os 6 .any (fun w args => (Rows.decRingSpec.pre enc Tryd.prog Tryd.f6 [] false w args ∧ laidMetH Tryd.prog Rows.decRingRow.laid w) ∧ sizedMet enc Tryd.prog Tryd.f6 (OpenSpec.ofChange Rows.decRingSpec) false w args) (Rows.decRingSpec.post enc Tryd.prog Tryd.f6 false true false false) := by
  refine returnsInHanded_of_change_and (C := Tryd.checked) (X := fun w _ => laidMetH Tryd.prog Rows.decRingRow.laid w) (fun _ _ _ hh h => h.of_heap hh) own started (by kernel_rfl) Tryd.func6
    (ChangeSpec.witness_shaped (enc := enc) (C := Tryd.checked) (os := os) (X := fun w _ => laidMetH Tryd.prog Rows.decRingRow.laid w) false (World.laidAll Tryd.prog os Rows.decRingRow.laid) #[.agg #[.bool false, .string ⟨#[]⟩, .int .i64 0], .agg #[.bool false, .string ⟨#[]⟩, .int .i64 0], .agg #[.bool false, .string ⟨#[]⟩, .int .i64 0]] 8 (World.laidAll_os _ _ _)
      (World.shaped_of_ZipB (by kernel_rfl) (by kernel_rfl)) (by kernel_rfl) (by kernel_rfl) (by kernel_rfl)
      (by rw [MakeChecks.laidMetH_plain _ _ _ (by kernel_rfl)]; exact laidMet_laidAll _ (by kernel_rfl) (by kernel_rfl))) ?_
  intro W base args ds gs before hval0 hW _ hsz0 hX _
  have hT : Tab W := tab_of hX
  have hsz : (DataW.weightsEach Tryd.prog (Tryd.f6.params.toList ++ Rows.decRingSpec.plain.varTypes Tryd.prog) (ds ++ gs)).all (· ≤ reachBytes) = true := hsz0
  clear hsz0
  have hval : ∀ (j : Nat) t v, Tryd.f6.params[j]? = some t → args[j]? = some v → Value.okWide Tryd.prog W .any base t v := hval0
  have hW' := hW
  obtain ⟨p, q, hA0, hV, rfl, _, _⟩ := hW
  have hA : DataW.TrodAll enc Tryd.prog W 0 (fun _ => true) true Tryd.f6.params.toList args.toList ds p := hA0
  rw [Tryd.params6] at hA hval hsz
  obtain ⟨v0, vs0, d0, ds0, p0, q0, ha0, rfl, rfl, h0, r0⟩ := trodAll_cons hA
  obtain ⟨v1, vs1, d1, ds1, p1, q1, ha1, rfl, rfl, h1, r1⟩ := trodAll_cons r0
  obtain ⟨v2, vs2, d2, ds2, p2, q2, ha2, rfl, rfl, h2, r2⟩ := trodAll_cons r1
  obtain ⟨hb3, rfl, rfl⟩ := trodAll_nil r2
  subst hb3
  subst ha2
  subst ha1
  obtain rfl : args = #[v0, v1, v2] := by cases args; simpa using ha0
  obtain ⟨rfl, rfl⟩ := trodVars_none hV
  have hk0 := h0
  obtain ⟨c00, c01, c02, y00, y01, y02, m0, rfl, rfl, rfl, hy00, hy01, hy02⟩ := Go.Joins.open_agg3 Tryd.underlying25 (by kernel_rfl) (by kernel_rfl) (hval 0 25 v0 rfl rfl) h0
  obtain ⟨n0, e00, rfl⟩ := DataW.trod_bool Tryd.underlying4 hy00
  obtain ⟨s0, e01, rfl, _⟩ := DataW.trod_string Tryd.underlying9 hy01
  obtain ⟨x0, e02, rfl, wf0⟩ := DataW.trod_int Tryd.underlying3 hy02
  simp only [List.cons.injEq, and_true] at e00 e01 e02
  subst e00 e01 e02
  obtain ⟨l0, rfl⟩ : ∃ l : List UInt8, s0 = ⟨l.toArray⟩ := ⟨s0.data.toList, by cases s0; simp⟩
  have hs0 : l0.length ≤ 140737488351232 := sized_dec hsz (j := 0) Tryd.underlying25 rfl rfl
  have hr0 : -9223372036854775808 ≤ x0 ∧ x0 ≤ 9223372036854775807 := by simpa [Lit.wf, IntKind.min, IntKind.max, IntKind.signed, IntKind.bits] using wf0
  have hk1 := h1
  obtain ⟨c10, c11, c12, y10, y11, y12, m1, rfl, rfl, rfl, hy10, hy11, hy12⟩ := Go.Joins.open_agg3 Tryd.underlying25 (by kernel_rfl) (by kernel_rfl) (hval 1 25 v1 rfl rfl) h1
  obtain ⟨n1, e10, rfl⟩ := DataW.trod_bool Tryd.underlying4 hy10
  obtain ⟨s1, e11, rfl, _⟩ := DataW.trod_string Tryd.underlying9 hy11
  obtain ⟨x1, e12, rfl, wf1⟩ := DataW.trod_int Tryd.underlying3 hy12
  simp only [List.cons.injEq, and_true] at e10 e11 e12
  subst e10 e11 e12
  obtain ⟨l1, rfl⟩ : ∃ l : List UInt8, s1 = ⟨l.toArray⟩ := ⟨s1.data.toList, by cases s1; simp⟩
  have hs1 : l1.length ≤ 140737488351232 := sized_dec hsz (j := 1) Tryd.underlying25 rfl rfl
  have hr1 : -9223372036854775808 ≤ x1 ∧ x1 ≤ 9223372036854775807 := by simpa [Lit.wf, IntKind.min, IntKind.max, IntKind.signed, IntKind.bits] using wf1
  have hk2 := h2
  obtain ⟨c20, c21, c22, y20, y21, y22, m2, rfl, rfl, rfl, hy20, hy21, hy22⟩ := Go.Joins.open_agg3 Tryd.underlying25 (by kernel_rfl) (by kernel_rfl) (hval 2 25 v2 rfl rfl) h2
  obtain ⟨n2, e20, rfl⟩ := DataW.trod_bool Tryd.underlying4 hy20
  obtain ⟨s2, e21, rfl, _⟩ := DataW.trod_string Tryd.underlying9 hy21
  obtain ⟨x2, e22, rfl, wf2⟩ := DataW.trod_int Tryd.underlying3 hy22
  simp only [List.cons.injEq, and_true] at e20 e21 e22
  subst e20 e21 e22
  obtain ⟨l2, rfl⟩ : ∃ l : List UInt8, s2 = ⟨l.toArray⟩ := ⟨s2.data.toList, by cases s2; simp⟩
  have hs2 : l2.length ≤ 140737488351232 := sized_dec hsz (j := 2) Tryd.underlying25 rfl rfl
  have hr2 : -9223372036854775808 ≤ x2 ∧ x2 ≤ 9223372036854775807 := by simpa [Lit.wf, IntKind.min, IntKind.max, IntKind.signed, IntKind.bits] using wf2
  have hlt := fun x hx => hW'.lt x hx
  simp only [List.append_nil, List.nil_append] at hW' hlt
  refine (walk ⟨n0, l0, x0⟩ hs0 hr0.1 hr0.2 ⟨n1, l1, x1⟩ hs1 hr1.1 hr1.2 ⟨n2, l2, x2⟩ hs2 hr2.1 hr2.2 W hT ).mono fun e W' ⟨he, hb⟩ => ?_
  subst he
  have hargs := (trodAll_cons_mk (Below.trod laid (by kernel_rfl) (of_decide_eq_true (by kernel_rfl)) hk0 hb (fun x hx => by first | exact hlt x hx | exact absurd hx (List.not_mem_nil) | exact hlt x (by simp [hx]))) (trodAll_cons_mk (Below.trod laid (by kernel_rfl) (of_decide_eq_true (by kernel_rfl)) hk1 hb (fun x hx => by first | exact hlt x hx | exact absurd hx (List.not_mem_nil) | exact hlt x (by simp [hx]))) (trodAll_cons_mk (Below.trod laid (by kernel_rfl) (of_decide_eq_true (by kernel_rfl)) hk2 hb (fun x hx => by first | exact hlt x hx | exact absurd hx (List.not_mem_nil) | exact hlt x (by simp [hx]))) trodAll_mk0)))
  exact ⟨_, rfl, _, _, _, [], _, [], hW', trodAll_cons_mk (shut_bool Tryd.underlying4 _) trodAll_mk0, hargs, rfl, hb.frame _, fun h => by cases h⟩

theorem held : Rows.DecRingSaid :=
  OpenClaim.holds_of_wide 6 Tryd.f6 rfl rfl rfl rfl rfl rfl rfl ⟨rfl, rfl, rfl, rfl, rfl⟩ rfl rfl rfl rfl rfl (by kernel_rfl) Tryd.func6 (by kernel_rfl)
    (of_decide_eq_true (by kernel_rfl)) (by unfold Func.isWrapper; first | (rw [if_pos (by decide +kernel)]; kernel_rfl) | (rw [if_neg (by decide +kernel)]; exact ⟨rfl, rfl⟩))
    (fun os started H enc _ => lifted os started H enc)

theorem proved : Rows.DecRingCardSaid :=
  Claim7.holds_tied_plain_at .later [] Rows.decRingCard.laidKinds true Rows.decRingCard.stood.harness false held (fun _ h => by cases h) (by kernel_rfl) (fun _ h => by cases h) decRing_row_tie rfl ⟨rfl, rfl⟩ (by kernel_rfl) rfl
    (fun f fn hf hfn => by
      obtain rfl : f = 6 := Option.some.inj ((show Tryd.prog.funcNamed "orangery/orangerylaw02.DecRing" = some 6 by kernel_rfl).symm.trans hf) |>.symm
      obtain rfl : fn = Tryd.f6 := (Option.some.inj (Tryd.func6.symm.trans hfn)).symm
      exact ⟨by kernel_rfl, fun j t ht => by
        rw [Tryd.params6] at ht
        have hm : t ∈ [25, 25, 25] := by simpa using Array.mem_of_getElem? ht
        have hall : ([25, 25, 25].all fun u => !Tryd.prog.wantsStandIn u) = true := by kernel_rfl
        exact (show Tryd.prog.wantsStandIn t = false by simpa using List.all_eq_true.1 hall t hm)⟩)
    (by kernel_rfl)
end Go.Proofs.YtpheohgceepboaaDoor.decRing
