/- DecPoints: zeros ahead of a point's end, an exponent that is written otherwise, and a sign of it, say nothing: whatever the input, the law returns true and the input reads as it did. No condition beyond the row's. -/
import Derived.Test.YtpheohgceepboaaDoorRows
import Derived.Test.YtpheohgceepboaaDoorCards
import Derived.Test.YtpheohgceepboaaDoorTie
import Derived.Test.YtpheohgceepboaaDoorDecT
import Derived.Test.YtpheohgceepboaaDoorDecY
import Derived.Test.YtpheohgceepboaaDoorBits
import Derived.Test.YtpheohgceepboaaDoorFrame
import Derived.ProofKit
import Derived.SizedLaws
import Derived.OpenShut
import Derived.Lay
import Derived.LaidMore
import Derived.SevenTiedAt
import Derived.IntWalk
set_option linter.unusedVariables false
set_option linter.unusedSimpArgs false
set_option maxRecDepth 100000
namespace Go.Proofs.YtpheohgceepboaaDoor.decPoints
open Go.ChangeShapes Go.WideShapes Go.ChangeAt Go.RowKit Go.Mem Orange

set_option maxHeartbeats 6400000 in
theorem walk (a : Int) (ha0 : -9223372036854775808 ≤ a) (ha1 : a ≤ 9223372036854775807) (b : Int) (hb0 : -9223372036854775808 ≤ b) (hb1 : b ≤ 9223372036854775807) (neg : Bool) (w : World) (hT : Tab w) :
    Calls Tryd.prog 3 #[.int .i64 a, .int .i64 b, .bool neg] w fun e w' => e = .returned (.bool true) ∧ Ext w w' := by
  have HTT := Lib.hid hT
  clear hT
  have hE := ext_refl w
  obtain ⟨X, hX, hx⟩ := pick_low 16 65535 (by decide) (by omega) a
  obtain ⟨Y, hY, hy⟩ := pick_low 16 65535 (by decide) (by omega) b
  go_enter Tryd.func3, Tryd.ntmps3
  go_wp2_with fail
  refine (dawake _ (HTT.out.ext hE)).mono ?_
  rintro e wn ⟨rfl, hw⟩
  replace hE := ext_trans hE hw
  clear hw
  go_wp2_with fail
  refine (digits_any X _ (by omega)).mono ?_
  rintro e wn ⟨rfl, hw⟩
  replace hE := ext_trans hE hw
  clear hw
  go_wp2_with fail
  refine (digits_any Y _ (by omega)).mono ?_
  rintro e wn ⟨rfl, hw⟩
  replace hE := ext_trans hE hw
  clear hw
  obtain ⟨lx, ly, hv⟩ := pt_len X Y (by omega) (by omega)
  have P1 := pt_d neg X Y (by omega) (by omega)
  have P2 := pt_f neg X Y (by omega) (by omega)
  have P3 := pt_h neg X Y (by omega) (by omega)
  have P4 := pt_j neg X Y (by omega) (by omega)
  have hz := decD_zero X
  have ll := decD_len 1 (decD Y).length (by omega) (by omega)
  have LL0 : ∀ w : World, Calls Tryd.prog 11 #[.int .i64 ((decD Y).length : Nat)] w fun e w' => e = .returned (.string ⟨(decD (decD Y).length).toArray⟩) ∧ Ext w w' := fun w => digits_any (decD Y).length w (by omega)
  generalize decD (decD Y).length = L at *
  generalize decD X = D at *
  generalize decD Y = E at *
  generalize normN neg (val (D ++ E)) (-(E.length : Int)) = R at *
  obtain ⟨rn, rl, rx⟩ := R
  have HP1 := Lib.hid P1
  have HP2 := Lib.hid P2
  have HP3 := Lib.hid P3
  have HP4 := Lib.hid P4
  have HLL := Lib.hid LL0
  have HZ := Lib.hid hz
  clear P1 P2 P3 P4 LL0 hz hv
  cases neg with
  | true =>
    go_wp2_with fail
    rw [cat_d [45] D E]
    refine (parse_any ([45] ++ (D ++ 46 :: E)) _ (by simp; omega)).mono ?_
    rintro e wn ⟨rfl, hw⟩
    replace hE := ext_trans hE hw
    clear hw
    rw [show [45] ++ (D ++ 46 :: E) = sg true ++ (D ++ 46 :: E) from rfl, HP1.out]
    simp only
    have HA0 := NumAt.new wn ⟨rn, rl, rx⟩
    have hx := ext_newnum wn ⟨rn, rl, rx⟩
    simp only at HA0 hx
    replace hE := ext_trans hE hx
    have HA := Lib.hid HA0
    clear hx HA0
    go_wp2_with fail
    generalize hg : wn.heap.size = pA at *
    generalize hwm : wn.alloc (.cells #[.bool rn, .string ⟨rl.toArray⟩, .int .i64 rx] 25) = wmA at *
    clear hg hwm
    rw [cat_f [45] D E]
    refine (parse_any ([45] ++ (D ++ 46 :: (E ++ [48, 48, 48, 101, 48]))) _ (by simp; omega)).mono ?_
    rintro e wn ⟨rfl, hw⟩
    replace HA := Lib.hid (HA.out.ext hw)
    replace hE := ext_trans hE hw
    clear hw
    rw [show [45] ++ (D ++ 46 :: (E ++ [48, 48, 48, 101, 48])) = sg true ++ (D ++ 46 :: (E ++ [48, 48, 48, 101, 48])) from rfl, HP2.out]
    simp only
    have HB0 := NumAt.new wn ⟨rn, rl, rx⟩
    have hx := ext_newnum wn ⟨rn, rl, rx⟩
    simp only at HB0 hx
    replace HA := Lib.hid (HA.out.ext hx)
    replace hE := ext_trans hE hx
    have HB := Lib.hid HB0
    clear hx HB0
    go_wp2_with fail
    generalize hg : wn.heap.size = pB at *
    generalize hwm : wn.alloc (.cells #[.bool rn, .string ⟨rl.toArray⟩, .int .i64 rx] 25) = wmB at *
    clear hg hwm
    refine (HLL.out _).mono ?_
    rintro e wn ⟨rfl, hw⟩
    replace HA := Lib.hid (HA.out.ext hw)
    replace HB := Lib.hid (HB.out.ext hw)
    replace hE := ext_trans hE hw
    clear hw
    go_wp2_with fail
    rw [cat_h [45] D E L]
    refine (parse_any ([45] ++ (D ++ (E ++ 69 :: 45 :: L))) _ (by simp; omega)).mono ?_
    rintro e wn ⟨rfl, hw⟩
    replace HA := Lib.hid (HA.out.ext hw)
    replace HB := Lib.hid (HB.out.ext hw)
    replace hE := ext_trans hE hw
    clear hw
    rw [show [45] ++ (D ++ (E ++ 69 :: 45 :: L)) = sg true ++ (D ++ (E ++ 69 :: 45 :: L)) from rfl]
    by_cases h0 : X = 0
    · obtain ⟨T, hT⟩ : ∃ T, decP (sg true ++ (D ++ (E ++ 69 :: 45 :: L))) = T := ⟨_, rfl⟩
      rw [hT]
      clear hT
      obtain ⟨⟨tn, tl, tx⟩, te⟩ := T
      simp only
      have HC0 := NumAt.new wn ⟨tn, tl, tx⟩
      have hx := ext_newnum wn ⟨tn, tl, tx⟩
      simp only at HC0 hx
      replace HA := Lib.hid (HA.out.ext hx)
      replace HB := Lib.hid (HB.out.ext hx)
      replace hE := ext_trans hE hx
      have HC := Lib.hid HC0
      clear hx HC0
      go_wp2_with fail
      generalize hg : wn.heap.size = pC at *
      generalize hwm : wn.alloc (.cells #[.bool tn, .string ⟨tl.toArray⟩, .int .i64 tx] 25) = wmC at *
      clear hg hwm
      rw [cat_j [45] D]
      refine (parse_any ([45] ++ (48 :: D)) _ (by simp; omega)).mono ?_
      rintro e wn ⟨rfl, hw⟩
      replace HA := Lib.hid (HA.out.ext hw)
      replace HB := Lib.hid (HB.out.ext hw)
      replace HC := Lib.hid (HC.out.ext hw)
      replace hE := ext_trans hE hw
      clear hw
      have hd : D = [48] := HZ.out.2 h0
      subst hd
      obtain ⟨T, hT⟩ : ∃ T, decP ([45] ++ (48 :: [48])) = T := ⟨_, rfl⟩
      rw [hT]
      clear hT
      obtain ⟨⟨tn, tl, tx⟩, te⟩ := T
      simp only
      have hnA : pA ≠ wn.heap.size := Nat.ne_of_lt HA.out.cells.2.2.2.2.2.2
      have hnB : pB ≠ wn.heap.size := Nat.ne_of_lt HB.out.cells.2.2.2.2.2.2
      have hjs : w.heap.size ≤ wn.heap.size := hE.size
      have hn2A : wn.heap.size ≠ pA := fun h => hnA h.symm
      have hn2B : wn.heap.size ≠ pB := fun h => hnB h.symm
      have HJ0 := NumAt.new wn ⟨tn, tl, tx⟩
      have hx := ext_newnum wn ⟨tn, tl, tx⟩
      simp only at HJ0 hx
      replace HA := Lib.hid (HA.out.ext hx)
      replace HB := Lib.hid (HB.out.ext hx)
      replace HC := Lib.hid (HC.out.ext hx)
      replace hE := ext_trans hE hx
      have HJ := Lib.hid HJ0
      clear hx HJ0
      go_wp2_with fail
      generalize hg : wn.heap.size = pJ at *
      generalize hwm : wn.alloc (.cells #[.bool tn, .string ⟨tl.toArray⟩, .int .i64 tx] 25) = wmJ at *
      clear hg hwm
      refine (parse_any [48, 48] _ (by decide)).mono ?_
      rintro e wn ⟨rfl, hw⟩
      replace HA := Lib.hid (HA.out.ext hw)
      replace HB := Lib.hid (HB.out.ext hw)
      replace HC := Lib.hid (HC.out.ext hw)
      replace HJ := Lib.hid (HJ.out.ext hw)
      replace hE := ext_trans hE hw
      clear hw
      rw [pt_00]
      simp only [Num.zero]
      obtain ⟨fA0, fA1, fA2, gA0, gA1, gA2, lA⟩ := HA.out.cells
      simp only at fA0 fA1 fA2
      obtain ⟨fB0, fB1, fB2, gB0, gB1, gB2, lB⟩ := HB.out.cells
      simp only at fB0 fB1 fB2
      obtain ⟨fJ0, fJ1, fJ2, gJ0, gJ1, gJ2, lJ⟩ := HJ.out.cells
      simp only at fJ0 fJ1 fJ2
      go_wp2_with fail
      go_ret
      exact ⟨rfl, below_store hE hjs _ _ _⟩
    · rw [HP3.out h0]
      simp only
      have HC0 := NumAt.new wn ⟨rn, rl, rx⟩
      have hx := ext_newnum wn ⟨rn, rl, rx⟩
      simp only at HC0 hx
      replace HA := Lib.hid (HA.out.ext hx)
      replace HB := Lib.hid (HB.out.ext hx)
      replace hE := ext_trans hE hx
      have HC := Lib.hid HC0
      clear hx HC0
      go_wp2_with fail
      generalize hg : wn.heap.size = pC at *
      generalize hwm : wn.alloc (.cells #[.bool rn, .string ⟨rl.toArray⟩, .int .i64 rx] 25) = wmC at *
      clear hg hwm
      rw [cat_j [45] D]
      refine (parse_any ([45] ++ (48 :: D)) _ (by simp; omega)).mono ?_
      rintro e wn ⟨rfl, hw⟩
      replace HA := Lib.hid (HA.out.ext hw)
      replace HB := Lib.hid (HB.out.ext hw)
      replace HC := Lib.hid (HC.out.ext hw)
      replace hE := ext_trans hE hw
      clear hw
      rw [show [45] ++ (48 :: D) = sg true ++ (48 :: D) from rfl, HP4.out h0]
      simp only [Num.zero]
      have HJ0 := NumAt.new wn ⟨false, [], 0⟩
      have hx := ext_newnum wn ⟨false, [], 0⟩
      simp only at HJ0 hx
      replace HA := Lib.hid (HA.out.ext hx)
      replace HB := Lib.hid (HB.out.ext hx)
      replace HC := Lib.hid (HC.out.ext hx)
      replace hE := ext_trans hE hx
      have HJ := Lib.hid HJ0
      clear hx HJ0
      have hz : (D == [48]) = false := by simpa using fun h => h0 (HZ.out.1 h)
      have hs : sane Num.zero = true := rfl
      obtain ⟨fA0, fA1, fA2, gA0, gA1, gA2, lA⟩ := HA.out.cells
      simp only at fA0 fA1 fA2
      obtain ⟨fB0, fB1, fB2, gB0, gB1, gB2, lB⟩ := HB.out.cells
      simp only at fB0 fB1 fB2
      obtain ⟨fC0, fC1, fC2, gC0, gC1, gC2, lC⟩ := HC.out.cells
      simp only at fC0 fC1 fC2
      obtain ⟨fJ0, fJ1, fJ2, gJ0, gJ1, gJ2, lJ⟩ := HJ.out.cells
      simp only at fJ0 fJ1 fJ2
      go_wp2_with fail
      go_ret
      exact ⟨rfl, hE⟩
  | false =>
    go_wp2_with fail
    rw [cat_d [] D E]
    refine (parse_any ([] ++ (D ++ 46 :: E)) _ (by simp; omega)).mono ?_
    rintro e wn ⟨rfl, hw⟩
    replace hE := ext_trans hE hw
    clear hw
    rw [show [] ++ (D ++ 46 :: E) = sg false ++ (D ++ 46 :: E) from rfl, HP1.out]
    simp only
    have HA0 := NumAt.new wn ⟨rn, rl, rx⟩
    have hx := ext_newnum wn ⟨rn, rl, rx⟩
    simp only at HA0 hx
    replace hE := ext_trans hE hx
    have HA := Lib.hid HA0
    clear hx HA0
    go_wp2_with fail
    generalize hg : wn.heap.size = pA at *
    generalize hwm : wn.alloc (.cells #[.bool rn, .string ⟨rl.toArray⟩, .int .i64 rx] 25) = wmA at *
    clear hg hwm
    rw [cat_f [] D E]
    refine (parse_any ([] ++ (D ++ 46 :: (E ++ [48, 48, 48, 101, 48]))) _ (by simp; omega)).mono ?_
    rintro e wn ⟨rfl, hw⟩
    replace HA := Lib.hid (HA.out.ext hw)
    replace hE := ext_trans hE hw
    clear hw
    rw [show [] ++ (D ++ 46 :: (E ++ [48, 48, 48, 101, 48])) = sg false ++ (D ++ 46 :: (E ++ [48, 48, 48, 101, 48])) from rfl, HP2.out]
    simp only
    have HB0 := NumAt.new wn ⟨rn, rl, rx⟩
    have hx := ext_newnum wn ⟨rn, rl, rx⟩
    simp only at HB0 hx
    replace HA := Lib.hid (HA.out.ext hx)
    replace hE := ext_trans hE hx
    have HB := Lib.hid HB0
    clear hx HB0
    go_wp2_with fail
    generalize hg : wn.heap.size = pB at *
    generalize hwm : wn.alloc (.cells #[.bool rn, .string ⟨rl.toArray⟩, .int .i64 rx] 25) = wmB at *
    clear hg hwm
    refine (HLL.out _).mono ?_
    rintro e wn ⟨rfl, hw⟩
    replace HA := Lib.hid (HA.out.ext hw)
    replace HB := Lib.hid (HB.out.ext hw)
    replace hE := ext_trans hE hw
    clear hw
    go_wp2_with fail
    rw [cat_h [] D E L]
    refine (parse_any ([] ++ (D ++ (E ++ 69 :: 45 :: L))) _ (by simp; omega)).mono ?_
    rintro e wn ⟨rfl, hw⟩
    replace HA := Lib.hid (HA.out.ext hw)
    replace HB := Lib.hid (HB.out.ext hw)
    replace hE := ext_trans hE hw
    clear hw
    rw [show [] ++ (D ++ (E ++ 69 :: 45 :: L)) = sg false ++ (D ++ (E ++ 69 :: 45 :: L)) from rfl]
    by_cases h0 : X = 0
    · obtain ⟨T, hT⟩ : ∃ T, decP (sg false ++ (D ++ (E ++ 69 :: 45 :: L))) = T := ⟨_, rfl⟩
      rw [hT]
      clear hT
      obtain ⟨⟨tn, tl, tx⟩, te⟩ := T
      simp only
      have HC0 := NumAt.new wn ⟨tn, tl, tx⟩
      have hx := ext_newnum wn ⟨tn, tl, tx⟩
      simp only at HC0 hx
      replace HA := Lib.hid (HA.out.ext hx)
      replace HB := Lib.hid (HB.out.ext hx)
      replace hE := ext_trans hE hx
      have HC := Lib.hid HC0
      clear hx HC0
      go_wp2_with fail
      generalize hg : wn.heap.size = pC at *
      generalize hwm : wn.alloc (.cells #[.bool tn, .string ⟨tl.toArray⟩, .int .i64 tx] 25) = wmC at *
      clear hg hwm
      rw [cat_j [] D]
      refine (parse_any ([] ++ (48 :: D)) _ (by simp; omega)).mono ?_
      rintro e wn ⟨rfl, hw⟩
      replace HA := Lib.hid (HA.out.ext hw)
      replace HB := Lib.hid (HB.out.ext hw)
      replace HC := Lib.hid (HC.out.ext hw)
      replace hE := ext_trans hE hw
      clear hw
      have hd : D = [48] := HZ.out.2 h0
      subst hd
      obtain ⟨T, hT⟩ : ∃ T, decP ([] ++ (48 :: [48])) = T := ⟨_, rfl⟩
      rw [hT]
      clear hT
      obtain ⟨⟨tn, tl, tx⟩, te⟩ := T
      simp only
      have hnA : pA ≠ wn.heap.size := Nat.ne_of_lt HA.out.cells.2.2.2.2.2.2
      have hnB : pB ≠ wn.heap.size := Nat.ne_of_lt HB.out.cells.2.2.2.2.2.2
      have hjs : w.heap.size ≤ wn.heap.size := hE.size
      have hn2A : wn.heap.size ≠ pA := fun h => hnA h.symm
      have hn2B : wn.heap.size ≠ pB := fun h => hnB h.symm
      have HJ0 := NumAt.new wn ⟨tn, tl, tx⟩
      have hx := ext_newnum wn ⟨tn, tl, tx⟩
      simp only at HJ0 hx
      replace HA := Lib.hid (HA.out.ext hx)
      replace HB := Lib.hid (HB.out.ext hx)
      replace HC := Lib.hid (HC.out.ext hx)
      replace hE := ext_trans hE hx
      have HJ := Lib.hid HJ0
      clear hx HJ0
      go_wp2_with fail
      generalize hg : wn.heap.size = pJ at *
      generalize hwm : wn.alloc (.cells #[.bool tn, .string ⟨tl.toArray⟩, .int .i64 tx] 25) = wmJ at *
      clear hg hwm
      refine (parse_any [48, 48] _ (by decide)).mono ?_
      rintro e wn ⟨rfl, hw⟩
      replace HA := Lib.hid (HA.out.ext hw)
      replace HB := Lib.hid (HB.out.ext hw)
      replace HC := Lib.hid (HC.out.ext hw)
      replace HJ := Lib.hid (HJ.out.ext hw)
      replace hE := ext_trans hE hw
      clear hw
      rw [pt_00]
      simp only [Num.zero]
      obtain ⟨fA0, fA1, fA2, gA0, gA1, gA2, lA⟩ := HA.out.cells
      simp only at fA0 fA1 fA2
      obtain ⟨fB0, fB1, fB2, gB0, gB1, gB2, lB⟩ := HB.out.cells
      simp only at fB0 fB1 fB2
      obtain ⟨fJ0, fJ1, fJ2, gJ0, gJ1, gJ2, lJ⟩ := HJ.out.cells
      simp only at fJ0 fJ1 fJ2
      go_wp2_with fail
      go_ret
      exact ⟨rfl, below_store hE hjs _ _ _⟩
    · rw [HP3.out h0]
      simp only
      have HC0 := NumAt.new wn ⟨rn, rl, rx⟩
      have hx := ext_newnum wn ⟨rn, rl, rx⟩
      simp only at HC0 hx
      replace HA := Lib.hid (HA.out.ext hx)
      replace HB := Lib.hid (HB.out.ext hx)
      replace hE := ext_trans hE hx
      have HC := Lib.hid HC0
      clear hx HC0
      go_wp2_with fail
      generalize hg : wn.heap.size = pC at *
      generalize hwm : wn.alloc (.cells #[.bool rn, .string ⟨rl.toArray⟩, .int .i64 rx] 25) = wmC at *
      clear hg hwm
      rw [cat_j [] D]
      refine (parse_any ([] ++ (48 :: D)) _ (by simp; omega)).mono ?_
      rintro e wn ⟨rfl, hw⟩
      replace HA := Lib.hid (HA.out.ext hw)
      replace HB := Lib.hid (HB.out.ext hw)
      replace HC := Lib.hid (HC.out.ext hw)
      replace hE := ext_trans hE hw
      clear hw
      rw [show [] ++ (48 :: D) = sg false ++ (48 :: D) from rfl, HP4.out h0]
      simp only [Num.zero]
      have HJ0 := NumAt.new wn ⟨false, [], 0⟩
      have hx := ext_newnum wn ⟨false, [], 0⟩
      simp only at HJ0 hx
      replace HA := Lib.hid (HA.out.ext hx)
      replace HB := Lib.hid (HB.out.ext hx)
      replace HC := Lib.hid (HC.out.ext hx)
      replace hE := ext_trans hE hx
      have HJ := Lib.hid HJ0
      clear hx HJ0
      have hz : (D == [48]) = false := by simpa using fun h => h0 (HZ.out.1 h)
      have hs : sane Num.zero = true := rfl
      obtain ⟨fA0, fA1, fA2, gA0, gA1, gA2, lA⟩ := HA.out.cells
      simp only at fA0 fA1 fA2
      obtain ⟨fB0, fB1, fB2, gB0, gB1, gB2, lB⟩ := HB.out.cells
      simp only at fB0 fB1 fB2
      obtain ⟨fC0, fC1, fC2, gC0, gC1, gC2, lC⟩ := HC.out.cells
      simp only at fC0 fC1 fC2
      obtain ⟨fJ0, fJ1, fJ2, gJ0, gJ1, gJ2, lJ⟩ := HJ.out.cells
      simp only at fJ0 fJ1 fJ2
      go_wp2_with fail
      go_ret
      exact ⟨rfl, hE⟩
set_option linter.unusedSimpArgs false
theorem own : ownKnob Tryd.prog.godebug = none := by kernel_rfl
theorem laid : laidOutB Tryd.prog = true := by kernel_rfl
set_option maxHeartbeats 1600000 in
set_option maxRecDepth 100000 in
theorem lifted (os : Os) (started : os.Started) (H : Type) (enc : TypeId × Value → H) :
    ReturnsInHanded {} Tryd.checked os 3 .any (fun w args => (Rows.decPointsSpec.pre enc Tryd.prog Tryd.f3 [] false w args ∧ laidMetH Tryd.prog Rows.decPointsRow.laid w) ∧ sizedMet enc Tryd.prog Tryd.f3 (OpenSpec.ofChange Rows.decPointsSpec) false w args) (Rows.decPointsSpec.post enc Tryd.prog Tryd.f3 false true false false) := by
  refine returnsInHanded_of_change_and (C := Tryd.checked) (X := fun w _ => laidMetH Tryd.prog Rows.decPointsRow.laid w) (fun _ _ _ hh h => h.of_heap hh) own started (by kernel_rfl) Tryd.func3
    (ChangeSpec.witness_shaped (enc := enc) (C := Tryd.checked) (os := os) (X := fun w _ => laidMetH Tryd.prog Rows.decPointsRow.laid w) false (World.laidAll Tryd.prog os Rows.decPointsRow.laid) #[.int .i64 0, .int .i64 0, .bool false] 8 (World.laidAll_os _ _ _)
      (World.shaped_of_ZipB (by kernel_rfl) (by kernel_rfl)) (by kernel_rfl) (by kernel_rfl) (by kernel_rfl)
      (by rw [MakeChecks.laidMetH_plain _ _ _ (by kernel_rfl)]; exact laidMet_laidAll _ (by kernel_rfl) (by kernel_rfl))) ?_
  intro W base args ds gs before hval0 hW _ hsz0 hX _
  have hT : Tab W := tab_of hX
  have hsz : (DataW.weightsEach Tryd.prog (Tryd.f3.params.toList ++ Rows.decPointsSpec.plain.varTypes Tryd.prog) (ds ++ gs)).all (· ≤ reachBytes) = true := hsz0
  clear hsz0
  have hval : ∀ (j : Nat) t v, Tryd.f3.params[j]? = some t → args[j]? = some v → Value.okWide Tryd.prog W .any base t v := hval0
  have hW' := hW
  obtain ⟨p, q, hA0, hV, rfl, _, _⟩ := hW
  have hA : DataW.TrodAll enc Tryd.prog W 0 (fun _ => true) true Tryd.f3.params.toList args.toList ds p := hA0
  rw [Tryd.params3] at hA hval hsz
  obtain ⟨v0, vs0, d0, ds0, p0, q0, ha0, rfl, rfl, h0, r0⟩ := trodAll_cons hA
  obtain ⟨v1, vs1, d1, ds1, p1, q1, ha1, rfl, rfl, h1, r1⟩ := trodAll_cons r0
  obtain ⟨v2, vs2, d2, ds2, p2, q2, ha2, rfl, rfl, h2, r2⟩ := trodAll_cons r1
  obtain ⟨hb3, rfl, rfl⟩ := trodAll_nil r2
  subst hb3
  subst ha2
  subst ha1
  obtain rfl : args = #[v0, v1, v2] := by cases args; simpa using ha0
  obtain ⟨rfl, rfl⟩ := trodVars_none hV
  have hk0 := h0
  obtain ⟨a0, rfl, rfl, rfl, wf0⟩ := open_int Tryd.underlying3 (hval 0 3 v0 rfl rfl) h0
  have hr0 : -9223372036854775808 ≤ a0 ∧ a0 ≤ 9223372036854775807 := by simpa [Lit.wf, IntKind.min, IntKind.max, IntKind.signed, IntKind.bits] using wf0
  have hk1 := h1
  obtain ⟨a1, rfl, rfl, rfl, wf1⟩ := open_int Tryd.underlying3 (hval 1 3 v1 rfl rfl) h1
  have hr1 : -9223372036854775808 ≤ a1 ∧ a1 ≤ 9223372036854775807 := by simpa [Lit.wf, IntKind.min, IntKind.max, IntKind.signed, IntKind.bits] using wf1
  have hk2 := h2
  obtain ⟨a2, rfl, rfl, rfl⟩ := open_bool Tryd.underlying4 (hval 2 4 v2 rfl rfl) h2
  have hlt := fun x hx => hW'.lt x hx
  simp only [List.append_nil, List.nil_append] at hW' hlt
  refine (walk a0 hr0.1 hr0.2 a1 hr1.1 hr1.2 a2 W hT ).mono fun e W' ⟨he, hb⟩ => ?_
  subst he
  have hargs := (trodAll_cons_mk (Below.trod laid (by kernel_rfl) (of_decide_eq_true (by kernel_rfl)) hk0 hb (fun x hx => by first | exact hlt x hx | exact absurd hx (List.not_mem_nil) | exact hlt x (by simp [hx]))) (trodAll_cons_mk (Below.trod laid (by kernel_rfl) (of_decide_eq_true (by kernel_rfl)) hk1 hb (fun x hx => by first | exact hlt x hx | exact absurd hx (List.not_mem_nil) | exact hlt x (by simp [hx]))) (trodAll_cons_mk (Below.trod laid (by kernel_rfl) (of_decide_eq_true (by kernel_rfl)) hk2 hb (fun x hx => by first | exact hlt x hx | exact absurd hx (List.not_mem_nil) | exact hlt x (by simp [hx]))) trodAll_mk0)))
  exact ⟨_, rfl, _, _, _, [], _, [], hW', trodAll_cons_mk (shut_bool Tryd.underlying4 _) trodAll_mk0, hargs, rfl, hb.frame _, fun h => by cases h⟩

theorem held : Rows.DecPointsSaid :=
  OpenClaim.holds_of_wide 3 Tryd.f3 rfl rfl rfl rfl rfl rfl rfl ⟨rfl, rfl, rfl, rfl, rfl⟩ rfl rfl rfl rfl rfl (by kernel_rfl) Tryd.func3 (by kernel_rfl)
    (of_decide_eq_true (by kernel_rfl)) (by unfold Func.isWrapper; first | (rw [if_pos (by decide +kernel)]; kernel_rfl) | (rw [if_neg (by decide +kernel)]; exact ⟨rfl, rfl⟩))
    (fun os started H enc _ => lifted os started H enc)

theorem proved : Rows.DecPointsCardSaid :=
  Claim7.holds_tied_plain_at .later [] Rows.decPointsCard.laidKinds true Rows.decPointsCard.stood.harness false held (fun _ h => by cases h) (by kernel_rfl) (fun _ h => by cases h) decPoints_row_tie rfl ⟨rfl, rfl⟩ (by kernel_rfl) rfl
    (fun f fn hf hfn => by
      obtain rfl : f = 3 := Option.some.inj ((show Tryd.prog.funcNamed "orangery/orangerylaw02.DecPoints" = some 3 by kernel_rfl).symm.trans hf) |>.symm
      obtain rfl : fn = Tryd.f3 := (Option.some.inj (Tryd.func3.symm.trans hfn)).symm
      exact ⟨by kernel_rfl, fun j t ht => by
        rw [Tryd.params3] at ht
        have hm : t ∈ [3, 3, 4] := by simpa using Array.mem_of_getElem? ht
        have hall : ([3, 3, 4].all fun u => !Tryd.prog.wantsStandIn u) = true := by kernel_rfl
        exact (show Tryd.prog.wantsStandIn t = false by simpa using List.all_eq_true.1 hall t hm)⟩)
    (by kernel_rfl)
end Go.Proofs.YtpheohgceepboaaDoor.decPoints
