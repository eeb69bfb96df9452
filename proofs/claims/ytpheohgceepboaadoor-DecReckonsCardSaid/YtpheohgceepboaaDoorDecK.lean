/- orangerylaw02: what awake does. -/
import Derived.Test.YtpheohgceepboaaDoorDecH
set_option linter.unusedVariables false
set_option linter.unusedSimpArgs false
set_option maxRecDepth 100000
namespace Go.Proofs.YtpheohgceepboaaDoor
open Go.RowKit Go.Mem Orange

theorem digs3 : digs 3 = [51] := by rw [digs_pos (by omega), show 3 / 10 = 0 from rfl, digs_zero]; rfl
theorem aw1 : decP [45, 49, 46, 53, 48, 101, 50] = (⟨true, [49, 53], 1⟩, 0) := by decide +kernel
theorem aw2 : decP [48, 46, 49] = (⟨false, [49], -1⟩, 0) := by decide +kernel
theorem aw3 : decP [48, 46, 50] = (⟨false, [50], -1⟩, 0) := by decide +kernel
theorem aw4 : addP ⟨false, [49], -1⟩ ⟨false, [50], -1⟩ = (⟨false, [51], -1⟩, 0) := by
  rw [addP_at (by decide +kernel) (by decide +kernel) (-1) (.inr (by decide)) (.inr (by decide))]
  have e : zv ⟨false, [49], -1⟩ (-1) + zv ⟨false, [50], -1⟩ (-1) = 3 := by decide +kernel
  rw [e]
  have e2 : normZ 3 (-1) = ⟨false, [51], -1⟩ := by
    unfold normZ normN
    rw [show (3 : Int).natAbs = 3 from rfl, if_neg (by omega), digs3]; decide +kernel
  rw [e2, toldP_sane (by decide +kernel)]
theorem aw5 : printP ⟨true, [49, 53], 1⟩ = [45, 49, 53, 48] := by decide +kernel
theorem aw6 : printP ⟨false, [51], -1⟩ = [48, 46, 51] := by decide +kernel
set_option maxHeartbeats 3200000 in
theorem dawake (w : World) (hT : Tab w) : Calls Tryd.prog 10 #[] w fun e w' => e = .returned (.bool true) ∧ Ext w w' := by
  go_enter Tryd.func10, Tryd.ntmps10
  go_wp2_with fail
  refine (parse_any [45, 49, 46, 53, 48, 101, 50] _ (by decide)).mono ?_
  rintro e w1 ⟨rfl, hw1⟩
  rw [aw1]
  simp only
  have hm1 := NumAt.new w1 ⟨true, [49, 53], 1⟩
  have hx1 : Ext w1 (w1.alloc (.cells #[.bool true, .string ⟨#[49, 53]⟩, .int .i64 1] 25)) := (ext_refl w1).alloc (Nat.le_refl _) _
  simp only at hm1
  go_wp2_with fail
  generalize hg1 : w1.heap.size = p1 at *
  generalize w1.alloc (.cells #[.bool true, .string ⟨#[49, 53]⟩, .int .i64 1] 25) = w2 at *
  have hE2 := ext_trans hw1 hx1
  clear hw1 hx1 hg1
  refine (parse_any [48, 46, 49] _ (by decide)).mono ?_
  rintro e w3 ⟨rfl, hw3⟩
  rw [aw2]
  simp only
  have hm1 := hm1.ext hw3
  have hE3 := ext_trans hE2 hw3
  have hm2 := NumAt.new w3 ⟨false, [49], -1⟩
  have hx2 : Ext w3 (w3.alloc (.cells #[.bool false, .string ⟨#[49]⟩, .int .i64 (-1)] 25)) := (ext_refl w3).alloc (Nat.le_refl _) _
  simp only at hm2
  clear hw3 hE2
  go_wp2_with fail
  generalize hg2 : w3.heap.size = p2 at *
  generalize w3.alloc (.cells #[.bool false, .string ⟨#[49]⟩, .int .i64 (-1)] 25) = w4 at *
  have hm1 := hm1.ext hx2
  have hE4 := ext_trans hE3 hx2
  clear hE3 hx2 hg2
  refine (parse_any [48, 46, 50] _ (by decide)).mono ?_
  rintro e w5 ⟨rfl, hw5⟩
  rw [aw3]
  simp only
  have hm1 := hm1.ext hw5
  have hm2 := hm2.ext hw5
  have hE5 := ext_trans hE4 hw5
  have hm3 := NumAt.new w5 ⟨false, [50], -1⟩
  have hx3 : Ext w5 (w5.alloc (.cells #[.bool false, .string ⟨#[50]⟩, .int .i64 (-1)] 25)) := (ext_refl w5).alloc (Nat.le_refl _) _
  have hl2 : p2 < w5.heap.size := hm2.cells.2.2.2.2.2.2
  obtain ⟨d0, d1, d2, g0, g1, g2, _⟩ := hm2.cells
  simp only at hm3 d0 d1 d2
  clear hw5 hE4
  go_wp2_with fail
  generalize hg3 : w5.heap.size = p3 at *
  generalize w5.alloc (.cells #[.bool false, .string ⟨#[50]⟩, .int .i64 (-1)] 25) = w6 at *
  have hm1 := hm1.ext hx3
  have hE6 := ext_trans hE5 hx3
  clear hE5 hx3 hg3 d0 d1 d2 g0 g1 g2 hm2 hm3 hl2
  refine (add_any ⟨false, [49], -1⟩ ⟨false, [50], -1⟩ _ (by decide) (by decide)).mono ?_
  rintro e w7 ⟨rfl, hw7⟩
  rw [aw4]
  simp only
  have hm1 := hm1.ext hw7
  have hE7 := ext_trans hE6 hw7
  have hm4 := NumAt.new w7 ⟨false, [51], -1⟩
  have hx4 : Ext w7 (w7.alloc (.cells #[.bool false, .string ⟨#[51]⟩, .int .i64 (-1)] 25)) := (ext_refl w7).alloc (Nat.le_refl _) _
  have hl1 : p1 < w7.heap.size := hm1.cells.2.2.2.2.2.2
  obtain ⟨c0, c1, c2, f0, f1, f2, _⟩ := hm1.cells
  simp only at hm4 c0 c1 c2
  clear hw7 hE6
  go_wp2_with fail
  have hE8 := ext_trans hE7 hx4
  generalize hg4 : w7.heap.size = p4 at *
  generalize w7.alloc (.cells #[.bool false, .string ⟨#[51]⟩, .int .i64 (-1)] 25) = w8 at *
  clear hE7 hx4 c0 c1 c2 f0 f1 f2 hg4
  refine (print_any ⟨true, [49, 53], 1⟩ _ (hT.ext hE8) (by decide)).mono ?_
  rintro e w9 ⟨rfl, hw9⟩
  rw [aw5]
  have hE9 := ext_trans hE8 hw9
  obtain ⟨d0, d1, d2, g0, g1, g2, _⟩ := (hm4.ext hw9).cells
  simp only at d0 d1 d2
  go_wp2_with fail
  refine (print_any ⟨false, [51], -1⟩ _ (hT.ext hE9) (by decide)).mono ?_
  rintro e w10 ⟨rfl, hw10⟩
  rw [aw6]
  go_wp2_with fail
  go_ret
  exact ⟨rfl, ext_trans hE9 hw10⟩
end Go.Proofs.YtpheohgceepboaaDoor
