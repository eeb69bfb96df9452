/- dec: what written and Print do. -/
import Derived.Test.YtpheohgceepboaaDoorDecL
import Derived.Test.YtpheohgceepboaaDoorGrowT
import Derived.Deep.DeepCutAuto
set_option linter.unusedVariables false
set_option linter.unusedSimpArgs false
set_option maxRecDepth 100000
namespace Go.Proofs.YtpheohgceepboaaDoor
open Go.RowKit Go.Mem Orange

-- reads of a region that lies over one number's block
-- the frame of such a region: $1: the world ahead, $2: the block, $3: the number, $4: I, $5: its NumAt
set_option maxHeartbeats 6400000 in
theorem written_any (d : Num) (w : World) (hT : Tab w) (h : sane d = true) (h0 : d.digits ≠ []) :
    Calls Tryd.prog 28 #[.agg #[.bool d.neg, .string ⟨d.digits.toArray⟩, .int .i64 d.exp]] w fun e w' => e = .returned (.string ⟨(writtenP d).toArray⟩) ∧ Ext w w' := by
  rcases sane_parts h with e | ⟨_, ha, hl, hh1, hh2, hx1, hx2, hh, hg⟩
  · subst e; exact absurd rfl h0
  obtain ⟨neg, l, x⟩ := d
  simp only at *
  have hl1 : 1 ≤ l.length := by cases l with | nil => exact absurd rfl h0 | cons c t => simp
  have hm1 := NumAt.new w ⟨neg, l, x⟩
  have hE1 : Ext w (w.alloc (.cells #[.bool neg, .string ⟨l.toArray⟩, .int .i64 x] 25)) := (ext_refl w).alloc (Nat.le_refl _) _
  simp only at hm1
  have hhd : height ⟨neg, l, x⟩ = (l.length : Int) + x := rfl
  have hW : writtenP ⟨neg, l, x⟩ = writtenP ⟨neg, l, x⟩ := rfl
  conv at hW => rhs; unfold writtenP
  simp only at hW
  obtain ⟨H, hH⟩ : ∃ H, height ⟨neg, l, x⟩ = H := ⟨_, rfl⟩
  rw [hH] at hh1 hh2 hhd hW
  have HW := Lib.hid hW
  have HH := Lib.hid hH
  have HX := Lib.hid hhd
  clear hW hH hh hg ha h h0 hhd
  go_enter Tryd.func28, Tryd.ntmps28
  go_upto_region 1 with fail
  generalize w.alloc (.cells #[.bool neg, .string ⟨l.toArray⟩, .int .i64 x] 25) = w1 at *
  have HM := Lib.hid hm1
  clear hm1
  refine Grow.wp_region_lit (G := Ext) (B := fun w' => Ext w1 w' ∧ NumAt w' w.heap.size ⟨neg, l, x⟩) (anc := fun _ => []) (I := fun j => if j = 4 then some (Grow.Spec.val Ext (.int .i64 H)) else none) (by kernel_rfl) (by kernel_rfl) (by kernel_rfl) ?_ ?_ ?_
  · exact fun w w' h hg => ⟨ext_trans h.1 hg, h.2.ext hg⟩
  · exact ⟨(ext_refl _).drew, (HM.out).ext (ext_refl _).drew⟩
  repeat
    (refine Grow.walk_step (fun K hK => ?_)
     first
     | (refine Grow.step_read (by rfl) (by rfl) ext_refl ?_
        apply Exists.intro
        refine ⟨fun w hB hF => ?_, ?_⟩
        · obtain ⟨hB1, hB2⟩ := hB; obtain ⟨c0, c1, c2, f0, f1, f2, hp⟩ := hB2.cells; simp only at c0 c1 c2
          go_simp
          try exact rfl
        go_simp
        refine hK _ _ ?_
        clear hK K)
     | (refine Grow.step_off (by rfl) ?_
        go_simp
        refine hK _ _ ?_
        clear hK K))
  refine Grow.walk_step (fun K hK => ?_)
  refine Grow.step_rel (by rfl) (by rfl) (fun w' hB hF => ?_) (fun v hv => ?_)
  · obtain ⟨hB1, hB2⟩ := hB
    go_simp
    refine Grow.relUpon_enter ((height_any ⟨neg, l, x⟩ w' (by simp only; omega) (by simp only; omega)).mono ?_)
    rintro e w'' ⟨rfl, hw''⟩
    exact ⟨_, rfl, hw'', (by rw [HH.out]; rfl), trivial⟩
  obtain rfl : v = _ := hv
  go_simp
  refine hK _ _ ?_
  clear hK K
  repeat
    (refine Grow.walk_step (fun K hK => ?_)
     first
     | (refine Grow.step_read (by rfl) (by rfl) ext_refl ?_
        apply Exists.intro
        refine ⟨fun w hB hF => ?_, ?_⟩
        · obtain ⟨hB1, hB2⟩ := hB; obtain ⟨c0, c1, c2, f0, f1, f2, hp⟩ := hB2.cells; simp only at c0 c1 c2
          go_simp
          try exact rfl
        go_simp
        refine hK _ _ ?_
        clear hK K)
     | (refine Grow.step_off (by rfl) ?_
        go_simp
        refine hK _ _ ?_
        clear hK K))
  refine Grow.walk_nil ?_
  intro w2 hB hF
  clear hF
  obtain ⟨hB1, hB2⟩ := hB
  have hE2 := ext_trans hE1 hB1
  have HM2 := Lib.hid hB2
  clear hB1 hB2 HM hE1 HH
  obtain ⟨c0, c1, c2, f0, f1, f2, hp⟩ := HM2.out.cells
  simp only at c0 c1 c2
  by_cases k1 : (l.length : Int) ≤ H ∧ H ≤ 21
  · obtain ⟨k, hk⟩ : ∃ k : Nat, H - l.length = k := ⟨(H - l.length).toNat, by omega⟩
    have HF : Hid (writtenP ⟨neg, l, x⟩ = l ++ zeros k) := Lib.hid (by rw [HW.out, if_pos k1, hk]; rfl)
    have happ := sx_app l (zeros k)
    have hs1 : ¬ 9223372036854775807 < l.length + (zeros k).length := by rw [zeros_len]; omega
    obtain ⟨k1, k2⟩ := k1
    have hkb : k ≤ 40 := by omega
    have hwk : IntKind.i64.wrap (k : Int) = k := IntWalk.i64_in _ (by omega)
    clear HW HX
    go_wp2_with fail
    refine Grow.wp_region_lit (G := Ext) (B := fun w' => Ext w2 w' ∧ NumAt w' w.heap.size ⟨neg, l, x⟩) (anc := fun _ => []) (I := fun j => if j = 5 then some (Grow.Spec.val Ext (.string ⟨(zeros k).toArray⟩)) else none) (by kernel_rfl) (by kernel_rfl) (by kernel_rfl) ?_ ?_ ?_
    · exact fun w w' h hg => ⟨ext_trans h.1 hg, h.2.ext hg⟩
    · exact ⟨(ext_refl _).drew, (HM2.out).ext (ext_refl _).drew⟩
    repeat
      (refine Grow.walk_step (fun K hK => ?_)
       first
       | (refine Grow.step_read (by rfl) (by rfl) ext_refl ?_
          apply Exists.intro
          refine ⟨fun w hB hF => ?_, ?_⟩
          · obtain ⟨hB1, hB2⟩ := hB; obtain ⟨c0, c1, c2, f0, f1, f2, hp⟩ := hB2.cells; simp only at c0 c1 c2
            go_simp
            try exact rfl
          go_simp
          refine hK _ _ ?_
          clear hK K)
       | (refine Grow.step_off (by rfl) ?_
          go_simp
          refine hK _ _ ?_
          clear hK K))
    refine Grow.walk_step (fun K hK => ?_)
    refine Grow.step_rel (by rfl) (by rfl) (fun w' hB hF => ?_) (fun v hv => ?_)
    · obtain ⟨hB1, hB2⟩ := hB
      go_simp
      refine Grow.relUpon_enter ((repeat_any k hkb w').mono ?_)
      rintro e w'' ⟨rfl, hw''⟩
      exact ⟨_, rfl, hw'', rfl, trivial⟩
    obtain rfl : v = _ := hv
    go_simp
    refine hK _ _ ?_
    clear hK K
    repeat
      (refine Grow.walk_step (fun K hK => ?_)
       first
       | (refine Grow.step_read (by rfl) (by rfl) ext_refl ?_
          apply Exists.intro
          refine ⟨fun w hB hF => ?_, ?_⟩
          · obtain ⟨hB1, hB2⟩ := hB; obtain ⟨c0, c1, c2, f0, f1, f2, hp⟩ := hB2.cells; simp only at c0 c1 c2
            go_simp
            try exact rfl
          go_simp
          refine hK _ _ ?_
          clear hK K)
       | (refine Grow.step_off (by rfl) ?_
          go_simp
          refine hK _ _ ?_
          clear hK K))
    refine Grow.walk_nil ?_
    intro w3 hB hF
    clear hF
    go_wp2_with fail
    go_ret
    exact ⟨ret_str HF.out.symm, ext_trans hE2 hB.1⟩
  · have HW2 := Lib.hid (HW.out.trans (if_neg k1))
    by_cases k2 : 1 ≤ H ∧ H ≤ 21
    · have k3 : H < l.length := by omega
      obtain ⟨k, rfl⟩ : ∃ k : Nat, H = k := ⟨H.toNat, by omega⟩
      have HF : Hid (writtenP ⟨neg, l, x⟩ = l.take k ++ 46 :: l.drop k) := Lib.hid (by rw [HW2.out, if_pos k2]; rfl)
      have k4 : ¬ (l.length : Int) ≤ k := by omega
      obtain ⟨k2, k5⟩ := k2
      have hx1 := sx_take l k
      have hx2 := sx_drop l k l.length (Nat.le_refl _)
      have ha1 : (ByteArray.mk (l.take k).toArray) ++ ⟨#[46]⟩ = ⟨(l.take k ++ [46]).toArray⟩ := sx_app (l.take k) [46]
      have ha2 := sx_app (l.take k ++ [46]) (l.drop k)
      have HF2 : Hid (l.take k ++ [46] ++ l.drop k = writtenP ⟨neg, l, x⟩) := Lib.hid (by rw [HF.out]; simp)
      have b1 : (0 : Int) ≤ k := by omega
      have b2 : (k : Int) ≤ l.length := by omega
      have b3 : k ≤ l.length := by omega
      have hs1 : ¬ 9223372036854775807 < (l.take k).length + 1 := by simp; omega
      have hs2 : ¬ 9223372036854775807 < (l.take k ++ [46]).length + (l.drop k).length := by simp; omega
      generalize l.take k ++ [46] = A at *
      generalize l.take k = A1 at *
      generalize l.drop k = A2 at *
      clear HW HW2 HX k1 HF
      go_wp2_with fail
      go_quiet (fail)
      go_wp2_with fail
      go_ret
      exact ⟨ret_str HF2.out, below_drewN hE2 _⟩
    · have HW3 := Lib.hid (HW2.out.trans (if_neg k2))
      by_cases k3 : -5 ≤ H ∧ H < 1
      · obtain ⟨k, hk⟩ : ∃ k : Nat, -H = k := ⟨(-H).toNat, by omega⟩
        have HF : Hid (writtenP ⟨neg, l, x⟩ = [48, 46] ++ (zeros k) ++ l) := Lib.hid (by rw [HW3.out, if_pos k3, hk]; simp)
        have ha1 : (ByteArray.mk #[48, 46]) ++ ⟨(zeros k).toArray⟩ = ⟨([48, 46] ++ zeros k).toArray⟩ := sx_app [48, 46] (zeros k)
        have ha2 := sx_app ([48, 46] ++ zeros k) l
        obtain ⟨k4, k5⟩ := k3
        have k6 : ¬ (l.length : Int) ≤ H := by omega
        have k7 : ¬ 1 ≤ H := by omega
        have hkb : k ≤ 40 := by omega
        have hwk : IntKind.i64.wrap (k : Int) = k := IntWalk.i64_in _ (by omega)
        have hs1 : ¬ 9223372036854775807 < 2 + (zeros k).length := by rw [zeros_len]; omega
        have hs2 : ¬ 9223372036854775807 < ([48, 46] ++ zeros k).length + l.length := by rw [List.length_append, zeros_len]; simp; omega
        generalize [48, 46] ++ zeros k = Z at *
        clear HW HW2 HW3 HX k1 k2
        go_wp2_with fail
        refine Grow.wp_region_lit (G := Ext) (B := fun w' => Ext w2 w' ∧ NumAt w' w.heap.size ⟨neg, l, x⟩) (anc := fun _ => []) (I := fun j => if j = 2 then some (Grow.Spec.val Ext (.string ⟨(zeros k).toArray⟩)) else none) (by kernel_rfl) (by kernel_rfl) (by kernel_rfl) ?_ ?_ ?_
        · exact fun w w' h hg => ⟨ext_trans h.1 hg, h.2.ext hg⟩
        · exact ⟨(ext_refl _).drew, (HM2.out).ext (ext_refl _).drew⟩
        repeat
          (refine Grow.walk_step (fun K hK => ?_)
           first
           | (refine Grow.step_read (by rfl) (by rfl) ext_refl ?_
              apply Exists.intro
              refine ⟨fun w hB hF => ?_, ?_⟩
              · obtain ⟨hB1, hB2⟩ := hB; obtain ⟨c0, c1, c2, f0, f1, f2, hp⟩ := hB2.cells; simp only at c0 c1 c2
                go_simp
                try exact rfl
              go_simp
              refine hK _ _ ?_
              clear hK K)
           | (refine Grow.step_off (by rfl) ?_
              go_simp
              refine hK _ _ ?_
              clear hK K))
        refine Grow.walk_step (fun K hK => ?_)
        refine Grow.step_rel (by rfl) (by rfl) (fun w' hB hF => ?_) (fun v hv => ?_)
        · obtain ⟨hB1, hB2⟩ := hB
          go_simp
          refine Grow.relUpon_enter ((repeat_any k hkb w').mono ?_)
          rintro e w'' ⟨rfl, hw''⟩
          exact ⟨_, rfl, hw'', rfl, trivial⟩
        obtain rfl : v = _ := hv
        go_simp
        refine hK _ _ ?_
        clear hK K
        repeat
          (refine Grow.walk_step (fun K hK => ?_)
           first
           | (refine Grow.step_read (by rfl) (by rfl) ext_refl ?_
              apply Exists.intro
              refine ⟨fun w hB hF => ?_, ?_⟩
              · obtain ⟨hB1, hB2⟩ := hB; obtain ⟨c0, c1, c2, f0, f1, f2, hp⟩ := hB2.cells; simp only at c0 c1 c2
                go_simp
                try exact rfl
              go_simp
              refine hK _ _ ?_
              clear hK K)
           | (refine Grow.step_off (by rfl) ?_
              go_simp
              refine hK _ _ ?_
              clear hK K))
        refine Grow.walk_nil ?_
        intro w3 hB hF
        clear hF
        go_wp2_with fail
        go_ret
        exact ⟨ret_str HF.out.symm, ext_trans hE2 hB.1⟩
      · have HW4 := Lib.hid (HW3.out.trans (if_neg k3))
        have hx1 := sx_take l 1
        have hx2 := sx_drop l 1 l.length (Nat.le_refl _)
        have hl2 : (1 : Int) ≤ l.length := by omega
        obtain ⟨S1, hS1⟩ : ∃ S, l.take 1 ++ (if 1 < l.length then 46 :: l.drop 1 else []) = S := ⟨_, rfl⟩
        obtain ⟨S2, hS2⟩ : ∃ S : List UInt8, (if 0 < H then [101, 43] else [101]) = S := ⟨_, rfl⟩
        have HF : Hid (writtenP ⟨neg, l, x⟩ = S1 ++ S2 ++ itoaP (H - 1)) := Lib.hid (by rw [HW4.out, ← hS1, ← hS2]; simp)
        have HS1 := Lib.hid hS1
        have HS2 := Lib.hid hS2
        have hS1l : S1.length ≤ 42 := by rw [← hS1]; split <;> simp <;> omega
        have hS2l : S2.length ≤ 2 := by rw [← hS2]; split <;> simp
        have K1 := Lib.hid k1
        have K2 := Lib.hid k2
        have K3 := Lib.hid k3
        have g1 : decide ((l.length : Int) ≤ H) = true ∧ decide (H ≤ 21) = false ∨ decide ((l.length : Int) ≤ H) = false := by
          by_cases q : (l.length : Int) ≤ H
          · left; simp [q]; omega
          · right; simp; omega
        have g2 : decide (1 ≤ H) = true ∧ decide (H ≤ 21) = false ∨ decide (1 ≤ H) = false := by
          by_cases q : 1 ≤ H
          · left; simp [q]; omega
          · right; simp; omega
        clear hS1 hS2 HW HW2 HW3 HW4 k1 k2 k3
        have g3 : decide (-5 ≤ H) = true ∧ decide (H < 1) = false ∨ decide (-5 ≤ H) = false := by
          have := K3.out
          by_cases q : -5 ≤ H
          · left; simp [q]; omega
          · right; simp; omega
        go_upto_region 2 with fail
        go_cut [12] (fun s wx => s = .bool false ∧ w2 = wx)
        case first =>
          rcases g1 with ⟨q1, q2⟩ | q1
          all_goals
            go_wp2_with fail
            go_meet
            exact ⟨rfl, rfl⟩
        case rest =>
          obtain ⟨rfl, rfl⟩ := hcut
          go_upto_region 4 with fail
          go_cut [27] (fun s wx => s = .bool false ∧ w2 = wx)
          case first =>
            rcases g2 with ⟨q1, q2⟩ | q1
            all_goals
              go_wp2_with fail
              go_meet
              exact ⟨rfl, rfl⟩
          case rest =>
            obtain ⟨rfl, rfl⟩ := hcut
            go_upto_region 6 with fail
            go_cut [44] (fun s wx => s = .bool false ∧ w2 = wx)
            case first =>
              rcases g3 with ⟨q1, q2⟩ | q1
              all_goals
                go_wp2_with fail
                go_meet
                exact ⟨rfl, rfl⟩
            case rest =>
              obtain ⟨rfl, rfl⟩ := hcut
              clear g1 g2 g3
              go_upto_if 62 with fail
              go_cut [5] (fun s wx => s = .string ⟨S1.toArray⟩ ∧ w2 = wx)
              case first =>
                by_cases hn : 1 < l.length
                · have hd : (1 : Int) < l.length := by omega
                  have HS : Hid (l.take 1 ++ 46 :: l.drop 1 = S1) := Lib.hid (by rw [← HS1.out, if_pos hn])
                  have ha1 : (ByteArray.mk #[46]) ++ ⟨(l.drop 1).toArray⟩ = ⟨(46 :: l.drop 1).toArray⟩ := sx_app [46] (l.drop 1)
                  have ha2 := sx_app (l.take 1) (46 :: l.drop 1)
                  rw [HS.out] at ha2
                  have hs1 : ¬ 9223372036854775807 < 1 + (l.drop 1).length := by simp; omega
                  have hs2 : ¬ 9223372036854775807 < (l.take 1).length + (46 :: l.drop 1).length := by simp; omega
                  clear hn
                  generalize 46 :: l.drop 1 = A1 at *
                  generalize l.take 1 = A2 at *
                  generalize l.drop 1 = A3 at *
                  go_wp2_with fail
                  go_meet
                  exact ⟨rfl, rfl⟩
                · have hd : ¬ (1 : Int) < l.length := by omega
                  have HS : Hid (l.take 1 = S1) := Lib.hid (by rw [← HS1.out, if_neg hn]; simp)
                  clear hn
                  go_wp2_with fail
                  go_meet
                  exact ⟨by rw [HS.out], rfl⟩
              case rest =>
                obtain ⟨rfl, rfl⟩ := hcut
                clear hx1 hx2
                go_upto_if 70 with fail
                go_cut [6] (fun s wx => s = .string ⟨S2.toArray⟩ ∧ w2 = wx)
                case first =>
                  by_cases hn : 0 < H
                  · have HS : Hid ([101, 43] = S2) := Lib.hid (by rw [← HS2.out, if_pos hn])
                    go_wp2_with fail
                    go_meet
                    exact ⟨by rw [← HS.out], rfl⟩
                  · have HS : Hid ([101] = S2) := Lib.hid (by rw [← HS2.out, if_neg hn])
                    go_wp2_with fail
                    go_meet
                    exact ⟨by rw [← HS.out], rfl⟩
                case rest =>
                  obtain ⟨rfl, rfl⟩ := hcut
                  have ha1 := sx_app S1 S2
                  have ha2 := sx_app (S1 ++ S2) (itoaP (H - 1))
                  have hil : (itoaP (H - 1)).length ≤ 10 := by
                    have hl1 := decD_len 4 (H - 1).toNat (by omega) (by omega)
                    have hl2 := decD_len 4 (H - 1).natAbs (by omega) (by omega)
                    unfold itoaP; split
                    · rw [List.length_cons]; omega
                    · omega
                  go_wp2_with fail
                  refine (itoa_any (H - 1) _ (hT.ext hE2) (by omega) (by omega)).mono ?_
                  rintro e w3 ⟨rfl, hw3⟩
                  have hs1 : ¬ 9223372036854775807 < (S1 ++ S2).length + (itoaP (H - 1)).length := by rw [List.length_append]; omega
                  generalize itoaP (H - 1) = I at *
                  generalize hAB : S1 ++ S2 = AB at *
                  have HAB := Lib.hid hAB
                  clear hAB
                  go_wp2_with fail
                  go_ret
                  exact ⟨ret_str HF.out.symm, ext_trans hE2 hw3⟩
theorem print_any (d : Num) (w : World) (hT : Tab w) (hl : d.digits.length ≤ 140737488355328) :
    Calls Tryd.prog 13 #[.agg #[.bool d.neg, .string ⟨d.digits.toArray⟩, .int .i64 d.exp]] w fun e w' => e = .returned (.string ⟨(printP d).toArray⟩) ∧ Ext w w' := by
  have hm1 := NumAt.new w d
  have hE1 : Ext w (w.alloc (.cells #[.bool d.neg, .string ⟨d.digits.toArray⟩, .int .i64 d.exp] 25)) := (ext_refl w).alloc (Nat.le_refl _) _
  go_enter Tryd.func13, Tryd.ntmps13
  go_wp2_with fail
  generalize w.alloc (.cells #[.bool d.neg, .string ⟨d.digits.toArray⟩, .int .i64 d.exp] 25) = w1 at *
  refine (sane_any d _ hl).mono ?_
  rintro e w2 ⟨rfl, hw2⟩
  have hE2 := ext_trans hE1 hw2
  have HM2 := Lib.hid (hm1.ext hw2)
  obtain ⟨c0, c1, c2, f0, f1, f2, hp⟩ := HM2.out.cells
  have hP : printP d = if sane d = true then (if d.digits = [] then [48] else if d.neg then 45 :: writtenP d else writtenP d) else [] := rfl
  have HP := Lib.hid hP
  clear hP hm1 hw2 hE1
  cases hs : sane d with
  | false =>
    have HF : Hid (printP d = []) := Lib.hid (by rw [HP.out, if_neg (by rw [hs]; decide)])
    go_wp2_with fail
    go_ret
    exact ⟨ret_str HF.out.symm, hE2⟩
  | true =>
    have HP2 := Lib.hid (HP.out.trans (if_pos hs))
    clear HP
    by_cases h0 : d.digits = []
    · have HF : Hid (printP d = [48]) := Lib.hid (by rw [HP2.out, if_pos h0])
      rw [h0] at c1
      go_wp2_with fail
      go_ret
      exact ⟨ret_str HF.out.symm, hE2⟩
    · have HP3 := Lib.hid (HP2.out.trans (if_neg h0))
      have H0 := Lib.hid h0
      have HS := Lib.hid hs
      have hem : d.digits.isEmpty = false := by simpa using h0
      have HWL := (written_back hs h0).2.1
      clear HP2 h0 hs
      cases hn : d.neg with
      | true =>
        rw [hn] at c0
        have HF : Hid (printP d = 45 :: writtenP d) := Lib.hid (by rw [HP3.out, hn]; rfl)
        go_wp2_with fail
        have hw := written_any d w2 (hT.ext hE2) HS.out H0.out
        rw [hn] at hw
        refine hw.mono ?_
        rintro e w3 ⟨rfl, hw3⟩
        have ha1 : (ByteArray.mk #[45]) ++ ⟨(writtenP d).toArray⟩ = ⟨(45 :: writtenP d).toArray⟩ := sx_app [45] (writtenP d)
        have hs1 : ¬ 9223372036854775807 < 1 + (writtenP d).length := by omega
        generalize writtenP d = W at *
        generalize hZ : 45 :: W = Z at *
        have HZ := Lib.hid hZ
        clear hZ
        go_wp2_with fail
        go_ret
        exact ⟨ret_str HF.out.symm, ext_trans hE2 hw3⟩
      | false =>
        rw [hn] at c0
        have HF : Hid (printP d = writtenP d) := Lib.hid (by rw [HP3.out, hn]; rfl)
        go_wp2_with fail
        have hw := written_any d w2 (hT.ext hE2) HS.out H0.out
        rw [hn] at hw
        refine hw.mono ?_
        rintro e w3 ⟨rfl, hw3⟩
        go_wp2_with fail
        go_ret
        exact ⟨ret_str HF.out.symm, ext_trans hE2 hw3⟩
end Go.Proofs.YtpheohgceepboaaDoor
