/- dec: what Compare and Neg do. -/
import Derived.Test.YtpheohgceepboaaDoorDecE
set_option linter.unusedVariables false
set_option linter.unusedSimpArgs false
set_option maxRecDepth 100000
namespace Go.Proofs.YtpheohgceepboaaDoor
open Go.RowKit Go.Mem Orange

-- two numbers boxed: HA HB : Hid NumAt at w2, hE : Ext w w2; w2 by name
set_option maxHeartbeats 3200000 in
theorem compare_any (a b : Num) (w : World) (hal : a.digits.length ≤ 140737488355328) (hbl : b.digits.length ≤ 140737488355328) :
    Calls Tryd.prog 16 #[.agg #[.bool a.neg, .string ⟨a.digits.toArray⟩, .int .i64 a.exp], .agg #[.bool b.neg, .string ⟨b.digits.toArray⟩, .int .i64 b.exp]] w fun e w' => e = .returned (.int .i64 (cmpP a b)) ∧ Ext w w' := by
  have HC : Hid (sane a = true → sane b = true → cmpP a b = if a.neg then (if b.neg then sizeP b a else -1) else (if b.neg then 1 else sizeP a b)) := Lib.hid cmpP_size
  have HN : Hid (¬ (sane a = true ∧ sane b = true) → cmpP a b = 0) := Lib.hid (fun h => by unfold cmpP; rw [if_neg h])
  obtain ⟨an, al, ax⟩ := a
  obtain ⟨bn, bl, bx⟩ := b
  simp only at hal hbl HC
  have hm1 := NumAt.new w ⟨an, al, ax⟩
  have hE1 : Ext w (w.alloc (.cells #[.bool an, .string ⟨al.toArray⟩, .int .i64 ax] 25)) := (ext_refl w).alloc (Nat.le_refl _) _
  have hs1 : (w.alloc (.cells #[.bool an, .string ⟨al.toArray⟩, .int .i64 ax] 25)).heap.size = w.heap.size + 1 := by simp
  have hm2 := NumAt.new (w.alloc (.cells #[.bool an, .string ⟨al.toArray⟩, .int .i64 ax] 25)) ⟨bn, bl, bx⟩
  have hE2 : Ext (w.alloc (.cells #[.bool an, .string ⟨al.toArray⟩, .int .i64 ax] 25)) ((w.alloc (.cells #[.bool an, .string ⟨al.toArray⟩, .int .i64 ax] 25)).alloc (.cells #[.bool bn, .string ⟨bl.toArray⟩, .int .i64 bx] 25)) := (ext_refl _).alloc (Nat.le_refl _) _
  rw [hs1] at hm2
  have hm1' := hm1.ext hE2
  have hE := ext_trans hE1 hE2
  simp only at hm1' hm2
  clear hm1 hE1 hE2 hs1
  go_enter Tryd.func16, Tryd.ntmps16
  go_wp2_with fail
  generalize (w.alloc (.cells #[.bool an, .string ⟨al.toArray⟩, .int .i64 ax] 25)).alloc (.cells #[.bool bn, .string ⟨bl.toArray⟩, .int .i64 bx] 25) = w2 at *
  refine (sane_any ⟨an, al, ax⟩ _ hal).mono ?_
  rintro e w3 ⟨rfl, hw3⟩
  have hE3 := ext_trans hE hw3
  have HA := Lib.hid (hm1'.ext hw3)
  have HB := Lib.hid (hm2.ext hw3)
  clear hm1' hm2 hE hw3
  obtain ⟨c0, c1, c2, f0, f1, f2, hp⟩ := (HA.out).cells
  obtain ⟨d0, d1, d2, g0, g1, g2, hq⟩ := (HB.out).cells
  simp only at c0 c1 c2 d0 d1 d2
  cases hsa : sane ⟨an, al, ax⟩ with
  | false =>
    have HF := Lib.hid (HN.out (fun h => by rw [hsa] at h; cases h.1))
    clear hsa
    go_wp2_with fail
    go_ret
    exact ⟨ret_int HF.out.symm, hE3⟩
  | true =>
    have HSA := Lib.hid hsa
    clear hsa
    go_wp2_with fail
    refine (sane_any ⟨bn, bl, bx⟩ _ hbl).mono ?_
    rintro e w4 ⟨rfl, hw4⟩
    have hE4 := ext_trans hE3 hw4
    have HA4 := Lib.hid (HA.out.ext hw4)
    have HB4 := Lib.hid (HB.out.ext hw4)
    clear HA HB hw4 hE3 c0 c1 c2 f0 f1 f2 hp d0 d1 d2 g0 g1 g2 hq
    obtain ⟨c0, c1, c2, f0, f1, f2, hp⟩ := (HA4.out).cells
    obtain ⟨d0, d1, d2, g0, g1, g2, hq⟩ := (HB4.out).cells
    simp only at c0 c1 c2 d0 d1 d2
    cases hsb : sane ⟨bn, bl, bx⟩ with
    | false =>
      have HF := Lib.hid (HN.out (fun h => by rw [hsb] at h; cases h.2))
      clear hsb
      go_wp2_with fail
      go_ret
      exact ⟨ret_int HF.out.symm, hE4⟩
    | true =>
      have HSB := Lib.hid hsb
      have HC2 := Lib.hid (HC.out HSA.out hsb)
      clear hsb HC HN
      have hz1 := sizeP_bd HSA.out HSB.out
      have hz2 := sizeP_bd HSB.out HSA.out
      cases an with
      | true =>
        cases bn with
        | true =>
          have HF : Hid (cmpP ⟨true, al, ax⟩ ⟨true, bl, bx⟩ = sizeP ⟨true, bl, bx⟩ ⟨true, al, ax⟩) := Lib.hid HC2.out
          go_wp2_with fail
          refine (size_any ⟨true, bl, bx⟩ ⟨true, al, ax⟩ _ HSB.out HSA.out).mono ?_
          rintro e w5 ⟨rfl, hw5⟩
          obtain ⟨hz3, hz4⟩ := hz2
          generalize sizeP ⟨true, bl, bx⟩ ⟨true, al, ax⟩ = z at *
          have m1 : max (-1) z = z := by omega
          have m2 : min 1 z = z := by omega
          go_wp2_with fail
          go_ret
          exact ⟨ret_int (by rw [HF.out]; try simp; try omega), ext_trans hE4 hw5⟩
        | false =>
          have HF : Hid (cmpP ⟨true, al, ax⟩ ⟨false, bl, bx⟩ = -1) := Lib.hid HC2.out
          go_wp2_with fail
          go_ret
          exact ⟨ret_int HF.out.symm, hE4⟩
      | false =>
        cases bn with
        | true =>
          have HF : Hid (cmpP ⟨false, al, ax⟩ ⟨true, bl, bx⟩ = 1) := Lib.hid HC2.out
          go_wp2_with fail
          go_ret
          exact ⟨ret_int HF.out.symm, hE4⟩
        | false =>
          have HF : Hid (cmpP ⟨false, al, ax⟩ ⟨false, bl, bx⟩ = sizeP ⟨false, al, ax⟩ ⟨false, bl, bx⟩) := Lib.hid HC2.out
          go_wp2_with fail
          refine (size_any ⟨false, al, ax⟩ ⟨false, bl, bx⟩ _ HSA.out HSB.out).mono ?_
          rintro e w5 ⟨rfl, hw5⟩
          obtain ⟨hz3, hz4⟩ := hz1
          generalize sizeP ⟨false, al, ax⟩ ⟨false, bl, bx⟩ = z at *
          have m1 : max (-1) z = z := by omega
          have m2 : min 1 z = z := by omega
          go_wp2_with fail
          go_ret
          exact ⟨ret_int (by rw [HF.out]; try simp; try omega), ext_trans hE4 hw5⟩

set_option maxHeartbeats 3200000 in
theorem neg_any (d : Num) (w : World) (hal : d.digits.length ≤ 140737488355328) :
    Calls Tryd.prog 15 #[.agg #[.bool d.neg, .string ⟨d.digits.toArray⟩, .int .i64 d.exp]] w fun e w' => e = .returned (.agg #[.bool (negP d).neg, .string ⟨(negP d).digits.toArray⟩, .int .i64 (negP d).exp]) ∧ Ext w w' := by
  have hP : negP d = if sane d = true ∧ d.digits ≠ [] then { d with neg := !d.neg } else d := rfl
  obtain ⟨an, al, ax⟩ := d
  simp only at hal hP
  have HP := Lib.hid hP
  clear hP
  have hm1 := NumAt.new w ⟨an, al, ax⟩
  have hE1 : Ext w (w.alloc (.cells #[.bool an, .string ⟨al.toArray⟩, .int .i64 ax] 25)) := (ext_refl w).alloc (Nat.le_refl _) _
  have hs1 : (w.alloc (.cells #[.bool an, .string ⟨al.toArray⟩, .int .i64 ax] 25)).heap.size = w.heap.size + 1 := by simp
  have hm2 := NumAt.new (w.alloc (.cells #[.bool an, .string ⟨al.toArray⟩, .int .i64 ax] 25)) Num.zero
  have hE2 : Ext (w.alloc (.cells #[.bool an, .string ⟨al.toArray⟩, .int .i64 ax] 25)) ((w.alloc (.cells #[.bool an, .string ⟨al.toArray⟩, .int .i64 ax] 25)).alloc (.cells #[.bool false, .string ⟨#[]⟩, .int .i64 0] 25)) := (ext_refl _).alloc (Nat.le_refl _) _
  rw [hs1] at hm2
  have hm1' := hm1.ext hE2
  have hE := ext_trans hE1 hE2
  simp only [Num.zero] at hm2
  clear hm1 hE1 hE2 hs1
  go_enter Tryd.func15, Tryd.ntmps15
  go_upto_region 1 with fail
  generalize (w.alloc (.cells #[.bool an, .string ⟨al.toArray⟩, .int .i64 ax] 25)).alloc (.cells #[.bool false, .string ⟨#[]⟩, .int .i64 0] 25) = w2 at *
  have HA := Lib.hid hm1'
  have HR : Hid (NumAt w2 (w.heap.size + 1) Num.zero) := Lib.hid hm2
  clear hm1' hm2
  cases hs : sane ⟨an, al, ax⟩ with
  | false =>
    have HF2 : Hid (negP ⟨an, al, ax⟩ = ⟨an, al, ax⟩) := Lib.hid (by rw [HP.out, if_neg (fun h => by rw [hs] at h; cases h.1)])
    have HS := Lib.hid hs
    clear hs HP
    refine Grow.wp_region_tail (G := Ext) (B := fun w' => Ext w2 w') (anc := fun _ => []) (I := fun j => if j = 3 then some (Grow.Spec.val Ext (.bool false)) else none) 11 (by kernel_rfl) (by kernel_rfl) (by kernel_rfl) ?_ ?_ ?_
    · exact fun w w' h hg => ext_trans h hg
    · exact (ext_refl _).drew
    · simp only [List.take_succ_cons, List.take_zero, List.drop_succ_cons, List.drop_zero]
      repeat
        (refine Grow.walk_step (fun K hK => ?_)
         first
         | (refine Grow.step_read (by rfl) (by rfl) ext_refl ?_
            apply Exists.intro
            refine ⟨fun w hB hF => ?_, ?_⟩
            · obtain ⟨c0, c1, c2, f0, f1, f2, hp⟩ := (HA.out.ext hB).cells; simp only at c0 c1 c2
              go_simp
              try exact rfl
            go_simp
            refine hK _ _ ?_
            clear hK K)
         | (refine Grow.step_off (by rfl) ?_
            go_simp
            refine hK _ _ ?_
            clear hK K))
      refine Grow.walk_step (fun K hK => ?_)
      refine Grow.step_rel (by rfl) (by rfl) (fun w' hB hF => ?_) (fun v hv => ?_)
      · go_simp
        refine Grow.relUpon_enter ((sane_any ⟨an, al, ax⟩ w' hal).mono ?_)
        rintro e w'' ⟨rfl, hw''⟩
        exact ⟨_, rfl, hw'', by rw [HS.out]; rfl, trivial⟩
      obtain rfl : v = _ := hv
      go_simp
      refine hK _ _ ?_
      clear hK K
      repeat
        (refine Grow.walk_step (fun K hK => ?_)
         first
         | (refine Grow.step_read (by rfl) (by rfl) ext_refl ?_
            apply Exists.intro
            refine ⟨fun w hB hF => ?_, ?_⟩
            · obtain ⟨c0, c1, c2, f0, f1, f2, hp⟩ := (HA.out.ext hB).cells; simp only at c0 c1 c2
              go_simp
              try exact rfl
            go_simp
            refine hK _ _ ?_
            clear hK K)
         | (refine Grow.step_off (by rfl) ?_
            go_simp
            refine hK _ _ ?_
            clear hK K))
      refine Grow.walk_nil ?_
      intro w3 hB hF
      clear hF
      have hE3 := ext_trans hE hB
      have HA3 := Lib.hid (HA.out.ext hB)
      have HB3 := Lib.hid (HR.out.ext hB)
      clear hB HA HR hE
      have hne : w.heap.size ≠ w.heap.size + 1 := by omega
      have hne2 : w.heap.size + 1 ≠ w.heap.size := by omega
      obtain ⟨c0, c1, c2, f0, f1, f2, hp⟩ := (HA3.out).cells
      obtain ⟨d0, d1, d2, g0, g1, g2, hq⟩ := (HB3.out).cells
      simp only at c0 c1 c2 d0 d1 d2
      simp only [Num.zero] at d0 d1 d2
      go_wp2_with fail
      have hA4 : NumAt (w3.setCell ⟨w.heap.size, 0, none⟩ (.bool an)) w.heap.size ⟨an, al, ax⟩ := by
        have := HA3.out
        unfold NumAt at this ⊢
        simp [World.setCell, Array.getElem?_modify, this]
      have hB4 : NumAt (w3.setCell ⟨w.heap.size, 0, none⟩ (.bool an)) (w.heap.size + 1) Num.zero := by
        have := HB3.out
        unfold NumAt at this ⊢
        rw [Below.heap_setCell _ _ _ _ hne2]; exact this
      have hN := (hB4.store ⟨an, al, ax⟩).cells
      simp only at hN
      obtain ⟨r0, r1, r2, _⟩ := hN
      exact bodyPost_ret (v := .agg #[.bool an, .string ⟨(al).toArray⟩, .int .i64 ax]) (by simp [results, Tryd.results15, go_sem, r0, r1, r2]) rfl ⟨by rw [HF2.out], below_store (hE3.setCell (Nat.le_refl _) _) (by omega) _ _ _⟩
  | true =>
    have HS := Lib.hid hs
    by_cases h0 : al = []
    · subst h0
      have HF2 : Hid (negP ⟨an, [], ax⟩ = ⟨an, [], ax⟩) := Lib.hid (by rw [HP.out, if_neg (fun h => h.2 rfl)])
      clear hs HP
      refine Grow.wp_region_tail (G := Ext) (B := fun w' => Ext w2 w') (anc := fun _ => []) (I := fun j => if j = 3 then some (Grow.Spec.val Ext (.bool true)) else none) 11 (by kernel_rfl) (by kernel_rfl) (by kernel_rfl) ?_ ?_ ?_
      · exact fun w w' h hg => ext_trans h hg
      · exact (ext_refl _).drew
      · simp only [List.take_succ_cons, List.take_zero, List.drop_succ_cons, List.drop_zero]
        repeat
          (refine Grow.walk_step (fun K hK => ?_)
           first
           | (refine Grow.step_read (by rfl) (by rfl) ext_refl ?_
              apply Exists.intro
              refine ⟨fun w hB hF => ?_, ?_⟩
              · obtain ⟨c0, c1, c2, f0, f1, f2, hp⟩ := (HA.out.ext hB).cells; simp only at c0 c1 c2
                go_simp
                try exact rfl
              go_simp
              refine hK _ _ ?_
              clear hK K)
           | (refine Grow.step_off (by rfl) ?_
              go_simp
              refine hK _ _ ?_
              clear hK K))
        refine Grow.walk_step (fun K hK => ?_)
        refine Grow.step_rel (by rfl) (by rfl) (fun w' hB hF => ?_) (fun v hv => ?_)
        · go_simp
          refine Grow.relUpon_enter ((sane_any ⟨an, ([] : List UInt8), ax⟩ w' hal).mono ?_)
          rintro e w'' ⟨rfl, hw''⟩
          exact ⟨_, rfl, hw'', by rw [HS.out]; rfl, trivial⟩
        obtain rfl : v = _ := hv
        go_simp
        refine hK _ _ ?_
        clear hK K
        repeat
          (refine Grow.walk_step (fun K hK => ?_)
           first
           | (refine Grow.step_read (by rfl) (by rfl) ext_refl ?_
              apply Exists.intro
              refine ⟨fun w hB hF => ?_, ?_⟩
              · obtain ⟨c0, c1, c2, f0, f1, f2, hp⟩ := (HA.out.ext hB).cells; simp only at c0 c1 c2
                go_simp
                try exact rfl
              go_simp
              refine hK _ _ ?_
              clear hK K)
           | (refine Grow.step_off (by rfl) ?_
              go_simp
              refine hK _ _ ?_
              clear hK K))
        refine Grow.walk_nil ?_
        intro w3 hB hF
        clear hF
        have hE3 := ext_trans hE hB
        have HA3 := Lib.hid (HA.out.ext hB)
        have HB3 := Lib.hid (HR.out.ext hB)
        clear hB HA HR hE
        have hne : w.heap.size ≠ w.heap.size + 1 := by omega
        have hne2 : w.heap.size + 1 ≠ w.heap.size := by omega
        obtain ⟨c0, c1, c2, f0, f1, f2, hp⟩ := (HA3.out).cells
        obtain ⟨d0, d1, d2, g0, g1, g2, hq⟩ := (HB3.out).cells
        simp only at c0 c1 c2 d0 d1 d2
        simp only [Num.zero] at d0 d1 d2
        go_wp2_with fail
        have hA4 : NumAt (w3.setCell ⟨w.heap.size, 0, none⟩ (.bool an)) w.heap.size ⟨an, ([] : List UInt8), ax⟩ := by
          have := HA3.out
          unfold NumAt at this ⊢
          simp [World.setCell, Array.getElem?_modify, this]
        have hB4 : NumAt (w3.setCell ⟨w.heap.size, 0, none⟩ (.bool an)) (w.heap.size + 1) Num.zero := by
          have := HB3.out
          unfold NumAt at this ⊢
          rw [Below.heap_setCell _ _ _ _ hne2]; exact this
        have hN := (hB4.store ⟨an, ([] : List UInt8), ax⟩).cells
        simp only at hN
        obtain ⟨r0, r1, r2, _⟩ := hN
        exact bodyPost_ret (v := .agg #[.bool an, .string ⟨(([] : List UInt8)).toArray⟩, .int .i64 ax]) (by simp [results, Tryd.results15, go_sem, r0, r1, r2]) rfl ⟨by rw [HF2.out], below_store (hE3.setCell (Nat.le_refl _) _) (by omega) _ _ _⟩
    · have HF2 : Hid (negP ⟨an, al, ax⟩ = ⟨!an, al, ax⟩) := Lib.hid (by rw [HP.out, if_pos ⟨hs, h0⟩])
      have hem : al.isEmpty = false := by simpa using h0
      clear hs HP h0
      refine Grow.wp_region_tail (G := Ext) (B := fun w' => Ext w2 w') (anc := fun _ => []) (I := fun j => if j = 3 then some (Grow.Spec.val Ext (.bool true)) else none) 11 (by kernel_rfl) (by kernel_rfl) (by kernel_rfl) ?_ ?_ ?_
      · exact fun w w' h hg => ext_trans h hg
      · exact (ext_refl _).drew
      · simp only [List.take_succ_cons, List.take_zero, List.drop_succ_cons, List.drop_zero]
        repeat
          (refine Grow.walk_step (fun K hK => ?_)
           first
           | (refine Grow.step_read (by rfl) (by rfl) ext_refl ?_
              apply Exists.intro
              refine ⟨fun w hB hF => ?_, ?_⟩
              · obtain ⟨c0, c1, c2, f0, f1, f2, hp⟩ := (HA.out.ext hB).cells; simp only at c0 c1 c2
                go_simp
                try exact rfl
              go_simp
              refine hK _ _ ?_
              clear hK K)
           | (refine Grow.step_off (by rfl) ?_
              go_simp
              refine hK _ _ ?_
              clear hK K))
        refine Grow.walk_step (fun K hK => ?_)
        refine Grow.step_rel (by rfl) (by rfl) (fun w' hB hF => ?_) (fun v hv => ?_)
        · go_simp
          refine Grow.relUpon_enter ((sane_any ⟨an, al, ax⟩ w' hal).mono ?_)
          rintro e w'' ⟨rfl, hw''⟩
          exact ⟨_, rfl, hw'', by rw [HS.out]; rfl, trivial⟩
        obtain rfl : v = _ := hv
        go_simp
        refine hK _ _ ?_
        clear hK K
        repeat
          (refine Grow.walk_step (fun K hK => ?_)
           first
           | (refine Grow.step_read (by rfl) (by rfl) ext_refl ?_
              apply Exists.intro
              refine ⟨fun w hB hF => ?_, ?_⟩
              · obtain ⟨c0, c1, c2, f0, f1, f2, hp⟩ := (HA.out.ext hB).cells; simp only at c0 c1 c2
                go_simp
                try exact rfl
              go_simp
              refine hK _ _ ?_
              clear hK K)
           | (refine Grow.step_off (by rfl) ?_
              go_simp
              refine hK _ _ ?_
              clear hK K))
        refine Grow.walk_nil ?_
        intro w3 hB hF
        clear hF
        have hE3 := ext_trans hE hB
        have HA3 := Lib.hid (HA.out.ext hB)
        have HB3 := Lib.hid (HR.out.ext hB)
        clear hB HA HR hE
        have hne : w.heap.size ≠ w.heap.size + 1 := by omega
        have hne2 : w.heap.size + 1 ≠ w.heap.size := by omega
        obtain ⟨c0, c1, c2, f0, f1, f2, hp⟩ := (HA3.out).cells
        obtain ⟨d0, d1, d2, g0, g1, g2, hq⟩ := (HB3.out).cells
        simp only at c0 c1 c2 d0 d1 d2
        simp only [Num.zero] at d0 d1 d2
        go_wp2_with fail
        have hA4 : NumAt (w3.setCell ⟨w.heap.size, 0, none⟩ (.bool (!an))) w.heap.size ⟨(!an), al, ax⟩ := by
          have := HA3.out
          unfold NumAt at this ⊢
          simp [World.setCell, Array.getElem?_modify, this]
        have hB4 : NumAt (w3.setCell ⟨w.heap.size, 0, none⟩ (.bool (!an))) (w.heap.size + 1) Num.zero := by
          have := HB3.out
          unfold NumAt at this ⊢
          rw [Below.heap_setCell _ _ _ _ hne2]; exact this
        have hN := (hB4.store ⟨(!an), al, ax⟩).cells
        simp only at hN
        obtain ⟨r0, r1, r2, _⟩ := hN
        exact bodyPost_ret (v := .agg #[.bool (!an), .string ⟨(al).toArray⟩, .int .i64 ax]) (by simp [results, Tryd.results15, go_sem, r0, r1, r2]) rfl ⟨by rw [HF2.out], below_store (hE3.setCell (Nat.le_refl _) _) (by omega) _ _ _⟩
end Go.Proofs.YtpheohgceepboaaDoor
