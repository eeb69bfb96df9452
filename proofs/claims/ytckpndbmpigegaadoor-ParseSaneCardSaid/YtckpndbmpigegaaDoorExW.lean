/- value: the walk of the documents' Exact. -/
import Derived.Test.YtckpndbmpigegaaDoorEx
set_option linter.unusedVariables false
set_option linter.unusedSimpArgs false
set_option maxRecDepth 100000
namespace Go.Proofs.YtckpndbmpigegaaDoor
open Go.RowKit Go.Mem Orange
theorem snd_lt (p : List UInt8 × Tree) : SizeOf.sizeOf p.2 < SizeOf.sizeOf p := by
  cases p
  simp only [Prod.mk.sizeOf_spec]
  omega
theorem mem_size (m : List (List UInt8 × Tree)) (i : Nat) (h : i < m.length) {N : Nat} (hN : SizeOf.sizeOf m < N) : SizeOf.sizeOf m[i].2 < N :=
  Nat.lt_trans (Nat.lt_trans (snd_lt m[i]) (List.sizeOf_lt_of_mem (List.getElem_mem h))) hN
theorem mem_sizeL (m : List Tree) (i : Nat) (h : i < m.length) {N : Nat} (hN : SizeOf.sizeOf m < N) : SizeOf.sizeOf m[i] < N :=
  Nat.lt_trans (List.sizeOf_lt_of_mem (List.getElem_mem h)) hN
theorem exactM_cons (p q : List UInt8 × Tree) (l l' : List (List UInt8 × Tree)) : exactM (p :: l) (q :: l') = (decide (p.1 = q.1) && exactT p.2 q.2 && exactM l l') := by
  cases p; cases q; rw [exactM]
-- the early end: false
-- one read: $1 facts
set_option maxHeartbeats 6400000 in
theorem exact_step (N : Nat) (ih : ∀ (t u : Tree) (A A' : Nat → Prop) (c c' : Array Value) (w : World), SizeOf.sizeOf t < N → TV w A t c → TV w A' u c' →
    Calls Tryd.prog 15 #[.agg c, .agg c'] w (fun e w' => e = .returned (.bool (exactT t u)) ∧ Ext w w')) :
    ∀ (t u : Tree) (A A' : Nat → Prop) (c c' : Array Value) (w : World), SizeOf.sizeOf t < N + 1 → TV w A t c → TV w A' u c' →
    Calls Tryd.prog 15 #[.agg c, .agg c'] w (fun e w' => e = .returned (.bool (exactT t u)) ∧ Ext w w')
  | .mk k b d s l m, .mk k' b' d' s' l' m', A, A', c, c', w, hN, ht, hu => by
    have IH := Lib.hid ih
    clear ih
    cases ht with
    | mk htl hrl htm hrm =>
    cases hu with
    | mk hul hsl hum hsm =>
    rename_i vL vM cl cm vL' vM' cl' cm'
    obtain ⟨_, a1, p1, rfl, hp1, hq1, _⟩ := id hrl
    obtain ⟨_, a2, p2, rfl, hp2, hq2, _⟩ := id hrm
    obtain ⟨_, a3, p3, rfl, hp3, hq3, _⟩ := id hsl
    obtain ⟨_, a4, p4, rfl, hp4, hq4, _⟩ := id hsm
    obtain ⟨T, hT⟩ : ∃ T, exactT (.mk k b d s l m) (.mk k' b' d' s' l' m') = T := ⟨_, rfl⟩
    rw [hT]
    rw [exactT] at hT
    have HT := Lib.hid hT
    have hv0 := VAt.new w (cellsV k b d s (.slice a1 l.length p1) (.slice a2 m.length p2))
    have hx0 : Ext w (w.alloc (.cells (cellsV k b d s (.slice a1 l.length p1) (.slice a2 m.length p2)) 29)) := (ext_refl w).alloc (Nat.le_refl _) _
    have hv1 := VAt.new (w.alloc (.cells (cellsV k b d s (.slice a1 l.length p1) (.slice a2 m.length p2)) 29)) (cellsV k' b' d' s' (.slice a3 l'.length p3) (.slice a4 m'.length p4))
    have hx1 : Ext (w.alloc (.cells (cellsV k b d s (.slice a1 l.length p1) (.slice a2 m.length p2)) 29)) ((w.alloc (.cells (cellsV k b d s (.slice a1 l.length p1) (.slice a2 m.length p2)) 29)).alloc (.cells (cellsV k' b' d' s' (.slice a3 l'.length p3) (.slice a4 m'.length p4)) 29)) := (ext_refl _).alloc (Nat.le_refl _) _
    replace hv0 := hv0.ext hx1
    have hsz0 : (w.alloc (.cells (cellsV k b d s (.slice a1 l.length p1) (.slice a2 m.length p2)) 29)).heap.size = w.heap.size + 1 := by simp
    rw [hsz0] at hv1
    have hE := ext_trans hx0 hx1
    clear hx0 hx1 hT
    simp only [cellsV] at hv0 hv1 hsz0 hE ⊢
    go_enter Tryd.func15, Tryd.ntmps15
    go_upto_region 1 with fail
    generalize (w.alloc (.cells #[.int .i64 k, .bool b, .bool d.neg, .string ⟨d.digits.toArray⟩, .int .i64 d.exp, .string ⟨s.toArray⟩, .slice a1 l.length p1, .slice a2 m.length p2] 29)).alloc (.cells #[.int .i64 k', .bool b', .bool d'.neg, .string ⟨d'.digits.toArray⟩, .int .i64 d'.exp, .string ⟨s'.toArray⟩, .slice a3 l'.length p3, .slice a4 m'.length p4] 29) = w1 at *
    obtain ⟨S, hS⟩ : ∃ S, w.heap.size = S := ⟨_, rfl⟩
    rw [hS] at hv0 hv1 ⊢
    have HC := Lib.hid hv0
    have HD := Lib.hid hv1
    have HE := Lib.hid hE
    have HTL := Lib.hid (htl.keep (A' := fun _ => True) hE.size (fun g _ hlt => ⟨trivial, hE.block g hlt⟩))
    have HRL := Lib.hid (hrl.keep (A' := fun _ => True) hE.size (fun g _ hlt => ⟨trivial, hE.block g hlt⟩))
    have HTM := Lib.hid (htm.keep (A' := fun _ => True) hE.size (fun g _ hlt => ⟨trivial, hE.block g hlt⟩))
    have HRM := Lib.hid (hrm.keep (A' := fun _ => True) hE.size (fun g _ hlt => ⟨trivial, hE.block g hlt⟩))
    have HUL := Lib.hid (hul.keep (A' := fun _ => True) hE.size (fun g _ hlt => ⟨trivial, hE.block g hlt⟩))
    have HSL := Lib.hid (hsl.keep (A' := fun _ => True) hE.size (fun g _ hlt => ⟨trivial, hE.block g hlt⟩))
    have HUM := Lib.hid (hum.keep (A' := fun _ => True) hE.size (fun g _ hlt => ⟨trivial, hE.block g hlt⟩))
    have HSM := Lib.hid (hsm.keep (A' := fun _ => True) hE.size (fun g _ hlt => ⟨trivial, hE.block g hlt⟩))
    clear hv0 hv1 hE hsz0 htl hrl htm hrm hul hsl hum hsm hS
    have c0 := HC.out.cell 0; have c1 := HC.out.cell 1; have c2 := HC.out.cell 2; have c3 := HC.out.cell 3; have c4 := HC.out.cell 4; have c5 := HC.out.cell 5; have c6 := HC.out.cell 6; have c7 := HC.out.cell 7
    have d0 := HD.out.cell 0; have d1 := HD.out.cell 1; have d2 := HD.out.cell 2; have d3 := HD.out.cell 3; have d4 := HD.out.cell 4; have d5 := HD.out.cell 5; have d6 := HD.out.cell 6; have d7 := HD.out.cell 7
    simp at c0 c1 c2 c3 c4 c5 c6 c7 d0 d1 d2 d3 d4 d5 d6 d7
    have hneq := fun w => neq_num d d' w
    by_cases h1 : ¬ k = k'
    · have q1 : (k == k') = false := by simpa using h1
      have HF : Hid (T = false) := Lib.hid (by rw [← HT.out]; simp [h1])
      go_wp2_with fail
      go_ret
      exact ⟨ret_bool HF.out.symm, HE.out⟩
    replace h1 : k = k' := Decidable.of_not_not h1
    subst h1
    by_cases h2 : ¬ b = b'
    · have q1 : (b == b') = false := by simpa using h2
      have HF : Hid (T = false) := Lib.hid (by rw [← HT.out]; simp [h2])
      go_wp2_with fail
      go_ret
      exact ⟨ret_bool HF.out.symm, HE.out⟩
    replace h2 : b = b' := Decidable.of_not_not h2
    subst h2
    by_cases h3 : ¬ d = d'
    · rw [decide_eq_false h3] at hneq
      have HF : Hid (T = false) := Lib.hid (by rw [← HT.out]; simp [h3])
      go_wp2_with fail
      go_ret
      exact ⟨ret_bool HF.out.symm, HE.out⟩
    replace h3 : d = d' := Decidable.of_not_not h3
    rw [decide_eq_true h3] at hneq
    have HD3 := Lib.hid h3
    clear h3
    by_cases h4 : ¬ s = s'
    · have q1 : (s == s') = false := by simpa using h4
      have HF : Hid (T = false) := Lib.hid (by rw [← HT.out]; simp [h4])
      go_wp2_with fail
      go_ret
      exact ⟨ret_bool HF.out.symm, HE.out⟩
    replace h4 : s = s' := Decidable.of_not_not h4
    subst h4
    by_cases h5 : ¬ l.length = l'.length
    · have q1 : ((l.length : Int) == l'.length) = false := by simp; omega
      have HF : Hid (T = false) := Lib.hid (by
        rw [← HT.out]
        cases hx : exactL l l' with
        | true => exact absurd (exactL_len _ _ hx) h5
        | false => simp)
      go_wp2_with fail
      go_ret
      exact ⟨ret_bool HF.out.symm, HE.out⟩
    replace h5 : l.length = l'.length := Decidable.of_not_not h5
    by_cases h6 : ¬ m.length = m'.length
    · have q1 : ((m.length : Int) == m'.length) = false := by simp; omega
      have HF : Hid (T = false) := Lib.hid (by
        rw [← HT.out]
        cases hx : exactM m m' with
        | true => exact absurd (exactM_len _ _ hx) h6
        | false => simp)
      have e5 : (l'.length : Int) = l.length := by omega
      go_wp2_with fail
      go_ret
      exact ⟨ret_bool HF.out.symm, HE.out⟩
    replace h6 : m.length = m'.length := Decidable.of_not_not h6
    have HT2 : Hid (T = (exactL l l' && exactM m m')) := Lib.hid (by rw [← HT.out]; simp [HD3.out])
    have e5 : (l'.length : Int) = l.length := by omega
    have e6 : (m'.length : Int) = m.length := by omega
    have H5 := Lib.hid h5
    have H6 := Lib.hid h6
    clear HT h5 h6
    go_upto_region 3 with fail
    clear e5 e6
    clear c0 c1 c2 c3 c4 c5 c6 c7 d0 d1 d2 d3 d4 d5 d6 d7 hneq
    have HSU : Hid (SizeOf.sizeOf l < N ∧ SizeOf.sizeOf m < N) := Lib.hid (by
      simp only [Tree.mk.sizeOf_spec] at hN
      omega)
    clear hN
    go_wp2_with fail
    go_loopw [5] (fun iv wr => ∃ i : Nat, iv = .int .i64 i ∧ i ≤ l.length ∧ Ext w1 wr ∧ exactL l l' = exactL (l.drop i) (l'.drop i)) (fun iv _ => 9223372036854775808 - (intOf iv).toNat)
    case atStart => exact ⟨0, rfl, by omega, ext_refl _, rfl⟩
    case round =>
      obtain ⟨i, rfl, hi, hEr, hdr⟩ := hrel
      have HX := Lib.hid hEr
      have HDR := Lib.hid hdr
      have hCr := HC.out.ext hEr
      have hDr := HD.out.ext hEr
      have HCR := Lib.hid hCr
      have HDD := Lib.hid hDr
      clear hEr hdr hCr hDr
      have c6 := HCR.out.cell 6
      have d6 := HDD.out.cell 6
      simp at c6 d6
      by_cases hlt : i < l.length
      · have hlti : (i : Int) < l.length := by omega
        have hi0 : (0 : Int) ≤ i := by omega
        have hlt' : i < l'.length := by have := H5.out; omega
        have hlti' : (i : Int) < l'.length := by omega
        obtain ⟨x, htx, hcx⟩ := HTL.out.at i hlt
        obtain ⟨y, huy, hcy⟩ := HUL.out.at i hlt'
        obtain ⟨g, o, ea, hgl, hgc⟩ := HRL.out.cells (by omega)
        obtain ⟨g', o', ea', hgl', hgc'⟩ := HSL.out.cells (by omega)
        subst ea
        subst ea'
        obtain ⟨xk, xb, xd, xs, xa1, xn1, xc1, xa2, xn2, xc2, rfl⟩ := htx.eight
        obtain ⟨yk, yb, yd, ys, ya1, yn1, yc1, ya2, yn2, yc2, rfl⟩ := huy.eight
        have HXE : Hid (∀ w', Ext wr w' → ∀ j u, (cellsV xk xb xd xs (.slice xa1 xn1 xc1) (.slice xa2 xn2 xc2))[j]? = some u → w'.cell? ⟨g, o + i * 8 + j, none⟩ = some u) := Lib.hid (fun w' hw j u hu => by
          have hj : j < 8 := by have := (Array.getElem?_eq_some_iff.1 hu).1; simpa using this
          rw [Nat.add_assoc, (ext_trans HX.out hw).cell (p := ⟨g, o + (i * 8 + j), none⟩) hgl]
          exact hgc _ _ ((hcx j hj).trans hu))
        have HYE : Hid (∀ w', Ext wr w' → ∀ j u, (cellsV yk yb yd ys (.slice ya1 yn1 yc1) (.slice ya2 yn2 yc2))[j]? = some u → w'.cell? ⟨g', o' + i * 8 + j, none⟩ = some u) := Lib.hid (fun w' hw j u hu => by
          have hj : j < 8 := by have := (Array.getElem?_eq_some_iff.1 hu).1; simpa using this
          rw [Nat.add_assoc, (ext_trans HX.out hw).cell (p := ⟨g', o' + (i * 8 + j), none⟩) hgl']
          exact hgc' _ _ ((hcy j hj).trans hu))
        have HIH : Hid (∀ w', Ext wr w' → Calls Tryd.prog 15 #[.agg (cellsV xk xb xd xs (.slice xa1 xn1 xc1) (.slice xa2 xn2 xc2)), .agg (cellsV yk yb yd ys (.slice ya1 yn1 yc1) (.slice ya2 yn2 yc2))] w' (fun e w'' => e = .returned (.bool (exactT l[i] l'[i])) ∧ Ext w' w'')) := Lib.hid (fun w' hw =>
          IH.out l[i] l'[i] (fun _ => True) (fun _ => True) _ _ w' (mem_sizeL l i hlt HSU.out.1) (htx.keep (ext_trans HX.out hw).size (fun g _ hlt => ⟨trivial, (ext_trans HX.out hw).block g hlt⟩)) (huy.keep (ext_trans HX.out hw).size (fun g _ hlt => ⟨trivial, (ext_trans HX.out hw).block g hlt⟩)))
        have HDR2 : Hid (exactL l l' = (exactT l[i] l'[i] && exactL (l.drop (i + 1)) (l'.drop (i + 1)))) := Lib.hid (by
          rw [HDR.out, List.drop_eq_getElem_cons hlt, List.drop_eq_getElem_cons hlt', exactL])
        obtain ⟨bq, hbq⟩ : ∃ bq, exactT l[i] l'[i] = bq := ⟨_, rfl⟩
        have hih := HIH.out
        have hdr2 := HDR2.out
        rw [hbq] at hih hdr2
        replace HIH := Lib.hid hih
        replace HDR2 := Lib.hid hdr2
        clear hih hdr2 hbq htx huy hcx hcy hgc hgc' hgl hgl'
        have e9 : IntKind.i64.wrap ((i : Int) + 1) = ((i + 1 : Nat) : Int) := by rw [IntWalk.i64_in _ (by omega)]; omega
        go_upto_region 6 with fail
        clear c6 d6
        refine Grow.wp_region_litW (G := Ext) (B := fun w' => Ext wr w') (anc := fun _ => []) (I := fun j => if j = 10 then some (Grow.Spec.val Ext (.bool bq)) else none) (by kernel_rfl) (by kernel_rfl) (by kernel_rfl) ?_ ?_ ?_
        · exact fun w w' h hg => ext_trans h hg
        · exact (ext_refl _).drew
        repeat
          (refine Grow.Wk.step (fun K hK => ?_)
           first
           | (refine Grow.step_read (by rfl) (by rfl) ext_refl ?_
              apply Exists.intro
              refine ⟨fun w hB hF => ?_, ?_⟩
              · have c6 := (HCR.out.ext hB).cell 6; have d6 := (HDD.out.ext hB).cell 6; simp at c6 d6; have x0 := HXE.out _ hB 0 _ rfl; have x1 := HXE.out _ hB 1 _ rfl; have x2 := HXE.out _ hB 2 _ rfl; have x3 := HXE.out _ hB 3 _ rfl; have x4 := HXE.out _ hB 4 _ rfl; have x5 := HXE.out _ hB 5 _ rfl; have x6 := HXE.out _ hB 6 _ rfl; have x7 := HXE.out _ hB 7 _ rfl; have y0 := HYE.out _ hB 0 _ rfl; have y1 := HYE.out _ hB 1 _ rfl; have y2 := HYE.out _ hB 2 _ rfl; have y3 := HYE.out _ hB 3 _ rfl; have y4 := HYE.out _ hB 4 _ rfl; have y5 := HYE.out _ hB 5 _ rfl; have y6 := HYE.out _ hB 6 _ rfl; have y7 := HYE.out _ hB 7 _ rfl; simp only [Nat.add_zero] at x0 y0
                go_simp
                try exact rfl
              go_simp
              refine hK _ _ ?_
              clear hK K)
           | (refine Grow.step_off (by rfl) ?_
              go_simp
              refine hK _ _ ?_
              clear hK K))
        refine Grow.Wk.step (fun K hK => ?_)
        refine Grow.step_rel (by rfl) (by rfl) (fun w' hB hF => ?_) (fun v hv => ?_)
        · go_simp
          refine Grow.relUpon_enter ((HIH.out w' hB).mono ?_)
          rintro e w'' ⟨rfl, hw''⟩
          exact ⟨_, rfl, hw'', rfl, trivial⟩
        obtain rfl : v = _ := hv
        go_simp
        refine hK _ _ ?_
        clear hK K
        repeat
          (refine Grow.Wk.step (fun K hK => ?_)
           first
           | (refine Grow.step_read (by rfl) (by rfl) ext_refl ?_
              apply Exists.intro
              refine ⟨fun w hB hF => ?_, ?_⟩
              · skip
                go_simp
                try exact rfl
              go_simp
              refine hK _ _ ?_
              clear hK K)
           | (refine Grow.step_off (by rfl) ?_
              go_simp
              refine hK _ _ ?_
              clear hK K))
        refine Grow.Wk.nil ?_
        intro w4 hB hF
        clear hF
        cases bq with
        | false =>
          have HF : Hid (T = false) := Lib.hid (by rw [HT2.out, HDR2.out]; rfl)
          have HEE := Lib.hid (ext_trans HE.out (ext_trans HX.out hB))
          clear hB
          go_wp2_with fail
          go_ret
          exact ⟨ret_bool HF.out.symm, HEE.out⟩
        | true =>
          have HN : Hid (exactL l l' = exactL (l.drop (i + 1)) (l'.drop (i + 1))) := Lib.hid (by rw [HDR2.out, Bool.true_and])
          have HXX := Lib.hid (ext_trans HX.out hB)
          clear hB
          go_wp2_with fail
          go_roundw
          case rel => exact ⟨i + 1, by go_num, by omega, HXX.out, HN.out⟩
          case measure => simp [intOf]; omega
      · obtain rfl : i = l.length := by omega
        have hnlt : ¬ ((l.length : Int) < (l.length : Int)) := by omega
        have HL0 : Hid (exactL l l' = true) := Lib.hid (by
          rw [HDR.out, List.drop_of_length_le (Nat.le_refl _), List.drop_of_length_le (by have := H5.out; omega), exactL])
        have HT3 : Hid (T = exactM m m') := Lib.hid (by rw [HT2.out, HL0.out, Bool.true_and])
        have HEr := Lib.hid (ext_trans HE.out HX.out)
        clear HT2 HL0 HDR hi hlt
        go_wp2_with fail
        clear c6 d6
        go_loopw [6] (fun iv wx => ∃ i : Nat, iv = .int .i64 i ∧ i ≤ m.length ∧ Ext wr wx ∧ exactM m m' = exactM (m.drop i) (m'.drop i)) (fun iv _ => 9223372036854775808 - (intOf iv).toNat)
        case atStart => exact ⟨0, rfl, by omega, ext_refl _, rfl⟩
        case round =>
          obtain ⟨i, rfl, hi, hEr, hdr⟩ := hrel
          replace HX := Lib.hid (ext_trans HX.out hEr)
          have hEr0 := Lib.hid hEr
          have HDR := Lib.hid hdr
          have hCr := HCR.out.ext hEr
          have hDr := HDD.out.ext hEr
          replace HCR := Lib.hid hCr
          replace HDD := Lib.hid hDr
          replace HEr := Lib.hid (ext_trans HEr.out hEr)
          clear hEr hdr hCr hDr
          have c7 := HCR.out.cell 7
          have d7 := HDD.out.cell 7
          simp at c7 d7
          by_cases hlt : i < m.length
          · have hlti : (i : Int) < m.length := by omega
            have hi0 : (0 : Int) ≤ i := by omega
            have hlt' : i < m'.length := by have := H6.out; omega
            have hlti' : (i : Int) < m'.length := by omega
            obtain ⟨x, htx, hkx, hcx⟩ := HTM.out.at i hlt
            obtain ⟨y, huy, hky, hcy⟩ := HUM.out.at i hlt'
            obtain ⟨g, o, ea, hgl, hgc⟩ := HRM.out.cells (by omega)
            obtain ⟨g', o', ea', hgl', hgc'⟩ := HSM.out.cells (by omega)
            subst ea
            subst ea'
            obtain ⟨xk, xb, xd, xs, xa1, xn1, xc1, xa2, xn2, xc2, rfl⟩ := htx.eight
            obtain ⟨yk, yb, yd, ys, ya1, yn1, yc1, ya2, yn2, yc2, rfl⟩ := huy.eight
            have HXE : Hid (∀ w', Ext wr w' → ∀ j u, (cellsV xk xb xd xs (.slice xa1 xn1 xc1) (.slice xa2 xn2 xc2))[j]? = some u → w'.cell? ⟨g, o + i * 9 + (j + 1), none⟩ = some u) := Lib.hid (fun w' hw j u hu => by
              have hj : j < 8 := by have := (Array.getElem?_eq_some_iff.1 hu).1; simpa using this
              rw [Nat.add_assoc, (ext_trans HX.out hw).cell (p := ⟨g, o + (i * 9 + (j + 1)), none⟩) hgl, show i * 9 + (j + 1) = i * 9 + 1 + j by omega]
              exact hgc _ _ ((hcx j hj).trans hu))
            have HYE : Hid (∀ w', Ext wr w' → ∀ j u, (cellsV yk yb yd ys (.slice ya1 yn1 yc1) (.slice ya2 yn2 yc2))[j]? = some u → w'.cell? ⟨g', o' + i * 9 + (j + 1), none⟩ = some u) := Lib.hid (fun w' hw j u hu => by
              have hj : j < 8 := by have := (Array.getElem?_eq_some_iff.1 hu).1; simpa using this
              rw [Nat.add_assoc, (ext_trans HX.out hw).cell (p := ⟨g', o' + (i * 9 + (j + 1)), none⟩) hgl', show i * 9 + (j + 1) = i * 9 + 1 + j by omega]
              exact hgc' _ _ ((hcy j hj).trans hu))
            have HXK : Hid (∀ w', Ext wr w' → w'.cell? ⟨g, o + i * 9, none⟩ = some (.string ⟨m[i].1.toArray⟩)) := Lib.hid (fun w' hw => by
              rw [(ext_trans HX.out hw).cell (p := ⟨g, o + i * 9, none⟩) hgl]; exact hgc _ _ hkx)
            have HYK : Hid (∀ w', Ext wr w' → w'.cell? ⟨g', o' + i * 9, none⟩ = some (.string ⟨m'[i].1.toArray⟩)) := Lib.hid (fun w' hw => by
              rw [(ext_trans HX.out hw).cell (p := ⟨g', o' + i * 9, none⟩) hgl']; exact hgc' _ _ hky)
            have HIH : Hid (∀ w', Ext wr w' → Calls Tryd.prog 15 #[.agg (cellsV xk xb xd xs (.slice xa1 xn1 xc1) (.slice xa2 xn2 xc2)), .agg (cellsV yk yb yd ys (.slice ya1 yn1 yc1) (.slice ya2 yn2 yc2))] w' (fun e w'' => e = .returned (.bool (exactT m[i].2 m'[i].2)) ∧ Ext w' w'')) := Lib.hid (fun w' hw =>
              IH.out m[i].2 m'[i].2 (fun _ => True) (fun _ => True) _ _ w' (mem_size m i hlt HSU.out.2) (htx.keep (ext_trans HX.out hw).size (fun g _ hlt => ⟨trivial, (ext_trans HX.out hw).block g hlt⟩)) (huy.keep (ext_trans HX.out hw).size (fun g _ hlt => ⟨trivial, (ext_trans HX.out hw).block g hlt⟩)))
            have HDR2 : Hid (exactM m m' = (decide (m[i].1 = m'[i].1) && exactT m[i].2 m'[i].2 && exactM (m.drop (i + 1)) (m'.drop (i + 1)))) := Lib.hid (by
              rw [HDR.out, List.drop_eq_getElem_cons hlt, List.drop_eq_getElem_cons hlt', exactM_cons])
            obtain ⟨bq, hbq⟩ : ∃ bq, exactT m[i].2 m'[i].2 = bq := ⟨_, rfl⟩
            obtain ⟨kx, hkx2⟩ : ∃ kx, m[i].1 = kx := ⟨_, rfl⟩
            obtain ⟨ky, hky2⟩ : ∃ ky, m'[i].1 = ky := ⟨_, rfl⟩
            have hih := HIH.out
            have hdr2 := HDR2.out
            have hxk := HXK.out
            have hyk := HYK.out
            rw [hbq] at hih hdr2
            rw [hkx2] at hxk hdr2
            rw [hky2] at hyk hdr2
            replace HIH := Lib.hid hih
            replace HDR2 := Lib.hid hdr2
            replace HXK := Lib.hid hxk
            replace HYK := Lib.hid hyk
            clear hih hdr2 hbq htx huy hcx hcy hgc hgc' hgl hgl' hkx hky hkx2 hky2 hxk hyk
            have e9 : IntKind.i64.wrap ((i : Int) + 1) = ((i + 1 : Nat) : Int) := by rw [IntWalk.i64_in _ (by omega)]; omega
            have HFA : Hid (∀ w', Ext wr w' → w'.cell? ⟨S, 7, none⟩ = some (.slice (some ⟨g, o, none⟩) m.length p2) ∧ w'.cell? ⟨S + 1, 7, none⟩ = some (.slice (some ⟨g', o', none⟩) m'.length p4) ∧ w'.cell? ⟨g, o + i * 9, none⟩ = some (.string ⟨kx.toArray⟩) ∧ w'.cell? ⟨g', o' + i * 9, none⟩ = some (.string ⟨ky.toArray⟩)) := Lib.hid (fun w' hw => ⟨by rw [(HCR.out.ext hw).cell 7]; rfl, by rw [(HDD.out.ext hw).cell 7]; rfl, HXK.out _ hw, HYK.out _ hw⟩)
            by_cases hkk : ¬ kx = ky
            · have hkb : (kx == ky) = false := by simpa using hkk
              have HF : Hid (T = false) := Lib.hid (by rw [HT3.out, HDR2.out]; simp [hkk])
              clear hkk
              go_upto_region 11 with fail
              clear c7 d7
              refine Grow.wp_region_litW (G := Ext) (B := fun w' => Ext wr w') (anc := fun _ => []) (I := fun _ => none) (by kernel_rfl) (by kernel_rfl) (by kernel_rfl) ?_ ?_ ?_
              · exact fun w w' h hg => ext_trans h hg
              · exact (ext_refl _).drew
              repeat
                (refine Grow.Wk.step (fun K hK => ?_)
                 first
                 | (refine Grow.step_read (by rfl) (by rfl) ext_refl ?_
                    apply Exists.intro
                    refine ⟨fun w hB hF => ?_, ?_⟩
                    · obtain ⟨c7, d7, kx0, ky0⟩ := HFA.out _ hB
                      go_simp
                      try exact rfl
                    go_simp
                    refine hK _ _ ?_
                    clear hK K)
                 | (refine Grow.step_off (by rfl) ?_
                    go_simp
                    refine hK _ _ ?_
                    clear hK K))
              refine Grow.Wk.nil ?_
              intro w4 hB hF
              clear hF
              have HEE := Lib.hid (ext_trans HEr.out hB)
              clear hB
              go_wp2_with fail
              go_ret
              exact ⟨ret_bool HF.out.symm, HEE.out⟩
            · replace hkk : kx = ky := Decidable.of_not_not hkk
              subst hkk
              replace HDR2 : Hid (exactM m m' = (bq && exactM (m.drop (i + 1)) (m'.drop (i + 1)))) := Lib.hid (by rw [HDR2.out]; simp)
              go_upto_region 11 with fail
              clear c7 d7
              refine Grow.wp_region_litW (G := Ext) (B := fun w' => Ext wr w') (anc := fun _ => []) (I := fun j => if j = 26 then some (Grow.Spec.val Ext (.bool bq)) else none) (by kernel_rfl) (by kernel_rfl) (by kernel_rfl) ?_ ?_ ?_
              · exact fun w w' h hg => ext_trans h hg
              · exact (ext_refl _).drew
              have HFX : Hid (∀ w', Ext wr w' → w'.cell? ⟨g, o + i * 9 + 1, none⟩ = some (.int .i64 xk) ∧ w'.cell? ⟨g, o + i * 9 + 2, none⟩ = some (.bool xb) ∧ w'.cell? ⟨g, o + i * 9 + 3, none⟩ = some (.bool xd.neg) ∧ w'.cell? ⟨g, o + i * 9 + 4, none⟩ = some (.string ⟨xd.digits.toArray⟩) ∧ w'.cell? ⟨g, o + i * 9 + 5, none⟩ = some (.int .i64 xd.exp) ∧ w'.cell? ⟨g, o + i * 9 + 6, none⟩ = some (.string ⟨xs.toArray⟩) ∧ w'.cell? ⟨g, o + i * 9 + 7, none⟩ = some (.slice xa1 xn1 xc1) ∧ w'.cell? ⟨g, o + i * 9 + 8, none⟩ = some (.slice xa2 xn2 xc2)) := Lib.hid (fun w' hw => ⟨HXE.out _ hw 0 _ rfl, HXE.out _ hw 1 _ rfl, HXE.out _ hw 2 _ rfl, HXE.out _ hw 3 _ rfl, HXE.out _ hw 4 _ rfl, HXE.out _ hw 5 _ rfl, HXE.out _ hw 6 _ rfl, HXE.out _ hw 7 _ rfl⟩)
              have HFY : Hid (∀ w', Ext wr w' → w'.cell? ⟨g', o' + i * 9 + 1, none⟩ = some (.int .i64 yk) ∧ w'.cell? ⟨g', o' + i * 9 + 2, none⟩ = some (.bool yb) ∧ w'.cell? ⟨g', o' + i * 9 + 3, none⟩ = some (.bool yd.neg) ∧ w'.cell? ⟨g', o' + i * 9 + 4, none⟩ = some (.string ⟨yd.digits.toArray⟩) ∧ w'.cell? ⟨g', o' + i * 9 + 5, none⟩ = some (.int .i64 yd.exp) ∧ w'.cell? ⟨g', o' + i * 9 + 6, none⟩ = some (.string ⟨ys.toArray⟩) ∧ w'.cell? ⟨g', o' + i * 9 + 7, none⟩ = some (.slice ya1 yn1 yc1) ∧ w'.cell? ⟨g', o' + i * 9 + 8, none⟩ = some (.slice ya2 yn2 yc2)) := Lib.hid (fun w' hw => ⟨HYE.out _ hw 0 _ rfl, HYE.out _ hw 1 _ rfl, HYE.out _ hw 2 _ rfl, HYE.out _ hw 3 _ rfl, HYE.out _ hw 4 _ rfl, HYE.out _ hw 5 _ rfl, HYE.out _ hw 6 _ rfl, HYE.out _ hw 7 _ rfl⟩)
              refine Grow.Wk.step (fun K hK => ?_)
              first
              | (refine Grow.step_read (by rfl) (by rfl) ext_refl ?_
                 apply Exists.intro
                 refine ⟨fun w hB hF => ?_, ?_⟩
                 · obtain ⟨c7, d7, kx0, ky0⟩ := HFA.out _ hB
                   go_simp
                   try exact rfl
                 go_simp
                 refine hK _ _ ?_
                 clear hK K)
              | (refine Grow.step_off (by rfl) ?_
                 go_simp
                 refine hK _ _ ?_
                 clear hK K)
              refine Grow.Wk.step (fun K hK => ?_)
              first
              | (refine Grow.step_read (by rfl) (by rfl) ext_refl ?_
                 apply Exists.intro
                 refine ⟨fun w hB hF => ?_, ?_⟩
                 · obtain ⟨c7, d7, kx0, ky0⟩ := HFA.out _ hB
                   go_simp
                   try exact rfl
                 go_simp
                 refine hK _ _ ?_
                 clear hK K)
              | (refine Grow.step_off (by rfl) ?_
                 go_simp
                 refine hK _ _ ?_
                 clear hK K)
              refine Grow.Wk.step (fun K hK => ?_)
              first
              | (refine Grow.step_read (by rfl) (by rfl) ext_refl ?_
                 apply Exists.intro
                 refine ⟨fun w hB hF => ?_, ?_⟩
                 · obtain ⟨c7, d7, kx0, ky0⟩ := HFA.out _ hB
                   go_simp
                   try exact rfl
                 go_simp
                 refine hK _ _ ?_
                 clear hK K)
              | (refine Grow.step_off (by rfl) ?_
                 go_simp
                 refine hK _ _ ?_
                 clear hK K)
              refine Grow.Wk.step (fun K hK => ?_)
              first
              | (refine Grow.step_read (by rfl) (by rfl) ext_refl ?_
                 apply Exists.intro
                 refine ⟨fun w hB hF => ?_, ?_⟩
                 · obtain ⟨c7, d7, kx0, ky0⟩ := HFA.out _ hB
                   go_simp
                   try exact rfl
                 go_simp
                 refine hK _ _ ?_
                 clear hK K)
              | (refine Grow.step_off (by rfl) ?_
                 go_simp
                 refine hK _ _ ?_
                 clear hK K)
              refine Grow.Wk.step (fun K hK => ?_)
              first
              | (refine Grow.step_read (by rfl) (by rfl) ext_refl ?_
                 apply Exists.intro
                 refine ⟨fun w hB hF => ?_, ?_⟩
                 · obtain ⟨c7, d7, kx0, ky0⟩ := HFA.out _ hB
                   go_simp
                   try exact rfl
                 go_simp
                 refine hK _ _ ?_
                 clear hK K)
              | (refine Grow.step_off (by rfl) ?_
                 go_simp
                 refine hK _ _ ?_
                 clear hK K)
              refine Grow.Wk.step (fun K hK => ?_)
              first
              | (refine Grow.step_read (by rfl) (by rfl) ext_refl ?_
                 apply Exists.intro
                 refine ⟨fun w hB hF => ?_, ?_⟩
                 · obtain ⟨c7, d7, kx0, ky0⟩ := HFA.out _ hB
                   go_simp
                   try exact rfl
                 go_simp
                 refine hK _ _ ?_
                 clear hK K)
              | (refine Grow.step_off (by rfl) ?_
                 go_simp
                 refine hK _ _ ?_
                 clear hK K)
              refine Grow.Wk.step (fun K hK => ?_)
              first
              | (refine Grow.step_read (by rfl) (by rfl) ext_refl ?_
                 apply Exists.intro
                 refine ⟨fun w hB hF => ?_, ?_⟩
                 · obtain ⟨c7, d7, kx0, ky0⟩ := HFA.out _ hB
                   go_simp
                   try exact rfl
                 go_simp
                 refine hK _ _ ?_
                 clear hK K)
              | (refine Grow.step_off (by rfl) ?_
                 go_simp
                 refine hK _ _ ?_
                 clear hK K)
              refine Grow.Wk.step (fun K hK => ?_)
              first
              | (refine Grow.step_read (by rfl) (by rfl) ext_refl ?_
                 apply Exists.intro
                 refine ⟨fun w hB hF => ?_, ?_⟩
                 · obtain ⟨c7, d7, kx0, ky0⟩ := HFA.out _ hB
                   go_simp
                   try exact rfl
                 go_simp
                 refine hK _ _ ?_
                 clear hK K)
              | (refine Grow.step_off (by rfl) ?_
                 go_simp
                 refine hK _ _ ?_
                 clear hK K)
              refine Grow.Wk.step (fun K hK => ?_)
              first
              | (refine Grow.step_read (by rfl) (by rfl) ext_refl ?_
                 apply Exists.intro
                 refine ⟨fun w hB hF => ?_, ?_⟩
                 · obtain ⟨c7, d7, kx0, ky0⟩ := HFA.out _ hB
                   go_simp
                   try exact rfl
                 go_simp
                 refine hK _ _ ?_
                 clear hK K)
              | (refine Grow.step_off (by rfl) ?_
                 go_simp
                 refine hK _ _ ?_
                 clear hK K)
              refine Grow.Wk.step (fun K hK => ?_)
              first
              | (refine Grow.step_read (by rfl) (by rfl) ext_refl ?_
                 apply Exists.intro
                 refine ⟨fun w hB hF => ?_, ?_⟩
                 · obtain ⟨c7, d7, kx0, ky0⟩ := HFA.out _ hB
                   go_simp
                   try exact rfl
                 go_simp
                 refine hK _ _ ?_
                 clear hK K)
              | (refine Grow.step_off (by rfl) ?_
                 go_simp
                 refine hK _ _ ?_
                 clear hK K)
              refine Grow.Wk.step (fun K hK => ?_)
              first
              | (refine Grow.step_read (by rfl) (by rfl) ext_refl ?_
                 apply Exists.intro
                 refine ⟨fun w hB hF => ?_, ?_⟩
                 · obtain ⟨c7, d7, kx0, ky0⟩ := HFA.out _ hB
                   go_simp
                   try exact rfl
                 go_simp
                 refine hK _ _ ?_
                 clear hK K)
              | (refine Grow.step_off (by rfl) ?_
                 go_simp
                 refine hK _ _ ?_
                 clear hK K)
              refine Grow.Wk.step (fun K hK => ?_)
              first
              | (refine Grow.step_read (by rfl) (by rfl) ext_refl ?_
                 apply Exists.intro
                 refine ⟨fun w hB hF => ?_, ?_⟩
                 · obtain ⟨c7, d7, kx0, ky0⟩ := HFA.out _ hB
                   go_simp
                   try exact rfl
                 go_simp
                 refine hK _ _ ?_
                 clear hK K)
              | (refine Grow.step_off (by rfl) ?_
                 go_simp
                 refine hK _ _ ?_
                 clear hK K)
              refine Grow.Wk.step (fun K hK => ?_)
              first
              | (refine Grow.step_read (by rfl) (by rfl) ext_refl ?_
                 apply Exists.intro
                 refine ⟨fun w hB hF => ?_, ?_⟩
                 · obtain ⟨c7, d7, kx0, ky0⟩ := HFA.out _ hB
                   go_simp
                   try exact rfl
                 go_simp
                 refine hK _ _ ?_
                 clear hK K)
              | (refine Grow.step_off (by rfl) ?_
                 go_simp
                 refine hK _ _ ?_
                 clear hK K)
              refine Grow.Wk.step (fun K hK => ?_)
              first
              | (refine Grow.step_read (by rfl) (by rfl) ext_refl ?_
                 apply Exists.intro
                 refine ⟨fun w hB hF => ?_, ?_⟩
                 · obtain ⟨c7, d7, kx0, ky0⟩ := HFA.out _ hB
                   go_simp
                   try exact rfl
                 go_simp
                 refine hK _ _ ?_
                 clear hK K)
              | (refine Grow.step_off (by rfl) ?_
                 go_simp
                 refine hK _ _ ?_
                 clear hK K)
              refine Grow.Wk.step (fun K hK => ?_)
              first
              | (refine Grow.step_read (by rfl) (by rfl) ext_refl ?_
                 apply Exists.intro
                 refine ⟨fun w hB hF => ?_, ?_⟩
                 · obtain ⟨c7, d7, kx0, ky0⟩ := HFA.out _ hB
                   go_simp
                   try exact rfl
                 go_simp
                 refine hK _ _ ?_
                 clear hK K)
              | (refine Grow.step_off (by rfl) ?_
                 go_simp
                 refine hK _ _ ?_
                 clear hK K)
              refine Grow.Wk.step (fun K hK => ?_)
              first
              | (refine Grow.step_read (by rfl) (by rfl) ext_refl ?_
                 apply Exists.intro
                 refine ⟨fun w hB hF => ?_, ?_⟩
                 · obtain ⟨c7, d7, kx0, ky0⟩ := HFA.out _ hB
                   go_simp
                   try exact rfl
                 go_simp
                 refine hK _ _ ?_
                 clear hK K)
              | (refine Grow.step_off (by rfl) ?_
                 go_simp
                 refine hK _ _ ?_
                 clear hK K)
              refine Grow.Wk.step (fun K hK => ?_)
              first
              | (refine Grow.step_read (by rfl) (by rfl) ext_refl ?_
                 apply Exists.intro
                 refine ⟨fun w hB hF => ?_, ?_⟩
                 · obtain ⟨c7, d7, kx0, ky0⟩ := HFA.out _ hB
                   go_simp
                   try exact rfl
                 go_simp
                 refine hK _ _ ?_
                 clear hK K)
              | (refine Grow.step_off (by rfl) ?_
                 go_simp
                 refine hK _ _ ?_
                 clear hK K)
              refine Grow.Wk.step (fun K hK => ?_)
              first
              | (refine Grow.step_read (by rfl) (by rfl) ext_refl ?_
                 apply Exists.intro
                 refine ⟨fun w hB hF => ?_, ?_⟩
                 · obtain ⟨c7, d7, kx0, ky0⟩ := HFA.out _ hB
                   go_simp
                   try exact rfl
                 go_simp
                 refine hK _ _ ?_
                 clear hK K)
              | (refine Grow.step_off (by rfl) ?_
                 go_simp
                 refine hK _ _ ?_
                 clear hK K)
              refine Grow.Wk.step (fun K hK => ?_)
              first
              | (refine Grow.step_read (by rfl) (by rfl) ext_refl ?_
                 apply Exists.intro
                 refine ⟨fun w hB hF => ?_, ?_⟩
                 · obtain ⟨c7, d7, kx0, ky0⟩ := HFA.out _ hB
                   go_simp
                   try exact rfl
                 go_simp
                 refine hK _ _ ?_
                 clear hK K)
              | (refine Grow.step_off (by rfl) ?_
                 go_simp
                 refine hK _ _ ?_
                 clear hK K)
              refine Grow.Wk.step (fun K hK => ?_)
              first
              | (refine Grow.step_read (by rfl) (by rfl) ext_refl ?_
                 apply Exists.intro
                 refine ⟨fun w hB hF => ?_, ?_⟩
                 · obtain ⟨x0, x1, x2, x3, x4, x5, x6, x7⟩ := HFX.out _ hB
                   go_simp
                   try exact rfl
                 go_simp
                 refine hK _ _ ?_
                 clear hK K)
              | (refine Grow.step_off (by rfl) ?_
                 go_simp
                 refine hK _ _ ?_
                 clear hK K)
              refine Grow.Wk.step (fun K hK => ?_)
              first
              | (refine Grow.step_read (by rfl) (by rfl) ext_refl ?_
                 apply Exists.intro
                 refine ⟨fun w hB hF => ?_, ?_⟩
                 · obtain ⟨c7, d7, kx0, ky0⟩ := HFA.out _ hB
                   go_simp
                   try exact rfl
                 go_simp
                 refine hK _ _ ?_
                 clear hK K)
              | (refine Grow.step_off (by rfl) ?_
                 go_simp
                 refine hK _ _ ?_
                 clear hK K)
              refine Grow.Wk.step (fun K hK => ?_)
              first
              | (refine Grow.step_read (by rfl) (by rfl) ext_refl ?_
                 apply Exists.intro
                 refine ⟨fun w hB hF => ?_, ?_⟩
                 · obtain ⟨c7, d7, kx0, ky0⟩ := HFA.out _ hB
                   go_simp
                   try exact rfl
                 go_simp
                 refine hK _ _ ?_
                 clear hK K)
              | (refine Grow.step_off (by rfl) ?_
                 go_simp
                 refine hK _ _ ?_
                 clear hK K)
              refine Grow.Wk.step (fun K hK => ?_)
              first
              | (refine Grow.step_read (by rfl) (by rfl) ext_refl ?_
                 apply Exists.intro
                 refine ⟨fun w hB hF => ?_, ?_⟩
                 · obtain ⟨c7, d7, kx0, ky0⟩ := HFA.out _ hB
                   go_simp
                   try exact rfl
                 go_simp
                 refine hK _ _ ?_
                 clear hK K)
              | (refine Grow.step_off (by rfl) ?_
                 go_simp
                 refine hK _ _ ?_
                 clear hK K)
              refine Grow.Wk.step (fun K hK => ?_)
              first
              | (refine Grow.step_read (by rfl) (by rfl) ext_refl ?_
                 apply Exists.intro
                 refine ⟨fun w hB hF => ?_, ?_⟩
                 · obtain ⟨c7, d7, kx0, ky0⟩ := HFA.out _ hB
                   go_simp
                   try exact rfl
                 go_simp
                 refine hK _ _ ?_
                 clear hK K)
              | (refine Grow.step_off (by rfl) ?_
                 go_simp
                 refine hK _ _ ?_
                 clear hK K)
              refine Grow.Wk.step (fun K hK => ?_)
              first
              | (refine Grow.step_read (by rfl) (by rfl) ext_refl ?_
                 apply Exists.intro
                 refine ⟨fun w hB hF => ?_, ?_⟩
                 · obtain ⟨c7, d7, kx0, ky0⟩ := HFA.out _ hB
                   go_simp
                   try exact rfl
                 go_simp
                 refine hK _ _ ?_
                 clear hK K)
              | (refine Grow.step_off (by rfl) ?_
                 go_simp
                 refine hK _ _ ?_
                 clear hK K)
              refine Grow.Wk.step (fun K hK => ?_)
              first
              | (refine Grow.step_read (by rfl) (by rfl) ext_refl ?_
                 apply Exists.intro
                 refine ⟨fun w hB hF => ?_, ?_⟩
                 · obtain ⟨y0, y1, y2, y3, y4, y5, y6, y7⟩ := HFY.out _ hB
                   go_simp
                   try exact rfl
                 go_simp
                 refine hK _ _ ?_
                 clear hK K)
              | (refine Grow.step_off (by rfl) ?_
                 go_simp
                 refine hK _ _ ?_
                 clear hK K)
              refine Grow.Wk.step (fun K hK => ?_)
              refine Grow.step_rel (by rfl) (by rfl) (fun w' hB hF => ?_) (fun v hv => ?_)
              · go_simp
                refine Grow.relUpon_enter ((HIH.out w' hB).mono ?_)
                rintro e w'' ⟨rfl, hw''⟩
                exact ⟨_, rfl, hw'', rfl, trivial⟩
              obtain rfl : v = _ := hv
              go_simp
              refine hK _ _ ?_
              clear hK K
              repeat
                (refine Grow.Wk.step (fun K hK => ?_)
                 first
                 | (refine Grow.step_read (by rfl) (by rfl) ext_refl ?_
                    apply Exists.intro
                    refine ⟨fun w hB hF => ?_, ?_⟩
                    · skip
                      go_simp
                      try exact rfl
                    go_simp
                    refine hK _ _ ?_
                    clear hK K)
                 | (refine Grow.step_off (by rfl) ?_
                    go_simp
                    refine hK _ _ ?_
                    clear hK K))
              refine Grow.Wk.nil ?_
              intro w4 hB hF
              clear hF
              cases bq with
              | false =>
                have HF : Hid (T = false) := Lib.hid (by rw [HT3.out, HDR2.out]; rfl)
                have HEE := Lib.hid (ext_trans HEr.out hB)
                clear hB
                go_wp2_with fail
                go_ret
                exact ⟨ret_bool HF.out.symm, HEE.out⟩
              | true =>
                have HN : Hid (exactM m m' = exactM (m.drop (i + 1)) (m'.drop (i + 1))) := Lib.hid (by rw [HDR2.out, Bool.true_and])
                have HXX := Lib.hid hB
                clear hB
                go_wp2_with fail
                go_roundw
                case rel => exact ⟨i + 1, by go_num, by omega, ext_trans hEr0.out HXX.out, HN.out⟩
                case measure => simp [intOf]; omega
          · obtain rfl : i = m.length := by omega
            have HF : Hid (T = true) := Lib.hid (by
              rw [HT3.out, HDR.out, List.drop_of_length_le (Nat.le_refl _), List.drop_of_length_le (by have := H6.out; omega), exactM])
            clear HDR hi hlt
            go_wp2_with fail
            go_ret
            exact ⟨ret_bool HF.out.symm, HEr.out⟩
theorem exact_any (t u : Tree) (A A' : Nat → Prop) (c c' : Array Value) (w : World) (ht : TV w A t c) (hu : TV w A' u c') :
    Calls Tryd.prog 15 #[.agg c, .agg c'] w (fun e w' => e = .returned (.bool (exactT t u)) ∧ Ext w w') := by
  have h : ∀ N : Nat, ∀ (t u : Tree) (A A' : Nat → Prop) (c c' : Array Value) (w : World), SizeOf.sizeOf t < N → TV w A t c → TV w A' u c' →
      Calls Tryd.prog 15 #[.agg c, .agg c'] w (fun e w' => e = .returned (.bool (exactT t u)) ∧ Ext w w') := by
    intro N
    induction N with
    | zero => intro t u A A' c c' w h; omega
    | succ N ih => exact exact_step N ih
  exact h _ t u A A' c c' w (Nat.lt_succ_self _) ht hu
end Go.Proofs.YtckpndbmpigegaaDoor
