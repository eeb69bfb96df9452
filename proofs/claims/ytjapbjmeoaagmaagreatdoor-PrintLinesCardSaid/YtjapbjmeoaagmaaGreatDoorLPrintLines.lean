/- PrintLines: in lines a value has as many LF as elements and members, and one more for each Arr and Obj that is not empty: whatever the arguments, the law returns true and what came in reads as it did. No condition. -/
import Derived.Test.YtjapbjmeoaagmaaGreatDoorRows
import Derived.Test.YtjapbjmeoaagmaaGreatDoorCards
import Derived.Test.YtjapbjmeoaagmaaGreatDoorTie
import Derived.Test.YtjapbjmeoaagmaaGreatDoorQPrintLines3
import Derived.Test.YtjapbjmeoaagmaaGreatDoorQPrintLines1
import Derived.ProofKit
import Derived.SizedLaws
import Derived.OpenShut
import Derived.Lay
import Derived.LaidMore
import Derived.SevenTiedAt
import Derived.IntWalk
set_option linter.unusedVariables false
set_option linter.unusedSimpArgs false
set_option maxRecDepth 100000
namespace Go.Proofs.YtjapbjmeoaagmaaGreatDoor.printLines
open Go.ChangeShapes Go.WideShapes Go.ChangeAt Go.RowKit Go.Mem Orange
-- a region that reads and calls what adds alone: $1: the world, $2: the calls' values
-- the box of an argument $1: its TV: $2, named by $3 (k b d ..), the world $4 -> $5; leaves HC$3, HTV$3
-- a call's world: hx : Ext w w': carries the boxes ($2: their names) and HE; new name of the world: $1

theorem count_snoc (s : ByteArray) (k : Nat) (h : k < s.size) : (s.data.toList.take (k + 1)).count 10 = (s.data.toList.take k).count 10 + (if s[k] = 10 then 1 else 0) := by
  rw [take_snoc s k h, List.count_append, List.count_singleton]
  simp
set_option maxHeartbeats 12800000 in
theorem walk (t : Tree) (c : Array Value) (b1 : Int) (h0 : -9223372036854775808 ≤ b1) (h1 : b1 ≤ 9223372036854775807) (w : World) (hT : Tab w) (ht : TV w (fun _ => True) t c) (hok : okT t) :
    Calls Tryz.prog 11 #[.agg c, .int .i64 b1] w fun e w' => e = .returned (.bool true) ∧ Ext w w' := by
  have HTB := Lib.hid hT
  have HOK := Lib.hid hok
  clear hT hok
  obtain ⟨kA, bA, dA, sA, laA, lnA, lcA, maA, mnA, mcA, rfl⟩ := ht.eight
  obtain ⟨wA, ewA⟩ : ∃ W, w.alloc (.cells (cellsV kA bA dA sA (.slice laA lnA lcA) (.slice maA mnA mcA)) 27) = W := ⟨_, rfl⟩
  have nwA : wA.heap[w.heap.size]? = some (.cells (cellsV kA bA dA sA (.slice laA lnA lcA) (.slice maA mnA mcA)) 27) := by rw [← ewA]; exact heap_alloc_new _ _
  have xwA : Ext w wA := by rw [← ewA]; exact (ext_refl _).alloc (Nat.le_refl _) _
  have swA : wA.heap.size = w.heap.size + 1 := by rw [← ewA]; simp
  have HCA : Hid (VAt wA w.heap.size (cellsV kA bA dA sA (.slice laA lnA lcA) (.slice maA mnA mcA))) := Lib.hid nwA
  have HTVA := Lib.hid (ht.keep (w' := wA) (A' := fun _ => True) xwA.size (fun g _ hlt => ⟨trivial, xwA.block g hlt⟩))
  have EA := Lib.hid ewA
  clear nwA ewA
  have HE := Lib.hid xwA
  clear ht xwA swA
  obtain ⟨p, hp, hp3⟩ := pick_low 2 3 (by decide) (by decide) b1
  have hp4 : p < 4 := hp3
  clear hp3
  simp only [cellsV] at HCA EA HTVA ⊢
  go_enter Tryz.func11, Tryz.ntmps11
  go_upto_region 1 with fail
  rw [EA.out]
  obtain ⟨S, hS⟩ : ∃ S, w.heap.size = S := ⟨_, rfl⟩
  rw [hS] at HCA ⊢
  clear hS EA
  go_wp2_with fail
  refine (pawake5 wA (HTB.out.ext HE.out)).mono ?_
  rintro e w1 ⟨rfl, hx1⟩
  replace HCA := Lib.hid (HCA.out.ext hx1)
  replace HTVA := Lib.hid (HTVA.out.keep (A' := fun _ => True) hx1.size (fun g _ hlt => ⟨trivial, hx1.block g hlt⟩))
  replace HE := Lib.hid (ext_trans HE.out hx1)
  clear hx1
  have c0 := HCA.out.cell 0; have c1 := HCA.out.cell 1; have c2 := HCA.out.cell 2; have c3 := HCA.out.cell 3; have c4 := HCA.out.cell 4; have c5 := HCA.out.cell 5; have c6 := HCA.out.cell 6; have c7 := HCA.out.cell 7
  simp at c0 c1 c2 c3 c4 c5 c6 c7
  go_wp2_with fail
  refine (few_any t _ _ 1500 w1 HOK.out (by omega) (by omega) HTVA.out).mono ?_
  rintro e w2 ⟨rfl, hx2⟩
  replace HCA := Lib.hid (HCA.out.ext hx2)
  replace HTVA := Lib.hid (HTVA.out.keep (A' := fun _ => True) hx2.size (fun g _ hlt => ⟨trivial, hx2.block g hlt⟩))
  replace HE := Lib.hid (ext_trans HE.out hx2)
  clear hx2
  clear c0 c1 c2 c3 c4 c5 c6 c7
  have c0 := HCA.out.cell 0; have c1 := HCA.out.cell 1; have c2 := HCA.out.cell 2; have c3 := HCA.out.cell 3; have c4 := HCA.out.cell 4; have c5 := HCA.out.cell 5; have c6 := HCA.out.cell 6; have c7 := HCA.out.cell 7
  simp at c0 c1 c2 c3 c4 c5 c6 c7
  by_cases hf : 0 ≤ fewT 0 1500 t
  · have hwt : weightT t ≤ 1500 := by have := fewT_weight t 0 1500 hf; omega
    rw [decide_eq_true hf]
    clear hf
    go_wp2_with fail
    refine (Sane_any t _ _ w2 (by omega) HTVA.out).mono ?_
    rintro e w3 ⟨rfl, hx3⟩
    replace HCA := Lib.hid (HCA.out.ext hx3)
    replace HTVA := Lib.hid (HTVA.out.keep (A' := fun _ => True) hx3.size (fun g _ hlt => ⟨trivial, hx3.block g hlt⟩))
    replace HE := Lib.hid (ext_trans HE.out hx3)
    clear hx3
    clear c0 c1 c2 c3 c4 c5 c6 c7
    have c0 := HCA.out.cell 0; have c1 := HCA.out.cell 1; have c2 := HCA.out.cell 2; have c3 := HCA.out.cell 3; have c4 := HCA.out.cell 4; have c5 := HCA.out.cell 5; have c6 := HCA.out.cell 6; have c7 := HCA.out.cell 7
    simp at c0 c1 c2 c3 c4 c5 c6 c7
    cases hsn : saneT 0 0 t with
    | mk er m =>
      by_cases he : er = 0
      · subst he
        have HSN := Lib.hid hsn
        clear hsn
        go_wp2_with fail
        refine (pretty_any t _ _ (p : Int) w3 HTVA.out (by omega) (HTB.out.ext HE.out)).mono ?_
        rintro e w4 ⟨rfl, hx4⟩
        replace HCA := Lib.hid (HCA.out.ext hx4)
        replace HTVA := Lib.hid (HTVA.out.keep (A' := fun _ => True) hx4.size (fun g _ hlt => ⟨trivial, hx4.block g hlt⟩))
        replace HE := Lib.hid (ext_trans HE.out hx4)
        clear hx4
        clear c0 c1 c2 c3 c4 c5 c6 c7
        by_cases hpr : (prettyT t p).2 = 0
        · have hll := lines_law hpr
          have hlen : (prettyT t p).1.length ≤ 65536 := by
            obtain ⟨_, _, _, e1, e2⟩ := prettyT_zero hpr
            rw [e1]; exact e2
          rw [hpr]
          generalize (prettyT t p).1 = l at *
          obtain ⟨s, hs⟩ : ∃ s : ByteArray, s = ⟨l.toArray⟩ := ⟨_, rfl⟩
          rw [← hs]
          have hsl : s.data.toList = l := by rw [hs]
          have hsz : s.size ≤ 65536 := by rw [hs]; simpa [ByteArray.size] using hlen
          have HSL := Lib.hid hsl
          have HLL := Lib.hid hll
          have hct : countT t ≤ 1500 := by have := count_weight t; omega
          have hft : fullT t ≤ 1500 := by have := full_count t; omega
          clear hs hsl hll hlen hpr hp
          go_wp2_with fail
          go_loopw [8, 9] (fun nv iv wr => ∃ i : Nat, nv = .int .i64 ((s.data.toList.take i).count 10 : Nat) ∧ iv = .int .i64 i ∧ i ≤ s.size ∧ wr = w4) (fun _ iv _ => 100000 - (intOf iv).toNat)
          case atStart => exact ⟨0, by rw [List.take_zero]; rfl, rfl, by omega, rfl⟩
          case round =>
            obtain ⟨i, rfl, rfl, hi, rfl⟩ := hrel
            obtain ⟨N, hN⟩ : ∃ N, (s.data.toList.take i).count 10 = N := ⟨_, rfl⟩
            rw [hN]
            have hNi : N ≤ i := by rw [← hN]; refine Nat.le_trans List.count_le_length ?_; rw [List.length_take]; omega
            have HN := Lib.hid hN
            clear hN
            by_cases hlt : i < s.size
            · have hlti : (i : Int) < s.size := by omega
              have hi0 : (0 : Int) ≤ i := by omega
              have HSC := Lib.hid (count_snoc s i hlt)
              have e9 : IntKind.i64.wrap ((i : Int) + 1) = ((i + 1 : Nat) : Int) := by rw [IntWalk.i64_in _ (by omega)]; omega
              have e8 : IntKind.i64.wrap ((N : Int) + 1) = ((N + 1 : Nat) : Int) := by rw [IntWalk.i64_in _ (by omega)]; omega
              obtain ⟨x, hx⟩ : ∃ x, s[i] = x := ⟨_, rfl⟩
              have HX := Lib.hid hx
              by_cases hc : x = 10
              · have hq := b_eq x 10 10 rfl hc
                have HCC := Lib.hid hc
                clear hc
                go_wp2_with fail
                go_roundw
                case rel => exact ⟨i + 1, by rw [HSC.out, HX.out, HCC.out, if_pos rfl, HN.out]; go_num, by go_num, by omega, by first | trivial | rfl⟩
                case measure => simp [intOf]; omega
              · have hq := b_ne x 10 10 rfl hc
                have HCC := Lib.hid hc
                clear hc
                go_wp2_with fail
                go_roundw
                case rel => exact ⟨i + 1, by rw [HSC.out, HX.out, if_neg HCC.out, HN.out]; rfl, by go_num, by omega, by first | trivial | rfl⟩
                case measure => simp [intOf]; omega
            · obtain rfl : i = s.size := by omega
              have hnlt : ¬ ((s.size : Int) < (s.size : Int)) := by omega
              have hN2 := HN.out
              rw [show s.size = s.data.toList.length from Array.length_toList.symm, List.take_length, HSL.out] at hN2
              have hfin : N + 1 = countT t + fullT t := by rw [← hN2]; exact HLL.out
              clear hN2
              have hcp : 1 ≤ countT t := by cases t; rw [countT]; omega
              obtain ⟨C, hC⟩ : ∃ C, countT t = C := ⟨_, rfl⟩
              obtain ⟨F, hF⟩ : ∃ F, fullT t = F := ⟨_, rfl⟩
              have HCNT := Lib.hid (fun w' (hw : Ext wr w') => count_any t (fun _ => True) _ w' (by omega) (HTVA.out.keep hw.size (fun g _ hlt => ⟨trivial, hw.block g hlt⟩)))
              have HFUL := Lib.hid (fun w' (hw : Ext wr w') => full_any t (fun _ => True) _ w' (by omega) (HTVA.out.keep hw.size (fun g _ hlt => ⟨trivial, hw.block g hlt⟩)))
              rw [hC] at HCNT hfin hct hcp
              rw [hF] at HFUL hfin hft
              clear hC hF
              obtain ⟨C1, hC1⟩ : ∃ C1, C - 1 = C1 := ⟨_, rfl⟩
              have e7 : IntKind.i64.wrap ((C : Int) - 1) = (C1 : Int) := by rw [IntWalk.i64_in _ (by omega)]; omega
              have e6 : IntKind.i64.wrap ((C1 : Int) + F) = (N : Int) := by rw [IntWalk.i64_in _ (by omega)]; omega
              have HFIN := Lib.hid hfin
              clear hC1 hfin
              go_upto_region 13 with fail
              refine Grow.wp_region_litW (G := Ext) (B := fun w' => Ext wr w') (anc := fun _ => []) (I := fun j => if j = 4 then some (Grow.Spec.val Ext (.int .i64 (C : Nat))) else if j = 7 then some (Grow.Spec.val Ext (.int .i64 (F : Nat))) else none) (by kernel_rfl) (by kernel_rfl) (by kernel_rfl) ?_ ?_ ?_
              · exact fun w w' h hg => ext_trans h hg
              · exact (ext_refl _).drew
              repeat
                (refine Grow.Wk.step (fun K hK => ?_)
                 first
                 | (refine Grow.step_read (by rfl) (by rfl) (fun w => ext_refl w) ?_
                    apply Exists.intro
                    refine ⟨fun w hB hF => ?_, ?_⟩
                    · replace hB : Ext _ w := hB; have c0 := (HCA.out.ext hB).cell 0; have c1 := (HCA.out.ext hB).cell 1; have c2 := (HCA.out.ext hB).cell 2; have c3 := (HCA.out.ext hB).cell 3; have c4 := (HCA.out.ext hB).cell 4; have c5 := (HCA.out.ext hB).cell 5; have c6 := (HCA.out.ext hB).cell 6; have c7 := (HCA.out.ext hB).cell 7; simp at c0 c1 c2 c3 c4 c5 c6 c7
                      go_simp
                      try exact rfl
                    go_simp
                    refine hK _ _ ?_
                    clear hK K)
                 | (refine Grow.step_off (by rfl) ?_
                    go_simp
                    refine hK _ _ ?_
                    clear hK K))
              refine Grow.Wk.step (fun K hK => ?_)
              refine Grow.step_rel (by rfl) (by rfl) (fun w' hB hF => ?_) (fun v hv => ?_)
              · go_simp
                refine Grow.relUpon_enter ((HCNT.out w' hB).mono ?_)
                rintro e w'' ⟨rfl, hw''⟩
                exact ⟨_, rfl, hw'', rfl, trivial⟩
              obtain rfl : v = _ := hv
              go_simp
              refine hK _ _ ?_
              clear hK K
              repeat
                (refine Grow.Wk.step (fun K hK => ?_)
                 first
                 | (refine Grow.step_read (by rfl) (by rfl) (fun w => ext_refl w) ?_
                    apply Exists.intro
                    refine ⟨fun w hB hF => ?_, ?_⟩
                    · replace hB : Ext _ w := hB; have c0 := (HCA.out.ext hB).cell 0; have c1 := (HCA.out.ext hB).cell 1; have c2 := (HCA.out.ext hB).cell 2; have c3 := (HCA.out.ext hB).cell 3; have c4 := (HCA.out.ext hB).cell 4; have c5 := (HCA.out.ext hB).cell 5; have c6 := (HCA.out.ext hB).cell 6; have c7 := (HCA.out.ext hB).cell 7; simp at c0 c1 c2 c3 c4 c5 c6 c7
                      go_simp
                      try exact rfl
                    go_simp
                    refine hK _ _ ?_
                    clear hK K)
                 | (refine Grow.step_off (by rfl) ?_
                    go_simp
                    refine hK _ _ ?_
                    clear hK K))
              refine Grow.Wk.step (fun K hK => ?_)
              refine Grow.step_rel (by rfl) (by rfl) (fun w' hB hF => ?_) (fun v hv => ?_)
              · go_simp
                refine Grow.relUpon_enter ((HFUL.out w' hB).mono ?_)
                rintro e w'' ⟨rfl, hw''⟩
                exact ⟨_, rfl, hw'', rfl, trivial⟩
              obtain rfl : v = _ := hv
              go_simp
              refine hK _ _ ?_
              clear hK K
              repeat
                (refine Grow.Wk.step (fun K hK => ?_)
                 first
                 | (refine Grow.step_read (by rfl) (by rfl) (fun w => ext_refl w) ?_
                    apply Exists.intro
                    refine ⟨fun w hB hF => ?_, ?_⟩
                    · skip
                      go_simp
                      try exact rfl
                    go_simp
                    refine hK _ _ ?_
                    clear hK K)
                 | (refine Grow.step_off (by rfl) ?_
                    go_simp
                    refine hK _ _ ?_
                    clear hK K))
              refine Grow.Wk.nil ?_
              intro w5 hB hF
              replace hB : Ext wr w5 := hB
              clear hF
              go_wp2_with fail
              go_ret
              exact ⟨rfl, ext_trans HE.out hB⟩
        · have h4 := prettyT_err HSN.out (by omega) (by omega) hpr
          rw [h4]
          clear hpr h4
          go_wp2_with fail
          go_ret
          exact ⟨rfl, HE.out⟩
      · have hne : (er != 0) = true := by simpa using he
        clear hsn
        go_wp2_with fail
        go_ret
        exact ⟨rfl, HE.out⟩
  · rw [decide_eq_false hf]
    go_wp2_with fail
    go_ret
    exact ⟨rfl, HE.out⟩
set_option linter.unusedSimpArgs false
theorem own : ownKnob Tryz.prog.godebug = none := by kernel_rfl
theorem laid : laidOutB Tryz.prog = true := by kernel_rfl
set_option maxHeartbeats 1600000 in
set_option maxRecDepth 100000 in
theorem lifted (os : Os) (started : os.Started) (H : Type) (enc : TypeId × Value → H) :
    ReturnsInHanded {} Tryz.checked os 11 .any (fun w args => (Rows.printLinesSpec.pre enc Tryz.prog Tryz.f11 [] false w args ∧ laidMetH Tryz.prog Rows.printLinesRow.laid w) ∧ sizedMet enc Tryz.prog Tryz.f11 (OpenSpec.ofChange Rows.printLinesSpec) false w args) (Rows.printLinesSpec.post enc Tryz.prog Tryz.f11 false true false false) := by
  refine returnsInHanded_of_change_and (C := Tryz.checked) (X := fun w _ => laidMetH Tryz.prog Rows.printLinesRow.laid w) (fun _ _ _ hh h => h.of_heap hh) own started (by kernel_rfl) Tryz.func11
    (ChangeSpec.witness_shaped (enc := enc) (C := Tryz.checked) (os := os) (X := fun w _ => laidMetH Tryz.prog Rows.printLinesRow.laid w) false (World.laidAll Tryz.prog os Rows.printLinesRow.laid) #[.agg #[.int .i64 0, .bool false, .bool false, .string ⟨#[]⟩, .int .i64 0, .string ⟨#[]⟩, .slice none 0 0, .slice none 0 0], .int .i64 0] 8 (World.laidAll_os _ _ _)
      (World.shaped_of_ZipB (by kernel_rfl) (by kernel_rfl)) (by kernel_rfl) (by kernel_rfl) (by kernel_rfl)
      (by rw [MakeChecks.laidMetH_plain _ _ _ (by kernel_rfl)]; exact laidMet_laidAll _ (by kernel_rfl) (by kernel_rfl))) ?_
  intro W base args ds gs before hval0 hW _ hsz0 hX _
  have hT : Tab W := tab_of hX
  have hsz : (DataW.weightsEach Tryz.prog (Tryz.f11.params.toList ++ Rows.printLinesSpec.plain.varTypes Tryz.prog) (ds ++ gs)).all (· ≤ reachBytes) = true := hsz0
  clear hsz0
  have hval : ∀ (j : Nat) t v, Tryz.f11.params[j]? = some t → args[j]? = some v → Value.okWide Tryz.prog W .any base t v := hval0
  have hW' := hW
  obtain ⟨p, q, hA0, hV, rfl, _, _⟩ := hW
  have hA : DataW.TrodAll enc Tryz.prog W 0 (fun _ => true) true Tryz.f11.params.toList args.toList ds p := hA0
  rw [Tryz.params11] at hA hval hsz
  obtain ⟨v0, vs0, d0, ds0, p0, q0, ha0, rfl, rfl, h0, r0⟩ := trodAll_cons hA
  obtain ⟨v1, vs1, d1, ds1, p1, q1, ha1, rfl, rfl, h1, r1⟩ := trodAll_cons r0
  obtain ⟨hb2, rfl, rfl⟩ := trodAll_nil r1
  subst hb2
  subst ha1
  obtain rfl : args = #[v0, v1] := by cases args; simpa using ha0
  obtain ⟨rfl, rfl⟩ := trodVars_none hV
  have hk0 := h0
  obtain ⟨cs0, rfl, _⟩ := okWide_struct Tryz.underlying27 (hval 0 27 v0 rfl rfl)
  obtain ⟨fu0, hf0⟩ := h0
  obtain ⟨t0, ht0, hok0⟩ := trod_val (enc := enc) W fu0 _ d0 p0 hf0 (fun n hn => by simpa using List.all_eq_true.1 hsz _ (DataW.weights_mem_each (j := 0) rfl rfl n hn))
  have hk1 := h1
  obtain ⟨a1, rfl, rfl, rfl, wf1⟩ := open_int Tryz.underlying3 (hval 1 3 v1 rfl rfl) h1
  have hr1 : -9223372036854775808 ≤ a1 ∧ a1 ≤ 9223372036854775807 := by simpa [Lit.wf, IntKind.min, IntKind.max, IntKind.signed, IntKind.bits] using wf1
  have hlt := fun x hx => hW'.lt x hx
  simp only [List.append_nil, List.nil_append] at hW' hlt
  refine (walk t0 _ a1 hr1.1 hr1.2 W hT ht0 hok0).mono fun e W' ⟨he, hb⟩ => ?_
  subst he
  have hargs := (trodAll_cons_mk (Below.trod laid readV (of_decide_eq_true (by kernel_rfl)) hk0 hb (fun x hx => by first | exact hlt x hx | exact absurd hx (List.not_mem_nil) | exact hlt x (by simp [hx]))) (trodAll_cons_mk (Below.trod laid (by kernel_rfl) (of_decide_eq_true (by kernel_rfl)) hk1 hb (fun x hx => by first | exact hlt x hx | exact absurd hx (List.not_mem_nil) | exact hlt x (by simp [hx]))) trodAll_mk0))
  exact ⟨_, rfl, _, _, _, [], _, [], hW', trodAll_cons_mk (shut_bool Tryz.underlying4 _) trodAll_mk0, hargs, rfl, hb.frame _, fun h => by cases h⟩

theorem closed : joinedFacts Tryz.prog 11 Tryz.f11 Rows.printLinesSpec Rows.printLinesRow = true := by
  have hp : Tryz.f11.params.toList ++ Rows.printLinesSpec.plain.varTypes Tryz.prog = [27, 3] := by kernel_rfl
  have hr : Tryz.f11.resultTypes.toList = [4] := by kernel_rfl
  have hq : Tryz.f11.params = #[27, 3] := by kernel_rfl
  refine joined_of (by kernel_rfl) ?_ (by kernel_rfl) ?_ ?_ (by kernel_rfl) ?_ ?_ (by kernel_rfl) ?_ (veiledFits_of rfl ?_ (by kernel_rfl))
  · rw [hq]; simp [readV, show Tryz.prog.readableRec 3 = true by kernel_rfl]
  · rw [hp]; simp only [List.any_cons, List.any_nil, mapsV, show Tryz.prog.mapsRec 3 = false by kernel_rfl]; rfl
  · rw [hp]; simp only [List.any_cons, List.any_nil, ifacesV, show Tryz.prog.ifacesRec 3 = false by kernel_rfl]; rfl
  · rw [hp]; simp only [List.any_cons, List.any_nil, loopsV, show Tryz.prog.loopsFrom 3 = false by kernel_rfl]; rfl
  · rw [hp, hr]; simp only [List.cons_append, List.nil_append, List.any_cons, List.any_nil, wideV, show Tryz.prog.wideKeysFrom 3 = false by kernel_rfl, show Tryz.prog.wideKeysFrom 4 = false by kernel_rfl]; rfl
  · rw [hp, hr]; simp only [List.cons_append, List.nil_append, List.any_cons, List.any_nil, veiledV, show Tryz.prog.veiledRec 3 = false by kernel_rfl, show Tryz.prog.veiledRec 4 = false by kernel_rfl]; rfl
  · rw [hp, hr]; simp only [List.cons_append, List.nil_append, List.all_cons, List.all_nil, ownV, show Tryz.prog.veiledOwn 3 = true by kernel_rfl, show Tryz.prog.veiledOwn 4 = true by kernel_rfl]; rfl
theorem held : Rows.PrintLinesSaid :=
  OpenClaim.holds_of_wide 11 Tryz.f11 rfl rfl rfl rfl rfl rfl rfl ⟨rfl, rfl, rfl, rfl, rfl⟩ rfl rfl rfl rfl rfl (by kernel_rfl) Tryz.func11 closed
    (of_decide_eq_true (by kernel_rfl)) (by unfold Func.isWrapper; first | (rw [if_pos (by decide +kernel)]; kernel_rfl) | (rw [if_neg (by decide +kernel)]; exact ⟨rfl, rfl⟩))
    (fun os started H enc _ => lifted os started H enc)

theorem proved : Rows.PrintLinesCardSaid :=
  Claim7.holds_tied_plain_at .later [] Rows.printLinesCard.laidKinds true Rows.printLinesCard.stood.harness Rows.printLinesCard.stood.looks held (fun _ h => by cases h) (by kernel_rfl) (fun _ h => by cases h) printLines_row_tie rfl ⟨rfl, rfl⟩ (by kernel_rfl) rfl
    (fun f fn hf hfn => by
      obtain rfl : f = 11 := Option.some.inj ((show Tryz.prog.funcNamed "orangery/orangerylaw05.PrintLines" = some 11 by kernel_rfl).symm.trans hf) |>.symm
      obtain rfl : fn = Tryz.f11 := (Option.some.inj (Tryz.func11.symm.trans hfn)).symm
      exact ⟨by kernel_rfl, fun j t ht => by
        rw [Tryz.params11] at ht
        have hm : t ∈ [27, 3] := by simpa using Array.mem_of_getElem? ht
        have hall : ([27, 3].all fun u => !Tryz.prog.wantsStandIn u) = true := by kernel_rfl
        exact (show Tryz.prog.wantsStandIn t = false by simpa using List.all_eq_true.1 hall t hm)⟩)
    (by kernel_rfl)
end Go.Proofs.YtjapbjmeoaagmaaGreatDoor.printLines
