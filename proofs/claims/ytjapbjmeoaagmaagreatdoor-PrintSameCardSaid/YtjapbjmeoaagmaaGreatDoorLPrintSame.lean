/- PrintSame: SAME VALUES, SAME TEXT: two values that may be have one text just if they are the same: whatever the arguments, the law returns true and what came in reads as it did. No condition. -/
import Derived.Test.YtjapbjmeoaagmaaGreatDoorRows
import Derived.Test.YtjapbjmeoaagmaaGreatDoorCards
import Derived.Test.YtjapbjmeoaagmaaGreatDoorTie
import Derived.Test.YtjapbjmeoaagmaaGreatDoorQPrintW3
import Derived.Test.YtjapbjmeoaagmaaGreatDoorQPrintW1
import Derived.ProofKit
import Derived.SizedLaws
import Derived.OpenShut
import Derived.Lay
import Derived.LaidMore
import Derived.SevenTiedAt
import Derived.IntWalk
set_option linter.unusedVariables false
set_option linter.unusedSimpArgs false
set_option maxRecDepth 100000
namespace Go.Proofs.YtjapbjmeoaagmaaGreatDoor.printSame
open Go.ChangeShapes Go.WideShapes Go.ChangeAt Go.RowKit Go.Mem Orange
-- the box of an argument $1: its TV: $2, named by $3 (k b d ..), the world $4 -> $5; leaves HC$3, HTV$3
-- a call's world: hx : Ext w w': carries the boxes ($2: their names) and HE; new name of the world: $1
set_option maxHeartbeats 12800000 in
theorem walk (t : Tree) (c : Array Value) (u : Tree) (c' : Array Value) (w : World) (hT : Tab w) (ht : TV w (fun _ => True) t c) (hok : okT t) (hu : TV w (fun _ => True) u c') (hok' : okT u) :
    Calls Tryz.prog 13 #[.agg c, .agg c'] w fun e w' => e = .returned (.bool true) ∧ Ext w w' := by
  have HTB := Lib.hid hT
  have HOK := Lib.hid hok
  have HOK' := Lib.hid hok'
  clear hT hok hok'
  obtain ⟨kA, bA, dA, sA, laA, lnA, lcA, maA, mnA, mcA, rfl⟩ := ht.eight
  obtain ⟨wA, ewA⟩ : ∃ W, w.alloc (.cells (cellsV kA bA dA sA (.slice laA lnA lcA) (.slice maA mnA mcA)) 27) = W := ⟨_, rfl⟩
  have nwA : wA.heap[w.heap.size]? = some (.cells (cellsV kA bA dA sA (.slice laA lnA lcA) (.slice maA mnA mcA)) 27) := by rw [← ewA]; exact heap_alloc_new _ _
  have xwA : Ext w wA := by rw [← ewA]; exact (ext_refl _).alloc (Nat.le_refl _) _
  have swA : wA.heap.size = w.heap.size + 1 := by rw [← ewA]; simp
  have HCA : Hid (VAt wA w.heap.size (cellsV kA bA dA sA (.slice laA lnA lcA) (.slice maA mnA mcA))) := Lib.hid nwA
  have HTVA := Lib.hid (ht.keep (w' := wA) (A' := fun _ => True) xwA.size (fun g _ hlt => ⟨trivial, xwA.block g hlt⟩))
  have EA := Lib.hid ewA
  clear nwA ewA
  have HU0 := Lib.hid (hu.keep (w' := wA) (A' := fun _ => True) xwA.size (fun g _ hlt => ⟨trivial, xwA.block g hlt⟩))
  clear ht hu
  obtain ⟨kB, bB, dB, sB, laB, lnB, lcB, maB, mnB, mcB, rfl⟩ := HU0.out.eight
  obtain ⟨wB, ewB⟩ : ∃ W, wA.alloc (.cells (cellsV kB bB dB sB (.slice laB lnB lcB) (.slice maB mnB mcB)) 27) = W := ⟨_, rfl⟩
  have nwB : wB.heap[wA.heap.size]? = some (.cells (cellsV kB bB dB sB (.slice laB lnB lcB) (.slice maB mnB mcB)) 27) := by rw [← ewB]; exact heap_alloc_new _ _
  have xwB : Ext wA wB := by rw [← ewB]; exact (ext_refl _).alloc (Nat.le_refl _) _
  have swB : wB.heap.size = wA.heap.size + 1 := by rw [← ewB]; simp
  have HCB : Hid (VAt wB wA.heap.size (cellsV kB bB dB sB (.slice laB lnB lcB) (.slice maB mnB mcB))) := Lib.hid nwB
  have HTVB := Lib.hid (HU0.out.keep (w' := wB) (A' := fun _ => True) xwB.size (fun g _ hlt => ⟨trivial, xwB.block g hlt⟩))
  have EB := Lib.hid ewB
  clear nwB ewB
  rw [swA] at HCB
  replace HCA := Lib.hid (HCA.out.ext xwB)
  replace HTVA := Lib.hid (HTVA.out.keep (A' := fun _ => True) xwB.size (fun g _ hlt => ⟨trivial, xwB.block g hlt⟩))
  have HE := Lib.hid (ext_trans xwA xwB)
  clear HU0 xwA xwB swA swB
  simp only [cellsV] at HCA EA HTVA HCB EB HTVB ⊢
  go_enter Tryz.func13, Tryz.ntmps13
  go_upto_region 1 with fail
  rw [EA.out, EB.out]
  obtain ⟨S, hS⟩ : ∃ S, w.heap.size = S := ⟨_, rfl⟩
  rw [hS] at HCA HCB ⊢
  clear hS EA EB
  go_wp2_with fail
  refine (pawake5 wB (HTB.out.ext HE.out)).mono ?_
  rintro e w1 ⟨rfl, hx1⟩
  replace HCA := Lib.hid (HCA.out.ext hx1)
  replace HTVA := Lib.hid (HTVA.out.keep (A' := fun _ => True) hx1.size (fun g _ hlt => ⟨trivial, hx1.block g hlt⟩))
  replace HCB := Lib.hid (HCB.out.ext hx1)
  replace HTVB := Lib.hid (HTVB.out.keep (A' := fun _ => True) hx1.size (fun g _ hlt => ⟨trivial, hx1.block g hlt⟩))
  replace HE := Lib.hid (ext_trans HE.out hx1)
  clear hx1
  have c0 := HCA.out.cell 0; have c1 := HCA.out.cell 1; have c2 := HCA.out.cell 2; have c3 := HCA.out.cell 3; have c4 := HCA.out.cell 4; have c5 := HCA.out.cell 5; have c6 := HCA.out.cell 6; have c7 := HCA.out.cell 7
  simp at c0 c1 c2 c3 c4 c5 c6 c7
  go_wp2_with fail
  refine (few_any t _ _ 2000 w1 HOK.out (by omega) (by omega) HTVA.out).mono ?_
  rintro e w2 ⟨rfl, hx2⟩
  replace HCA := Lib.hid (HCA.out.ext hx2)
  replace HTVA := Lib.hid (HTVA.out.keep (A' := fun _ => True) hx2.size (fun g _ hlt => ⟨trivial, hx2.block g hlt⟩))
  replace HCB := Lib.hid (HCB.out.ext hx2)
  replace HTVB := Lib.hid (HTVB.out.keep (A' := fun _ => True) hx2.size (fun g _ hlt => ⟨trivial, hx2.block g hlt⟩))
  replace HE := Lib.hid (ext_trans HE.out hx2)
  clear hx2
  clear c0 c1 c2 c3 c4 c5 c6 c7
  by_cases hf : 0 ≤ fewT 0 2000 t
  · have hwt : weightT t ≤ 2000 := by have := fewT_weight t 0 2000 hf; omega
    rw [decide_eq_true hf]
    clear hf
    have d0 := HCB.out.cell 0; have d1 := HCB.out.cell 1; have d2 := HCB.out.cell 2; have d3 := HCB.out.cell 3; have d4 := HCB.out.cell 4; have d5 := HCB.out.cell 5; have d6 := HCB.out.cell 6; have d7 := HCB.out.cell 7
    simp at d0 d1 d2 d3 d4 d5 d6 d7
    go_wp2_with fail
    refine (few_any u _ _ 2000 w2 HOK'.out (by omega) (by omega) HTVB.out).mono ?_
    rintro e w3 ⟨rfl, hx3⟩
    replace HCA := Lib.hid (HCA.out.ext hx3)
    replace HTVA := Lib.hid (HTVA.out.keep (A' := fun _ => True) hx3.size (fun g _ hlt => ⟨trivial, hx3.block g hlt⟩))
    replace HCB := Lib.hid (HCB.out.ext hx3)
    replace HTVB := Lib.hid (HTVB.out.keep (A' := fun _ => True) hx3.size (fun g _ hlt => ⟨trivial, hx3.block g hlt⟩))
    replace HE := Lib.hid (ext_trans HE.out hx3)
    clear hx3
    clear d0 d1 d2 d3 d4 d5 d6 d7
    by_cases hf : 0 ≤ fewT 0 2000 u
    · have hwu : weightT u ≤ 2000 := by have := fewT_weight u 0 2000 hf; omega
      rw [decide_eq_true hf]
      clear hf
      have c0 := HCA.out.cell 0; have c1 := HCA.out.cell 1; have c2 := HCA.out.cell 2; have c3 := HCA.out.cell 3; have c4 := HCA.out.cell 4; have c5 := HCA.out.cell 5; have c6 := HCA.out.cell 6; have c7 := HCA.out.cell 7
      simp at c0 c1 c2 c3 c4 c5 c6 c7
      go_wp2_with fail
      refine (key_any t _ _ w3 HTVA.out (by omega) (HTB.out.ext HE.out)).mono ?_
      rintro e w4 ⟨rfl, hx4⟩
      replace HCA := Lib.hid (HCA.out.ext hx4)
      replace HTVA := Lib.hid (HTVA.out.keep (A' := fun _ => True) hx4.size (fun g _ hlt => ⟨trivial, hx4.block g hlt⟩))
      replace HCB := Lib.hid (HCB.out.ext hx4)
      replace HTVB := Lib.hid (HTVB.out.keep (A' := fun _ => True) hx4.size (fun g _ hlt => ⟨trivial, hx4.block g hlt⟩))
      replace HE := Lib.hid (ext_trans HE.out hx4)
      clear hx4
      clear c0 c1 c2 c3 c4 c5 c6 c7
      have d0 := HCB.out.cell 0; have d1 := HCB.out.cell 1; have d2 := HCB.out.cell 2; have d3 := HCB.out.cell 3; have d4 := HCB.out.cell 4; have d5 := HCB.out.cell 5; have d6 := HCB.out.cell 6; have d7 := HCB.out.cell 7
      simp at d0 d1 d2 d3 d4 d5 d6 d7
      go_wp2_with fail
      refine (key_any u _ _ w4 HTVB.out (by omega) (HTB.out.ext HE.out)).mono ?_
      rintro e w5 ⟨rfl, hx5⟩
      replace HCA := Lib.hid (HCA.out.ext hx5)
      replace HTVA := Lib.hid (HTVA.out.keep (A' := fun _ => True) hx5.size (fun g _ hlt => ⟨trivial, hx5.block g hlt⟩))
      replace HCB := Lib.hid (HCB.out.ext hx5)
      replace HTVB := Lib.hid (HTVB.out.keep (A' := fun _ => True) hx5.size (fun g _ hlt => ⟨trivial, hx5.block g hlt⟩))
      replace HE := Lib.hid (ext_trans HE.out hx5)
      clear hx5
      clear d0 d1 d2 d3 d4 d5 d6 d7
      have HSL : Hid ((printT t).2 = 0 → (printT u).2 = 0 → (sameT t u = true ↔ (printT t).1 = (printT u).1) ∧ distT t ∧ distT u) := Lib.hid (fun g1 g2 => by
        obtain ⟨⟨m, hs⟩, _⟩ := printT_zero g1
        obtain ⟨⟨m', hs'⟩, _⟩ := printT_zero g2
        exact ⟨same_law g1 g2, SaneP.dist _ t (Nat.lt_succ_self _) (OkT.saneP hs), SaneP.dist _ u (Nat.lt_succ_self _) (OkT.saneP hs')⟩)
      obtain ⟨lt1, r5⟩ : ∃ x, (printT t).1 = x := ⟨_, rfl⟩
      obtain ⟨et1, r6⟩ : ∃ x, (printT t).2 = x := ⟨_, rfl⟩
      obtain ⟨lu1, r7⟩ : ∃ x, (printT u).1 = x := ⟨_, rfl⟩
      obtain ⟨eu1, r8⟩ : ∃ x, (printT u).2 = x := ⟨_, rfl⟩
      have hsl := HSL.out
      rw [r5, r6, r7, r8] at hsl
      rw [r5, r6, r7, r8]
      clear r5 r6 r7 r8 HSL
      by_cases hz : et1 = 0
      · by_cases hz2 : eu1 = 0
        · obtain ⟨g1, g2, g3⟩ := hsl hz hz2
          subst hz hz2
          clear hsl
          obtain ⟨bs, hbs⟩ : ∃ bs, sameT t u = bs := ⟨_, rfl⟩
          have HS : Hid (Calls Tryz.prog 25 _ w5 (fun e w' => e = .returned (.bool bs) ∧ Ext w5 w')) := Lib.hid (by
            have := same_any t u _ _ _ _ w5 (by omega) (by omega) g2 g3 HTVA.out HTVB.out
            rw [hbs] at this
            exact this)
          rw [hbs] at g1
          clear hbs g2 g3
          by_cases hc : lt1 = lu1
          · have hbt : bs = true := g1.2 hc
            subst hbt
            subst hc
            clear g1
            have c0 := HCA.out.cell 0; have c1 := HCA.out.cell 1; have c2 := HCA.out.cell 2; have c3 := HCA.out.cell 3; have c4 := HCA.out.cell 4; have c5 := HCA.out.cell 5; have c6 := HCA.out.cell 6; have c7 := HCA.out.cell 7
            simp at c0 c1 c2 c3 c4 c5 c6 c7
            have d0 := HCB.out.cell 0; have d1 := HCB.out.cell 1; have d2 := HCB.out.cell 2; have d3 := HCB.out.cell 3; have d4 := HCB.out.cell 4; have d5 := HCB.out.cell 5; have d6 := HCB.out.cell 6; have d7 := HCB.out.cell 7
            simp at d0 d1 d2 d3 d4 d5 d6 d7
            go_wp2_with fail
            refine (HS.out).mono ?_
            rintro e w6 ⟨rfl, hx6⟩
            have HE6 := Lib.hid (ext_trans HE.out hx6)
            clear hx6
            go_wp2_with fail
            go_ret
            exact ⟨rfl, HE6.out⟩
          · have hbt : bs = false := by
              cases bs with
              | true => exact absurd (g1.1 rfl) hc
              | false => rfl
            have hcb : (lt1 == lu1) = false := by simpa using hc
            subst hbt
            clear g1
            have c0 := HCA.out.cell 0; have c1 := HCA.out.cell 1; have c2 := HCA.out.cell 2; have c3 := HCA.out.cell 3; have c4 := HCA.out.cell 4; have c5 := HCA.out.cell 5; have c6 := HCA.out.cell 6; have c7 := HCA.out.cell 7
            simp at c0 c1 c2 c3 c4 c5 c6 c7
            have d0 := HCB.out.cell 0; have d1 := HCB.out.cell 1; have d2 := HCB.out.cell 2; have d3 := HCB.out.cell 3; have d4 := HCB.out.cell 4; have d5 := HCB.out.cell 5; have d6 := HCB.out.cell 6; have d7 := HCB.out.cell 7
            simp at d0 d1 d2 d3 d4 d5 d6 d7
            go_wp2_with fail
            refine (HS.out).mono ?_
            rintro e w6 ⟨rfl, hx6⟩
            have HE6 := Lib.hid (ext_trans HE.out hx6)
            clear hx6
            go_wp2_with fail
            go_ret
            exact ⟨rfl, HE6.out⟩
        · have hne : (eu1 != 0) = true := by simpa using hz2
          subst hz
          clear hsl hz2
          go_wp2_with fail
          go_ret
          exact ⟨rfl, HE.out⟩
      · have hne : (et1 != 0) = true := by simpa using hz
        clear hsl hz
        go_wp2_with fail
        go_ret
        exact ⟨rfl, HE.out⟩
    · rw [decide_eq_false hf]
      go_wp2_with fail
      go_ret
      exact ⟨rfl, HE.out⟩
  · rw [decide_eq_false hf]
    go_wp2_with fail
    go_ret
    exact ⟨rfl, HE.out⟩
set_option linter.unusedSimpArgs false
theorem own : ownKnob Tryz.prog.godebug = none := by kernel_rfl
theorem laid : laidOutB Tryz.prog = true := by kernel_rfl
set_option maxHeartbeats 1600000 in
set_option maxRecDepth 100000 in
theorem lifted (os : Os) (started : os.Started) (H : Type) (enc : TypeId × Value → H) :
    ReturnsInHanded {} Tryz.checked os 13 .any (fun w args => (Rows.printSameSpec.pre enc Tryz.prog Tryz.f13 [] false w args ∧ laidMetH Tryz.prog Rows.printSameRow.laid w) ∧ sizedMet enc Tryz.prog Tryz.f13 (OpenSpec.ofChange Rows.printSameSpec) false w args) (Rows.printSameSpec.post enc Tryz.prog Tryz.f13 false true false false) := by
  refine returnsInHanded_of_change_and (C := Tryz.checked) (X := fun w _ => laidMetH Tryz.prog Rows.printSameRow.laid w) (fun _ _ _ hh h => h.of_heap hh) own started (by kernel_rfl) Tryz.func13
    (ChangeSpec.witness_shaped (enc := enc) (C := Tryz.checked) (os := os) (X := fun w _ => laidMetH Tryz.prog Rows.printSameRow.laid w) false (World.laidAll Tryz.prog os Rows.printSameRow.laid) #[.agg #[.int .i64 0, .bool false, .bool false, .string ⟨#[]⟩, .int .i64 0, .string ⟨#[]⟩, .slice none 0 0, .slice none 0 0], .agg #[.int .i64 0, .bool false, .bool false, .string ⟨#[]⟩, .int .i64 0, .string ⟨#[]⟩, .slice none 0 0, .slice none 0 0]] 8 (World.laidAll_os _ _ _)
      (World.shaped_of_ZipB (by kernel_rfl) (by kernel_rfl)) (by kernel_rfl) (by kernel_rfl) (by kernel_rfl)
      (by rw [MakeChecks.laidMetH_plain _ _ _ (by kernel_rfl)]; exact laidMet_laidAll _ (by kernel_rfl) (by kernel_rfl))) ?_
  intro W base args ds gs before hval0 hW _ hsz0 hX _
  have hT : Tab W := tab_of hX
  have hsz : (DataW.weightsEach Tryz.prog (Tryz.f13.params.toList ++ Rows.printSameSpec.plain.varTypes Tryz.prog) (ds ++ gs)).all (· ≤ reachBytes) = true := hsz0
  clear hsz0
  have hval : ∀ (j : Nat) t v, Tryz.f13.params[j]? = some t → args[j]? = some v → Value.okWide Tryz.prog W .any base t v := hval0
  have hW' := hW
  obtain ⟨p, q, hA0, hV, rfl, _, _⟩ := hW
  have hA : DataW.TrodAll enc Tryz.prog W 0 (fun _ => true) true Tryz.f13.params.toList args.toList ds p := hA0
  rw [Tryz.params13] at hA hval hsz
  obtain ⟨v0, vs0, d0, ds0, p0, q0, ha0, rfl, rfl, h0, r0⟩ := trodAll_cons hA
  obtain ⟨v1, vs1, d1, ds1, p1, q1, ha1, rfl, rfl, h1, r1⟩ := trodAll_cons r0
  obtain ⟨hb2, rfl, rfl⟩ := trodAll_nil r1
  subst hb2
  subst ha1
  obtain rfl : args = #[v0, v1] := by cases args; simpa using ha0
  obtain ⟨rfl, rfl⟩ := trodVars_none hV
  have hk0 := h0
  obtain ⟨cs0, rfl, _⟩ := okWide_struct Tryz.underlying27 (hval 0 27 v0 rfl rfl)
  obtain ⟨fu0, hf0⟩ := h0
  obtain ⟨t0, ht0, hok0⟩ := trod_val (enc := enc) W fu0 _ d0 p0 hf0 (fun n hn => by simpa using List.all_eq_true.1 hsz _ (DataW.weights_mem_each (j := 0) rfl rfl n hn))
  have hk1 := h1
  obtain ⟨cs1, rfl, _⟩ := okWide_struct Tryz.underlying27 (hval 1 27 v1 rfl rfl)
  obtain ⟨fu1, hf1⟩ := h1
  obtain ⟨t1, ht1, hok1⟩ := trod_val (enc := enc) W fu1 _ d1 p1 hf1 (fun n hn => by simpa using List.all_eq_true.1 hsz _ (DataW.weights_mem_each (j := 1) rfl rfl n hn))
  have hlt := fun x hx => hW'.lt x hx
  simp only [List.append_nil, List.nil_append] at hW' hlt
  refine (walk t0 _ t1 _ W hT ht0 hok0 ht1 hok1).mono fun e W' ⟨he, hb⟩ => ?_
  subst he
  have hargs := (trodAll_cons_mk (Below.trod laid readV (of_decide_eq_true (by kernel_rfl)) hk0 hb (fun x hx => by first | exact hlt x hx | exact absurd hx (List.not_mem_nil) | exact hlt x (by simp [hx]))) (trodAll_cons_mk (Below.trod laid readV (of_decide_eq_true (by kernel_rfl)) hk1 hb (fun x hx => by first | exact hlt x hx | exact absurd hx (List.not_mem_nil) | exact hlt x (by simp [hx]))) trodAll_mk0))
  exact ⟨_, rfl, _, _, _, [], _, [], hW', trodAll_cons_mk (shut_bool Tryz.underlying4 _) trodAll_mk0, hargs, rfl, hb.frame _, fun h => by cases h⟩

theorem closed : joinedFacts Tryz.prog 13 Tryz.f13 Rows.printSameSpec Rows.printSameRow = true := by
  have hp : Tryz.f13.params.toList ++ Rows.printSameSpec.plain.varTypes Tryz.prog = [27, 27] := by kernel_rfl
  have hr : Tryz.f13.resultTypes.toList = [4] := by kernel_rfl
  have hq : Tryz.f13.params = #[27, 27] := by kernel_rfl
  refine joined_of (by kernel_rfl) ?_ (by kernel_rfl) ?_ ?_ (by kernel_rfl) ?_ ?_ (by kernel_rfl) ?_ (veiledFits_of rfl ?_ (by kernel_rfl))
  · rw [hq]; simp [readV]
  · rw [hp]; simp only [List.any_cons, List.any_nil, mapsV]; rfl
  · rw [hp]; simp only [List.any_cons, List.any_nil, ifacesV]; rfl
  · rw [hp]; simp only [List.any_cons, List.any_nil, loopsV]; rfl
  · rw [hp, hr]; simp only [List.cons_append, List.nil_append, List.any_cons, List.any_nil, wideV, show Tryz.prog.wideKeysFrom 4 = false by kernel_rfl]; rfl
  · rw [hp, hr]; simp only [List.cons_append, List.nil_append, List.any_cons, List.any_nil, veiledV, show Tryz.prog.veiledRec 4 = false by kernel_rfl]; rfl
  · rw [hp, hr]; simp only [List.cons_append, List.nil_append, List.all_cons, List.all_nil, ownV, show Tryz.prog.veiledOwn 4 = true by kernel_rfl]; rfl
theorem held : Rows.PrintSameSaid :=
  OpenClaim.holds_of_wide 13 Tryz.f13 rfl rfl rfl rfl rfl rfl rfl ⟨rfl, rfl, rfl, rfl, rfl⟩ rfl rfl rfl rfl rfl (by kernel_rfl) Tryz.func13 closed
    (of_decide_eq_true (by kernel_rfl)) (by unfold Func.isWrapper; first | (rw [if_pos (by decide +kernel)]; kernel_rfl) | (rw [if_neg (by decide +kernel)]; exact ⟨rfl, rfl⟩))
    (fun os started H enc _ => lifted os started H enc)

theorem proved : Rows.PrintSameCardSaid :=
  Claim7.holds_tied_plain_at .later [] Rows.printSameCard.laidKinds true Rows.printSameCard.stood.harness Rows.printSameCard.stood.looks held (fun _ h => by cases h) (by kernel_rfl) (fun _ h => by cases h) printSame_row_tie rfl ⟨rfl, rfl⟩ (by kernel_rfl) rfl
    (fun f fn hf hfn => by
      obtain rfl : f = 13 := Option.some.inj ((show Tryz.prog.funcNamed "orangery/orangerylaw05.PrintSame" = some 13 by kernel_rfl).symm.trans hf) |>.symm
      obtain rfl : fn = Tryz.f13 := (Option.some.inj (Tryz.func13.symm.trans hfn)).symm
      exact ⟨by kernel_rfl, fun j t ht => by
        rw [Tryz.params13] at ht
        have hm : t ∈ [27, 27] := by simpa using Array.mem_of_getElem? ht
        have hall : ([27, 27].all fun u => !Tryz.prog.wantsStandIn u) = true := by kernel_rfl
        exact (show Tryz.prog.wantsStandIn t = false by simpa using List.all_eq_true.1 hall t hm)⟩)
    (by kernel_rfl)
end Go.Proofs.YtjapbjmeoaagmaaGreatDoor.printSame
