/- PrintIs: any value's text, in one line and in lines, and how long it is, or why it has none, is what the document says: whatever the arguments, the law returns true and what came in reads as it did. No condition. -/
import Derived.Test.YtjapbjmeoaagmaaGreatDoorRows
import Derived.Test.YtjapbjmeoaagmaaGreatDoorCards
import Derived.Test.YtjapbjmeoaagmaaGreatDoorTie
import Derived.Test.YtjapbjmeoaagmaaGreatDoorQPrintIs2
import Derived.Test.YtjapbjmeoaagmaaGreatDoorQPrintIs3
import Derived.Test.YtjapbjmeoaagmaaGreatDoorQPrintIs5
import Derived.Test.YtjapbjmeoaagmaaGreatDoorQPrintIs1
import Derived.ProofKit
import Derived.SizedLaws
import Derived.OpenShut
import Derived.Lay
import Derived.LaidMore
import Derived.SevenTiedAt
import Derived.IntWalk
set_option linter.unusedVariables false
set_option linter.unusedSimpArgs false
set_option maxRecDepth 100000
namespace Go.Proofs.YtjapbjmeoaagmaaGreatDoor.printIs
open Go.ChangeShapes Go.WideShapes Go.ChangeAt Go.RowKit Go.Mem Orange
-- the box of an argument $1: its TV: $2, named by $3 (k b d ..), the world $4 -> $5; leaves HC$3, HTV$3
-- a call's world: hx : Ext w w': carries the boxes ($2: their names) and HE; new name of the world: $1
-- a region that reads and calls what adds alone: $1: the world, $2: the calls' values
set_option maxHeartbeats 12800000 in
theorem walk (t : Tree) (c : Array Value) (b1 : Int) (h0 : -9223372036854775808 ≤ b1) (h1 : b1 ≤ 9223372036854775807) (w : World) (hT : Tab w) (ht : TV w (fun _ => True) t c) (hok : okT t) :
    Calls Tryz.prog 10 #[.agg c, .int .i64 b1] w fun e w' => e = .returned (.bool true) ∧ Ext w w' := by
  have HTB := Lib.hid hT
  have HOK := Lib.hid hok
  clear hT hok
  obtain ⟨kA, bA, dA, sA, laA, lnA, lcA, maA, mnA, mcA, rfl⟩ := ht.eight
  obtain ⟨wA, ewA⟩ : ∃ W, w.alloc (.cells (cellsV kA bA dA sA (.slice laA lnA lcA) (.slice maA mnA mcA)) 27) = W := ⟨_, rfl⟩
  have nwA : wA.heap[w.heap.size]? = some (.cells (cellsV kA bA dA sA (.slice laA lnA lcA) (.slice maA mnA mcA)) 27) := by rw [← ewA]; exact heap_alloc_new _ _
  have xwA : Ext w wA := by rw [← ewA]; exact (ext_refl _).alloc (Nat.le_refl _) _
  have swA : wA.heap.size = w.heap.size + 1 := by rw [← ewA]; simp
  have HCA : Hid (VAt wA w.heap.size (cellsV kA bA dA sA (.slice laA lnA lcA) (.slice maA mnA mcA))) := Lib.hid nwA
  have HTVA := Lib.hid (ht.keep (w' := wA) (A' := fun _ => True) xwA.size (fun g _ hlt => ⟨trivial, xwA.block g hlt⟩))
  have EA := Lib.hid ewA
  clear nwA ewA
  have HE := Lib.hid xwA
  clear ht xwA swA
  simp only [cellsV] at HCA EA HTVA ⊢
  go_enter Tryz.func10, Tryz.ntmps10
  go_upto_region 1 with fail
  rw [EA.out]
  obtain ⟨S, hS⟩ : ∃ S, w.heap.size = S := ⟨_, rfl⟩
  rw [hS] at HCA ⊢
  clear hS EA
  go_wp2_with fail
  refine (pawake5 wA (HTB.out.ext HE.out)).mono ?_
  rintro e w1 ⟨rfl, hx⟩
  replace HCA := Lib.hid (HCA.out.ext hx)
  replace HTVA := Lib.hid (HTVA.out.keep (A' := fun _ => True) hx.size (fun g _ hlt => ⟨trivial, hx.block g hlt⟩))
  replace HE := Lib.hid (ext_trans HE.out hx)
  clear hx
  have c0 := HCA.out.cell 0; have c1 := HCA.out.cell 1; have c2 := HCA.out.cell 2; have c3 := HCA.out.cell 3; have c4 := HCA.out.cell 4; have c5 := HCA.out.cell 5; have c6 := HCA.out.cell 6; have c7 := HCA.out.cell 7
  simp at c0 c1 c2 c3 c4 c5 c6 c7
  go_wp2_with fail
  refine (few_any t _ _ 2000 w1 HOK.out (by omega) (by omega) HTVA.out).mono ?_
  rintro e w2 ⟨rfl, hx⟩
  replace HCA := Lib.hid (HCA.out.ext hx)
  replace HTVA := Lib.hid (HTVA.out.keep (A' := fun _ => True) hx.size (fun g _ hlt => ⟨trivial, hx.block g hlt⟩))
  replace HE := Lib.hid (ext_trans HE.out hx)
  clear hx
  clear c0 c1 c2 c3 c4 c5 c6 c7
  have c0 := HCA.out.cell 0; have c1 := HCA.out.cell 1; have c2 := HCA.out.cell 2; have c3 := HCA.out.cell 3; have c4 := HCA.out.cell 4; have c5 := HCA.out.cell 5; have c6 := HCA.out.cell 6; have c7 := HCA.out.cell 7
  simp at c0 c1 c2 c3 c4 c5 c6 c7
  by_cases hf : 0 ≤ fewT 0 2000 t
  · have hwt : weightT t ≤ 2000 := by have := fewT_weight t 0 2000 hf; omega
    rw [decide_eq_true hf]
    clear hf
    go_wp2_with fail
    refine (printV_any t _ _ w2 HTVA.out (by omega) (HTB.out.ext HE.out)).mono ?_
    rintro e w3 ⟨rfl, hx⟩
    replace HCA := Lib.hid (HCA.out.ext hx)
    replace HTVA := Lib.hid (HTVA.out.keep (A' := fun _ => True) hx.size (fun g _ hlt => ⟨trivial, hx.block g hlt⟩))
    replace HE := Lib.hid (ext_trans HE.out hx)
    clear hx
    clear c0 c1 c2 c3 c4 c5 c6 c7
    have c0 := HCA.out.cell 0; have c1 := HCA.out.cell 1; have c2 := HCA.out.cell 2; have c3 := HCA.out.cell 3; have c4 := HCA.out.cell 4; have c5 := HCA.out.cell 5; have c6 := HCA.out.cell 6; have c7 := HCA.out.cell 7
    simp at c0 c1 c2 c3 c4 c5 c6 c7
    go_wp2_with fail
    refine (r5Value_any t _ _ w3 HTVA.out (by omega)).mono ?_
    rintro e w4 ⟨rfl, hx⟩
    replace HCA := Lib.hid (HCA.out.ext hx)
    replace HTVA := Lib.hid (HTVA.out.keep (A' := fun _ => True) hx.size (fun g _ hlt => ⟨trivial, hx.block g hlt⟩))
    replace HE := Lib.hid (ext_trans HE.out hx)
    clear hx
    clear c0 c1 c2 c3 c4 c5 c6 c7
    have c0 := HCA.out.cell 0; have c1 := HCA.out.cell 1; have c2 := HCA.out.cell 2; have c3 := HCA.out.cell 3; have c4 := HCA.out.cell 4; have c5 := HCA.out.cell 5; have c6 := HCA.out.cell 6; have c7 := HCA.out.cell 7
    simp at c0 c1 c2 c3 c4 c5 c6 c7
    go_wp2_with fail
    refine (pretty_any t _ _ b1 w4 HTVA.out (by omega) (HTB.out.ext HE.out)).mono ?_
    rintro e w5 ⟨rfl, hx⟩
    replace HCA := Lib.hid (HCA.out.ext hx)
    replace HTVA := Lib.hid (HTVA.out.keep (A' := fun _ => True) hx.size (fun g _ hlt => ⟨trivial, hx.block g hlt⟩))
    replace HE := Lib.hid (ext_trans HE.out hx)
    clear hx
    clear c0 c1 c2 c3 c4 c5 c6 c7
    have c0 := HCA.out.cell 0; have c1 := HCA.out.cell 1; have c2 := HCA.out.cell 2; have c3 := HCA.out.cell 3; have c4 := HCA.out.cell 4; have c5 := HCA.out.cell 5; have c6 := HCA.out.cell 6; have c7 := HCA.out.cell 7
    simp at c0 c1 c2 c3 c4 c5 c6 c7
    go_wp2_with fail
    refine (r5Pretty_any t _ _ b1 w5 HTVA.out (by omega)).mono ?_
    rintro e w6 ⟨rfl, hx⟩
    replace HCA := Lib.hid (HCA.out.ext hx)
    replace HTVA := Lib.hid (HTVA.out.keep (A' := fun _ => True) hx.size (fun g _ hlt => ⟨trivial, hx.block g hlt⟩))
    replace HE := Lib.hid (ext_trans HE.out hx)
    clear hx
    clear c0 c1 c2 c3 c4 c5 c6 c7
    have c0 := HCA.out.cell 0; have c1 := HCA.out.cell 1; have c2 := HCA.out.cell 2; have c3 := HCA.out.cell 3; have c4 := HCA.out.cell 4; have c5 := HCA.out.cell 5; have c6 := HCA.out.cell 6; have c7 := HCA.out.cell 7
    simp at c0 c1 c2 c3 c4 c5 c6 c7
    go_wp2_with fail
    refine (key_any t _ _ w6 HTVA.out (by omega) (HTB.out.ext HE.out)).mono ?_
    rintro e w7 ⟨rfl, hx⟩
    replace HCA := Lib.hid (HCA.out.ext hx)
    replace HTVA := Lib.hid (HTVA.out.keep (A' := fun _ => True) hx.size (fun g _ hlt => ⟨trivial, hx.block g hlt⟩))
    replace HE := Lib.hid (ext_trans HE.out hx)
    clear hx
    clear c0 c1 c2 c3 c4 c5 c6 c7
    have c0 := HCA.out.cell 0; have c1 := HCA.out.cell 1; have c2 := HCA.out.cell 2; have c3 := HCA.out.cell 3; have c4 := HCA.out.cell 4; have c5 := HCA.out.cell 5; have c6 := HCA.out.cell 6; have c7 := HCA.out.cell 7
    simp at c0 c1 c2 c3 c4 c5 c6 c7
    have HSZ : Hid (∀ w', Ext w7 w' → Calls Tryz.prog 40 #[.agg #[.int .i64 kA, .bool bA, .bool dA.neg, .string ⟨dA.digits.toArray⟩, .int .i64 dA.exp, .string ⟨sA.toArray⟩, .slice laA lnA lcA, .slice maA mnA mcA]] w' (fun e w'' => e = .returned (.int .i64 ((toldT (-1) t).1.length : Nat)) ∧ Ext w' w'')) := Lib.hid (fun w' hw =>
      size_any t _ _ w' (HTVA.out.keep (w' := w') (A' := fun _ => True) hw.size (fun g _ hlt => ⟨trivial, hw.block g hlt⟩)) (by omega) (HTB.out.ext (ext_trans HE.out hw)))
    have HSZ5 : Hid (∀ w', Ext w7 w' → Calls Tryz.prog 41 #[.agg #[.int .i64 kA, .bool bA, .bool dA.neg, .string ⟨dA.digits.toArray⟩, .int .i64 dA.exp, .string ⟨sA.toArray⟩, .slice laA lnA lcA, .slice maA mnA mcA]] w' (fun e w'' => e = .returned (.int .i64 ((toldT (-1) t).1.length : Nat)) ∧ Ext w' w'')) := Lib.hid (fun w' hw =>
      r5Size_any t _ _ w' (HTVA.out.keep (w' := w') (A' := fun _ => True) hw.size (fun g _ hlt => ⟨trivial, hw.block g hlt⟩)) (by omega))
    obtain ⟨n, hn⟩ : ∃ n, (toldT (-1) t).1.length = n := ⟨_, rfl⟩
    obtain ⟨l1, hl1⟩ : ∃ l1, (printT t).1 = l1 := ⟨_, rfl⟩
    obtain ⟨e1, he1⟩ : ∃ e1, (printT t).2 = e1 := ⟨_, rfl⟩
    obtain ⟨l2, hl2⟩ : ∃ l2, (prettyT t b1).1 = l2 := ⟨_, rfl⟩
    obtain ⟨e2, he2⟩ : ∃ e2, (prettyT t b1).2 = e2 := ⟨_, rfl⟩
    rw [hn] at HSZ HSZ5
    rw [hl1, he1, hl2, he2]
    clear hn hl1 he1 hl2 he2
    go_upto_region 9 with fail
    clear c0 c1 c2 c3 c4 c5 c6 c7
    refine Grow.wp_region_litW (G := Ext) (B := fun w' => Ext w7 w') (anc := fun _ => []) (I := fun j => if j = 23 then some (Grow.Spec.val Ext (.int .i64 n)) else if j = 25 then some (Grow.Spec.val Ext (.int .i64 n)) else none) (by kernel_rfl) (by kernel_rfl) (by kernel_rfl) ?_ ?_ ?_
    · exact fun w w' h hg => ext_trans h hg
    · exact (ext_refl _).drew
    repeat
      (refine Grow.Wk.step (fun K hK => ?_)
       first
       | (refine Grow.step_read (by rfl) (by rfl) (fun w => ext_refl w) ?_
          apply Exists.intro
          refine ⟨fun w hB hF => ?_, ?_⟩
          · first | (replace hB : Ext _ w := hB; have HCW := HCA.out.ext hB; have c0 := HCW.cell 0; have c1 := HCW.cell 1; have c2 := HCW.cell 2; have c3 := HCW.cell 3; have c4 := HCW.cell 4; have c5 := HCW.cell 5; have c6 := HCW.cell 6; have c7 := HCW.cell 7; simp at c0 c1 c2 c3 c4 c5 c6 c7) | skip
            go_simp
            try exact rfl
          go_simp
          refine hK _ _ ?_
          clear hK K)
       | (refine Grow.step_off (by rfl) ?_
          go_simp
          refine hK _ _ ?_
          clear hK K))
    refine Grow.Wk.step (fun K hK => ?_)
    refine Grow.step_rel (by rfl) (by rfl) (fun w' hB hF => ?_) (fun v hv => ?_)
    · go_simp
      refine Grow.relUpon_enter ((HSZ.out w' hB).mono ?_)
      rintro e w'' ⟨rfl, hw''⟩
      exact ⟨_, rfl, hw'', rfl, trivial⟩
    obtain rfl : v = _ := hv
    go_simp
    refine hK _ _ ?_
    clear hK K
    repeat
      (refine Grow.Wk.step (fun K hK => ?_)
       first
       | (refine Grow.step_read (by rfl) (by rfl) (fun w => ext_refl w) ?_
          apply Exists.intro
          refine ⟨fun w hB hF => ?_, ?_⟩
          · first | (replace hB : Ext _ w := hB; have HCW := HCA.out.ext hB; have c0 := HCW.cell 0; have c1 := HCW.cell 1; have c2 := HCW.cell 2; have c3 := HCW.cell 3; have c4 := HCW.cell 4; have c5 := HCW.cell 5; have c6 := HCW.cell 6; have c7 := HCW.cell 7; simp at c0 c1 c2 c3 c4 c5 c6 c7) | skip
            go_simp
            try exact rfl
          go_simp
          refine hK _ _ ?_
          clear hK K)
       | (refine Grow.step_off (by rfl) ?_
          go_simp
          refine hK _ _ ?_
          clear hK K))
    refine Grow.Wk.step (fun K hK => ?_)
    refine Grow.step_rel (by rfl) (by rfl) (fun w' hB hF => ?_) (fun v hv => ?_)
    · go_simp
      refine Grow.relUpon_enter ((HSZ5.out w' hB).mono ?_)
      rintro e w'' ⟨rfl, hw''⟩
      exact ⟨_, rfl, hw'', rfl, trivial⟩
    obtain rfl : v = _ := hv
    go_simp
    refine hK _ _ ?_
    clear hK K
    repeat
      (refine Grow.Wk.step (fun K hK => ?_)
       first
       | (refine Grow.step_read (by rfl) (by rfl) (fun w => ext_refl w) ?_
          apply Exists.intro
          refine ⟨fun w hB hF => ?_, ?_⟩
          · skip
            go_simp
            try exact rfl
          go_simp
          refine hK _ _ ?_
          clear hK K)
       | (refine Grow.step_off (by rfl) ?_
          go_simp
          refine hK _ _ ?_
          clear hK K))
    refine Grow.Wk.nil ?_
    intro w8 hB hF
    replace hB : Ext w7 w8 := hB
    have HE8 := Lib.hid (ext_trans HE.out hB)
    clear hB hF
    go_wp2_with fail
    go_ret
    exact ⟨rfl, HE8.out⟩
  · rw [decide_eq_false hf]
    go_wp2_with fail
    go_ret
    exact ⟨rfl, HE.out⟩
set_option linter.unusedSimpArgs false
theorem own : ownKnob Tryz.prog.godebug = none := by kernel_rfl
theorem laid : laidOutB Tryz.prog = true := by kernel_rfl
set_option maxHeartbeats 1600000 in
set_option maxRecDepth 100000 in
theorem lifted (os : Os) (started : os.Started) (H : Type) (enc : TypeId × Value → H) :
    ReturnsInHanded {} Tryz.checked os 10 .any (fun w args => (Rows.printIsSpec.pre enc Tryz.prog Tryz.f10 [] false w args ∧ laidMetH Tryz.prog Rows.printIsRow.laid w) ∧ sizedMet enc Tryz.prog Tryz.f10 (OpenSpec.ofChange Rows.printIsSpec) false w args) (Rows.printIsSpec.post enc Tryz.prog Tryz.f10 false true false false) := by
  refine returnsInHanded_of_change_and (C := Tryz.checked) (X := fun w _ => laidMetH Tryz.prog Rows.printIsRow.laid w) (fun _ _ _ hh h => h.of_heap hh) own started (by kernel_rfl) Tryz.func10
    (ChangeSpec.witness_shaped (enc := enc) (C := Tryz.checked) (os := os) (X := fun w _ => laidMetH Tryz.prog Rows.printIsRow.laid w) false (World.laidAll Tryz.prog os Rows.printIsRow.laid) #[.agg #[.int .i64 0, .bool false, .bool false, .string ⟨#[]⟩, .int .i64 0, .string ⟨#[]⟩, .slice none 0 0, .slice none 0 0], .int .i64 0] 8 (World.laidAll_os _ _ _)
      (World.shaped_of_ZipB (by kernel_rfl) (by kernel_rfl)) (by kernel_rfl) (by kernel_rfl) (by kernel_rfl)
      (by rw [MakeChecks.laidMetH_plain _ _ _ (by kernel_rfl)]; exact laidMet_laidAll _ (by kernel_rfl) (by kernel_rfl))) ?_
  intro W base args ds gs before hval0 hW _ hsz0 hX _
  have hT : Tab W := tab_of hX
  have hsz : (DataW.weightsEach Tryz.prog (Tryz.f10.params.toList ++ Rows.printIsSpec.plain.varTypes Tryz.prog) (ds ++ gs)).all (· ≤ reachBytes) = true := hsz0
  clear hsz0
  have hval : ∀ (j : Nat) t v, Tryz.f10.params[j]? = some t → args[j]? = some v → Value.okWide Tryz.prog W .any base t v := hval0
  have hW' := hW
  obtain ⟨p, q, hA0, hV, rfl, _, _⟩ := hW
  have hA : DataW.TrodAll enc Tryz.prog W 0 (fun _ => true) true Tryz.f10.params.toList args.toList ds p := hA0
  rw [Tryz.params10] at hA hval hsz
  obtain ⟨v0, vs0, d0, ds0, p0, q0, ha0, rfl, rfl, h0, r0⟩ := trodAll_cons hA
  obtain ⟨v1, vs1, d1, ds1, p1, q1, ha1, rfl, rfl, h1, r1⟩ := trodAll_cons r0
  obtain ⟨hb2, rfl, rfl⟩ := trodAll_nil r1
  subst hb2
  subst ha1
  obtain rfl : args = #[v0, v1] := by cases args; simpa using ha0
  obtain ⟨rfl, rfl⟩ := trodVars_none hV
  have hk0 := h0
  obtain ⟨cs0, rfl, _⟩ := okWide_struct Tryz.underlying27 (hval 0 27 v0 rfl rfl)
  obtain ⟨fu0, hf0⟩ := h0
  obtain ⟨t0, ht0, hok0⟩ := trod_val (enc := enc) W fu0 _ d0 p0 hf0 (fun n hn => by simpa using List.all_eq_true.1 hsz _ (DataW.weights_mem_each (j := 0) rfl rfl n hn))
  have hk1 := h1
  obtain ⟨a1, rfl, rfl, rfl, wf1⟩ := open_int Tryz.underlying3 (hval 1 3 v1 rfl rfl) h1
  have hr1 : -9223372036854775808 ≤ a1 ∧ a1 ≤ 9223372036854775807 := by simpa [Lit.wf, IntKind.min, IntKind.max, IntKind.signed, IntKind.bits] using wf1
  have hlt := fun x hx => hW'.lt x hx
  simp only [List.append_nil, List.nil_append] at hW' hlt
  refine (walk t0 _ a1 hr1.1 hr1.2 W hT ht0 hok0).mono fun e W' ⟨he, hb⟩ => ?_
  subst he
  have hargs := (trodAll_cons_mk (Below.trod laid readV (of_decide_eq_true (by kernel_rfl)) hk0 hb (fun x hx => by first | exact hlt x hx | exact absurd hx (List.not_mem_nil) | exact hlt x (by simp [hx]))) (trodAll_cons_mk (Below.trod laid (by kernel_rfl) (of_decide_eq_true (by kernel_rfl)) hk1 hb (fun x hx => by first | exact hlt x hx | exact absurd hx (List.not_mem_nil) | exact hlt x (by simp [hx]))) trodAll_mk0))
  exact ⟨_, rfl, _, _, _, [], _, [], hW', trodAll_cons_mk (shut_bool Tryz.underlying4 _) trodAll_mk0, hargs, rfl, hb.frame _, fun h => by cases h⟩

theorem closed : joinedFacts Tryz.prog 10 Tryz.f10 Rows.printIsSpec Rows.printIsRow = true := by
  have hp : Tryz.f10.params.toList ++ Rows.printIsSpec.plain.varTypes Tryz.prog = [27, 3] := by kernel_rfl
  have hr : Tryz.f10.resultTypes.toList = [4] := by kernel_rfl
  have hq : Tryz.f10.params = #[27, 3] := by kernel_rfl
  refine joined_of (by kernel_rfl) ?_ (by kernel_rfl) ?_ ?_ (by kernel_rfl) ?_ ?_ (by kernel_rfl) ?_ (veiledFits_of rfl ?_ (by kernel_rfl))
  · rw [hq]; simp [readV, show Tryz.prog.readableRec 3 = true by kernel_rfl]
  · rw [hp]; simp only [List.any_cons, List.any_nil, mapsV, show Tryz.prog.mapsRec 3 = false by kernel_rfl]; rfl
  · rw [hp]; simp only [List.any_cons, List.any_nil, ifacesV, show Tryz.prog.ifacesRec 3 = false by kernel_rfl]; rfl
  · rw [hp]; simp only [List.any_cons, List.any_nil, loopsV, show Tryz.prog.loopsFrom 3 = false by kernel_rfl]; rfl
  · rw [hp, hr]; simp only [List.cons_append, List.nil_append, List.any_cons, List.any_nil, wideV, show Tryz.prog.wideKeysFrom 3 = false by kernel_rfl, show Tryz.prog.wideKeysFrom 4 = false by kernel_rfl]; rfl
  · rw [hp, hr]; simp only [List.cons_append, List.nil_append, List.any_cons, List.any_nil, veiledV, show Tryz.prog.veiledRec 3 = false by kernel_rfl, show Tryz.prog.veiledRec 4 = false by kernel_rfl]; rfl
  · rw [hp, hr]; simp only [List.cons_append, List.nil_append, List.all_cons, List.all_nil, ownV, show Tryz.prog.veiledOwn 3 = true by kernel_rfl, show Tryz.prog.veiledOwn 4 = true by kernel_rfl]; rfl
theorem held : Rows.PrintIsSaid :=
  OpenClaim.holds_of_wide 10 Tryz.f10 rfl rfl rfl rfl rfl rfl rfl ⟨rfl, rfl, rfl, rfl, rfl⟩ rfl rfl rfl rfl rfl (by kernel_rfl) Tryz.func10 closed
    (of_decide_eq_true (by kernel_rfl)) (by unfold Func.isWrapper; first | (rw [if_pos (by decide +kernel)]; kernel_rfl) | (rw [if_neg (by decide +kernel)]; exact ⟨rfl, rfl⟩))
    (fun os started H enc _ => lifted os started H enc)

theorem proved : Rows.PrintIsCardSaid :=
  Claim7.holds_tied_plain_at .later [] Rows.printIsCard.laidKinds true Rows.printIsCard.stood.harness Rows.printIsCard.stood.looks held (fun _ h => by cases h) (by kernel_rfl) (fun _ h => by cases h) printIs_row_tie rfl ⟨rfl, rfl⟩ (by kernel_rfl) rfl
    (fun f fn hf hfn => by
      obtain rfl : f = 10 := Option.some.inj ((show Tryz.prog.funcNamed "orangery/orangerylaw05.PrintIs" = some 10 by kernel_rfl).symm.trans hf) |>.symm
      obtain rfl : fn = Tryz.f10 := (Option.some.inj (Tryz.func10.symm.trans hfn)).symm
      exact ⟨by kernel_rfl, fun j t ht => by
        rw [Tryz.params10] at ht
        have hm : t ∈ [27, 3] := by simpa using Array.mem_of_getElem? ht
        have hall : ([27, 3].all fun u => !Tryz.prog.wantsStandIn u) = true := by kernel_rfl
        exact (show Tryz.prog.wantsStandIn t = false by simpa using List.all_eq_true.1 hall t hm)⟩)
    (by kernel_rfl)
end Go.Proofs.YtjapbjmeoaagmaaGreatDoor.printIs
