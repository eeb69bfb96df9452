/- UtfReads: which character any bytes begin with, where the first byte stands that begins none, how many characters there are, and what they are escaped as, is the document's: whatever the input, the law returns true and the input reads as it did. No condition. -/
import Derived.Test.YtikhdnpokhldeaaRows
import Derived.Test.YtikhdnpokhldeaaApp
import Derived.Test.YtikhdnpokhldeaaWUtfE
import Derived.Test.YtikhdnpokhldeaaWUtfG
import Derived.Test.YtikhdnpokhldeaaRefG
import Derived.Test.YtikhdnpokhldeaaFrame
import Derived.SizedLaws
import Derived.OpenShut
import Derived.IntWalk
set_option linter.unusedVariables false
set_option linter.unusedSimpArgs false
namespace Go.Proofs.Ytikhdnpokhldeaa.utfReads
open Go.ChangeShapes Go.WideShapes Go.ChangeAt Go.RowKit Go.Mem Orange

set_option maxHeartbeats 3200000 in
theorem walk (va : Value) (xs : List UInt8) (w : World) (hx : Bytes w va xs) :
    Calls Try.prog 9 #[va] w fun e w' => e = .returned (.bool true) ∧ Ext w w' := by
  have hx0 := hx
  obtain ⟨a, ca, rfl, hxc, hxm, hxl, hxat⟩ := hx0
  clear hxat
  go_enter Try.func9, Try.ntmps9
  go_wp2_with fail
  refine (awake_any _).mono ?_
  rintro e w1 ⟨rfl, hw1⟩
  by_cases hlen : xs.length ≤ 1000
  · have hd : decide (1000 < (xs.length : Int)) = false := by simp; omega
    go_wp2_with fail
    refine (next_any _ xs _ (hx.ext hw1)).mono ?_
    rintro e w2 ⟨rfl, hw2⟩
    have hE2 : Ext w w2 := ext_trans hw1 hw2
    go_wp2_with fail
    refine (refnext_any _ xs _ (hx.ext hE2)).mono ?_
    rintro e w3 ⟨rfl, hw3⟩
    have hE3 : Ext w w3 := ext_trans hE2 hw3
    go_wp2_with fail
    refine (escape_any _ xs _ (hx.ext hE3)).mono ?_
    rintro e w4 ⟨rfl, rfl⟩
    go_wp2_with fail
    refine (refescape_any _ xs _ (hx.ext hE3)).mono ?_
    rintro e w5 ⟨rfl, hw5⟩
    have hE5 : Ext w w5 := ext_trans hE3 hw5
    clear hE2 hE3 hw1 hw2 hw3 hw5
    generalize (next xs).1 = n1
    generalize (next xs).2 = n2
    generalize (escape xs).1 = e1
    generalize (escape xs).2 = e2
    go_wp2_with fail
    have hx5 := hx.ext hE5
    refine Grow.wp_region_lit (G := Ext) (B := fun w' => Ext w5 w' ∧ True) (anc := fun _ => []) (I := fun j => if j = 13 ∨ j = 15 then some (Grow.Spec.val Ext (.int .i64 (check xs))) else if j = 20 ∨ j = 23 ∨ j = 29 ∨ j = 32 then some (Grow.Spec.val Ext (.string ⟨xs.toArray⟩)) else if j = 21 ∨ j = 24 then some (Grow.Spec.val Ext (.int .i64 (marks xs).length)) else if j = 30 ∨ j = 33 then some (Grow.Spec.val Ext (.string ⟨(quote xs).toArray⟩)) else none) (by kernel_rfl) (by kernel_rfl) (by kernel_rfl) ?_ ?_ ?_
    · exact fun w w' h hg => ⟨ext_trans h.1 hg, trivial⟩
    · exact ⟨(ext_refl _).drew, trivial⟩
    repeat
      (refine Grow.walk_step (fun K hK => ?_)
       first
       | (refine Grow.step_read (by rfl) (by rfl) ext_refl ?_
          apply Exists.intro
          refine ⟨fun w hB hF => ?_, ?_⟩
          · obtain ⟨hB1, hB2⟩ := hB
            go_simp
            try exact rfl
          go_simp
          refine hK _ _ ?_
          clear hK K)
       | (refine Grow.step_off (by rfl) ?_
          go_simp
          refine hK _ _ ?_
          clear hK K))
    refine Grow.walk_step (fun K hK => ?_)
    refine Grow.step_rel (by rfl) (by rfl) (fun w' hB hF => ?_) (fun v hv => ?_)
    · obtain ⟨hB1, hB2⟩ := hB
      go_simp
      refine Grow.relUpon_enter ((check_any _ xs w' (hx5.ext hB1)).mono ?_)
      rintro e w'' ⟨rfl, hw''⟩
      exact ⟨_, rfl, hw'', rfl, trivial⟩
    obtain rfl : v = _ := hv
    go_simp
    refine hK _ _ ?_
    clear hK K
    repeat
      (refine Grow.walk_step (fun K hK => ?_)
       first
       | (refine Grow.step_read (by rfl) (by rfl) ext_refl ?_
          apply Exists.intro
          refine ⟨fun w hB hF => ?_, ?_⟩
          · obtain ⟨hB1, hB2⟩ := hB
            go_simp
            try exact rfl
          go_simp
          refine hK _ _ ?_
          clear hK K)
       | (refine Grow.step_off (by rfl) ?_
          go_simp
          refine hK _ _ ?_
          clear hK K))
    refine Grow.walk_step (fun K hK => ?_)
    refine Grow.step_rel (by rfl) (by rfl) (fun w' hB hF => ?_) (fun v hv => ?_)
    · obtain ⟨hB1, hB2⟩ := hB
      go_simp
      refine Grow.relUpon_enter ((refcheck_any _ xs w' (hx5.ext hB1)).mono ?_)
      rintro e w'' ⟨rfl, hw''⟩
      exact ⟨_, rfl, hw'', rfl, trivial⟩
    obtain rfl : v = _ := hv
    go_simp
    refine hK _ _ ?_
    clear hK K
    repeat
      (refine Grow.walk_step (fun K hK => ?_)
       first
       | (refine Grow.step_read (by rfl) (by rfl) ext_refl ?_
          apply Exists.intro
          refine ⟨fun w hB hF => ?_, ?_⟩
          · obtain ⟨hB1, hB2⟩ := hB
            go_simp
            try exact rfl
          go_simp
          refine hK _ _ ?_
          clear hK K)
       | (refine Grow.step_off (by rfl) ?_
          go_simp
          refine hK _ _ ?_
          clear hK K))
    refine Grow.walk_step (fun K hK => ?_)
    refine Grow.step_rel (by rfl) (by rfl) (fun w' hB hF => ?_) (fun v hv => ?_)
    · obtain ⟨hB1, hB2⟩ := hB
      go_simp
      rw [run_string_of_bytes w' (hx5.ext hB1) 22 9 5 Try.underlying22 Try.underlying5 Try.underlying9]
      exact Grow.relUpon_value (ext_refl _) (rfl) trivial
    obtain rfl : v = _ := hv
    go_simp
    refine hK _ _ ?_
    clear hK K
    refine Grow.walk_step (fun K hK => ?_)
    refine Grow.step_rel (by rfl) (by rfl) (fun w' hB hF => ?_) (fun v hv => ?_)
    · obtain ⟨hB1, hB2⟩ := hB
      go_simp
      refine Grow.relUpon_enter ((count_any ⟨xs.toArray⟩ w' (by show xs.toArray.size ≤ _; simp; omega)).mono ?_)
      rintro e w'' ⟨rfl, hw''⟩
      exact ⟨_, rfl, hw'', rfl, trivial⟩
    obtain rfl : v = _ := hv
    go_simp
    refine hK _ _ ?_
    clear hK K
    repeat
      (refine Grow.walk_step (fun K hK => ?_)
       first
       | (refine Grow.step_read (by rfl) (by rfl) ext_refl ?_
          apply Exists.intro
          refine ⟨fun w hB hF => ?_, ?_⟩
          · obtain ⟨hB1, hB2⟩ := hB
            go_simp
            try exact rfl
          go_simp
          refine hK _ _ ?_
          clear hK K)
       | (refine Grow.step_off (by rfl) ?_
          go_simp
          refine hK _ _ ?_
          clear hK K))
    refine Grow.walk_step (fun K hK => ?_)
    refine Grow.step_rel (by rfl) (by rfl) (fun w' hB hF => ?_) (fun v hv => ?_)
    · obtain ⟨hB1, hB2⟩ := hB
      go_simp
      rw [run_string_of_bytes w' (hx5.ext hB1) 22 9 5 Try.underlying22 Try.underlying5 Try.underlying9]
      exact Grow.relUpon_value (ext_refl _) (rfl) trivial
    obtain rfl : v = _ := hv
    go_simp
    refine hK _ _ ?_
    clear hK K
    refine Grow.walk_step (fun K hK => ?_)
    refine Grow.step_rel (by rfl) (by rfl) (fun w' hB hF => ?_) (fun v hv => ?_)
    · obtain ⟨hB1, hB2⟩ := hB
      go_simp
      refine Grow.relUpon_enter ((refcount_any ⟨xs.toArray⟩ w' (by show xs.toArray.size ≤ _; simp; omega)).mono ?_)
      rintro e w'' ⟨rfl, hw''⟩
      exact ⟨_, rfl, hw'', rfl, trivial⟩
    obtain rfl : v = _ := hv
    go_simp
    refine hK _ _ ?_
    clear hK K
    repeat
      (refine Grow.walk_step (fun K hK => ?_)
       first
       | (refine Grow.step_read (by rfl) (by rfl) ext_refl ?_
          apply Exists.intro
          refine ⟨fun w hB hF => ?_, ?_⟩
          · obtain ⟨hB1, hB2⟩ := hB
            go_simp
            try exact rfl
          go_simp
          refine hK _ _ ?_
          clear hK K)
       | (refine Grow.step_off (by rfl) ?_
          go_simp
          refine hK _ _ ?_
          clear hK K))
    refine Grow.walk_step (fun K hK => ?_)
    refine Grow.step_rel (by rfl) (by rfl) (fun w' hB hF => ?_) (fun v hv => ?_)
    · obtain ⟨hB1, hB2⟩ := hB
      go_simp
      rw [run_string_of_bytes w' (hx5.ext hB1) 22 9 5 Try.underlying22 Try.underlying5 Try.underlying9]
      exact Grow.relUpon_value (ext_refl _) (rfl) trivial
    obtain rfl : v = _ := hv
    go_simp
    refine hK _ _ ?_
    clear hK K
    refine Grow.walk_step (fun K hK => ?_)
    refine Grow.step_rel (by rfl) (by rfl) (fun w' hB hF => ?_) (fun v hv => ?_)
    · obtain ⟨hB1, hB2⟩ := hB
      go_simp
      refine Grow.relUpon_enter ((quote_any ⟨xs.toArray⟩ w' (by show xs.toArray.size ≤ _; simp; omega)).mono ?_)
      rintro e w'' ⟨rfl, hw''⟩
      exact ⟨_, rfl, hw'', rfl, trivial⟩
    obtain rfl : v = _ := hv
    go_simp
    refine hK _ _ ?_
    clear hK K
    repeat
      (refine Grow.walk_step (fun K hK => ?_)
       first
       | (refine Grow.step_read (by rfl) (by rfl) ext_refl ?_
          apply Exists.intro
          refine ⟨fun w hB hF => ?_, ?_⟩
          · obtain ⟨hB1, hB2⟩ := hB
            go_simp
            try exact rfl
          go_simp
          refine hK _ _ ?_
          clear hK K)
       | (refine Grow.step_off (by rfl) ?_
          go_simp
          refine hK _ _ ?_
          clear hK K))
    refine Grow.walk_step (fun K hK => ?_)
    refine Grow.step_rel (by rfl) (by rfl) (fun w' hB hF => ?_) (fun v hv => ?_)
    · obtain ⟨hB1, hB2⟩ := hB
      go_simp
      rw [run_string_of_bytes w' (hx5.ext hB1) 22 9 5 Try.underlying22 Try.underlying5 Try.underlying9]
      exact Grow.relUpon_value (ext_refl _) (rfl) trivial
    obtain rfl : v = _ := hv
    go_simp
    refine hK _ _ ?_
    clear hK K
    refine Grow.walk_step (fun K hK => ?_)
    refine Grow.step_rel (by rfl) (by rfl) (fun w' hB hF => ?_) (fun v hv => ?_)
    · obtain ⟨hB1, hB2⟩ := hB
      go_simp
      refine Grow.relUpon_enter ((refquote_any ⟨xs.toArray⟩ w' (by show xs.toArray.size ≤ _; simp; omega)).mono ?_)
      rintro e w'' ⟨rfl, hw''⟩
      exact ⟨_, rfl, hw'', rfl, trivial⟩
    obtain rfl : v = _ := hv
    go_simp
    refine hK _ _ ?_
    clear hK K
    repeat
      (refine Grow.walk_step (fun K hK => ?_)
       first
       | (refine Grow.step_read (by rfl) (by rfl) ext_refl ?_
          apply Exists.intro
          refine ⟨fun w hB hF => ?_, ?_⟩
          · obtain ⟨hB1, hB2⟩ := hB
            go_simp
            try exact rfl
          go_simp
          refine hK _ _ ?_
          clear hK K)
       | (refine Grow.step_off (by rfl) ?_
          go_simp
          refine hK _ _ ?_
          clear hK K))
    refine Grow.walk_nil ?_
    intro w10 hB hF
    clear hF
    have hB1 := hB.1
    clear hB
    go_wp2_with fail
    go_ret
    exact ⟨rfl, ext_trans hE5 hB1⟩
  · have hd : decide (1000 < (xs.length : Int)) = true := by simp; omega
    go_wp2_with fail
    go_ret
    exact ⟨rfl, hw1⟩

set_option linter.unusedSimpArgs false
theorem own : ownKnob Try.prog.godebug = none := by kernel_rfl
theorem laid : laidOutB Try.prog = true := by kernel_rfl
theorem cells1 : Try.prog.cellsOf 5 = 1 := by kernel_rfl
theorem bytes1 : Try.prog.bytesOf 5 = 1 := by kernel_rfl
set_option maxHeartbeats 1600000 in
set_option maxRecDepth 100000 in
theorem lifted (os : Os) (started : os.Started) (H : Type) (enc : TypeId × Value → H) :
    ReturnsInHanded {} Try.checked os 9 .any (Rows.utfReadsSpec.pre6 enc Try.prog Try.f9 Rows.utfReadsRow.domain false) (Rows.utfReadsSpec.post enc Try.prog Try.f9 false true false false) := by
  refine returnsInHanded_of_change_sized (C := Try.checked) own started (by kernel_rfl) Try.func9
    (ChangeSpec.witness6 (enc := enc) (C := Try.checked) false ⟨#[], #[.slice none 0 0], []⟩ 8 (by kernel_rfl) (by kernel_rfl) (by kernel_rfl) (by kernel_rfl)) ?_
  intro W base args ds gs before hval0 hW _ hsz0 _
  have hsz : (DataW.weightsEach Try.prog (Try.f9.params.toList ++ Rows.utfReadsSpec.plain.varTypes Try.prog) (ds ++ gs)).all (· ≤ reachBytes) = true := hsz0
  clear hsz0
  have hval : ∀ (j : Nat) t v, Try.f9.params[j]? = some t → args[j]? = some v → Value.okWide Try.prog W .any base t v := hval0
  have hW' := hW
  obtain ⟨p, q, hA0, hV, rfl, _, _⟩ := hW
  have hA : DataW.TrodAll enc Try.prog W 0 (fun _ => true) true Try.f9.params.toList args.toList ds p := hA0
  rw [Try.params9] at hA hval hsz
  obtain ⟨v0, vs0, d0, ds0, p0, q0, ha0, rfl, rfl, h0, r0⟩ := trodAll_cons hA
  obtain ⟨hb1, rfl, rfl⟩ := trodAll_nil r0
  subst hb1
  obtain rfl : args = #[v0] := by cases args; simpa using ha0
  obtain ⟨rfl, rfl⟩ := trodVars_none hV
  have hk0 := h0
  obtain ⟨a0, len0, cap0, rfl⟩ := okWide_slice Try.underlying22 (hval 0 22 v0 rfl rfl)
  obtain ⟨xs0, hx0⟩ := bytes_of_trod Try.underlying22 Try.underlying5 cells1 h0 (fun elems spare e => by subst e; have := sized_slice hsz (j := 0) rfl rfl Try.underlying22; rw [bytes1] at this; simp only [reachBytes] at this; omega)
  have hlt := fun x hx => hW'.lt x hx
  simp only [List.append_nil, List.nil_append] at hW' hlt
  refine (walk _ xs0 W hx0).mono fun e W' ⟨he, hb⟩ => ?_
  subst he
  have hargs := (trodAll_cons_mk (Below.trod laid (by kernel_rfl) (of_decide_eq_true (by kernel_rfl)) hk0 hb (fun x hx => by first | exact hlt x hx | exact absurd hx (List.not_mem_nil) | exact hlt x (by simp [hx]))) trodAll_mk0)
  exact ⟨_, rfl, _, _, _, [], _, [], hW', trodAll_cons_mk (shut_bool Try.underlying4 _) trodAll_mk0, hargs, rfl, hb.frame _, fun h => by cases h⟩

theorem proved : Rows.UtfReadsSaid :=
  OpenClaim.holds_of_wide 9 Try.f9 rfl rfl rfl rfl rfl rfl rfl ⟨rfl, rfl, rfl, rfl, rfl⟩ rfl rfl rfl rfl rfl (by kernel_rfl) Try.func9 (by kernel_rfl)
    (of_decide_eq_true (by kernel_rfl)) (by unfold Func.isWrapper; first | (rw [if_pos (by decide +kernel)]; kernel_rfl) | (rw [if_neg (by decide +kernel)]; exact ⟨rfl, rfl⟩))
    (fun os started H enc _ => lifted os started H enc)
end Go.Proofs.Ytikhdnpokhldeaa.utfReads
