/- UtfPuts: any number's bytes behind any others, and which of two texts is ahead, are the document's: whatever the input, the law returns true and the input reads as it did. No condition. -/
import Derived.Test.YtikhdnpokhldeaaRows
import Derived.Test.YtikhdnpokhldeaaApp
import Derived.Test.YtikhdnpokhldeaaWUtfE
import Derived.Test.YtikhdnpokhldeaaWUtfG
import Derived.Test.YtikhdnpokhldeaaRefD
import Derived.Test.YtikhdnpokhldeaaFrame
import Derived.SizedLaws
import Derived.OpenShut
import Derived.IntWalk
set_option linter.unusedVariables false
set_option linter.unusedSimpArgs false
namespace Go.Proofs.Ytikhdnpokhldeaa.utfPuts
open Go.ChangeShapes Go.WideShapes Go.ChangeAt Go.RowKit Go.Mem Orange

set_option maxHeartbeats 3200000 in
theorem walk (va : Value) (xs : List UInt8) (r : Int) (hr0 : -2147483648 ≤ r) (hr1 : r ≤ 2147483647) (s : ByteArray) (hs : s.size ≤ 140737488351232) (t : ByteArray) (ht : t.size ≤ 140737488351232) (w : World) (hx : Bytes w va xs) :
    Calls Try.prog 7 #[va, .int .i32 r, .string s, .string t] w fun e w' => e = .returned (.bool true) ∧ Ext w w' := by
  have hx0 := hx
  obtain ⟨a, ca, rfl, hxc, hxm, hxl, hxat⟩ := hx0
  clear hxat
  go_enter Try.func7, Try.ntmps7
  go_wp2_with fail
  refine (awake_any _).mono ?_
  rintro e w1 ⟨rfl, hw1⟩
  by_cases hlen : xs.length + s.size + t.size ≤ 1000
  · have hd : decide (1000 < (xs.length : Int) + s.size + t.size) = false := by simp; omega
    go_wp2_with fail
    have hx1 := hx.ext hw1
    obtain ⟨l, hl⟩ : ∃ l, xs ++ encP r = l := ⟨_, rfl⟩
    obtain ⟨B, hB0⟩ : ∃ B, lessL (marks s.data.toList) (marks t.data.toList) = B := ⟨_, rfl⟩
    have hll : l.length ≤ 1100 := by
      rw [← hl, List.length_append]
      have : (encP r).length ≤ 4 := by unfold encP; split <;> exact (enc_pos _).2
      omega
    have HL := Lib.hid hl
    have HB := Lib.hid hB0
    clear hl hB0
    refine Grow.wp_region_lit (G := Ext) (B := fun w' => Ext w1 w' ∧ True) (anc := fun j => if j = 5 then [4] else if j = 9 then [8] else []) (I := fun j => if j = 4 then some (specBytes l) else if j = 5 then some (Grow.Spec.val Ext (.string ⟨l.toArray⟩)) else if j = 8 then some (specBytes l) else if j = 9 then some (Grow.Spec.val Ext (.string ⟨l.toArray⟩)) else if j = 15 then some (Grow.Spec.val Ext (.bool B)) else if j = 18 then some (Grow.Spec.val Ext (.bool B)) else none) (by kernel_rfl) (by kernel_rfl) (by kernel_rfl) ?_ ?_ ?_
    · exact fun w w' h hg => ⟨ext_trans h.1 hg, trivial⟩
    · exact ⟨(ext_refl _).drew, trivial⟩
    repeat
      (refine Grow.walk_step (fun K hK => ?_)
       first
       | (refine Grow.step_read (by rfl) (by rfl) ext_refl ?_
          apply Exists.intro
          refine ⟨fun w hB hF => ?_, ?_⟩
          · obtain ⟨hB1, hB2⟩ := hB
            go_simp
            try exact rfl
          go_simp
          refine hK _ _ ?_
          clear hK K)
       | (refine Grow.step_off (by rfl) ?_
          go_simp
          refine hK _ _ ?_
          clear hK K))
    refine Grow.walk_step (fun K hK => ?_)
    refine Grow.step_rel (by rfl) (by rfl) (fun w' hB hF => ?_) (fun v hv => ?_)
    · obtain ⟨hB1, hB2⟩ := hB
      go_simp
      refine Grow.relUpon_enter ((put_any _ xs r w' (hx1.ext hB1) (by omega)).mono ?_)
      rintro e w'' ⟨v, rfl, hown, hw''⟩
      have hb := hown.bytes (by rw [HL.out]; omega); rw [HL.out] at hb; have hb' := hb; obtain ⟨a7, c7, e7, _⟩ := hb; exact ⟨v, rfl, hw'', ⟨a7, c7, e7⟩, hb'⟩
    obtain ⟨a7, c7, rfl⟩ := hv
    go_simp
    refine hK _ _ ?_
    clear hK K
    refine Grow.walk_step (fun K hK => ?_)
    refine Grow.step_rel (by rfl) (by rfl) (fun w' hB hF => ?_) (fun v hv => ?_)
    · obtain ⟨hB1, hB2⟩ := hB
      go_simp
      rw [run_string_of_bytes w' (show Bytes w' (.slice a7 l.length c7) l from hF 4 (by simp)) 22 9 5 Try.underlying22 Try.underlying5 Try.underlying9]
      exact Grow.relUpon_value (ext_refl _) (rfl) trivial
    obtain rfl : v = _ := hv
    go_simp
    refine hK _ _ ?_
    clear hK K
    repeat
      (refine Grow.walk_step (fun K hK => ?_)
       first
       | (refine Grow.step_read (by rfl) (by rfl) ext_refl ?_
          apply Exists.intro
          refine ⟨fun w hB hF => ?_, ?_⟩
          · obtain ⟨hB1, hB2⟩ := hB
            go_simp
            try exact rfl
          go_simp
          refine hK _ _ ?_
          clear hK K)
       | (refine Grow.step_off (by rfl) ?_
          go_simp
          refine hK _ _ ?_
          clear hK K))
    refine Grow.walk_step (fun K hK => ?_)
    refine Grow.step_rel (by rfl) (by rfl) (fun w' hB hF => ?_) (fun v hv => ?_)
    · obtain ⟨hB1, hB2⟩ := hB
      go_simp
      refine Grow.relUpon_enter ((refput_any _ xs r w' (hx1.ext hB1) (by omega) hr0 hr1).mono ?_)
      rintro e w'' ⟨v, rfl, hb, hw''⟩
      rw [HL.out] at hb; have hb' := hb; obtain ⟨a7, c7, e7, _⟩ := hb; exact ⟨v, rfl, hw'', ⟨a7, c7, e7⟩, hb'⟩
    obtain ⟨a8, c8, rfl⟩ := hv
    go_simp
    refine hK _ _ ?_
    clear hK K
    refine Grow.walk_step (fun K hK => ?_)
    refine Grow.step_rel (by rfl) (by rfl) (fun w' hB hF => ?_) (fun v hv => ?_)
    · obtain ⟨hB1, hB2⟩ := hB
      go_simp
      rw [run_string_of_bytes w' (show Bytes w' (.slice a8 l.length c8) l from hF 8 (by simp)) 22 9 5 Try.underlying22 Try.underlying5 Try.underlying9]
      exact Grow.relUpon_value (ext_refl _) (rfl) trivial
    obtain rfl : v = _ := hv
    go_simp
    refine hK _ _ ?_
    clear hK K
    repeat
      (refine Grow.walk_step (fun K hK => ?_)
       first
       | (refine Grow.step_read (by rfl) (by rfl) ext_refl ?_
          apply Exists.intro
          refine ⟨fun w hB hF => ?_, ?_⟩
          · obtain ⟨hB1, hB2⟩ := hB
            go_simp
            try exact rfl
          go_simp
          refine hK _ _ ?_
          clear hK K)
       | (refine Grow.step_off (by rfl) ?_
          go_simp
          refine hK _ _ ?_
          clear hK K))
    refine Grow.walk_step (fun K hK => ?_)
    refine Grow.step_rel (by rfl) (by rfl) (fun w' hB hF => ?_) (fun v hv => ?_)
    · obtain ⟨hB1, hB2⟩ := hB
      go_simp
      refine Grow.relUpon_enter ((less_any s t w' (by omega) (by omega)).mono ?_)
      rintro e w'' ⟨rfl, hw''⟩
      exact ⟨_, rfl, hw'', (by rw [HB.out]; rfl), trivial⟩
    obtain rfl : v = _ := hv
    go_simp
    refine hK _ _ ?_
    clear hK K
    repeat
      (refine Grow.walk_step (fun K hK => ?_)
       first
       | (refine Grow.step_read (by rfl) (by rfl) ext_refl ?_
          apply Exists.intro
          refine ⟨fun w hB hF => ?_, ?_⟩
          · obtain ⟨hB1, hB2⟩ := hB
            go_simp
            try exact rfl
          go_simp
          refine hK _ _ ?_
          clear hK K)
       | (refine Grow.step_off (by rfl) ?_
          go_simp
          refine hK _ _ ?_
          clear hK K))
    refine Grow.walk_step (fun K hK => ?_)
    refine Grow.step_rel (by rfl) (by rfl) (fun w' hB hF => ?_) (fun v hv => ?_)
    · obtain ⟨hB1, hB2⟩ := hB
      go_simp
      refine Grow.relUpon_enter ((refless_any s t w' (by omega) (by omega)).mono ?_)
      rintro e w'' ⟨rfl, hw''⟩
      exact ⟨_, rfl, hw'', (by rw [HB.out]; rfl), trivial⟩
    obtain rfl : v = _ := hv
    go_simp
    refine hK _ _ ?_
    clear hK K
    repeat
      (refine Grow.walk_step (fun K hK => ?_)
       first
       | (refine Grow.step_read (by rfl) (by rfl) ext_refl ?_
          apply Exists.intro
          refine ⟨fun w hB hF => ?_, ?_⟩
          · obtain ⟨hB1, hB2⟩ := hB
            go_simp
            try exact rfl
          go_simp
          refine hK _ _ ?_
          clear hK K)
       | (refine Grow.step_off (by rfl) ?_
          go_simp
          refine hK _ _ ?_
          clear hK K))
    refine Grow.walk_nil ?_
    intro w10 hB hF
    clear hF
    have hB1 := hB.1
    clear hB
    go_wp2_with fail
    go_ret
    exact ⟨rfl, ext_trans hw1 hB1⟩
  · have hd : decide (1000 < (xs.length : Int) + s.size + t.size) = true := by simp; omega
    go_wp2_with fail
    go_ret
    exact ⟨rfl, hw1⟩

set_option linter.unusedSimpArgs false
theorem own : ownKnob Try.prog.godebug = none := by kernel_rfl
theorem laid : laidOutB Try.prog = true := by kernel_rfl
theorem cells1 : Try.prog.cellsOf 5 = 1 := by kernel_rfl
theorem bytes1 : Try.prog.bytesOf 5 = 1 := by kernel_rfl
set_option maxHeartbeats 1600000 in
set_option maxRecDepth 100000 in
theorem lifted (os : Os) (started : os.Started) (H : Type) (enc : TypeId × Value → H) :
    ReturnsInHanded {} Try.checked os 7 .any (Rows.utfPutsSpec.pre6 enc Try.prog Try.f7 Rows.utfPutsRow.domain false) (Rows.utfPutsSpec.post enc Try.prog Try.f7 false true false false) := by
  refine returnsInHanded_of_change_sized (C := Try.checked) own started (by kernel_rfl) Try.func7
    (ChangeSpec.witness6 (enc := enc) (C := Try.checked) false ⟨#[], #[.slice none 0 0, .int .i32 0, .string ⟨#[]⟩, .string ⟨#[]⟩], []⟩ 8 (by kernel_rfl) (by kernel_rfl) (by kernel_rfl) (by kernel_rfl)) ?_
  intro W base args ds gs before hval0 hW _ hsz0 _
  have hsz : (DataW.weightsEach Try.prog (Try.f7.params.toList ++ Rows.utfPutsSpec.plain.varTypes Try.prog) (ds ++ gs)).all (· ≤ reachBytes) = true := hsz0
  clear hsz0
  have hval : ∀ (j : Nat) t v, Try.f7.params[j]? = some t → args[j]? = some v → Value.okWide Try.prog W .any base t v := hval0
  have hW' := hW
  obtain ⟨p, q, hA0, hV, rfl, _, _⟩ := hW
  have hA : DataW.TrodAll enc Try.prog W 0 (fun _ => true) true Try.f7.params.toList args.toList ds p := hA0
  rw [Try.params7] at hA hval hsz
  obtain ⟨v0, vs0, d0, ds0, p0, q0, ha0, rfl, rfl, h0, r0⟩ := trodAll_cons hA
  obtain ⟨v1, vs1, d1, ds1, p1, q1, ha1, rfl, rfl, h1, r1⟩ := trodAll_cons r0
  obtain ⟨v2, vs2, d2, ds2, p2, q2, ha2, rfl, rfl, h2, r2⟩ := trodAll_cons r1
  obtain ⟨v3, vs3, d3, ds3, p3, q3, ha3, rfl, rfl, h3, r3⟩ := trodAll_cons r2
  obtain ⟨hb4, rfl, rfl⟩ := trodAll_nil r3
  subst hb4
  subst ha3
  subst ha2
  subst ha1
  obtain rfl : args = #[v0, v1, v2, v3] := by cases args; simpa using ha0
  obtain ⟨rfl, rfl⟩ := trodVars_none hV
  have hk0 := h0
  obtain ⟨a0, len0, cap0, rfl⟩ := okWide_slice Try.underlying22 (hval 0 22 v0 rfl rfl)
  obtain ⟨xs0, hx0⟩ := bytes_of_trod Try.underlying22 Try.underlying5 cells1 h0 (fun elems spare e => by subst e; have := sized_slice hsz (j := 0) rfl rfl Try.underlying22; rw [bytes1] at this; simp only [reachBytes] at this; omega)
  have hk1 := h1
  obtain ⟨a1, rfl, rfl, rfl, wf1⟩ := open_int Try.underlying21 (hval 1 21 v1 rfl rfl) h1
  have hr1 : -2147483648 ≤ a1 ∧ a1 ≤ 2147483647 := by simpa [Lit.wf, IntKind.min, IntKind.max, IntKind.signed, IntKind.bits] using wf1
  have hk2 := h2
  obtain ⟨a2, rfl, rfl, rfl, _⟩ := Go.ChangeMaps.open_string Try.underlying9 (hval 2 9 v2 rfl rfl) h2
  have hs2 : a2.size ≤ 140737488351232 := by have := sized_string hsz (j := 2) rfl rfl; simpa [reachBytes] using this
  have hk3 := h3
  obtain ⟨a3, rfl, rfl, rfl, _⟩ := Go.ChangeMaps.open_string Try.underlying9 (hval 3 9 v3 rfl rfl) h3
  have hs3 : a3.size ≤ 140737488351232 := by have := sized_string hsz (j := 3) rfl rfl; simpa [reachBytes] using this
  have hlt := fun x hx => hW'.lt x hx
  simp only [List.append_nil, List.nil_append] at hW' hlt
  refine (walk _ xs0 a1 hr1.1 hr1.2 a2 hs2 a3 hs3 W hx0).mono fun e W' ⟨he, hb⟩ => ?_
  subst he
  have hargs := (trodAll_cons_mk (Below.trod laid (by kernel_rfl) (of_decide_eq_true (by kernel_rfl)) hk0 hb (fun x hx => by first | exact hlt x hx | exact absurd hx (List.not_mem_nil) | exact hlt x (by simp [hx]))) (trodAll_cons_mk (Below.trod laid (by kernel_rfl) (of_decide_eq_true (by kernel_rfl)) hk1 hb (fun x hx => by first | exact hlt x hx | exact absurd hx (List.not_mem_nil) | exact hlt x (by simp [hx]))) (trodAll_cons_mk (Below.trod laid (by kernel_rfl) (of_decide_eq_true (by kernel_rfl)) hk2 hb (fun x hx => by first | exact hlt x hx | exact absurd hx (List.not_mem_nil) | exact hlt x (by simp [hx]))) (trodAll_cons_mk (Below.trod laid (by kernel_rfl) (of_decide_eq_true (by kernel_rfl)) hk3 hb (fun x hx => by first | exact hlt x hx | exact absurd hx (List.not_mem_nil) | exact hlt x (by simp [hx]))) trodAll_mk0))))
  exact ⟨_, rfl, _, _, _, [], _, [], hW', trodAll_cons_mk (shut_bool Try.underlying4 _) trodAll_mk0, hargs, rfl, hb.frame _, fun h => by cases h⟩

theorem proved : Rows.UtfPutsSaid :=
  OpenClaim.holds_of_wide 7 Try.f7 rfl rfl rfl rfl rfl rfl rfl ⟨rfl, rfl, rfl, rfl, rfl⟩ rfl rfl rfl rfl rfl (by kernel_rfl) Try.func7 (by kernel_rfl)
    (of_decide_eq_true (by kernel_rfl)) (by unfold Func.isWrapper; first | (rw [if_pos (by decide +kernel)]; kernel_rfl) | (rw [if_neg (by decide +kernel)]; exact ⟨rfl, rfl⟩))
    (fun os started H enc _ => lifted os started H enc)
end Go.Proofs.Ytikhdnpokhldeaa.utfPuts
