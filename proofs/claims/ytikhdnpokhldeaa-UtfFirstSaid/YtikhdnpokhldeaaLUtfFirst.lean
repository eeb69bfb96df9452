/- UtfFirst: of any bytes just one is true: a character is begun there that Put lays again, or none is: whatever the input, the law returns true and the input reads as it did. No condition. -/
import Derived.Test.YtikhdnpokhldeaaRows
import Derived.Test.YtikhdnpokhldeaaApp
import Derived.Test.YtikhdnpokhldeaaWUtfE
import Derived.Test.YtikhdnpokhldeaaWUtfF
import Derived.Test.YtikhdnpokhldeaaUtfO
import Derived.Test.YtikhdnpokhldeaaFrame
import Derived.SizedLaws
import Derived.OpenShut
import Derived.IntWalk
set_option linter.unusedVariables false
set_option linter.unusedSimpArgs false
namespace Go.Proofs.Ytikhdnpokhldeaa.utfFirst
open Go.ChangeShapes Go.WideShapes Go.ChangeAt Go.RowKit Go.Mem Orange

theorem checkL_or : ∀ (n : Nat) (b : List UInt8) (i : Int), b.length ≤ n → checkL b i = -1 ∨ i ≤ checkL b i
  | _, [], i, _ => .inl rfl
  | 0, _ :: _, _, h => by simp at h
  | n + 1, x :: t, i, h => by
    rw [checkL_cons]
    by_cases hz : (next (x :: t)).2 = 0
    · rw [if_pos hz]; exact .inr (Int.le_refl _)
    · rw [if_neg hz]
      simp only [List.length_cons] at h
      rcases checkL_or n ((x :: t).drop (next (x :: t)).2) (i + ((next (x :: t)).2 : Int)) (by simp; omega) with h1 | h1
      · exact .inl h1
      · exact .inr (by omega)
theorem check_zero {x : UInt8} {t : List UInt8} (h : (next (x :: t)).2 = 0) : check (x :: t) = 0 := by
  rw [check, checkL_cons, if_pos h]
theorem check_more {r : Int} (h : sound r = true) (t : List UInt8) : check (enc r ++ t) ≠ 0 := by
  have hp := enc_pos r
  rw [check, checkL_enc h]
  rcases checkL_or _ t (0 + ((enc r).length : Int)) (Nat.le_refl _) with h1 | h1 <;> omega
theorem check_one {r : Int} (h : sound r = true) : check (enc r) = -1 := by
  have := checkL_enc h [] 0
  rw [List.append_nil, checkL_nil] at this
  exact this
theorem marks_pos {r : Int} (h : sound r = true) (t : List UInt8) : 1 ≤ (marks (enc r ++ t)).length := by
  rw [marks_enc h]; simp

set_option maxHeartbeats 3200000 in
theorem walk (va : Value) (xs : List UInt8) (w : World) (hx : Bytes w va xs) :
    Calls Try.prog 6 #[va] w fun e w' => e = .returned (.bool true) ∧ Ext w w' := by
  have hx0 := hx
  obtain ⟨a, ca, rfl, hxc, hxm, hxl, hxat⟩ := hx0
  clear hxat
  go_enter Try.func6, Try.ntmps6
  go_wp2_with fail
  refine (awake_any _).mono ?_
  rintro e w1 ⟨rfl, hw1⟩
  by_cases hlen : xs.length ≤ 1000
  · have hd : decide (1000 < (xs.length : Int)) = false := by simp; omega
    go_wp2_with fail
    refine (next_any _ xs _ (hx.ext hw1)).mono ?_
    rintro e w2 ⟨rfl, hw2⟩
    have hE2 : Ext w w2 := ext_trans hw1 hw2
    clear hw1 hw2
    rcases next_spec xs with hz | ⟨hs, hn, t, ht⟩
    · rw [hz]
      cases xs with
      | nil =>
        simp only [List.length_nil] at *
        go_wp2_with fail
        go_ret
        exact ⟨rfl, hE2⟩
      | cons x t =>
        have hck : check (x :: t) = 0 := check_zero (by rw [hz])
        have hl0 : decide (((x :: t).length : Int) = 0) = false := by simp; omega
        go_wp2_with fail
        refine (check_any _ _ _ (hx.ext hE2)).mono ?_
        rintro e w3 ⟨rfl, hw3⟩
        rw [hck]
        go_wp2_with fail
        go_ret
        exact ⟨rfl, ext_trans hE2 hw3⟩
    · obtain ⟨c, hcc⟩ : ∃ c, (next xs).1 = c := ⟨_, rfl⟩
      rw [hcc] at hs hn ht ⊢
      rw [hn]
      obtain ⟨hn1, hn4⟩ := enc_pos c
      have hck := check_more hs t
      have hc1 := check_one hs
      have hmk := marks_pos hs t
      have hec : encP c = enc c := by rw [encP, if_pos hs]
      rw [← ht] at hck hmk
      have htk : xs.take (enc c).length = enc c := by rw [ht, List.take_left]
      have hlt : (enc c).length ≤ xs.length := by rw [ht, List.length_append]; omega
      clear hcc hn ht
      obtain ⟨l, hl⟩ : ∃ l, enc c = l := ⟨_, rfl⟩
      rw [hl] at hn1 hn4 hc1 hec htk hlt ⊢
      clear hl
      have HEC := Lib.hid hec
      have HTK := Lib.hid htk
      have HC1 := Lib.hid hc1
      clear hec htk hc1
      go_wp2_with fail
      have hx2 := hx.ext hE2
      have hck' : (check xs == 0) = false := by simpa using hck
      have hck2 : (check xs != 0) = true := by simpa using hck
      have hl2 : Bytes w2 (.slice a l.length ca) l := by
        obtain ⟨a', c', e1, e2, e3, e4, e5⟩ := hx2
        cases e1
        refine ⟨a, ca, rfl, by omega, e3, by omega, ?_⟩
        have := e5.take l.length
        rwa [HTK.out] at this
      have hlc : l.length ≤ ca := by omega
      have hd1 : decide ((1 : Int) ≤ l.length) = true := by simp; omega
      have hd4 : decide ((l.length : Int) ≤ 4) = true := by simp; omega
      have hd5 : decide (l.length ≤ xs.length) = true := by simp; omega
      have hd6 : decide ((1 : Int) ≤ (marks xs).length) = true := by simp; omega
      refine Grow.wp_region_lit (G := Ext) (B := fun w' => Ext w2 w' ∧ True) (anc := fun j => if j = 18 then [17] else []) (I := fun j => if j = 17 then some (specBytes l) else if j = 18 then some (Grow.Spec.val Ext (.string ⟨l.toArray⟩)) else if j = 22 then some (Grow.Spec.val Ext (.string ⟨l.toArray⟩)) else if j = 27 then some (Grow.Spec.val Ext (.int .i64 (check xs))) else if j = 34 then some (Grow.Spec.val Ext (.int .i64 (-1))) else if j = 39 then some (Grow.Spec.val Ext (.string ⟨xs.toArray⟩)) else if j = 40 then some (Grow.Spec.val Ext (.int .i64 (marks xs).length)) else none) (by kernel_rfl) (by kernel_rfl) (by kernel_rfl) ?_ ?_ ?_
      · exact fun w w' h hg => ⟨ext_trans h.1 hg, trivial⟩
      · exact ⟨(ext_refl _).drew, trivial⟩
      repeat
        (refine Grow.walk_step (fun K hK => ?_)
         first
         | (refine Grow.step_read (by rfl) (by rfl) ext_refl ?_
            apply Exists.intro
            refine ⟨fun w hB hF => ?_, ?_⟩
            · obtain ⟨hB1, hB2⟩ := hB
              go_simp
              try exact rfl
            go_simp
            refine hK _ _ ?_
            clear hK K)
         | (refine Grow.step_off (by rfl) ?_
            go_simp
            refine hK _ _ ?_
            clear hK K))
      refine Grow.walk_step (fun K hK => ?_)
      refine Grow.step_rel (by rfl) (by rfl) (fun w' hB hF => ?_) (fun v hv => ?_)
      · obtain ⟨hB1, hB2⟩ := hB
        go_simp
        refine Grow.relUpon_enter ((put_any _ [] c w' (Bytes.nil _ _ _ (by omega)) (by simp)).mono ?_)
        rintro e w'' ⟨v, rfl, hown, hw''⟩
        have hb := hown.bytes (by rw [List.nil_append, HEC.out]; omega); rw [List.nil_append, HEC.out] at hb; have hb' := hb; obtain ⟨a7, c7, e7, _⟩ := hb; exact ⟨v, rfl, hw'', ⟨a7, c7, e7⟩, hb'⟩
      obtain ⟨a7, c7, rfl⟩ := hv
      go_simp
      refine hK _ _ ?_
      clear hK K
      refine Grow.walk_step (fun K hK => ?_)
      refine Grow.step_rel (by rfl) (by rfl) (fun w' hB hF => ?_) (fun v hv => ?_)
      · obtain ⟨hB1, hB2⟩ := hB
        go_simp
        rw [run_string_of_bytes w' (show Bytes w' (.slice a7 l.length c7) l from hF 17 (by simp)) 22 9 5 Try.underlying22 Try.underlying5 Try.underlying9]
        exact Grow.relUpon_value (ext_refl _) (rfl) trivial
      obtain rfl : v = _ := hv
      go_simp
      refine hK _ _ ?_
      clear hK K
      repeat
        (refine Grow.walk_step (fun K hK => ?_)
         first
         | (refine Grow.step_read (by rfl) (by rfl) ext_refl ?_
            apply Exists.intro
            refine ⟨fun w hB hF => ?_, ?_⟩
            · obtain ⟨hB1, hB2⟩ := hB
              go_simp
              try exact rfl
            go_simp
            refine hK _ _ ?_
            clear hK K)
         | (refine Grow.step_off (by rfl) ?_
            go_simp
            refine hK _ _ ?_
            clear hK K))
      refine Grow.walk_step (fun K hK => ?_)
      refine Grow.step_rel (by rfl) (by rfl) (fun w' hB hF => ?_) (fun v hv => ?_)
      · obtain ⟨hB1, hB2⟩ := hB
        go_simp
        rw [run_string_of_bytes w' (hl2.ext hB1) 22 9 5 Try.underlying22 Try.underlying5 Try.underlying9]
        exact Grow.relUpon_value (ext_refl _) (rfl) trivial
      obtain rfl : v = _ := hv
      go_simp
      refine hK _ _ ?_
      clear hK K
      repeat
        (refine Grow.walk_step (fun K hK => ?_)
         first
         | (refine Grow.step_read (by rfl) (by rfl) ext_refl ?_
            apply Exists.intro
            refine ⟨fun w hB hF => ?_, ?_⟩
            · obtain ⟨hB1, hB2⟩ := hB
              go_simp
              try exact rfl
            go_simp
            refine hK _ _ ?_
            clear hK K)
         | (refine Grow.step_off (by rfl) ?_
            go_simp
            refine hK _ _ ?_
            clear hK K))
      refine Grow.walk_step (fun K hK => ?_)
      refine Grow.step_rel (by rfl) (by rfl) (fun w' hB hF => ?_) (fun v hv => ?_)
      · obtain ⟨hB1, hB2⟩ := hB
        go_simp
        refine Grow.relUpon_enter ((check_any _ xs w' (hx2.ext hB1)).mono ?_)
        rintro e w'' ⟨rfl, hw''⟩
        exact ⟨_, rfl, hw'', rfl, trivial⟩
      obtain rfl : v = _ := hv
      go_simp
      refine hK _ _ ?_
      clear hK K
      repeat
        (refine Grow.walk_step (fun K hK => ?_)
         first
         | (refine Grow.step_read (by rfl) (by rfl) ext_refl ?_
            apply Exists.intro
            refine ⟨fun w hB hF => ?_, ?_⟩
            · obtain ⟨hB1, hB2⟩ := hB
              go_simp
              try exact rfl
            go_simp
            refine hK _ _ ?_
            clear hK K)
         | (refine Grow.step_off (by rfl) ?_
            go_simp
            refine hK _ _ ?_
            clear hK K))
      refine Grow.walk_step (fun K hK => ?_)
      refine Grow.step_rel (by rfl) (by rfl) (fun w' hB hF => ?_) (fun v hv => ?_)
      · obtain ⟨hB1, hB2⟩ := hB
        go_simp
        refine Grow.relUpon_enter ((check_any _ l w' (hl2.ext hB1)).mono ?_)
        rintro e w'' ⟨rfl, hw''⟩
        exact ⟨_, rfl, hw'', (by rw [HC1.out]; rfl), trivial⟩
      obtain rfl : v = _ := hv
      go_simp
      refine hK _ _ ?_
      clear hK K
      repeat
        (refine Grow.walk_step (fun K hK => ?_)
         first
         | (refine Grow.step_read (by rfl) (by rfl) ext_refl ?_
            apply Exists.intro
            refine ⟨fun w hB hF => ?_, ?_⟩
            · obtain ⟨hB1, hB2⟩ := hB
              go_simp
              try exact rfl
            go_simp
            refine hK _ _ ?_
            clear hK K)
         | (refine Grow.step_off (by rfl) ?_
            go_simp
            refine hK _ _ ?_
            clear hK K))
      refine Grow.walk_step (fun K hK => ?_)
      refine Grow.step_rel (by rfl) (by rfl) (fun w' hB hF => ?_) (fun v hv => ?_)
      · obtain ⟨hB1, hB2⟩ := hB
        go_simp
        rw [run_string_of_bytes w' (hx2.ext hB1) 22 9 5 Try.underlying22 Try.underlying5 Try.underlying9]
        exact Grow.relUpon_value (ext_refl _) (rfl) trivial
      obtain rfl : v = _ := hv
      go_simp
      refine hK _ _ ?_
      clear hK K
      refine Grow.walk_step (fun K hK => ?_)
      refine Grow.step_rel (by rfl) (by rfl) (fun w' hB hF => ?_) (fun v hv => ?_)
      · obtain ⟨hB1, hB2⟩ := hB
        go_simp
        refine Grow.relUpon_enter ((count_any ⟨xs.toArray⟩ w' (by show xs.toArray.size ≤ _; simp; omega)).mono ?_)
        rintro e w'' ⟨rfl, hw''⟩
        exact ⟨_, rfl, hw'', (by simp; rfl), trivial⟩
      obtain rfl : v = _ := hv
      go_simp
      refine hK _ _ ?_
      clear hK K
      repeat
        (refine Grow.walk_step (fun K hK => ?_)
         first
         | (refine Grow.step_read (by rfl) (by rfl) ext_refl ?_
            apply Exists.intro
            refine ⟨fun w hB hF => ?_, ?_⟩
            · obtain ⟨hB1, hB2⟩ := hB
              go_simp
              try exact rfl
            go_simp
            refine hK _ _ ?_
            clear hK K)
         | (refine Grow.step_off (by rfl) ?_
            go_simp
            refine hK _ _ ?_
            clear hK K))
      refine Grow.walk_nil ?_
      intro w10 hB hF
      clear hF
      have hB1 := hB.1
      clear hB
      go_wp2_with fail
      go_ret
      exact ⟨rfl, ext_trans hE2 hB1⟩
  · have hd : decide (1000 < (xs.length : Int)) = true := by simp; omega
    go_wp2_with fail
    go_ret
    exact ⟨rfl, hw1⟩

set_option linter.unusedSimpArgs false
theorem own : ownKnob Try.prog.godebug = none := by kernel_rfl
theorem laid : laidOutB Try.prog = true := by kernel_rfl
theorem cells1 : Try.prog.cellsOf 5 = 1 := by kernel_rfl
theorem bytes1 : Try.prog.bytesOf 5 = 1 := by kernel_rfl
set_option maxHeartbeats 1600000 in
set_option maxRecDepth 100000 in
theorem lifted (os : Os) (started : os.Started) (H : Type) (enc : TypeId × Value → H) :
    ReturnsInHanded {} Try.checked os 6 .any (Rows.utfFirstSpec.pre6 enc Try.prog Try.f6 Rows.utfFirstRow.domain false) (Rows.utfFirstSpec.post enc Try.prog Try.f6 false true false false) := by
  refine returnsInHanded_of_change_sized (C := Try.checked) own started (by kernel_rfl) Try.func6
    (ChangeSpec.witness6 (enc := enc) (C := Try.checked) false ⟨#[], #[.slice none 0 0], []⟩ 8 (by kernel_rfl) (by kernel_rfl) (by kernel_rfl) (by kernel_rfl)) ?_
  intro W base args ds gs before hval0 hW _ hsz0 _
  have hsz : (DataW.weightsEach Try.prog (Try.f6.params.toList ++ Rows.utfFirstSpec.plain.varTypes Try.prog) (ds ++ gs)).all (· ≤ reachBytes) = true := hsz0
  clear hsz0
  have hval : ∀ (j : Nat) t v, Try.f6.params[j]? = some t → args[j]? = some v → Value.okWide Try.prog W .any base t v := hval0
  have hW' := hW
  obtain ⟨p, q, hA0, hV, rfl, _, _⟩ := hW
  have hA : DataW.TrodAll enc Try.prog W 0 (fun _ => true) true Try.f6.params.toList args.toList ds p := hA0
  rw [Try.params6] at hA hval hsz
  obtain ⟨v0, vs0, d0, ds0, p0, q0, ha0, rfl, rfl, h0, r0⟩ := trodAll_cons hA
  obtain ⟨hb1, rfl, rfl⟩ := trodAll_nil r0
  subst hb1
  obtain rfl : args = #[v0] := by cases args; simpa using ha0
  obtain ⟨rfl, rfl⟩ := trodVars_none hV
  have hk0 := h0
  obtain ⟨a0, len0, cap0, rfl⟩ := okWide_slice Try.underlying22 (hval 0 22 v0 rfl rfl)
  obtain ⟨xs0, hx0⟩ := bytes_of_trod Try.underlying22 Try.underlying5 cells1 h0 (fun elems spare e => by subst e; have := sized_slice hsz (j := 0) rfl rfl Try.underlying22; rw [bytes1] at this; simp only [reachBytes] at this; omega)
  have hlt := fun x hx => hW'.lt x hx
  simp only [List.append_nil, List.nil_append] at hW' hlt
  refine (walk _ xs0 W hx0).mono fun e W' ⟨he, hb⟩ => ?_
  subst he
  have hargs := (trodAll_cons_mk (Below.trod laid (by kernel_rfl) (of_decide_eq_true (by kernel_rfl)) hk0 hb (fun x hx => by first | exact hlt x hx | exact absurd hx (List.not_mem_nil) | exact hlt x (by simp [hx]))) trodAll_mk0)
  exact ⟨_, rfl, _, _, _, [], _, [], hW', trodAll_cons_mk (shut_bool Try.underlying4 _) trodAll_mk0, hargs, rfl, hb.frame _, fun h => by cases h⟩

theorem proved : Rows.UtfFirstSaid :=
  OpenClaim.holds_of_wide 6 Try.f6 rfl rfl rfl rfl rfl rfl rfl ⟨rfl, rfl, rfl, rfl, rfl⟩ rfl rfl rfl rfl rfl (by kernel_rfl) Try.func6 (by kernel_rfl)
    (of_decide_eq_true (by kernel_rfl)) (by unfold Func.isWrapper; first | (rw [if_pos (by decide +kernel)]; kernel_rfl) | (rw [if_neg (by decide +kernel)]; exact ⟨rfl, rfl⟩))
    (fun os started H enc _ => lifted os started H enc)
end Go.Proofs.Ytikhdnpokhldeaa.utfFirst
