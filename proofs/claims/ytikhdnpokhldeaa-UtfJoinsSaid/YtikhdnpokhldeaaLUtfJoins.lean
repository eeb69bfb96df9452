/- UtfJoins: good texts one behind the other are good: whatever the input, the law returns true and the input reads as it did. No condition. -/
import Derived.Test.YtikhdnpokhldeaaRows
import Derived.Test.YtikhdnpokhldeaaApp
import Derived.Test.YtikhdnpokhldeaaWUtfE
import Derived.Test.YtikhdnpokhldeaaWUtfF
import Derived.Test.YtikhdnpokhldeaaUtfO
import Derived.Test.YtikhdnpokhldeaaFrame
import Derived.SizedLaws
import Derived.OpenShut
import Derived.IntWalk
set_option linter.unusedVariables false
namespace Go.Proofs.Ytikhdnpokhldeaa.utfJoins
open Go.ChangeShapes Go.WideShapes Go.ChangeAt Go.RowKit Go.Mem Orange

theorem check_or (b : List UInt8) : 0 ≤ check b ∨ check b = -1 := by
  by_cases h : 0 ≤ check b
  · exact .inl h
  · obtain ⟨l, h1, h2⟩ := good_encs _ b 0 (Nat.le_refl _) (by omega) (by unfold check at h; omega)
    refine .inr ?_
    have := checkL_encs l h1 [] 0
    rw [List.append_nil, ← h2, checkL_nil] at this
    exact this

theorem check_joined {l m : List Int} (h1 : ∀ r ∈ l, sound r = true) (h2 : ∀ r ∈ m, sound r = true) : check (encs l ++ encs m) = -1 := by
  have := checkL_encs m h2 [] (0 + (encs l).length)
  rw [List.append_nil, checkL_nil] at this
  rw [check, checkL_encs l h1]; exact this
theorem marks_good {l : List Int} (h1 : ∀ r ∈ l, sound r = true) : marks (encs l) = l := by
  have := marks_encs l h1 []
  rw [List.append_nil, marks_nil, List.append_nil] at this; exact this
theorem marks_joined {l m : List Int} (h1 : ∀ r ∈ l, sound r = true) (h2 : ∀ r ∈ m, sound r = true) : marks (encs l ++ encs m) = l ++ m := by
  rw [marks_encs l h1, marks_good h2]
theorem check_bad {l : List Int} (h1 : ∀ r ∈ l, sound r = true) (x : UInt8) (hx : 128 ≤ x.toNat ∧ x.toNat < 192) (ys : List UInt8) : check (encs l ++ [x] ++ ys) = (encs l).length := by
  rw [check, List.append_assoc, checkL_encs l h1, List.singleton_append, checkL_cons]
  have : next (x :: ys) = (0, 0) := by rw [next, if_neg (by omega), if_pos hx.2]
  rw [this, if_pos rfl]; omega

set_option maxHeartbeats 3200000 in
theorem walk (va : Value) (xs : List UInt8) (vb : Value) (ys : List UInt8) (c : Int) (hc0 : 0 ≤ c) (hc1 : c ≤ 255) (w : World) (hx : Bytes w va xs) (hy : Bytes w vb ys) :
    Calls Try.prog 4 #[va, vb, .int .u8 c] w fun e w' => e = .returned (.bool true) ∧ Ext w w' := by
  have hx0 := hx
  have hy0 := hy
  obtain ⟨a, ca, rfl, hxc, hxm, hxl, hxat⟩ := hx0
  obtain ⟨b, cb, rfl, hyc, hym, hyl, hyat⟩ := hy0
  clear hxat hyat
  go_enter Try.func4, Try.ntmps4
  go_wp2_with fail
  refine (awake_any _).mono ?_
  rintro e w1 ⟨rfl, hw1⟩
  by_cases hlen : xs.length + ys.length ≤ 1000
  · have hd : decide (1000 < (xs.length : Int) + ys.length) = false := by simp; omega
    go_wp2_with fail
    refine (check_any _ xs _ (hx.ext hw1)).mono ?_
    rintro e w2 ⟨rfl, hw2⟩
    have hE2 : Ext w w2 := ext_trans hw1 hw2
    rcases check_or xs with hcx | hcx
    · have hd1 : decide (0 ≤ check xs) = true := by simpa using hcx
      go_wp2_with fail
      go_ret
      exact ⟨rfl, hE2⟩
    · rw [hcx]
      go_wp2_with fail
      refine (check_any _ ys _ (hy.ext hE2)).mono ?_
      rintro e w3 ⟨rfl, hw3⟩
      have hE3 : Ext w w3 := ext_trans hE2 hw3
      rcases check_or ys with hcy | hcy
      · have hd1 : decide (0 ≤ check ys) = true := by simpa using hcy
        go_wp2_with fail
        go_ret
        exact ⟨rfl, hE3⟩
      · rw [hcy]
        have hB0 := ownB_new w3 #[] 5 [] rfl 0 rfl (by omega)
        have hx3 := hx.ext hE3 |>.ext ((ext_refl w3).alloc (Nat.le_refl _) (.cells #[] 5))
        have hy3 := hy.ext hE3
        go_wp2_with (first
          | (at_builtin; refine wpList_append_bytes rfl _ _ rfl w3.heap.size _ [] rfl hB0 _ xs rfl hx3 (by simp only [List.length_nil]; omega) (by simp) ?_; intro a5 c5 w5 hown5 hw5; rw [List.nil_append, List.length_nil, Nat.zero_add] at hown5; have hs5 : w3.heap.size ≤ w5.heap.size := (by have := hw5.size; simp at this; omega); have hl5 : xs.length + ys.length ≤ 140737488355328 := (by omega); have hy5 := hy3.ext (((Below.refl w3.heap.size w3).alloc (Nat.le_refl _) _).trans hw5))
          | (at_builtin; refine wpList_append_bytes rfl _ _ rfl w3.heap.size _ xs rfl hown5 _ ys rfl hy5 hl5 hs5 ?_; intro a6 c6 w6 hown6 hw6; have hs6 : w3.heap.size ≤ w6.heap.size := (by have := hw6.size; omega); have hE6 : Ext w w6 := ext_trans hE3 (((Below.refl w3.heap.size w3).alloc (Nat.le_refl _) _).trans (hw5.trans hw6)); have hB6 := ownB_new w6 #[] 5 [] rfl 0 rfl (by omega); have hx6 := (hx.ext hE6).ext ((ext_refl w6).alloc (Nat.le_refl _) (.cells #[] 5)))
          | (at_builtin; refine wpList_append_bytes rfl _ _ rfl w6.heap.size _ [] rfl hB6 _ xs rfl hx6 (by simp only [List.length_nil]; omega) (by simp) ?_; intro a7 c7 w7 hown7 hw7; rw [List.nil_append, List.length_nil, Nat.zero_add] at hown7; have hs7 : w6.heap.size ≤ w7.heap.size := (by have := hw7.size; simp at this; omega); have hE7 : Below w6.heap.size w6 w7 := ((Below.refl w6.heap.size w6).alloc (Nat.le_refl _) _).trans hw7; have hown7' := OwnB.ext hown7 ((ext_refl w7).alloc (Nat.le_refl _) (.cells #[.int .u8 (128 + c % 64)] 5)); have hbc := bytes_new w7 #[.int .u8 (128 + c % 64)] 5 [byte (128 + c % 64)] (by simp [cells8, byte_int (show 0 ≤ 128 + c % 64 by omega) (show 128 + c % 64 < 256 by omega)]) 1 rfl (by omega); have hl7 : xs.length + [byte (128 + c % 64)].length ≤ 140737488355328 := (by simp only [List.length_cons, List.length_nil]; omega); have hs7' : w6.heap.size ≤ (w7.alloc (.cells #[.int .u8 (128 + c % 64)] 5)).heap.size := (by simp; omega))
          | (at_builtin; refine wpList_append_bytes rfl _ _ rfl w6.heap.size _ xs rfl hown7' _ [byte (128 + c % 64)] rfl hbc hl7 hs7' ?_; intro a8 c8 w8 hown8 hw8; have hE8 : Below w6.heap.size w6 w8 := hE7.trans (((Below.refl w6.heap.size w7).alloc hs7 _).trans hw8); have hs8 : w6.heap.size ≤ w8.heap.size := hE8.size; have hy8 := (hy.ext hE6).ext hE8; have hl8 : (xs ++ [byte (128 + c % 64)]).length + ys.length ≤ 140737488355328 := (by simp only [List.length_append, List.length_cons, List.length_nil]; omega); rw [show xs.length + [byte (128 + c % 64)].length = (xs ++ [byte (128 + c % 64)]).length from List.length_append.symm] at hown8)
          | (at_builtin; refine wpList_append_bytes rfl _ _ rfl w6.heap.size _ (xs ++ [byte (128 + c % 64)]) ?_ hown8 _ ys rfl hy8 hl8 hs8 ?_; (first | rfl | (simp only [List.length_append]; rfl)); intro a9 c9 w9 hown9 hw9))
        obtain ⟨l, hl1, hl2⟩ := good_encs _ xs 0 (Nat.le_refl _) (by omega) (by unfold check at hcx; omega)
        obtain ⟨m, hm1, hm2⟩ := good_encs _ ys 0 (Nat.le_refl _) (by omega) (by unfold check at hcy; omega)
        have hca := check_joined hl1 hm1
        have hma := marks_joined hl1 hm1
        have hbad := check_bad hl1 (byte (128 + c % 64)) (by rw [byte_toNat (by omega) (by omega)]; omega) ys
        have hml := marks_good hl1
        have hmm := marks_good hm1
        rw [← hl2] at hca hma hbad hml
        rw [← hm2] at hca hma hmm
        clear hl2 hm2
        have hE9 : Ext w w9 := ext_trans hE6 (hE8.trans hw9)
        have hall : Bytes w9 (.slice a6 (xs.length + ys.length) c6) (xs ++ ys) := by
          have := (hown6.bytes (by rw [List.length_append]; omega)).ext (hE8.trans hw9)
          exact this
        have hba : Bytes w9 (.slice a9 (xs.length + 1 + ys.length) c9) (xs ++ [byte (128 + c % 64)] ++ ys) := by
          have := hown9.bytes (by rw [List.length_append]; omega)
          simpa using this
        have hx9 := hx.ext hE9
        have hy9 := hy.ext hE9
        have hnx : (marks xs).length = l.length := by rw [hml]
        have hny : (marks ys).length = m.length := by rw [hmm]
        have hna : (marks (xs ++ ys)).length = l.length + m.length := by rw [hma, List.length_append]
        have hb1 := marks_len xs
        have hb2 := marks_len ys
        rw [hnx] at hb1
        rw [hny] at hb2
        have hwr : IntKind.i64.wrap ((l.length : Int) + m.length) = (l.length : Int) + m.length := IntWalk.i64_in _ (by omega)
        clear hw9 hw8 hown9 hown8 hown7 hown7' hown6 hown5 hbc hB6 hB0 hx6 hy8 hx3 hy3 hy5 hE8 hE7 hw7 hw6 hw5 hE6
        refine Grow.wp_region_lit (G := Ext) (B := fun w' => Ext w9 w' ∧ True) (anc := fun _ => []) (I := fun j => if j = 3 then some (Grow.Spec.val Ext (.int .i64 (-1))) else if j = 8 then some (Grow.Spec.val Ext (.string ⟨(xs ++ ys).toArray⟩)) else if j = 11 then some (Grow.Spec.val Ext (.string ⟨xs.toArray⟩)) else if j = 14 then some (Grow.Spec.val Ext (.string ⟨ys.toArray⟩)) else if j = 9 then some (Grow.Spec.val Ext (.int .i64 ((l.length : Int) + m.length))) else if j = 12 then some (Grow.Spec.val Ext (.int .i64 l.length)) else if j = 15 then some (Grow.Spec.val Ext (.int .i64 m.length)) else if j = 21 then some (Grow.Spec.val Ext (.int .i64 xs.length)) else none) (by kernel_rfl) (by kernel_rfl) (by kernel_rfl) ?_ ?_ ?_
        · exact fun w w' h hg => ⟨ext_trans h.1 hg, trivial⟩
        · exact ⟨(ext_refl _).drew, trivial⟩
        iterate 3
          (refine Grow.walk_step (fun K hK => ?_)
           refine Grow.step_read (by rfl) (by rfl) ext_refl ?_
           apply Exists.intro
           refine ⟨fun w hB hF => ?_, ?_⟩
           · obtain ⟨hB1, hB2⟩ := hB
             go_simp
             try exact rfl
           go_simp
           refine hK _ _ ?_
           clear hK K)
        refine Grow.walk_step (fun K hK => ?_)
        refine Grow.step_rel (by rfl) (by rfl) (fun w' hB hF => ?_) (fun v hv => ?_)
        · obtain ⟨hB1, hB2⟩ := hB
          go_simp
          refine Grow.relUpon_enter ((check_any _ (xs ++ ys) w' (hall.ext hB1)).mono ?_)
          rintro e w'' ⟨rfl, hw''⟩
          exact ⟨_, rfl, hw'', (by rw [hca]; rfl), trivial⟩
        obtain rfl : v = _ := hv
        go_simp
        refine hK _ _ ?_
        clear hK K
        iterate 4
          (refine Grow.walk_step (fun K hK => ?_)
           refine Grow.step_read (by rfl) (by rfl) ext_refl ?_
           apply Exists.intro
           refine ⟨fun w hB hF => ?_, ?_⟩
           · obtain ⟨hB1, hB2⟩ := hB
             go_simp
             try exact rfl
           go_simp
           refine hK _ _ ?_
           clear hK K)
        refine Grow.walk_step (fun K hK => ?_)
        refine Grow.step_rel (by rfl) (by rfl) (fun w' hB hF => ?_) (fun v hv => ?_)
        · obtain ⟨hB1, hB2⟩ := hB
          go_simp
          rw [run_string_of_bytes w' (hall.ext hB1) 22 9 5 Try.underlying22 Try.underlying5 Try.underlying9]
          exact Grow.relUpon_value (ext_refl _) (rfl) trivial
        obtain rfl : v = _ := hv
        go_simp
        refine hK _ _ ?_
        clear hK K
        refine Grow.walk_step (fun K hK => ?_)
        refine Grow.step_rel (by rfl) (by rfl) (fun w' hB hF => ?_) (fun v hv => ?_)
        · obtain ⟨hB1, hB2⟩ := hB
          go_simp
          refine Grow.relUpon_enter ((count_any ⟨(xs ++ ys).toArray⟩ w' (by show (xs ++ ys).toArray.size ≤ _; simp; omega)).mono ?_)
          rintro e w'' ⟨rfl, hw''⟩
          exact ⟨_, rfl, hw'', (by simp [hna]; rfl), trivial⟩
        obtain rfl : v = _ := hv
        go_simp
        refine hK _ _ ?_
        clear hK K
        iterate 1
          (refine Grow.walk_step (fun K hK => ?_)
           refine Grow.step_read (by rfl) (by rfl) ext_refl ?_
           apply Exists.intro
           refine ⟨fun w hB hF => ?_, ?_⟩
           · obtain ⟨hB1, hB2⟩ := hB
             go_simp
             try exact rfl
           go_simp
           refine hK _ _ ?_
           clear hK K)
        refine Grow.walk_step (fun K hK => ?_)
        refine Grow.step_rel (by rfl) (by rfl) (fun w' hB hF => ?_) (fun v hv => ?_)
        · obtain ⟨hB1, hB2⟩ := hB
          go_simp
          rw [run_string_of_bytes w' (hx9.ext hB1) 22 9 5 Try.underlying22 Try.underlying5 Try.underlying9]
          exact Grow.relUpon_value (ext_refl _) (rfl) trivial
        obtain rfl : v = _ := hv
        go_simp
        refine hK _ _ ?_
        clear hK K
        refine Grow.walk_step (fun K hK => ?_)
        refine Grow.step_rel (by rfl) (by rfl) (fun w' hB hF => ?_) (fun v hv => ?_)
        · obtain ⟨hB1, hB2⟩ := hB
          go_simp
          refine Grow.relUpon_enter ((count_any ⟨xs.toArray⟩ w' (by show xs.toArray.size ≤ _; simp; omega)).mono ?_)
          rintro e w'' ⟨rfl, hw''⟩
          exact ⟨_, rfl, hw'', (by simp [hnx]; rfl), trivial⟩
        obtain rfl : v = _ := hv
        go_simp
        refine hK _ _ ?_
        clear hK K
        iterate 1
          (refine Grow.walk_step (fun K hK => ?_)
           refine Grow.step_read (by rfl) (by rfl) ext_refl ?_
           apply Exists.intro
           refine ⟨fun w hB hF => ?_, ?_⟩
           · obtain ⟨hB1, hB2⟩ := hB
             go_simp
             try exact rfl
           go_simp
           refine hK _ _ ?_
           clear hK K)
        refine Grow.walk_step (fun K hK => ?_)
        refine Grow.step_rel (by rfl) (by rfl) (fun w' hB hF => ?_) (fun v hv => ?_)
        · obtain ⟨hB1, hB2⟩ := hB
          go_simp
          rw [run_string_of_bytes w' (hy9.ext hB1) 22 9 5 Try.underlying22 Try.underlying5 Try.underlying9]
          exact Grow.relUpon_value (ext_refl _) (rfl) trivial
        obtain rfl : v = _ := hv
        go_simp
        refine hK _ _ ?_
        clear hK K
        refine Grow.walk_step (fun K hK => ?_)
        refine Grow.step_rel (by rfl) (by rfl) (fun w' hB hF => ?_) (fun v hv => ?_)
        · obtain ⟨hB1, hB2⟩ := hB
          go_simp
          refine Grow.relUpon_enter ((count_any ⟨ys.toArray⟩ w' (by show ys.toArray.size ≤ _; simp; omega)).mono ?_)
          rintro e w'' ⟨rfl, hw''⟩
          exact ⟨_, rfl, hw'', (by simp [hny]; rfl), trivial⟩
        obtain rfl : v = _ := hv
        go_simp
        refine hK _ _ ?_
        clear hK K
        iterate 5
          (refine Grow.walk_step (fun K hK => ?_)
           refine Grow.step_read (by rfl) (by rfl) ext_refl ?_
           apply Exists.intro
           refine ⟨fun w hB hF => ?_, ?_⟩
           · obtain ⟨hB1, hB2⟩ := hB
             go_simp
             try exact rfl
           go_simp
           refine hK _ _ ?_
           clear hK K)
        refine Grow.walk_step (fun K hK => ?_)
        refine Grow.step_rel (by rfl) (by rfl) (fun w' hB hF => ?_) (fun v hv => ?_)
        · obtain ⟨hB1, hB2⟩ := hB
          go_simp
          refine Grow.relUpon_enter ((check_any _ _ w' (hba.ext hB1)).mono ?_)
          rintro e w'' ⟨rfl, hw''⟩
          exact ⟨_, rfl, hw'', (by rw [hbad]; rfl), trivial⟩
        obtain rfl : v = _ := hv
        go_simp
        refine hK _ _ ?_
        clear hK K
        iterate 5
          (refine Grow.walk_step (fun K hK => ?_)
           refine Grow.step_read (by rfl) (by rfl) ext_refl ?_
           apply Exists.intro
           refine ⟨fun w hB hF => ?_, ?_⟩
           · obtain ⟨hB1, hB2⟩ := hB
             go_simp
             try exact rfl
           go_simp
           refine hK _ _ ?_
           clear hK K)
        refine Grow.walk_nil ?_
        intro w10 hB hF
        clear hF
        have hB1 := hB.1
        clear hB
        go_wp2_with fail
        go_ret
        exact ⟨rfl, ext_trans hE9 hB1⟩
  · have hd : decide (1000 < (xs.length : Int) + ys.length) = true := by simp; omega
    go_wp2_with fail
    go_ret
    exact ⟨rfl, hw1⟩

set_option linter.unusedSimpArgs false
theorem own : ownKnob Try.prog.godebug = none := by kernel_rfl
theorem laid : laidOutB Try.prog = true := by kernel_rfl
theorem cells1 : Try.prog.cellsOf 5 = 1 := by kernel_rfl
theorem bytes1 : Try.prog.bytesOf 5 = 1 := by kernel_rfl
set_option maxHeartbeats 1600000 in
set_option maxRecDepth 100000 in
theorem lifted (os : Os) (started : os.Started) (H : Type) (enc : TypeId × Value → H) :
    ReturnsInHanded {} Try.checked os 4 .any (Rows.utfJoinsSpec.pre6 enc Try.prog Try.f4 Rows.utfJoinsRow.domain false) (Rows.utfJoinsSpec.post enc Try.prog Try.f4 false true false false) := by
  refine returnsInHanded_of_change_sized (C := Try.checked) own started (by kernel_rfl) Try.func4
    (ChangeSpec.witness6 (enc := enc) (C := Try.checked) false ⟨#[], #[.slice none 0 0, .slice none 0 0, .int .u8 0], []⟩ 8 (by kernel_rfl) (by kernel_rfl) (by kernel_rfl) (by kernel_rfl)) ?_
  intro W base args ds gs before hval0 hW _ hsz0 _
  have hsz : (DataW.weightsEach Try.prog (Try.f4.params.toList ++ Rows.utfJoinsSpec.plain.varTypes Try.prog) (ds ++ gs)).all (· ≤ reachBytes) = true := hsz0
  clear hsz0
  have hval : ∀ (j : Nat) t v, Try.f4.params[j]? = some t → args[j]? = some v → Value.okWide Try.prog W .any base t v := hval0
  have hW' := hW
  obtain ⟨p, q, hA0, hV, rfl, _, _⟩ := hW
  have hA : DataW.TrodAll enc Try.prog W 0 (fun _ => true) true Try.f4.params.toList args.toList ds p := hA0
  rw [Try.params4] at hA hval hsz
  obtain ⟨v0, vs0, d0, ds0, p0, q0, ha0, rfl, rfl, h0, r0⟩ := trodAll_cons hA
  obtain ⟨v1, vs1, d1, ds1, p1, q1, ha1, rfl, rfl, h1, r1⟩ := trodAll_cons r0
  obtain ⟨v2, vs2, d2, ds2, p2, q2, ha2, rfl, rfl, h2, r2⟩ := trodAll_cons r1
  obtain ⟨hb3, rfl, rfl⟩ := trodAll_nil r2
  subst hb3
  subst ha2
  subst ha1
  obtain rfl : args = #[v0, v1, v2] := by cases args; simpa using ha0
  obtain ⟨rfl, rfl⟩ := trodVars_none hV
  have hk0 := h0
  obtain ⟨a0, len0, cap0, rfl⟩ := okWide_slice Try.underlying22 (hval 0 22 v0 rfl rfl)
  obtain ⟨xs0, hx0⟩ := bytes_of_trod Try.underlying22 Try.underlying5 cells1 h0 (fun elems spare e => by subst e; have := sized_slice hsz (j := 0) rfl rfl Try.underlying22; rw [bytes1] at this; simp only [reachBytes] at this; omega)
  have hk1 := h1
  obtain ⟨a1, len1, cap1, rfl⟩ := okWide_slice Try.underlying22 (hval 1 22 v1 rfl rfl)
  obtain ⟨xs1, hx1⟩ := bytes_of_trod Try.underlying22 Try.underlying5 cells1 h1 (fun elems spare e => by subst e; have := sized_slice hsz (j := 1) rfl rfl Try.underlying22; rw [bytes1] at this; simp only [reachBytes] at this; omega)
  have hk2 := h2
  obtain ⟨a2, rfl, rfl, rfl, wf2⟩ := open_int Try.underlying5 (hval 2 5 v2 rfl rfl) h2
  have hr2 : 0 ≤ a2 ∧ a2 ≤ 255 := by simpa [Lit.wf, IntKind.min, IntKind.max, IntKind.signed, IntKind.bits] using wf2
  have hlt := fun x hx => hW'.lt x hx
  simp only [List.append_nil, List.nil_append] at hW' hlt
  refine (walk _ xs0 _ xs1 a2 hr2.1 hr2.2 W hx0 hx1).mono fun e W' ⟨he, hb⟩ => ?_
  subst he
  have hargs := (trodAll_cons_mk (Below.trod laid (by kernel_rfl) (of_decide_eq_true (by kernel_rfl)) hk0 hb (fun x hx => by first | exact hlt x hx | exact absurd hx (List.not_mem_nil) | exact hlt x (by simp [hx]))) (trodAll_cons_mk (Below.trod laid (by kernel_rfl) (of_decide_eq_true (by kernel_rfl)) hk1 hb (fun x hx => by first | exact hlt x hx | exact absurd hx (List.not_mem_nil) | exact hlt x (by simp [hx]))) (trodAll_cons_mk (Below.trod laid (by kernel_rfl) (of_decide_eq_true (by kernel_rfl)) hk2 hb (fun x hx => by first | exact hlt x hx | exact absurd hx (List.not_mem_nil) | exact hlt x (by simp [hx]))) trodAll_mk0)))
  exact ⟨_, rfl, _, _, _, [], _, [], hW', trodAll_cons_mk (shut_bool Try.underlying4 _) trodAll_mk0, hargs, rfl, hb.frame _, fun h => by cases h⟩

theorem proved : Rows.UtfJoinsSaid :=
  OpenClaim.holds_of_wide 4 Try.f4 rfl rfl rfl rfl rfl rfl rfl ⟨rfl, rfl, rfl, rfl, rfl⟩ rfl rfl rfl rfl rfl (by kernel_rfl) Try.func4 (by kernel_rfl)
    (of_decide_eq_true (by kernel_rfl)) (by unfold Func.isWrapper; first | (rw [if_pos (by decide +kernel)]; kernel_rfl) | (rw [if_neg (by decide +kernel)]; exact ⟨rfl, rfl⟩))
    (fun os started H enc _ => lifted os started H enc)
end Go.Proofs.Ytikhdnpokhldeaa.utfJoins
