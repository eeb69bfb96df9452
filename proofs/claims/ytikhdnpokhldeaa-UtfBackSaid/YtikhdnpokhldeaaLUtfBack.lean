/- UtfBack: there and back: whatever the input, the law returns true and the input reads as it did. No condition. -/
import Derived.Test.YtikhdnpokhldeaaRows
import Derived.Test.YtikhdnpokhldeaaApp
import Derived.Test.YtikhdnpokhldeaaWUtfC
import Derived.Test.YtikhdnpokhldeaaFrame
import Derived.SizedLaws
import Derived.OpenShut
set_option linter.unusedVariables false
namespace Go.Proofs.Ytikhdnpokhldeaa.utfBack
open Go.ChangeShapes Go.WideShapes Go.ChangeAt Go.RowKit Go.Mem Orange

theorem next_part {r : Int} (hr : sound r = true) : next ((enc r).take ((enc r).length - 1)) = (0, 0) := by
  have hp := enc_pos r
  have h1 := next_enc hr []
  rw [List.append_nil] at h1
  rcases next_spec ((enc r).take ((enc r).length - 1)) with h | ⟨hs, hn, t, ht⟩
  · exact h
  · exfalso
    have h2 : enc r = enc (next ((enc r).take ((enc r).length - 1))).1 ++ (t ++ (enc r).drop ((enc r).length - 1)) := by
      rw [← List.append_assoc, ← ht, List.take_append_drop]
    have h3 := next_enc hs (t ++ (enc r).drop ((enc r).length - 1))
    rw [← h2, h1] at h3
    have h4 := congrArg Prod.snd h3
    have h5 := congrArg List.length ht
    simp only [List.length_take, List.length_append] at h4 h5
    omega
def want (r : Int) : Int := if sound r then r else 65533
theorem want_spec (r : Int) : ∃ r1, sound r1 = true ∧ encP r = enc r1 ∧ want r = r1 := by
  by_cases h : sound r = true
  · exact ⟨r, h, by rw [encP, if_pos h], by rw [want, if_pos h]⟩
  · exact ⟨65533, by decide, by rw [encP, if_neg h], by rw [want, if_neg h]⟩
theorem check_enc {r : Int} (hr : sound r = true) : check (enc r) = -1 := by
  have h1 := next_enc hr []
  have hp := enc_pos r
  rw [List.append_nil] at h1
  show checkL (enc r) 0 = -1
  obtain ⟨x, t, hxt⟩ : ∃ x t, enc r = x :: t := by
    cases h : enc r with
    | nil => rw [h] at hp; simp at hp
    | cons x t => exact ⟨x, t, rfl⟩
  rw [hxt, checkL_cons, ← hxt, h1, if_neg (by simp only; omega), List.drop_length, checkL_nil]

set_option maxHeartbeats 3200000 in
theorem walk (r : Int) (hr0 : -2147483648 ≤ r) (hr1 : r ≤ 2147483647) (v : Value) (xs : List UInt8) (w : World) (hx : Bytes w v xs) :
    Calls Try.prog 3 #[.int .i32 r, v] w fun e w' => e = .returned (.bool true) ∧ Ext w w' := by
  have hx0 := hx
  obtain ⟨a, cap, rfl, h1, h2, h3, hat⟩ := hx0
  go_enter Try.func3, Try.ntmps3
  go_wp2_with fail
  refine (awake_any _).mono ?_
  rintro e w1 ⟨rfl, hw1⟩
  by_cases hlen : xs.length ≤ 300
  · have hd : decide (300 < (xs.length : Int)) = false := by simp; omega
    go_wp2_with fail
    obtain ⟨r1, hs1, he1, hwn⟩ := want_spec r
    refine (put_any _ [] r _ (Bytes.nil _ _ _ (by omega)) (by simp)).mono ?_
    rintro e w2 ⟨v2, rfl, hown2, hw2⟩
    simp only [List.nil_append, he1] at hown2
    obtain ⟨hn1, hn4⟩ := enc_pos r1
    have hb2 := hown2.bytes (by omega)
    obtain ⟨a2, c2, rfl, hc2, hc2', _, hat2⟩ := hb2
    have hb2 := hown2.bytes (by omega)
    have hne := next_enc hs1 xs
    have hnp := next_part hs1
    have hck := check_enc hs1
    have hnt : ((enc r1).take ((enc r1).length - 1)).length = (enc r1).length - 1 := by simp
    obtain ⟨l, hl⟩ : ∃ l, enc r1 = l := ⟨_, rfl⟩
    rw [hl] at hown2 hat2 hb2 hne hnp hck hnt hn1 hn4 hc2
    try rw [hl]
    have hB0 := ownB_new w2 #[] 5 [] rfl 0 rfl (by omega)
    have hb2' := hb2.ext ((ext_refl w2).alloc (Nat.le_refl _) (.cells #[] 5))
    have hxA := hx.ext hw1 |>.ext hw2
    go_wp2_with (first
      | (at_builtin; refine wpList_append_bytes rfl _ _ rfl w2.heap.size _ [] rfl hB0 _ l rfl hb2' (by simp only [List.length_nil]; omega) (by simp) ?_; intro a5 c5 w5 hown5 hw5; rw [List.nil_append, List.length_nil, Nat.zero_add] at hown5; have hs5 : w2.heap.size ≤ w5.heap.size := (by have := hw5.size; simp at this; omega); have hl5 : l.length + xs.length ≤ 140737488355328 := (by omega); have hxB := hxA.ext (((Below.refl w2.heap.size w2).alloc (Nat.le_refl _) _).trans hw5))
      | (at_builtin; refine wpList_append_bytes rfl _ _ rfl w2.heap.size _ l rfl hown5 _ xs rfl hxB hl5 hs5 ?_; intro a6 c6 w6 hown6 hw6))
    have hn6 : (l ++ xs).length = l.length + xs.length := List.length_append
    have hb6 := hown6.bytes (by rw [hn6]; exact hl5)
    refine (next_any _ (l ++ xs) _ hb6).mono ?_
    rintro e w7 ⟨rfl, hw7⟩
    rw [hne]
    have hE2 : Ext w2 w7 := (((Below.refl w2.heap.size w2).alloc (Nat.le_refl _) _).trans (hw5.trans hw6)).trans (hw7.mono (by have := hw6.size; omega))
    have hb7 := hb2.ext hE2
    have hmax : max (0 : Int) ((l.length : Int) - 1) = ((l.length - 1 : Nat) : Int) := by omega
    have hbt : Bytes w7 (.slice a2 (l.length - 1) c2) (l.take (l.length - 1)) := by
      obtain ⟨a', c', e', g1, g2, g3, g4⟩ := hb7
      simp only [Value.slice.injEq, true_and] at e'
      obtain ⟨rfl, rfl⟩ := e'
      exact ⟨_, _, by rw [hnt], by rw [hnt]; omega, g2, by rw [hnt]; omega, g4.take _⟩
    clear hown6 hown5 hb6 hxB hB0 hb2' hw5 hw6 hxA hx hat
    go_wp2_with fail
    refine (next_any _ _ _ hbt).mono ?_
    rintro e w8 ⟨rfl, hw8⟩
    rw [hnp]
    have hb8 := hb7.ext hw8
    have hE3 : Ext w w8 := (hw1.trans (hw2.mono hw1.size)).trans ((hE2.mono (by have := hw1.size; have := hw2.size; omega)).trans (hw8.mono (by have := hw1.size; have := hw2.size; have := hE2.size; omega)))
    have hrr : (sound r = true ∧ r1 = r) ∨ (sound r = false ∧ r1 = 65533) := by
      unfold want at hwn
      by_cases h : sound r = true
      · rw [if_pos h] at hwn; exact .inl ⟨h, hwn.symm⟩
      · rw [if_neg h] at hwn; exact .inr ⟨by simpa using h, hwn.symm⟩
    have hrs : (((0 ≤ r ∧ r < 55296) ∨ (57343 < r ∧ r ≤ 1114111)) ∧ r1 = r) ∨ (¬ ((0 ≤ r ∧ r < 55296) ∨ (57343 < r ∧ r ≤ 1114111)) ∧ r1 = 65533) := by
      rcases hrr with ⟨h, h'⟩ | ⟨h, h'⟩
      · exact .inl ⟨(sound_iff r).1 h, h'⟩
      · exact .inr ⟨fun h2 => absurd ((sound_iff r).2 h2) (by simp [h]), h'⟩
    clear hrr hwn he1 hnp hne hbt hb7 hb2 hE2 hw7 hw8 hw1 hw2
    go_wp2_with (go_at_call 14; refine (check_any _ l _ hb8).mono ?_; rintro e w9 ⟨rfl, hw9⟩; rw [hck])
    all_goals
      go_ret
      exact ⟨rfl, hE3.trans (hw9.mono hE3.size)⟩
  · have hd : decide (300 < (xs.length : Int)) = true := by simp; omega
    go_wp2_with fail
    go_ret
    exact ⟨rfl, hw1⟩

theorem own : ownKnob Try.prog.godebug = none := by kernel_rfl
theorem laid : laidOutB Try.prog = true := by kernel_rfl
theorem cells1 : Try.prog.cellsOf 5 = 1 := by kernel_rfl
theorem bytes1 : Try.prog.bytesOf 5 = 1 := by kernel_rfl
set_option maxHeartbeats 1600000 in
set_option maxRecDepth 100000 in
theorem lifted (os : Os) (started : os.Started) (H : Type) (enc : TypeId × Value → H) :
    ReturnsInHanded {} Try.checked os 3 .any (Rows.utfBackSpec.pre6 enc Try.prog Try.f3 Rows.utfBackRow.domain false) (Rows.utfBackSpec.post enc Try.prog Try.f3 false true false false) := by
  refine returnsInHanded_of_change_sized (C := Try.checked) own started (by kernel_rfl) Try.func3
    (ChangeSpec.witness6 (enc := enc) (C := Try.checked) false ⟨#[], #[.int .i32 0, .slice none 0 0], []⟩ 8 (by kernel_rfl) (by kernel_rfl) (by kernel_rfl) (by kernel_rfl)) ?_
  intro W base args ds gs before hval0 hW _ hsz0 _
  have hsz : (DataW.weightsEach Try.prog (Try.f3.params.toList ++ Rows.utfBackSpec.plain.varTypes Try.prog) (ds ++ gs)).all (· ≤ reachBytes) = true := hsz0
  clear hsz0
  have hval : ∀ (j : Nat) t v, Try.f3.params[j]? = some t → args[j]? = some v → Value.okWide Try.prog W .any base t v := hval0
  have hW' := hW
  obtain ⟨p, q, hA0, hV, rfl, _, _⟩ := hW
  have hA : DataW.TrodAll enc Try.prog W 0 (fun _ => true) true Try.f3.params.toList args.toList ds p := hA0
  rw [Try.params3] at hA hval hsz
  obtain ⟨v0, vs0, d0, ds0, p0, q0, ha0, rfl, rfl, h0, r0⟩ := trodAll_cons hA
  obtain ⟨v1, vs1, d1, ds1, p1, q1, ha1, rfl, rfl, h1, r1⟩ := trodAll_cons r0
  obtain ⟨hb2, rfl, rfl⟩ := trodAll_nil r1
  subst hb2
  subst ha1
  obtain rfl : args = #[v0, v1] := by cases args; simpa using ha0
  obtain ⟨rfl, rfl⟩ := trodVars_none hV
  have hk0 := h0
  obtain ⟨a0, rfl, rfl, rfl, wf0⟩ := open_int Try.underlying21 (hval 0 21 v0 rfl rfl) h0
  have hr0 : -2147483648 ≤ a0 ∧ a0 ≤ 2147483647 := by simpa [Lit.wf, IntKind.min, IntKind.max, IntKind.signed, IntKind.bits] using wf0
  have hk1 := h1
  obtain ⟨a1, len1, cap1, rfl⟩ := okWide_slice Try.underlying22 (hval 1 22 v1 rfl rfl)
  obtain ⟨xs1, hx1⟩ := bytes_of_trod Try.underlying22 Try.underlying5 cells1 h1 (fun elems spare e => by subst e; have := sized_slice hsz (j := 1) rfl rfl Try.underlying22; rw [bytes1] at this; simp only [reachBytes] at this; omega)
  have hlt := fun x hx => hW'.lt x hx
  simp only [List.append_nil, List.nil_append] at hW' hlt
  refine (walk a0 hr0.1 hr0.2 _ xs1 W hx1).mono fun e W' ⟨he, hb⟩ => ?_
  subst he
  have hargs := (trodAll_cons_mk (Below.trod laid (by kernel_rfl) (of_decide_eq_true (by kernel_rfl)) hk0 hb (fun x hx => by first | exact hlt x hx | exact absurd hx (List.not_mem_nil) | exact hlt x (by simp [hx]))) (trodAll_cons_mk (Below.trod laid (by kernel_rfl) (of_decide_eq_true (by kernel_rfl)) hk1 hb (fun x hx => by first | exact hlt x hx | exact absurd hx (List.not_mem_nil) | exact hlt x (by simp [hx]))) trodAll_mk0))
  exact ⟨_, rfl, _, _, _, [], _, [], hW', trodAll_cons_mk (shut_bool Try.underlying4 _) trodAll_mk0, hargs, rfl, hb.frame _, fun h => by cases h⟩

theorem proved : Rows.UtfBackSaid :=
  OpenClaim.holds_of_wide 3 Try.f3 rfl rfl rfl rfl rfl rfl rfl ⟨rfl, rfl, rfl, rfl, rfl⟩ rfl rfl rfl rfl rfl (by kernel_rfl) Try.func3 (by kernel_rfl)
    (of_decide_eq_true (by kernel_rfl)) (by unfold Func.isWrapper; first | (rw [if_pos (by decide +kernel)]; kernel_rfl) | (rw [if_neg (by decide +kernel)]; exact ⟨rfl, rfl⟩))
    (fun os started H enc _ => lifted os started H enc)
end Go.Proofs.Ytikhdnpokhldeaa.utfBack
