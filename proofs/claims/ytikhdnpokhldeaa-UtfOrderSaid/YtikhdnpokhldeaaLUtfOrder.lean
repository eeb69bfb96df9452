/- UtfOrder: to be ahead is one way: whatever the input, the law returns true and the input reads as it did. No condition. -/
import Derived.Test.YtikhdnpokhldeaaRows
import Derived.Test.YtikhdnpokhldeaaApp
import Derived.Test.YtikhdnpokhldeaaWUtfG
import Derived.Test.YtikhdnpokhldeaaUtfO
import Derived.Test.YtikhdnpokhldeaaFrame
import Derived.SizedLaws
import Derived.OpenShut
import Derived.ChangeMaps5
set_option linter.unusedVariables false
namespace Go.Proofs.Ytikhdnpokhldeaa.utfOrder
open Go.ChangeShapes Go.WideShapes Go.ChangeAt Go.RowKit Go.Mem Orange

theorem bytes_conv {w : World} {b cap : Nat} {s : ByteArray} (hat : BytesAt w (some ⟨b, 0, none⟩) s.data.toList) (h1 : s.size ≤ cap) (h2 : cap ≤ 9223372036854775807) (h3 : s.size ≤ 140737488355328) : Bytes w (.slice (some ⟨b, 0, none⟩) s.size cap) s.data.toList :=
  Bytes.mk hat (by rw [Array.length_toList]; rfl) h1 h2 h3
theorem check_or (b : List UInt8) : 0 ≤ check b ∨ check b = -1 := by
  by_cases h : 0 ≤ check b
  · exact .inl h
  · obtain ⟨l, h1, h2⟩ := good_encs _ b 0 (Nat.le_refl _) (by omega) (by unfold check at h; omega)
    refine .inr ?_
    have := checkL_encs l h1 [] 0
    rw [List.append_nil, ← h2, checkL_nil] at this
    exact this
theorem bytesLess_eq : ∀ l m : List UInt8, Op.bytesLess l m = lexB l m
  | [], [] => rfl
  | _ :: _, [] => rfl
  | [], _ :: _ => rfl
  | a :: l, b :: m => by
    rw [Op.bytesLess, lexB, bytesLess_eq l m]
    by_cases e : a = b
    · subst e; simp
    · have e2 : a.toNat ≠ b.toNat := fun h => e (UInt8.toNat.inj h)
      rw [if_neg e2]; simp [e, UInt8.lt_iff_toNat_lt]

set_option maxHeartbeats 3200000 in
theorem walk (a : ByteArray) (hsa : a.size ≤ 140737488351232) (b : ByteArray) (hsb : b.size ≤ 140737488351232) (c : ByteArray) (hsc : c.size ≤ 140737488351232) (w : World) :
    Calls Try.prog 5 #[.string a, .string b, .string c] w fun e w' => e = .returned (.bool true) ∧ Ext w w' := by
  go_enter Try.func5, Try.ntmps5
  go_wp2_with fail
  refine (awake_any _).mono ?_
  rintro e w1 ⟨rfl, hw1⟩
  by_cases hlen : a.size + b.size + c.size ≤ 1000
  · have hd : decide (1000 < (a.size : Int) + b.size + c.size) = false := by simp; omega
    have hle : ∀ {x y : ByteArray}, x.data.toList = y.data.toList → x = y := fun {x y} h => by
      cases x; cases y; simp only [ByteArray.mk.injEq]; exact Array.toList_inj.1 h
    have hbl : ∀ x y : ByteArray, (x.toList == y.toList) = decide (x.data.toList = y.data.toList) := fun x y => by
      rw [ByteArray.toList_eq, ByteArray.toList_eq]; by_cases h : x.data.toList = y.data.toList
      · rw [h]; simp
      · rw [decide_eq_false h]; exact beq_eq_false_iff_ne.2 h
    have hab := hbl a b
    have haa : lessL (marks a.data.toList) (marks a.data.toList) = false := lessL_irrefl _
    have hcase : (lessL (marks a.data.toList) (marks b.data.toList) = true ∧ lessL (marks b.data.toList) (marks a.data.toList) = false ∧ (a.toList == b.toList) = false) ∨
        (lessL (marks a.data.toList) (marks b.data.toList) = false ∧ lessL (marks b.data.toList) (marks a.data.toList) = true ∧ (a.toList == b.toList) = false) ∨
        (lessL (marks a.data.toList) (marks b.data.toList) = false ∧ lessL (marks b.data.toList) (marks a.data.toList) = false ∧ (a.toList == b.toList) = true) := by
      cases hx : lessL (marks a.data.toList) (marks b.data.toList) with
      | true =>
        refine .inl ⟨rfl, lessL_asymm _ _ hx, ?_⟩
        rw [hab]; simp only [decide_eq_false_iff_not]
        intro e; rw [← e, lessL_irrefl] at hx; cases hx
      | false =>
        cases hy : lessL (marks b.data.toList) (marks a.data.toList) with
        | true =>
          refine .inr (.inl ⟨rfl, rfl, ?_⟩)
          rw [hab]; simp only [decide_eq_false_iff_not]
          intro e; rw [← e, lessL_irrefl] at hy; cases hy
        | false =>
          refine .inr (.inr ⟨rfl, rfl, ?_⟩)
          rw [hab]; simp only [decide_eq_true_eq]
          exact marks_inj (lessL_tri _ _ hx hy)
    have htr : lessL (marks a.data.toList) (marks b.data.toList) = true → lessL (marks b.data.toList) (marks c.data.toList) = true → lessL (marks a.data.toList) (marks c.data.toList) = true := lessL_trans _ _ _
    have HTR := Lib.hid htr
    have HAA := Lib.hid haa
    have hgood : check a.data.toList < 0 → check b.data.toList < 0 → lessL (marks a.data.toList) (marks b.data.toList) = lexB a.data.toList b.data.toList := fun h k => by
      obtain ⟨l, h1, h2⟩ := good_encs _ _ 0 (Nat.le_refl _) (by omega) h
      obtain ⟨m, k1, k2⟩ := good_encs _ _ 0 (Nat.le_refl _) (by omega) k
      have e1 : marks a.data.toList = l := by have := marks_encs l h1 []; rw [List.append_nil, ← h2, marks_nil, List.append_nil] at this; exact this
      have e2 : marks b.data.toList = m := by have := marks_encs m k1 []; rw [List.append_nil, ← k2, marks_nil, List.append_nil] at this; exact this
      rw [e1, e2, h2, k2, lexB_encs l m h1 k1]
    have HG := Lib.hid hgood
    clear htr haa hgood hab hbl hle
    rcases hcase with ⟨hx, hy, hab⟩ | ⟨hx, hy, hab⟩ | ⟨hx, hy, hab⟩
    all_goals
      have HX := Lib.hid hx
      have HY := Lib.hid hy
      clear hx hy
      go_wp2_with fail
      refine (less_any a b _ (by omega) (by omega)).mono ?_
      rintro e w2 ⟨rfl, hw2⟩
      rw [HX.out]
      go_wp2_with fail
      refine (less_any b a _ (by omega) (by omega)).mono ?_
      rintro e w3 ⟨rfl, hw3⟩
      rw [HY.out]
      have hE3 : Ext w w3 := ext_trans (ext_trans hw1 hw2) hw3
      clear hw1 hw2 hw3
      go_wp2_with fail
    · refine (less_any b c _ (by omega) (by omega)).mono ?_
      rintro e w4 ⟨rfl, hw4⟩
      have hE4 : Ext w w4 := ext_trans hE3 hw4
      clear hE3 hw4
      cases hz : lessL (marks b.data.toList) (marks c.data.toList)
      · go_wp2_with fail
        refine (less_any a a _ (by omega) (by omega)).mono ?_
        rintro e w5 ⟨rfl, hw5⟩
        rw [HAA.out]
        have hE5 : Ext w w5 := ext_trans hE4 hw5
        clear hE4 hw5
        go_wp2_with (refine wpList_bytes_of_string w5 rfl 9 22 5 _ rfl a rfl Try.underlying9 Try.underlying22 Try.underlying5 (by omega) ?_; intro cap6 w6 hw6 hcap6 hcm6 hsz6 hat6)
        refine (check_any _ _ _ (bytes_conv hat6 hcap6 hcm6 (by omega))).mono ?_
        rintro e w7 ⟨rfl, hw7⟩
        have hE7 : Ext w w7 := ext_trans (ext_trans hE5 hw6) hw7
        clear hE5 hw6 hw7 hat6 hcap6 hcm6 hsz6
        rcases check_or a.data.toList with hca | hca
        · have hd1 : decide (0 ≤ check a.data.toList) = true := by simpa using hca
          go_wp2_with fail
          go_ret
          exact ⟨rfl, hE7⟩
        · rw [hca]
          go_wp2_with (refine wpList_bytes_of_string w7 rfl 9 22 5 _ rfl b rfl Try.underlying9 Try.underlying22 Try.underlying5 (by omega) ?_; intro cap8 w8 hw8 hcap8 hcm8 hsz8 hat8)
          refine (check_any _ _ _ (bytes_conv hat8 hcap8 hcm8 (by omega))).mono ?_
          rintro e w9 ⟨rfl, hw9⟩
          have hE9 : Ext w w9 := ext_trans (ext_trans hE7 hw8) hw9
          clear hE7 hw8 hw9 hat8 hcap8 hcm8 hsz8
          rcases check_or b.data.toList with hcb | hcb
          · have hd1 : decide (0 ≤ check b.data.toList) = true := by simpa using hcb
            go_wp2_with fail
            go_ret
            exact ⟨rfl, hE9⟩
          · have hg0 := HG.out (by omega) (by omega)
            rw [HX.out, ← bytesLess_eq, ← ByteArray.toList_eq, ← ByteArray.toList_eq] at hg0
            have hg := hg0.symm
            clear hg0
            rw [hcb]
            go_wp2_with fail
            go_ret
            exact ⟨ret_bool (by first | rfl | simp [hg]), hE9⟩
      · have hac := HTR.out HX.out hz
        go_wp2_with fail
        refine (less_any a c _ (by omega) (by omega)).mono ?_
        rintro e w4' ⟨rfl, hw4'⟩
        rw [hac]
        go_wp2_with fail
        refine (less_any a a _ (by omega) (by omega)).mono ?_
        rintro e w5 ⟨rfl, hw5⟩
        rw [HAA.out]
        have hE5 : Ext w w5 := ext_trans (ext_trans hE4 hw4') hw5
        clear hE4 hw5 hw4'
        go_wp2_with (refine wpList_bytes_of_string w5 rfl 9 22 5 _ rfl a rfl Try.underlying9 Try.underlying22 Try.underlying5 (by omega) ?_; intro cap6 w6 hw6 hcap6 hcm6 hsz6 hat6)
        refine (check_any _ _ _ (bytes_conv hat6 hcap6 hcm6 (by omega))).mono ?_
        rintro e w7 ⟨rfl, hw7⟩
        have hE7 : Ext w w7 := ext_trans (ext_trans hE5 hw6) hw7
        clear hE5 hw6 hw7 hat6 hcap6 hcm6 hsz6
        rcases check_or a.data.toList with hca | hca
        · have hd1 : decide (0 ≤ check a.data.toList) = true := by simpa using hca
          go_wp2_with fail
          go_ret
          exact ⟨rfl, hE7⟩
        · rw [hca]
          go_wp2_with (refine wpList_bytes_of_string w7 rfl 9 22 5 _ rfl b rfl Try.underlying9 Try.underlying22 Try.underlying5 (by omega) ?_; intro cap8 w8 hw8 hcap8 hcm8 hsz8 hat8)
          refine (check_any _ _ _ (bytes_conv hat8 hcap8 hcm8 (by omega))).mono ?_
          rintro e w9 ⟨rfl, hw9⟩
          have hE9 : Ext w w9 := ext_trans (ext_trans hE7 hw8) hw9
          clear hE7 hw8 hw9 hat8 hcap8 hcm8 hsz8
          rcases check_or b.data.toList with hcb | hcb
          · have hd1 : decide (0 ≤ check b.data.toList) = true := by simpa using hcb
            go_wp2_with fail
            go_ret
            exact ⟨rfl, hE9⟩
          · have hg0 := HG.out (by omega) (by omega)
            rw [HX.out, ← bytesLess_eq, ← ByteArray.toList_eq, ← ByteArray.toList_eq] at hg0
            have hg := hg0.symm
            clear hg0
            rw [hcb]
            go_wp2_with fail
            go_ret
            exact ⟨ret_bool (by first | rfl | simp [hg]), hE9⟩
    all_goals
      refine (less_any a a _ (by omega) (by omega)).mono ?_
      rintro e w5 ⟨rfl, hw5⟩
      rw [HAA.out]
      have hE5 : Ext w w5 := ext_trans hE3 hw5
      clear hE3 hw5
      go_wp2_with (refine wpList_bytes_of_string w5 rfl 9 22 5 _ rfl a rfl Try.underlying9 Try.underlying22 Try.underlying5 (by omega) ?_; intro cap6 w6 hw6 hcap6 hcm6 hsz6 hat6)
      refine (check_any _ _ _ (bytes_conv hat6 hcap6 hcm6 (by omega))).mono ?_
      rintro e w7 ⟨rfl, hw7⟩
      have hE7 : Ext w w7 := ext_trans (ext_trans hE5 hw6) hw7
      clear hE5 hw6 hw7 hat6 hcap6 hcm6 hsz6
      rcases check_or a.data.toList with hca | hca
      · have hd1 : decide (0 ≤ check a.data.toList) = true := by simpa using hca
        go_wp2_with fail
        go_ret
        exact ⟨rfl, hE7⟩
      · rw [hca]
        go_wp2_with (refine wpList_bytes_of_string w7 rfl 9 22 5 _ rfl b rfl Try.underlying9 Try.underlying22 Try.underlying5 (by omega) ?_; intro cap8 w8 hw8 hcap8 hcm8 hsz8 hat8)
        refine (check_any _ _ _ (bytes_conv hat8 hcap8 hcm8 (by omega))).mono ?_
        rintro e w9 ⟨rfl, hw9⟩
        have hE9 : Ext w w9 := ext_trans (ext_trans hE7 hw8) hw9
        clear hE7 hw8 hw9 hat8 hcap8 hcm8 hsz8
        rcases check_or b.data.toList with hcb | hcb
        · have hd1 : decide (0 ≤ check b.data.toList) = true := by simpa using hcb
          go_wp2_with fail
          go_ret
          exact ⟨rfl, hE9⟩
        · have hg0 := HG.out (by omega) (by omega)
          rw [HX.out, ← bytesLess_eq, ← ByteArray.toList_eq, ← ByteArray.toList_eq] at hg0
          have hg := hg0.symm
          clear hg0
          rw [hcb]
          go_wp2_with fail
          go_ret
          exact ⟨ret_bool (by first | rfl | simp [hg]), hE9⟩
  · have hd : decide (1000 < (a.size : Int) + b.size + c.size) = true := by simp; omega
    go_wp2_with fail
    go_ret
    exact ⟨rfl, hw1⟩

theorem own : ownKnob Try.prog.godebug = none := by kernel_rfl
theorem laid : laidOutB Try.prog = true := by kernel_rfl
set_option maxHeartbeats 1600000 in
set_option maxRecDepth 100000 in
theorem lifted (os : Os) (started : os.Started) (H : Type) (enc : TypeId × Value → H) :
    ReturnsInHanded {} Try.checked os 5 .any (Rows.utfOrderSpec.pre6 enc Try.prog Try.f5 Rows.utfOrderRow.domain false) (Rows.utfOrderSpec.post enc Try.prog Try.f5 false true false false) := by
  refine returnsInHanded_of_change_sized (C := Try.checked) own started (by kernel_rfl) Try.func5
    (ChangeSpec.witness6 (enc := enc) (C := Try.checked) false ⟨#[], #[.string ⟨#[]⟩, .string ⟨#[]⟩, .string ⟨#[]⟩], []⟩ 8 (by kernel_rfl) (by kernel_rfl) (by kernel_rfl) (by kernel_rfl)) ?_
  intro W base args ds gs before hval0 hW _ hsz0 _
  have hsz : (DataW.weightsEach Try.prog (Try.f5.params.toList ++ Rows.utfOrderSpec.plain.varTypes Try.prog) (ds ++ gs)).all (· ≤ reachBytes) = true := hsz0
  clear hsz0
  have hval : ∀ (j : Nat) t v, Try.f5.params[j]? = some t → args[j]? = some v → Value.okWide Try.prog W .any base t v := hval0
  have hW' := hW
  obtain ⟨p, q, hA0, hV, rfl, _, _⟩ := hW
  have hA : DataW.TrodAll enc Try.prog W 0 (fun _ => true) true Try.f5.params.toList args.toList ds p := hA0
  rw [Try.params5] at hA hval hsz
  obtain ⟨v0, vs0, d0, ds0, p0, q0, ha0, rfl, rfl, h0, r0⟩ := trodAll_cons hA
  obtain ⟨v1, vs1, d1, ds1, p1, q1, ha1, rfl, rfl, h1, r1⟩ := trodAll_cons r0
  obtain ⟨v2, vs2, d2, ds2, p2, q2, ha2, rfl, rfl, h2, r2⟩ := trodAll_cons r1
  obtain ⟨hb3, rfl, rfl⟩ := trodAll_nil r2
  subst hb3
  subst ha2
  subst ha1
  obtain rfl : args = #[v0, v1, v2] := by cases args; simpa using ha0
  obtain ⟨rfl, rfl⟩ := trodVars_none hV
  have hk0 := h0
  obtain ⟨a0, rfl, rfl, rfl, _⟩ := Go.ChangeMaps.open_string Try.underlying9 (hval 0 9 v0 rfl rfl) h0
  have hs0 : a0.size ≤ 140737488351232 := by have := sized_string hsz (j := 0) rfl rfl; simpa [reachBytes] using this
  have hk1 := h1
  obtain ⟨a1, rfl, rfl, rfl, _⟩ := Go.ChangeMaps.open_string Try.underlying9 (hval 1 9 v1 rfl rfl) h1
  have hs1 : a1.size ≤ 140737488351232 := by have := sized_string hsz (j := 1) rfl rfl; simpa [reachBytes] using this
  have hk2 := h2
  obtain ⟨a2, rfl, rfl, rfl, _⟩ := Go.ChangeMaps.open_string Try.underlying9 (hval 2 9 v2 rfl rfl) h2
  have hs2 : a2.size ≤ 140737488351232 := by have := sized_string hsz (j := 2) rfl rfl; simpa [reachBytes] using this
  have hlt := fun x hx => hW'.lt x hx
  simp only [List.append_nil, List.nil_append] at hW' hlt
  refine (walk a0 hs0 a1 hs1 a2 hs2 W ).mono fun e W' ⟨he, hb⟩ => ?_
  subst he
  have hargs := (trodAll_cons_mk (Below.trod laid (by kernel_rfl) (of_decide_eq_true (by kernel_rfl)) hk0 hb (fun x hx => by first | exact hlt x hx | exact absurd hx (List.not_mem_nil) | exact hlt x (by simp [hx]))) (trodAll_cons_mk (Below.trod laid (by kernel_rfl) (of_decide_eq_true (by kernel_rfl)) hk1 hb (fun x hx => by first | exact hlt x hx | exact absurd hx (List.not_mem_nil) | exact hlt x (by simp [hx]))) (trodAll_cons_mk (Below.trod laid (by kernel_rfl) (of_decide_eq_true (by kernel_rfl)) hk2 hb (fun x hx => by first | exact hlt x hx | exact absurd hx (List.not_mem_nil) | exact hlt x (by simp [hx]))) trodAll_mk0)))
  exact ⟨_, rfl, _, _, _, [], _, [], hW', trodAll_cons_mk (shut_bool Try.underlying4 _) trodAll_mk0, hargs, rfl, hb.frame _, fun h => by cases h⟩

theorem proved : Rows.UtfOrderSaid :=
  OpenClaim.holds_of_wide 5 Try.f5 rfl rfl rfl rfl rfl rfl rfl ⟨rfl, rfl, rfl, rfl, rfl⟩ rfl rfl rfl rfl rfl (by kernel_rfl) Try.func5 (by kernel_rfl)
    (of_decide_eq_true (by kernel_rfl)) (by unfold Func.isWrapper; first | (rw [if_pos (by decide +kernel)]; kernel_rfl) | (rw [if_neg (by decide +kernel)]; exact ⟨rfl, rfl⟩))
    (fun os started H enc _ => lifted os started H enc)
end Go.Proofs.Ytikhdnpokhldeaa.utfOrder
