/- orangerylaw02: what digits does. -/
import Derived.Test.YtpheohgceepboaaDoorDecW
import Derived.Test.YtpheohgceepboaaDoorDecK
import Derived.Test.YtpheohgceepboaaDoorDecL2
set_option linter.unusedVariables false
set_option linter.unusedSimpArgs false
set_option maxRecDepth 100000
namespace Go.Proofs.YtpheohgceepboaaDoor
open Go.RowKit Go.Mem Orange

theorem fig_at (n : Nat) (h : n < 10) : ByteArray.extract ⟨#[48, 49, 50, 51, 52, 53, 54, 55, 56, 57]⟩ n (n + 1) = ⟨#[dgt n]⟩ := by
  have : n = 0 ∨ n = 1 ∨ n = 2 ∨ n = 3 ∨ n = 4 ∨ n = 5 ∨ n = 6 ∨ n = 7 ∨ n = 8 ∨ n = 9 := by omega
  rcases this with rfl | rfl | rfl | rfl | rfl | rfl | rfl | rfl | rfl | rfl <;> decide +kernel
set_option maxHeartbeats 1600000 in
theorem digits_any : ∀ (n : Nat) (w : World), n ≤ 1000000000 → Calls Tryd.prog 11 #[.int .i64 (n : Nat)] w fun e w' => e = .returned (.string ⟨(decD n).toArray⟩) ∧ Ext w w' := by
  intro n
  induction n using Nat.strongRecOn with
  | _ n ih =>
    intro w hn
    by_cases h : n < 10
    · have HD := Lib.hid (decD_one h)
      have hf := fig_at n h
      have e1 : IntKind.i64.wrap ((n : Int) + 1) = (n : Int) + 1 := IntWalk.i64_in _ (by omega)
      have e2 : ((n : Int) + 1).toNat = n + 1 := by omega
      go_enter Tryd.func11, Tryd.ntmps11
      go_wp2_with fail
      go_ret
      exact ⟨by rw [HD.out]; rfl, ext_refl w⟩
    · have HD := Lib.hid (decD_step (Nat.le_of_not_lt h))
      have hf := fig_at (n % 10) (Nat.mod_lt _ (by omega))
      have HIH : Hid (∀ w : World, Calls Tryd.prog 11 #[.int .i64 ((n / 10 : Nat) : Int)] w fun e w' => e = .returned (.string ⟨(decD (n / 10)).toArray⟩) ∧ Ext w w') := Lib.hid (fun w => ih (n / 10) (by omega) w (by omega))
      have q1 : (n : Int).tdiv 10 = ((n / 10 : Nat) : Int) := by rw [Int.tdiv_eq_ediv_of_nonneg (by omega)]; omega
      have q2 : (n : Int).tmod 10 = ((n % 10 : Nat) : Int) := by rw [Int.tmod_eq_emod_of_nonneg (by omega)]; omega
      have q3 : IntKind.i64.wrap ((n / 10 : Nat) : Int) = ((n / 10 : Nat) : Int) := IntWalk.i64_in _ (by omega)
      have q4 : IntKind.i64.wrap ((n % 10 : Nat) : Int) = ((n % 10 : Nat) : Int) := IntWalk.i64_in _ (by omega)
      have q5 : IntKind.i64.wrap (((n % 10 : Nat) : Int) + 1) = ((n % 10 : Nat) : Int) + 1 := IntWalk.i64_in _ (by omega)
      have q6 : (((n % 10 : Nat) : Int) + 1).toNat = n % 10 + 1 := by omega
      have hl : (decD (n / 10)).length ≤ 20 := decD_len 20 _ (by omega) (Nat.lt_of_le_of_lt (Nat.div_le_self _ _) (Nat.lt_of_le_of_lt hn (by decide)))
      have hm : n % 10 < 10 := Nat.mod_lt _ (by omega)
      have hm2 : ((n % 10 : Nat) : Int) < 10 := by omega
      have hm3 : ((n % 10 : Nat) : Int) + 1 ≤ 10 := by omega
      have ha := ba_app (decD (n / 10)) [dgt (n % 10)]
      obtain ⟨D, hD⟩ : ∃ D, decD (n / 10) = D := ⟨_, rfl⟩
      obtain ⟨g, hg⟩ : ∃ g, dgt (n % 10) = g := ⟨_, rfl⟩
      rw [hD, hg] at ha
      rw [hg] at hf
      rw [hD] at hl
      obtain ⟨M, hM⟩ : ∃ M, n % 10 = M := ⟨_, rfl⟩
      obtain ⟨Q, hQ⟩ : ∃ Q, n / 10 = Q := ⟨_, rfl⟩
      rw [hM] at q2 q4 q5 q6 hf hm hm2 hm3
      rw [hQ] at q1 q3
      have HR : Hid (decD n = D ++ [g]) := Lib.hid (by rw [HD.out, hD, hg])
      rw [hQ] at hD HIH
      have HDD := Lib.hid hD
      have hm4 : (0 : Int) ≤ (M : Int) + 1 := by omega
      have hm5 : (M : Int) ≤ (M : Int) + 1 := by omega
      have hcat : ¬ 2^63-1 < D.length + 1 := by omega
      clear hD hg hM hQ HD
      go_enter Tryd.func11, Tryd.ntmps11
      go_wp2_with fail
      refine Grow.wp_region_lit (G := Ext) (B := fun w' => Ext w w') (anc := fun _ => []) (I := fun j => if j = 2 then some (Grow.Spec.val Ext (.string ⟨D.toArray⟩)) else none) (by kernel_rfl) (by kernel_rfl) (by kernel_rfl) ?_ ?_ ?_
      · exact fun w w' h hg => ext_trans h hg
      · exact (ext_refl _).drew
      repeat
        (refine Grow.walk_step (fun K hK => ?_)
         first
         | (refine Grow.step_read (by rfl) (by rfl) ext_refl ?_
            apply Exists.intro
            refine ⟨fun w hB hF => ?_, ?_⟩
            · skip
              go_simp
              try exact rfl
            go_simp
            refine hK _ _ ?_
            clear hK K)
         | (refine Grow.step_off (by rfl) ?_
            go_simp
            refine hK _ _ ?_
            clear hK K))
      refine Grow.walk_step (fun K hK => ?_)
      refine Grow.step_rel (by rfl) (by rfl) (fun w' hB hF => ?_) (fun v hv => ?_)
      · go_simp
        refine Grow.relUpon_enter ((HIH.out w').mono ?_)
        rintro e w'' ⟨rfl, hw''⟩
        exact ⟨_, rfl, hw'', by rw [HDD.out]; rfl, trivial⟩
      obtain rfl : v = _ := hv
      go_simp
      refine hK _ _ ?_
      clear hK K
      repeat
        (refine Grow.walk_step (fun K hK => ?_)
         first
         | (refine Grow.step_read (by rfl) (by rfl) ext_refl ?_
            apply Exists.intro
            refine ⟨fun w hB hF => ?_, ?_⟩
            · skip
              go_simp
              try exact rfl
            go_simp
            refine hK _ _ ?_
            clear hK K)
         | (refine Grow.step_off (by rfl) ?_
            go_simp
            refine hK _ _ ?_
            clear hK K))
      refine Grow.walk_nil ?_
      intro w13 hB hF
      clear hF
      go_wp2_with fail
      go_ret
      exact ⟨by rw [HR.out]; rfl, hB⟩
theorem cat_d (S D E : List UInt8) : (ByteArray.mk S.toArray) ++ ⟨D.toArray⟩ ++ ⟨#[46]⟩ ++ ⟨E.toArray⟩ = ⟨(S ++ (D ++ 46 :: E)).toArray⟩ := by
  rw [ba_app, show ByteArray.mk #[46] = ByteArray.mk [46].toArray from rfl, ba_app, ba_app]; simp
theorem cat_f (S D E : List UInt8) : (ByteArray.mk S.toArray) ++ ⟨D.toArray⟩ ++ ⟨#[46]⟩ ++ ⟨E.toArray⟩ ++ ⟨#[48, 48, 48, 101, 48]⟩ = ⟨(S ++ (D ++ 46 :: (E ++ [48, 48, 48, 101, 48]))).toArray⟩ := by
  rw [cat_d, show ByteArray.mk #[48, 48, 48, 101, 48] = ByteArray.mk [48, 48, 48, 101, 48].toArray from rfl, ba_app]; simp
theorem cat_h (S D E L : List UInt8) : (ByteArray.mk S.toArray) ++ ⟨D.toArray⟩ ++ ⟨E.toArray⟩ ++ ⟨#[69, 45]⟩ ++ ⟨L.toArray⟩ = ⟨(S ++ (D ++ (E ++ 69 :: 45 :: L))).toArray⟩ := by
  rw [ba_app S D, ba_app (S ++ D) E, ba_app (S ++ D ++ E) [69, 45], ba_app (S ++ D ++ E ++ [69, 45]) L]; simp
theorem cat_j (S D : List UInt8) : (ByteArray.mk S.toArray) ++ ⟨#[48]⟩ ++ ⟨D.toArray⟩ = ⟨(S ++ (48 :: D)).toArray⟩ := by
  rw [ba_app S [48], ba_app (S ++ [48]) D]; simp
end Go.Proofs.YtpheohgceepboaaDoor
