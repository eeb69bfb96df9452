/- A text of this proof. -/
import Derived.Test.YtjapbjmeoaagmaaGreatDoorEPrintIsWEscA
import Derived.Test.YtjapbjmeoaagmaaGreatDoorEPrintIsSh
set_option linter.unusedVariables false
set_option linter.unusedSimpArgs false
set_option maxRecDepth 100000
namespace Go.Proofs.YtjapbjmeoaagmaaGreatDoor
open Go.RowKit Go.Mem Orange
theorem ret_ii {k k' : IntKind} {a b c d : Int} (h1 : a = b) (h2 : c = d) : Ending.returned (.tuple #[.int k a, .int k' c]) = .returned (.tuple #[.int k b, .int k' d]) := by rw [h1, h2]
theorem idx_none (s : List UInt8) (c : UInt8) (h : ∀ x ∈ s, x ≠ c) : Lib.indexByte s c = -1 := by
 induction s with
 | nil => rfl
 | cons x t ih =>
   have h1 := ih (fun y hy => h y (List.mem_cons_of_mem _ hy)); have h2 : (x == c) = false := by simpa using h x (List.mem_cons_self ..)
   simp [Lib.indexByte, h1, h2]
set_option maxHeartbeats 3200000 in
theorem escape_any (v : Value) (xs : List UInt8) (w : World) (hx : Bytes w v xs) :
 Calls Tryz.prog 153 #[v] w fun e w' => e = .returned (.tuple #[.int .i32 (escape xs).1, .int .i64 (escape xs).2]) ∧ w = w' := by
 rcases hx.cases with ⟨rfl, a, cap, rfl, _⟩ | ⟨x, t, b, o, cap, rfl, rfl, h1, h2, h3, hb, hc0, hc, hat⟩
 · go_enter Tryz.func153, Tryz.ntmps153
   go_wp2
   go_ret2; exact ⟨rfl, rfl⟩
 · have hx8 := x.toNat_lt; have hd : (((t.length : Int) + 1) == 0) = false := by simp; omega
   by_cases hA : x = 34 ∨ x = 47 ∨ x = 92
   · have hr : escape (x :: t) = ((x.toNat : Int), 1) := by rw [escape, if_pos (by simpa [or_assoc] using hA)]
     have HR := Hd hr; clear hx hc hat hr; obtain ⟨k, hk0, hk⟩ : ∃ k : Int, 0 ≤ k ∧ Lib.indexByte [34, 47, 92] x = k := by
      rcases hA with rfl | rfl | rfl
      · exact ⟨0, by decide, by decide⟩
      · exact ⟨1, by decide, by decide⟩
      · exact ⟨2, by decide, by decide⟩
     clear hA; go_enter Tryz.func153, Tryz.ntmps153
     go_wp2_with (go_at_call 105; refine (idx_eq _ x _ _ hk).mono ?_; rintro e w' ⟨rfl, rfl⟩)
     go_ret2; exact ⟨by rw [HR.out]; rfl, rfl⟩
   have hk1 : Lib.indexByte [34, 47, 92] x = -1 := idx_none _ _ (by
    intro y hy e; simp only [List.mem_cons, List.not_mem_nil, or_false] at hy; apply hA; rw [← e]; exact hy)
   by_cases hB : x = 98 ∨ x = 116 ∨ x = 110 ∨ x = 102 ∨ x = 114
   · have hr : escape (x :: t) = (escNamed x, 1) := by rw [escape, if_neg (by simpa [and_assoc] using hA), if_pos (by simpa [or_assoc, and_assoc] using hB)]
     have HR := Hd hr; clear hx hc hat hr hA; rcases hB with rfl | rfl | rfl | rfl | rfl
     · have hk : Lib.indexByte [98, 116, 110, 102, 114] 98 = 0 := by decide
       go_enter Tryz.func153, Tryz.ntmps153
       go_wp2_with (go_at_call 105; first | (refine (idx_eq _ 98 _ _ hk1).mono ?_; rintro e w' ⟨rfl, rfl⟩) | (refine (idx_eq _ 98 _ _ hk).mono ?_; rintro e w' ⟨rfl, rfl⟩))
       go_ret2; exact ⟨by rw [HR.out]; exact ret_ii (by kernel_rfl) (by kernel_rfl), rfl⟩
     · have hk : Lib.indexByte [98, 116, 110, 102, 114] 116 = 1 := by decide
       go_enter Tryz.func153, Tryz.ntmps153
       go_wp2_with (go_at_call 105; first | (refine (idx_eq _ 116 _ _ hk1).mono ?_; rintro e w' ⟨rfl, rfl⟩) | (refine (idx_eq _ 116 _ _ hk).mono ?_; rintro e w' ⟨rfl, rfl⟩))
       go_ret2; exact ⟨by rw [HR.out]; exact ret_ii (by kernel_rfl) (by kernel_rfl), rfl⟩
     · have hk : Lib.indexByte [98, 116, 110, 102, 114] 110 = 2 := by decide
       go_enter Tryz.func153, Tryz.ntmps153
       go_wp2_with (go_at_call 105; first | (refine (idx_eq _ 110 _ _ hk1).mono ?_; rintro e w' ⟨rfl, rfl⟩) | (refine (idx_eq _ 110 _ _ hk).mono ?_; rintro e w' ⟨rfl, rfl⟩))
       go_ret2; exact ⟨by rw [HR.out]; exact ret_ii (by kernel_rfl) (by kernel_rfl), rfl⟩
     · have hk : Lib.indexByte [98, 116, 110, 102, 114] 102 = 3 := by decide
       go_enter Tryz.func153, Tryz.ntmps153
       go_wp2_with (go_at_call 105; first | (refine (idx_eq _ 102 _ _ hk1).mono ?_; rintro e w' ⟨rfl, rfl⟩) | (refine (idx_eq _ 102 _ _ hk).mono ?_; rintro e w' ⟨rfl, rfl⟩))
       go_ret2; exact ⟨by rw [HR.out]; exact ret_ii (by kernel_rfl) (by kernel_rfl), rfl⟩
     · have hk : Lib.indexByte [98, 116, 110, 102, 114] 114 = 4 := by decide
       go_enter Tryz.func153, Tryz.ntmps153
       go_wp2_with (go_at_call 105; first | (refine (idx_eq _ 114 _ _ hk1).mono ?_; rintro e w' ⟨rfl, rfl⟩) | (refine (idx_eq _ 114 _ _ hk).mono ?_; rintro e w' ⟨rfl, rfl⟩))
       go_ret2; exact ⟨by rw [HR.out]; exact ret_ii (by kernel_rfl) (by kernel_rfl), rfl⟩
   have hk2 : Lib.indexByte [98, 116, 110, 102, 114] x = -1 := idx_none _ _ (by
    intro y hy e; simp only [List.mem_cons, List.not_mem_nil, or_false] at hy; apply hB; rw [← e]; exact hy)
   have hr : escape (x :: t) = match unit (x :: t) with
    | none => (0, 0)
    | some v => if sound v then (v, 5) else match pair v (t.drop 4) with
      | some r => (r, 11)
      | none => (0, 0) := by
    rw [escape, if_neg (by simpa [and_assoc] using hA), if_neg (by simpa [or_assoc, and_assoc] using hB)]; cases unit (x :: t) with
    | none => rfl
    | some v =>
      simp only
      split
      · rfl
      · cases pair v (t.drop 4) <;> rfl
   have HX := Hd hx; clear hA hB hx hc; cases hun : unit (x :: t) with
   | none =>
     rw [hun] at hr; have HR := Hd hr; have HU := Hd hun; clear hr hun hat; go_enter Tryz.func153, Tryz.ntmps153
     go_wp2_with (first
      | (go_at_call 105; first | (refine (idx_eq _ x _ _ hk1).mono ?_; rintro e w' ⟨rfl, rfl⟩) | (refine (idx_eq _ x _ _ hk2).mono ?_; rintro e w' ⟨rfl, rfl⟩))
      | (go_at_call 189; refine (unit_any _ (x :: t) _ HX.out).mono ?_; rintro e w' ⟨rfl, rfl⟩; rw [HU.out]; simp only [Option.getD_none, Option.isSome_none]))
     go_ret2; exact ⟨by rw [HR.out]; rfl, rfl⟩
   | some u =>
     rw [hun] at hr; have hub := unit_bd hun; have hl : 4 ≤ t.length := by
      have := hun; rw [unit] at this; split at this
      · cases this
      · rename_i h; simp at h; omega
     have HU := Hd hun; clear hun; simp only at hr; by_cases hs : sound u = true
     · rw [if_pos hs] at hr; have HR := Hd hr; clear hr hat; go_enter Tryz.func153, Tryz.ntmps153
       go_wp2_with (first
        | (go_at_call 105; first | (refine (idx_eq _ x _ _ hk1).mono ?_; rintro e w' ⟨rfl, rfl⟩) | (refine (idx_eq _ x _ _ hk2).mono ?_; rintro e w' ⟨rfl, rfl⟩))
        | (go_at_call 173; refine (sound_any _ _).mono ?_; rintro e w' ⟨rfl, rfl⟩)
        | (go_at_call 189; refine (unit_any _ (x :: t) _ HX.out).mono ?_; rintro e w' ⟨rfl, rfl⟩; rw [HU.out]; simp only [Option.getD_some, Option.isSome_some]))
       go_ret2; exact ⟨by rw [HR.out]; rfl, rfl⟩
     · have hs : sound u = false := by simpa using hs
       rw [if_neg (by simp [hs])] at hr; have hb5 : cap ≠ 5 → Bytes w (.slice (some ⟨b, o + 5, none⟩) (t.length - 4) (cap - 5)) (t.drop 4) := fun h => Bytes.mk (by simpa using hat.drop 5) (by simp) (by omega) (by omega) (by omega); have hb6 : cap = 5 → Bytes w (.slice (some ⟨b, o, none⟩) (t.length - 4) 0) (t.drop 4) := fun h => by
        have e1 : t.drop 4 = [] := List.drop_eq_nil_of_le (by omega); have e2 : t.length - 4 = 0 := by omega
        rw [e1, e2]; exact Bytes.nil _ _ _ (by omega)
       have HB5 := Hd hb5; have HB6 := Hd hb6; clear hb5 hb6 hat; cases hp : pair u (t.drop 4)
       all_goals
        rw [hp] at hr; have HR := Hd hr; have HP := Hd hp; clear hr hp; go_enter Tryz.func153, Tryz.ntmps153
        go_wp2_with fail; refine (idx_eq _ x _ _ hk1).mono ?_; rintro e w' ⟨rfl, rfl⟩; go_wp2_with fail; refine (idx_eq _ x _ _ hk2).mono ?_; rintro e w' ⟨rfl, rfl⟩; go_wp2_with fail; refine (unit_any _ (x :: t) _ HX.out).mono ?_; rintro e w' ⟨rfl, rfl⟩; rw [HU.out]; simp only [Option.getD_some, Option.isSome_some]; go_wp2_with fail; refine (sound_any _ _).mono ?_; rintro e w' ⟨rfl, rfl⟩; rw [hs]
        go_wp2_with fail
        · refine (pair_any u _ (t.drop 4) _ (HB6.out (by omega)) hub.1 hub.2).mono ?_; rintro e w' ⟨rfl, rfl⟩; rw [HP.out]; simp only [Option.getD_some, Option.isSome_some, Option.getD_none, Option.isSome_none]; go_wp2_with fail; go_ret2; exact ⟨by rw [HR.out]; rfl, rfl⟩
        · refine (pair_any u _ (t.drop 4) _ (HB5.out (by omega)) hub.1 hub.2).mono ?_; rintro e w' ⟨rfl, rfl⟩; rw [HP.out]; simp only [Option.getD_some, Option.isSome_some, Option.getD_none, Option.isSome_none]; go_wp2_with fail; go_ret2; exact ⟨by rw [HR.out]; rfl, rfl⟩
end Go.Proofs.YtjapbjmeoaagmaaGreatDoor
