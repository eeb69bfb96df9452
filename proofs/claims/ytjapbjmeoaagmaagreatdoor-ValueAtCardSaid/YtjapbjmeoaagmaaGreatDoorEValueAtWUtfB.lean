/- A text of this proof. -/
import Derived.Test.YtjapbjmeoaagmaaGreatDoorEValueAtWUtfA
import Derived.Test.YtjapbjmeoaagmaaGreatDoorEValueAtUtfM
import Derived.Test.YtjapbjmeoaagmaaGreatDoorEValueAtSh
set_option linter.unusedVariables false
set_option linter.unusedSimpArgs false
set_option maxRecDepth 100000
namespace Go.Proofs.YtjapbjmeoaagmaaGreatDoor
open Go.RowKit Go.Mem Orange
set_option maxHeartbeats 800000 in
theorem check_any (v : Value) (xs : List UInt8) (w : World) (hx : Bytes w v xs) :
 Calls Tryz.prog 101 #[v] w fun e w' => e = .returned (.int .i64 (check xs)) ∧ Ext w w' := by
 obtain ⟨a, cap, rfl, hcap, hcm, hl, hat⟩ := hx; go_enter Tryz.func101, Tryz.ntmps101
 go_wp2_with fail; go_loopw [3] (fun iv wr => ∃ i : Nat, i ≤ xs.length ∧ iv = .int .i64 i ∧ Ext w wr ∧ check xs = checkL (xs.drop i) i) (fun iv _ => xs.length - (intOf iv).toNat)
 case atStart => exact ⟨0, by omega, rfl, ext_refl _, rfl⟩
 case round =>
  obtain ⟨i, hi, rfl, hb, hc⟩ := hrel; have HC := Hd hc; clear hc; by_cases hlt : i < xs.length
  · obtain ⟨b, o, rfl, hbl, _⟩ := hat (by omega); have hbs : Bytes wr (.slice (some ⟨b, o + i, none⟩) (xs.length - i) (cap - i)) (xs.drop i) := Bytes.mk ((hat.ext hb).drop i) (by simp) (by omega) (by omega) (by omega); obtain ⟨x, t, hxt⟩ : ∃ x t, xs.drop i = x :: t := by
     cases h : xs.drop i with
     | nil => simp at h; omega
     | cons x t => exact ⟨x, t, rfl⟩
    have hcl := checkL_cons x t i; have hle := next_le (xs.drop i); rw [← hxt] at hcl; have hlen : (xs.drop i).length = xs.length - i := by simp
    rw [hlen] at hle; have HCL := Hd hcl; clear hcl hxt hlen; by_cases hz : (next (xs.drop i)).2 = 0
    · go_wp2_with (go_at_call 139; refine (next_any _ _ _ hbs).mono ?_; rintro e w' ⟨rfl, hb1⟩)
      go_ret; exact ⟨ret_int (by rw [HC.out, HCL.out, if_pos hz]), ext_trans hb hb1⟩
    · have hz1 : ((((next (xs.drop i)).2 : Nat) : Int) == 0) = false := by simp; omega
      go_wp2_with (go_at_call 139; refine (next_any _ _ _ hbs).mono ?_; rintro e w' ⟨rfl, hb1⟩)
      go_roundw
      case rel => exact ⟨i + (next (xs.drop i)).2, by omega, by go_num, ext_trans hb hb1, by rw [HC.out, HCL.out, if_neg hz, List.drop_drop]; rfl⟩
      case measure => simp [intOf]; omega
  · obtain rfl : i = xs.length := by omega
    go_wp2_with fail; go_ret; exact ⟨ret_int (by rw [HC.out, List.drop_length, checkL_nil]), hb⟩
end Go.Proofs.YtjapbjmeoaagmaaGreatDoor
