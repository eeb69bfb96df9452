/- A text of this proof. -/
import Derived.Test.YtjapbjmeoaagmaaGreatDoorEPrintIsWBld
set_option linter.unusedVariables false
set_option linter.unusedSimpArgs false
set_option maxRecDepth 100000
namespace Go.Proofs.YtjapbjmeoaagmaaGreatDoor
open Go.RowKit Go.Mem
set_option maxHeartbeats 1600000 in
theorem builderString_any (base b : Nat) (t : TypeId) (ex : List Value) (l : List UInt8) (w : World) (h : Bld w base b t ex l) (hl : l.length ≤ 140737488355328) (hl0 : l ≠ []) :
 Calls Tryz.prog 66 #[.pointer (some ⟨b, 0, none⟩)] w fun e w' => e = .returned (.string ⟨l.toArray⟩) ∧ Below base w w' := by
 obtain ⟨p, v, hb, hp, hbb, hown⟩ := h; have hc1 : w.drew.cell? ⟨b, 1, none⟩ = some v := by
  have : w.cell? ⟨b, 1, none⟩ = some v := by rw [cell_of_cells hb]; simp
  simpa using this
 clear hb hp; rcases hown.2 with ⟨rfl, h0⟩ | ⟨g, cap, cur, rfl, hbg, hg, hnc, hcm, hcs, htake⟩
 · exact absurd (List.eq_nil_of_length_eq_zero h0) hl0
 · have hln : l.length ≠ 0 := by simpa using hl0
   have hSD : (Builtin.unsafeSliceData_ #[56] 104 #[.slice (some ⟨g, 0, none⟩) l.length cap]).run Tryz.prog w.drew = .ok (.pointer (some ⟨g, 0, none⟩)) w.drew :=
    Lib.run_unsafeSliceData_row _ _ _ _ _ _ (by omega)
   have hUS : (Builtin.unsafeString_ #[104, 3] 9 #[.pointer (some ⟨g, 0, none⟩), .int .i64 l.length]).run Tryz.prog w.drew = .ok (.string ⟨l.toArray⟩) (w.drew.freeze ⟨g, 0, none⟩ l.length) := by
    refine Lib.run_unsafeString_row w.drew 104 3 9 5 Tryz.underlying104 (by kernel_rfl) g cur.size (by have hg' : w.drew.heap[g]? = some (.cells cur 5 (0, 0)) := hg; simp [World.shape?, hg']) l hl0 (by omega) (by omega) ?_; intro j x hx; exact hown.cells (g := g) rfl j (.int .u8 x.toNat) (by simp [cells8, hx])
   clear hcs htake hg; go_enter Tryz.func66, Tryz.ntmps66
   go_wp2
   go_region
   all_goals (go_wp2; go_ret; exact ⟨rfl, Lib.below_freeze ((Below.refl _ _).drew) (p := ⟨g, 0, none⟩) hbg _⟩)
end Go.Proofs.YtjapbjmeoaagmaaGreatDoor
