/- utf: what Count does. -/
import Derived.Test.YtikhdnpokhldeaaWUtfD
set_option linter.unusedVariables false
namespace Go.Proofs.Ytikhdnpokhldeaa
open Go.RowKit Go.Mem Orange

theorem countFn (r : Int) (p n : Nat) (w : World) (h : w.heap[p]? = some (.cells #[.int .i64 n] 3 (0, 0))) (hn : n < 140737488355328) :
    Calls Try.prog 29 #[.int .i32 r, .pointer (some ⟨p, 0, none⟩)] w fun e w' => e = .returned (.tuple #[]) ∧ w'.heap[p]? = some (.cells #[.int .i64 (n + 1 : Nat)] 3 (0, 0)) ∧ w' = w.setCell ⟨p, 0, none⟩ (.int .i64 (n + 1 : Nat)) := by
  have hc := cell_of_one h
  have hf := free_of_one h
  have h1 := one_setCell (u := .int .i64 ((n + 1 : Nat) : Int)) h
  have H1 := Lib.hid h1
  clear h1 h
  go_enter Try.func29, Try.ntmps29
  go_wp2
  go_end0
  exact ⟨rfl, H1.out, by first | rfl | simp⟩

set_option maxHeartbeats 800000 in
/-- utf.Count -/
theorem count_any (s : ByteArray) (w : World) (hl : s.size ≤ 140737488355328) :
    Calls Try.prog 15 #[.string s] w fun e w' => e = .returned (.int .i64 (marks s.data.toList).length) ∧ Ext w w' := by
  go_enter Try.func15, Try.ntmps15
  go_wp2_with (go_at_call 28; refine (each_any _ (.inl rfl) s _ _ (by simp) hl (fun done w' => w'.heap[w.heap.size]? = some (.cells #[.int .i64 done.length] 3 (0, 0))) ?_ ?_ ?_).mono ?_)
  · intro done w1 w2 h hx
    rw [hx.block _ (lt_of_block h)]
    exact h
  · exact heap_alloc_new _ _
  · intro done r w1 h hdl hr0 hr1 hlt
    have hd : done.length < 140737488355328 := by omega
    refine (countFn r _ _ w1 h hd).mono ?_
    rintro e w2 ⟨rfl, h2, rfl⟩
    refine ⟨rfl, by rw [h2]; simp, Kept.setCell _⟩
  · rintro e w2 ⟨rfl, h2, hk⟩
    have hc := cell_of_one h2
    have hx : Ext w w2 := ((ext_refl w).alloc (Nat.le_refl _) _).trans ((hk.mono (by simp)).below (Nat.le_refl _))
    clear hk h2
    go_wp2_with fail
    go_ret
    exact ⟨rfl, hx⟩
end Go.Proofs.Ytikhdnpokhldeaa
