/- orangeryref01: what Put does. -/
import Derived.Test.YtglcpfnfldaimaaDoorRefA
import Derived.Test.YtglcpfnfldaimaaDoorRow
set_option linter.unusedVariables false
set_option maxRecDepth 100000
set_option linter.unusedSimpArgs false
namespace Go.Proofs.YtglcpfnfldaimaaDoor
open Go.RowKit Go.Mem Orange

def cells64 (xs : List Int) : List Value := xs.map fun r => Value.int .i64 r
@[simp] theorem cells64_length (xs : List Int) : (cells64 xs).length = xs.length := by simp [cells64]
theorem info64 : (Tryd.prog.info? 3).map (fun i => (i.zero, i.size, i.bytes)) = some (some (.int .i64 0), 1, 8) := by kernel_rfl
set_option maxHeartbeats 800000 in
theorem refput_any (v : Value) (xs : List UInt8) (r : Int) (w : World) (hx : Bytes w v xs) (hl : xs.length ≤ 140737488355000) (h0 : -2147483648 ≤ r) (h1 : r ≤ 2147483647) :
    Calls Tryd.prog 53 #[v, .int .i32 r] w fun e w' => ∃ v', e = .returned v' ∧ Bytes w' v' (xs ++ encP r) ∧ Ext w w' := by
  obtain ⟨r1, hs1, he1, hr1⟩ : ∃ r1, sound r1 = true ∧ encP r = enc r1 ∧ ((sound r = true ∧ r1 = r) ∨ (sound r = false ∧ r1 = 65533)) := by
    by_cases h : sound r = true
    · exact ⟨r, h, by rw [encP, if_pos h], .inl ⟨h, rfl⟩⟩
    · exact ⟨65533, by decide, by rw [encP, if_neg h], .inr ⟨by simpa using h, rfl⟩⟩
  have hsb := sound_iff r1 |>.1 hs1
  have hb0 : 0 ≤ r1 := by omega
  have hb1 : r1 ≤ 1114111 := by omega
  have hp := enc_pos r1
  have hp4 : (enc r1).length ≤ 4 := hp.2
  have HE1 := Lib.hid he1
  clear hsb hp he1
  have hx0 := hx
  obtain ⟨a, ca, rfl, hxc, hxm, hxl, hxat⟩ := hx0
  clear hxat
  have hB0 := ownB_new w #[] 5 [] rfl 0 rfl (by omega)
  have hx3 := hx.ext ((ext_refl w).alloc (Nat.le_refl _) (.cells #[] 5))
  go_enter Tryd.func53, Tryd.ntmps53
  go_wp2_with fail
  refine (valid_any _ _).mono ?_
  rintro e w1 ⟨rfl, rfl⟩
  rcases hr1 with ⟨hs, rfl⟩ | ⟨hs, rfl⟩
  all_goals
    clear hs1
    go_wp2_with (first
      | (at_builtin; refine wpList_append_bytes rfl _ _ rfl w.heap.size _ [] rfl hB0 _ xs rfl hx3 (by simp only [List.length_nil]; omega) (by simp) ?_; intro a5 c5 w5 hown5 hw5; rw [List.nil_append, List.length_nil, Nat.zero_add] at hown5; have hs5 : w.heap.size ≤ w5.heap.size := (by have := hw5.size; simp at this; omega); have hE5 : Ext w w5 := ((Below.refl w.heap.size w).alloc (Nat.le_refl _) _).trans hw5)
      | (go_at_call 73; refine (bytes_any _ _ hb0 hb1).mono ?_; rintro e w6 ⟨⟨v6, rfl, hb6⟩, hw6⟩; (have hb6x := hb6; obtain ⟨a6, c6, rfl, _⟩ := hb6x); have hown6 := OwnB.ext hown5 hw6; have hs6 : w.heap.size ≤ w6.heap.size := (by have := hw6.size; omega); have hl6 := Nat.le_trans (Nat.add_le_add_left hp4 xs.length) (show xs.length + 4 ≤ 140737488355328 by omega))
      | (at_builtin; refine wpList_append_bytes rfl _ _ rfl w.heap.size _ xs rfl hown6 _ _ rfl hb6 hl6 hs6 ?_; intro a7 c7 w7 hown7 hw7))
    go_ret
    refine ⟨_, rfl, ?_, hE5.trans ((hw6.mono hs5).trans hw7)⟩
    have := hown7.bytes (by rw [List.length_append]; exact hl6)
    rw [HE1.out]
    simpa using this

end Go.Proofs.YtglcpfnfldaimaaDoor
