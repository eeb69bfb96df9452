/- utf: what Less does. -/
import Derived.Test.YtikhdnpokhldeaaWUtfF
set_option linter.unusedVariables false
namespace Go.Proofs.Ytikhdnpokhldeaa
open Go.RowKit Go.Mem Orange

set_option maxHeartbeats 1600000 in
/-- utf.Less -/
theorem less_any (s t : ByteArray) (w : World) (hs : s.size ≤ 35184372088000) (ht : t.size ≤ 35184372088000) :
    Calls Try.prog 16 #[.string s, .string t] w fun e w' => e = .returned (.bool (lessL (marks s.data.toList) (marks t.data.toList))) ∧ Ext w w' := by
  go_enter Try.func16, Try.ntmps16
  go_wp2_with fail
  generalize hw1 : ((w.alloc (.cells #[.slice none 0 0] 47)).alloc (.cells #[.slice none 0 0] 47)) = w1
  have hsz : w1.heap.size = w.heap.size + 2 := by rw [← hw1]; simp
  have hb1 : w1.heap[w.heap.size]? = some (.cells #[.slice none 0 0] 47 (0, 0)) := by rw [← hw1, Below.heap_alloc _ _ _ (by simp)]; exact heap_alloc_new _ _
  have hb2 : w1.heap[w.heap.size + 1]? = some (.cells #[.slice none 0 0] 47 (0, 0)) := by rw [← hw1, show w.heap.size + 1 = (w.alloc (.cells #[.slice none 0 0] 47)).heap.size by simp]; exact heap_alloc_new _ _
  have hx1 : Ext w w1 := by rw [← hw1]; exact ((ext_refl w).alloc (Nat.le_refl _) _).alloc (by simp) _
  clear hw1
  refine (each_any _ (.inr (.inl rfl)) s _ _ (by omega) (by omega) (fun done w' => Gath (w1.heap.size + 1) w.heap.size done w') (fun _ _ _ h hx => h.ext hx) ⟨_, hb1, World.ownsRow_nil _ _ _ _⟩ ?_).mono ?_
  · intro done r w' h hd _ _ hlt
    exact lessFn _ (.inl rfl) r _ _ done w' h (by omega) (by omega) (by omega)
  rintro e w2 ⟨rfl, hg1, hk2⟩
  have hb2' : w2.heap[w.heap.size + 1]? = some (.cells #[.slice none 0 0] 47 (0, 0)) := by rw [hk2.block _ (by omega) (by omega)]; exact hb2
  have hz2 := hk2.size
  clear hb1 hb2
  go_wp2_with fail
  refine (each_any _ (.inr (.inr rfl)) t _ _ (by omega) (by omega) (fun done w' => Gath (w2.heap.size + 1) (w.heap.size + 1) done w') (fun _ _ _ h hx => h.ext hx) ⟨_, hb2', World.ownsRow_nil _ _ _ _⟩ ?_).mono ?_
  · intro done r w' h hd _ _ hlt
    exact lessFn _ (.inr rfl) r _ _ done w' h (by omega) (by omega) (by omega)
  rintro e w3 ⟨rfl, hg2, hk3⟩
  have hg1' := hg1.kept hk3 (Nat.le_refl _) (by omega) (by omega)
  have hx3 : Ext w w3 := hx1.trans (((hk2.mono (show w.heap.size ≤ w1.heap.size by omega)).below (Nat.le_refl _)).trans ((hk3.mono (show w.heap.size ≤ w2.heap.size by omega)).below (by omega)))
  obtain ⟨a1, c1, hc1, he1⟩ := hg1'.read
  obtain ⟨a2, c2, hc2, he2⟩ := hg2.read
  have hl1 : (marks s.data.toList).length ≤ 35184372088000 := Nat.le_trans (marks_len _) (by rw [Array.length_toList]; exact hs)
  have hl2 : (marks t.data.toList).length ≤ 35184372088000 := Nat.le_trans (marks_len _) (by rw [Array.length_toList]; exact ht)
  obtain ⟨l, hLe⟩ : ∃ l, marks s.data.toList = l := ⟨_, rfl⟩
  obtain ⟨m, hMe⟩ : ∃ m, marks t.data.toList = m := ⟨_, rfl⟩
  rw [hLe] at hc1 he1 hl1
  rw [hMe] at hc2 he2 hl2
  have HLE := Lib.hid hLe
  have HME := Lib.hid hMe
  clear hLe hMe
  have HE1 := Lib.hid he1
  have HE2 := Lib.hid he2
  clear he1 he2 hg1 hg1' hg2 hk2 hk3 hb2' hz2
  go_wp2_with fail
  all_goals
    go_loopw [19] (fun kv wr => ∃ k n : Nat, kv = .int .i64 k ∧ k ≤ l.length ∧ k ≤ m.length ∧ wr = w3.drewN n ∧ lessL l m = lessL (l.drop k) (m.drop k)) (fun kv _ => l.length - (intOf kv).toNat)
    case atStart => exact ⟨0, 0, rfl, by omega, by omega, rfl, rfl⟩
    case round =>
      obtain ⟨k, n, rfl, hk1, hk2, rfl, hr⟩ := hrel
      have HR := Lib.hid hr
      clear hr
      by_cases hlt : k < l.length ∧ k < m.length
      · obtain ⟨h1, h2⟩ := hlt
        obtain ⟨g1, rfl, hg1⟩ := HE1.out (by omega)
        obtain ⟨g2, rfl, hg2⟩ := HE2.out (by omega)
        have hx1 := hg1 k h1
        have hx2 := hg2 k h2
        have hat := lessL_at l m k h1 h2
        generalize l[k] = x at hx1 hat
        generalize m[k] = y at hx2 hat
        have HAT := Lib.hid hat
        clear hat hg1 hg2
        by_cases hxy : x = y
        · have hb : (x != y) = false := by simp [hxy]
          have HXY := Lib.hid hxy
          clear hxy
          go_wp2_with fail
          go_quiet (fail)
          go_wp2_with fail
          go_roundw
          case rel => exact ⟨k + 1, _, by go_num, by omega, by omega, rfl, by rw [HR.out, HAT.out, if_pos HXY.out]⟩
          case measure => simp [intOf]; omega
        · have hb : (x != y) = true := by simp [hxy]
          go_wp2_with fail
          go_quiet (fail)
          go_wp2_with fail
          go_quiet (fail)
          go_wp2_with fail
          go_ret
          exact ⟨ret_bool (by rw [HLE.out, HME.out, HR.out, HAT.out, if_neg hxy]), below_drewN (below_drewN (below_drewN hx3 _) _) _⟩
      · have hkk : k = min l.length m.length := by omega
        have hend := lessL_end l m k hkk
        have HEND := Lib.hid hend
        clear hend hkk
        go_wp2_with fail
        go_ret
        exact ⟨ret_bool (by rw [HLE.out, HME.out, HR.out, HEND.out]), below_drewN hx3 _⟩
end Go.Proofs.Ytikhdnpokhldeaa
