/- orangeryref01: what Less does. -/
import Derived.Test.YtikhdnpokhldeaaRefC
set_option linter.unusedVariables false
set_option linter.unusedSimpArgs false
namespace Go.Proofs.Ytikhdnpokhldeaa
open Go.RowKit Go.Mem Orange

theorem Row.at64 {w : World} {a : Option Addr} {n c : Nat} {l : List Int} (h : Row w (.slice a n c) (cells64 l)) : ∃ b o, (0 < l.length → a = some ⟨b, o, none⟩ ∧ b < w.heap.size) ∧ ∀ i, (h : i < l.length) → w.cell? ⟨b, o + i, none⟩ = some (.int .i64 l[i]) := by
  obtain ⟨a', c', e, h1, h2, h3⟩ := h
  simp only [Value.slice.injEq] at e
  obtain ⟨rfl, _, rfl⟩ := e
  by_cases hn : 0 < l.length
  · obtain ⟨b, o, rfl, hlt, hc⟩ := h3 (by simpa using hn)
    refine ⟨b, o, fun _ => ⟨rfl, hlt⟩, fun i hi => ?_⟩
    have := hc i (by simpa using hi)
    simpa [cells64] using this
  · exact ⟨0, 0, fun h => absurd h hn, fun i hi => by omega⟩

set_option maxHeartbeats 1600000 in
theorem refless_any (s t : ByteArray) (w : World) (hs : s.size ≤ 17592186044416) (ht : t.size ≤ 17592186044416) :
    Calls Try.prog 18 #[.string s, .string t] w fun e w' => e = .returned (.bool (lessL (marks s.data.toList) (marks t.data.toList))) ∧ Ext w w' := by
  have hl1 : (marks s.data.toList).length ≤ 17592186044416 := Nat.le_trans (marks_len _) (by rw [Array.length_toList]; exact hs)
  have hl2 : (marks t.data.toList).length ≤ 17592186044416 := Nat.le_trans (marks_len _) (by rw [Array.length_toList]; exact ht)
  go_enter Try.func18, Try.ntmps18
  go_wp2_with fail
  refine (refmarks_any _ _ hs).mono ?_
  rintro e w1 ⟨⟨a1, c1, rfl, hr1⟩, hw1⟩
  go_wp2_with fail
  refine (refmarks_any _ _ ht).mono ?_
  rintro e w2 ⟨⟨a2, c2, rfl, hr2⟩, hw2⟩
  have hE2 := ext_trans hw1 hw2
  have hr1 := hr1.ext hw2
  obtain ⟨l, hLe⟩ : ∃ l, marks s.data.toList = l := ⟨_, rfl⟩
  obtain ⟨m, hMe⟩ : ∃ m, marks t.data.toList = m := ⟨_, rfl⟩
  rw [hLe] at hr1 hl1 ⊢
  rw [hMe] at hr2 hl2 ⊢
  have HLE := Lib.hid hLe
  have HME := Lib.hid hMe
  clear hLe hMe
  obtain ⟨b1, o1, he1, hc1⟩ := Row.at64 hr1
  obtain ⟨b2, o2, he2, hc2⟩ := Row.at64 hr2
  have HE1 := Lib.hid he1
  have HE2 := Lib.hid he2
  have HC1 := Lib.hid hc1
  have HC2 := Lib.hid hc2
  clear he1 he2 hc1 hc2 hr1 hr2 hw1 hw2
  go_wp2_with fail
  go_loopw [7] (fun kv wr => ∃ k n : Nat, kv = .int .i64 k ∧ k ≤ l.length ∧ k ≤ m.length ∧ wr = w2.drewN n ∧ lessL l m = lessL (l.drop k) (m.drop k)) (fun kv _ => l.length - (intOf kv).toNat)
  case atStart => exact ⟨0, 0, rfl, by omega, by omega, rfl, rfl⟩
  case round =>
    obtain ⟨k, n, rfl, hk1, hk2, rfl, hr⟩ := hrel
    have HR := Lib.hid hr
    clear hr
    by_cases h1 : k < l.length
    · by_cases h2 : k < m.length
      · obtain ⟨rfl, hb1⟩ := HE1.out (by omega)
        obtain ⟨rfl, hb2⟩ := HE2.out (by omega)
        have hx1 := HC1.out k h1
        have hx2 := HC2.out k h2
        have hat := lessL_at l m k h1 h2
        generalize l[k] = x at hx1 hat
        generalize m[k] = y at hx2 hat
        have HAT := Lib.hid hat
        clear hat
        by_cases hxy : x = y
        · have hb : (x != y) = false := by simp [hxy]
          have HXY := Lib.hid hxy
          clear hxy
          go_wp2_with fail
          go_quiet (fail)
          go_wp2_with fail
          go_roundw
          case rel => exact ⟨k + 1, _, by go_num, by omega, by omega, rfl, by rw [HR.out, HAT.out, if_pos HXY.out]⟩
          case measure => simp [intOf]; omega
        · have hb : (x != y) = true := by simp [hxy]
          go_wp2_with fail
          go_quiet (fail)
          go_wp2_with fail
          go_quiet (fail)
          go_wp2_with fail
          go_ret
          exact ⟨ret_bool (by rw [HLE.out, HME.out, HR.out, HAT.out, if_neg hxy]), below_drewN (below_drewN (below_drewN hE2 _) _) _⟩
      · have hend := lessL_end l m k (by omega)
        have HEND := Lib.hid hend
        clear hend
        have hd2 : decide (k < m.length) = false := by simpa using h2
        go_wp2_with fail
        go_ret
        exact ⟨ret_bool (by rw [HLE.out, HME.out, HR.out, HEND.out]), below_drewN hE2 _⟩
    · have hend := lessL_end l m k (by omega)
      have HEND := Lib.hid hend
      clear hend
      have hd1 : decide (k < l.length) = false := by simpa using h1
      go_wp2_with fail
      go_ret
      exact ⟨ret_bool (by rw [HLE.out, HME.out, HR.out, HEND.out]), below_drewN hE2 _⟩
end Go.Proofs.Ytikhdnpokhldeaa
