/- utf: what each does, with what it is handed; Count. -/
import Derived.Test.YtikhdnpokhldeaaWUtfC
import Derived.Test.YtikhdnpokhldeaaConv
set_option linter.unusedVariables false
namespace Go.Proofs.Ytikhdnpokhldeaa
open Go.RowKit Go.Mem Orange

theorem or_strange (n : Int) (h0 : 0 ≤ n) (h1 : n < 256) : bits .or .i32 2097152 n = 2097152 + n := by
  have h := (bits_nat .i32 31 (by decide) wraps_i32 2097152 n.toNat (by decide) (by omega)).2
  rw [nat_join 8 2097152 n.toNat (by decide) (by omega)] at h
  have e : ((n.toNat : Nat) : Int) = n := by omega
  rw [e] at h
  have e2 : ((2097152 : Nat) : Int) = 2097152 := rfl
  rw [e2] at h
  rw [h]
  omega

theorem slice_eq {a b : Option Addr} {n m c d : Nat} (h0 : a = b) (h1 : n = m) (h2 : c = d) : Value.slice a n c = Value.slice b m d := by rw [h0, h1, h2]
def lenOf' : Value → Nat | .slice _ n _ => n | _ => 0
set_option maxHeartbeats 1600000 in
theorem each_any (f : Nat) (hf : f = 29 ∨ f = 30 ∨ f = 31) (s : ByteArray) (p : Nat) (w : World) (hp : p < w.heap.size) (hl : s.size ≤ 140737488355328)
    (I : List Int → World → Prop) (hext : ∀ done w w', I done w → Ext w w' → I done w') (hI : I [] w)
    (hstep : ∀ done r w', I done w' → done.length + 1 ≤ s.size → -2147483648 ≤ r → r ≤ 2147483647 → w.heap.size < w'.heap.size → Calls Try.prog f #[.int .i32 r, .pointer (some ⟨p, 0, none⟩)] w' fun e w'' => e = .returned (.tuple #[]) ∧ I (done ++ [r]) w'' ∧ Kept (w.heap.size + 1) p w' w'') :
    Calls Try.prog 28 #[.string s, .func (.func f) #[] #[.pointer (some ⟨p, 0, none⟩)]] w fun e w' => e = .returned (.tuple #[]) ∧ I (marks s.data.toList) w' ∧ Kept w.heap.size p w w' := by
  have HSTEP := Lib.hid hstep
  have HEXT := Lib.hid hext
  clear hstep hext
  rcases hf with rfl | rfl | rfl
  all_goals
    go_enter Try.func28, Try.ntmps28
    go_wp2_with (refine wpList_bytes_of_string w rfl 9 22 5 _ rfl s rfl Try.underlying9 Try.underlying22 Try.underlying5 hl ?_; intro cap w1 hw1 hcap hcm hsz hat)
    have hL : s.data.toList.length = s.size := Array.length_toList
    obtain ⟨L, hLe⟩ : ∃ L, s.data.toList = L := ⟨_, rfl⟩
    rw [hLe] at hat hL
    have HLE := Lib.hid hLe
    clear hLe
    go_loopw [4] (fun v wr => ∃ (i o : Nat) (done : List Int), i ≤ s.size ∧ marks L = done ++ marks (L.drop i) ∧ done.length ≤ i ∧ I done wr ∧ Kept (w.heap.size + 1) p w1 wr ∧ v = .slice (some ⟨w.heap.size, o, none⟩) (s.size - i) (cap - i) ∧ (i < s.size → o = i)) (fun v _ => lenOf' v)
    case atStart => exact ⟨0, 0, [], by omega, rfl, by simp, HEXT.out _ _ _ hI hw1, Kept.refl _ _ _, rfl, fun _ => rfl⟩
    case round =>
      obtain ⟨i, o, done, hi, hm, hdl, hId, hk, rfl, ho⟩ := hrel
      have HM := Lib.hid hm
      clear hm
      by_cases hlt : i < s.size
      · obtain rfl := ho hlt
        have hbs : Bytes wr (.slice (some ⟨w.heap.size, o, none⟩) (s.size - o) (cap - o)) (L.drop o) := by
          have := (hat.kept hk (by omega) (by omega)).drop o
          rw [Nat.zero_add] at this
          exact Bytes.mk this (by simp [hL]) (by omega) (by omega) (by omega)
        obtain ⟨x, t, hxt⟩ : ∃ x t, L.drop o = x :: t := by
          cases h : L.drop o with
          | nil => simp at h; omega
          | cons x t => exact ⟨x, t, rfl⟩
        have hmc := marks_cons x t
        have hmk : Orange.mark (L.drop o) = if (next (L.drop o)).2 = 0 then 2097152 + (x.toNat : Int) else (next (L.drop o)).1 := by rw [hxt]; rfl
        rw [← hxt] at hmc
        have hle := next_le (L.drop o)
        have hbd := next_bd (L.drop o)
        have hlen : (L.drop o).length = s.size - o := by simp [hL]
        rw [hlen] at hle
        have hx8 : x.toNat < 256 := x.toNat_lt
        have hc0 : wr.cell? ⟨w.heap.size, o, none⟩ = some (.int .u8 x.toNat) := by
          have h1 := hbs
          rw [hxt] at h1
          rcases h1.cases with ⟨h, _⟩ | ⟨x', t', b', o', cap', h, h2, _, _, _, _, h3, _, _⟩
          · cases h
          · simp only [List.cons.injEq] at h
            simp only [Value.slice.injEq, Option.some.injEq, Addr.mk.injEq, and_true] at h2
            obtain ⟨⟨rfl, rfl⟩, _, _⟩ := h2
            obtain ⟨rfl, _⟩ := h
            exact h3
        have hcl : w.heap.size < wr.heap.size := by have := hk.size; omega
        have HMC := Lib.hid hmc
        have HMK := Lib.hid hmk
        clear hmc hmk hxt hlen
        by_cases hz : (next (L.drop o)).2 = 0
        · have hor := or_strange x.toNat (by omega) (by omega)
          go_wp2_with (first
            | (go_at_call 13; refine (next_any _ _ _ hbs).mono ?_; rintro e w' ⟨rfl, hb1⟩; have hc1 := hb1.cell (p := ⟨w.heap.size, o, none⟩) hcl; rw [hc0] at hc1)
            | (refine (HSTEP.out done _ _ (HEXT.out _ _ _ hId hb1) (by omega) (by omega) (by omega) (by have := hb1.size; omega)).mono ?_; rintro e w2 ⟨rfl, hI2, hk2⟩))
          all_goals
            have hk3 : Kept (w.heap.size + 1) p w1 w2 := (hk.trans (Kept.ofBelow (hb1.mono (by omega)))).trans hk2
            go_roundw
            case rel =>
              have hm2 : marks L = (done ++ [2097152 + (x.toNat : Int)]) ++ marks (L.drop (o + 1)) := by
                rw [HM.out, HMC.out, HMK.out, if_pos hz]
                simp [adv, hz]
              exact ⟨o + 1, if cap - o = 1 then o else o + 1, _, by omega, hm2, by simp; omega, hI2, hk3, slice_eq (by split <;> rfl) (by omega) (by omega), fun h => if_neg (by omega)⟩
            case measure => simp [lenOf']; omega
        · have hz1 : ((((next (L.drop o)).2 : Nat) : Int) == 0) = false := by simp; omega
          go_wp2_with (first
            | (go_at_call 13; refine (next_any _ _ _ hbs).mono ?_; rintro e w' ⟨rfl, hb1⟩)
            | (refine (HSTEP.out done _ _ (HEXT.out _ _ _ hId hb1) (by omega) (by omega) (by omega) (by have := hb1.size; omega)).mono ?_; rintro e w2 ⟨rfl, hI2, hk2⟩))
          all_goals
            have hk3 : Kept (w.heap.size + 1) p w1 w2 := (hk.trans (Kept.ofBelow (hb1.mono (by omega)))).trans hk2
            go_roundw
            case rel =>
              have hm2 : marks L = (done ++ [(next (L.drop o)).1]) ++ marks (L.drop (o + (next (L.drop o)).2)) := by
                rw [HM.out, HMC.out, HMK.out, if_neg hz]
                simp [adv, hz]
              exact ⟨o + (next (L.drop o)).2, if cap - o = (next (L.drop o)).2 then o else o + (next (L.drop o)).2, _, by omega, hm2, by simp; omega, hI2, hk3, slice_eq (by split <;> rfl) (by omega) (by omega), fun h => if_neg (by omega)⟩
            case measure => simp [lenOf']; omega
      · have hz2 : ¬ (0 < s.size - i) := by omega
        obtain rfl : i = s.size := by omega
        go_wp2_with fail
        go_end0
        refine ⟨rfl, ?_, ((Kept.ofBelow hw1).trans (hk.mono (by omega)))⟩
        have := HM.out
        rw [List.drop_eq_nil_of_le (by omega), marks_nil, List.append_nil] at this
        rw [HLE.out, this]
        exact hId
end Go.Proofs.Ytikhdnpokhldeaa
