/- orangeryref01: what Put, Check, Count and marks do. -/
import Derived.Test.YtikhdnpokhldeaaRefB
import Derived.Test.YtikhdnpokhldeaaRow
import Derived.Test.YtikhdnpokhldeaaWUtfF
set_option linter.unusedVariables false
set_option linter.unusedSimpArgs false
namespace Go.Proofs.Ytikhdnpokhldeaa
open Go.RowKit Go.Mem Orange

set_option maxHeartbeats 800000 in
theorem refput_any (v : Value) (xs : List UInt8) (r : Int) (w : World) (hx : Bytes w v xs) (hl : xs.length ≤ 140737488355000) (h0 : -2147483648 ≤ r) (h1 : r ≤ 2147483647) :
    Calls Try.prog 17 #[v, .int .i32 r] w fun e w' => ∃ v', e = .returned v' ∧ Bytes w' v' (xs ++ encP r) ∧ Ext w w' := by
  obtain ⟨r1, hs1, he1, hr1⟩ : ∃ r1, sound r1 = true ∧ encP r = enc r1 ∧ ((sound r = true ∧ r1 = r) ∨ (sound r = false ∧ r1 = 65533)) := by
    by_cases h : sound r = true
    · exact ⟨r, h, by rw [encP, if_pos h], .inl ⟨h, rfl⟩⟩
    · exact ⟨65533, by decide, by rw [encP, if_neg h], .inr ⟨by simpa using h, rfl⟩⟩
  have hsb := sound_iff r1 |>.1 hs1
  have hb0 : 0 ≤ r1 := by omega
  have hb1 : r1 ≤ 1114111 := by omega
  have hp := enc_pos r1
  have hp4 : (enc r1).length ≤ 4 := hp.2
  have HE1 := Lib.hid he1
  clear hsb hp he1
  have hx0 := hx
  obtain ⟨a, ca, rfl, hxc, hxm, hxl, hxat⟩ := hx0
  clear hxat
  have hB0 := ownB_new w #[] 5 [] rfl 0 rfl (by omega)
  have hx3 := hx.ext ((ext_refl w).alloc (Nat.le_refl _) (.cells #[] 5))
  go_enter Try.func17, Try.ntmps17
  go_wp2_with fail
  refine (valid_any _ _).mono ?_
  rintro e w1 ⟨rfl, rfl⟩
  rcases hr1 with ⟨hs, rfl⟩ | ⟨hs, rfl⟩
  all_goals
    clear hs1
    go_wp2_with (first
      | (at_builtin; refine wpList_append_bytes rfl _ _ rfl w.heap.size _ [] rfl hB0 _ xs rfl hx3 (by simp only [List.length_nil]; omega) (by simp) ?_; intro a5 c5 w5 hown5 hw5; rw [List.nil_append, List.length_nil, Nat.zero_add] at hown5; have hs5 : w.heap.size ≤ w5.heap.size := (by have := hw5.size; simp at this; omega); have hE5 : Ext w w5 := ((Below.refl w.heap.size w).alloc (Nat.le_refl _) _).trans hw5)
      | (go_at_call 33; refine (bytes_any _ _ hb0 hb1).mono ?_; rintro e w6 ⟨⟨v6, rfl, hb6⟩, hw6⟩; (have hb6x := hb6; obtain ⟨a6, c6, rfl, _⟩ := hb6x); have hown6 := OwnB.ext hown5 hw6; have hs6 : w.heap.size ≤ w6.heap.size := (by have := hw6.size; omega); have hl6 := Nat.le_trans (Nat.add_le_add_left hp4 xs.length) (show xs.length + 4 ≤ 140737488355328 by omega))
      | (at_builtin; refine wpList_append_bytes rfl _ _ rfl w.heap.size _ xs rfl hown6 _ _ rfl hb6 hl6 hs6 ?_; intro a7 c7 w7 hown7 hw7))
    go_ret
    refine ⟨_, rfl, ?_, hE5.trans ((hw6.mono hs5).trans hw7)⟩
    have := hown7.bytes (by rw [List.length_append]; exact hl6)
    rw [HE1.out]
    simpa using this

theorem drop_cons {xs : List UInt8} {i : Nat} (h : i < xs.length) : ∃ x t, xs.drop i = x :: t := by
  cases h' : xs.drop i with
  | nil => simp at h'; omega
  | cons x t => exact ⟨x, t, rfl⟩

set_option maxHeartbeats 800000 in
theorem refcheck_any (v : Value) (xs : List UInt8) (w : World) (hx : Bytes w v xs) :
    Calls Try.prog 22 #[v] w fun e w' => e = .returned (.int .i64 (check xs)) ∧ Ext w w' := by
  obtain ⟨a, cap, rfl, hcap, hcm, hl, hat⟩ := hx
  go_enter Try.func22, Try.ntmps22
  go_wp2_with fail
  go_loopw [3] (fun iv wr => ∃ i : Nat, i ≤ xs.length ∧ iv = .int .i64 i ∧ Ext w wr ∧ check xs = checkL (xs.drop i) i) (fun iv _ => xs.length - (intOf iv).toNat)
  case atStart => exact ⟨0, by omega, rfl, ext_refl _, rfl⟩
  case round =>
    obtain ⟨i, hi, rfl, hb, hc⟩ := hrel
    have HC := Lib.hid hc
    clear hc
    by_cases hlt : i < xs.length
    · obtain ⟨b, o, rfl, hbl, _⟩ := hat (by omega)
      have hbs : Bytes wr (.slice (some ⟨b, o + i, none⟩) (xs.length - i) (cap - i)) (xs.drop i) := Bytes.mk ((hat.ext hb).drop i) (by simp) (by omega) (by omega) (by omega)
      obtain ⟨x, t, hxt⟩ := drop_cons hlt
      have hcl := checkL_cons x t i
      have hle := next_le (xs.drop i)
      rw [← hxt] at hcl
      have hlen : (xs.drop i).length = xs.length - i := by simp
      rw [hlen] at hle
      have HCL := Lib.hid hcl
      clear hcl hxt hlen
      by_cases hz : (next (xs.drop i)).2 = 0
      · go_wp2_with (go_at_call 20; refine (refnext_any _ _ _ hbs).mono ?_; rintro e w' ⟨rfl, hb1⟩)
        go_ret
        exact ⟨ret_int (by rw [HC.out, HCL.out, if_pos hz]), ext_trans hb hb1⟩
      · have hz1 : ((((next (xs.drop i)).2 : Nat) : Int) == 0) = false := by simp; omega
        go_wp2_with (go_at_call 20; refine (refnext_any _ _ _ hbs).mono ?_; rintro e w' ⟨rfl, hb1⟩)
        go_roundw
        case rel => exact ⟨i + (next (xs.drop i)).2, by omega, by go_num, ext_trans hb hb1, by rw [HC.out, HCL.out, if_neg hz, List.drop_drop]; rfl⟩
        case measure => simp [intOf]; omega
    · obtain rfl : i = xs.length := by omega
      go_wp2_with fail
      go_ret
      exact ⟨ret_int (by rw [HC.out, List.drop_length, checkL_nil]), hb⟩

set_option maxHeartbeats 800000 in
theorem refcount_any (s : ByteArray) (w : World) (hl : s.size ≤ 140737488355328) :
    Calls Try.prog 23 #[.string s] w fun e w' => e = .returned (.int .i64 (marks s.data.toList).length) ∧ Ext w w' := by
  go_enter Try.func23, Try.ntmps23
  go_wp2_with (refine wpList_bytes_of_string _ rfl 9 22 5 _ rfl s rfl Try.underlying9 Try.underlying22 Try.underlying5 hl ?_; intro cap w1 hE1 hcap hcm hsz1 hat)
  have hL : s.data.toList.length = s.size := Array.length_toList
  obtain ⟨L, hLe⟩ : ∃ L, s.data.toList = L := ⟨_, rfl⟩
  rw [hLe] at hat hL
  have HLE := Lib.hid hLe
  clear hLe
  have hbl : w.heap.size < w1.heap.size := by omega
  clear hsz1
  go_loopw [4, 5] (fun kv iv wr => ∃ (i k : Nat), i ≤ s.size ∧ k ≤ i ∧ iv = .int .i64 i ∧ kv = .int .i64 k ∧ Ext w1 wr ∧ (marks L).length = k + (marks (L.drop i)).length) (fun _ iv _ => s.size - (intOf iv).toNat)
  case atStart => exact ⟨0, 0, by omega, by omega, rfl, rfl, ext_refl _, by simp⟩
  case round =>
    obtain ⟨i, k, hi, hk, rfl, rfl, hb, hc⟩ := hrel
    have HC := Lib.hid hc
    clear hc
    by_cases hlt : i < s.size
    · have hbs : Bytes wr (.slice (some ⟨w.heap.size, i, none⟩) (s.size - i) (cap - i)) (L.drop i) := by
        have := (hat.ext hb).drop i
        rw [Nat.zero_add] at this
        exact Bytes.mk this (by simp [hL]) (by omega) (by omega) (by omega)
      obtain ⟨x, t, hxt⟩ := drop_cons (show i < L.length by omega)
      have hcl := marks_cons x t
      have hle := next_le (L.drop i)
      rw [← hxt] at hcl
      have hlen : (L.drop i).length = s.size - i := by simp [hL]
      rw [hlen] at hle
      have had : adv (L.drop i) = if (next (L.drop i)).2 = 0 then 1 else (next (L.drop i)).2 := rfl
      have HCL := Lib.hid hcl
      have HAD := Lib.hid had
      clear hcl hxt hlen had
      by_cases hz : (next (L.drop i)).2 = 0
      · go_wp2_with (go_at_call 20; refine (refnext_any _ _ _ hbs).mono ?_; rintro e w' ⟨rfl, hb1⟩)
        go_roundw
        case rel => exact ⟨i + 1, k + 1, by omega, by omega, congrArg (Value.int .i64) (by omega), by go_num, ext_trans hb hb1, by rw [HC.out, HCL.out, HAD.out, if_pos hz, List.drop_drop, List.length_cons]; omega⟩
        case measure => simp [intOf]; omega
      · go_wp2_with (go_at_call 20; refine (refnext_any _ _ _ hbs).mono ?_; rintro e w' ⟨rfl, hb1⟩)
        go_roundw
        case rel => exact ⟨i + (next (L.drop i)).2, k + 1, by omega, by omega, congrArg (Value.int .i64) (by omega), by go_num, ext_trans hb hb1, by rw [HC.out, HCL.out, HAD.out, if_neg hz, List.drop_drop, List.length_cons]; omega⟩
        case measure => simp [intOf]; omega
    · obtain rfl : i = s.size := by omega
      go_wp2_with fail
      go_ret
      have := HC.out
      rw [List.drop_eq_nil_of_le (by omega), marks_nil] at this
      exact ⟨ret_int (by rw [HLE.out, this]; simp), hE1.trans (hb.mono hE1.size)⟩

def cells64 (xs : List Int) : List Value := xs.map fun r => Value.int .i64 r
@[simp] theorem cells64_length (xs : List Int) : (cells64 xs).length = xs.length := by simp [cells64]
theorem info64 : (Try.prog.info? 3).map (fun i => (i.zero, i.size, i.bytes)) = some (some (.int .i64 0), 1, 8) := by kernel_rfl
theorem cell0_of {w : World} {b o n cap : Nat} {xs t : List UInt8} {x : UInt8} (h : Bytes w (.slice (some ⟨b, o, none⟩) n cap) xs) (e : xs = x :: t) : w.cell? ⟨b, o, none⟩ = some (.int .u8 x.toNat) := by
  subst e
  obtain ⟨a', c', e1, _, _, _, h4⟩ := h
  simp only [Value.slice.injEq] at e1
  obtain ⟨rfl, _, rfl⟩ := e1
  obtain ⟨b', o', e, hlt, hc⟩ := h4 (by simp)
  simp only [Option.some.injEq, Addr.mk.injEq, and_true] at e
  obtain ⟨rfl, rfl⟩ := e
  have := hc 0 (by simp)
  simpa using this

set_option maxHeartbeats 1600000 in
theorem refmarks_any (s : ByteArray) (w : World) (hl : s.size ≤ 17592186044416) :
    Calls Try.prog 34 #[.string s] w fun e w' => (∃ a c, e = .returned (.slice a (marks s.data.toList).length c) ∧ Row w' (.slice a (marks s.data.toList).length c) (cells64 (marks s.data.toList))) ∧ Ext w w' := by
  go_enter Try.func34, Try.ntmps34
  go_wp2_with (refine wpList_bytes_of_string _ rfl 9 22 5 _ rfl s rfl Try.underlying9 Try.underlying22 Try.underlying5 (by omega) ?_; intro cap w1 hE1 hcap hcm hsz1 hat)
  have hL : s.data.toList.length = s.size := Array.length_toList
  obtain ⟨L, hLe⟩ : ∃ L, s.data.toList = L := ⟨_, rfl⟩
  rw [hLe] at hat hL
  have HLE := Lib.hid hLe
  clear hLe
  have hbl : w.heap.size < w1.heap.size := by omega
  clear hsz1
  go_loopw [4, 5] (fun v iv wr => ∃ (i : Nat) (done : List Int), i ≤ s.size ∧ done.length ≤ i ∧ iv = .int .i64 i ∧ OwnV wr w1.heap.size 3 v (cells64 done) ∧ Ext w1 wr ∧ marks L = done ++ marks (L.drop i)) (fun _ iv _ => s.size - (intOf iv).toNat)
  case atStart => exact ⟨0, [], by omega, by simp, rfl, OwnV.nil _ _ _, ext_refl _, rfl⟩
  case round =>
    obtain ⟨i, done, hi, hdl, rfl, hown, hb, hc⟩ := hrel
    have HC := Lib.hid hc
    clear hc
    by_cases hlt : i < s.size
    · have hbs : Bytes wr (.slice (some ⟨w.heap.size, i, none⟩) (s.size - i) (cap - i)) (L.drop i) := by
        have := (hat.ext hb).drop i
        rw [Nat.zero_add] at this
        exact Bytes.mk this (by simp [hL]) (by omega) (by omega) (by omega)
      obtain ⟨x, t, hxt⟩ := drop_cons (show i < L.length by omega)
      have hcl := marks_cons x t
      have hmk : Orange.mark (L.drop i) = if (next (L.drop i)).2 = 0 then 2097152 + (x.toNat : Int) else (next (L.drop i)).1 := by rw [hxt]; rfl
      have hle := next_le (L.drop i)
      have hbd := next_bd (L.drop i)
      rw [← hxt] at hcl
      have hlen : (L.drop i).length = s.size - i := by simp [hL]
      rw [hlen] at hle
      have had : adv (L.drop i) = if (next (L.drop i)).2 = 0 then 1 else (next (L.drop i)).2 := rfl
      have hc0 := cell0_of hbs hxt
      have hx8 : x.toNat < 256 := x.toNat_lt
      have HCL := Lib.hid hcl
      have HAD := Lib.hid had
      have HMK := Lib.hid hmk
      have HXT := Lib.hid hxt
      clear hcl hxt hlen had hmk
      obtain ⟨i0, hi0, hz0, hz1, hz2⟩ := info_parts info64
      by_cases hz : (next (L.drop i)).2 = 0
      · go_wp2_with (first
          | (go_at_call 20; refine (refnext_any _ _ _ hbs).mono ?_; rintro e w' ⟨rfl, hb1⟩; have hc1 : w'.cell? ⟨w.heap.size, i, none⟩ = some (.int .u8 x.toNat) := cell0_of (hbs.ext hb1) HXT.out; have hown1 := OwnV.ext (OwnV.ext hown hb1) ((ext_refl w').alloc (Nat.le_refl _) (.cells #[.int .i64 (2097152 + (x.toNat : Int))] 3)); have hs1 : w1.heap.size ≤ (w'.alloc (.cells #[.int .i64 (2097152 + (x.toNat : Int))] 3)).heap.size := (by have := hb.size; have := hb1.size; simp; omega))
          | (at_builtin; refine wpList_append_one rfl _ _ 35 35 rfl w1.heap.size 3 i0 (.int .i64 0) 8 Try.underlying35 hi0 hz0 hz1 hz2 rfl ⟨_, Try.underlying35⟩ _ _ rfl hown1 w'.heap.size (.int .i64 (2097152 + (x.toNat : Int))) 3 (0, 0) rfl (heap_alloc_new _ _) rfl (by rw [cells64_length]; omega) (by rw [cells64_length]; omega) hs1 ?_; intro a5 c5 w5 hown5 hw5; have hE5 : Ext w1 w5 := (ext_trans hb hb1).trans (((Below.refl w1.heap.size w').alloc (by have := hb.size; have := hb1.size; omega) _).trans hw5)))
        go_roundw
        case rel =>
          refine ⟨i + 1, done ++ [(2097152 + (x.toNat : Int))], by omega, by simp; omega, by go_num, ?_, hE5, ?_⟩
          · have e : cells64 (done ++ [(2097152 + (x.toNat : Int))]) = cells64 done ++ [.int .i64 (2097152 + (x.toNat : Int))] := by simp [cells64]
            rw [e]; rw [cells64_length] at hown5; exact hown5
          · rw [HC.out, HCL.out, HMK.out, HAD.out, if_pos hz, if_pos hz, List.drop_drop]; simp
        case measure => simp [intOf]; omega
      · go_wp2_with (first
          | (go_at_call 20; refine (refnext_any _ _ _ hbs).mono ?_; rintro e w' ⟨rfl, hb1⟩; have hown1 := OwnV.ext (OwnV.ext hown hb1) ((ext_refl w').alloc (Nat.le_refl _) (.cells #[.int .i64 (next (L.drop i)).1] 3)); have hs1 : w1.heap.size ≤ (w'.alloc (.cells #[.int .i64 (next (L.drop i)).1] 3)).heap.size := (by have := hb.size; have := hb1.size; simp; omega))
          | (at_builtin; refine wpList_append_one rfl _ _ 35 35 rfl w1.heap.size 3 i0 (.int .i64 0) 8 Try.underlying35 hi0 hz0 hz1 hz2 rfl ⟨_, Try.underlying35⟩ _ _ rfl hown1 w'.heap.size (.int .i64 (next (L.drop i)).1) 3 (0, 0) rfl (heap_alloc_new _ _) rfl (by rw [cells64_length]; omega) (by rw [cells64_length]; omega) hs1 ?_; intro a5 c5 w5 hown5 hw5; have hE5 : Ext w1 w5 := (ext_trans hb hb1).trans (((Below.refl w1.heap.size w').alloc (by have := hb.size; have := hb1.size; omega) _).trans hw5)))
        go_roundw
        case rel =>
          refine ⟨i + (next (L.drop i)).2, done ++ [(next (L.drop i)).1], by omega, by simp; omega, by go_num, ?_, hE5, ?_⟩
          · have e : cells64 (done ++ [(next (L.drop i)).1]) = cells64 done ++ [.int .i64 (next (L.drop i)).1] := by simp [cells64]
            rw [e]; rw [cells64_length] at hown5; exact hown5
          · rw [HC.out, HCL.out, HMK.out, HAD.out, if_neg hz, if_neg hz, List.drop_drop]; simp
        case measure => simp [intOf]; omega
    · obtain rfl : i = s.size := by omega
      have hm := HC.out
      rw [List.drop_eq_nil_of_le (by omega), marks_nil, List.append_nil] at hm
      obtain ⟨a9, c9, rfl⟩ := hown.shape
      have hrow := hown.row
      have HM := Lib.hid hm
      clear hm
      go_wp2_with fail
      go_ret
      rw [HLE.out, HM.out]
      simp only [cells64_length] at hrow ⊢
      exact ⟨⟨a9, c9, rfl, hrow⟩, hE1.trans (hb.mono hE1.size)⟩
end Go.Proofs.Ytikhdnpokhldeaa
