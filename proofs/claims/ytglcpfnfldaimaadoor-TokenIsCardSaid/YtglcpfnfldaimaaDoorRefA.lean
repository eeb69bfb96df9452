/- orangeryref01: what valid, bytes and begins do. -/
import Derived.Test.YtglcpfnfldaimaaDoorApp
import Derived.Test.YtglcpfnfldaimaaDoorUtfR
import Derived.IntWalk
set_option linter.unusedVariables false
set_option maxRecDepth 100000
set_option linter.unusedSimpArgs false
namespace Go.Proofs.YtglcpfnfldaimaaDoor
open Go.RowKit Go.Mem Orange

set_option maxHeartbeats 400000 in
theorem valid_any (r : Int) (w : World) :
    Calls Tryd.prog 71 #[.int .i64 r] w fun e w' => e = .returned (.bool (sound r)) ∧ w = w' := by
  by_cases h1 : 0 ≤ r
  · by_cases h2 : r < 55296
    · have hf : sound r = true := by rw [sound_iff]; omega
      go_enter Tryd.func71, Tryd.ntmps71
      go_wp2
      go_ret
      first | exact ⟨rfl, rfl⟩ | exact ⟨ret_bool (by rw [hf]), rfl⟩
    · by_cases h3 : 57343 < r
      · go_enter Tryd.func71, Tryd.ntmps71
        go_wp2
        go_ret
        refine ⟨ret_bool ?_, rfl⟩
        rw [Bool.eq_iff_iff, sound_iff]; simp; omega
      · have hf : sound r = false := by rw [Bool.eq_false_iff, ne_eq, sound_iff]; omega
        go_enter Tryd.func71, Tryd.ntmps71
        go_wp2
        go_ret
        first | exact ⟨rfl, rfl⟩ | exact ⟨ret_bool (by rw [hf]), rfl⟩
  · have hf : sound r = false := by rw [Bool.eq_false_iff, ne_eq, sound_iff]; omega
    have h3 : ¬ 57343 < r := by omega
    go_enter Tryd.func71, Tryd.ntmps71
    go_wp2
    go_ret
    first | exact ⟨rfl, rfl⟩ | exact ⟨ret_bool (by rw [hf]), rfl⟩

set_option maxHeartbeats 800000 in
theorem bytes_any (r : Int) (w : World) (h0 : 0 ≤ r) (h1 : r ≤ 1114111) :
    Calls Tryd.prog 73 #[.int .i64 r] w fun e w' => (∃ v, e = .returned v ∧ Bytes w' v (enc r)) ∧ Ext w w' := by
  by_cases h2 : r < 128
  · have he : enc r = [byte r] := by rw [enc, if_pos h2]
    go_enter Tryd.func73, Tryd.ntmps73
    go_wp2_with fail
    go_ret
    refine ⟨⟨_, rfl, ?_⟩, (ext_refl w).alloc (Nat.le_refl _) _⟩
    refine bytes_new _ _ _ _ ?_ _ ?_ (by omega)
    · (try rw [he]); simp only [cells8, List.map_cons, List.map_nil, byte_int (n := r) (by omega) (by omega)]
    · (try rw [he]); rfl
  · by_cases h3 : r < 2048
    · have he : enc r = [byte (192 + r / 64), byte (128 + r % 64)] := by rw [enc, if_neg h2, if_pos h3]
      go_enter Tryd.func73, Tryd.ntmps73
      go_wp2_with fail
      go_ret
      refine ⟨⟨_, rfl, ?_⟩, (ext_refl w).alloc (Nat.le_refl _) _⟩
      refine bytes_new _ _ _ _ ?_ _ ?_ (by omega)
      · (try rw [he]); simp only [cells8, List.map_cons, List.map_nil, byte_int (n := 192 + r / 64) (by omega) (by omega), byte_int (n := 128 + r % 64) (by omega) (by omega)]
      · (try rw [he]); rfl
    · by_cases h4 : r < 65536
      · have he : enc r = [byte (224 + r / 4096), byte (128 + r / 64 % 64), byte (128 + r % 64)] := by rw [enc, if_neg h2, if_neg h3, if_pos h4]
        go_enter Tryd.func73, Tryd.ntmps73
        go_wp2_with fail
        go_ret
        refine ⟨⟨_, rfl, ?_⟩, (ext_refl w).alloc (Nat.le_refl _) _⟩
        refine bytes_new _ _ _ _ ?_ _ ?_ (by omega)
        · (try rw [he]); simp only [cells8, List.map_cons, List.map_nil, byte_int (n := 224 + r / 4096) (by omega) (by omega), byte_int (n := 128 + r / 64 % 64) (by omega) (by omega), byte_int (n := 128 + r % 64) (by omega) (by omega)]
        · (try rw [he]); rfl
      · have he : enc r = [byte (240 + r / 262144), byte (128 + r / 4096 % 64), byte (128 + r / 64 % 64), byte (128 + r % 64)] := by rw [enc, if_neg h2, if_neg h3, if_neg h4]
        go_enter Tryd.func73, Tryd.ntmps73
        go_wp2_with fail
        go_ret
        refine ⟨⟨_, rfl, ?_⟩, (ext_refl w).alloc (Nat.le_refl _) _⟩
        refine bytes_new _ _ _ _ ?_ _ ?_ (by omega)
        · (try rw [he]); simp only [cells8, List.map_cons, List.map_nil, byte_int (n := 240 + r / 262144) (by omega) (by omega), byte_int (n := 128 + r / 4096 % 64) (by omega) (by omega), byte_int (n := 128 + r / 64 % 64) (by omega) (by omega), byte_int (n := 128 + r % 64) (by omega) (by omega)]
        · (try rw [he]); rfl

set_option maxHeartbeats 1600000 in
theorem begins_any (v : Value) (xs : List UInt8) (u : Value) (ys : List UInt8) (w : World) (hx : Bytes w v xs) (hy : Bytes w u ys) :
    Calls Tryd.prog 72 #[v, u] w fun e w' => e = .returned (.bool (begins xs ys)) ∧ Ext w w' := by
  obtain ⟨a, ca, rfl, hxc, hxm, hxl, hxat⟩ := hx
  obtain ⟨b, cb, rfl, hyc, hym, hyl, hyat⟩ := hy
  by_cases hlen : xs.length < ys.length
  · have hb : begins xs ys = false := by
      rw [Bool.eq_false_iff, ne_eq, begins_iff]; rintro ⟨t, rfl⟩; simp at hlen; omega
    have hd : decide (xs.length < ys.length) = true := by simpa using hlen
    go_enter Tryd.func72, Tryd.ntmps72
    go_wp2_with fail
    go_ret
    exact ⟨by first | rfl | exact ret_bool hb.symm, ext_refl w⟩
  · have hd : decide (xs.length < ys.length) = false := by simpa using hlen
    have HX : Hid (BytesAt w a xs) := Lib.hid hxat
    have HY : Hid (BytesAt w b ys) := Lib.hid hyat
    clear hxat hyat
    go_enter Tryd.func72, Tryd.ntmps72
    go_wp2_with fail
    go_loopw [5] (fun kv wr => ∃ k n : Nat, kv = .int .i64 k ∧ k ≤ ys.length ∧ wr = w.drewN n ∧ xs.take k = ys.take k) (fun kv _ => ys.length - (intOf kv).toNat)
    case atStart => exact ⟨0, 0, rfl, by omega, rfl, rfl⟩
    case round =>
      obtain ⟨k, n, rfl, hk, rfl, hr⟩ := hrel
      have HR := Lib.hid hr
      clear hr
      by_cases hlt : k < ys.length
      · obtain ⟨b1, o1, rfl, hl1, hc1⟩ := HX.out (by omega)
        obtain ⟨b2, o2, rfl, hl2, hc2⟩ := HY.out (by omega)
        have hkx : k < xs.length := by omega
        have hx1 := hc1 k hkx
        have hx2 := hc2 k hlt
        have hs1 : xs.take (k + 1) = xs.take k ++ [xs[k]] := List.take_succ_eq_append_getElem hkx
        have hs2 : ys.take (k + 1) = ys.take k ++ [ys[k]] := List.take_succ_eq_append_getElem hlt
        clear hc1 hc2 
        by_cases hxy : xs[k] = ys[k]
        · have hst : Hid (xs.take (k + 1) = ys.take (k + 1)) := Lib.hid (by rw [hs1, hs2, HR.out, hxy])
          clear hs1 hs2
          have hb : ((xs[k].toNat : Int) != ys[k].toNat) = false := by simp [hxy]
          generalize xs[k] = x at hx1 hb
          generalize ys[k] = y at hx2 hb
          clear hxy
          go_wp2_with fail
          go_quiet (fail)
          go_wp2_with fail
          go_roundw
          case rel => exact ⟨k + 1, _, by go_num, by omega, rfl, hst.out⟩
          case measure => simp [intOf]; omega
        · have hne : (xs[k].toNat : Int) ≠ ys[k].toNat := fun e => hxy (UInt8.toNat_inj.1 (by omega))
          have hb : ((xs[k].toNat : Int) != ys[k].toNat) = true := by simpa using hne
          have hbf : Hid (begins xs ys = false) := by
            refine Lib.hid ?_
            rw [Bool.eq_false_iff, ne_eq, begins_iff]
            rintro ⟨t, ht⟩
            refine hxy ?_
            simp only [ht, List.getElem_append_left hlt]
          clear hs1 hs2 hne
          generalize xs[k] = x at hx1 hb
          generalize ys[k] = y at hx2 hb
          clear hxy
          go_wp2_with fail
          go_quiet (fail)
          go_wp2_with fail
          go_ret
          exact ⟨by first | rfl | exact ret_bool hbf.out.symm, below_drewN (below_drewN (ext_refl w) _) _⟩
      · obtain rfl : k = ys.length := by omega
        have hbt : Hid (begins xs ys = true) := Lib.hid (by simp only [begins, decide_eq_true_eq]; rw [HR.out, List.take_length])
        go_wp2_with fail
        go_ret
        exact ⟨by first | rfl | exact ret_bool hbt.out.symm, below_drewN (ext_refl w) _⟩
end Go.Proofs.YtglcpfnfldaimaaDoor
