/- orangeryref01: what Next does. -/
import Derived.Test.YtglcpfnfldaimaaDoorRefA
set_option linter.unusedVariables false
set_option maxRecDepth 100000
set_option linter.unusedSimpArgs false
namespace Go.Proofs.YtglcpfnfldaimaaDoor
open Go.RowKit Go.Mem Orange

theorem refnext_nil (a : Option Addr) (cap : Nat) (w : World) :
    Calls Tryd.prog 47 #[.slice a 0 cap] w fun e w' => e = .returned (.tuple #[.int .i32 0, .int .i64 0]) ∧ Ext w w' := by
  go_enter Tryd.func47, Tryd.ntmps47
  go_wp2_with fail
  go_ret2
  exact ⟨rfl, ext_refl w⟩

theorem next_ref {xs : List UInt8} {x : UInt8} {n : Nat} {r : Int} (h0 : xs[0]? = some x) (hk : kind x = n) (hr : fold6 ((xs.take n).drop 1) (lead0 x) = r) :
    next xs = if sound r = true ∧ begins xs (enc r) = true ∧ (enc r).length = n then (r, n) else (0, 0) := by
  split
  · rename_i h; exact next_yes h.1 h.2.1 h.2.2
  · rename_i h
    cases xs with
    | nil => simp at h0
    | cons y t =>
      obtain rfl : y = x := by simpa using h0
      subst hk
      exact next_no hr h
theorem next_few {xs : List UInt8} {x : UInt8} {n : Nat} (h0 : xs[0]? = some x) (hk : kind x = n) (h : xs.length < n) : next xs = (0, 0) := by
  cases xs with
  | nil => rfl
  | cons y t =>
    obtain rfl : y = x := by simpa using h0
    exact next_short (by rw [hk]; simpa using h)
theorem pow_next {r c : Int} {i : Nat} (h : r < 256 * 64 ^ i) (hc : c < 64) : r * 64 + c < 256 * 64 ^ (i + 1) := r_next h hc
theorem pow_small {r : Int} {i : Nat} (h : r < 256 * 64 ^ i) (hi : i ≤ 3) : r < 67108864 := by
  have : i = 0 ∨ i = 1 ∨ i = 2 ∨ i = 3 := by omega
  rcases this with rfl | rfl | rfl | rfl <;> simp at h <;> omega

set_option maxHeartbeats 3200000 in
set_option maxRecDepth 100000 in
theorem refnext_any (v : Value) (xs : List UInt8) (w : World) (hx : Bytes w v xs) :
    Calls Tryd.prog 47 #[v] w fun e w' => e = .returned (.tuple #[.int .i32 (next xs).1, .int .i64 (next xs).2]) ∧ Ext w w' := by
  have hx0 := hx
  obtain ⟨a, cap, rfl, hxc, hxm, hxl, hat⟩ := hx0
  by_cases hn0 : xs.length = 0
  · obtain rfl := List.eq_nil_of_length_eq_zero hn0
    exact refnext_nil a cap w
  have hpos : 0 < xs.length := by omega
  obtain ⟨b, o, rfl, hbl, hc⟩ := hat hpos
  have hc0 := hc 0 hpos
  have h0 : xs[0]? = some xs[0] := by simp [hpos]
  have hx8 : xs[0].toNat < 256 := xs[0].toNat_lt
  rw [Nat.add_zero] at hc0
  generalize xs[0] = x at hc0 h0 hx8
  have H0 := Lib.hid h0
  have HC := Lib.hid hc
  have HX := Lib.hid hx
  clear h0 hc hat hx hn0
  by_cases h240 : 240 ≤ x.toNat
  · have hk : kind x = 4 := by rw [kind, if_pos h240]
    have hl : lead0 x = (x.toNat : Int) % 8 := by rw [lead0, if_pos h240]
    have HK := Lib.hid hk
    have HL := Lib.hid hl
    clear hk hl
    by_cases hlen : xs.length < 4
    · first
      | (exfalso; omega)
      | (have hz : Hid (next xs = (0, 0)) := Lib.hid (next_few H0.out HK.out hlen)
         go_enter Tryd.func47, Tryd.ntmps47
         go_wp2_with fail
         go_ret2
         refine ⟨?_, ext_refl w⟩
         rw [hz.out]; rfl)
    · have hd : decide ((xs.length : Int) < 4) = false := by simp; omega
      go_enter Tryd.func47, Tryd.ntmps47
      go_wp2_with fail
      go_loop [4, 6] (fun rv iv => ∃ (k : Nat) (r : Int), k + 1 ≤ 4 ∧ iv = .int .i64 (k + 1 : Nat) ∧ rv = .int .i64 r ∧ 0 ≤ r ∧ r < 256 * 64 ^ k ∧ fold6 ((xs.take 4).drop 1) ((x.toNat : Int) % 8) = fold6 ((xs.take 4).drop (k + 1)) r) (fun _ iv => 5 - (intOf iv).toNat)
      case atStart => exact ⟨0, (x.toNat : Int) % 8, by omega, rfl, rfl, by omega, by omega, rfl⟩
      case round =>
        obtain ⟨k, r, hk, rfl, rfl, hr0, hrh, hf⟩ := hrel
        have HF := Lib.hid hf
        have HRH := Lib.hid hrh
        clear hf hrh
        by_cases hlt : k + 1 < 4
        · first
          | (exfalso; omega)
          | (have hkx : k + 1 < xs.length := by omega
             have hck := HC.out (k + 1) hkx
             have hr2 : r < 67108864 := pow_small HRH.out (by omega)
             have hstep := fold6_at xs 4 (k + 1) r hlt hkx
             have hc8 : xs[k + 1].toNat < 256 := xs[k + 1].toNat_lt
             generalize xs[k + 1] = c at hck hstep hc8
             have HS := Lib.hid hstep
             clear hstep
             go_wp2_with fail
             go_round
             case rel => exact ⟨k + 1, r * 64 + (c.toNat : Int) % 64, by omega, by go_num, rfl, by omega, pow_next HRH.out (by omega), by rw [HF.out, HS.out]⟩
             case measure => simp [intOf]; omega)
        · obtain rfl : k = 4 - 1 := by omega
          have hr2 : r < 67108864 := pow_small HRH.out (by omega)
          have hfin : Hid (next xs = if sound r = true ∧ begins xs (enc r) = true ∧ (enc r).length = 4 then (r, 4) else (0, 0)) :=
            Lib.hid (next_ref H0.out HK.out (by rw [HL.out]; exact HF.out.trans (fold6_end xs 4 r)))
          by_cases hs : sound r = true
          · have hsb := sound_iff r |>.1 hs
            have hr3 : r ≤ 1114111 := by omega
            have HSB := Lib.hid hsb
            clear hsb
            go_wp2_with fail
            refine (valid_any _ _).mono ?_
            rintro e w1 ⟨rfl, rfl⟩
            go_wp2_with fail
            refine (bytes_any _ _ hr0 hr3).mono ?_
            rintro e w2 ⟨⟨v2, rfl, hb2⟩, hw2⟩
            go_wp2_with fail
            refine (begins_any _ xs _ _ _ (HX.out.ext hw2) hb2).mono ?_
            rintro e w3 ⟨rfl, hw3⟩
            by_cases hbg : begins xs (enc r) = true
            · go_wp2_with fail
              refine (bytes_any _ _ hr0 hr3).mono ?_
              rintro e w4 ⟨⟨v4, rfl, hb4⟩, hw4⟩
              obtain ⟨a4, c4, rfl, _⟩ := hb4
              have hE := ext_trans hw2 (ext_trans hw3 hw4)
              by_cases hen : (enc r).length = 4
              · rw [hen]
                go_wp2_with fail
                go_ret2
                refine ⟨?_, hE⟩
                rw [hfin.out, if_pos ⟨hs, hbg, hen⟩]; rfl
              · have hd1 : (((enc r).length : Int) != 4) = true := by simp; omega
                go_wp2_with fail
                go_ret2
                refine ⟨?_, hE⟩
                rw [hfin.out, if_neg (fun h => hen h.2.2)]; rfl
            · have hbf : begins xs (enc r) = false := by simpa using hbg
              go_wp2_with fail
              go_ret2
              refine ⟨?_, ext_trans hw2 hw3⟩
              rw [hfin.out, if_neg (fun h => hbg h.2.1)]; rfl
          · have hs : sound r = false := by simpa using hs
            go_wp2_with fail
            refine (valid_any _ _).mono ?_
            rintro e w1 ⟨rfl, rfl⟩
            go_wp2_with fail
            go_ret2
            refine ⟨?_, ext_refl _⟩
            rw [hfin.out, if_neg (fun h => by rw [hs] at h; simp at h)]; rfl
  · by_cases h224 : 224 ≤ x.toNat
    · have hk : kind x = 3 := by rw [kind, if_neg h240, if_pos h224]
      have hl : lead0 x = (x.toNat : Int) % 16 := by rw [lead0, if_neg h240, if_pos h224]
      have HK := Lib.hid hk
      have HL := Lib.hid hl
      clear hk hl
      by_cases hlen : xs.length < 3
      · first
        | (exfalso; omega)
        | (have hz : Hid (next xs = (0, 0)) := Lib.hid (next_few H0.out HK.out hlen)
           go_enter Tryd.func47, Tryd.ntmps47
           go_wp2_with fail
           go_ret2
           refine ⟨?_, ext_refl w⟩
           rw [hz.out]; rfl)
      · have hd : decide ((xs.length : Int) < 3) = false := by simp; omega
        go_enter Tryd.func47, Tryd.ntmps47
        go_wp2_with fail
        go_loop [4, 6] (fun rv iv => ∃ (k : Nat) (r : Int), k + 1 ≤ 3 ∧ iv = .int .i64 (k + 1 : Nat) ∧ rv = .int .i64 r ∧ 0 ≤ r ∧ r < 256 * 64 ^ k ∧ fold6 ((xs.take 3).drop 1) ((x.toNat : Int) % 16) = fold6 ((xs.take 3).drop (k + 1)) r) (fun _ iv => 5 - (intOf iv).toNat)
        case atStart => exact ⟨0, (x.toNat : Int) % 16, by omega, rfl, rfl, by omega, by omega, rfl⟩
        case round =>
          obtain ⟨k, r, hk, rfl, rfl, hr0, hrh, hf⟩ := hrel
          have HF := Lib.hid hf
          have HRH := Lib.hid hrh
          clear hf hrh
          by_cases hlt : k + 1 < 3
          · first
            | (exfalso; omega)
            | (have hkx : k + 1 < xs.length := by omega
               have hck := HC.out (k + 1) hkx
               have hr2 : r < 67108864 := pow_small HRH.out (by omega)
               have hstep := fold6_at xs 3 (k + 1) r hlt hkx
               have hc8 : xs[k + 1].toNat < 256 := xs[k + 1].toNat_lt
               generalize xs[k + 1] = c at hck hstep hc8
               have HS := Lib.hid hstep
               clear hstep
               go_wp2_with fail
               go_round
               case rel => exact ⟨k + 1, r * 64 + (c.toNat : Int) % 64, by omega, by go_num, rfl, by omega, pow_next HRH.out (by omega), by rw [HF.out, HS.out]⟩
               case measure => simp [intOf]; omega)
          · obtain rfl : k = 3 - 1 := by omega
            have hr2 : r < 67108864 := pow_small HRH.out (by omega)
            have hfin : Hid (next xs = if sound r = true ∧ begins xs (enc r) = true ∧ (enc r).length = 3 then (r, 3) else (0, 0)) :=
              Lib.hid (next_ref H0.out HK.out (by rw [HL.out]; exact HF.out.trans (fold6_end xs 3 r)))
            by_cases hs : sound r = true
            · have hsb := sound_iff r |>.1 hs
              have hr3 : r ≤ 1114111 := by omega
              have HSB := Lib.hid hsb
              clear hsb
              go_wp2_with fail
              refine (valid_any _ _).mono ?_
              rintro e w1 ⟨rfl, rfl⟩
              go_wp2_with fail
              refine (bytes_any _ _ hr0 hr3).mono ?_
              rintro e w2 ⟨⟨v2, rfl, hb2⟩, hw2⟩
              go_wp2_with fail
              refine (begins_any _ xs _ _ _ (HX.out.ext hw2) hb2).mono ?_
              rintro e w3 ⟨rfl, hw3⟩
              by_cases hbg : begins xs (enc r) = true
              · go_wp2_with fail
                refine (bytes_any _ _ hr0 hr3).mono ?_
                rintro e w4 ⟨⟨v4, rfl, hb4⟩, hw4⟩
                obtain ⟨a4, c4, rfl, _⟩ := hb4
                have hE := ext_trans hw2 (ext_trans hw3 hw4)
                by_cases hen : (enc r).length = 3
                · rw [hen]
                  go_wp2_with fail
                  go_ret2
                  refine ⟨?_, hE⟩
                  rw [hfin.out, if_pos ⟨hs, hbg, hen⟩]; rfl
                · have hd1 : (((enc r).length : Int) != 3) = true := by simp; omega
                  go_wp2_with fail
                  go_ret2
                  refine ⟨?_, hE⟩
                  rw [hfin.out, if_neg (fun h => hen h.2.2)]; rfl
              · have hbf : begins xs (enc r) = false := by simpa using hbg
                go_wp2_with fail
                go_ret2
                refine ⟨?_, ext_trans hw2 hw3⟩
                rw [hfin.out, if_neg (fun h => hbg h.2.1)]; rfl
            · have hs : sound r = false := by simpa using hs
              go_wp2_with fail
              refine (valid_any _ _).mono ?_
              rintro e w1 ⟨rfl, rfl⟩
              go_wp2_with fail
              go_ret2
              refine ⟨?_, ext_refl _⟩
              rw [hfin.out, if_neg (fun h => by rw [hs] at h; simp at h)]; rfl
    · by_cases h192 : 192 ≤ x.toNat
      · have hk : kind x = 2 := by rw [kind, if_neg h240, if_neg h224, if_pos h192]
        have hl : lead0 x = (x.toNat : Int) % 32 := by rw [lead0, if_neg h240, if_neg h224, if_pos h192]
        have HK := Lib.hid hk
        have HL := Lib.hid hl
        clear hk hl
        by_cases hlen : xs.length < 2
        · first
          | (exfalso; omega)
          | (have hz : Hid (next xs = (0, 0)) := Lib.hid (next_few H0.out HK.out hlen)
             go_enter Tryd.func47, Tryd.ntmps47
             go_wp2_with fail
             go_ret2
             refine ⟨?_, ext_refl w⟩
             rw [hz.out]; rfl)
        · have hd : decide ((xs.length : Int) < 2) = false := by simp; omega
          go_enter Tryd.func47, Tryd.ntmps47
          go_wp2_with fail
          go_loop [4, 6] (fun rv iv => ∃ (k : Nat) (r : Int), k + 1 ≤ 2 ∧ iv = .int .i64 (k + 1 : Nat) ∧ rv = .int .i64 r ∧ 0 ≤ r ∧ r < 256 * 64 ^ k ∧ fold6 ((xs.take 2).drop 1) ((x.toNat : Int) % 32) = fold6 ((xs.take 2).drop (k + 1)) r) (fun _ iv => 5 - (intOf iv).toNat)
          case atStart => exact ⟨0, (x.toNat : Int) % 32, by omega, rfl, rfl, by omega, by omega, rfl⟩
          case round =>
            obtain ⟨k, r, hk, rfl, rfl, hr0, hrh, hf⟩ := hrel
            have HF := Lib.hid hf
            have HRH := Lib.hid hrh
            clear hf hrh
            by_cases hlt : k + 1 < 2
            · first
              | (exfalso; omega)
              | (have hkx : k + 1 < xs.length := by omega
                 have hck := HC.out (k + 1) hkx
                 have hr2 : r < 67108864 := pow_small HRH.out (by omega)
                 have hstep := fold6_at xs 2 (k + 1) r hlt hkx
                 have hc8 : xs[k + 1].toNat < 256 := xs[k + 1].toNat_lt
                 generalize xs[k + 1] = c at hck hstep hc8
                 have HS := Lib.hid hstep
                 clear hstep
                 go_wp2_with fail
                 go_round
                 case rel => exact ⟨k + 1, r * 64 + (c.toNat : Int) % 64, by omega, by go_num, rfl, by omega, pow_next HRH.out (by omega), by rw [HF.out, HS.out]⟩
                 case measure => simp [intOf]; omega)
            · obtain rfl : k = 2 - 1 := by omega
              have hr2 : r < 67108864 := pow_small HRH.out (by omega)
              have hfin : Hid (next xs = if sound r = true ∧ begins xs (enc r) = true ∧ (enc r).length = 2 then (r, 2) else (0, 0)) :=
                Lib.hid (next_ref H0.out HK.out (by rw [HL.out]; exact HF.out.trans (fold6_end xs 2 r)))
              by_cases hs : sound r = true
              · have hsb := sound_iff r |>.1 hs
                have hr3 : r ≤ 1114111 := by omega
                have HSB := Lib.hid hsb
                clear hsb
                go_wp2_with fail
                refine (valid_any _ _).mono ?_
                rintro e w1 ⟨rfl, rfl⟩
                go_wp2_with fail
                refine (bytes_any _ _ hr0 hr3).mono ?_
                rintro e w2 ⟨⟨v2, rfl, hb2⟩, hw2⟩
                go_wp2_with fail
                refine (begins_any _ xs _ _ _ (HX.out.ext hw2) hb2).mono ?_
                rintro e w3 ⟨rfl, hw3⟩
                by_cases hbg : begins xs (enc r) = true
                · go_wp2_with fail
                  refine (bytes_any _ _ hr0 hr3).mono ?_
                  rintro e w4 ⟨⟨v4, rfl, hb4⟩, hw4⟩
                  obtain ⟨a4, c4, rfl, _⟩ := hb4
                  have hE := ext_trans hw2 (ext_trans hw3 hw4)
                  by_cases hen : (enc r).length = 2
                  · rw [hen]
                    go_wp2_with fail
                    go_ret2
                    refine ⟨?_, hE⟩
                    rw [hfin.out, if_pos ⟨hs, hbg, hen⟩]; rfl
                  · have hd1 : (((enc r).length : Int) != 2) = true := by simp; omega
                    go_wp2_with fail
                    go_ret2
                    refine ⟨?_, hE⟩
                    rw [hfin.out, if_neg (fun h => hen h.2.2)]; rfl
                · have hbf : begins xs (enc r) = false := by simpa using hbg
                  go_wp2_with fail
                  go_ret2
                  refine ⟨?_, ext_trans hw2 hw3⟩
                  rw [hfin.out, if_neg (fun h => hbg h.2.1)]; rfl
              · have hs : sound r = false := by simpa using hs
                go_wp2_with fail
                refine (valid_any _ _).mono ?_
                rintro e w1 ⟨rfl, rfl⟩
                go_wp2_with fail
                go_ret2
                refine ⟨?_, ext_refl _⟩
                rw [hfin.out, if_neg (fun h => by rw [hs] at h; simp at h)]; rfl
      · have hk : kind x = 1 := by rw [kind, if_neg h240, if_neg h224, if_neg h192]
        have hl : lead0 x = (x.toNat : Int) := by rw [lead0, if_neg h240, if_neg h224, if_neg h192]
        have HK := Lib.hid hk
        have HL := Lib.hid hl
        clear hk hl
        by_cases hlen : xs.length < 1
        · first
          | (exfalso; omega)
          | (have hz : Hid (next xs = (0, 0)) := Lib.hid (next_few H0.out HK.out hlen)
             go_enter Tryd.func47, Tryd.ntmps47
             go_wp2_with fail
             go_ret2
             refine ⟨?_, ext_refl w⟩
             rw [hz.out]; rfl)
        · have hd : decide ((xs.length : Int) < 1) = false := by simp; omega
          go_enter Tryd.func47, Tryd.ntmps47
          go_wp2_with fail
          go_loop [4, 6] (fun rv iv => ∃ (k : Nat) (r : Int), k + 1 ≤ 1 ∧ iv = .int .i64 (k + 1 : Nat) ∧ rv = .int .i64 r ∧ 0 ≤ r ∧ r < 256 * 64 ^ k ∧ fold6 ((xs.take 1).drop 1) ((x.toNat : Int)) = fold6 ((xs.take 1).drop (k + 1)) r) (fun _ iv => 5 - (intOf iv).toNat)
          case atStart => exact ⟨0, (x.toNat : Int), by omega, rfl, rfl, by omega, by omega, rfl⟩
          case round =>
            obtain ⟨k, r, hk, rfl, rfl, hr0, hrh, hf⟩ := hrel
            have HF := Lib.hid hf
            have HRH := Lib.hid hrh
            clear hf hrh
            by_cases hlt : k + 1 < 1
            · first
              | (exfalso; omega)
              | (have hkx : k + 1 < xs.length := by omega
                 have hck := HC.out (k + 1) hkx
                 have hr2 : r < 67108864 := pow_small HRH.out (by omega)
                 have hstep := fold6_at xs 1 (k + 1) r hlt hkx
                 have hc8 : xs[k + 1].toNat < 256 := xs[k + 1].toNat_lt
                 generalize xs[k + 1] = c at hck hstep hc8
                 have HS := Lib.hid hstep
                 clear hstep
                 go_wp2_with fail
                 go_round
                 case rel => exact ⟨k + 1, r * 64 + (c.toNat : Int) % 64, by omega, by go_num, rfl, by omega, pow_next HRH.out (by omega), by rw [HF.out, HS.out]⟩
                 case measure => simp [intOf]; omega)
            · obtain rfl : k = 1 - 1 := by omega
              have hr2 : r < 67108864 := pow_small HRH.out (by omega)
              have hfin : Hid (next xs = if sound r = true ∧ begins xs (enc r) = true ∧ (enc r).length = 1 then (r, 1) else (0, 0)) :=
                Lib.hid (next_ref H0.out HK.out (by rw [HL.out]; exact HF.out.trans (fold6_end xs 1 r)))
              by_cases hs : sound r = true
              · have hsb := sound_iff r |>.1 hs
                have hr3 : r ≤ 1114111 := by omega
                have HSB := Lib.hid hsb
                clear hsb
                go_wp2_with fail
                refine (valid_any _ _).mono ?_
                rintro e w1 ⟨rfl, rfl⟩
                go_wp2_with fail
                refine (bytes_any _ _ hr0 hr3).mono ?_
                rintro e w2 ⟨⟨v2, rfl, hb2⟩, hw2⟩
                go_wp2_with fail
                refine (begins_any _ xs _ _ _ (HX.out.ext hw2) hb2).mono ?_
                rintro e w3 ⟨rfl, hw3⟩
                by_cases hbg : begins xs (enc r) = true
                · go_wp2_with fail
                  refine (bytes_any _ _ hr0 hr3).mono ?_
                  rintro e w4 ⟨⟨v4, rfl, hb4⟩, hw4⟩
                  obtain ⟨a4, c4, rfl, _⟩ := hb4
                  have hE := ext_trans hw2 (ext_trans hw3 hw4)
                  by_cases hen : (enc r).length = 1
                  · rw [hen]
                    go_wp2_with fail
                    go_ret2
                    refine ⟨?_, hE⟩
                    rw [hfin.out, if_pos ⟨hs, hbg, hen⟩]; rfl
                  · have hd1 : (((enc r).length : Int) != 1) = true := by simp; omega
                    go_wp2_with fail
                    go_ret2
                    refine ⟨?_, hE⟩
                    rw [hfin.out, if_neg (fun h => hen h.2.2)]; rfl
                · have hbf : begins xs (enc r) = false := by simpa using hbg
                  go_wp2_with fail
                  go_ret2
                  refine ⟨?_, ext_trans hw2 hw3⟩
                  rw [hfin.out, if_neg (fun h => hbg h.2.1)]; rfl
              · have hs : sound r = false := by simpa using hs
                go_wp2_with fail
                refine (valid_any _ _).mono ?_
                rintro e w1 ⟨rfl, rfl⟩
                go_wp2_with fail
                go_ret2
                refine ⟨?_, ext_refl _⟩
                rw [hfin.out, if_neg (fun h => by rw [hs] at h; simp at h)]; rfl
end Go.Proofs.YtglcpfnfldaimaaDoor
