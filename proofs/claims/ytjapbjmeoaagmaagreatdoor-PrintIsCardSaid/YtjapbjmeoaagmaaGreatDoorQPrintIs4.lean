/- Several texts of this proof in one. -/
import Derived.Test.YtjapbjmeoaagmaaGreatDoorQPrintIs1
import Derived.Test.YtjapbjmeoaagmaaGreatDoorEPrintIsDecV
import Derived.Test.YtjapbjmeoaagmaaGreatDoorQPrintIs3
import Derived.Test.YtjapbjmeoaagmaaGreatDoorEPrintIsConv
import Derived.Test.YtjapbjmeoaagmaaGreatDoorQPrintIs2
import Derived.Test.YtjapbjmeoaagmaaGreatDoorEPrintIsSh
import Derived.Test.YtjapbjmeoaagmaaGreatDoorEPrintIsSi
set_option linter.unusedVariables false
set_option linter.unusedSimpArgs false
set_option maxRecDepth 100000
section
namespace Go.Proofs.YtjapbjmeoaagmaaGreatDoor
open Orange
theorem sane_zero : sane Num.zero = true := by decide +kernel
theorem check_nil : check [] = -1 := by decide +kernel
def ownP (k : Int) (b : Bool) (d : Num) (s : List UInt8) (l : List Tree) (m : List (List UInt8 × Tree)) : Bool :=
 !(decide (k < 0) || decide (5 < k)) && (decide (k = 1) || !b) && (decide (k = 2) || decide (d = Num.zero)) && (decide (k = 3) || s.isEmpty) && (decide (k = 4) || l.isEmpty) && (decide (k = 5) || m.isEmpty) && (sane d && decide (check s < 0) && !(m.any badKey))
theorem own_fields (k : Int) (b : Bool) (d : Num) (s : List UInt8) (l : List Tree) (m : List (List UInt8 × Tree)) : fieldsT (.mk k b d s l m) = ownP k b d s l m := by
 have hs : ∀ s : List UInt8, s.isEmpty = true → decide (check s < 0) = true := by
  intro s h; rw [List.isEmpty_iff.1 h, check_nil]; rfl
 have hd : d = Num.zero → sane d = true := fun h => by rw [h, sane_zero]
 have hm : m.isEmpty = true → m.any badKey = false := fun h => by rw [List.isEmpty_iff.1 h]; rfl
 have h2 := hs s; unfold fieldsT ownP; simp only
 by_cases q0 : k = 0
 · subst q0; cases hb : b <;> by_cases e2 : d = Num.zero <;> cases e3 : s.isEmpty <;> cases e5 : m.isEmpty <;> simp_all <;> (try rw [Bool.and_comm])
 by_cases q1 : k = 1
 · subst q1; by_cases e2 : d = Num.zero <;> cases e3 : s.isEmpty <;> cases e5 : m.isEmpty <;> simp_all <;> (try rw [Bool.and_comm])
 by_cases q2 : k = 2
 · subst q2; cases hb : b <;> cases e3 : s.isEmpty <;> cases e5 : m.isEmpty <;> simp_all <;> (try rw [Bool.and_comm])
 by_cases q3 : k = 3
 · subst q3; cases hb : b <;> by_cases e2 : d = Num.zero <;> cases e5 : m.isEmpty <;> simp_all <;> (try rw [Bool.and_comm])
 by_cases q4 : k = 4
 · subst q4; cases hb : b <;> by_cases e2 : d = Num.zero <;> cases e3 : s.isEmpty <;> cases e5 : m.isEmpty <;> simp_all <;> (try rw [Bool.and_comm])
 by_cases q5 : k = 5
 · subst q5; cases hb : b <;> by_cases e2 : d = Num.zero <;> cases e3 : s.isEmpty <;> simp_all <;> (try rw [Bool.and_comm])
 have hr : (decide (k < 0) || decide (5 < k)) = true := by
  rw [Bool.or_eq_true, decide_eq_true_iff, decide_eq_true_iff]; omega
 simp [q0, q1, q2, q3, q4, q5, hr]
end Go.Proofs.YtjapbjmeoaagmaaGreatDoor
end

section
set_option maxRecDepth 100000
namespace Go.Proofs.YtjapbjmeoaagmaaGreatDoor
open Go.RowKit Go.Mem Orange
theorem refnext_nil (a : Option Addr) (cap : Nat) (w : World) :
 Calls Tryz.prog 164 #[.slice a 0 cap] w fun e w' => e = .returned (.tuple #[.int .i32 0, .int .i64 0]) ∧ Ext w w' := by
 go_enter Tryz.func164, Tryz.ntmps164
 go_wp2_with fail; go_ret2; exact ⟨rfl, ext_refl w⟩
theorem next_ref {xs : List UInt8} {x : UInt8} {n : Nat} {r : Int} (h0 : xs[0]? = some x) (hk : kind x = n) (hr : fold6 ((xs.take n).drop 1) (lead0 x) = r) :
 next xs = if sound r = true ∧ begins xs (enc r) = true ∧ (enc r).length = n then (r, n) else (0, 0) := by
 split
 · rename_i h; exact next_yes h.1 h.2.1 h.2.2
 · rename_i h
   cases xs with
   | nil => simp at h0
   | cons y t =>
     obtain rfl : y = x := by simpa using h0
     subst hk; exact next_no hr h
theorem next_few {xs : List UInt8} {x : UInt8} {n : Nat} (h0 : xs[0]? = some x) (hk : kind x = n) (h : xs.length < n) : next xs = (0, 0) := by
 cases xs with
 | nil => rfl
 | cons y t =>
   obtain rfl : y = x := by simpa using h0
   exact next_short (by rw [hk]; simpa using h)
theorem pow_next {r c : Int} {i : Nat} (h : r < 256 * 64 ^ i) (hc : c < 64) : r * 64 + c < 256 * 64 ^ (i + 1) := r_next h hc
theorem pow_small {r : Int} {i : Nat} (h : r < 256 * 64 ^ i) (hi : i ≤ 3) : r < 67108864 := by
 have : i = 0 ∨ i = 1 ∨ i = 2 ∨ i = 3 := by omega
 rcases this with rfl | rfl | rfl | rfl <;> simp at h <;> omega
set_option maxHeartbeats 3200000 in
set_option maxRecDepth 100000 in
theorem refnext_any (v : Value) (xs : List UInt8) (w : World) (hx : Bytes w v xs) :
 Calls Tryz.prog 164 #[v] w fun e w' => e = .returned (.tuple #[.int .i32 (next xs).1, .int .i64 (next xs).2]) ∧ Ext w w' := by
 have hx0 := hx; obtain ⟨a, cap, rfl, hxc, hxm, hxl, hat⟩ := hx0; by_cases hn0 : xs.length = 0
 · obtain rfl := List.eq_nil_of_length_eq_zero hn0; exact refnext_nil a cap w
 have hpos : 0 < xs.length := by omega
 obtain ⟨b, o, rfl, hbl, hc⟩ := hat hpos; have hc0 := hc 0 hpos; have h0 : xs[0]? = some xs[0] := by simp [hpos]
 have hx8 : xs[0].toNat < 256 := xs[0].toNat_lt; rw [Nat.add_zero] at hc0; generalize xs[0] = x at hc0 h0 hx8; have H0 := Hd h0; have HC := Hd hc; have HX := Hd hx; clear h0 hc hat hx hn0; by_cases h240 : 240 ≤ x.toNat
 · have hk : kind x = 4 := by rw [kind, if_pos h240]
   have hl : lead0 x = (x.toNat : Int) % 8 := by rw [lead0, if_pos h240]
   have HK := Hd hk; have HL := Hd hl; clear hk hl; by_cases hlen : xs.length < 4
   · first
     | (exfalso; omega)
     | (have hz : Hid (next xs = (0, 0)) := Hd (next_few H0.out HK.out hlen)
        go_enter Tryz.func164, Tryz.ntmps164
        go_wp2_with fail; go_ret2; refine ⟨?_, ext_refl w⟩; rw [hz.out]; rfl)
   · have hd : decide ((xs.length : Int) < 4) = false := by simp; omega
     go_enter Tryz.func164, Tryz.ntmps164
     go_wp2_with fail; go_loop [4, 6] (fun rv iv => ∃ (k : Nat) (r : Int), k + 1 ≤ 4 ∧ iv = .int .i64 (k + 1 : Nat) ∧ rv = .int .i64 r ∧ 0 ≤ r ∧ r < 256 * 64 ^ k ∧ fold6 ((xs.take 4).drop 1) ((x.toNat : Int) % 8) = fold6 ((xs.take 4).drop (k + 1)) r) (fun _ iv => 5 - (intOf iv).toNat)
     case atStart => exact ⟨0, (x.toNat : Int) % 8, by omega, rfl, rfl, by omega, by omega, rfl⟩
     case round =>
      obtain ⟨k, r, hk, rfl, rfl, hr0, hrh, hf⟩ := hrel; have HF := Hd hf; have HRH := Hd hrh; clear hf hrh; by_cases hlt : k + 1 < 4
      · first
        | (exfalso; omega)
        | (have hkx : k + 1 < xs.length := by omega
           have hck := HC.out (k + 1) hkx; have hr2 : r < 67108864 := pow_small HRH.out (by omega); have hstep := fold6_at xs 4 (k + 1) r hlt hkx; have hc8 : xs[k + 1].toNat < 256 := xs[k + 1].toNat_lt; generalize xs[k + 1] = c at hck hstep hc8; have HS := Hd hstep; clear hstep; go_wp2_with fail; go_round
           case rel => exact ⟨k + 1, r * 64 + (c.toNat : Int) % 64, by omega, by go_num, rfl, by omega, pow_next HRH.out (by omega), by rw [HF.out, HS.out]⟩
           case measure => simp [intOf]; omega)
      · obtain rfl : k = 4 - 1 := by omega
        have hr2 : r < 67108864 := pow_small HRH.out (by omega); have hfin : Hid (next xs = if sound r = true ∧ begins xs (enc r) = true ∧ (enc r).length = 4 then (r, 4) else (0, 0)) :=
         Hd (next_ref H0.out HK.out (by rw [HL.out]; exact HF.out.trans (fold6_end xs 4 r)))
        by_cases hs : sound r = true
        · have hsb := sound_iff r |>.1 hs
          have hr3 : r ≤ 1114111 := by omega
          have HSB := Hd hsb; clear hsb; go_wp2_with fail; refine (valid_any _ _).mono ?_; rintro e w1 ⟨rfl, rfl⟩; go_wp2_with fail; refine (bytes_any _ _ hr0 hr3).mono ?_; rintro e w2 ⟨⟨v2, rfl, hb2⟩, hw2⟩; go_wp2_with fail; refine (begins_any _ xs _ _ _ (HX.out.ext hw2) hb2).mono ?_; rintro e w3 ⟨rfl, hw3⟩; by_cases hbg : begins xs (enc r) = true
          · go_wp2_with fail; refine (bytes_any _ _ hr0 hr3).mono ?_; rintro e w4 ⟨⟨v4, rfl, hb4⟩, hw4⟩; obtain ⟨a4, c4, rfl, _⟩ := hb4; have hE := ext_trans hw2 (ext_trans hw3 hw4); by_cases hen : (enc r).length = 4
            · rw [hen]; go_wp2_with fail; go_ret2; refine ⟨?_, hE⟩; rw [hfin.out, if_pos ⟨hs, hbg, hen⟩]; rfl
            · have hd1 : (((enc r).length : Int) != 4) = true := by simp; omega
              go_wp2_with fail; go_ret2; refine ⟨?_, hE⟩; rw [hfin.out, if_neg (fun h => hen h.2.2)]; rfl
          · have hbf : begins xs (enc r) = false := by simpa using hbg
            go_wp2_with fail; go_ret2; refine ⟨?_, ext_trans hw2 hw3⟩; rw [hfin.out, if_neg (fun h => hbg h.2.1)]; rfl
        · have hs : sound r = false := by simpa using hs
          go_wp2_with fail; refine (valid_any _ _).mono ?_; rintro e w1 ⟨rfl, rfl⟩; go_wp2_with fail; go_ret2; refine ⟨?_, ext_refl _⟩; rw [hfin.out, if_neg (fun h => by rw [hs] at h; simp at h)]; rfl
 · by_cases h224 : 224 ≤ x.toNat
   · have hk : kind x = 3 := by rw [kind, if_neg h240, if_pos h224]
     have hl : lead0 x = (x.toNat : Int) % 16 := by rw [lead0, if_neg h240, if_pos h224]
     have HK := Hd hk; have HL := Hd hl; clear hk hl; by_cases hlen : xs.length < 3
     · first
       | (exfalso; omega)
       | (have hz : Hid (next xs = (0, 0)) := Hd (next_few H0.out HK.out hlen)
          go_enter Tryz.func164, Tryz.ntmps164
          go_wp2_with fail; go_ret2; refine ⟨?_, ext_refl w⟩; rw [hz.out]; rfl)
     · have hd : decide ((xs.length : Int) < 3) = false := by simp; omega
       go_enter Tryz.func164, Tryz.ntmps164
       go_wp2_with fail; go_loop [4, 6] (fun rv iv => ∃ (k : Nat) (r : Int), k + 1 ≤ 3 ∧ iv = .int .i64 (k + 1 : Nat) ∧ rv = .int .i64 r ∧ 0 ≤ r ∧ r < 256 * 64 ^ k ∧ fold6 ((xs.take 3).drop 1) ((x.toNat : Int) % 16) = fold6 ((xs.take 3).drop (k + 1)) r) (fun _ iv => 5 - (intOf iv).toNat)
       case atStart => exact ⟨0, (x.toNat : Int) % 16, by omega, rfl, rfl, by omega, by omega, rfl⟩
       case round =>
        obtain ⟨k, r, hk, rfl, rfl, hr0, hrh, hf⟩ := hrel; have HF := Hd hf; have HRH := Hd hrh; clear hf hrh; by_cases hlt : k + 1 < 3
        · first
          | (exfalso; omega)
          | (have hkx : k + 1 < xs.length := by omega
             have hck := HC.out (k + 1) hkx; have hr2 : r < 67108864 := pow_small HRH.out (by omega); have hstep := fold6_at xs 3 (k + 1) r hlt hkx; have hc8 : xs[k + 1].toNat < 256 := xs[k + 1].toNat_lt; generalize xs[k + 1] = c at hck hstep hc8; have HS := Hd hstep; clear hstep; go_wp2_with fail; go_round
             case rel => exact ⟨k + 1, r * 64 + (c.toNat : Int) % 64, by omega, by go_num, rfl, by omega, pow_next HRH.out (by omega), by rw [HF.out, HS.out]⟩
             case measure => simp [intOf]; omega)
        · obtain rfl : k = 3 - 1 := by omega
          have hr2 : r < 67108864 := pow_small HRH.out (by omega); have hfin : Hid (next xs = if sound r = true ∧ begins xs (enc r) = true ∧ (enc r).length = 3 then (r, 3) else (0, 0)) :=
           Hd (next_ref H0.out HK.out (by rw [HL.out]; exact HF.out.trans (fold6_end xs 3 r)))
          by_cases hs : sound r = true
          · have hsb := sound_iff r |>.1 hs
            have hr3 : r ≤ 1114111 := by omega
            have HSB := Hd hsb; clear hsb; go_wp2_with fail; refine (valid_any _ _).mono ?_; rintro e w1 ⟨rfl, rfl⟩; go_wp2_with fail; refine (bytes_any _ _ hr0 hr3).mono ?_; rintro e w2 ⟨⟨v2, rfl, hb2⟩, hw2⟩; go_wp2_with fail; refine (begins_any _ xs _ _ _ (HX.out.ext hw2) hb2).mono ?_; rintro e w3 ⟨rfl, hw3⟩; by_cases hbg : begins xs (enc r) = true
            · go_wp2_with fail; refine (bytes_any _ _ hr0 hr3).mono ?_; rintro e w4 ⟨⟨v4, rfl, hb4⟩, hw4⟩; obtain ⟨a4, c4, rfl, _⟩ := hb4; have hE := ext_trans hw2 (ext_trans hw3 hw4); by_cases hen : (enc r).length = 3
              · rw [hen]; go_wp2_with fail; go_ret2; refine ⟨?_, hE⟩; rw [hfin.out, if_pos ⟨hs, hbg, hen⟩]; rfl
              · have hd1 : (((enc r).length : Int) != 3) = true := by simp; omega
                go_wp2_with fail; go_ret2; refine ⟨?_, hE⟩; rw [hfin.out, if_neg (fun h => hen h.2.2)]; rfl
            · have hbf : begins xs (enc r) = false := by simpa using hbg
              go_wp2_with fail; go_ret2; refine ⟨?_, ext_trans hw2 hw3⟩; rw [hfin.out, if_neg (fun h => hbg h.2.1)]; rfl
          · have hs : sound r = false := by simpa using hs
            go_wp2_with fail; refine (valid_any _ _).mono ?_; rintro e w1 ⟨rfl, rfl⟩; go_wp2_with fail; go_ret2; refine ⟨?_, ext_refl _⟩; rw [hfin.out, if_neg (fun h => by rw [hs] at h; simp at h)]; rfl
   · by_cases h192 : 192 ≤ x.toNat
     · have hk : kind x = 2 := by rw [kind, if_neg h240, if_neg h224, if_pos h192]
       have hl : lead0 x = (x.toNat : Int) % 32 := by rw [lead0, if_neg h240, if_neg h224, if_pos h192]
       have HK := Hd hk; have HL := Hd hl; clear hk hl; by_cases hlen : xs.length < 2
       · first
         | (exfalso; omega)
         | (have hz : Hid (next xs = (0, 0)) := Hd (next_few H0.out HK.out hlen)
            go_enter Tryz.func164, Tryz.ntmps164
            go_wp2_with fail; go_ret2; refine ⟨?_, ext_refl w⟩; rw [hz.out]; rfl)
       · have hd : decide ((xs.length : Int) < 2) = false := by simp; omega
         go_enter Tryz.func164, Tryz.ntmps164
         go_wp2_with fail; go_loop [4, 6] (fun rv iv => ∃ (k : Nat) (r : Int), k + 1 ≤ 2 ∧ iv = .int .i64 (k + 1 : Nat) ∧ rv = .int .i64 r ∧ 0 ≤ r ∧ r < 256 * 64 ^ k ∧ fold6 ((xs.take 2).drop 1) ((x.toNat : Int) % 32) = fold6 ((xs.take 2).drop (k + 1)) r) (fun _ iv => 5 - (intOf iv).toNat)
         case atStart => exact ⟨0, (x.toNat : Int) % 32, by omega, rfl, rfl, by omega, by omega, rfl⟩
         case round =>
          obtain ⟨k, r, hk, rfl, rfl, hr0, hrh, hf⟩ := hrel; have HF := Hd hf; have HRH := Hd hrh; clear hf hrh; by_cases hlt : k + 1 < 2
          · first
            | (exfalso; omega)
            | (have hkx : k + 1 < xs.length := by omega
               have hck := HC.out (k + 1) hkx; have hr2 : r < 67108864 := pow_small HRH.out (by omega); have hstep := fold6_at xs 2 (k + 1) r hlt hkx; have hc8 : xs[k + 1].toNat < 256 := xs[k + 1].toNat_lt; generalize xs[k + 1] = c at hck hstep hc8; have HS := Hd hstep; clear hstep; go_wp2_with fail; go_round
               case rel => exact ⟨k + 1, r * 64 + (c.toNat : Int) % 64, by omega, by go_num, rfl, by omega, pow_next HRH.out (by omega), by rw [HF.out, HS.out]⟩
               case measure => simp [intOf]; omega)
          · obtain rfl : k = 2 - 1 := by omega
            have hr2 : r < 67108864 := pow_small HRH.out (by omega); have hfin : Hid (next xs = if sound r = true ∧ begins xs (enc r) = true ∧ (enc r).length = 2 then (r, 2) else (0, 0)) :=
             Hd (next_ref H0.out HK.out (by rw [HL.out]; exact HF.out.trans (fold6_end xs 2 r)))
            by_cases hs : sound r = true
            · have hsb := sound_iff r |>.1 hs
              have hr3 : r ≤ 1114111 := by omega
              have HSB := Hd hsb; clear hsb; go_wp2_with fail; refine (valid_any _ _).mono ?_; rintro e w1 ⟨rfl, rfl⟩; go_wp2_with fail; refine (bytes_any _ _ hr0 hr3).mono ?_; rintro e w2 ⟨⟨v2, rfl, hb2⟩, hw2⟩; go_wp2_with fail; refine (begins_any _ xs _ _ _ (HX.out.ext hw2) hb2).mono ?_; rintro e w3 ⟨rfl, hw3⟩; by_cases hbg : begins xs (enc r) = true
              · go_wp2_with fail; refine (bytes_any _ _ hr0 hr3).mono ?_; rintro e w4 ⟨⟨v4, rfl, hb4⟩, hw4⟩; obtain ⟨a4, c4, rfl, _⟩ := hb4; have hE := ext_trans hw2 (ext_trans hw3 hw4); by_cases hen : (enc r).length = 2
                · rw [hen]; go_wp2_with fail; go_ret2; refine ⟨?_, hE⟩; rw [hfin.out, if_pos ⟨hs, hbg, hen⟩]; rfl
                · have hd1 : (((enc r).length : Int) != 2) = true := by simp; omega
                  go_wp2_with fail; go_ret2; refine ⟨?_, hE⟩; rw [hfin.out, if_neg (fun h => hen h.2.2)]; rfl
              · have hbf : begins xs (enc r) = false := by simpa using hbg
                go_wp2_with fail; go_ret2; refine ⟨?_, ext_trans hw2 hw3⟩; rw [hfin.out, if_neg (fun h => hbg h.2.1)]; rfl
            · have hs : sound r = false := by simpa using hs
              go_wp2_with fail; refine (valid_any _ _).mono ?_; rintro e w1 ⟨rfl, rfl⟩; go_wp2_with fail; go_ret2; refine ⟨?_, ext_refl _⟩; rw [hfin.out, if_neg (fun h => by rw [hs] at h; simp at h)]; rfl
     · have hk : kind x = 1 := by rw [kind, if_neg h240, if_neg h224, if_neg h192]
       have hl : lead0 x = (x.toNat : Int) := by rw [lead0, if_neg h240, if_neg h224, if_neg h192]
       have HK := Hd hk; have HL := Hd hl; clear hk hl; by_cases hlen : xs.length < 1
       · first
         | (exfalso; omega)
         | (have hz : Hid (next xs = (0, 0)) := Hd (next_few H0.out HK.out hlen)
            go_enter Tryz.func164, Tryz.ntmps164
            go_wp2_with fail; go_ret2; refine ⟨?_, ext_refl w⟩; rw [hz.out]; rfl)
       · have hd : decide ((xs.length : Int) < 1) = false := by simp; omega
         go_enter Tryz.func164, Tryz.ntmps164
         go_wp2_with fail; go_loop [4, 6] (fun rv iv => ∃ (k : Nat) (r : Int), k + 1 ≤ 1 ∧ iv = .int .i64 (k + 1 : Nat) ∧ rv = .int .i64 r ∧ 0 ≤ r ∧ r < 256 * 64 ^ k ∧ fold6 ((xs.take 1).drop 1) ((x.toNat : Int)) = fold6 ((xs.take 1).drop (k + 1)) r) (fun _ iv => 5 - (intOf iv).toNat)
         case atStart => exact ⟨0, (x.toNat : Int), by omega, rfl, rfl, by omega, by omega, rfl⟩
         case round =>
          obtain ⟨k, r, hk, rfl, rfl, hr0, hrh, hf⟩ := hrel; have HF := Hd hf; have HRH := Hd hrh; clear hf hrh; by_cases hlt : k + 1 < 1
          · first
            | (exfalso; omega)
            | (have hkx : k + 1 < xs.length := by omega
               have hck := HC.out (k + 1) hkx; have hr2 : r < 67108864 := pow_small HRH.out (by omega); have hstep := fold6_at xs 1 (k + 1) r hlt hkx; have hc8 : xs[k + 1].toNat < 256 := xs[k + 1].toNat_lt; generalize xs[k + 1] = c at hck hstep hc8; have HS := Hd hstep; clear hstep; go_wp2_with fail; go_round
               case rel => exact ⟨k + 1, r * 64 + (c.toNat : Int) % 64, by omega, by go_num, rfl, by omega, pow_next HRH.out (by omega), by rw [HF.out, HS.out]⟩
               case measure => simp [intOf]; omega)
          · obtain rfl : k = 1 - 1 := by omega
            have hr2 : r < 67108864 := pow_small HRH.out (by omega); have hfin : Hid (next xs = if sound r = true ∧ begins xs (enc r) = true ∧ (enc r).length = 1 then (r, 1) else (0, 0)) :=
             Hd (next_ref H0.out HK.out (by rw [HL.out]; exact HF.out.trans (fold6_end xs 1 r)))
            by_cases hs : sound r = true
            · have hsb := sound_iff r |>.1 hs
              have hr3 : r ≤ 1114111 := by omega
              have HSB := Hd hsb; clear hsb; go_wp2_with fail; refine (valid_any _ _).mono ?_; rintro e w1 ⟨rfl, rfl⟩; go_wp2_with fail; refine (bytes_any _ _ hr0 hr3).mono ?_; rintro e w2 ⟨⟨v2, rfl, hb2⟩, hw2⟩; go_wp2_with fail; refine (begins_any _ xs _ _ _ (HX.out.ext hw2) hb2).mono ?_; rintro e w3 ⟨rfl, hw3⟩; by_cases hbg : begins xs (enc r) = true
              · go_wp2_with fail; refine (bytes_any _ _ hr0 hr3).mono ?_; rintro e w4 ⟨⟨v4, rfl, hb4⟩, hw4⟩; obtain ⟨a4, c4, rfl, _⟩ := hb4; have hE := ext_trans hw2 (ext_trans hw3 hw4); by_cases hen : (enc r).length = 1
                · rw [hen]; go_wp2_with fail; go_ret2; refine ⟨?_, hE⟩; rw [hfin.out, if_pos ⟨hs, hbg, hen⟩]; rfl
                · have hd1 : (((enc r).length : Int) != 1) = true := by simp; omega
                  go_wp2_with fail; go_ret2; refine ⟨?_, hE⟩; rw [hfin.out, if_neg (fun h => hen h.2.2)]; rfl
              · have hbf : begins xs (enc r) = false := by simpa using hbg
                go_wp2_with fail; go_ret2; refine ⟨?_, ext_trans hw2 hw3⟩; rw [hfin.out, if_neg (fun h => hbg h.2.1)]; rfl
            · have hs : sound r = false := by simpa using hs
              go_wp2_with fail; refine (valid_any _ _).mono ?_; rintro e w1 ⟨rfl, rfl⟩; go_wp2_with fail; go_ret2; refine ⟨?_, ext_refl _⟩; rw [hfin.out, if_neg (fun h => by rw [hs] at h; simp at h)]; rfl
end Go.Proofs.YtjapbjmeoaagmaaGreatDoor
end

section
set_option maxRecDepth 100000
namespace Go.Mem
open Go.RowKit
def Row (w : World) (v : Value) (vs : List Value) : Prop :=
 ∃ a cap, v = .slice a vs.length cap ∧ vs.length ≤ cap ∧ cap ≤ 9223372036854775807 ∧
   (0 < vs.length → ∃ b o, a = some ⟨b, o, none⟩ ∧ b < w.heap.size ∧ ∀ i, (h : i < vs.length) → w.cell? ⟨b, o + i, none⟩ = some vs[i])
theorem Row.ext {w w' : World} {v : Value} {vs : List Value} (h : Row w v vs) (hb : Ext w w') : Row w' v vs := by
 obtain ⟨a, cap, e, h1, h2, h3⟩ := h; refine ⟨a, cap, e, h1, h2, fun hn => ?_⟩; obtain ⟨b, o, rfl, hlt, hc⟩ := h3 hn; refine ⟨b, o, rfl, Nat.lt_of_lt_of_le hlt hb.size, fun i hi => ?_⟩; rw [hb.cell (p := ⟨b, o + i, none⟩) hlt]; exact hc i hi
def OwnV (w : World) (base : Nat) (e : TypeId) (v : Value) (vs : List Value) : Prop := w.ownsRow base e 1 v vs.length vs
theorem OwnV.nil (w : World) (base : Nat) (e : TypeId) : OwnV w base e (.slice none 0 0) [] := World.ownsRow_nil w base e 1
theorem OwnV.ext {w w' : World} {base : Nat} {e : TypeId} {v : Value} {vs : List Value} (h : OwnV w base e v vs) (hb : Ext w w') : OwnV w' base e v vs := by
 obtain ⟨h1, h2⟩ := h; refine ⟨h1, ?_⟩; rcases h2 with h2 | ⟨g, cap, cur, rfl, hbg, hg, r⟩
 · exact .inl h2
 · exact .inr ⟨g, cap, cur, rfl, hbg, by rw [hb.block g (Array.getElem?_eq_some_iff.1 hg).1]; exact hg, r⟩
theorem OwnV.shape {w : World} {base : Nat} {e : TypeId} {v : Value} {vs : List Value} (h : OwnV w base e v vs) : ∃ a c, v = .slice a vs.length c := by
 rcases h.2 with ⟨rfl, h0⟩ | ⟨g, cap, cur, rfl, _⟩
 · exact ⟨_, _, by rw [h0]⟩
 · exact ⟨_, _, rfl⟩
theorem OwnV.row {w : World} {base : Nat} {e : TypeId} {v : Value} {vs : List Value} (h : OwnV w base e v vs) : Row w v vs := by
 obtain ⟨h1, h2⟩ := h; rcases h2 with ⟨rfl, h0⟩ | ⟨g, cap, cur, rfl, hb, hg, hnc, hcm, hcs, ht⟩
 · exact ⟨none, 0, by rw [h0], by omega, by omega, fun hn => by omega⟩
 · have hcm' : cap ≤ 9223372036854775807 := by simpa [maxLen] using hcm
   refine ⟨_, _, rfl, hnc, hcm', fun hn => ⟨g, 0, rfl, (Array.getElem?_eq_some_iff.1 hg).1, fun i hi => ?_⟩⟩; have hc : vs[i]? = some vs[i] := by simp [hi]
   rw [Nat.mul_one] at ht; conv at hc => lhs; rw [← ht]
   rw [List.getElem?_take] at hc; simp only [hi, if_true, Array.getElem?_toList] at hc; simp [World.cell?, hg, hc]
section
variable {P : Program}
theorem wpList_append_one {ops : Array Oper} {rest : List Oper} {o : Oper} {a : Act} {w : World} {Q : Exit → Act → World → Prop} (hgd : Region.wanted o (yielded ops a.tmps) = true) (s xo : Operand) (t tx : TypeId)
 (ho : o.op = .call { callee := .builtin .append, args := #[s, xo], argTypes := #[t, tx] })
 (base : Nat) (e : TypeId) (i : TypeInfo) (z : Value) (bytes : Nat) (ht : P.underlying t = some (.slice e)) (hi : P.info? e = some i) (hz : i.zero = some z) (hsize : i.size = 1) (hby : i.bytes = bytes) (hzs : z.cells.size = 1)
 (htx : ∃ e', P.underlying tx = some (.slice e'))
 (v : Value) (vs : List Value) (hs : a.eval s = v) (hown : OwnV w base e v vs) (g : Nat) (u : Value) (te : TypeId) (fr : Nat × Nat) (hx : a.eval xo = .slice (some ⟨g, 0, none⟩) 1 1) (hg : w.heap[g]? = some (.cells #[u] te fr)) (hu : u.oneCell' = true)
 (hl : (vs.length + 1) * bytes ≤ 140737488355328) (hl2 : vs.length < 140737488355328) (hbase : base ≤ w.heap.size)
 (h : ∀ a' c' w', OwnV w' base e (.slice a' (vs.length + 1) c') (vs ++ [u]) → Below base w w' → wpList P ops Q rest (a.put o.dst (.slice a' (vs.length + 1) c')) w') : wpList P ops Q (o :: rest) a w := by
 obtain ⟨e', htx⟩ := htx; refine wpList_append_src w hgd s xo t tx ho base e i z 1 bytes ht hi hz hsize hby hzs (by decide) v _ vs hs hown _ 1 [u] hx (Src.ofSlice w htx ⟨g, 0, none⟩ 1 1 [u] rfl ?_ ?_) (by simp only [maxLen]; omega) hl hbase ?_
 · intro j x hj; have hj0 : j = 0 := by
    rcases Nat.eq_zero_or_pos j with h | h
    · exact h
    · rw [List.getElem?_eq_none (by simp; omega)] at hj; cases hj
   subst hj0; simp only [List.getElem?_cons_zero, Option.some.injEq] at hj; subst hj; simp [World.cell?, Addr.add, hg]
 · intro x hx; rw [List.mem_singleton.1 hx]; exact hu
 · intro v' w' ho' hgr; have hk : OwnV w' base e v' (vs ++ [u]) := by unfold OwnV; rw [List.length_append]; exact ho'
   obtain ⟨a', c', rfl⟩ := hk.shape; rw [List.length_append] at hk ⊢; exact h a' c' w' hk (Below.ofGrown hgr hown hbase)
end
end Go.Mem
end

section
set_option maxRecDepth 100000
namespace Go.Proofs.YtjapbjmeoaagmaaGreatDoor
open Go.RowKit Go.Mem Orange
set_option maxHeartbeats 800000 in
theorem refcheck_any (v : Value) (xs : List UInt8) (w : World) (hx : Bytes w v xs) :
 Calls Tryz.prog 162 #[v] w fun e w' => e = .returned (.int .i64 (check xs)) ∧ Ext w w' := by
 obtain ⟨a, cap, rfl, hcap, hcm, hl, hat⟩ := hx; go_enter Tryz.func162, Tryz.ntmps162
 go_wp2_with fail; go_loopw [3] (fun iv wr => ∃ i : Nat, i ≤ xs.length ∧ iv = .int .i64 i ∧ Ext w wr ∧ check xs = checkL (xs.drop i) i) (fun iv _ => xs.length - (intOf iv).toNat)
 case atStart => exact ⟨0, by omega, rfl, ext_refl _, rfl⟩
 case round =>
  obtain ⟨i, hi, rfl, hb, hc⟩ := hrel; have HC := Hd hc; clear hc; by_cases hlt : i < xs.length
  · obtain ⟨b, o, rfl, hbl, _⟩ := hat (by omega); have hbs : Bytes wr (.slice (some ⟨b, o + i, none⟩) (xs.length - i) (cap - i)) (xs.drop i) := Bytes.mk ((hat.ext hb).drop i) (by simp) (by omega) (by omega) (by omega); obtain ⟨x, t, hxt⟩ := drop_cons hlt; have hcl := checkL_cons x t i; have hle := next_le (xs.drop i); rw [← hxt] at hcl; have hlen : (xs.drop i).length = xs.length - i := by simp
    rw [hlen] at hle; have HCL := Hd hcl; clear hcl hxt hlen; by_cases hz : (next (xs.drop i)).2 = 0
    · go_wp2_with (go_at_call 164; refine (refnext_any _ _ _ hbs).mono ?_; rintro e w' ⟨rfl, hb1⟩)
      go_ret; exact ⟨ret_int (by rw [HC.out, HCL.out, if_pos hz]), ext_trans hb hb1⟩
    · have hz1 : ((((next (xs.drop i)).2 : Nat) : Int) == 0) = false := by simp; omega
      go_wp2_with (go_at_call 164; refine (refnext_any _ _ _ hbs).mono ?_; rintro e w' ⟨rfl, hb1⟩)
      go_roundw
      case rel => exact ⟨i + (next (xs.drop i)).2, by omega, by go_num, ext_trans hb hb1, by rw [HC.out, HCL.out, if_neg hz, List.drop_drop]; rfl⟩
      case measure => simp [intOf]; omega
  · obtain rfl : i = xs.length := by omega
    go_wp2_with fail; go_ret; exact ⟨ret_int (by rw [HC.out, List.drop_length, checkL_nil]), hb⟩
def ownBad (k : Int) (b : Bool) (d : Num) (s : List UInt8) (l : List Tree) (m : List Mem1) : Bool :=
 (decide (k < 0) || decide (5 < k)) || (decide (k ≠ 1) && b) || (decide (k ≠ 2) && !decide (d = Num.zero)) || (decide (k ≠ 3) && !s.isEmpty) || (decide (k ≠ 4) && !l.isEmpty) || (decide (k ≠ 5) && !m.isEmpty)
theorem ownP_bad (k : Int) (b : Bool) (d : Num) (s : List UInt8) (l : List Tree) (m : List Mem1) : ownP k b d s l m = (!ownBad k b d s l m && (sane d && decide (check s < 0) && !(m.any badKey))) := by
 unfold ownP ownBad; simp only [Bool.not_or, Bool.not_and, Bool.not_not, decide_not]
theorem wlenM' : ∀ l : List Mem1, l.length ≤ weightM l
 | [] => by simp [weightM]
 | (k, t) :: l => by
   have h1 := wlenM' l; have h2 := count_weight t; have h3 : 0 < countT t := by cases t; rw [countT]; omega
   rw [weightM, List.length_cons]; omega
set_option maxHeartbeats 12800000 in
theorem r3own_any (k : Int) (b : Bool) (d : Num) (s : List UInt8) (l : List Tree) (m : List Mem1) (c : Array Value) (A : Nat → Prop) (w : World) (ht : TV w A (.mk k b d s l m) c) (hw : weightT (.mk k b d s l m) ≤ 1000000) :
 Calls Tryz.prog 131 #[.agg c] w (fun e w' => e = .returned (.bool (ownP k b d s l m)) ∧ Ext w w') := by
 obtain ⟨RR, hRR⟩ := Ex (ownP k b d s l m); rw [hRR]; rw [ownP_bad] at hRR; obtain ⟨R, hR⟩ := Ex (ownBad k b d s l m); rw [hR] at hRR; have HR := Hd hR; have HRR := Hd hRR; have HW := Hd hw; clear hR hRR hw; cases ht with
 | mk htl hrl htm hrm =>
 rename_i vL vM cl cm
 obtain ⟨_, a1, p1, rfl, hp1, hq1, _⟩ := id hrl; obtain ⟨_, a2, p2, rfl, hp2, hq2, _⟩ := id hrm; obtain ⟨wA, ewA⟩ : ∃ W, w.alloc (.cells (cellsV k b d s (.slice a1 l.length p1) (.slice a2 m.length p2)) 27) = W := ⟨_, rfl⟩
 have nwA : wA.heap[w.heap.size]? = some (.cells (cellsV k b d s (.slice a1 l.length p1) (.slice a2 m.length p2)) 27) := by rw [← ewA]; exact heap_alloc_new _ _
 have xwA : Ext w wA := by rw [← ewA]; exact (ext_refl _).alloc (Nat.le_refl _) _
 have swA : wA.heap.size = w.heap.size + 1 := by rw [← ewA]; simp
 have HC : Hid (VAt wA w.heap.size (cellsV k b d s (.slice a1 l.length p1) (.slice a2 m.length p2))) := Hd nwA; have HE := Hd xwA; have EA := Hd ewA; have HTM := Hd (htm.keep (w' := wA) (A' := fun _ => True) xwA.size (fun g _ hlt => ⟨trivial, xwA.block g hlt⟩)); have HRM := Hd (hrm.keep (w' := wA) (A' := fun _ => True) xwA.size (fun g _ hlt => ⟨trivial, xwA.block g hlt⟩))
 clear nwA xwA ewA swA htl hrl htm hrm; simp only [cellsV] at HC EA ⊢; go_enter Tryz.func131, Tryz.ntmps131
 go_upto_region 1 with fail; rw [EA.out]; obtain ⟨S, hS⟩ := Ex w.heap.size; rw [hS] at HC ⊢; have HS := Hd hS; clear hS EA; obtain ⟨c0, c1, c2, c3, c4, c5, c6, c7⟩ := HC.out.c8; go_upto_region 3 with fail; have hzn : (wA.alloc (.cells #[.bool false, .string ⟨#[]⟩, .int .i64 0] 23)).heap[wA.heap.size]? = some (.cells #[.bool false, .string ⟨#[]⟩, .int .i64 0] 23 (0, 0)) := heap_alloc_new _ _
 have hxB : Ext wA (wA.alloc (.cells #[.bool false, .string ⟨#[]⟩, .int .i64 0] 23)) := (ext_refl wA).alloc (Nat.le_refl _) _; generalize wA.alloc (.cells #[.bool false, .string ⟨#[]⟩, .int .i64 0] 23) = wB at *; have z0 : wB.cell? ⟨wA.heap.size, 0, none⟩ = some (.bool false) := by simp [World.cell?, hzn]
 have z1 : wB.cell? ⟨wA.heap.size, 1, none⟩ = some (.string ⟨#[]⟩) := by simp [World.cell?, hzn]
 have z2 : wB.cell? ⟨wA.heap.size, 2, none⟩ = some (.int .i64 0) := by simp [World.cell?, hzn]
 obtain ⟨Z, hZ⟩ := Ex wA.heap.size; rw [hZ] at z0 z1 z2 ⊢; clear hzn hZ c0 c1 c2 c3 c4 c5 c6 c7; replace HC := Hd (HC.out.ext hxB); replace HE := Hd (ext_trans HE.out hxB); replace HTM := Hd (HTM.out.keep (w' := wB) (A' := fun _ => True) hxB.size (fun g _ hlt => ⟨trivial, hxB.block g hlt⟩))
 replace HRM := Hd (HRM.out.keep (w' := wB) (A' := fun _ => True) hxB.size (fun g _ hlt => ⟨trivial, hxB.block g hlt⟩)); clear hxB; obtain ⟨c0, c1, c2, c3, c4, c5, c6, c7⟩ := HC.out.c8; go_cut [61] (fun s wx => s = .bool R ∧ wB = wx)
 case first =>
  clear HW HRR HTM HRM HE; by_cases hk : k < 0 ∨ 5 < k
  · have HF : Hid (R = true) := Hd (by
     rw [← HR.out]; unfold ownBad; have : (decide (k < 0) || decide (5 < k)) = true := by simpa using hk
     rw [this]; simp)
    clear HR; rcases hk with hk | hk
    · go_wp2_with fail; go_meet; exact ⟨congrArg Value.bool HF.out.symm, rfl⟩
    · have hk0 : ¬ k < 0 := by omega
      go_wp2_with fail; go_meet; exact ⟨congrArg Value.bool HF.out.symm, rfl⟩
  obtain rfl | rfl | rfl | rfl | rfl | rfl : k = 0 ∨ k = 1 ∨ k = 2 ∨ k = 3 ∨ k = 4 ∨ k = 5 := by omega
  · by_cases eb : b = true
    · subst eb; have HF : Hid (R = true) := Hd (by rw [← HR.out]; unfold ownBad; simp); clear HR; go_wp2_with fail; go_meet; exact ⟨congrArg Value.bool HF.out.symm, rfl⟩
    have eb2 : b = false := by simpa using eb
    subst eb2; clear eb; by_cases ed : d = Num.zero
    case neg =>
     have HF : Hid (R = true) := Hd (by rw [← HR.out]; unfold ownBad; simp [ed]); have hneq := fun w => neq_num d Num.zero w; rw [decide_eq_false ed] at hneq; simp only [Num.zero] at hneq; clear ed; clear HR; go_wp2_with fail; go_meet; exact ⟨congrArg Value.bool HF.out.symm, rfl⟩
    have hneq := fun w => neq_num d Num.zero w; rw [decide_eq_true ed] at hneq; simp only [Num.zero] at hneq; have ED := Hd ed; clear ed; by_cases es : s = []
    case neg =>
     have es2 : (s == []) = false := by simpa using es
     have es3 : s.isEmpty = false := by simpa using es
     have HF : Hid (R = true) := Hd (by rw [← HR.out]; unfold ownBad; simp [es3]); clear es; clear HR; go_wp2_with fail; go_meet; exact ⟨congrArg Value.bool HF.out.symm, rfl⟩
    subst es; by_cases el : l = []
    case neg =>
     have el3 : l.isEmpty = false := by simpa using el
     have el4 : 0 < l.length := List.length_pos_iff.2 el; have HF : Hid (R = true) := Hd (by rw [← HR.out]; unfold ownBad; simp [el3]); clear el3 el; clear HR; go_wp2_with fail; go_meet; exact ⟨congrArg Value.bool HF.out.symm, rfl⟩
    subst el; by_cases em : m = []
    case neg =>
     have em3 : m.isEmpty = false := by simpa using em
     have em4 : 0 < m.length := List.length_pos_iff.2 em; have HF : Hid (R = true) := Hd (by rw [← HR.out]; unfold ownBad; simp [em3]); clear em3 em; clear HR; go_wp2_with fail; go_meet; exact ⟨congrArg Value.bool HF.out.symm, rfl⟩
    subst em; have HF : Hid (R = false) := Hd (by rw [← HR.out]; unfold ownBad; simp [ED.out]); clear HR; go_wp2_with fail; go_meet; exact ⟨congrArg Value.bool HF.out.symm, rfl⟩
  · by_cases ed : d = Num.zero
    case neg =>
     have HF : Hid (R = true) := Hd (by rw [← HR.out]; unfold ownBad; simp [ed]); have hneq := fun w => neq_num d Num.zero w; rw [decide_eq_false ed] at hneq; simp only [Num.zero] at hneq; clear ed; clear HR; go_wp2_with fail; go_meet; exact ⟨congrArg Value.bool HF.out.symm, rfl⟩
    have hneq := fun w => neq_num d Num.zero w; rw [decide_eq_true ed] at hneq; simp only [Num.zero] at hneq; have ED := Hd ed; clear ed; by_cases es : s = []
    case neg =>
     have es2 : (s == []) = false := by simpa using es
     have es3 : s.isEmpty = false := by simpa using es
     have HF : Hid (R = true) := Hd (by rw [← HR.out]; unfold ownBad; simp [es3]); clear es; clear HR; go_wp2_with fail; go_meet; exact ⟨congrArg Value.bool HF.out.symm, rfl⟩
    subst es; by_cases el : l = []
    case neg =>
     have el3 : l.isEmpty = false := by simpa using el
     have el4 : 0 < l.length := List.length_pos_iff.2 el; have HF : Hid (R = true) := Hd (by rw [← HR.out]; unfold ownBad; simp [el3]); clear el3 el; clear HR; go_wp2_with fail; go_meet; exact ⟨congrArg Value.bool HF.out.symm, rfl⟩
    subst el; by_cases em : m = []
    case neg =>
     have em3 : m.isEmpty = false := by simpa using em
     have em4 : 0 < m.length := List.length_pos_iff.2 em; have HF : Hid (R = true) := Hd (by rw [← HR.out]; unfold ownBad; simp [em3]); clear em3 em; clear HR; go_wp2_with fail; go_meet; exact ⟨congrArg Value.bool HF.out.symm, rfl⟩
    subst em; have HF : Hid (R = false) := Hd (by rw [← HR.out]; unfold ownBad; simp [ED.out]); clear HR; go_wp2_with fail; go_meet; exact ⟨congrArg Value.bool HF.out.symm, rfl⟩
  · by_cases eb : b = true
    · subst eb; have HF : Hid (R = true) := Hd (by rw [← HR.out]; unfold ownBad; simp); clear HR; go_wp2_with fail; go_meet; exact ⟨congrArg Value.bool HF.out.symm, rfl⟩
    have eb2 : b = false := by simpa using eb
    subst eb2; clear eb; by_cases es : s = []
    case neg =>
     have es2 : (s == []) = false := by simpa using es
     have es3 : s.isEmpty = false := by simpa using es
     have HF : Hid (R = true) := Hd (by rw [← HR.out]; unfold ownBad; simp [es3]); clear es; clear HR; go_wp2_with fail; go_meet; exact ⟨congrArg Value.bool HF.out.symm, rfl⟩
    subst es; by_cases el : l = []
    case neg =>
     have el3 : l.isEmpty = false := by simpa using el
     have el4 : 0 < l.length := List.length_pos_iff.2 el; have HF : Hid (R = true) := Hd (by rw [← HR.out]; unfold ownBad; simp [el3]); clear el3 el; clear HR; go_wp2_with fail; go_meet; exact ⟨congrArg Value.bool HF.out.symm, rfl⟩
    subst el; by_cases em : m = []
    case neg =>
     have em3 : m.isEmpty = false := by simpa using em
     have em4 : 0 < m.length := List.length_pos_iff.2 em; have HF : Hid (R = true) := Hd (by rw [← HR.out]; unfold ownBad; simp [em3]); clear em3 em; clear HR; go_wp2_with fail; go_meet; exact ⟨congrArg Value.bool HF.out.symm, rfl⟩
    subst em; have HF : Hid (R = false) := Hd (by rw [← HR.out]; unfold ownBad; simp); clear HR; go_wp2_with fail; go_meet; exact ⟨congrArg Value.bool HF.out.symm, rfl⟩
  · by_cases eb : b = true
    · subst eb; have HF : Hid (R = true) := Hd (by rw [← HR.out]; unfold ownBad; simp); clear HR; go_wp2_with fail; go_meet; exact ⟨congrArg Value.bool HF.out.symm, rfl⟩
    have eb2 : b = false := by simpa using eb
    subst eb2; clear eb; by_cases ed : d = Num.zero
    case neg =>
     have HF : Hid (R = true) := Hd (by rw [← HR.out]; unfold ownBad; simp [ed]); have hneq := fun w => neq_num d Num.zero w; rw [decide_eq_false ed] at hneq; simp only [Num.zero] at hneq; clear ed; clear HR; go_wp2_with fail; go_meet; exact ⟨congrArg Value.bool HF.out.symm, rfl⟩
    have hneq := fun w => neq_num d Num.zero w; rw [decide_eq_true ed] at hneq; simp only [Num.zero] at hneq; have ED := Hd ed; clear ed; by_cases el : l = []
    case neg =>
     have el3 : l.isEmpty = false := by simpa using el
     have el4 : 0 < l.length := List.length_pos_iff.2 el; have HF : Hid (R = true) := Hd (by rw [← HR.out]; unfold ownBad; simp [el3]); clear el3 el; clear HR; go_wp2_with fail; go_meet; exact ⟨congrArg Value.bool HF.out.symm, rfl⟩
    subst el; by_cases em : m = []
    case neg =>
     have em3 : m.isEmpty = false := by simpa using em
     have em4 : 0 < m.length := List.length_pos_iff.2 em; have HF : Hid (R = true) := Hd (by rw [← HR.out]; unfold ownBad; simp [em3]); clear em3 em; clear HR; go_wp2_with fail; go_meet; exact ⟨congrArg Value.bool HF.out.symm, rfl⟩
    subst em; have HF : Hid (R = false) := Hd (by rw [← HR.out]; unfold ownBad; simp [ED.out]); clear HR; go_wp2_with fail; go_meet; exact ⟨congrArg Value.bool HF.out.symm, rfl⟩
  · by_cases eb : b = true
    · subst eb; have HF : Hid (R = true) := Hd (by rw [← HR.out]; unfold ownBad; simp); clear HR; go_wp2_with fail; go_meet; exact ⟨congrArg Value.bool HF.out.symm, rfl⟩
    have eb2 : b = false := by simpa using eb
    subst eb2; clear eb; by_cases ed : d = Num.zero
    case neg =>
     have HF : Hid (R = true) := Hd (by rw [← HR.out]; unfold ownBad; simp [ed]); have hneq := fun w => neq_num d Num.zero w; rw [decide_eq_false ed] at hneq; simp only [Num.zero] at hneq; clear ed; clear HR; go_wp2_with fail; go_meet; exact ⟨congrArg Value.bool HF.out.symm, rfl⟩
    have hneq := fun w => neq_num d Num.zero w; rw [decide_eq_true ed] at hneq; simp only [Num.zero] at hneq; have ED := Hd ed; clear ed; by_cases es : s = []
    case neg =>
     have es2 : (s == []) = false := by simpa using es
     have es3 : s.isEmpty = false := by simpa using es
     have HF : Hid (R = true) := Hd (by rw [← HR.out]; unfold ownBad; simp [es3]); clear es; clear HR; go_wp2_with fail; go_meet; exact ⟨congrArg Value.bool HF.out.symm, rfl⟩
    subst es; by_cases em : m = []
    case neg =>
     have em3 : m.isEmpty = false := by simpa using em
     have em4 : 0 < m.length := List.length_pos_iff.2 em; have HF : Hid (R = true) := Hd (by rw [← HR.out]; unfold ownBad; simp [em3]); clear em3 em; clear HR; go_wp2_with fail; go_meet; exact ⟨congrArg Value.bool HF.out.symm, rfl⟩
    subst em; have HF : Hid (R = false) := Hd (by rw [← HR.out]; unfold ownBad; simp [ED.out]); clear HR; go_wp2_with fail; go_meet; exact ⟨congrArg Value.bool HF.out.symm, rfl⟩
  · by_cases eb : b = true
    · subst eb; have HF : Hid (R = true) := Hd (by rw [← HR.out]; unfold ownBad; simp); clear HR; go_wp2_with fail; go_meet; exact ⟨congrArg Value.bool HF.out.symm, rfl⟩
    have eb2 : b = false := by simpa using eb
    subst eb2; clear eb; by_cases ed : d = Num.zero
    case neg =>
     have HF : Hid (R = true) := Hd (by rw [← HR.out]; unfold ownBad; simp [ed]); have hneq := fun w => neq_num d Num.zero w; rw [decide_eq_false ed] at hneq; simp only [Num.zero] at hneq; clear ed; clear HR; go_wp2_with fail; go_meet; exact ⟨congrArg Value.bool HF.out.symm, rfl⟩
    have hneq := fun w => neq_num d Num.zero w; rw [decide_eq_true ed] at hneq; simp only [Num.zero] at hneq; have ED := Hd ed; clear ed; by_cases es : s = []
    case neg =>
     have es2 : (s == []) = false := by simpa using es
     have es3 : s.isEmpty = false := by simpa using es
     have HF : Hid (R = true) := Hd (by rw [← HR.out]; unfold ownBad; simp [es3]); clear es; clear HR; go_wp2_with fail; go_meet; exact ⟨congrArg Value.bool HF.out.symm, rfl⟩
    subst es; by_cases el : l = []
    case neg =>
     have el3 : l.isEmpty = false := by simpa using el
     have el4 : 0 < l.length := List.length_pos_iff.2 el; have HF : Hid (R = true) := Hd (by rw [← HR.out]; unfold ownBad; simp [el3]); clear el3 el; clear HR; go_wp2_with fail; go_meet; exact ⟨congrArg Value.bool HF.out.symm, rfl⟩
    subst el; have HF : Hid (R = false) := Hd (by rw [← HR.out]; unfold ownBad; simp [ED.out]); clear HR; go_wp2_with fail; go_meet; exact ⟨congrArg Value.bool HF.out.symm, rfl⟩
 case rest =>
  obtain ⟨rfl, rfl⟩ := hcut; clear z0 z1 z2; cases R with
  | true =>
    have HF : Hid (RR = false) := Hd (by rw [← HRR.out]; rfl); go_wp2_with fail; go_ret; exact ⟨ret_bool HF.out.symm, HE.out⟩
  | false =>
    have hdl : d.digits.length ≤ 140737488355328 ∧ s.length ≤ 1000000 ∧ m.length ≤ 1000000 ∧ ∀ i (h : i < m.length), m[i].1.length ≤ 1000000 := by
     have h1 := HW.out; rw [weightT] at h1; have h2 := wlenM' m; refine ⟨by omega, by omega, by omega, fun i h => ?_⟩; have := (weightM_mem h).1; omega
    obtain ⟨hdl, hsl, hml, hkl⟩ := hdl; have HKL := Hd hkl; clear hkl HW; go_wp2_with fail; refine (r2sane_any d wB hdl).mono ?_; rintro e w5 ⟨rfl, hw5⟩; clear c0 c1 c2 c3 c4 c5 c6 c7; replace HC := Hd (HC.out.ext hw5); replace HE := Hd (ext_trans HE.out hw5); replace HTM := Hd (HTM.out.keep (w' := w5) (A' := fun _ => True) hw5.size (fun g _ hlt => ⟨trivial, hw5.block g hlt⟩))
    replace HRM := Hd (HRM.out.keep (w' := w5) (A' := fun _ => True) hw5.size (fun g _ hlt => ⟨trivial, hw5.block g hlt⟩)); clear hw5; obtain ⟨c0, c1, c2, c3, c4, c5, c6, c7⟩ := HC.out.c8; have hrr := HRR.out; obtain ⟨sd, hsd⟩ := Ex (sane d); rw [hsd] at hrr ⊢; replace HRR := Hd hrr; clear hrr hsd; cases sd with
    | false =>
      have HF : Hid (RR = false) := Hd (by rw [← HRR.out]; rfl); go_wp2_with fail; go_ret; exact ⟨ret_bool HF.out.symm, HE.out⟩
    | true =>
      have hbl : (ByteArray.mk s.toArray).size ≤ 140737488355328 := by show s.toArray.size ≤ _; simp; omega
      go_wp2_with (first | (refine wpList_bytes_of_string _ rfl 9 56 5 _ rfl ⟨s.toArray⟩ rfl Tryz.underlying9 Tryz.underlying56 Tryz.underlying5 hbl ?_; intro cap2 w6 hE2 hcap2 hcm2 hsz2 hat2) | fail)
      rw [sx_size] at hcap2; refine (refcheck_any _ s _ (Bytes.mk hat2 rfl hcap2 hcm2 (by rw [sx_size] at hbl; omega))).mono ?_; rintro e w7 ⟨rfl, hw7⟩; clear c0 c1 c2 c3 c4 c5 c6 c7; have hE7 := ext_trans hE2 hw7; clear hE2 hw7 hat2 hcap2 hcm2 hsz2; replace HC := Hd (HC.out.ext hE7); replace HE := Hd (ext_trans HE.out hE7)
      replace HTM := Hd (HTM.out.keep (w' := w7) (A' := fun _ => True) hE7.size (fun g _ hlt => ⟨trivial, hE7.block g hlt⟩)); replace HRM := Hd (HRM.out.keep (w' := w7) (A' := fun _ => True) hE7.size (fun g _ hlt => ⟨trivial, hE7.block g hlt⟩)); clear hE7; have hrr := HRR.out; obtain ⟨ck, hck⟩ := Ex (check s); rw [hck] at hrr ⊢; replace HRR := Hd hrr; clear hrr hck; by_cases hk0 : 0 ≤ ck
      · have HF : Hid (RR = false) := Hd (by rw [← HRR.out, decide_eq_false (show ¬ ck < 0 by omega)]; rfl); go_wp2_with fail; go_ret; exact ⟨ret_bool HF.out.symm, HE.out⟩
      · have hrr : (!(m.any badKey)) = RR := by rw [← HRR.out, decide_eq_true (show ck < 0 by omega)]; simp
        replace HRR := Hd hrr; clear hrr; go_wp2_with fail; go_loopw [5] (fun iv wr => ∃ i : Nat, iv = .int .i64 i ∧ i ≤ m.length ∧ Ext w7 wr ∧ (m.take i).any badKey = false) (fun iv _ => 2000000 - (intOf iv).toNat)
        case atStart => exact ⟨0, rfl, by omega, ext_refl _, rfl⟩
        case round =>
         obtain ⟨i, rfl, hi, hEr, hb⟩ := hrel; have HEr := Hd hEr; have HB := Hd hb; clear hEr hb; have c7 := (HC.out.ext HEr.out).cell 7; simp at c7; by_cases hlt : i < m.length
         · have hlti : (i : Int) < m.length := by omega
           have hi0 : (0 : Int) ≤ i := by omega
           obtain ⟨g, o, xk, xb, xd, xs, xa1, xn1, xc1, xa2, xn2, xc2, rfl, htx, hcell⟩ := mem_elem HRM.out HTM.out rfl i hlt; obtain ⟨x0, -⟩ := hcell wr (fun g _ hlt => HEr.out.block g hlt); have HTK : Hid ((m.take (i + 1)).any badKey = ((m.take i).any badKey || badKey m[i])) := Hd (by rw [List.take_succ_eq_append_getElem hlt, List.any_append]; simp)
           have HBX : Hid (badKey m[i] = true → m.any badKey = true) := Hd (fun h => List.any_eq_true.2 ⟨_, List.getElem_mem hlt, h⟩); have hkl := HKL.out i hlt; have HBK : Hid (badKey m[i] = decide (0 ≤ check m[i].1)) := Hd rfl; obtain ⟨bk, hbk⟩ := Ex (badKey m[i]); have h1 := HTK.out; have h2 := HBX.out; have h3 := HBK.out; rw [hbk] at h1 h2 h3; obtain ⟨key, hkey⟩ := Ex (m[i].1); rw [hkey] at h3 hkl x0
           replace HTK := Hd h1; replace HBX := Hd h2; replace HBK := Hd h3; clear h1 h2 h3 hbk hkey htx hcell; have hkb : (ByteArray.mk key.toArray).size ≤ 140737488355328 := by show key.toArray.size ≤ _; simp; omega
           go_wp2_with (first | (refine wpList_bytes_of_string _ rfl 9 56 5 _ rfl ⟨key.toArray⟩ rfl Tryz.underlying9 Tryz.underlying56 Tryz.underlying5 hkb ?_; intro cap2 w8 hE2 hcap2 hcm2 hsz2 hat2) | fail)
           rw [sx_size] at hcap2; refine (refcheck_any _ key _ (Bytes.mk hat2 rfl hcap2 hcm2 (by rw [sx_size] at hkb; omega))).mono ?_; rintro e w9 ⟨rfl, hw9⟩; have HE9 := Hd (ext_trans HEr.out (ext_trans hE2 hw9)); clear hE2 hw9 hat2 hcap2 hcm2 hsz2 c7 x0; obtain ⟨kk, hkk⟩ := Ex (check key); have h3 := HBK.out; rw [hkk] at h3 ⊢; replace HBK := Hd h3; clear h3 hkk; by_cases hk1 : 0 ≤ kk
           · have HF : Hid (RR = false) := Hd (by rw [← HRR.out, HBX.out (by rw [HBK.out]; exact decide_eq_true hk1)]; rfl); go_wp2_with fail; go_ret; exact ⟨ret_bool HF.out.symm, ext_trans HE.out HE9.out⟩
           · have HN : Hid ((m.take (i + 1)).any badKey = false) := Hd (by rw [HTK.out, HB.out, HBK.out, decide_eq_false hk1]; rfl); have e9 : IntKind.i64.wrap ((i : Int) + 1) = ((i + 1 : Nat) : Int) := by rw [IntWalk.i64_in _ (by omega)]; omega
             go_wp2_with fail; go_roundw
             case rel => exact ⟨i + 1, by go_num, by omega, HE9.out, HN.out⟩
             case measure => simp [intOf]; omega
         · obtain rfl : i = m.length := by omega
           have hnlt : ¬ ((m.length : Int) < (m.length : Int)) := by omega
           have HF : Hid (RR = true) := Hd (by
            have h := HB.out; rw [List.take_length] at h; rw [← HRR.out, h]; rfl)
           go_wp2_with fail; go_ret; exact ⟨ret_bool HF.out.symm, ext_trans HE.out HEr.out⟩
theorem twiceP_no : ∀ (l met : List (List UInt8)), l.Nodup → (∀ k ∈ l, k ∉ met) → twiceP met l = false
 | [], _, _, _ => rfl
 | k :: l, met, h, hd => by
   rw [List.nodup_cons] at h; have h1 : met.contains k = false := by
    have := hd k (by simp); simpa using this
   rw [twiceP, h1, Bool.false_or]; refine twiceP_no l _ h.2 (fun x hx hm => ?_); rcases List.mem_cons.1 hm with rfl | hm
   · exact h.1 hx
   · exact hd x (by simp [hx]) hm
theorem twiceP_yes {l : List (List UInt8)} {i j : Nat} (hi : i < l.length) (hj : j < i) (he : l[i] = l[j]) : twiceP [] l = true := by
 cases hb : twiceP [] l with
 | true => rfl
 | false =>
   have hn := (twiceP_nodup l [] hb).1; have := (List.pairwise_iff_getElem.1 hn) j i (by omega) hi hj; exact absurd he.symm this
set_option maxHeartbeats 6400000 in
theorem r3twice_any (t : Tree) (c : Array Value) (A : Nat → Prop) (w : World) (ht : TV w A t c) (hl : t.mems.length ≤ 1000000) :
 Calls Tryz.prog 132 #[.agg c] w (fun e w' => e = .returned (.bool (twiceP [] (t.mems.map (·.1)))) ∧ Ext w w') := by
 obtain ⟨R, hR⟩ := Ex (twiceP [] (t.mems.map (·.1))); rw [hR]; have HR := Hd hR; clear hR; cases ht with
 | mk htl hrl htm hrm =>
 rename_i kd b d s l m vL vM cl cm
 obtain ⟨_, a1, p1, rfl, hp1, hq1, _⟩ := id hrl; obtain ⟨_, a2, p2, rfl, hp2, hq2, _⟩ := id hrm; replace HR : Hid (twiceP [] (m.map (·.1)) = R) := HR; replace hl : m.length ≤ 1000000 := hl; obtain ⟨wA, ewA⟩ : ∃ W, w.alloc (.cells (cellsV kd b d s (.slice a1 l.length p1) (.slice a2 m.length p2)) 27) = W := ⟨_, rfl⟩
 have nwA : wA.heap[w.heap.size]? = some (.cells (cellsV kd b d s (.slice a1 l.length p1) (.slice a2 m.length p2)) 27) := by rw [← ewA]; exact heap_alloc_new _ _
 have xwA : Ext w wA := by rw [← ewA]; exact (ext_refl _).alloc (Nat.le_refl _) _
 have swA : wA.heap.size = w.heap.size + 1 := by rw [← ewA]; simp
 have HC : Hid (VAt wA w.heap.size (cellsV kd b d s (.slice a1 l.length p1) (.slice a2 m.length p2))) := Hd nwA; have HE := Hd xwA; have EA := Hd ewA; have HTM := Hd (htm.keep (w' := wA) (A' := fun _ => True) xwA.size (fun g _ hlt => ⟨trivial, xwA.block g hlt⟩)); have HRM := Hd (hrm.keep (w' := wA) (A' := fun _ => True) xwA.size (fun g _ hlt => ⟨trivial, xwA.block g hlt⟩))
 clear nwA xwA ewA swA htl hrl htm hrm; simp only [cellsV] at HC EA ⊢; go_enter Tryz.func132, Tryz.ntmps132
 go_upto_region 1 with fail; rw [EA.out]; obtain ⟨S, hS⟩ := Ex w.heap.size; rw [hS] at HC ⊢; have HS := Hd hS; clear hS EA; obtain ⟨c0, c1, c2, c3, c4, c5, c6, c7⟩ := HC.out.c8; clear c0 c1 c2 c3 c4 c5 c6; clear c7; go_wp2_with fail
 go_loopw [3] (fun iv wr => ∃ i : Nat, iv = .int .i64 i ∧ i ≤ m.length ∧ Ext wA wr ∧ ∀ x y (hx : x < i) (hy : y < x) (h : x < m.length), m[x].1 ≠ m[y].1) (fun iv _ => 2000000 - (intOf iv).toNat)
 case atStart => exact ⟨0, rfl, by omega, ext_refl _, fun x y hx => absurd hx (Nat.not_lt_zero x)⟩
 case round =>
  obtain ⟨i, rfl, hi, hEr, hne⟩ := hrel; have HEr := Hd hEr; have HNE := Hd hne; clear hEr hne; have c7 := (HC.out.ext HEr.out).cell 7; simp at c7; by_cases hlt : i < m.length
  · have hlti : (i : Int) < m.length := by omega
    have hi0 : (0 : Int) ≤ i := by omega
    have e9 : IntKind.i64.wrap ((i : Int) + 1) = ((i + 1 : Nat) : Int) := by rw [IntWalk.i64_in _ (by omega)]; omega
    go_wp2_with fail; clear c7; go_loopw [4] (fun jv wx => ∃ j : Nat, jv = .int .i64 j ∧ j ≤ i ∧ Ext wr wx ∧ ∀ y (hy : y < j) (h : y < m.length), m[i].1 ≠ m[y].1) (fun jv _ => 2000000 - (intOf jv).toNat)
    case atStart => exact ⟨0, rfl, by omega, ext_refl _, fun y hy _ => absurd hy (Nat.not_lt_zero y)⟩
    case round =>
     obtain ⟨j, rfl, hj, hEx, hnj⟩ := hrel; have HEx := Hd (ext_trans HEr.out hEx); have HEX0 := Hd hEx; have HNJ := Hd hnj; clear hEx hnj; by_cases hlj : j < i
     · have hlji : (j : Int) < i := by omega
       have hj0 : (0 : Int) ≤ j := by omega
       have hjm : j < m.length := by omega
       have hjmi : (j : Int) < m.length := by omega
       obtain ⟨g, o, xk, xb, xd, xs, xa1, xn1, xc1, xa2, xn2, xc2, ea, htx, hcx⟩ := mem_elem HRM.out HTM.out rfl i hlt; obtain ⟨g', o', yk, yb, yd, ys, ya1, yn1, yc1, ya2, yn2, yc2, ea', hty, hcy⟩ := mem_elem HRM.out HTM.out rfl j hjm; subst ea; simp only [Option.some.injEq, Addr.mk.injEq, and_true] at ea'; obtain ⟨rfl, rfl⟩ := ea'; obtain ⟨kx, hkx⟩ := Ex (m[i].1); obtain ⟨ky, hky⟩ := Ex (m[j].1)
       rw [hkx] at hcx; rw [hky] at hcy; have HF : Hid (∀ w', Ext wA w' → w'.cell? ⟨g, o + i * 9, none⟩ = some (.string ⟨kx.toArray⟩) ∧ w'.cell? ⟨g, o + j * 9, none⟩ = some (.string ⟨ky.toArray⟩)) := Hd (fun w' hw => ⟨(hcx w' (fun g _ hg => hw.block g hg)).1, (hcy w' (fun g _ hg => hw.block g hg)).1⟩); have HKX := Hd hkx; have HKY := Hd hky
       have e8 : IntKind.i64.wrap ((j : Int) + 1) = ((j + 1 : Nat) : Int) := by rw [IntWalk.i64_in _ (by omega)]; omega
       clear hcx hcy htx hty hkx hky; obtain ⟨bq, hbq⟩ := Ex ((kx == ky)); go_upto_region 7 with fail; refine Grow.wp_region_litW (G := Ext) (B := fun w' => Ext wr w') (anc := fun _ => []) (I := fun j => none) (by kernel_rfl) (by kernel_rfl) (by kernel_rfl) ?_ ?_ ?_
       · exact fun w w' h hg => ext_trans h hg
       · exact (ext_refl _).drew
       repeat
        (refine Grow.Wk.step (fun K hK => ?_)
         first
         | (refine Grow.step_read (by rfl) (by rfl) (fun w => ext_refl w) ?_
            apply Exists.intro; refine ⟨fun w hB hF => ?_, ?_⟩
            · first | (replace hB : Ext _ w := hB; have c7 := (HC.out.ext (ext_trans HEx.out hB)).cell 7; simp at c7; obtain ⟨x0, y0⟩ := HF.out w (ext_trans HEx.out hB)) | skip
              go_simp; try exact rfl
            go_simp; refine hK _ _ ?_; clear hK K)
         | (refine Grow.step_off (by rfl) ?_
            go_simp; refine hK _ _ ?_; clear hK K))
       refine Grow.Wk.nil ?_; intro wv hB hF; replace hB : Ext wr wv := hB; have HB := Hd (ext_trans HEX0.out hB); clear hB hF; cases bq with
       | true =>
         have hke : kx = ky := by simpa using hbq
         have HRT : Hid (R = true) := Hd (by
          rw [← HR.out]; refine twiceP_yes (i := i) (j := j) (by simpa using hlt) hlj ?_; simp only [List.getElem_map]; rw [HKX.out, HKY.out, hke])
         go_wp2_with fail; go_ret; exact ⟨ret_bool HRT.out.symm, ext_trans HE.out (ext_trans HEr.out HB.out)⟩
       | false =>
         have hke : kx ≠ ky := by simpa using hbq
         have HKE : Hid (m[i].1 ≠ m[j].1) := Hd (by rw [HKX.out, HKY.out]; exact hke); clear hke; go_wp2_with fail; go_roundw
         case rel => exact ⟨j + 1, by go_num, by omega, HB.out, fun y hy h => by
          by_cases e : y = j
          · subst e; exact HKE.out
          · exact HNJ.out y (by omega) h⟩
         case measure => simp [intOf]; omega
     · obtain rfl : j = i := by omega
       have hnlt : ¬ ((j : Int) < (j : Int)) := by omega
       go_wp2_with fail; go_roundw
       case rel => exact ⟨j + 1, by go_num, by omega, HEx.out, fun x y hx hy h => by
        by_cases e : x = j
        · subst e; exact HNJ.out y hy (by omega)
        · exact HNE.out x y (by omega) hy h⟩
       case measure => simp [intOf]; omega
  · obtain rfl : i = m.length := by omega
    have hnlt : ¬ ((m.length : Int) < (m.length : Int)) := by omega
    have HRF : Hid (R = false) := Hd (by
     rw [← HR.out]; refine twiceP_no _ _ ?_ (by simp); refine List.pairwise_iff_getElem.2 (fun x y hx hy hxy => ?_); simp only [List.getElem_map]; have hy' : y < m.length := by simpa using hy
     exact fun e => HNE.out y x hy' hxy hy' e.symm)
    go_wp2_with fail; go_ret; exact ⟨ret_bool HRF.out.symm, ext_trans HE.out HEr.out⟩
def r3ret (p : Int × Nat) : Int := if p.1 = 0 then (p.2 : Int) else 0
theorem r3own_t (t : Tree) (c : Array Value) (A : Nat → Prop) (w : World) (ht : TV w A t c) (hw : weightT t ≤ 1000000) :
 Calls Tryz.prog 131 #[.agg c] w (fun e w' => e = .returned (.bool (fieldsT t)) ∧ Ext w w') := by
 cases t with
 | mk k b d s l m => rw [own_fields]; exact r3own_any k b d s l m c A w ht hw
theorem ins_list {t : Tree} {i : Nat} (h : i < t.ins.length) (h1 : i < t.list.length) : t.ins[i] = t.list[i] := by
 simp only [Tree.ins]; rw [List.getElem_append_left h1]
theorem ins_mems {t : Tree} {i : Nat} (h : i < t.ins.length) (h1 : ¬ i < t.list.length) (h2 : i - t.list.length < t.mems.length) : t.ins[i] = (t.mems[i - t.list.length]).2 := by
 simp only [Tree.ins]; rw [List.getElem_append_right (by omega), List.getElem_map]
def R3S (t : Tree) : Prop := ∀ (c : Array Value) (A : Nat → Prop) (deep n : Nat) (w : World), weightT t ≤ 1000000 → deep + countT t ≤ 1000000000 → n + countT t ≤ 1000000000 → TV w A t c →
    Calls Tryz.prog 96 #[.agg c, .int .i64 (deep : Nat), .int .i64 (n + 1 : Nat)] w (fun e w' => e = .returned (.tuple #[.int .i64 (r3ret (saneT deep n t)), .int .i64 (saneT deep n t).1]) ∧ Ext w w')
set_option maxHeartbeats 12800000 in
theorem r3sane_step (t : Tree) (ih : ∀ x ∈ t.ins, R3S x) : R3S t := by
 intro c A deep n w hwt hdp hnn h; have IH := Hd ih; clear ih; obtain ⟨R, hR⟩ := Ex (saneT deep n t); rw [hR]; rw [saneT_ins] at hR; have HRR := Hd hR; clear hR; obtain ⟨k, b, d, s, la, ln, lc, ma, mn, mc, rfl⟩ := h.eight; obtain ⟨wA, ewA⟩ : ∃ W, w.alloc (.cells (cellsV k b d s (.slice la ln lc) (.slice ma mn mc)) 27) = W := ⟨_, rfl⟩
 have nwA : wA.heap[w.heap.size]? = some (.cells (cellsV k b d s (.slice la ln lc) (.slice ma mn mc)) 27) := by rw [← ewA]; exact heap_alloc_new _ _
 have xwA : Ext w wA := by rw [← ewA]; exact (ext_refl _).alloc (Nat.le_refl _) _
 have swA : wA.heap.size = w.heap.size + 1 := by rw [← ewA]; simp
 have HC : Hid (VAt wA w.heap.size (cellsV k b d s (.slice la ln lc) (.slice ma mn mc))) := Hd nwA; have HE := Hd xwA; have EA := Hd ewA; have HT := Hd (h.keep (w' := wA) (A' := fun _ => True) xwA.size (fun g _ hlt => ⟨trivial, xwA.block g hlt⟩)); have HWT := Hd hwt; have HB : Hid (deep + countT t ≤ 1000000000 ∧ n + countT t ≤ 1000000000) := Hd ⟨hdp, hnn⟩; have hpos := countT_pos t
 clear nwA xwA ewA swA h hwt; simp only [cellsV] at HC EA ⊢; go_enter Tryz.func96, Tryz.ntmps96
 go_upto_region 1 with fail; rw [EA.out]; obtain ⟨S, hS⟩ := Ex w.heap.size; rw [hS] at HC ⊢; have HS := Hd hS; clear hS EA; obtain ⟨c0, c1, c2, c3, c4, c5, c6, c7⟩ := HC.out.c8; go_wp2_with fail; refine (r3own_t t _ _ wA HT.out HWT.out).mono ?_; rintro e w3 ⟨rfl, hw3⟩; clear c0 c1 c2 c3 c4 c5 c6 c7
 replace HT := Hd (HT.out.keep (w' := w3) (A' := fun _ => True) hw3.size (fun g _ hlt => ⟨trivial, hw3.block g hlt⟩)); replace HC := Hd (HC.out.ext hw3); replace HE := Hd (ext_trans HE.out hw3); clear hw3; have hrr := HRR.out; obtain ⟨B, hB⟩ := Ex (fieldsT t); rw [hB] at hrr ⊢; clear hB; cases B with
 | false =>
   have HF : Hid (R = (1, n + 1)) := Hd (by rw [← hrr, if_pos rfl]); clear hrr; go_wp2_with fail; go_ret2; rw [HF.out]; exact ⟨rfl, HE.out⟩
 | true =>
 rw [if_neg (by decide)] at hrr; replace HRR := Hd hrr; clear hrr; have hcl := countT_ins t; have hll := countL_len t.ins; have hil := ins_len t; have hcw := count_weight t; have HML : Hid (t.mems.length ≤ 1000000) := Hd (by have := HWT.out; omega); have hLM : t.list.length + t.mems.length ≤ 1000000 := by have := HWT.out; omega
 clear hcl hll hcw hil; obtain ⟨c0, c1, c2, c3, c4, c5, c6, c7⟩ := HC.out.c8; go_wp2_with fail; refine (r3twice_any t _ _ w3 HT.out HML.out).mono ?_; rintro e w4 ⟨rfl, hw4⟩; clear c0 c1 c2 c3 c4 c5 c6 c7; replace HT := Hd (HT.out.keep (w' := w4) (A' := fun _ => True) hw4.size (fun g _ hlt => ⟨trivial, hw4.block g hlt⟩)); replace HC := Hd (HC.out.ext hw4); replace HE := Hd (ext_trans HE.out hw4)
 clear hw4; have hrr := HRR.out; obtain ⟨B, hB⟩ := Ex (twiceP [] (t.mems.map (·.1))); rw [hB] at hrr ⊢; clear hB; cases B with
 | true =>
   have HF : Hid (R = (7, n + 1)) := Hd (by rw [← hrr, if_pos rfl]); clear hrr; go_wp2_with fail; go_ret2; rw [HF.out]; exact ⟨rfl, HE.out⟩
 | false =>
 obtain ⟨cl, cm, htl, hrl, htm, hrm, hk, -⟩ := tv_rows HT.out; obtain ⟨_, a2, c2, ea, -⟩ := id hrm; simp only [Value.slice.injEq] at ea; obtain ⟨rfl, emn, rfl⟩ := ea; obtain ⟨_, a1, c1, ea, -⟩ := id hrl; simp only [Value.slice.injEq] at ea; obtain ⟨rfl, eln, rfl⟩ := ea; have HLN : Hid (ln = t.list.length ∧ mn = t.mems.length) := Hd ⟨eln, emn⟩; have HTL := Hd htl; have HRL := Hd hrl
 have HTM := Hd htm; have HRM := Hd hrm; rw [if_neg (by decide), ← hk] at hrr; replace HRR := Hd hrr; clear hrr htl hrl htm hrm hk; have c0 := HC.out.cell 0; simp at c0; have hdd : deep ≤ 1000000000 := by have := HB.out; omega
 have hnd : n ≤ 1000000000 := by have := HB.out; omega
 by_cases hkd : 4 ≤ k ∧ 64 ≤ deep
 · have HF : Hid (R = (3, n + 1)) := Hd (by rw [← HRR.out, if_pos hkd]); obtain ⟨hk4, hd64⟩ := hkd; have hdi : (64 : Int) ≤ deep := by omega
   clear eln emn; go_wp2_with fail; go_ret2; rw [HF.out]; exact ⟨rfl, HE.out⟩
 have hrr := HRR.out; rw [if_neg hkd] at hrr; replace HRR := Hd hrr; clear hrr; by_cases hn4 : 4096 < n + 1
 · have HF : Hid (R = (4, n + 1)) := Hd (by rw [← HRR.out, if_pos hn4]); have hni : (4096 : Int) < (n + 1 : Nat) := by omega
   clear eln emn; by_cases hk4 : 4 ≤ k
   · have hd64 : ¬ (64 : Int) ≤ deep := by omega
     go_wp2_with fail; go_ret2; rw [HF.out]; exact ⟨rfl, HE.out⟩
   · go_wp2_with fail; go_ret2; rw [HF.out]; exact ⟨rfl, HE.out⟩
 have hrr := HRR.out; rw [if_neg hn4] at hrr; replace HRR := Hd hrr; clear hrr; have hni : ¬ (4096 : Int) < (n + 1 : Nat) := by omega
 have HSB : Hid (∀ i, (saneL (deep + 1) (n + 1) (t.ins.take i)).2 ≤ n + 1 + countL (t.ins.take i)) := Hd (fun i => saneL_bd _ _ _); have HCL : Hid (countT t = countL t.ins + 1) := Hd (countT_ins t); have hil := ins_len t; rw [← eln, ← emn] at hil; rw [← eln, ← emn] at hLM; have HKD : Hid (¬ (4 ≤ k ∧ 64 ≤ deep)) := Hd hkd; have HN4 := Hd hn4; obtain ⟨l, hl⟩ := Ex t.ins; have HLL := Hd hl
 have HNS : Hid (∀ i (hi : i < l.length), R3S l[i] ∧ weightT l[i] ≤ 1000000 ∧ deep + 1 + countT l[i] ≤ 1000000000 ∧ n + 1 + countL (l.take i) + countT l[i] ≤ 1000000000) := Hd (by
  intro i hi; subst hl; have h2 := HB.out; have h3 := weight_ins hi; have h4 := HWT.out; have h5 := countL_mem hi; have h6 := countT_ins t; have h7 := countL_take t.ins i hi; have h8 := countL_take_le t.ins (i + 1); exact ⟨IH.out _ (List.getElem_mem hi), by omega, by omega, by omega⟩)
 have hsb := HSB.out; have hrr := HRR.out; rw [hl] at hsb hrr hil; have hclx := HCL.out; rw [hl] at hclx; replace HCL := Hd hclx; clear hclx; replace HSB := Hd hsb; replace HRR := Hd hrr; have HIL := Hd hil; clear hil hsb hrr hl hn4 hkd eln emn; by_cases hk4 : 4 ≤ k
 · have hd64 : ¬ (64 : Int) ≤ deep := by have := HKD.out; omega
   go_wp2_with fail; clear c0; go_loopw [2, 8] (fun nv iv wr => ∃ i ni : Nat, iv = .int .i64 i ∧ i ≤ l.length ∧ (saneL (deep + 1) (n + 1) (l.take i)).1 = 0 ∧ nv = .int .i64 ni ∧ (saneL (deep + 1) (n + 1) (l.take i)).2 = ni ∧ Ext w4 wr) (fun _ iv _ => 20000000 - (intOf iv).toNat)
   case atStart => exact ⟨0, n + 1, rfl, by omega, by rw [List.take_zero, saneL], rfl, by rw [List.take_zero, saneL], ext_refl _⟩
   case round =>
    obtain ⟨i, ni, rfl, hi, hz, rfl, hni, hE⟩ := hrel; have HZ := Hd hz; have HEr := Hd hE; have HNN := Hd hni; have hnb : ni ≤ 2000000000 := by have := HSB.out i; have := countL_take_le l i; have := HB.out; have := HCL.out; omega
    clear hz hE hni; have c6 := (HC.out.ext HEr.out).cell 6; have c7 := (HC.out.ext HEr.out).cell 7; simp at c6 c7; have esum : IntKind.i64.wrap ((ln : Int) + mn) = (l.length : Int) := by have := HIL.out; rw [IntWalk.i64_in _ (by omega)]; omega
    have e9 : IntKind.i64.wrap ((i : Int) + 1) = ((i + 1 : Nat) : Int) := by have := HIL.out; rw [IntWalk.i64_in _ (by omega)]; omega
    by_cases hlt : i < l.length
    · have hlti : (i : Int) < l.length := by omega
      have hi0 : (0 : Int) ≤ i := by omega
      have HNI := Hd (HNS.out i hlt); have HSI := Hd (HSB.out i); have HTK := Hd (saneL_take (deep + 1) (n + 1) hlt HZ.out); have HAT := Hd (saneL_at (deep + 1) (n + 1) hlt HZ.out); obtain ⟨X, hX⟩ := Ex (l[i]); have HXX := Hd hX; have hni := HNI.out; have hsi := HSI.out; have htk := HTK.out; have hat := HAT.out; rw [hX] at hni hat htk; rw [HNN.out] at hsi htk hat; replace HNI := Hd hni
      replace HSI := Hd hsi; replace HTK := Hd htk; replace HAT := Hd hat; clear hX hni hsi htk hat; go_upto_region 12 with fail; obtain ⟨wX, ewX⟩ : ∃ W, wr.alloc (.cells zeroV 27) = W := ⟨_, rfl⟩
      have nwX : wX.heap[wr.heap.size]? = some (.cells zeroV 27) := by rw [← ewX]; exact heap_alloc_new _ _
      have xwX : Ext wr wX := by rw [← ewX]; exact (ext_refl _).alloc (Nat.le_refl _) _
      have swX : wX.heap.size = wr.heap.size + 1 := by rw [← ewX]; simp
      have HVX : Hid (VAt wX wr.heap.size zeroV) := Hd nwX; have HEX := Hd xwX; have EX := Hd ewX; clear nwX xwX swX ewX; simp only [cellsV, zeroV, noL, Num.zero] at HVX EX; go_upto_region 13 with fail; rw [EX.out]; obtain ⟨P, hP⟩ := Ex wr.heap.size; rw [hP] at HVX ⊢; have HP := Hd hP; clear hP EX c6 c7; have c6 := (HC.out.ext (ext_trans HEr.out HEX.out)).cell 6
      have c7 := (HC.out.ext (ext_trans HEr.out HEX.out)).cell 7; simp at c6 c7; go_upto_if 46 with fail
      go_cut [] (fun wx => ∃ cx, VAt wx P cx ∧ TV wx (fun _ => True) X cx ∧ Ext wr wx)
      case first =>
       by_cases hll : i < ln
       · have hlli : (i : Int) < ln := by omega
         have hil : i < t.list.length := by have := HLN.out.1; omega
         obtain ⟨g, o, xk, xb, xd, xs, xa1, xn1, xc1, xa2, xn2, xc2, rfl, htx, hcell⟩ := row_elem HRL.out HTL.out rfl i hil; have HTX : Hid (TV wX (fun g => g < P) X (cellsV xk xb xd xs (.slice xa1 xn1 xc1) (.slice xa2 xn2 xc2))) := Hd (by
          have e : t.list[i] = X := by rw [← HXX.out]; have := HLL.out; subst this; exact (ins_list hlt hil).symm
          rw [← e]; exact htx.keep (ext_trans HEr.out HEX.out).size (fun g _ hlt => ⟨by have := HEr.out.size; have := HP.out; omega, (ext_trans HEr.out HEX.out).block g hlt⟩))
         obtain ⟨x0, x1, x2, x3, x4, x5, x6, x7⟩ := hcell wX (fun g _ hlt => (ext_trans HEr.out HEX.out).block g hlt); clear htx hcell; obtain ⟨z0, z1, z2, z3, z4, z5, z6, z7⟩ := HVX.out.c8; obtain ⟨f0, f1, f2, f3, f4, f5, f6, f7⟩ := HVX.out.f8; go_wp2_with fail; go_meet
         exact ⟨_, VAt.store8 HVX.out (.int .i64 xk) (.bool xb) (.bool xd.neg) (.string ⟨xd.digits.toArray⟩) (.int .i64 xd.exp) (.string ⟨xs.toArray⟩) (.slice xa1 xn1 xc1) (.slice xa2 xn2 xc2), HTX.out.keep (w' := _) (A' := fun _ => True) (by simp [World.setCell]) (fun g hg _ => ⟨trivial, heap8 (by omega)⟩), ext_set8 HEX.out (by rw [HP.out]; omega)⟩
       · have hlli : ¬ ((i : Int) < ln) := by omega
         have hjm : i - ln < mn := by have := HIL.out; omega
         have hjmi : ((i - ln : Nat) : Int) < mn := by have := HIL.out; omega
         have hj0 : (0 : Int) ≤ ((i - ln : Nat) : Int) := by omega
         have esub : IntKind.i64.wrap ((i : Int) - ln) = ((i - ln : Nat) : Int) := by have := HIL.out; rw [IntWalk.i64_in _ (by omega)]; omega
         obtain ⟨j, hj⟩ := Ex (i - ln); rw [hj] at hjm hjmi hj0 esub; have hil : j < t.mems.length := by have := HLN.out.2; omega
         obtain ⟨g, o, xk, xb, xd, xs, xa1, xn1, xc1, xa2, xn2, xc2, rfl, htx, hcell⟩ := mem_elem HRM.out HTM.out rfl j hil; have HTX : Hid (TV wX (fun g => g < P) X (cellsV xk xb xd xs (.slice xa1 xn1 xc1) (.slice xa2 xn2 xc2))) := Hd (by
          have e : t.mems[j].2 = X := by
           rw [← HXX.out]; have h1 := HLL.out; have h2 := HLN.out.1; subst h1; subst h2; subst hj; exact (ins_mems hlt hll hil).symm
          rw [← e]; exact htx.keep (ext_trans HEr.out HEX.out).size (fun g _ hlt => ⟨by have := HEr.out.size; have := HP.out; omega, (ext_trans HEr.out HEX.out).block g hlt⟩))
         obtain ⟨x8, x0, x1, x2, x3, x4, x5, x6, x7⟩ := hcell wX (fun g _ hlt => (ext_trans HEr.out HEX.out).block g hlt); clear htx hcell x8 hj; obtain ⟨z0, z1, z2, z3, z4, z5, z6, z7⟩ := HVX.out.c8; obtain ⟨f0, f1, f2, f3, f4, f5, f6, f7⟩ := HVX.out.f8; go_wp2_with fail; go_meet
         exact ⟨_, VAt.store8 HVX.out (.int .i64 xk) (.bool xb) (.bool xd.neg) (.string ⟨xd.digits.toArray⟩) (.int .i64 xd.exp) (.string ⟨xs.toArray⟩) (.slice xa1 xn1 xc1) (.slice xa2 xn2 xc2), HTX.out.keep (w' := _) (A' := fun _ => True) (by simp [World.setCell]) (fun g hg _ => ⟨trivial, heap8 (by omega)⟩), ext_set8 HEX.out (by rw [HP.out]; omega)⟩
      case rest =>
       obtain ⟨cx, hvx, htx, hxw⟩ := hcut; obtain ⟨xk, xb, xd, xs, xa1, xn1, xc1, xa2, xn2, xc2, rfl⟩ := htx.eight; have HVP := Hd hvx; have HTX := Hd htx; have HXW := Hd (ext_trans HEr.out hxw); clear hvx htx hxw HVX HEX c6 c7; have e8 : IntKind.i64.wrap ((ni : Int) + 1) = ((ni + 1 : Nat) : Int) := by rw [IntWalk.i64_in _ (by omega)]; omega
       have e7 : IntKind.i64.wrap ((deep : Int) + 1) = ((deep + 1 : Nat) : Int) := by rw [IntWalk.i64_in _ (by omega)]; omega
       obtain ⟨c0, c1, c2, c3, c4, c5, c6, c7⟩ := HVP.out.c8; go_wp2_with fail; refine (HNI.out.1 _ (fun _ => True) (deep + 1) ni wc HNI.out.2.1 HNI.out.2.2.1 (by have := HNI.out.2.2.2; have := HSI.out; omega) HTX.out).mono ?_; rintro e w7 ⟨rfl, hw7⟩; have HX7 := Hd (ext_trans HXW.out hw7); clear hw7; clear c0 c1 c2 c3 c4 c5 c6 c7; obtain ⟨Q, hQ⟩ := Ex (saneT (deep + 1) ni X); have htk := HTK.out
       have hat := HAT.out; rw [hQ] at htk hat ⊢; replace HTK := Hd htk; replace HAT := Hd hat; clear hQ htk hat; obtain ⟨er, n2⟩ := Q; simp only [r3ret] at HAT HTK ⊢; by_cases her : er = 0
       · subst her; go_wp2_with fail; go_roundw
         case rel => exact ⟨i + 1, n2, by go_num, by omega, by rw [HTK.out], by simp, by rw [HTK.out], HX7.out⟩
         case measure => have := HIL.out; simp [intOf]; omega
       · have hern : (er != 0) = true := by simpa using her
         have HF : Hid (R = (er, n2)) := Hd (by rw [← HRR.out, HAT.out, if_neg her]); have HER : Hid (r3ret (er, n2) = 0) := Hd (by unfold r3ret; exact if_neg her); go_wp2_with fail; go_ret2; rw [HF.out, HER.out]; exact ⟨rfl, ext_trans HE.out HX7.out⟩
    · obtain rfl : i = l.length := by omega
      have hnlt : ¬ ((l.length : Int) < (l.length : Int)) := by omega
      have HF : Hid (R.1 = 0 ∧ r3ret R = ni) := Hd (by
       have h1 := HZ.out; have h2 := HNN.out; rw [List.take_length] at h1 h2; rw [← HRR.out]; exact ⟨h1, by unfold r3ret; rw [if_pos h1, h2]⟩)
      go_wp2_with fail; go_ret2; rw [HF.out.1, HF.out.2]; exact ⟨rfl, ext_trans HE.out HEr.out⟩
 · go_wp2_with fail; clear c0; go_loopw [2, 8] (fun nv iv wr => ∃ i ni : Nat, iv = .int .i64 i ∧ i ≤ l.length ∧ (saneL (deep + 1) (n + 1) (l.take i)).1 = 0 ∧ nv = .int .i64 ni ∧ (saneL (deep + 1) (n + 1) (l.take i)).2 = ni ∧ Ext w4 wr) (fun _ iv _ => 20000000 - (intOf iv).toNat)
   case atStart => exact ⟨0, n + 1, rfl, by omega, by rw [List.take_zero, saneL], rfl, by rw [List.take_zero, saneL], ext_refl _⟩
   case round =>
    obtain ⟨i, ni, rfl, hi, hz, rfl, hni, hE⟩ := hrel; have HZ := Hd hz; have HEr := Hd hE; have HNN := Hd hni; have hnb : ni ≤ 2000000000 := by have := HSB.out i; have := countL_take_le l i; have := HB.out; have := HCL.out; omega
    clear hz hE hni; have c6 := (HC.out.ext HEr.out).cell 6; have c7 := (HC.out.ext HEr.out).cell 7; simp at c6 c7; have esum : IntKind.i64.wrap ((ln : Int) + mn) = (l.length : Int) := by have := HIL.out; rw [IntWalk.i64_in _ (by omega)]; omega
    have e9 : IntKind.i64.wrap ((i : Int) + 1) = ((i + 1 : Nat) : Int) := by have := HIL.out; rw [IntWalk.i64_in _ (by omega)]; omega
    by_cases hlt : i < l.length
    · have hlti : (i : Int) < l.length := by omega
      have hi0 : (0 : Int) ≤ i := by omega
      have HNI := Hd (HNS.out i hlt); have HSI := Hd (HSB.out i); have HTK := Hd (saneL_take (deep + 1) (n + 1) hlt HZ.out); have HAT := Hd (saneL_at (deep + 1) (n + 1) hlt HZ.out); obtain ⟨X, hX⟩ := Ex (l[i]); have HXX := Hd hX; have hni := HNI.out; have hsi := HSI.out; have htk := HTK.out; have hat := HAT.out; rw [hX] at hni hat htk; rw [HNN.out] at hsi htk hat; replace HNI := Hd hni
      replace HSI := Hd hsi; replace HTK := Hd htk; replace HAT := Hd hat; clear hX hni hsi htk hat; go_upto_region 12 with fail; obtain ⟨wX, ewX⟩ : ∃ W, wr.alloc (.cells zeroV 27) = W := ⟨_, rfl⟩
      have nwX : wX.heap[wr.heap.size]? = some (.cells zeroV 27) := by rw [← ewX]; exact heap_alloc_new _ _
      have xwX : Ext wr wX := by rw [← ewX]; exact (ext_refl _).alloc (Nat.le_refl _) _
      have swX : wX.heap.size = wr.heap.size + 1 := by rw [← ewX]; simp
      have HVX : Hid (VAt wX wr.heap.size zeroV) := Hd nwX; have HEX := Hd xwX; have EX := Hd ewX; clear nwX xwX swX ewX; simp only [cellsV, zeroV, noL, Num.zero] at HVX EX; go_upto_region 13 with fail; rw [EX.out]; obtain ⟨P, hP⟩ := Ex wr.heap.size; rw [hP] at HVX ⊢; have HP := Hd hP; clear hP EX c6 c7; have c6 := (HC.out.ext (ext_trans HEr.out HEX.out)).cell 6
      have c7 := (HC.out.ext (ext_trans HEr.out HEX.out)).cell 7; simp at c6 c7; go_upto_if 46 with fail
      go_cut [] (fun wx => ∃ cx, VAt wx P cx ∧ TV wx (fun _ => True) X cx ∧ Ext wr wx)
      case first =>
       by_cases hll : i < ln
       · have hlli : (i : Int) < ln := by omega
         have hil : i < t.list.length := by have := HLN.out.1; omega
         obtain ⟨g, o, xk, xb, xd, xs, xa1, xn1, xc1, xa2, xn2, xc2, rfl, htx, hcell⟩ := row_elem HRL.out HTL.out rfl i hil; have HTX : Hid (TV wX (fun g => g < P) X (cellsV xk xb xd xs (.slice xa1 xn1 xc1) (.slice xa2 xn2 xc2))) := Hd (by
          have e : t.list[i] = X := by rw [← HXX.out]; have := HLL.out; subst this; exact (ins_list hlt hil).symm
          rw [← e]; exact htx.keep (ext_trans HEr.out HEX.out).size (fun g _ hlt => ⟨by have := HEr.out.size; have := HP.out; omega, (ext_trans HEr.out HEX.out).block g hlt⟩))
         obtain ⟨x0, x1, x2, x3, x4, x5, x6, x7⟩ := hcell wX (fun g _ hlt => (ext_trans HEr.out HEX.out).block g hlt); clear htx hcell; obtain ⟨z0, z1, z2, z3, z4, z5, z6, z7⟩ := HVX.out.c8; obtain ⟨f0, f1, f2, f3, f4, f5, f6, f7⟩ := HVX.out.f8; go_wp2_with fail; go_meet
         exact ⟨_, VAt.store8 HVX.out (.int .i64 xk) (.bool xb) (.bool xd.neg) (.string ⟨xd.digits.toArray⟩) (.int .i64 xd.exp) (.string ⟨xs.toArray⟩) (.slice xa1 xn1 xc1) (.slice xa2 xn2 xc2), HTX.out.keep (w' := _) (A' := fun _ => True) (by simp [World.setCell]) (fun g hg _ => ⟨trivial, heap8 (by omega)⟩), ext_set8 HEX.out (by rw [HP.out]; omega)⟩
       · have hlli : ¬ ((i : Int) < ln) := by omega
         have hjm : i - ln < mn := by have := HIL.out; omega
         have hjmi : ((i - ln : Nat) : Int) < mn := by have := HIL.out; omega
         have hj0 : (0 : Int) ≤ ((i - ln : Nat) : Int) := by omega
         have esub : IntKind.i64.wrap ((i : Int) - ln) = ((i - ln : Nat) : Int) := by have := HIL.out; rw [IntWalk.i64_in _ (by omega)]; omega
         obtain ⟨j, hj⟩ := Ex (i - ln); rw [hj] at hjm hjmi hj0 esub; have hil : j < t.mems.length := by have := HLN.out.2; omega
         obtain ⟨g, o, xk, xb, xd, xs, xa1, xn1, xc1, xa2, xn2, xc2, rfl, htx, hcell⟩ := mem_elem HRM.out HTM.out rfl j hil; have HTX : Hid (TV wX (fun g => g < P) X (cellsV xk xb xd xs (.slice xa1 xn1 xc1) (.slice xa2 xn2 xc2))) := Hd (by
          have e : t.mems[j].2 = X := by
           rw [← HXX.out]; have h1 := HLL.out; have h2 := HLN.out.1; subst h1; subst h2; subst hj; exact (ins_mems hlt hll hil).symm
          rw [← e]; exact htx.keep (ext_trans HEr.out HEX.out).size (fun g _ hlt => ⟨by have := HEr.out.size; have := HP.out; omega, (ext_trans HEr.out HEX.out).block g hlt⟩))
         obtain ⟨x8, x0, x1, x2, x3, x4, x5, x6, x7⟩ := hcell wX (fun g _ hlt => (ext_trans HEr.out HEX.out).block g hlt); clear htx hcell x8 hj; obtain ⟨z0, z1, z2, z3, z4, z5, z6, z7⟩ := HVX.out.c8; obtain ⟨f0, f1, f2, f3, f4, f5, f6, f7⟩ := HVX.out.f8; go_wp2_with fail; go_meet
         exact ⟨_, VAt.store8 HVX.out (.int .i64 xk) (.bool xb) (.bool xd.neg) (.string ⟨xd.digits.toArray⟩) (.int .i64 xd.exp) (.string ⟨xs.toArray⟩) (.slice xa1 xn1 xc1) (.slice xa2 xn2 xc2), HTX.out.keep (w' := _) (A' := fun _ => True) (by simp [World.setCell]) (fun g hg _ => ⟨trivial, heap8 (by omega)⟩), ext_set8 HEX.out (by rw [HP.out]; omega)⟩
      case rest =>
       obtain ⟨cx, hvx, htx, hxw⟩ := hcut; obtain ⟨xk, xb, xd, xs, xa1, xn1, xc1, xa2, xn2, xc2, rfl⟩ := htx.eight; have HVP := Hd hvx; have HTX := Hd htx; have HXW := Hd (ext_trans HEr.out hxw); clear hvx htx hxw HVX HEX c6 c7; have e8 : IntKind.i64.wrap ((ni : Int) + 1) = ((ni + 1 : Nat) : Int) := by rw [IntWalk.i64_in _ (by omega)]; omega
       have e7 : IntKind.i64.wrap ((deep : Int) + 1) = ((deep + 1 : Nat) : Int) := by rw [IntWalk.i64_in _ (by omega)]; omega
       obtain ⟨c0, c1, c2, c3, c4, c5, c6, c7⟩ := HVP.out.c8; go_wp2_with fail; refine (HNI.out.1 _ (fun _ => True) (deep + 1) ni wc HNI.out.2.1 HNI.out.2.2.1 (by have := HNI.out.2.2.2; have := HSI.out; omega) HTX.out).mono ?_; rintro e w7 ⟨rfl, hw7⟩; have HX7 := Hd (ext_trans HXW.out hw7); clear hw7; clear c0 c1 c2 c3 c4 c5 c6 c7; obtain ⟨Q, hQ⟩ := Ex (saneT (deep + 1) ni X); have htk := HTK.out
       have hat := HAT.out; rw [hQ] at htk hat ⊢; replace HTK := Hd htk; replace HAT := Hd hat; clear hQ htk hat; obtain ⟨er, n2⟩ := Q; simp only [r3ret] at HAT HTK ⊢; by_cases her : er = 0
       · subst her; go_wp2_with fail; go_roundw
         case rel => exact ⟨i + 1, n2, by go_num, by omega, by rw [HTK.out], by simp, by rw [HTK.out], HX7.out⟩
         case measure => have := HIL.out; simp [intOf]; omega
       · have hern : (er != 0) = true := by simpa using her
         have HF : Hid (R = (er, n2)) := Hd (by rw [← HRR.out, HAT.out, if_neg her]); have HER : Hid (r3ret (er, n2) = 0) := Hd (by unfold r3ret; exact if_neg her); go_wp2_with fail; go_ret2; rw [HF.out, HER.out]; exact ⟨rfl, ext_trans HE.out HX7.out⟩
    · obtain rfl : i = l.length := by omega
      have hnlt : ¬ ((l.length : Int) < (l.length : Int)) := by omega
      have HF : Hid (R.1 = 0 ∧ r3ret R = ni) := Hd (by
       have h1 := HZ.out; have h2 := HNN.out; rw [List.take_length] at h1 h2; rw [← HRR.out]; exact ⟨h1, by unfold r3ret; rw [if_pos h1, h2]⟩)
      go_wp2_with fail; go_ret2; rw [HF.out.1, HF.out.2]; exact ⟨rfl, ext_trans HE.out HEr.out⟩
theorem r3sane_all : ∀ (N : Nat) (t : Tree), SizeOf.sizeOf t < N → R3S t
 | 0, _, h => by omega
 | N + 1, t, h => r3sane_step t (fun x hx => r3sane_all N x (by have := ins_size hx; omega))
set_option maxHeartbeats 1600000 in
theorem r3Sane_any (t : Tree) (c : Array Value) (A : Nat → Prop) (w : World) (hwt : weightT t ≤ 1000000) (h : TV w A t c) :
 Calls Tryz.prog 77 #[.agg c] w (fun e w' => e = .returned (.int .i64 (saneT 0 0 t).1) ∧ Ext w w') := by
 obtain ⟨k, b, d, s, la, ln, lc, ma, mn, mc, rfl⟩ := h.eight; obtain ⟨wA, ewA⟩ : ∃ W, w.alloc (.cells (cellsV k b d s (.slice la ln lc) (.slice ma mn mc)) 27) = W := ⟨_, rfl⟩
 have nwA : wA.heap[w.heap.size]? = some (.cells (cellsV k b d s (.slice la ln lc) (.slice ma mn mc)) 27) := by rw [← ewA]; exact heap_alloc_new _ _
 have xwA : Ext w wA := by rw [← ewA]; exact (ext_refl _).alloc (Nat.le_refl _) _
 have swA : wA.heap.size = w.heap.size + 1 := by rw [← ewA]; simp
 have HC : Hid (VAt wA w.heap.size (cellsV k b d s (.slice la ln lc) (.slice ma mn mc))) := Hd nwA; have HE := Hd xwA; have EA := Hd ewA; have hcw := count_weight t; have HT := Hd (r3sane_all _ t (Nat.lt_succ_self _) _ (fun _ => True) 0 0 wA hwt (by omega) (by omega) (h.keep (w' := wA) (A' := fun _ => True) xwA.size (fun g _ hlt => ⟨trivial, xwA.block g hlt⟩))); clear nwA xwA ewA swA h hwt hcw
 obtain ⟨R, hR⟩ := Ex (saneT 0 0 t); rw [hR] at HT ⊢; clear hR; simp only [cellsV] at HC EA HT ⊢; go_enter Tryz.func77, Tryz.ntmps77
 go_upto_region 1 with fail; rw [EA.out]; obtain ⟨S, hS⟩ := Ex w.heap.size; rw [hS] at HC ⊢; have HS := Hd hS; clear hS EA; obtain ⟨c0, c1, c2, c3, c4, c5, c6, c7⟩ := HC.out.c8; go_wp2_with fail; refine (HT.out).mono ?_; rintro e w3 ⟨rfl, hw3⟩; clear c0 c1 c2 c3 c4 c5 c6 c7; go_wp2_with fail; go_ret; exact ⟨rfl, ext_trans HE.out hw3⟩
end Go.Proofs.YtjapbjmeoaagmaaGreatDoor
end

section
namespace Orange
def Weak (m : List Mem1) : Prop := m.Pairwise (fun a b => keyLess b.1 a.1 = false)
theorem keyLess_le {a b c : List UInt8} (h : keyLess a b = true) (k : keyLess c b = false) : keyLess a c = true := by
 cases e : keyLess b c with
 | true => exact keyLess_trans h e
 | false => rw [← keyLess_tri e k]; exact h
theorem insM_weak (x : Mem1) : ∀ m : List Mem1, Weak m → Weak (insM x m)
 | [], _ => by rw [insM]; exact List.pairwise_singleton _ _
 | y :: m, h => by
   have h' := List.pairwise_cons.1 h; rw [insM]; split
   · next hx =>
     refine List.pairwise_cons.2 ⟨fun z hz => ?_, h⟩; rcases List.mem_cons.1 hz with rfl | hz
     · exact keyLess_asymm hx
     · have h1 := h'.1 z hz; cases e : keyLess z.1 x.1 with
       | false => rfl
       | true => rw [keyLess_trans e hx] at h1; cases h1
   · next hx =>
     refine List.pairwise_cons.2 ⟨fun z hz => ?_, insM_weak x m h'.2⟩; rcases List.mem_cons.1 ((insM_perm x m).mem_iff.1 hz) with rfl | hz
     · simpa using hx
     · exact h'.1 z hz
theorem foldl_weak : ∀ (l acc : List Mem1), Weak acc → Weak (l.foldl (fun acc x => insM x acc) acc)
 | [], _, h => h
 | x :: l, acc, h => foldl_weak l _ (insM_weak x acc h)
theorem sortM_weak (m : List Mem1) : Weak (sortM m) := foldl_weak m [] List.Pairwise.nil
theorem sortM_snoc (m : List Mem1) (x : Mem1) : sortM (m ++ [x]) = insM x (sortM m) := by simp [sortM, List.foldl_append]
theorem insM_split (x : Mem1) : ∀ a b : List Mem1, (∀ y ∈ a, keyLess x.1 y.1 = false) → (∀ y, b.head? = some y → keyLess x.1 y.1 = true) → insM x (a ++ b) = a ++ x :: b
 | [], [], _, _ => rfl
 | [], y :: b, _, h => by rw [List.nil_append, insM, if_pos (h y rfl)]; rfl
 | y :: a, b, h, h2 => by
   rw [List.cons_append, insM, if_neg (by simp [h y List.mem_cons_self]), insM_split x a b (fun z hz => h z (List.mem_cons_of_mem _ hz)) h2, List.cons_append]
theorem insM_at {x : Mem1} {m : List Mem1} (hw : Weak m) {k : Nat} (hk : k ≤ m.length) (h1 : ∀ j (h : j < m.length), k ≤ j → keyLess x.1 m[j].1 = true) (h2 : ∀ (h : 0 < k) (h' : k - 1 < m.length), keyLess x.1 (m[k - 1]).1 = false) :
 insM x m = m.take k ++ x :: m.drop k := by
 have h := insM_split x (m.take k) (m.drop k) (fun y hy => ?_) (fun y hy => ?_)
 · rwa [List.take_append_drop] at h
 · obtain ⟨j, hj, rfl⟩ := List.mem_iff_getElem.1 hy; rw [List.length_take] at hj; rw [List.getElem_take]; have h3 := h2 (by omega) (by omega); by_cases e : j = k - 1
   · subst e; exact h3
   · have h4 := List.pairwise_iff_getElem.1 hw j (k - 1) (by omega) (by omega) (by omega); cases e : keyLess x.1 (m[j]'(by omega)).1 with
     | false => rfl
     | true => rw [keyLess_le e h4] at h3; cases h3
 · rw [List.head?_drop] at hy; obtain ⟨hj, rfl⟩ := List.getElem?_eq_some_iff.1 hy; exact h1 k hj (Nat.le_refl _)
end Orange
end

section
set_option maxRecDepth 100000
namespace Go.Proofs.YtjapbjmeoaagmaaGreatDoor
open Go.RowKit Go.Mem Orange
def cells64 (xs : List Int) : List Value := xs.map fun r => Value.int .i64 r
@[simp] theorem cells64_length (xs : List Int) : (cells64 xs).length = xs.length := by simp [cells64]
theorem info64 : (Tryz.prog.info? 3).map (fun i => (i.zero, i.size, i.bytes)) = some (some (.int .i64 0), 1, 8) := by kernel_rfl
set_option maxHeartbeats 1600000 in
theorem refmarks_any (s : ByteArray) (w : World) (hl : s.size ≤ 17592186044416) :
 Calls Tryz.prog 136 #[.string s] w fun e w' => (∃ a c, e = .returned (.slice a (marks s.data.toList).length c) ∧ Row w' (.slice a (marks s.data.toList).length c) (cells64 (marks s.data.toList))) ∧ Ext w w' := by
 go_enter Tryz.func136, Tryz.ntmps136
 go_wp2_with (refine wpList_bytes_of_string _ rfl 9 56 5 _ rfl s rfl Tryz.underlying9 Tryz.underlying56 Tryz.underlying5 (by omega) ?_; intro cap w1 hE1 hcap hcm hsz1 hat)
 have hL : s.data.toList.length = s.size := Array.length_toList; obtain ⟨L, hLe⟩ := Ex s.data.toList; rw [hLe] at hat hL; have HLE := Hd hLe; clear hLe; have hbl : w.heap.size < w1.heap.size := by omega
 clear hsz1; go_loopw [4, 5] (fun v iv wr => ∃ (i : Nat) (done : List Int), i ≤ s.size ∧ done.length ≤ i ∧ iv = .int .i64 i ∧ OwnV wr w1.heap.size 3 v (cells64 done) ∧ Ext w1 wr ∧ marks L = done ++ marks (L.drop i)) (fun _ iv _ => s.size - (intOf iv).toNat)
 case atStart => exact ⟨0, [], by omega, by simp, rfl, OwnV.nil _ _ _, ext_refl _, rfl⟩
 case round =>
  obtain ⟨i, done, hi, hdl, rfl, hown, hb, hc⟩ := hrel; have HC := Hd hc; clear hc; by_cases hlt : i < s.size
  · have hbs : Bytes wr (.slice (some ⟨w.heap.size, i, none⟩) (s.size - i) (cap - i)) (L.drop i) := by
     have := (hat.ext hb).drop i; rw [Nat.zero_add] at this; exact Bytes.mk this (by simp [hL]) (by omega) (by omega) (by omega)
    obtain ⟨x, t, hxt⟩ := drop_cons (show i < L.length by omega); have hcl := marks_cons x t; have hmk : Orange.mark (L.drop i) = if (next (L.drop i)).2 = 0 then 2097152 + (x.toNat : Int) else (next (L.drop i)).1 := by rw [hxt]; rfl
    have hle := next_le (L.drop i); have hbd := next_bd (L.drop i); rw [← hxt] at hcl; have hlen : (L.drop i).length = s.size - i := by simp [hL]
    rw [hlen] at hle; have had : adv (L.drop i) = if (next (L.drop i)).2 = 0 then 1 else (next (L.drop i)).2 := rfl
    have hc0 := cell0_of hbs hxt; have hx8 : x.toNat < 256 := x.toNat_lt; have HCL := Hd hcl; have HAD := Hd had; have HMK := Hd hmk; have HXT := Hd hxt; clear hcl hxt hlen had hmk; obtain ⟨i0, hi0, hz0, hz1, hz2⟩ := info_parts info64; by_cases hz : (next (L.drop i)).2 = 0
    · go_wp2_with (first
       | (go_at_call 164; refine (refnext_any _ _ _ hbs).mono ?_; rintro e w' ⟨rfl, hb1⟩; have hc1 : w'.cell? ⟨w.heap.size, i, none⟩ = some (.int .u8 x.toNat) := cell0_of (hbs.ext hb1) HXT.out; have hown1 := OwnV.ext (OwnV.ext hown hb1) ((ext_refl w').alloc (Nat.le_refl _) (.cells #[.int .i64 (2097152 + (x.toNat : Int))] 3)); have hs1 : w1.heap.size ≤ (w'.alloc (.cells #[.int .i64 (2097152 + (x.toNat : Int))] 3)).heap.size := (by have := hb.size; have := hb1.size; simp; omega))
       | (at_builtin; refine wpList_append_one rfl _ _ 169 169 rfl w1.heap.size 3 i0 (.int .i64 0) 8 Tryz.underlying169 hi0 hz0 hz1 hz2 rfl ⟨_, Tryz.underlying169⟩ _ _ rfl hown1 w'.heap.size (.int .i64 (2097152 + (x.toNat : Int))) 3 (0, 0) rfl (heap_alloc_new _ _) rfl (by rw [cells64_length]; omega) (by rw [cells64_length]; omega) hs1 ?_; intro a5 c5 w5 hown5 hw5; have hE5 : Ext w1 w5 := (ext_trans hb hb1).trans (((Below.refl w1.heap.size w').alloc (by have := hb.size; have := hb1.size; omega) _).trans hw5)))
      go_roundw
      case rel =>
       refine ⟨i + 1, done ++ [(2097152 + (x.toNat : Int))], by omega, by simp; omega, by go_num, ?_, hE5, ?_⟩
       · have e : cells64 (done ++ [(2097152 + (x.toNat : Int))]) = cells64 done ++ [.int .i64 (2097152 + (x.toNat : Int))] := by simp [cells64]
         rw [e]; rw [cells64_length] at hown5; exact hown5
       · rw [HC.out, HCL.out, HMK.out, HAD.out, if_pos hz, if_pos hz, List.drop_drop]; simp
      case measure => simp [intOf]; omega
    · go_wp2_with (first
       | (go_at_call 164; refine (refnext_any _ _ _ hbs).mono ?_; rintro e w' ⟨rfl, hb1⟩; have hown1 := OwnV.ext (OwnV.ext hown hb1) ((ext_refl w').alloc (Nat.le_refl _) (.cells #[.int .i64 (next (L.drop i)).1] 3)); have hs1 : w1.heap.size ≤ (w'.alloc (.cells #[.int .i64 (next (L.drop i)).1] 3)).heap.size := (by have := hb.size; have := hb1.size; simp; omega))
       | (at_builtin; refine wpList_append_one rfl _ _ 169 169 rfl w1.heap.size 3 i0 (.int .i64 0) 8 Tryz.underlying169 hi0 hz0 hz1 hz2 rfl ⟨_, Tryz.underlying169⟩ _ _ rfl hown1 w'.heap.size (.int .i64 (next (L.drop i)).1) 3 (0, 0) rfl (heap_alloc_new _ _) rfl (by rw [cells64_length]; omega) (by rw [cells64_length]; omega) hs1 ?_; intro a5 c5 w5 hown5 hw5; have hE5 : Ext w1 w5 := (ext_trans hb hb1).trans (((Below.refl w1.heap.size w').alloc (by have := hb.size; have := hb1.size; omega) _).trans hw5)))
      go_roundw
      case rel =>
       refine ⟨i + (next (L.drop i)).2, done ++ [(next (L.drop i)).1], by omega, by simp; omega, by go_num, ?_, hE5, ?_⟩
       · have e : cells64 (done ++ [(next (L.drop i)).1]) = cells64 done ++ [.int .i64 (next (L.drop i)).1] := by simp [cells64]
         rw [e]; rw [cells64_length] at hown5; exact hown5
       · rw [HC.out, HCL.out, HMK.out, HAD.out, if_neg hz, if_neg hz, List.drop_drop]; simp
      case measure => simp [intOf]; omega
  · obtain rfl : i = s.size := by omega
    have hm := HC.out; rw [List.drop_eq_nil_of_le (by omega), marks_nil, List.append_nil] at hm; obtain ⟨a9, c9, rfl⟩ := hown.shape; have hrow := hown.row; have HM := Hd hm; clear hm; go_wp2_with fail; go_ret; rw [HLE.out, HM.out]; simp only [cells64_length] at hrow ⊢; exact ⟨⟨a9, c9, rfl, hrow⟩, hE1.trans (hb.mono hE1.size)⟩
theorem Row.at64 {w : World} {a : Option Addr} {n c : Nat} {l : List Int} (h : Row w (.slice a n c) (cells64 l)) : ∃ b o, (0 < l.length → a = some ⟨b, o, none⟩ ∧ b < w.heap.size) ∧ ∀ i, (h : i < l.length) → w.cell? ⟨b, o + i, none⟩ = some (.int .i64 l[i]) := by
 obtain ⟨a', c', e, h1, h2, h3⟩ := h; simp only [Value.slice.injEq] at e; obtain ⟨rfl, _, rfl⟩ := e; by_cases hn : 0 < l.length
 · obtain ⟨b, o, rfl, hlt, hc⟩ := h3 (by simpa using hn); refine ⟨b, o, fun _ => ⟨rfl, hlt⟩, fun i hi => ?_⟩; have := hc i (by simpa using hi); simpa [cells64] using this
 · exact ⟨0, 0, fun h => absurd h hn, fun i hi => by omega⟩
set_option maxHeartbeats 1600000 in
theorem refless_any (s t : ByteArray) (w : World) (hs : s.size ≤ 17592186044416) (ht : t.size ≤ 17592186044416) :
 Calls Tryz.prog 99 #[.string s, .string t] w fun e w' => e = .returned (.bool (lessL (marks s.data.toList) (marks t.data.toList))) ∧ Ext w w' := by
 have hl1 : (marks s.data.toList).length ≤ 17592186044416 := Nat.le_trans (marks_len _) (by rw [Array.length_toList]; exact hs); have hl2 : (marks t.data.toList).length ≤ 17592186044416 := Nat.le_trans (marks_len _) (by rw [Array.length_toList]; exact ht); go_enter Tryz.func99, Tryz.ntmps99
 go_wp2_with fail; refine (refmarks_any _ _ hs).mono ?_; rintro e w1 ⟨⟨a1, c1, rfl, hr1⟩, hw1⟩; go_wp2_with fail; refine (refmarks_any _ _ ht).mono ?_; rintro e w2 ⟨⟨a2, c2, rfl, hr2⟩, hw2⟩; have hE2 := ext_trans hw1 hw2; have hr1 := hr1.ext hw2; obtain ⟨l, hLe⟩ := Ex (marks s.data.toList); obtain ⟨m, hMe⟩ := Ex (marks t.data.toList); rw [hLe] at hr1 hl1 ⊢; rw [hMe] at hr2 hl2 ⊢; have HLE := Hd hLe
 have HME := Hd hMe; clear hLe hMe; obtain ⟨b1, o1, he1, hc1⟩ := Row.at64 hr1; obtain ⟨b2, o2, he2, hc2⟩ := Row.at64 hr2; have HE1 := Hd he1; have HE2 := Hd he2; have HC1 := Hd hc1; have HC2 := Hd hc2; clear he1 he2 hc1 hc2 hr1 hr2 hw1 hw2; go_wp2_with fail
 go_loopw [7] (fun kv wr => ∃ k n : Nat, kv = .int .i64 k ∧ k ≤ l.length ∧ k ≤ m.length ∧ wr = w2.drewN n ∧ lessL l m = lessL (l.drop k) (m.drop k)) (fun kv _ => l.length - (intOf kv).toNat)
 case atStart => exact ⟨0, 0, rfl, by omega, by omega, rfl, rfl⟩
 case round =>
  obtain ⟨k, n, rfl, hk1, hk2, rfl, hr⟩ := hrel; have HR := Hd hr; clear hr; by_cases h1 : k < l.length
  · by_cases h2 : k < m.length
    · obtain ⟨rfl, hb1⟩ := HE1.out (by omega); obtain ⟨rfl, hb2⟩ := HE2.out (by omega); have hx1 := HC1.out k h1; have hx2 := HC2.out k h2; have hat := lessL_at l m k h1 h2; generalize l[k] = x at hx1 hat; generalize m[k] = y at hx2 hat; have HAT := Hd hat; clear hat; by_cases hxy : x = y
      · have hb : (x != y) = false := by simp [hxy]
        have HXY := Hd hxy; clear hxy; go_wp2_with fail; go_quiet (fail)
        go_wp2_with fail; go_roundw
        case rel => exact ⟨k + 1, _, by go_num, by omega, by omega, rfl, by rw [HR.out, HAT.out, if_pos HXY.out]⟩
        case measure => simp [intOf]; omega
      · have hb : (x != y) = true := by simp [hxy]
        go_wp2_with fail; go_quiet (fail)
        go_wp2_with fail; go_quiet (fail)
        go_wp2_with fail; go_ret; exact ⟨ret_bool (by rw [HLE.out, HME.out, HR.out, HAT.out, if_neg hxy]), below_drewN (below_drewN (below_drewN hE2 _) _) _⟩
    · have hend := lessL_end l m k (by omega); have HEND := Hd hend; clear hend; have hd2 : decide (k < m.length) = false := by simpa using h2
      go_wp2_with fail; go_ret; exact ⟨ret_bool (by rw [HLE.out, HME.out, HR.out, HEND.out]), below_drewN hE2 _⟩
  · have hend := lessL_end l m k (by omega); have HEND := Hd hend; clear hend; have hd1 : decide (k < l.length) = false := by simpa using h1
    go_wp2_with fail; go_ret; exact ⟨ret_bool (by rw [HLE.out, HME.out, HR.out, HEND.out]), below_drewN hE2 _⟩
end Go.Proofs.YtjapbjmeoaagmaaGreatDoor
end

section
set_option maxRecDepth 100000
namespace Go.GrowS
open Go.Mem Go.RowKit
section
variable {P : Program} {ops : Array Oper} {md : Region.Mode} {G : Nat → World → World → Prop} {E : List PanicEntry → World → Prop} {B : Nat → World → Prop} {anc : Nat → List Nat} {I : Nat → Act → Option (Spec G)}
def walkO (P : Program) (ops : Array Oper) (G : Nat → World → World → Prop) (E : List PanicEntry → World → Prop) (B : Nat → World → Prop) (anc : Nat → List Nat) (I : Nat → Act → Option (Spec G)) (Q : Act → Env → Prop) : List Nat → Act → Env → Prop
 | [], a, F => Q a F
 | k :: ord, a, F => ∃ o, ops[k]? = some o ∧ Step P ops G E B anc I o k a F (walkO P ops G E B anc I Q ord)
def ordB (md : Region.Mode) (ops : Array Oper) (target : Array Bool) : List Nat → Array Bool → Bool
 | [], listed => decide (listed = target)
 | k :: ord, listed => (Region.ready md ops listed).contains k && Region.free md ops listed k && decide (k < ops.size) && ordB md ops target ord (listed.setIfInBounds k true)
theorem anyGL_ord {target : Array Bool} {Lq : Act → Env → Prop} (hkk : Keeps ops anc I) (hA : ancOk md ops anc = true) (hsel : Region.noSelect ops = true) (hrd : Region.ready md ops target = []) :
 ∀ (ord : List Nat) (listed : Array Bool) (a : Act) (F : Env), Closed md ops listed → ordB md ops target ord listed = true → walkO P ops G E B anc I Lq ord a F →
 anyGL P md ops G E B anc I ops.size (fun listed' a' F' => listed' = target ∧ Lq a' F') ord.length listed a F
 | [], listed, a, F, _, hB, h => ⟨by simpa [ordB] using hB, h⟩
 | k :: ord, listed, a, F, inv, hB, h => by
   obtain ⟨o, h0, h⟩ := h; simp only [ordB, Bool.and_eq_true, decide_eq_true_eq] at hB; obtain ⟨⟨⟨hr, hf⟩, hkn⟩, hB'⟩ := hB; have hr' : k ∈ Region.ready md ops listed := by simpa using hr
   obtain ⟨u, f, hy, hK⟩ := shows_of (P := P) (ops := ops) (G := G) (E := E) (B := B) (anc := anc) (I := I) (i := k) (oi := o) (a := a) (F := F) (K := walkO P ops G E B anc I Lq ord) (by
    unfold Step at h; rcases h with ⟨h1, h2⟩ | ⟨h1, ⟨s, h2, h3⟩ | ⟨h2, h3⟩⟩
    · rw [if_neg (by simp [h1])]; exact h2
    · rw [if_pos h1]; simp only [h2]; exact h3
    · rw [if_pos h1]; simp only [h2]; exact h3)
   exact anyGL_firstF (wt := fun _ => []) hkk hA h0 (Region.noSelect_spec hsel) (by unfold ancOk; simp) (fun t i ht hi hts => absurd hts (by omega)) hkn (fun listed' a' F' hL => (by rw [hL.1, hrd]; intro j hj; cases hj)) ord.length listed a F inv (Region.free_spec h0 hf) hr' hy
    (fun v hv => anyGL_ord hkk hA hsel hrd ord _ _ _ (inv.set hr') hB' (hK v hv))
def fullB (md : Region.Mode) (ops : Array Oper) (ord : List Nat) (listed target : Array Bool) : Bool :=
 Region.noSelect ops && (Region.ready md ops target).isEmpty && ordB md ops target ord listed
theorem any_ord {Q : Exit → Act → World → Prop} {a : Act} {w : World} (ord : List Nat) (listed target : Array Bool) (hkk : Keeps ops anc I) (hB : fullB .any ops ord listed target = true) (hA : ancOk .any ops anc = true) (hc : Closed .any ops listed)
 {Inv : Array Bool → World → Prop} (hI0 : InvOk .any ops G B Inv) (hE : ∀ ch a' w, a'.defers = a.defers → E ch w → Q (.panic ch) a' w) (hw : Inv listed w)
 (h : walkO P ops G E B anc I (fun a' F => ∀ w', Inv target w' → (∀ k, F k w') → Q .normal a' w') ord a (fun _ _ => True)) : wpAny P .any ops Q ord.length listed a w := by
 simp only [fullB, Bool.and_eq_true] at hB; obtain ⟨⟨hsel, hrd⟩, hord⟩ := hB; have hrd' : Region.ready .any ops target = [] := by simpa using hrd
 have H := anyGL_ord (P := P) (G := G) (E := E) (B := B) (anc := anc) (I := I) (md := .any) (target := target) hkk hA hsel hrd' ord listed a (fun _ _ => True) hc hord h; have := wpAny_of_headG (Q' := Q) (g := 0) hI0 hE (fun listed a' F' w' hb hf hL => by
  obtain ⟨rfl, h2⟩ := hL; exact ⟨hrd', h2 w' hb hf⟩) _ _ _ (fun _ _ => True) _ rfl hw (fun _ => trivial) (fun _ _ _ _ _ _ => trivial) H
 simpa using this
theorem inv_const {ops : Array Oper} {B : World → Prop} {G : World → World → Prop} (h : ∀ w w', B w → G w w' → B w') : InvOk md ops (fun _ => G) (fun _ => B) (fun _ w => B w) :=
 ⟨fun _ _ _ h _ => h, fun _ _ _ _ hw _ hg => h _ _ hw hg, fun _ _ _ _ hw _ _ _ => hw⟩
theorem closed_none {ops : Array Oper} {n : Nat} : Closed md ops (Array.replicate n false) := fun j oj _ hl => (by rw [getD_replicate_false] at hl; cases hl)
structure WkO (P : Program) (ops : Array Oper) (G : Nat → World → World → Prop) (E : List PanicEntry → World → Prop) (B : Nat → World → Prop) (anc : Nat → List Nat) (I : Nat → Act → Option (Spec G)) (Q : Act → Env → Prop) (ord : List Nat) (a : Act) (F : Env) : Prop where
 out : walkO P ops G E B anc I Q ord a F
theorem WkO.step {Q : Act → Env → Prop} {o : Oper} {ord : List Nat} {k : Nat} {a : Act} {F : Env} (ho : ops[k]? = some o) (h : ∀ K : Act → Env → Prop, (∀ a F, WkO P ops G E B anc I Q ord a F → K a F) → Step P ops G E B anc I o k a F K) : WkO P ops G E B anc I Q (k :: ord) a F :=
 ⟨⟨o, ho, h _ (fun a F w => w.out)⟩⟩
theorem WkO.nil {Q : Act → Env → Prop} {a : Act} {F : Env} (h : Q a F) : WkO P ops G E B anc I Q [] a F := ⟨h⟩
def inv3 (al st : Nat) (B0 B1 B2 : World → Prop) : Array Bool → World → Prop := fun listed w => if listed.getD st true = true then B2 w else if listed.getD al true = true then B1 w else B0 w
def at3 (al st : Nat) (aft : Nat → Bool) (B0 B1 B2 : World → Prop) : Nat → World → Prop := fun i w => if i = al then B0 w else if i = st then B1 w else if aft i then (B1 w ∨ B2 w) else B0 w ∨ B1 w ∨ B2 w
def g3 (al st : Nat) (aft : Nat → Bool) (G0 GA GC GS : World → World → Prop) : Nat → World → World → Prop := fun i => if i = al then GA else if i = st then GS else if aft i then GC else G0
theorem inv3_ok {ops : Array Oper} {al st : Nat} {aft : Nat → Bool} {B0 B1 B2 : World → Prop} {G0 GA GC GS : World → World → Prop} (hne : al ≠ st) (hga : unguardedB ops al = true) (hgs : unguardedB ops st = true) (hst : Region.waitsFor .any ops st al = true) (haft0 : ((List.range ops.size).all fun i => !aft i || Region.waitsFor .any ops i al) = true)
 (h0 : ∀ w w', B0 w → G0 w w' → B0 w') (h1 : ∀ w w', B1 w → G0 w w' → B1 w') (h2 : ∀ w w', B2 w → G0 w w' → B2 w') (hA : ∀ w w', B0 w → GA w w' → B1 w') (hC1 : ∀ w w', B1 w → GC w w' → B1 w') (hC2 : ∀ w w', B2 w → GC w w' → B2 w') (hS : ∀ w w', B1 w → GS w w' → B2 w') :
 InvOk .any ops (g3 al st aft G0 GA GC GS) (at3 al st aft B0 B1 B2) (fun listed w => inv3 al st B0 B1 B2 listed w ∧ Closed .any ops listed ∧ listed.size = ops.size) := by
 have haft : ∀ i, aft i = true → i < ops.size → Region.waitsFor .any ops i al = true := fun i h1 h2 => by
  have := List.all_eq_true.1 haft0 i (List.mem_range.2 h2); simpa [h1] using this
 have un : ∀ {listed : Array Bool} {i : Nat}, i ∈ Region.ready .any ops listed → i < listed.size ∧ listed.getD i true = false := by
  intro listed i hi; have h := (mem_ready.1 hi).1; refine ⟨?_, h⟩; rcases Nat.lt_or_ge i listed.size with h' | h'
  · exact h'
  · simp [h'] at h
 have other : ∀ {listed : Array Bool} {i k : Nat}, i ≠ k → (listed.setIfInBounds i true).getD k true = listed.getD k true := by
  intro listed i k hi; simp [Array.getD_eq_getD_getElem?, Array.getElem?_setIfInBounds_ne hi]
 have self : ∀ {listed : Array Bool} {i : Nat}, i < listed.size → (listed.setIfInBounds i true).getD i true = true := by
  intro listed i hi; simp [Array.getD_eq_getD_getElem?, hi]
 have gt : ∀ {listed : Array Bool} {i : Nat}, listed.getD i false = true → listed.getD i true = true := by
  intro listed i hi; simp only [Array.getD_eq_getD_getElem?] at hi ⊢; cases h : listed[i]? with
  | none => rfl
  | some b => rw [h] at hi; simpa using hi
 have done : ∀ {listed : Array Bool} {i : Nat}, i ∈ Region.ready .any ops listed → Region.waitsFor .any ops i al = true → listed.getD al true = true := by
  intro listed i hi hw; obtain ⟨_, o, ho, hall⟩ := mem_ready.1 hi; obtain ⟨o', ho', e, he, hb, hon⟩ := Region.waitsFor_spec hw; rw [ho] at ho'; cases ho'; have := hall e he hb; rw [hon] at this; exact gt this
 have lst : ∀ {listed : Array Bool}, Closed .any ops listed → listed.size = ops.size → listed.getD al true = false → listed.getD st true = true → False := by
  intro listed hc hz h1 h2; obtain ⟨o', ho', e, he, hb, hon⟩ := Region.waitsFor_spec hst; have h3 := hc st o' ho' (by
   simp only [Array.getD_eq_getD_getElem?] at h2 ⊢; cases h : listed[st]? with
   | some b => rw [h] at h2; simpa using h2
   | none => exact absurd h (by
     have := (Array.getElem?_eq_some_iff.1 ho').1; simp; omega)) e he hb
  rw [hon] at h3; rw [gt h3] at h1; cases h1
 refine ⟨fun listed i w h hi => ?_, fun listed i w w' h hi hg' => ?_, fun listed i o w h hi ho hgo => ?_⟩
 · obtain ⟨hi3, hc, hz⟩ := h; have hu := un hi; unfold inv3 at hi3; unfold at3; by_cases e1 : i = al
   · rw [if_pos e1]; rw [e1] at hu; by_cases e2 : listed.getD st true = true
     · exact (lst hc hz hu.2 e2).elim
     · rw [if_neg e2, if_neg (by rw [hu.2]; simp)] at hi3; exact hi3
   · rw [if_neg e1]; by_cases e2 : i = st
     · rw [if_pos e2]; rw [e2] at hu; have hd := done (by rw [← e2]; exact hi) hst; rw [if_neg (by rw [hu.2]; simp), if_pos hd] at hi3; exact hi3
     · rw [if_neg e2]; by_cases e3 : aft i = true
       · rw [if_pos e3]; have hd := done hi (haft i e3 (by have := hu.1; omega)); by_cases e4 : listed.getD st true = true
         · rw [if_pos e4] at hi3; exact .inr hi3
         · rw [if_neg e4, if_pos hd] at hi3; exact .inl hi3
       · rw [if_neg e3]; by_cases e4 : listed.getD st true = true
         · rw [if_pos e4] at hi3; exact .inr (.inr hi3)
         · rw [if_neg e4] at hi3; by_cases e5 : listed.getD al true = true
           · rw [if_pos e5] at hi3; exact .inr (.inl hi3)
           · rw [if_neg e5] at hi3; exact .inl hi3
 · obtain ⟨hi3, hc, hz⟩ := h; have hu := un hi; refine ⟨?_, hc.set hi, by simpa using hz⟩; unfold inv3 at hi3 ⊢; unfold g3 at hg'; by_cases e1 : i = al
   · rw [if_pos e1] at hg'; subst e1; rw [other hne]; by_cases e2 : listed.getD st true = true
     · exact (lst hc hz hu.2 e2).elim
     · rw [if_neg e2, if_neg (by rw [hu.2]; simp)] at hi3; rw [if_neg e2, if_pos (self hu.1)]; exact hA _ _ hi3 hg'
   · rw [if_neg e1] at hg'; by_cases e2 : i = st
     · rw [if_pos e2] at hg'; subst e2; have hd := done hi hst; rw [if_neg (by rw [hu.2]; simp), if_pos hd] at hi3; rw [if_pos (self hu.1)]; exact hS _ _ hi3 hg'
     · rw [if_neg e2] at hg'; rw [other e1, other e2]; by_cases e3 : aft i = true
       · rw [if_pos e3] at hg'; have hd := done hi (haft i e3 (by have := hu.1; omega)); by_cases e4 : listed.getD st true = true
         · rw [if_pos e4] at hi3 ⊢; exact hC2 _ _ hi3 hg'
         · rw [if_neg e4, if_pos hd] at hi3 ⊢; exact hC1 _ _ hi3 hg'
       · rw [if_neg e3] at hg'; by_cases e4 : listed.getD st true = true
         · rw [if_pos e4] at hi3 ⊢; exact h2 _ _ hi3 hg'
         · rw [if_neg e4] at hi3 ⊢; by_cases e5 : listed.getD al true = true
           · rw [if_pos e5] at hi3 ⊢; exact h1 _ _ hi3 hg'
           · rw [if_neg e5] at hi3 ⊢; exact h0 _ _ hi3 hg'
 · obtain ⟨hi3, hc, hz⟩ := h; refine ⟨?_, hc.set hi, by simpa using hz⟩; unfold inv3 at hi3 ⊢; have n1 : i ≠ al := fun e => by subst e; unfold unguardedB at hga; rw [ho] at hga; simp at hga; exact hgo hga
   have n2 : i ≠ st := fun e => by subst e; unfold unguardedB at hgs; rw [ho] at hgs; simp at hgs; exact hgo hgs
   rw [other n1, other n2]; exact hi3
end
end Go.GrowS
end

section
namespace Go.Proofs.YtjapbjmeoaagmaaGreatDoor
open Go.RowKit Go.Mem Orange
theorem flat_len {z : Nat} : ∀ {ms : List (List Value)}, (∀ c ∈ ms, c.length = z) → ms.flatten.length = ms.length * z
 | [], _ => by simp
 | c :: ms, h => by
   rw [List.flatten_cons, List.length_append, h c List.mem_cons_self, flat_len (fun x hx => h x (List.mem_cons_of_mem _ hx)), List.length_cons, Nat.add_mul]; omega
theorem flat_cut {z : Nat} {ms : List (List Value)} (h : ∀ c ∈ ms, c.length = z) {k : Nat} (hk : k ≤ ms.length) : (ms.take k).flatten = ms.flatten.take (k * z) ∧ (ms.drop k).flatten = ms.flatten.drop (k * z) := by
 have h1 : (ms.take k).flatten.length = k * z := by
  rw [flat_len (fun c hc => h c (List.mem_of_mem_take hc)), List.length_take]; congr 1; omega
 have h2 : ms.flatten = (ms.take k).flatten ++ (ms.drop k).flatten := by rw [← List.flatten_append, List.take_append_drop]
 rw [h2]; exact ⟨by rw [← h1, List.take_left], by rw [← h1, List.drop_left]⟩
theorem RowAt.take {w : World} {A : Nat → Prop} {z n k cap : Nat} {a : Option Addr} {cs : List Value} (h : RowAt w A z (.slice a n cap) n cs) (hk : k ≤ n) : RowAt w A z (.slice a k cap) k (cs.take (k * z)) := by
 obtain ⟨h0, a', c', e, h1, h2, h3⟩ := h; simp only [Value.slice.injEq] at e; obtain ⟨rfl, -, rfl⟩ := e; have hm : k * z ≤ n * z := Nat.mul_le_mul_right z hk; refine ⟨by rw [List.length_take]; omega, _, _, rfl, by omega, h2, fun hp => ?_⟩; obtain ⟨g, o, e, hA, hg, hc⟩ := h3 (by omega); exact ⟨g, o, e, hA, hg, fun i hi => by rw [List.length_take] at hi; rw [List.getElem_take]; exact hc i (by omega)⟩
theorem RowAt.drop {w : World} {A : Nat → Prop} {z n k cap : Nat} {a a' : Option Addr} {cs : List Value} (h : RowAt w A z (.slice a n cap) n cs) (hk : k ≤ n) (ha : ∀ g o, a = some ⟨g, o, none⟩ → k < n → a' = some ⟨g, o + k * z, none⟩) : RowAt w A z (.slice a' (n - k) (cap - k)) (n - k) (cs.drop (k * z)) := by
 obtain ⟨h0, a1, c', e, h1, h2, h3⟩ := h; simp only [Value.slice.injEq] at e; obtain ⟨rfl, -, rfl⟩ := e; have hm : k * z ≤ n * z := Nat.mul_le_mul_right z hk; refine ⟨by rw [List.length_drop, Nat.sub_mul]; omega, _, _, rfl, by omega, by omega, fun hp => ?_⟩; obtain ⟨g, o, e, hA, hg, hc⟩ := h3 (by omega); refine ⟨g, o + k * z, ha g o e (by omega), hA, hg, fun i hi => ?_⟩; rw [List.length_drop] at hi
 rw [List.getElem_drop, Nat.add_assoc]; exact hc (k * z + i) (by omega)
theorem TMc.take {w : World} {A : Nat → Prop} {l : List Mem1} {ms : List (List Value)} (h : TMc w A l ms) (k : Nat) : TMc w A (l.take k) (ms.take k) :=
 ⟨by rw [List.length_take, List.length_take, h.1], fun i hi hi' => by
   rw [List.getElem_take, List.getElem_take]; rw [List.length_take] at hi hi'; exact h.2 i (by omega) (by omega)⟩
theorem TMc.drop {w : World} {A : Nat → Prop} {l : List Mem1} {ms : List (List Value)} (h : TMc w A l ms) (k : Nat) : TMc w A (l.drop k) (ms.drop k) :=
 ⟨by rw [List.length_drop, List.length_drop, h.1], fun i hi hi' => by
   rw [List.getElem_drop, List.getElem_drop]; rw [List.length_drop] at hi hi'; exact h.2 (k + i) (by omega) (by omega)⟩
theorem TMc.app {w : World} {A : Nat → Prop} {l l' : List Mem1} {ms ms' : List (List Value)} (h : TMc w A l ms) (h' : TMc w A l' ms') : TMc w A (l ++ l') (ms ++ ms') :=
 ⟨by rw [List.length_append, List.length_append, h.1, h'.1], fun i hi hi' => by
   by_cases hl : i < l.length
   · rw [List.getElem_append_left hl, List.getElem_append_left (by rw [← h.1]; exact hl)]; exact h.2 i hl _
   · have e := h.1; rw [List.getElem_append_right (by omega), List.getElem_append_right (by omega)]; rw [List.length_append] at hi hi'; simp only [← e]; exact h'.2 (i - l.length) (by omega) (by omega)⟩
theorem TMc.one {w : World} {A : Nat → Prop} {k : List UInt8} {x : Tree} {c : Array Value} (h : TV w A x c) : TMc w A [(k, x)] [.string ⟨k.toArray⟩ :: c.toList] :=
 ⟨rfl, fun i hi hi' => by
   obtain rfl : i = 0 := by simpa using hi
   exact ⟨c, h, rfl⟩⟩
end Go.Proofs.YtjapbjmeoaagmaaGreatDoor
end
