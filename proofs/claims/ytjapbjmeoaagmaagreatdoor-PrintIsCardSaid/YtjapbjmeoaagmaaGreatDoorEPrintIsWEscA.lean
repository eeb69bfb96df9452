/- A text of this proof. -/
import Derived.Test.YtjapbjmeoaagmaaGreatDoorEPrintIsWUtfC
import Derived.Test.YtjapbjmeoaagmaaGreatDoorEPrintIsEsc
import Derived.Test.YtjapbjmeoaagmaaGreatDoorEPrintIsShelf
import Derived.Test.YtjapbjmeoaagmaaGreatDoorEPrintIsSh
set_option linter.unusedVariables false
set_option linter.unusedSimpArgs false
set_option maxRecDepth 100000
namespace Go.Proofs.YtjapbjmeoaagmaaGreatDoor
open Go.RowKit Go.Mem Orange
theorem idx_eq (s : ByteArray) (c : UInt8) (r : Int) (w : World) (h : Lib.indexByte s.data.toList c = r) :
 Calls Tryz.prog 105 #[.string s, .int .u8 c.toNat] w fun e w' => e = .returned (.int .i64 r) ∧ w = w' := by
 refine (Tryz.strings_IndexByte s c.toNat w).mono ?_; rintro e w' ⟨rfl, rfl⟩; refine ⟨ret_int ?_, rfl⟩; rw [← h]; congr 1
 simp
theorem v_small {v : Int} {i : Nat} (h : v < 16 ^ i) (hi : i ≤ 3) : v < 4096 := by
 have : i = 0 ∨ i = 1 ∨ i = 2 ∨ i = 3 := by omega
 rcases this with rfl | rfl | rfl | rfl <;> omega
theorem v_next {v n : Int} {i : Nat} (h : v < 16 ^ i) (hn : n < 16) : v * 16 + n < 16 ^ (i + 1) := by
 rw [Int.pow_succ]; omega
theorem or_nibble (v x : Int) (h0 : 0 ≤ v) (h1 : v < 4096) (h2 : 0 ≤ x) (h3 : x ≤ 15) : bits .or .i32 (v * 16) x = v * 16 + x := by
 have h := (bits_nat .i32 31 (by decide) wraps_i32 (v * 16).toNat x.toNat (by omega) (by omega)).2; rw [nat_join 4 (v * 16).toNat x.toNat (by omega) (by omega)] at h; have e1 : (((v * 16).toNat : Nat) : Int) = v * 16 := by omega
 have e2 : ((x.toNat : Nat) : Int) = x := by omega
 rw [e1, e2] at h; rw [h]; omega
set_option maxHeartbeats 1600000 in
theorem unit_any (v : Value) (xs : List UInt8) (w : World) (hx : Bytes w v xs) :
 Calls Tryz.prog 189 #[v] w fun e w' => e = .returned (.tuple #[.int .i32 ((unit xs).getD 0), .bool (unit xs).isSome]) ∧ w = w' := by
 rcases hx.cases with ⟨rfl, a, cap, rfl, _⟩ | ⟨x, t, b, o, cap, rfl, rfl, h1, h2, h3, hb, hc0, hc, _⟩
 · go_enter Tryz.func189, Tryz.ntmps189
   go_wp2
   go_ret2; exact ⟨rfl, rfl⟩
 · have hx8 := x.toNat_lt; by_cases hl : t.length < 4
   · have hu : unit (x :: t) = none := by rw [unit, if_pos (by simp [hl])]
     have HU := Hd hu; clear hu hx hc; have hd : decide (((t.length : Int) + 1) < 5) = true := by simp; omega
     go_enter Tryz.func189, Tryz.ntmps189
     go_wp2
     go_ret2; exact ⟨by rw [HU.out]; rfl, rfl⟩
   · have hd : decide (((t.length : Int) + 1) < 5) = false := by simp; omega
     by_cases hu : x = 117
     · subst hu; have hun : unit (117 :: t) = hexN (t.take 4) 0 := by rw [unit, if_neg (by simp [hl])]
       have HU := Hd hun; have HC := Hd hc; clear hun hx hc hx8; have hc0 : w.cell? ⟨b, o, none⟩ = some (.int .u8 117) := hc0; go_enter Tryz.func189, Tryz.ntmps189
       go_wp2
       go_loop [4, 20] (fun vv iv => ∃ (i : Nat) (v : Int), i ≤ 4 ∧ iv = .int .i64 i ∧ vv = .int .i32 v ∧ 0 ≤ v ∧ v < 16 ^ i ∧ hexN (t.take 4) 0 = hexN ((t.take 4).drop i) v) (fun _ iv => 4 - (intOf iv).toNat)
       case atStart => exact ⟨0, 0, by omega, rfl, rfl, by omega, by decide, rfl⟩
       case round =>
        obtain ⟨i, v, hi, rfl, rfl, hv0, hv1, hh⟩ := hrel; have HH := Hd hh; have HV := Hd hv1; clear hh hv1; by_cases hlt : i < 4
        · have hit : i < t.length := by omega
          have hci := HC.out i hit; have hat := hexN_at t 4 i v hlt hit; have hbd := hexD_bd t[i]; have hv2 : v < 4096 := v_small HV.out (by omega); have hc8 := t[i].toNat_lt; generalize t[i] = c at hci hat hbd hc8; have HAT := Hd hat; have HBD := Hd hbd; clear hat hbd; have hor : ∀ x : Int, 0 ≤ x → x ≤ 15 → bits .or .i32 (v * 16) x = v * 16 + x := fun x h0 h1 => or_nibble v x hv0 hv2 h0 h1
          by_cases hup : 65 ≤ c.toNat ∧ c.toNat ≤ 70
          · obtain ⟨d, hd1, hd2⟩ := hexD_up c hup; obtain ⟨hu1, hu2⟩ := hup; generalize hexD c = n at *; by_cases hneg : n < 0
            · go_wp2_with (go_at_call 105; refine (idx_eq _ d _ _ hd2).mono ?_; rintro e w' ⟨rfl, rfl⟩)
              go_ret2; exact ⟨by rw [HU.out, HH.out, HAT.out, if_pos hneg]; rfl, rfl⟩
            · have hn1 := HBD.out.2; have hor1 := hor n (by omega) hn1; go_wp2_with (go_at_call 105; refine (idx_eq _ d _ _ hd2).mono ?_; rintro e w' ⟨rfl, rfl⟩)
              go_round
              case rel => exact ⟨i + 1, v * 16 + n, by omega, by go_num, by go_num, by omega, v_next HV.out (by omega), by rw [HH.out, HAT.out, if_neg (by omega)]⟩
              case measure => simp [intOf]; omega
          · have hd2 := hexD_idx c hup; generalize hexD c = n at *; have hcc : c.toNat < 65 ∨ 70 < c.toNat := by omega
            clear hup; rcases hcc with hcc | hcc
            all_goals
             by_cases hneg : n < 0
             · go_wp2_with (go_at_call 105; refine (idx_eq _ c _ _ hd2).mono ?_; rintro e w' ⟨rfl, rfl⟩)
               go_ret2; exact ⟨by rw [HU.out, HH.out, HAT.out, if_pos hneg]; rfl, rfl⟩
             · have hn1 := HBD.out.2; have hor1 := hor n (by omega) hn1; go_wp2_with (go_at_call 105; refine (idx_eq _ c _ _ hd2).mono ?_; rintro e w' ⟨rfl, rfl⟩)
               go_round
               case rel => exact ⟨i + 1, v * 16 + n, by omega, by go_num, by go_num, by omega, v_next HV.out (by omega), by rw [HH.out, HAT.out, if_neg (by omega)]⟩
               case measure => simp [intOf]; omega
        · obtain rfl : i = 4 := by omega
          have hend : hexN ((t.take 4).drop 4) v = some v := by
           rw [List.drop_eq_nil_of_le (by simp; omega)]; rfl
          have HEND := Hd hend; clear hend; go_wp2
          go_ret2; exact ⟨by rw [HU.out, HH.out, HEND.out]; rfl, rfl⟩
     · have hun : unit (x :: t) = none := by rw [unit, if_pos (by simp [hu])]
       have HU := Hd hun; have hne : ((x.toNat : Int) != 117) = true := by
        rw [bne_iff_ne]; intro h; apply hu; exact UInt8.toNat_inj.1 (by simpa using Int.ofNat.inj h)
       clear hun hx hc hu; go_enter Tryz.func189, Tryz.ntmps189
       go_wp2
       go_ret2; exact ⟨by rw [HU.out]; rfl, rfl⟩
theorem u8_ne {x : UInt8} {n : Nat} (h : x ≠ UInt8.ofNat n) (hn : n < 256) : ((x.toNat : Int) != n) = true := by
 rw [bne_iff_ne]; intro e; apply h
 apply UInt8.toNat_inj.1
 rw [UInt8.toNat_ofNat']; omega
set_option maxHeartbeats 1600000 in
theorem pair_any (r : Int) (v : Value) (xs : List UInt8) (w : World) (hx : Bytes w v xs) (hr0 : 0 ≤ r) (hr1 : r ≤ 65535) :
 Calls Tryz.prog 190 #[.int .i32 r, v] w fun e w' => e = .returned (.tuple #[.int .i32 ((pair r xs).getD 0), .bool (pair r xs).isSome]) ∧ w = w' := by
 rcases hx.cases with ⟨rfl, a, cap, rfl, _⟩ | ⟨x, t, b, o, cap, rfl, rfl, h1, h2, h3, hb, hc0, hc, hat⟩
 · by_cases hh : 56319 < r
   all_goals
    go_enter Tryz.func190, Tryz.ntmps190
    go_wp2
    go_ret2; exact ⟨rfl, rfl⟩
 · have hx8 := x.toNat_lt; by_cases hh : 56319 < r
   · have hp : pair r (x :: t) = none := by rw [pair, if_pos (by simp [hh])]
     have HP := Hd hp; clear hp hx hc hat; go_enter Tryz.func190, Tryz.ntmps190
     go_wp2
     go_ret2; exact ⟨by rw [HP.out]; rfl, rfl⟩
   by_cases hl : t.length < 5
   · have hp : pair r (x :: t) = none := by rw [pair, if_pos (by simp [hl])]
     have HP := Hd hp; clear hp hx hc hat; go_enter Tryz.func190, Tryz.ntmps190
     go_wp2
     go_ret2; exact ⟨by rw [HP.out]; rfl, rfl⟩
   by_cases hu : x = 92
   · subst hu; have hp : pair r (92 :: t) = match unit t with
      | some w => if w < 56320 || 57343 < w then none else some (65536 + (r - 55296) * 1024 + w - 56320)
      | none => none := by rw [pair, if_neg (by simp [hl]; omega)]; cases unit t <;> rfl
     have hbt : Bytes w (.slice (some ⟨b, o + 1, none⟩) t.length (cap - 1)) t := Bytes.mk (hat.drop 1) (by simp) (by omega) (by omega) (by omega); have hc0 : w.cell? ⟨b, o, none⟩ = some (.int .u8 92) := hc0; have HB := Hd hbt; clear hc hat hx hbt; cases hun : unit t with
     | none =>
       rw [hun] at hp; have HP := Hd hp; have HU := Hd hun; clear hp hun; go_enter Tryz.func190, Tryz.ntmps190
       go_wp2_with (go_at_call 189; refine (unit_any _ t _ HB.out).mono ?_; rintro e w' ⟨rfl, rfl⟩; rw [HU.out]; simp only [Option.getD_none, Option.isSome_none])
       go_ret2; exact ⟨by rw [HP.out]; rfl, rfl⟩
     | some u =>
       rw [hun] at hp; have hub := unit_bd hun; have HU := Hd hun; simp only at hp; by_cases hlo : u < 56320
       · rw [if_pos (by simp [hlo])] at hp; have HP := Hd hp; clear hp hun; go_enter Tryz.func190, Tryz.ntmps190
         go_wp2_with (go_at_call 189; refine (unit_any _ t _ HB.out).mono ?_; rintro e w' ⟨rfl, rfl⟩; rw [HU.out]; simp only [Option.getD_some, Option.isSome_some])
         go_ret2; exact ⟨by rw [HP.out]; rfl, rfl⟩
       by_cases hhi : 57343 < u
       · rw [if_pos (by simp [hhi])] at hp; have HP := Hd hp; clear hp hun; go_enter Tryz.func190, Tryz.ntmps190
         go_wp2_with (go_at_call 189; refine (unit_any _ t _ HB.out).mono ?_; rintro e w' ⟨rfl, rfl⟩; rw [HU.out]; simp only [Option.getD_some, Option.isSome_some])
         go_ret2; exact ⟨by rw [HP.out]; rfl, rfl⟩
       · rw [if_neg (by simp; omega)] at hp; have HP := Hd hp; clear hp hun; go_enter Tryz.func190, Tryz.ntmps190
         go_wp2_with (go_at_call 189; refine (unit_any _ t _ HB.out).mono ?_; rintro e w' ⟨rfl, rfl⟩; rw [HU.out]; simp only [Option.getD_some, Option.isSome_some])
         go_ret2; refine ⟨?_, rfl⟩; rw [HP.out]; simp
   · have hp : pair r (x :: t) = none := by rw [pair, if_pos (by simp [hu])]
     have HP := Hd hp; have hne : ((x.toNat : Int) != 92) = true := u8_ne (n := 92) hu (by decide); clear hp hx hc hat hu; go_enter Tryz.func190, Tryz.ntmps190
     go_wp2
     go_ret2; exact ⟨by rw [HP.out]; rfl, rfl⟩
end Go.Proofs.YtjapbjmeoaagmaaGreatDoor
