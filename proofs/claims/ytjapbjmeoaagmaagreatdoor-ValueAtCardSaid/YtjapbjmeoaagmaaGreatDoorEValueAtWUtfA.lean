/- A text of this proof. -/
import Derived.Test.YtjapbjmeoaagmaaGreatDoorProg
import Derived.Test.YtjapbjmeoaagmaaGreatDoorEValueAtMem
import Derived.Test.YtjapbjmeoaagmaaGreatDoorEValueAtUtfGo
import Derived.Test.YtjapbjmeoaagmaaGreatDoorEValueAtSh
set_option linter.unusedVariables false
set_option linter.unusedSimpArgs false
set_option maxRecDepth 100000
namespace Go.Proofs.YtjapbjmeoaagmaaGreatDoor
open Go.RowKit Go.Mem Orange
set_option maxHeartbeats 400000 in
theorem sound_any (r : Int) (w : World) :
 Calls Tryz.prog 173 #[.int .i32 r] w fun e w' => e = .returned (.bool (sound r)) ∧ w = w' := by
 by_cases h1 : 0 ≤ r
 · by_cases h2 : r < 55296
   · have hf : sound r = true := by rw [sound_iff]; omega
     go_enter Tryz.func173, Tryz.ntmps173
     go_wp2
     go_ret; first | exact ⟨rfl, rfl⟩ | exact ⟨ret_bool (by rw [hf]), rfl⟩
   · by_cases h3 : 57343 < r
     · go_enter Tryz.func173, Tryz.ntmps173
       go_wp2
       go_ret; refine ⟨ret_bool ?_, rfl⟩; rw [Bool.eq_iff_iff, sound_iff]; simp; omega
     · have hf : sound r = false := by rw [Bool.eq_false_iff, ne_eq, sound_iff]; omega
       go_enter Tryz.func173, Tryz.ntmps173
       go_wp2
       go_ret; first | exact ⟨rfl, rfl⟩ | exact ⟨ret_bool (by rw [hf]), rfl⟩
 · have hf : sound r = false := by rw [Bool.eq_false_iff, ne_eq, sound_iff]; omega
   have h3 : ¬ 57343 < r := by omega
   go_enter Tryz.func173, Tryz.ntmps173
   go_wp2
   go_ret; first | exact ⟨rfl, rfl⟩ | exact ⟨ret_bool (by rw [hf]), rfl⟩
def spansCells : Array Value := #[.int .u8 128, .int .u8 0, .int .i32 0, .int .u8 224, .int .u8 192, .int .i32 128, .int .u8 240, .int .u8 224,
     .int .i32 2048, .int .u8 248, .int .u8 240, .int .i32 65536]
theorem spans_any (w : World) :
 Calls Tryz.prog 172 #[] w fun e w' => e = .returned (.agg spansCells) ∧ Ext w w' := by
 go_enter Tryz.func172, Tryz.ntmps172
 go_wp2
 refine bodyPost_ret (v := .agg spansCells) (by simp [results, Tryz.results172, go_sem, spansCells]) rfl ⟨rfl, (Below.refl _ _).alloc (Nat.le_refl _) _⟩
theorem index_spans (k : Nat) (hk : k < 4) (w : World) : (Instr.index 199 (.agg spansCells) (.int .i64 k)).run Tryz.prog w = .ok (.agg #[.int .u8 (mask k), .int .u8 (lead k), .int .i32 (least k)]) w := by
 have h : k = 0 ∨ k = 1 ∨ k = 2 ∨ k = 3 := by omega
 rcases h with rfl | rfl | rfl | rfl <;> rfl
set_option maxHeartbeats 3200000 in
theorem next_cons (b o cap : Nat) (x : UInt8) (t : List UInt8) (w : World) (hcap : t.length + 1 ≤ cap) (hcm : cap ≤ 9223372036854775807) (hbl : b < w.heap.size)
 (hc0 : w.cell? ⟨b, o, none⟩ = some (.int .u8 x.toNat)) (hc : ∀ i, (h : i < t.length) → w.cell? ⟨b, o+1+i, none⟩ = some (.int .u8 t[i].toNat)) :
  Calls Tryz.prog 139 #[.slice (some ⟨b,o,none⟩) (t.length + 1) cap] w fun e w' => e = .returned (.tuple #[.int .i32 (nextGo (x :: t)).1, .int .i64 (nextGo (x :: t)).2]) ∧ Ext w w' := by
 have hx8 : x.toNat < 256 := x.toNat_lt; go_enter Tryz.func139, Tryz.ntmps139
 go_wp2_with (go_at_call 172; refine (spans_any _).mono ?_; rintro e w' ⟨rfl, hb⟩)
 go_loopw [10] (fun kv wr => ∃ k : Nat, k ≤ 4 ∧ kv = .int .i64 k ∧ Below w.heap.size w wr ∧ nextGo (x :: t) = nextFrom x t (4 - k) k) (fun kv _ => (4 - intOf kv).toNat)
 case atStart => exact ⟨0, by omega, rfl, hb, rfl⟩
 case round =>
  obtain ⟨k, hk, rfl, hb2, hnx⟩ := hrel; have HN := Hd hnx; clear hnx hb; have hblr : b < wr.heap.size := Nat.lt_of_lt_of_le hbl hb2.size; have hcr0 : wr.cell? ⟨b, o, none⟩ = some (.int .u8 x.toNat) := by rw [hb2.cell (p := ⟨b, o, none⟩) hbl]; exact hc0
  have HC : Hid (∀ i, (h : i < t.length) → wr.cell? ⟨b, o+1+i, none⟩ = some (.int .u8 t[i].toNat)) := fun i h => by rw [hb2.cell (p := ⟨b, o+1+i, none⟩) hbl]; exact hc i h
  clear hc hc0; by_cases hk4 : k < 4
  · have hi := index_spans k hk4; by_cases hlen : t.length + 1 ≤ k
    · have hd : decide (((t.length : Nat) : Int) + 1 ≤ k) = true := by simp; omega
      go_wp2_with fail; go_quiet (fail)
      go_wp2_with fail; go_roundw
      case rel => exact ⟨k+1, by omega, by go_num, (below_drewN (hb2.alloc hb2.size _) _), by rw [HN.out]; obtain ⟨f, hf⟩ : ∃ f, 4 - k = f + 1 := ⟨3 - k, by omega⟩; rw [hf, nextFrom, if_pos (by simp [hlen]), show 4 - (k+1) = f by omega]⟩
      case measure => simp [intOf]; omega
    · have hd : decide (((t.length : Nat) : Int) + 1 ≤ k) = false := by simp; omega
      by_cases hm : (bits .and .u8 x.toNat (mask k) != lead k) = true
      · go_wp2_with fail; go_quiet (fail)
        go_wp2_with fail; go_roundw
        case rel => exact ⟨k+1, by omega, by go_num, (below_drewN (hb2.alloc hb2.size _) _), by rw [HN.out]; obtain ⟨f, hf⟩ : ∃ f, 4 - k = f + 1 := ⟨3 - k, by omega⟩; rw [hf, nextFrom, if_pos (by simp [skipB, hm]), show 4 - (k+1) = f by omega]⟩
        case measure => simp [intOf]; omega
      · have hm : (bits .and .u8 x.toNat (mask k) != lead k) = false := by simpa using hm
        go_wp2_with fail; go_quiet (fail)
        go_wp2_with fail; go_quiet (fail)
        go_wp2_with fail; all_goals
         obtain ⟨r0, hr0⟩ : ∃ r0, r0 = bits .andNot .u8 x.toNat (mask k) := ⟨_, rfl⟩
         have hb0 : 0 ≤ r0 ∧ r0 < 256 := by rw [hr0]; exact andNot_bd _ _
         have Hr0 := Hd hr0; rw [← hr0]; clear hr0; rw [IntWalk.wrap32_in r0 (by omega)]; go_loop [6, 41] (fun rv iv => ∃ (i : Nat) (r : Int), i ≤ k ∧ iv = .int .i64 i ∧ rv = .int .i32 r ∧ 0 ≤ r ∧ r < 256 * 64 ^ i ∧ conts (t.take k) r0 = conts ((t.take k).drop i) r) (fun _ iv => k - (intOf iv).toNat)
         case atStart => exact ⟨0, r0, by omega, rfl, rfl, by omega, by omega, rfl⟩
         case round =>
          obtain ⟨i, r, hik, rfl, rfl, hrl, hrh, hco⟩ := hrel; have HCO := Hd hco; have HRH := Hd hrh; clear hco hrh; by_cases hlt : i < k
          · first
            | (exfalso; omega)
            | (have hit : i < t.length := by omega
               have hci := HC.out i hit; have hr20 : r < 1048576 := r_small HRH.out (by omega); have hc8 : t[i].toNat < 256 := t[i].toNat_lt; have hcs : conts ((t.take k).drop i) r = if (bits .and .u8 (t[i].toNat : Int) 192 != 128) = true then none else conts ((t.take k).drop (i + 1)) (r * 64 + (t[i].toNat : Int) % 64) := conts_at t k i r hlt hit
               generalize t[i] = c at hci hc8 hcs; have HCS := Hd hcs; clear hcs; have h63 := u8_and63 (x := (c.toNat : Int)) (by omega) (by omega); by_cases hcc : (bits .and .u8 (c.toNat : Int) 192 != 128) = true
               · go_wp2_with fail; go_ret2; refine ⟨?_, below_drewN (hb2.alloc hb2.size _) _⟩; rw [HN.out, next_at hk4 hlen hm, fin_none (by rw [← Hr0.out, HCO.out, HCS.out, if_pos hcc])]; rfl
               · have hcc : (bits .and .u8 (c.toNat : Int) 192 != 128) = false := by simpa using hcc
                 go_wp2_with fail; go_round
                 case rel => exact ⟨i + 1, _, by omega, by go_num, rfl, by omega, r_next HRH.out (by omega), by rw [HCO.out, HCS.out, if_neg (by rw [hcc]; decide)]⟩
                 case measure => simp [intOf]; omega)
          · obtain rfl : i = k := by omega
            have hend : nextGo (x :: t) = if r < least i || !sound r then (0, 0) else (r, i + 1) := by
             rw [HN.out, next_at hk4 hlen hm, fin_some (r := r) (by rw [← Hr0.out, HCO.out]; simp [conts])]
            have HE := Hd hend; clear hend; by_cases hl1 : r < least i
            · go_wp2_with (go_at_call 173; refine (sound_any _ _).mono ?_; rintro e w' ⟨rfl, rfl⟩)
              go_ret2; refine ⟨?_, below_drewN (hb2.alloc hb2.size _) _⟩; rw [HE.out, if_pos (by simp [hl1])]; rfl
            · by_cases hl2 : sound r = true
              · go_wp2_with (go_at_call 173; refine (sound_any _ _).mono ?_; rintro e w' ⟨rfl, rfl⟩)
                go_ret2; refine ⟨?_, below_drewN (hb2.alloc hb2.size _) _⟩; rw [HE.out, if_neg (by simp [hl1, hl2])]; rfl
              · have hl2 : sound r = false := by simpa using hl2
                go_wp2_with (go_at_call 173; refine (sound_any _ _).mono ?_; rintro e w' ⟨rfl, rfl⟩)
                go_ret2; refine ⟨?_, below_drewN (hb2.alloc hb2.size _) _⟩; rw [HE.out, if_pos (by simp [hl2])]; rfl
  · obtain rfl : k = 4 := by omega
    go_wp2_with fail; go_ret2; exact ⟨by rw [HN.out]; rfl, hb2⟩
set_option maxHeartbeats 800000 in
theorem next_nil (a : Option Addr) (cap : Nat) (w : World) :
 Calls Tryz.prog 139 #[.slice a 0 cap] w fun e w' => e = .returned (.tuple #[.int .i32 0, .int .i64 0]) ∧ Ext w w' := by
 go_enter Tryz.func139, Tryz.ntmps139
 go_wp2_with (go_at_call 172; refine (spans_any _).mono ?_; rintro e w' ⟨rfl, hb⟩)
 go_loopw [10] (fun kv wr => ∃ k : Nat, k ≤ 4 ∧ kv = .int .i64 k ∧ Below w.heap.size w wr) (fun kv _ => (4 - intOf kv).toNat)
 case atStart => exact ⟨0, by omega, rfl, hb⟩
 case round =>
  obtain ⟨k, hk, rfl, hb2⟩ := hrel; by_cases hk4 : k < 4
  · have hi := index_spans k hk4; have hd : decide ((0 : Int) ≤ k) = true := by simp
    go_wp2_with fail; go_quiet (fail)
    go_wp2_with fail; go_roundw
    case rel => exact ⟨k+1, by omega, by go_num, (below_drewN (hb2.alloc hb2.size _) _)⟩
    case measure => simp [intOf]; omega
  · obtain rfl : k = 4 := by omega
    go_wp2_with fail; go_ret2; exact ⟨rfl, hb2⟩
theorem next_any (v : Value) (xs : List UInt8) (w : World) (hx : Bytes w v xs) :
 Calls Tryz.prog 139 #[v] w fun e w' => e = .returned (.tuple #[.int .i32 (next xs).1, .int .i64 (next xs).2]) ∧ Ext w w' := by
 rcases hx.cases with ⟨rfl, a, cap, rfl, _⟩ | ⟨x, t, b, o, cap, rfl, rfl, h1, h2, h3, hb, hc0, hc, _⟩
 · exact next_nil a cap w
 · rw [← nextGo_eq]; exact next_cons b o cap x t w h1 h2 hb hc0 hc
end Go.Proofs.YtjapbjmeoaagmaaGreatDoor
