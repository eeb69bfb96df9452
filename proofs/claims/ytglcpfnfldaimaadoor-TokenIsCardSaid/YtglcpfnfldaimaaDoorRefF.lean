/- orangeryref01: what hex does. -/
import Derived.Test.YtglcpfnfldaimaaDoorRefE
import Derived.Test.YtglcpfnfldaimaaDoorWEscB
set_option linter.unusedVariables false
set_option maxRecDepth 100000
set_option linter.unusedSimpArgs false
namespace Orange
def loB : ByteArray := ⟨#[48, 49, 50, 51, 52, 53, 54, 55, 56, 57, 97, 98, 99, 100, 101, 102]⟩
def upB : ByteArray := ⟨#[48, 49, 50, 51, 52, 53, 54, 55, 56, 57, 65, 66, 67, 68, 69, 70]⟩
def hexScan (c : UInt8) : Nat → Int
  | 0 => -1
  | k + 1 => if c = loB.get! k ∨ c = upB.get! k then k else hexScan c k
theorem hexScan_end (c : UInt8) : hexScan c 16 = hexD c := by
  have h1 := u8f (p := fun n => hexScan (UInt8.ofNat n) 16 == hexD (UInt8.ofNat n)) (by decide +kernel) c
  rw [UInt8.ofNat_toNat, beq_iff_eq] at h1
  exact h1
theorem hexScan_bd (c : UInt8) : ∀ k, -1 ≤ hexScan c k ∧ hexScan c k ≤ k
  | 0 => by simp [hexScan]
  | k + 1 => by
    have := hexScan_bd c k
    rw [hexScan]; split <;> omega
/-- the number of four digits; below 0: they are none -/
def hexv (xs : List UInt8) : Int := if xs.length < 4 then -1 else match hexN (xs.take 4) 0 with | some v => v | none => -1
theorem hexN_nn (xs : List UInt8) (i : Nat) (v : Int) (hi : i = 4) (hl : 4 ≤ xs.length) : hexN ((xs.take 4).drop i) v = some v := by
  subst hi
  rw [List.drop_of_length_le (by simp; omega), hexN]
end Orange
namespace Go.Proofs.YtglcpfnfldaimaaDoor
open Go.RowKit Go.Mem Orange

theorem lo_at (k : Nat) (h : k < 16) : (ByteArray.mk #[48, 49, 50, 51, 52, 53, 54, 55, 56, 57, 97, 98, 99, 100, 101, 102])[k]'h = loB.get! k := by
  have : k = 0 ∨ k = 1 ∨ k = 2 ∨ k = 3 ∨ k = 4 ∨ k = 5 ∨ k = 6 ∨ k = 7 ∨ k = 8 ∨ k = 9 ∨ k = 10 ∨ k = 11 ∨ k = 12 ∨ k = 13 ∨ k = 14 ∨ k = 15 := by omega
  rcases this with rfl | rfl | rfl | rfl | rfl | rfl | rfl | rfl | rfl | rfl | rfl | rfl | rfl | rfl | rfl | rfl <;> rfl
theorem up_at (k : Nat) (h : k < 16) : (ByteArray.mk #[48, 49, 50, 51, 52, 53, 54, 55, 56, 57, 65, 66, 67, 68, 69, 70])[k]'h = upB.get! k := by
  have : k = 0 ∨ k = 1 ∨ k = 2 ∨ k = 3 ∨ k = 4 ∨ k = 5 ∨ k = 6 ∨ k = 7 ∨ k = 8 ∨ k = 9 ∨ k = 10 ∨ k = 11 ∨ k = 12 ∨ k = 13 ∨ k = 14 ∨ k = 15 := by omega
  rcases this with rfl | rfl | rfl | rfl | rfl | rfl | rfl | rfl | rfl | rfl | rfl | rfl | rfl | rfl | rfl | rfl <;> rfl

set_option maxHeartbeats 3200000 in
theorem refhex_any (v : Value) (xs : List UInt8) (w : World) (hx : Bytes w v xs) :
    Calls Tryd.prog 76 #[v] w fun e w' => e = .returned (.int .i64 (hexv xs)) ∧ Ext w w' := by
  obtain ⟨a, cap, rfl, hxc, hxm, hxl, hat⟩ := hx
  by_cases hl4 : xs.length < 4
  · have hv : Hid (hexv xs = -1) := Lib.hid (by rw [hexv, if_pos hl4])
    go_enter Tryd.func76, Tryd.ntmps76
    go_wp2_with fail
    go_ret
    exact ⟨ret_int hv.out.symm, ext_refl w⟩
  · obtain ⟨b, o, rfl, hbl, hc⟩ := hat (by omega)
    have hd : decide ((xs.length : Int) < 4) = false := by simp; omega
    have hv : hexv xs = match hexN (xs.take 4) 0 with | some v => v | none => -1 := by rw [hexv, if_neg hl4]
    have HV := Lib.hid hv
    have HC := Lib.hid hc
    clear hv hc hat
    go_enter Tryd.func76, Tryd.ntmps76
    go_wp2_with fail
    go_loopw [3, 4] (fun rv iv wr => ∃ (i n : Nat) (r : Int), i ≤ 4 ∧ iv = .int .i64 i ∧ rv = .int .i64 r ∧ 0 ≤ r ∧ r < 16 ^ i ∧ wr = w.drewN n ∧ hexN (xs.take 4) 0 = hexN ((xs.take 4).drop i) r) (fun _ iv _ => 4 - (intOf iv).toNat)
    case atStart => exact ⟨0, 0, 0, by omega, rfl, rfl, by omega, by decide, rfl, rfl⟩
    case round =>
      obtain ⟨i, n, r, hi, rfl, rfl, hr0, hrh, rfl, hf⟩ := hrel
      have HF := Lib.hid hf
      have HRH := Lib.hid hrh
      clear hf hrh
      have hr6 : r < 65537 := by
        have : i = 0 ∨ i = 1 ∨ i = 2 ∨ i = 3 ∨ i = 4 := by omega
        have h := HRH.out
        rcases this with rfl | rfl | rfl | rfl | rfl <;> simp at h <;> omega
      by_cases hlt : i < 4
      · have hit : i < xs.length := by omega
        have hci := HC.out i hit
        have hst := hexN_at xs 4 i r hlt hit
        have hbd := hexD_bd xs[i]
        have hc8 : xs[i].toNat < 256 := xs[i].toNat_lt
        generalize xs[i] = c at hci hst hbd hc8
        have HST := Lib.hid hst
        clear hst
        go_wp2_with fail
        go_loopw [5, 6] (fun dv kv wr => ∃ (k m : Nat), k ≤ 16 ∧ kv = .int .i64 k ∧ dv = .int .i64 (hexScan c k) ∧ wr = w.drewN m) (fun _ kv _ => 16 - (intOf kv).toNat)
        case atStart => exact ⟨0, n, by omega, rfl, rfl, rfl⟩
        case round =>
          obtain ⟨k, m, hk, rfl, rfl, rfl⟩ := hrel
          have hsb := hexScan_bd c k
          by_cases hkl : k < 16
          · have h1 := lo_at k hkl
            have h2 := up_at k hkl
            have hsn : hexScan c (k + 1) = if c = loB.get! k ∨ c = upB.get! k then (k : Int) else hexScan c k := rfl
            generalize loB.get! k = x at h1 hsn
            generalize upB.get! k = y at h2 hsn
            have HSN := Lib.hid hsn
            clear hsn
            by_cases hcx : c = x
            · have hb1 : ((c.toNat : Int) == x.toNat) = true := by simp [hcx]
              have HCX := Lib.hid hcx
              clear hcx
              go_wp2_with fail
              go_quiet (fail)
              go_wp2_with fail
              go_roundw
              case rel => exact ⟨k + 1, _, by omega, by go_num, by rw [HSN.out, if_pos (.inl HCX.out)], rfl⟩
              case measure => simp [intOf]; omega
            · have hne1 : (c.toNat : Int) ≠ x.toNat := fun e => hcx (UInt8.toNat_inj.1 (by omega))
              have hb1 : ((c.toNat : Int) == x.toNat) = false := by simpa using hne1
              clear hne1
              by_cases hcy : c = y
              · have hb2 : ((c.toNat : Int) == y.toNat) = true := by simp [hcy]
                have HCY := Lib.hid hcy
                clear hcy
                go_wp2_with fail
                go_quiet (fail)
                go_wp2_with fail
                go_roundw
                case rel => exact ⟨k + 1, _, by omega, by go_num, by rw [HSN.out, if_pos (.inr HCY.out)], rfl⟩
                case measure => simp [intOf]; omega
              · have hne2 : (c.toNat : Int) ≠ y.toNat := fun e => hcy (UInt8.toNat_inj.1 (by omega))
                have hb2 : ((c.toNat : Int) == y.toNat) = false := by simpa using hne2
                clear hne2
                go_wp2_with fail
                go_quiet (fail)
                go_wp2_with fail
                go_roundw
                case rel => exact ⟨k + 1, _, by omega, by go_num, by rw [HSN.out, if_neg (fun h => h.elim hcx hcy)], rfl⟩
                case measure => simp [intOf]; omega
          · obtain rfl : k = 16 := by omega
            rw [hexScan_end]
            clear hsb
            by_cases hneg : hexD c < 0
            · have hfin : Hid (hexv xs = -1) := Lib.hid (by rw [HV.out, HF.out, HST.out, if_pos hneg])
              go_wp2_with fail
              go_ret
              exact ⟨ret_int hfin.out.symm, below_drewN (ext_refl w) _⟩
            · have hnn : 0 ≤ hexD c := by omega
              go_wp2_with fail
              go_roundw
              case rel =>
                refine ⟨i + 1, _, _, by omega, by go_num, rfl, by omega, ?_, rfl, by rw [HF.out, HST.out, if_neg hneg]⟩
                have := HRH.out
                rw [Int.pow_succ]; omega
              case measure => simp [intOf]; omega
      · obtain rfl : i = 4 := by omega
        have hfin : Hid (hexv xs = r) := Lib.hid (by rw [HV.out, HF.out, hexN_nn xs 4 r rfl (by omega)])
        go_wp2_with fail
        go_ret
        exact ⟨ret_int hfin.out.symm, below_drewN (ext_refl w) _⟩
end Go.Proofs.YtglcpfnfldaimaaDoor
