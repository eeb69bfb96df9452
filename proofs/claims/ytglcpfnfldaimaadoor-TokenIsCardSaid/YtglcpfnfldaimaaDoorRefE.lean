/- orangeryref01: what Quote does. -/
import Derived.Test.YtglcpfnfldaimaaDoorRefA
import Derived.Test.YtglcpfnfldaimaaDoorWQuote
set_option linter.unusedVariables false
set_option maxRecDepth 100000
set_option linter.unusedSimpArgs false
namespace Go.Proofs.YtglcpfnfldaimaaDoor
open Go.RowKit Go.Mem Orange

theorem ba_append (a b : ByteArray) : (a ++ b).data.toList = a.data.toList ++ b.data.toList := by simp
theorem ba_one (s : ByteArray) (i : Nat) (h : i < s.size) : (s.extract i (i + 1)).data.toList = [s[i]] := by
  have h1 : (s.extract i (i + 1)).data.toList = (s.data.toList.drop i).take 1 := by simp [ByteArray.data_extract, Array.toList_extract]
  rw [h1, List.drop_eq_getElem_cons (by simpa using h)]
  simp; rfl
theorem ba_ext {a b : ByteArray} (h : a.data.toList = b.data.toList) : a = b := by
  cases a; cases b; congr 1; exact Array.toList_inj.1 h
theorem ba_hex (n : Nat) (h : n < 16) : ((ByteArray.mk #[48, 49, 50, 51, 52, 53, 54, 55, 56, 57, 97, 98, 99, 100, 101, 102]).extract n (n + 1)).data.toList = [hexs[n]?.getD 0] := by
  rw [ba_one (ByteArray.mk #[48, 49, 50, 51, 52, 53, 54, 55, 56, 57, 97, 98, 99, 100, 101, 102]) n h, hexget n h]

set_option maxHeartbeats 3200000 in
set_option maxRecDepth 100000 in
theorem refquote_any (s : ByteArray) (w : World) (hl : s.size ≤ 1000000000) :
    Calls Tryd.prog 34 #[.string s] w fun e w' => e = .returned (.string ⟨(quote s.data.toList).toArray⟩) ∧ Ext w w' := by
  go_enter Tryd.func34, Tryd.ntmps34
  go_wp2_with fail
  go_loopw [3, 5] (fun v iv wr => ∃ (i n : Nat) (out : ByteArray), i ≤ s.size ∧ iv = .int .i64 i ∧ v = .string out ∧ wr = w.drewN n ∧ out.data.toList = 34 :: quoL (s.data.toList.take i)) (fun _ iv _ => s.size - (intOf iv).toNat)
  case atStart => exact ⟨0, 0, _, by omega, rfl, rfl, rfl, rfl⟩
  case round =>
    obtain ⟨i, n, out, hi, rfl, rfl, rfl, ho⟩ := hrel
    have hob : out.size ≤ 10000000000 := by
      have h1 := quoL_len (s.data.toList.take i)
      have h2 := congrArg List.length ho
      rw [Array.length_toList] at h2
      have h3 : (s.data.toList.take i).length ≤ i := List.length_take_le _ _
      simp only [List.length_cons] at h2
      show out.data.size ≤ _
      omega
    have HO := Lib.hid ho
    clear ho
    by_cases hlt : i < s.size
    · obtain ⟨c, hc⟩ : ∃ c, s[i] = c := ⟨_, rfl⟩
      have hq := quoL_snoc s i hlt c hc
      have hb1 := ba_one s i hlt
      rw [hc] at hb1
      have hc8 : c.toNat < 256 := c.toNat_lt
      have hmn : min (i + 1) s.size - i = 1 := by omega
      have HQ := Lib.hid hq
      have HB := Lib.hid hb1
      clear hq hb1
      by_cases h34 : c.toNat = 34
      · have hcc : Hid (c = 34) := Lib.hid (UInt8.toNat_inj.1 h34)
        have hqc : Hid (quoC c = [92, c]) := Lib.hid (by rw [hcc.out]; rfl)
        go_wp2_with fail
        go_roundw
        case rel => exact ⟨i + 1, _, _, by omega, by go_num, rfl, rfl, by simp only [ba_append, HO.out, HQ.out, hqc.out, HB.out]; simp⟩
        case measure => simp [intOf]; omega
      · have g34 : c ≠ 34 := fun e => h34 (by rw [e]; rfl)
        have q34 : ((c.toNat : Int) == 34) = false := by simp; omega
        by_cases h92 : c.toNat = 92
        · have hcc : Hid (c = 92) := Lib.hid (UInt8.toNat_inj.1 h92)
          have hqc : Hid (quoC c = [92, c]) := Lib.hid (by rw [hcc.out]; rfl)
          go_wp2_with fail
          go_roundw
          case rel => exact ⟨i + 1, _, _, by omega, by go_num, rfl, rfl, by simp only [ba_append, HO.out, HQ.out, hqc.out, HB.out]; simp⟩
          case measure => simp [intOf]; omega
        · have g92 : c ≠ 92 := fun e => h92 (by rw [e]; rfl)
          have q92 : ((c.toNat : Int) == 92) = false := by simp; omega
          by_cases h8 : c.toNat = 8
          · have hcc : Hid (c = 8) := Lib.hid (UInt8.toNat_inj.1 h8)
            have hqc : Hid (quoC c = [92, 98]) := Lib.hid (by rw [hcc.out]; rfl)
            go_wp2_with fail
            go_roundw
            case rel => exact ⟨i + 1, _, _, by omega, by go_num, rfl, rfl, by simp only [ba_append, HO.out, HQ.out, hqc.out]; simp⟩
            case measure => simp [intOf]; omega
          · have g8 : c ≠ 8 := fun e => h8 (by rw [e]; rfl)
            have q8 : ((c.toNat : Int) == 8) = false := by simp; omega
            by_cases h9 : c.toNat = 9
            · have hcc : Hid (c = 9) := Lib.hid (UInt8.toNat_inj.1 h9)
              have hqc : Hid (quoC c = [92, 116]) := Lib.hid (by rw [hcc.out]; rfl)
              go_wp2_with fail
              go_roundw
              case rel => exact ⟨i + 1, _, _, by omega, by go_num, rfl, rfl, by simp only [ba_append, HO.out, HQ.out, hqc.out]; simp⟩
              case measure => simp [intOf]; omega
            · have g9 : c ≠ 9 := fun e => h9 (by rw [e]; rfl)
              have q9 : ((c.toNat : Int) == 9) = false := by simp; omega
              by_cases h10 : c.toNat = 10
              · have hcc : Hid (c = 10) := Lib.hid (UInt8.toNat_inj.1 h10)
                have hqc : Hid (quoC c = [92, 110]) := Lib.hid (by rw [hcc.out]; rfl)
                go_wp2_with fail
                go_roundw
                case rel => exact ⟨i + 1, _, _, by omega, by go_num, rfl, rfl, by simp only [ba_append, HO.out, HQ.out, hqc.out]; simp⟩
                case measure => simp [intOf]; omega
              · have g10 : c ≠ 10 := fun e => h10 (by rw [e]; rfl)
                have q10 : ((c.toNat : Int) == 10) = false := by simp; omega
                by_cases h12 : c.toNat = 12
                · have hcc : Hid (c = 12) := Lib.hid (UInt8.toNat_inj.1 h12)
                  have hqc : Hid (quoC c = [92, 102]) := Lib.hid (by rw [hcc.out]; rfl)
                  go_wp2_with fail
                  go_roundw
                  case rel => exact ⟨i + 1, _, _, by omega, by go_num, rfl, rfl, by simp only [ba_append, HO.out, HQ.out, hqc.out]; simp⟩
                  case measure => simp [intOf]; omega
                · have g12 : c ≠ 12 := fun e => h12 (by rw [e]; rfl)
                  have q12 : ((c.toNat : Int) == 12) = false := by simp; omega
                  by_cases h13 : c.toNat = 13
                  · have hcc : Hid (c = 13) := Lib.hid (UInt8.toNat_inj.1 h13)
                    have hqc : Hid (quoC c = [92, 114]) := Lib.hid (by rw [hcc.out]; rfl)
                    go_wp2_with fail
                    go_roundw
                    case rel => exact ⟨i + 1, _, _, by omega, by go_num, rfl, rfl, by simp only [ba_append, HO.out, HQ.out, hqc.out]; simp⟩
                    case measure => simp [intOf]; omega
                  · have g13 : c ≠ 13 := fun e => h13 (by rw [e]; rfl)
                    have q13 : ((c.toNat : Int) == 13) = false := by simp; omega
                    by_cases h32 : c.toNat < 32
                    · have hqc : Hid (quoC c = [92, 117, 48, 48, hexs[c.toNat / 16]?.getD 0, hexs[c.toNat % 16]?.getD 0]) := Lib.hid (by simp only [quoC, g34, g92, g8, g9, g10, g12, g13, or_self, if_false]; rw [if_pos h32])
                      clear g34 g92 g8 g9 g10 g12 g13
                      have hx1 := ba_hex (c.toNat / 16) (by omega)
                      have hx2 := ba_hex (c.toNat % 16) (by omega)
                      have HX1 := Lib.hid hx1
                      have HX2 := Lib.hid hx2
                      clear hx1 hx2
                      have e1 : IntKind.u8.wrap ((c.toNat : Int) / 16 + 1) = (c.toNat : Int) / 16 + 1 := IntWalk.u8_in _ (by omega)
                      have e2 : IntKind.u8.wrap ((c.toNat : Int) % 16 + 1) = (c.toNat : Int) % 16 + 1 := IntWalk.u8_in _ (by omega)
                      have e3 : ((c.toNat : Int) / 16).toNat = c.toNat / 16 := by omega
                      have e4 : ((c.toNat : Int) % 16).toNat = c.toNat % 16 := by omega
                      have e5 : ((c.toNat : Int) / 16 + 1).toNat = c.toNat / 16 + 1 := by omega
                      have e6 : ((c.toNat : Int) % 16 + 1).toNat = c.toNat % 16 + 1 := by omega
                      have m1 : min (c.toNat / 16 + 1) 16 - c.toNat / 16 = 1 := by omega
                      have m2 : min (c.toNat % 16 + 1) 16 - c.toNat % 16 = 1 := by omega
                      go_wp2_with fail
                      go_quiet (fail)
                      clear e1 e2 e3 e4 e5 e6 m1 m2
                      go_wp2_with fail
                      go_roundw
                      case rel => exact ⟨i + 1, _, _, by omega, by go_num, rfl, rfl, by simp only [ba_append, HO.out, HQ.out, hqc.out, HX1.out, HX2.out]; simp⟩
                      case measure => simp [intOf]; omega
                    · have hqc : Hid (quoC c = [c]) := Lib.hid (by simp only [quoC, g34, g92, g8, g9, g10, g12, g13, or_self, if_false]; rw [if_neg h32])
                      clear g34 g92 g8 g9 g10 g12 g13
                      go_wp2_with fail
                      go_roundw
                      case rel => exact ⟨i + 1, _, _, by omega, by go_num, rfl, rfl, by simp only [ba_append, HO.out, HQ.out, hqc.out, HB.out]; simp⟩
                      case measure => simp [intOf]; omega
    · obtain rfl : i = s.size := by omega
      go_wp2_with fail
      go_ret
      refine ⟨ret_eq (congrArg Value.string (ba_ext ?_)), below_drewN (ext_refl w) _⟩
      have := HO.out
      rw [List.take_of_length_le (by rw [Array.length_toList]; exact Nat.le_refl _)] at this
      rw [ba_append, this]; simp [quote]
end Go.Proofs.YtglcpfnfldaimaaDoor
