/- token: what number and escape do. -/
import Derived.Test.YtglcpfnfldaimaaDoorTokA
set_option linter.unusedVariables false
set_option linter.unusedSimpArgs false
set_option maxRecDepth 100000
namespace Go.Proofs.YtglcpfnfldaimaaDoor
open Go.RowKit Go.Mem Orange

def bhd (l : List UInt8) (k : Nat) : Bool := decide (k = 0) || isE (l.getD (k - 1) 0)
theorem isE_eq (c : UInt8) : (bits .or .u8 (c.toNat : Int) 32 == 101) = isE c := by
  have := isE_or c
  rw [bne] at this
  simpa using this
theorem hasPrefix_2 (l : List UInt8) (w : World) :
    Calls Tryd.prog 61 #[.string ⟨l.toArray⟩, .string ⟨#[46, 46]⟩] w fun e w' => e = .returned (.bool (decide (l.head? = some 46) && decide ((l.drop 1).head? = some 46))) ∧ w = w' := by
  refine (Tryd.strings_HasPrefix ⟨l.toArray⟩ ⟨#[46, 46]⟩ w).mono ?_
  rintro e w' ⟨rfl, rfl⟩
  refine ⟨?_, rfl⟩
  have e : Lib.hasPrefix l [46, 46] = (decide (l.head? = some 46) && decide ((l.drop 1).head? = some 46)) := by
    cases l with
    | nil => rfl
    | cons x t => cases t with
      | nil => simp [Lib.hasPrefix, List.isPrefixOf]
      | cons y u => simp [Lib.hasPrefix, List.isPrefixOf, eq_comm, Bool.beq_eq_decide_eq]
  rw [← e]
  try rfl
theorem drop_ext (l : List UInt8) (k n : Nat) (h : n = l.length) : ByteArray.extract ⟨l.toArray⟩ k n = ⟨(l.drop k).toArray⟩ := by
  subst h
  apply ByteArray.ext
  apply Array.toList_inj.1
  simp only [ByteArray.data_extract, Array.toList_extract, List.extract_eq_take_drop]
  exact List.take_of_length_le (by simp)

set_option maxHeartbeats 3200000 in
theorem number_any (l : List UInt8) (w : World) (hl : l.length ≤ 1000000000) :
    Calls Tryd.prog 43 #[.string ⟨l.toArray⟩] w fun e w' => e = .returned (.int .i64 (numLen true l)) ∧ w = w' := by
  go_enter Tryd.func43, Tryd.ntmps43
  go_wp2_with fail
  go_loop [8] (fun kv => ∃ k : Nat, kv = .int .i64 k ∧ k ≤ l.length ∧ numLen true l = k + numLen (bhd l k) (l.drop k)) (fun kv => l.length - (intOf kv).toNat)
  case atStart => exact ⟨0, rfl, by omega, by simp [bhd]⟩
  case round =>
    obtain ⟨k, rfl, hk, hr⟩ := hrel
    have HR := Lib.hid hr
    clear hr
    by_cases hlt : k < l.length
    · have hgk := get_arr l k hlt
      have hdk : l.drop k = l[k] :: l.drop (k + 1) := List.drop_eq_getElem_cons hlt
      have hxk : ByteArray.extract ⟨l.toArray⟩ k l.length = ⟨(l.drop k).toArray⟩ := drop_ext l k _ rfl
      have hb1 : bhd l (k + 1) = isE l[k] := by simp [bhd, List.getD, hlt]
      have hq := isE_eq l[k]
      have hnl : numLen (bhd l k) (l.drop k) = if numOk (bhd l k) l[k] (l.drop (k + 1)) then numLen (isE l[k]) (l.drop (k + 1)) + 1 else 0 := by rw [hdk, numLen]
      have hc8 : l[k].toNat < 256 := l[k].toNat_lt
      have hok : numOk (bhd l k) l[k] (l.drop (k + 1)) = (isDig l[k] || isE l[k] || (decide (l[k].toNat = 43 ∨ l[k].toNat = 45) && bhd l k) || (decide (l[k].toNat = 46) && decide ((l.drop (k + 1)).head? ≠ some 46))) := rfl
      have hpre : (decide ((l.drop k).head? = some 46) && decide (((l.drop k).drop 1).head? = some 46)) = (decide (l[k] = 46) && decide ((l.drop (k + 1)).head? = some 46)) := by
        rw [hdk, List.head?_cons, List.drop_succ_cons, List.drop_zero]; simp only [Option.some.injEq]
      generalize l[k] = c at *
      have HB1 := Lib.hid hb1
      have HNL := Lib.hid hnl
      have HOK := Lib.hid hok
      have HPRE := Lib.hid hpre
      clear hb1 hnl hok hpre hdk
      have hbh : ∃ b, bhd l k = b ∧ (k = 0 → b = true) ∧ (∀ h : 0 < k, ∃ p : UInt8, (ByteArray.mk l.toArray)[k - 1]'(by show k - 1 < l.toArray.size; simp; omega) = p ∧ b = isE p) := by
        refine ⟨_, rfl, fun h => by simp [bhd, h], fun h => ⟨l[k - 1], get_arr l (k - 1) (by omega), ?_⟩⟩
        have : decide (k = 0) = false := by simp; omega
        simp [bhd, this, List.getD, (show k - 1 < l.length by omega)]
      obtain ⟨b, hb, hb0, hbp⟩ := hbh
      rw [hb] at HNL HOK
      have go : ∀ ok : Bool, numOk b c (l.drop (k + 1)) = ok → (ok = true → numLen true l = (k + 1) + numLen (bhd l (k + 1)) (l.drop (k + 1))) ∧ (ok = false → numLen true l = k) := by
        intro ok h
        constructor
        · rintro rfl; rw [HR.out, hb, HNL.out, if_pos h, HB1.out]; omega
        · rintro rfl; rw [HR.out, hb, HNL.out, h]; simp
      have GO := Lib.hid go
      clear go hb
      have hbool : ∀ P : Prop, (∀ b', b = b' → P) → P := fun P h => h b rfl
      have HSTART : Hid (k = 0 ∨ 0 < k) := Lib.hid (by omega)
      rcases Nat.eq_zero_or_pos k with hk0 | hk0
      · obtain rfl : b = true := hb0 hk0
        subst hk0
        clear hb0 hbp hbool HSTART
        go_wp2_with fail
        refine (digit_any c _).mono ?_
        rintro e w1 ⟨rfl, rfl⟩
        cases hD : isDig c with
        | true =>
          go_wp2_with fail
          go_round
          case rel => exact ⟨_ + 1, by go_num, by omega, (GO.out true (by rw [HOK.out]; simp [hD])).1 rfl⟩
          case measure => simp [intOf]; omega
        | false =>
          cases hE : isE c with
          | true =>
            rw [hE] at hq
            go_wp2_with fail
            go_round
            case rel => exact ⟨_ + 1, by go_num, by omega, (GO.out true (by rw [HOK.out]; simp [hE])).1 rfl⟩
            case measure => simp [intOf]; omega
          | false =>
            rw [hE] at hq
            by_cases h43 : c.toNat = 43 ∨ c.toNat = 45
            · have h46 : ¬ c.toNat = 46 := by omega
              have q46 : ((c.toNat : Int) == 46) = false := by simp; omega
              rcases h43 with h43 | h43
              · go_wp2_with fail
                go_round
                case rel => exact ⟨_ + 1, by go_num, by omega, (GO.out true (by rw [HOK.out]; simp [h43])).1 rfl⟩
                case measure => simp [intOf]; omega
              · go_wp2_with fail
                go_round
                case rel => exact ⟨_ + 1, by go_num, by omega, (GO.out true (by rw [HOK.out]; simp [h43])).1 rfl⟩
                case measure => simp [intOf]; omega
            · have q43 : ((c.toNat : Int) == 43) = false := by simp; omega
              have q45 : ((c.toNat : Int) == 45) = false := by simp; omega
              have HN43 := Lib.hid h43
              clear h43
              by_cases h46 : c.toNat = 46
              · go_wp2_with fail
                refine (hasPrefix_2 _ _).mono ?_
                rintro e w1 ⟨he, rfl⟩
                have hpre := HPRE.out
                have h46d : decide (c = 46) = true := by simp [← UInt8.toNat_inj]; exact h46
                try simp only [List.drop_zero] at hpre
                rw [hpre, h46d, Bool.true_and] at he
                cases hN : decide ((l.drop (0 + 1)).head? = some 46) with
                | true =>
                  rw [hN] at he
                  subst he
                  have HF : Hid (numLen true l = _) := Lib.hid ((GO.out false (by rw [HOK.out]; have := HN43.out; simp at hN; simp [hD, hE, h46, hN])).2 rfl)
                  clear h46d hpre hN
                  go_wp2_with fail
                  go_ret
                  exact ⟨ret_int (by first | (rw [HF.out]; done) | (rw [HF.out]; rfl)), rfl⟩
                | false =>
                  rw [hN] at he
                  subst he
                  have HF := (GO.out true (by rw [HOK.out]; simp at hN; simp [h46, hN])).1 rfl
                  have HF := Lib.hid HF
                  clear h46d hpre hN
                  go_wp2_with fail
                  go_round
                  case rel => exact ⟨_ + 1, by go_num, by omega, HF.out⟩
                  case measure => simp [intOf]; omega
              · have q46 : ((c.toNat : Int) == 46) = false := by simp; omega
                have HF : Hid (numLen true l = _) := Lib.hid ((GO.out false (by rw [HOK.out]; have := HN43.out; simp [hD, hE, h46]; omega)).2 rfl)
                go_wp2_with fail
                go_ret
                exact ⟨ret_int (by first | (rw [HF.out]; done) | (rw [HF.out]; rfl)), rfl⟩
      · obtain ⟨p, hp, rfl⟩ := hbp hk0
        have hqp := isE_eq p
        have hk1 : ((k : Int) == 0) = false := by simp; omega
        clear hb0 hbool HSTART
        obtain ⟨b, hbE⟩ : ∃ b, isE p = b := ⟨_, rfl⟩
        rw [hbE] at hqp HOK HNL GO
        clear hbE
        go_wp2_with fail
        refine (digit_any c _).mono ?_
        rintro e w1 ⟨rfl, rfl⟩
        cases hD : isDig c with
        | true =>
          go_wp2_with fail
          go_round
          case rel => exact ⟨_ + 1, by go_num, by omega, (GO.out true (by rw [HOK.out]; simp [hD])).1 rfl⟩
          case measure => simp [intOf]; omega
        | false =>
          cases hE : isE c with
          | true =>
            rw [hE] at hq
            go_wp2_with fail
            go_round
            case rel => exact ⟨_ + 1, by go_num, by omega, (GO.out true (by rw [HOK.out]; simp [hE])).1 rfl⟩
            case measure => simp [intOf]; omega
          | false =>
            rw [hE] at hq
            by_cases h43 : c.toNat = 43 ∨ c.toNat = 45
            · have h46 : ¬ c.toNat = 46 := by omega
              have q46 : ((c.toNat : Int) == 46) = false := by simp; omega
              cases b with
              | true =>
                rcases h43 with h43 | h43
                · go_wp2_with fail
                  go_round
                  case rel => exact ⟨_ + 1, by go_num, by omega, (GO.out true (by rw [HOK.out]; simp [h43])).1 rfl⟩
                  case measure => simp [intOf]; omega
                · go_wp2_with fail
                  go_round
                  case rel => exact ⟨_ + 1, by go_num, by omega, (GO.out true (by rw [HOK.out]; simp [h43])).1 rfl⟩
                  case measure => simp [intOf]; omega
              | false =>
                have HF : Hid (numLen true l = _) := Lib.hid ((GO.out false (by rw [HOK.out]; simp [hD, hE, h46])).2 rfl)
                rcases h43 with h43 | h43
                · go_wp2_with fail
                  go_ret
                  exact ⟨ret_int (by first | (rw [HF.out]; done) | (rw [HF.out]; rfl)), rfl⟩
                · go_wp2_with fail
                  go_ret
                  exact ⟨ret_int (by first | (rw [HF.out]; done) | (rw [HF.out]; rfl)), rfl⟩
            · have q43 : ((c.toNat : Int) == 43) = false := by simp; omega
              have q45 : ((c.toNat : Int) == 45) = false := by simp; omega
              have HN43 := Lib.hid h43
              clear h43
              by_cases h46 : c.toNat = 46
              · go_wp2_with fail
                refine (hasPrefix_2 _ _).mono ?_
                rintro e w1 ⟨he, rfl⟩
                have hpre := HPRE.out
                have h46d : decide (c = 46) = true := by simp [← UInt8.toNat_inj]; exact h46
                try simp only [List.drop_zero] at hpre
                rw [hpre, h46d, Bool.true_and] at he
                cases hN : decide ((l.drop (k + 1)).head? = some 46) with
                | true =>
                  rw [hN] at he
                  subst he
                  have HF : Hid (numLen true l = _) := Lib.hid ((GO.out false (by rw [HOK.out]; have := HN43.out; simp at hN; simp [hD, hE, h46, hN])).2 rfl)
                  clear h46d hpre hN
                  go_wp2_with fail
                  go_ret
                  exact ⟨ret_int (by first | (rw [HF.out]; done) | (rw [HF.out]; rfl)), rfl⟩
                | false =>
                  rw [hN] at he
                  subst he
                  have HF := (GO.out true (by rw [HOK.out]; simp at hN; simp [h46, hN])).1 rfl
                  have HF := Lib.hid HF
                  clear h46d hpre hN
                  go_wp2_with fail
                  go_round
                  case rel => exact ⟨_ + 1, by go_num, by omega, HF.out⟩
                  case measure => simp [intOf]; omega
              · have q46 : ((c.toNat : Int) == 46) = false := by simp; omega
                have HF : Hid (numLen true l = _) := Lib.hid ((GO.out false (by rw [HOK.out]; have := HN43.out; simp [hD, hE, h46]; omega)).2 rfl)
                go_wp2_with fail
                go_ret
                exact ⟨ret_int (by first | (rw [HF.out]; done) | (rw [HF.out]; rfl)), rfl⟩
    · obtain rfl : k = l.length := by omega
      have hfin : Hid (numLen true l = l.length) := Lib.hid (by rw [HR.out, List.drop_length, numLen]; omega)
      go_wp2_with fail
      go_ret
      exact ⟨ret_int (by rw [hfin.out]), rfl⟩
end Go.Proofs.YtglcpfnfldaimaaDoor
