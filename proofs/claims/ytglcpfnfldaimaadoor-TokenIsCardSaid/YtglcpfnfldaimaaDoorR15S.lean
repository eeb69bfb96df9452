/- orangeryref15: what sign does. -/
import Derived.Test.YtglcpfnfldaimaaDoorR15A
import Derived.Test.YtglcpfnfldaimaaDoorTokD
set_option linter.unusedVariables false
set_option linter.unusedSimpArgs false
set_option maxRecDepth 100000
namespace Go.Proofs.YtglcpfnfldaimaaDoor
open Go.RowKit Go.Mem Orange
theorem ones_idx (c : UInt8) : decide (0 ≤ Lib.indexByte onesL c) = onesL.contains c := by
  have h := u8f (p := fun n => decide (0 ≤ Lib.indexByte onesL (UInt8.ofNat n)) == onesL.contains (UInt8.ofNat n)) (by decide +kernel) c
  rw [UInt8.ofNat_toNat, beq_iff_eq] at h
  exact h
theorem pre2 (p m : List UInt8) (hp : p.length = 2) : p.isPrefixOf m = decide (m.take 2 = p) := by
  rw [Bool.eq_iff_iff, List.isPrefixOf_iff_prefix, decide_eq_true_eq]
  constructor
  · rintro ⟨t, rfl⟩
    rw [← hp, List.take_left]
  · intro h
    exact ⟨m.drop 2, by rw [← h, List.take_append_drop]⟩
theorem twos_len : ∀ k, (h : k < 8) → (twosL[k]'h).length = 2 := by decide
def twoCells : Array Value := #[.string ⟨#[46, 46]⟩, .string ⟨#[61, 61]⟩, .string ⟨#[33, 61]⟩, .string ⟨#[60, 61]⟩, .string ⟨#[62, 61]⟩, .string ⟨#[38, 38]⟩, .string ⟨#[124, 124]⟩, .string ⟨#[58, 61]⟩]
theorem two_at : ∀ k, (h : k < 8) → twoCells[k]? = some (.string ⟨(twosL[k]'h).toArray⟩) := fun k h => by
  rcases (by omega : k = 0 ∨ k = 1 ∨ k = 2 ∨ k = 3 ∨ k = 4 ∨ k = 5 ∨ k = 6 ∨ k = 7) with rfl | rfl | rfl | rfl | rfl | rfl | rfl | rfl <;> rfl
set_option maxHeartbeats 3200000 in
theorem r15sign_any (l : List UInt8) (at0 : Nat) (w : World) (hl : l.length ≤ 1000000000) (h0 : at0 < l.length) :
    Calls Tryd.prog 29 #[.string ⟨l.toArray⟩, .int .i64 at0] w fun e w' => e = .returned (.int .i64 (signP (l.drop at0))) ∧ Ext w w' := by
  have hg := sx_get l at0 h0
  have hdk := List.drop_eq_getElem_cons h0
  generalize l[at0] = c at *
  have hx := sx_mid l at0 (at0 + 2)
  have hx2 : (l.take (at0 + 2)).drop at0 = (l.drop at0).take 2 := by rw [List.drop_take, Nat.add_sub_cancel_left]
  rw [hx2] at hx
  have hhd : (l.drop at0).headD 0 = c := by rw [hdk]; rfl
  have hml : (l.drop at0).length = l.length - at0 := by simp
  have hsp : signP (l.drop at0) = if isTwo (l.drop at0) then 2 else if onesL.contains c then 1 else 0 := by
    unfold signP; rw [hhd]
    have := ones_idx c
    by_cases h : 0 ≤ Lib.indexByte onesL c
    · rw [if_pos h]; rw [decide_eq_true h] at this; rw [← this]; rfl
    · rw [if_neg h]; rw [decide_eq_false h] at this; rw [← this]; rfl
  generalize l.drop at0 = m at *
  have HSP := Lib.hid hsp
  have hblk := heap_alloc_new w (.cells twoCells 9)
  have hE : Ext w (w.alloc (.cells twoCells 9)) := (ext_refl w).alloc (Nat.le_refl _) _
  have HML := Lib.hid hml
  have HX := Lib.hid hx
  simp only [twoCells] at hblk hE
  clear hdk hx2 hhd hsp hml
  go_enter Tryd.func29, Tryd.ntmps29
  go_wp2_with fail
  generalize w.alloc (.cells #[.string ⟨#[46, 46]⟩, .string ⟨#[61, 61]⟩, .string ⟨#[33, 61]⟩, .string ⟨#[60, 61]⟩, .string ⟨#[62, 61]⟩, .string ⟨#[38, 38]⟩, .string ⟨#[124, 124]⟩, .string ⟨#[58, 61]⟩] 9) = w1 at *
  have HC : Hid (∀ k, (h : k < 8) → w1.cell? ⟨w.heap.size, k, none⟩ = some (.string ⟨(twosL[k]'h).toArray⟩)) := Lib.hid (fun k h => by rw [cell_of_cells hblk]; exact two_at k h)
  have HLT := Lib.hid (Array.getElem?_eq_some_iff.1 hblk).1
  clear hblk
  go_loopw [6] (fun kv wr => ∃ k n : Nat, kv = .int .i64 k ∧ k ≤ 8 ∧ wr = w1.drewN n ∧ isTwo m = (twosL.drop k).any fun p => p.isPrefixOf m) (fun kv _ => 8 - (intOf kv).toNat)
  case atStart => exact ⟨0, 0, rfl, by omega, rfl, rfl⟩
  case round =>
    obtain ⟨k, n, rfl, hk, rfl, hr⟩ := hrel
    have HR := Lib.hid hr
    clear hr
    by_cases hlt : k < 8
    · have hck : w1.cell? ⟨w.heap.size, k, none⟩ = _ := HC.out k hlt
      have hdk : twosL.drop k = twosL[k]'hlt :: twosL.drop (k + 1) := List.drop_eq_getElem_cons hlt
      have hp2 := twos_len k hlt
      generalize twosL[k]'hlt = p at *
      have hpre := pre2 p m hp2
      have HDK := Lib.hid hdk
      have HPRE := Lib.hid hpre
      have HP2 := Lib.hid hp2
      clear hdk hpre hp2
      by_cases h1 : at0 + 1 < l.length
      · have hd1 : decide ((at0 : Int) + 1 < l.length) = true := by simp; omega
        have b1 : (at0 : Int) + 2 ≤ l.length := by omega
        have hbq : (m.take 2 == p) = p.isPrefixOf m := by rw [HPRE.out]; rw [Bool.eq_iff_iff]; simp
        obtain ⟨bp, hbp⟩ : ∃ b, p.isPrefixOf m = b := ⟨_, rfl⟩
        rw [hbp] at hbq
        have HBP := Lib.hid hbp
        clear hbp
        cases bp with
        | true =>
          have HF : Hid (signP m = 2) := Lib.hid (by rw [HSP.out, if_pos (by rw [HR.out, HDK.out, List.any_cons, HBP.out]; rfl)])
          go_wp2_with fail
          go_quiet (fail)
          go_wp2_with fail
          go_ret
          exact ⟨ret_int (by rw [HF.out]; rfl), below_drewN (below_drewN hE _) _⟩
        | false =>
          have HN : Hid (isTwo m = (twosL.drop (k + 1)).any fun p => p.isPrefixOf m) := Lib.hid (by rw [HR.out, HDK.out, List.any_cons, HBP.out]; rfl)
          go_wp2_with fail
          go_quiet (fail)
          go_wp2_with fail
          go_roundw
          case rel => exact ⟨k + 1, _, by go_num, by omega, rfl, HN.out⟩
          case measure => simp [intOf]; omega
      · have hd1 : decide ((at0 : Int) + 1 < l.length) = false := by simp; omega
        have HN : Hid (isTwo m = (twosL.drop (k + 1)).any fun p => p.isPrefixOf m) := Lib.hid (by
          have h2 : p.isPrefixOf m = false := by
            rw [HPRE.out, decide_eq_false_iff_not]
            intro e
            have := congrArg List.length e
            rw [List.length_take, HML.out, HP2.out] at this
            omega
          rw [HR.out, HDK.out, List.any_cons, h2]; rfl)
        go_wp2_with fail
        go_quiet (fail)
        go_wp2_with fail
        go_roundw
        case rel => exact ⟨k + 1, _, by go_num, by omega, rfl, HN.out⟩
        case measure => simp [intOf]; omega
    · obtain rfl : k = 8 := by omega
      have H2 : Hid (signP m = if onesL.contains c then 1 else 0) := Lib.hid (by rw [HSP.out, if_neg (by rw [HR.out, show twosL.drop 8 = [] from rfl]; simp)])
      have hE2 : Ext w (w1.drewN n) := below_drewN hE _
      generalize w1.drewN n = w2 at *
      clear HSP HR HX HC HLT hk hlt hx
      go_wp2_with fail
      go_loopw [8] (fun kv wr => ∃ k n : Nat, kv = .int .i64 k ∧ k ≤ 20 ∧ wr = w2.drewN n ∧ onesL.contains c = (onesL.drop k).contains c) (fun kv _ => 20 - (intOf kv).toNat)
      case atStart => exact ⟨0, 0, rfl, by omega, rfl, rfl⟩
      case round =>
        obtain ⟨k, n, rfl, hk, rfl, hr⟩ := hrel
        have HR := Lib.hid hr
        clear hr
        by_cases hlt : k < 20
        · have hdk : onesL.drop k = onesL[k]'hlt :: onesL.drop (k + 1) := List.drop_eq_getElem_cons hlt
          have hgk : ∀ h, (ByteArray.mk #[36, 64, 46, 44, 58, 59, 63, 42, 91, 93, 40, 41, 123, 125, 60, 62, 33, 61, 43, 45])[k]'h = onesL[k]'hlt := fun _ => rfl
          generalize onesL[k]'hlt = d at *
          have HDK := Lib.hid hdk
          clear hdk
          by_cases hcd : c = d
          · have hq : ((c.toNat : Int) == d.toNat) = true := by simp [hcd]
            have HF : Hid (signP m = 1) := Lib.hid (by rw [H2.out, HR.out, HDK.out, hcd]; simp)
            clear hcd
            go_wp2_with fail
            go_quiet (fail)
            go_wp2_with fail
            go_ret
            exact ⟨ret_int (by rw [HF.out]; rfl), below_drewN (below_drewN hE2 _) _⟩
          · have hq : ((c.toNat : Int) == d.toNat) = false := by simpa using fun e => hcd (UInt8.toNat_inj.1 (by omega))
            have HN : Hid (onesL.contains c = (onesL.drop (k + 1)).contains c) := Lib.hid (by
              rw [HR.out, HDK.out, List.contains_cons]
              have : (c == d) = false := by simpa using hcd
              rw [this]; rfl)
            clear hcd
            go_wp2_with fail
            go_quiet (fail)
            go_wp2_with fail
            go_roundw
            case rel => exact ⟨k + 1, _, by go_num, by omega, rfl, HN.out⟩
            case measure => simp [intOf]; omega
        · obtain rfl : k = 20 := by omega
          have HF : Hid (signP m = 0) := Lib.hid (by rw [H2.out, HR.out]; rfl)
          go_wp2_with fail
          go_ret
          exact ⟨ret_int (by rw [HF.out]; rfl), below_drewN hE2 _⟩
end Go.Proofs.YtglcpfnfldaimaaDoor
