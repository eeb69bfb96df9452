/- orangeryref15: what digit, begins, name and number do. -/
import Derived.Test.YtglcpfnfldaimaaDoorTokB
import Derived.Test.YtglcpfnfldaimaaDoorTokQ
import Derived.Test.YtglcpfnfldaimaaDoorTokJ
import Derived.Test.YtglcpfnfldaimaaDoorRefB
import Derived.Test.YtglcpfnfldaimaaDoorConv
import Derived.Test.YtglcpfnfldaimaaDoorR2B
import Derived.Deep.DeepCutAuto
set_option linter.unusedVariables false
set_option linter.unusedSimpArgs false
set_option maxRecDepth 100000
namespace Go.Proofs.YtglcpfnfldaimaaDoor
open Go.RowKit Go.Mem Orange
theorem checkL_neg : ∀ (n : Nat) (b : List UInt8) (i j : Int), b.length ≤ n → 0 ≤ i → 0 ≤ j → checkL b i < 0 → checkL b j < 0
  | _, [], _, j, _, _, _, _ => by rw [checkL_nil]; omega
  | 0, _ :: _, _, _, h, _, _, _ => by simp at h
  | n + 1, x :: t, i, j, h, hi, hj, hc => by
    rw [checkL_cons] at hc ⊢
    split at hc
    · omega
    · rename_i hz
      rw [if_neg hz]
      refine checkL_neg n _ (i + ((next (x :: t)).2 : Int)) _ ?_ (by omega) (by omega) hc
      simp only [List.length_drop, List.length_cons] at h ⊢; omega
theorem check_shift (b : List UInt8) (i : Int) (hi : 0 ≤ i) : (checkL b i < 0) = (check b < 0) := by
  refine propext ⟨checkL_neg _ b i 0 (Nat.le_refl _) hi (by omega), checkL_neg _ b 0 i (Nat.le_refl _) (by omega) hi⟩
theorem takeWhile_app_all {p : UInt8 → Bool} : ∀ (a b : List UInt8), (∀ x ∈ a, p x = true) → (a ++ b).takeWhile p = a ++ b.takeWhile p
  | [], b, _ => rfl
  | x :: a, b, h => by
    rw [List.cons_append, List.takeWhile_cons, if_pos (h x (List.mem_cons_self ..)), takeWhile_app_all a b (fun y hy => h y (List.mem_cons_of_mem _ hy))]; rfl
theorem name_stop {c : UInt8} {t : List UInt8} (h : nameB c = false) : nameLen (c :: t) = 0 ∧ nameOk (c :: t) = true := by
  have h1 : nameLen (c :: t) = 0 := by unfold nameLen; rw [List.takeWhile_cons, h]; rfl
  exact ⟨h1, by unfold nameOk; rw [h1]; rfl⟩
theorem name_end : nameLen [] = 0 ∧ nameOk [] = true := ⟨rfl, rfl⟩
theorem name_bad {c : UInt8} {t : List UInt8} (h : nameB c = true) (hz : (next (c :: t)).2 = 0) : nameOk (c :: t) = false := by
  have h1 : nameLen (c :: t) = nameLen t + 1 := by unfold nameLen; rw [List.takeWhile_cons, if_pos h]; rfl
  unfold nameOk
  rw [h1, List.take_succ_cons]
  have hn : (next (c :: t.take (nameLen t))).2 = 0 := by
    cases hq : (next (c :: t.take (nameLen t))).2 with
    | zero => rfl
    | succ n =>
      have := next_app (c :: t.take (nameLen t)) (t.drop (nameLen t)) (by rw [hq]; omega)
      rw [List.cons_append, List.take_append_drop] at this
      rw [this, hq] at hz; omega
  unfold check
  rw [checkL_cons, if_pos hn]; rfl
theorem name_step {c : UInt8} {t : List UInt8} (h : nameB c = true) (hz : (next (c :: t)).2 ≠ 0) : nameLen (c :: t) = (next (c :: t)).2 + nameLen ((c :: t).drop (next (c :: t)).2) ∧ nameOk (c :: t) = nameOk ((c :: t).drop (next (c :: t)).2) := by
  rcases next_spec (c :: t) with hz2 | ⟨hs, hn, t', ht⟩
  · rw [hz2] at hz; exact absurd rfl hz
  · obtain ⟨r, hr⟩ : ∃ r, (next (c :: t)).1 = r := ⟨_, rfl⟩
    rw [hr] at hs hn ht
    rw [hn]
    have hall : ∀ x ∈ enc r, nameB x = true := by
      by_cases h8 : r < 128
      · have he : enc r = [byte r] := by rw [enc, if_pos h8]
        rw [he] at ht ⊢
        intro x hx
        have : x = byte r := by simpa using hx
        have hc : c = byte r := by have := congrArg List.head? ht; simpa using this
        rw [this, ← hc]; exact h
      · have hb := (sound_iff r).1 hs
        intro x hx
        exact nameB_high x (enc_high (by omega) (by omega) x hx)
    rw [ht, List.drop_left]
    have h1 : nameLen (enc r ++ t') = (enc r).length + nameLen t' := by unfold nameLen; rw [takeWhile_app_all _ _ hall, List.length_append]
    refine ⟨h1, ?_⟩
    unfold nameOk
    rw [h1, List.take_append, List.take_of_length_le (by omega), Nat.add_sub_cancel_left]
    have : check (enc r ++ t'.take (nameLen t')) = checkL (t'.take (nameLen t')) (0 + (enc r).length) := checkL_enc hs _ 0
    rw [this]
    congr 1
    exact check_shift _ _ (by omega)

theorem r15digit_any (c : UInt8) (w : World) :
    Calls Tryd.prog 25 #[.int .u8 c.toNat] w fun e w' => e = .returned (.bool (isDig c)) ∧ w = w' := by
  have hd : isDig c = (decide (48 ≤ c.toNat) && decide (c.toNat ≤ 57)) := rfl
  have HD := Lib.hid hd
  clear hd
  by_cases h1 : 48 ≤ c.toNat
  · go_enter Tryd.func25, Tryd.ntmps25
    go_wp2_with fail
    go_ret
    exact ⟨ret_bool (by rw [HD.out]; simp [h1]; try omega), rfl⟩
  · go_enter Tryd.func25, Tryd.ntmps25
    go_wp2_with fail
    go_ret
    exact ⟨ret_bool (by rw [HD.out]; simp [h1]; try omega), rfl⟩
theorem begB_any (c : UInt8) (w : World) :
    Calls Tryd.prog 23 #[.int .u8 c.toNat] w fun e w' => e = .returned (.bool (letterR (c.toNat : Int))) ∧ w = w' := by
  generalize hr : (c.toNat : Int) = r
  clear hr
  by_cases h1 : 97 ≤ r
  · by_cases h2 : r ≤ 122
    · have hf : letterR r = true := by simp [letterR, h1, h2]
      go_enter Tryd.func23, Tryd.ntmps23
      go_wp2
      go_ret
      first | exact ⟨rfl, rfl⟩ | exact ⟨ret_bool hf.symm, rfl⟩
    · have hf : letterR r = decide (127 < r) := by
        simp only [letterR]; rw [Bool.eq_iff_iff]; simp; omega
      have h3 : ¬ r ≤ 90 := by omega
      have h4 : 65 ≤ r := by omega
      have h5 : (r == 95) = false := by simp; omega
      go_enter Tryd.func23, Tryd.ntmps23
      go_wp2
      go_ret
      first | exact ⟨rfl, rfl⟩ | exact ⟨ret_bool hf.symm, rfl⟩
  · have hn : ¬ 127 < r := by omega
    by_cases h3 : 65 ≤ r
    · by_cases h4 : r ≤ 90
      · have hf : letterR r = true := by simp [letterR, h3, h4]
        go_enter Tryd.func23, Tryd.ntmps23
        go_wp2
        go_ret
        first | exact ⟨rfl, rfl⟩ | exact ⟨ret_bool hf.symm, rfl⟩
      · by_cases h5 : r = 95
        · subst h5
          go_enter Tryd.func23, Tryd.ntmps23
          go_wp2
          go_ret
          exact ⟨rfl, rfl⟩
        · have hf : letterR r = false := by simp only [letterR]; rw [Bool.eq_false_iff]; simp; omega
          have h6 : (r == 95) = false := by simpa using h5
          go_enter Tryd.func23, Tryd.ntmps23
          go_wp2
          go_ret
          first | exact ⟨rfl, rfl⟩ | exact ⟨ret_bool hf.symm, rfl⟩
    · have hf : letterR r = false := by simp only [letterR]; rw [Bool.eq_false_iff]; simp; omega
      have h6 : (r == 95) = false := by simp; omega
      go_enter Tryd.func23, Tryd.ntmps23
      go_wp2
      go_ret
      first | exact ⟨rfl, rfl⟩ | exact ⟨ret_bool hf.symm, rfl⟩

def nameR (l : List UInt8) (at0 : Nat) : Int := if nameOk (l.drop at0) = true then ((at0 + nameLen (l.drop at0) : Nat) : Int) else -1
set_option maxHeartbeats 1600000 in
theorem r15name_any (l : List UInt8) (at0 : Nat) (w : World) (hl : l.length ≤ 1000000000) (h0 : at0 ≤ l.length) :
    Calls Tryd.prog 24 #[.string ⟨l.toArray⟩, .int .i64 at0] w fun e w' => e = .returned (.int .i64 (nameR l at0)) ∧ Ext w w' := by
  go_enter Tryd.func24, Tryd.ntmps24
  go_wp2_with fail
  go_loopw [1, 5, 6] (fun kv _ _ wr => ∃ k : Nat, kv = .int .i64 k ∧ k ≤ l.length ∧ at0 ≤ k ∧ Ext w wr ∧ nameLen (l.drop at0) = (k - at0) + nameLen (l.drop k) ∧ nameOk (l.drop at0) = nameOk (l.drop k)) (fun kv _ _ _ => l.length - (intOf kv).toNat)
  case atStart => exact ⟨at0, rfl, h0, by omega, ext_refl w, by simp, rfl⟩
  case round =>
    obtain ⟨k, rfl, hk, hak, hE, hr1, hr2⟩ := hrel
    by_cases hlt : k < l.length
    · have hdk := List.drop_eq_getElem_cons hlt
      have hg := sx_get l k hlt
      have hx := sx_drop l k l.length (Nat.le_refl _)
      have hnb : nameB l[k] = (letterR l[k].toNat || isDig l[k]) := rfl
      have hstep := name_step (c := l[k]) (t := l.drop (k + 1))
      have hbad := name_bad (c := l[k]) (t := l.drop (k + 1))
      have hstop := name_stop (c := l[k]) (t := l.drop (k + 1))
      rw [← hdk] at hstep hbad hstop
      have hdl : (l.drop k).length = l.length - k := by simp
      have hnl := (next_le (l.drop k)).2
      rw [hdl] at hnl
      generalize l[k] = c at *
      have HNB := Lib.hid hnb
      have HR := Lib.hid hr1
      have HR2 := Lib.hid hr2
      have HST := Lib.hid hstep
      have HBD := Lib.hid hbad
      have HSP := Lib.hid hstop
      clear hdk hr1 hr2 hnb hstep hbad hstop
      go_upto_region 1 with fail
      go_cut [22] (fun s22 wx => s22 = .bool (nameB c) ∧ wr = wx)
      case first =>
        clear HR HR2 HST HBD HSP
        go_wp2_with fail
        refine (begB_any c _).mono ?_
        rintro e w2 ⟨rfl, rfl⟩
        cases hq : letterR (c.toNat : Int) with
        | true =>
          go_wp2_with fail
          go_meet
          exact ⟨by rw [HNB.out, hq]; rfl, rfl⟩
        | false =>
          go_wp2_with fail
          refine (r15digit_any c _).mono ?_
          rintro e w2 ⟨rfl, rfl⟩
          go_wp2_with fail
          go_meet
          exact ⟨by rw [HNB.out, hq]; rfl, rfl⟩
      case rest =>
        obtain ⟨rfl, rfl⟩ := hcut
        cases hnb : nameB c with
        | false =>
          have HF : Hid (nameR l at0 = k) := Lib.hid (by
            obtain ⟨h1, h2⟩ := HSP.out hnb
            unfold nameR
            rw [HR2.out, if_pos h2, HR.out, h1]
            congr 1; omega)
          clear HR HR2 HST HBD HSP
          go_wp2_with fail
          go_ret
          exact ⟨ret_int (by rw [HF.out]), hE⟩
        | true =>
          have hsz : (ByteArray.mk (l.drop k).toArray).size ≤ 140737488355328 := by rw [sx_size]; omega
          obtain ⟨M, hM⟩ : ∃ M, l.drop k = M := ⟨_, rfl⟩
          rw [hM] at hsz hx hdl hnl HST HBD HR HR2
          have HM := Lib.hid hM
          have hzz := sx_size M
          have HZZ := Lib.hid hzz
          have HDL := Lib.hid hdl
          have HNL := Lib.hid hnl
          clear hzz hM hdl hnl
          go_wp2_with (refine wpList_bytes_of_string _ rfl 9 47 5 _ rfl ⟨M.toArray⟩ rfl Tryd.underlying9 Tryd.underlying47 Tryd.underlying5 hsz ?_; intro cap3 w3 hE3 hcap3 hcm3 hsz3 hat3; rw [HZZ.out] at hcap3)
          have hb3 : Bytes w3 (.slice (some ⟨wr.heap.size, 0, none⟩) M.length cap3) M := Bytes.mk hat3 rfl (by omega) hcm3 (by have := HDL.out; omega)
          refine (refnext_any _ M _ hb3).mono ?_
          rintro e w4 ⟨rfl, hw4⟩
          have hE4 := ext_trans hE (ext_trans hE3 hw4)
          obtain ⟨X, hX⟩ : ∃ X, next M = X := ⟨_, rfl⟩
          have hst := HST.out hnb
          have hbd := HBD.out hnb
          have hnl := HNL.out
          rw [hX] at hst hbd hnl ⊢
          obtain ⟨r, n⟩ := X
          simp only at hst hbd hnl
          clear hX HST HBD HSP HNL hE3 hw4 hb3 hat3
          by_cases hn : n = 0
          · have HF : Hid (nameR l at0 = -1) := Lib.hid (by unfold nameR; rw [HR2.out, hbd hn, if_neg (by decide)])
            subst hn
            clear hst hbd
            go_wp2_with fail
            go_ret
            exact ⟨ret_int (by rw [HF.out]), hE4⟩
          · obtain ⟨h1, h2⟩ := hst hn
            have hn0 : ((n : Int) == 0) = false := by simp; omega
            have hn1 : 1 ≤ n := by omega
            have H1 : Hid (nameLen (l.drop at0) = (k + n - at0) + nameLen (l.drop (k + n))) := Lib.hid (by
              rw [HR.out, h1, ← HM.out, List.drop_drop]; omega)
            have H2 : Hid (nameOk (l.drop at0) = nameOk (l.drop (k + n))) := Lib.hid (by
              rw [HR2.out, h2, ← HM.out, List.drop_drop])
            clear hst hbd h1 h2 hn HR HR2 HM
            go_wp2_with fail
            go_roundw
            case rel => exact ⟨k + n, by go_num, by omega, by omega, hE4, H1.out, H2.out⟩
            case measure => simp [intOf]; omega
    · obtain rfl : k = l.length := by omega
      have HF : Hid (nameR l at0 = l.length) := Lib.hid (by
        rw [List.drop_length] at hr1 hr2
        unfold nameR
        rw [hr2, if_pos name_end.2, hr1, name_end.1]
        congr 1; omega)
      clear hr1 hr2
      go_wp2_with fail
      go_ret
      exact ⟨ret_int (by rw [HF.out]), hE⟩
def numR (l : List UInt8) (fr : Nat) : Int := ((fr + numLen true (l.drop fr) : Nat) : Int)
def bhdF (l : List UInt8) (fr k : Nat) : Bool := decide (k = fr) || isE (l.getD (k - 1) 0)
theorem num_at (l : List UInt8) (b : Bool) (k : Nat) (h : k < l.length) : numLen b (l.drop k) = if numOk b l[k] (l.drop (k + 1)) then numLen (isE l[k]) (l.drop (k + 1)) + 1 else 0 := by
  rw [List.drop_eq_getElem_cons h, numLen]
set_option maxHeartbeats 1600000 in
theorem r15number_any (l : List UInt8) (fr : Nat) (w : World) (hl : l.length ≤ 1000000000) (h0 : fr ≤ l.length) :
    Calls Tryd.prog 26 #[.string ⟨l.toArray⟩, .int .i64 fr] w fun e w' => e = .returned (.int .i64 (numR l fr)) ∧ Ext w w' := by
  go_enter Tryd.func26, Tryd.ntmps26
  go_wp2_with fail
  go_loopw [5, 6, 7, 8] (fun kv _ _ _ wr => ∃ k : Nat, kv = .int .i64 k ∧ k ≤ l.length ∧ fr ≤ k ∧ Ext w wr ∧ numLen true (l.drop fr) = (k - fr) + numLen (bhdF l fr k) (l.drop k)) (fun kv _ _ _ _ => l.length - (intOf kv).toNat)
  case atStart => exact ⟨fr, rfl, h0, by omega, ext_refl w, by simp [bhdF]⟩
  case round =>
    obtain ⟨k, rfl, hk, hak, hE, hr⟩ := hrel
    by_cases hlt : k < l.length
    · have hs := num_at l (bhdF l fr k) k hlt
      have hg := sx_get l k hlt
      have hbn : bhdF l fr (k + 1) = isE l[k] := by
        unfold bhdF
        have : decide (k + 1 = fr) = false := by simp; omega
        rw [this, Nat.add_sub_cancel, List.getD_eq_getElem?_getD, List.getElem?_eq_getElem hlt]; rfl
      generalize l[k] = c at *
      have HR := Lib.hid hr
      have HS := Lib.hid hs
      have HBN := Lib.hid hbn
      clear hr hs hbn
      go_upto_region 4 with fail
      go_cut [7] (fun s7 wx => s7 = .bool (decide (c.toNat = 43 ∨ c.toNat = 45) && bhdF l fr k) ∧ wr = wx)
      case first =>
        clear HR HS HBN
        by_cases hsg : c.toNat = 43 ∨ c.toNat = 45
        · have hd : decide (c.toNat = 43 ∨ c.toNat = 45) = true := by simpa using hsg
          have HD := Lib.hid hd
          have hsg2 : ((c.toNat : Int) == 43) = true ∨ ((c.toNat : Int) == 43) = false ∧ ((c.toNat : Int) == 45) = true := by simp; omega
          clear hsg
          clear hd
          by_cases hkf : k = fr
          · have hb : Hid (bhdF l fr k = true) := Lib.hid (by unfold bhdF; simp [hkf])
            have hkf2 : ((k : Int) == fr) = true := by simp [hkf]
            have HK := Lib.hid hkf
            clear hkf
            rcases hsg2 with ⟨q1⟩ | ⟨q1, q2⟩
            all_goals
              go_wp2_with fail
              go_meet
              exact ⟨by rw [HD.out, hb.out]; rfl, rfl⟩
          · have hk1 : k - 1 < l.length := by omega
            have hg2 := sx_get l (k - 1) hk1
            have hb : bhdF l fr k = isE l[k - 1] := by
              unfold bhdF
              have : decide (k = fr) = false := by simpa using hkf
              rw [this, List.getD_eq_getElem?_getD, List.getElem?_eq_getElem hk1]; rfl
            generalize l[k - 1] = d at *
            have HB := Lib.hid hb
            clear hb
            have hkf2 : ((k : Int) == fr) = false := by simp; omega
            have hkn : ((k : Int) - 1).toNat = k - 1 := by omega
            have hk0 : 1 ≤ k := by omega
            have hkp : 0 ≤ (k : Int) - 1 := by omega
            have hkq : (k : Int) - 1 < l.length := by omega
            have HK := Lib.hid hkf
            clear hkf
            cases he : isE d with
            | true =>
              have HC := Lib.hid he
              rcases isE_split d he with q1 | ⟨q1, q2⟩
              all_goals
                clear he
                rcases hsg2 with ⟨p1⟩ | ⟨p1, p2⟩
                all_goals
                  go_wp2_with fail
                  go_meet
                  exact ⟨by rw [HD.out, HB.out, HC.out]; rfl, rfl⟩
            | false =>
              have HC := Lib.hid he
              obtain ⟨q1, q2⟩ := isE_nots d he
              clear he
              rcases hsg2 with ⟨p1⟩ | ⟨p1, p2⟩
              all_goals
                go_wp2_with fail
                go_meet
                exact ⟨by rw [HD.out, HB.out, HC.out]; rfl, rfl⟩
        · have hd : decide (c.toNat = 43 ∨ c.toNat = 45) = false := by simpa using hsg
          have HD := Lib.hid hd
          have q1 : ((c.toNat : Int) == 43) = false := by simp; omega
          have q2 : ((c.toNat : Int) == 45) = false := by simp; omega
          clear hd hsg
          go_wp2_with fail
          go_meet
          exact ⟨by rw [HD.out]; rfl, rfl⟩
      case rest =>
        obtain ⟨rfl, rfl⟩ := hcut
        obtain ⟨sg, hsg⟩ : ∃ b, (decide (c.toNat = 43 ∨ c.toNat = 45) && bhdF l fr k) = b := ⟨_, rfl⟩
        rw [hsg]
        have HSG := Lib.hid hsg
        clear hsg
        go_upto_region 5 with fail
        go_cut [8] (fun s8 wx => s8 = .bool (decide (c.toNat = 46) && decide ((l.drop (k + 1)).head? ≠ some 46)) ∧ wr = wx)
        case first =>
          clear HR HS HBN HSG
          by_cases hsg : c.toNat = 46
          · have hd : decide (c.toNat = 46) = true := by simpa using hsg
            have HD := Lib.hid hd
            have q46 : ((c.toNat : Int) == 46) = true := by simp [hsg]
            clear hsg
            clear hd
            by_cases hk1 : k + 1 < l.length
            · have hg2 := sx_get l (k + 1) hk1
              have hb : (l.drop (k + 1)).head? = some l[k + 1] := by rw [List.drop_eq_getElem_cons hk1]; rfl
              generalize l[k + 1] = d at *
              have HB := Lib.hid hb
              clear hb
              by_cases hd46 : d = 46
              · have q := b_eq d 46 46 rfl hd46
                have HC := Lib.hid hd46
                clear hd46
                go_wp2_with fail
                go_meet
                exact ⟨by rw [HD.out, HB.out, HC.out]; rfl, rfl⟩
              · have q := b_ne d 46 46 rfl hd46
                have HC := Lib.hid hd46
                clear hd46
                go_wp2_with fail
                go_meet
                exact ⟨by rw [HD.out, HB.out]; have := HC.out; simp [this], rfl⟩
            · have HB : Hid ((l.drop (k + 1)).head? = none) := Lib.hid (by rw [List.drop_eq_nil_of_le (by omega)]; rfl)
              go_wp2_with fail
              go_meet
              exact ⟨by rw [HD.out, HB.out]; rfl, rfl⟩
          · have hd : decide (c.toNat = 46) = false := by simpa using hsg
            have HD := Lib.hid hd
            have q1 : ((c.toNat : Int) == 46) = false := by simp; omega
            clear hd hsg
            go_wp2_with fail
            go_meet
            exact ⟨by rw [HD.out]; rfl, rfl⟩
        case rest =>
          obtain ⟨rfl, rfl⟩ := hcut
          obtain ⟨dt, hdt⟩ : ∃ b, (decide (c.toNat = 46) && decide ((l.drop (k + 1)).head? ≠ some 46)) = b := ⟨_, rfl⟩
          have hno : numOk (bhdF l fr k) c (l.drop (k + 1)) = (isDig c || isE c || sg || dt) := by rw [← HSG.out, ← hdt]; rfl
          rw [hdt]
          have HNO := Lib.hid hno
          clear hno hdt HSG
          go_upto_region 6 with fail
          go_cut [77] (fun s77 wx => s77 = .bool (!numOk (bhdF l fr k) c (l.drop (k + 1))) ∧ wr = wx)
          case first =>
            clear HR HS HBN
            go_wp2_with fail
            refine (r15digit_any c _).mono ?_
            rintro e w2 ⟨rfl, rfl⟩
            cases hd : isDig c with
            | true =>
              go_wp2_with fail
              go_meet
              exact ⟨by rw [HNO.out, hd]; rfl, rfl⟩
            | false =>
              cases he : isE c with
              | true =>
                have HC := Lib.hid he
                rcases isE_split c he with q1 | ⟨q1, q2⟩
                all_goals
                  have e1 : ((c.toNat : Int) != 101) = !((c.toNat : Int) == 101) := rfl
                  have e2 : ((c.toNat : Int) != 69) = !((c.toNat : Int) == 69) := rfl
                  clear he
                  go_wp2_with fail
                  go_meet
                  exact ⟨by rw [HNO.out, hd, HC.out]; rfl, rfl⟩
              | false =>
                have HC := Lib.hid he
                obtain ⟨q1, q2⟩ := isE_nots c he
                have e1 : ((c.toNat : Int) != 101) = true := by simp at q1 ⊢; omega
                have e2 : ((c.toNat : Int) != 69) = true := by simp at q2 ⊢; omega
                clear he q1 q2
                cases sg with
                | true =>
                  go_wp2_with fail
                  go_meet
                  exact ⟨by rw [HNO.out, hd, HC.out]; rfl, rfl⟩
                | false =>
                  go_wp2_with fail
                  go_meet
                  exact ⟨by rw [HNO.out, hd, HC.out]; rfl, rfl⟩
          case rest =>
            obtain ⟨rfl, rfl⟩ := hcut
            cases hno : numOk (bhdF l fr k) c (l.drop (k + 1)) with
            | true =>
              have H1 : Hid (numLen true (l.drop fr) = (k + 1 - fr) + numLen (bhdF l fr (k + 1)) (l.drop (k + 1))) := Lib.hid (by
                rw [HR.out, HS.out, if_pos hno, HBN.out]; omega)
              clear HR HS HBN HNO hno
              go_wp2_with fail
              go_roundw
              case rel => exact ⟨k + 1, by go_num, by omega, by omega, hE, H1.out⟩
              case measure => simp [intOf]; omega
            | false =>
              have HF : Hid (numR l fr = k) := Lib.hid (by
                unfold numR
                rw [HR.out, HS.out, if_neg (by rw [hno]; decide)]
                congr 1; omega)
              clear HR HS HBN HNO hno
              go_wp2_with fail
              go_ret
              exact ⟨ret_int (by rw [HF.out]), hE⟩
    · obtain rfl : k = l.length := by omega
      have HF : Hid (numR l fr = l.length) := Lib.hid (by
        rw [List.drop_length] at hr
        unfold numR
        rw [hr, numLen]
        congr 1; omega)
      clear hr
      go_wp2_with fail
      go_ret
      exact ⟨ret_int (by rw [HF.out]), hE⟩
end Go.Proofs.YtglcpfnfldaimaaDoor
