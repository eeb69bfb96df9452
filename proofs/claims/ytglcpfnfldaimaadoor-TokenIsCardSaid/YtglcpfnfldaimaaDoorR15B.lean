/- orangeryref15: what sign and text do. -/
import Derived.Test.YtglcpfnfldaimaaDoorR15A
import Derived.Test.YtglcpfnfldaimaaDoorRefG
import Derived.Test.YtglcpfnfldaimaaDoorRefP
set_option linter.unusedVariables false
set_option linter.unusedSimpArgs false
set_option maxRecDepth 100000
namespace Go.Proofs.YtglcpfnfldaimaaDoor
open Go.RowKit Go.Mem Orange

def textR (l : List UInt8) (at0 : Nat) : List UInt8 × Int × Int := if (textP (l.drop at0)).2 = 0 then ([], 0, 2) else ((textP (l.drop at0)).1, ((at0 + (textP (l.drop at0)).2 : Nat) : Int), 0)
theorem tokEsc_nil (q : UInt8) : tokEsc [] q = (0, 0) := rfl
theorem tokEsc_q (q : UInt8) (t : List UInt8) : tokEsc (q :: t) q = ((q.toNat : Int), 1) := by rw [tokEsc]; simp
theorem tokEsc_34 (q : UInt8) (t : List UInt8) (h : (34 : UInt8) ≠ q) : tokEsc (34 :: t) q = (0, 0) := by rw [tokEsc, if_neg h, if_pos rfl]
theorem tokEsc_else (q c : UInt8) (t : List UInt8) (h : c ≠ q) (h2 : c ≠ 34) : tokEsc (c :: t) q = escape (c :: t) := by rw [tokEsc, if_neg h, if_neg h2]
theorem escNamed_bd (c : UInt8) : 0 ≤ escNamed c ∧ escNamed c ≤ 13 := by
  unfold escNamed; split <;> omega
theorem escape_bd (xs : List UInt8) : -2147483648 ≤ (escape xs).1 ∧ (escape xs).1 ≤ 2147483647 := by
  cases xs with
  | nil => simp [escape]
  | cons c t =>
    have h8 : c.toNat < 256 := c.toNat_lt
    have h9 := escNamed_bd c
    simp only [escape]
    split
    · simp only; omega
    split
    · simp only; omega
    split
    · simp
    · rename_i v hv
      have hub := unit_bd hv
      split
      · simp only; omega
      split
      · rename_i r hr
        simp only
        cases hd : t.drop 4 with
        | nil => rw [hd] at hr; cases hr
        | cons y u =>
          rw [hd] at hr
          simp only [pair] at hr
          split at hr
          · cases hr
          · rename_i h
            have h5 : v ≤ 56319 := by simp at h; omega
            split at hr
            · rename_i z hz
              have := unit_bd hz
              split at hr
              · cases hr
              · simp only [Option.some.injEq] at hr; omega
            · cases hr
      · simp
set_option maxHeartbeats 6400000 in
theorem r15text_any (l : List UInt8) (at0 : Nat) (w : World) (hl : l.length ≤ 1000000000) (h0 : at0 < l.length) :
    Calls Tryd.prog 28 #[.string ⟨l.toArray⟩, .int .i64 at0] w fun e w' => e = .returned (.tuple #[.string ⟨(textR l at0).1.toArray⟩, .int .i64 (textR l at0).2.1, .int .i64 (textR l at0).2.2]) ∧ Ext w w' := by
  have hg := sx_get l at0 h0
  have hdk := List.drop_eq_getElem_cons h0
  generalize l[at0] = q at *
  obtain ⟨T, hT⟩ : ∃ T, l.drop (at0 + 1) = T := ⟨_, rfl⟩
  have hTl : T.length = l.length - (at0 + 1) := by rw [← hT]; simp
  have HT := Lib.hid hT
  have hP : ∀ o, textL q T.length T = o → textR l at0 = match o with | none => ([], 0, 2) | some p => (p.1, ((at0 + p.2 + 1 : Nat) : Int), 0) := fun o ho => by
    unfold textR
    rw [hdk, hT, textP, ho]
    cases o with
    | none => rfl
    | some p => simp only; rw [if_neg (by omega)]; rfl
  have HP := Lib.hid hP
  have HDK0 := Lib.hid hdk
  have HTL := Lib.hid hTl
  have hsz : (ByteArray.mk l.toArray).size ≤ 140737488355328 := by rw [sx_size]; omega
  have HZZ := Lib.hid (sx_size l)
  clear hP hdk hT hTl
  go_enter Tryd.func28, Tryd.ntmps28
  go_wp2_with (refine wpList_bytes_of_string _ rfl 9 47 5 _ rfl ⟨l.toArray⟩ rfl Tryd.underlying9 Tryd.underlying47 Tryd.underlying5 hsz ?_; intro cap w1 hE1 hcap hcm hsz1 hat; rw [HZZ.out] at hcap)
  have HAT : Hid (BytesAt w1 (some ⟨w.heap.size, 0, none⟩) l) := Lib.hid hat
  have hgl : w.heap.size < w1.heap.size := by omega
  clear hat hsz1 hsz
  go_loopw [1, 9, 10, 11, 12, 13] (fun iv v _ _ _ _ wr => ∃ (k f : Nat) (done : List UInt8) (a5 : Option Addr) (c5 : Nat), iv = .int .i64 k ∧ at0 + 1 ≤ k ∧ k ≤ l.length ∧ l.length - k ≤ f ∧ v = .slice a5 done.length c5 ∧ done.length ≤ 4 * k ∧ Bytes wr (.slice a5 done.length c5) done ∧ Ext w1 wr ∧ textL q T.length T = (textL q f (l.drop k)).map (fun p => (done ++ p.1, k - (at0 + 1) + p.2))) (fun iv _ _ _ _ _ _ => l.length - (intOf iv).toNat)
  case atStart =>
    refine ⟨at0 + 1, T.length, [], none, 0, by go_num, by omega, by omega, by have := HTL.out; omega, rfl, by simp, Bytes.nil _ _ _ (by omega), ext_refl _, ?_⟩
    rw [HT.out]; simp
  case round =>
    obtain ⟨k, f, done, a5, c5, rfl, hk1, hk2, hf, rfl, hdl, hb5, hb, hr⟩ := hrel
    have HR := Lib.hid hr
    clear hr
    have hg0 : Hid (BytesAt wr (some ⟨w.heap.size, 0, none⟩) l) := Lib.hid (HAT.out.ext hb)
    have hcell : Hid (∀ i, (h : i < l.length) → wr.cell? ⟨w.heap.size, i, none⟩ = some (.int .u8 l[i].toNat)) := Lib.hid (fun i hi => by
      obtain ⟨b', o', e', _, hh⟩ := hg0.out (by omega)
      simp only [Option.some.injEq, Addr.mk.injEq, and_true] at e'
      obtain ⟨rfl, rfl⟩ := e'
      have := hh i hi
      rwa [Nat.zero_add] at this)
    by_cases hlt : k < l.length
    · have hck := hcell.out k hlt
      have hdk : l.drop k = l[k] :: l.drop (k + 1) := List.drop_eq_getElem_cons hlt
      generalize l[k] = x at *
      have HDK := Lib.hid hdk
      clear hdk
      obtain ⟨f, rfl⟩ : ∃ f', f = f' + 1 := ⟨f - 1, by omega⟩
      by_cases hxq : x = q
      · have hq1 : ((x.toNat : Int) == q.toNat) = true := by simp [hxq]
        have hfin : Hid (textL q T.length T = some (done, k - (at0 + 1) + 1)) := Lib.hid (by rw [HR.out, HDK.out, textL, if_pos hxq]; simp)
        clear hxq
        have HPF : Hid (textR l at0 = (done, (k : Int) + 1, 0)) := Lib.hid (by
          rw [HP.out _ hfin.out]; simp only; congr 2; omega)
        go_wp2_with (refine wpList_string_of_bytes _ rfl 47 9 5 _ rfl _ done rfl hb5 Tryd.underlying47 Tryd.underlying5 Tryd.underlying9 ?_)
        go_ret3
        exact ⟨by rw [HPF.out]; rfl, ext_trans hE1 hb⟩
      · have hq1 : ((x.toNat : Int) == q.toNat) = false := by simpa using fun e => hxq (UInt8.toNat_inj.1 (by omega))
        have HXQ := Lib.hid hxq
        clear hxq
        have hbs : Bytes wr (.slice (some ⟨w.heap.size, 0 + k, none⟩) (l.length - k) (cap - k)) (l.drop k) := Bytes.mk (hg0.out.drop k) (by simp) (by omega) (by omega) (by omega)
        rw [Nat.zero_add] at hbs
        have hkc : k < cap := by omega
        go_wp2_with fail
        refine (refnext_any _ (l.drop k) _ hbs).mono ?_
        rintro e w3 ⟨rfl, hw3⟩
        have hnl := next_le (l.drop k)
        have hnb := next_bd (l.drop k)
        have hlen : (l.drop k).length = l.length - k := by simp
        rw [hlen] at hnl
        have hC0 : textC q (l.drop k) = if (next (l.drop k)).2 ≠ 0 ∧ (next (l.drop k)).1 = 92 then (if (tokEsc (l.drop (k + 1)) q).2 = 0 then ((tokEsc (l.drop (k + 1)) q).1, 0) else ((tokEsc (l.drop (k + 1)) q).1, (tokEsc (l.drop (k + 1)) q).2 + 1)) else if (next (l.drop k)).1 < 32 then ((next (l.drop k)).1, 0) else ((next (l.drop k)).1, (next (l.drop k)).2) := by
          rw [textC, List.drop_drop]
        have hn0 : (next (l.drop k)).2 = 0 → (next (l.drop k)).1 = 0 := fun h => by rw [next_zero h]
        obtain ⟨r, hr1⟩ : ∃ r, (next (l.drop k)).1 = r := ⟨_, rfl⟩
        obtain ⟨n, hn1⟩ : ∃ n, (next (l.drop k)).2 = n := ⟨_, rfl⟩
        rw [hr1, hn1] at hC0 hn0 ⊢
        rw [hn1] at hnl
        rw [hr1] at hnb
        have HC0 := Lib.hid hC0
        obtain ⟨hnl4, hnk⟩ := hnl
        obtain ⟨hr0, hrm⟩ := hnb
        have hE3 := ext_trans (ext_trans hE1 hb) hw3
        have hbk : Hid (∀ a' c', c' = cap - (k + 1) → (cap ≠ k + 1 → a' = some ⟨w.heap.size, k + 1, none⟩) → Bytes w3 (.slice a' (l.length - (k + 1)) c') (l.drop (k + 1))) := Lib.hid (fun a' c' hc' ha' => by
            by_cases hc1 : cap = k + 1
            · have e : l.drop (k + 1) = [] := List.drop_of_length_le (by omega)
              rw [e, show l.length - (k + 1) = 0 by omega]; exact Bytes.nil _ _ _ (by omega)
            · rw [ha' hc1, hc']
              have := (hg0.out.drop (k + 1)).ext hw3
              rw [Nat.zero_add] at this
              exact Bytes.mk this (by simp) (by omega) (by omega) (by omega))
        have hb53 := hb5.ext hw3
        have HCELL : Hid (∀ i, (h : i < l.length) → w3.cell? ⟨w.heap.size, i, none⟩ = some (.int .u8 l[i].toNat)) := Lib.hid (fun i hi => by
          rw [hw3.cell (p := ⟨w.heap.size, i, none⟩) (by have := hb.size; show w.heap.size < _; omega)]; exact hcell.out i hi)
        have hw13 := ext_trans hb hw3
        clear hlen hbs hw3 hr1 hn1 hC0 hb5 hb hg0 hcell hck
        have HNONE0 : Hid ((textC q (l.drop k)).2 = 0 → textR l at0 = ([], 0, 2)) := Lib.hid (fun h => by
          have hn : textL q T.length T = none := by rw [HR.out, HDK.out, textL, if_neg HXQ.out, ← HDK.out, if_pos h]; rfl
          rw [HP.out _ hn])
        by_cases hn : n = 0
        · have HNONE : Hid (textR l at0 = ([], 0, 2)) := Lib.hid (HNONE0.out (by
            rw [HC0.out, if_neg (by intro h; exact h.1 hn), if_pos (by rw [hn0 hn]; decide)]))
          subst hn
          clear hn0
          go_wp2_with fail
          go_ret3
          exact ⟨by rw [HNONE.out]; rfl, hE3⟩
        · by_cases h32 : r < 32
          · have HNONE : Hid (textR l at0 = ([], 0, 2)) := Lib.hid (HNONE0.out (by
              rw [HC0.out, if_neg (by intro h; omega), if_pos h32]))
            have hz : ((n : Int) == 0) = false := by simp; omega
            clear hn hn0
            go_wp2_with fail
            go_ret3
            exact ⟨by rw [HNONE.out]; rfl, hE3⟩
          · have hz : ((n : Int) == 0) = false := by simp; omega
            have HN := Lib.hid hn
            clear hn hn0
            go_upto_if 49 with fail
            go_cut [10, 11, 12, 13] (fun s10 s11 s12 s13 wx => ∃ (r' : Int) (n' : Nat), s10 = .int .i32 r' ∧ s11 = .int .i64 n' ∧ textC q (l.drop k) = (r', n') ∧ 1 ≤ n' ∧ n' ≤ l.length - k ∧ -2147483648 ≤ r' ∧ r' ≤ 2147483647 ∧ Ext w3 wx)
            case first =>
              by_cases h92 : r = 92
              · have h92b : (r == 92) = true := by simpa using h92
                have HC92 := Lib.hid (HC0.out.trans (if_pos ⟨HN.out, h92⟩))
                clear h92
                by_cases hk1 : k + 1 < l.length
                · have hck1 := HCELL.out (k + 1) hk1
                  have hdk1 : l.drop (k + 1) = l[k + 1] :: l.drop (k + 1 + 1) := List.drop_eq_getElem_cons hk1
                  generalize l[k + 1] = y at *
                  have HDK1 := Lib.hid hdk1
                  clear hdk1
                  by_cases hyq : y = q
                  · have hq2 : ((y.toNat : Int) == q.toNat) = true := by simp [hyq]
                    have HC : Hid (textC q (l.drop k) = ((q.toNat : Int), 2)) := Lib.hid (by
                      rw [HC92.out, HDK1.out, hyq, tokEsc_q]; rfl)
                    have hq8 : q.toNat < 256 := q.toNat_lt
                    clear hyq
                    go_wp2_with fail
                    go_meet
                    exact ⟨q.toNat, 2, rfl, rfl, HC.out, by omega, by omega, by omega, by omega, ext_refl _⟩
                  · have hq2 : ((y.toNat : Int) == q.toNat) = false := by simpa using fun e => hyq (UInt8.toNat_inj.1 (by omega))
                    have HYQ := Lib.hid hyq
                    clear hyq
                    by_cases hy34 : y = 34
                    · have hq3 := b_eq y 34 34 rfl hy34
                      have HNONE : Hid (textR l at0 = ([], 0, 2)) := Lib.hid (HNONE0.out (by
                        rw [HC92.out, HDK1.out, hy34, tokEsc_34 _ _ (by rw [← hy34]; exact HYQ.out)]; rfl))
                      clear hy34
                      go_wp2_with fail
                      go_ret3
                      exact ⟨by rw [HNONE.out]; rfl, hE3⟩
                    · have hq3 := b_ne y 34 34 rfl hy34
                      have HESC : Hid (tokEsc (l.drop (k + 1)) q = escape (l.drop (k + 1))) := Lib.hid (by rw [HDK1.out, tokEsc_else _ _ _ HYQ.out hy34])
                      have hbk2 := Lib.hid (hbk.out (some ⟨w.heap.size, k + 1, none⟩) _ rfl (fun _ => rfl))
                      have hcn : ¬ cap = k + 1 := by omega
                      clear hy34 hbk
                      have u4 : k + 1 ≤ l.length := by omega
                      have u5 : (k : Int) + 1 ≤ l.length := by omega
                      have u6 : k + 1 ≤ cap := by omega
                      go_wp2_with fail
                      refine (refescape_any _ (l.drop (k + 1)) _ hbk2.out).mono ?_
                      rintro e w5 ⟨rfl, hw5⟩
                      have hle := tokEsc_le (l.drop (k + 1)) q
                      have hlen1 : (l.drop (k + 1)).length = l.length - (k + 1) := by simp
                      have hbd := escape_bd (l.drop (k + 1))
                      rw [hlen1, HESC.out] at hle
                      have hc92 := HC92.out
                      rw [HESC.out] at hc92
                      obtain ⟨X, hX⟩ : ∃ X, escape (l.drop (k + 1)) = X := ⟨_, rfl⟩
                      rw [hX] at hle hc92 hbd ⊢
                      obtain ⟨r2, n2⟩ := X
                      simp only at hle hc92 hbd ⊢
                      obtain ⟨hbd1, hbd2⟩ := hbd
                      have HC93 := Lib.hid hc92
                      clear hX hlen1 HC92 HC0 hc92
                      by_cases hz2 : n2 = 0
                      · have HNONE : Hid (textR l at0 = ([], 0, 2)) := Lib.hid (HNONE0.out (by rw [HC93.out, if_pos hz2]))
                        subst hz2
                        go_wp2_with fail
                        go_ret3
                        exact ⟨by rw [HNONE.out]; rfl, ext_trans hE3 hw5⟩
                      · have HC : Hid (textC q (l.drop k) = (r2, n2 + 1)) := Lib.hid (by rw [HC93.out, if_neg hz2])
                        have q0 : ((n2 : Int) == 0) = false := by simp; omega
                        clear hz2
                        go_wp2_with fail
                        go_meet
                        exact ⟨r2, n2 + 1, rfl, by go_num, HC.out, by omega, by omega, by omega, by omega, hw5⟩
                · have hl1 : l.drop (k + 1) = [] := List.drop_eq_nil_of_le (by omega)
                  have HESC : Hid (tokEsc (l.drop (k + 1)) q = escape (l.drop (k + 1))) := Lib.hid (by rw [hl1]; rfl)
                  clear hl1
                  by_cases hcn : cap = k + 1
                  · subst hcn
                    have hbk2 : Hid (Bytes w3 (.slice (some ⟨w.heap.size, 0, none⟩) 0 0) (l.drop (k + 1))) := Lib.hid (by
                      rw [List.drop_eq_nil_of_le (by omega)]; exact Bytes.nil _ _ _ (by omega))
                    clear hbk
                    have u4 : k + 1 ≤ l.length := by omega
                    have u5 : (k : Int) + 1 ≤ l.length := by omega
                    have u6 : k + 1 ≤ k + 1 := by omega
                    go_wp2_with fail
                    refine (refescape_any _ (l.drop (k + 1)) _ hbk2.out).mono ?_
                    rintro e w5 ⟨rfl, hw5⟩
                    have hle := tokEsc_le (l.drop (k + 1)) q
                    have hlen1 : (l.drop (k + 1)).length = l.length - (k + 1) := by simp
                    have hbd := escape_bd (l.drop (k + 1))
                    rw [hlen1, HESC.out] at hle
                    have hc92 := HC92.out
                    rw [HESC.out] at hc92
                    obtain ⟨X, hX⟩ : ∃ X, escape (l.drop (k + 1)) = X := ⟨_, rfl⟩
                    rw [hX] at hle hc92 hbd ⊢
                    obtain ⟨r2, n2⟩ := X
                    simp only at hle hc92 hbd ⊢
                    obtain ⟨hbd1, hbd2⟩ := hbd
                    have HC93 := Lib.hid hc92
                    clear hX hlen1 HC92 HC0 hc92
                    by_cases hz2 : n2 = 0
                    · have HNONE : Hid (textR l at0 = ([], 0, 2)) := Lib.hid (HNONE0.out (by rw [HC93.out, if_pos hz2]))
                      subst hz2
                      go_wp2_with fail
                      go_ret3
                      exact ⟨by rw [HNONE.out]; rfl, ext_trans hE3 hw5⟩
                    · have HC : Hid (textC q (l.drop k) = (r2, n2 + 1)) := Lib.hid (by rw [HC93.out, if_neg hz2])
                      have q0 : ((n2 : Int) == 0) = false := by simp; omega
                      clear hz2
                      go_wp2_with fail
                      go_meet
                      exact ⟨r2, n2 + 1, rfl, by go_num, HC.out, by omega, by omega, by omega, by omega, hw5⟩
                  · have hbk2 := Lib.hid (hbk.out (some ⟨w.heap.size, k + 1, none⟩) _ rfl (fun _ => rfl))
                    clear hbk
                    have u4 : k + 1 ≤ l.length := by omega
                    have u5 : (k : Int) + 1 ≤ l.length := by omega
                    have u6 : k + 1 ≤ cap := by omega
                    go_wp2_with fail
                    refine (refescape_any _ (l.drop (k + 1)) _ hbk2.out).mono ?_
                    rintro e w5 ⟨rfl, hw5⟩
                    have hle := tokEsc_le (l.drop (k + 1)) q
                    have hlen1 : (l.drop (k + 1)).length = l.length - (k + 1) := by simp
                    have hbd := escape_bd (l.drop (k + 1))
                    rw [hlen1, HESC.out] at hle
                    have hc92 := HC92.out
                    rw [HESC.out] at hc92
                    obtain ⟨X, hX⟩ : ∃ X, escape (l.drop (k + 1)) = X := ⟨_, rfl⟩
                    rw [hX] at hle hc92 hbd ⊢
                    obtain ⟨r2, n2⟩ := X
                    simp only at hle hc92 hbd ⊢
                    obtain ⟨hbd1, hbd2⟩ := hbd
                    have HC93 := Lib.hid hc92
                    clear hX hlen1 HC92 HC0 hc92
                    by_cases hz2 : n2 = 0
                    · have HNONE : Hid (textR l at0 = ([], 0, 2)) := Lib.hid (HNONE0.out (by rw [HC93.out, if_pos hz2]))
                      subst hz2
                      go_wp2_with fail
                      go_ret3
                      exact ⟨by rw [HNONE.out]; rfl, ext_trans hE3 hw5⟩
                    · have HC : Hid (textC q (l.drop k) = (r2, n2 + 1)) := Lib.hid (by rw [HC93.out, if_neg hz2])
                      have q0 : ((n2 : Int) == 0) = false := by simp; omega
                      clear hz2
                      go_wp2_with fail
                      go_meet
                      exact ⟨r2, n2 + 1, rfl, by go_num, HC.out, by omega, by omega, by omega, by omega, hw5⟩
              · have h92b : (r == 92) = false := by simpa using h92
                have HC := Lib.hid (HC0.out.trans ((if_neg (fun h => h92 h.2)).trans (if_neg (by omega))))
                clear h92
                go_wp2_with fail
                go_meet
                exact ⟨r, n, rfl, rfl, HC.out, by have := HN.out; omega, by omega, by omega, by omega, ext_refl _⟩
            case rest =>
              obtain ⟨r', n', rfl, rfl, hC, hn1, hnk', hr1, hr2, hE4⟩ := hcut
              have HC := Lib.hid hC
              have hb54 := hb53.ext hE4
              clear hC
              go_wp2_with fail
              refine (refput_any _ done r' _ hb54 (by omega) hr1 hr2).mono ?_
              rintro e w7 ⟨v7, rfl, hb7, hw7⟩
              have hb7' := hb7
              obtain ⟨a7, c7, rfl, _⟩ := hb7'
              have hel := encP_le r'
              have hE7 := ext_trans hw13 (ext_trans hE4 hw7)
              have hl7 : (done ++ encP r').length ≤ 4 * (k + n') := by rw [List.length_append]; omega
              have hstep : Hid (textL q T.length T = (textL q f (l.drop (k + n'))).map (fun p => ((done ++ encP r') ++ p.1, k + n' - (at0 + 1) + p.2))) := Lib.hid (by
                rw [HR.out, HDK.out, textL, if_neg HXQ.out, ← HDK.out, HC.out, if_neg (by show ¬ n' = 0; omega), List.drop_drop]
                cases textL q f (l.drop (k + n')) with
                | none => rfl
                | some p => simp; omega)
              go_wp2_with fail
              go_roundw
              case rel => exact ⟨k + n', f, done ++ encP r', a7, c7, by go_num, by omega, by omega, by omega, by first | rfl | (rw [List.length_append]; rfl) | simp, hl7, hb7, hE7, hstep.out⟩
              case measure => simp [intOf]; omega
    · obtain rfl : k = l.length := by omega
      have HNONE : Hid (textR l at0 = ([], 0, 2)) := Lib.hid (HP.out none (by rw [HR.out, List.drop_length]; cases f <;> rfl))
      go_wp2_with fail
      go_ret3
      exact ⟨by rw [HNONE.out]; rfl, ext_trans hE1 hb⟩
end Go.Proofs.YtglcpfnfldaimaaDoor
