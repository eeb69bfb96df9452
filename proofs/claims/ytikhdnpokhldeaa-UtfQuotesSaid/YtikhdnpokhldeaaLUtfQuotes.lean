/- UtfQuotes: what stands between the signs of a quoted text is it again, gone over by Next, and by Escape behind a backslash: whatever the input, the law returns true and the input reads as it did. No condition. -/
import Derived.Test.YtikhdnpokhldeaaRows
import Derived.Test.YtikhdnpokhldeaaApp
import Derived.Test.YtikhdnpokhldeaaWEscB
import Derived.Test.YtikhdnpokhldeaaWUtfF
import Derived.Test.YtikhdnpokhldeaaRefG
import Derived.Test.YtikhdnpokhldeaaFrame
import Derived.SizedLaws
import Derived.OpenShut
import Derived.IntWalk
set_option linter.unusedVariables false
set_option linter.unusedSimpArgs false
namespace Go.Proofs.Ytikhdnpokhldeaa.utfQuotes
open Go.ChangeShapes Go.WideShapes Go.ChangeAt Go.RowKit Go.Mem Orange

theorem quoL_append (a b : List UInt8) : quoL (a ++ b) = quoL a ++ quoL b := by simp [quoL]
theorem quoL_high (l : List UInt8) (h : ∀ x ∈ l, 128 ≤ x.toNat) : quoL l = l := by
  induction l with
  | nil => rfl
  | cons x t ih =>
    have hx := h x (List.mem_cons_self ..)
    have hq : quoC x = [x] := by
      have ne : ∀ k : UInt8, k.toNat < 128 → x ≠ k := fun k hk e => by rw [e] at hx; omega
      simp only [quoC, ne 34 (by decide), ne 92 (by decide), ne 8 (by decide), ne 9 (by decide), ne 10 (by decide), ne 12 (by decide), ne 13 (by decide), or_self, if_false]
      rw [if_neg (by omega)]
    have := ih (fun y hy => h y (List.mem_cons_of_mem _ hy))
    simp only [quoL, List.flatMap_cons, hq] at this ⊢
    rw [this]; rfl
theorem enc_high {r : Int} (h0 : 128 ≤ r) (h1 : r ≤ 1114111) : ∀ x ∈ enc r, 128 ≤ x.toNat := by
  unfold enc
  rw [if_neg (by omega)]
  split
  · intro x hx
    simp only [List.mem_cons, List.not_mem_nil, or_false] at hx
    rcases hx with rfl | rfl <;> rw [byte_toNat (by omega) (by omega)] <;> omega
  split
  · intro x hx
    simp only [List.mem_cons, List.not_mem_nil, or_false] at hx
    rcases hx with rfl | rfl | rfl <;> rw [byte_toNat (by omega) (by omega)] <;> omega
  · intro x hx
    simp only [List.mem_cons, List.not_mem_nil, or_false] at hx
    rcases hx with rfl | rfl | rfl | rfl <;> rw [byte_toNat (by omega) (by omega)] <;> omega
theorem esc_u4 (a b c d : UInt8) (t : List UInt8) (v : Int) (h : escape [117, a, b, c, d] = (v, 5)) : escape ([117, a, b, c, d] ++ t) = (v, 5) := by
  have e1 := escape_u [a, b, c, d]
  have e2 := escape_u ([a, b, c, d] ++ t)
  have hh : hexv ([a, b, c, d] ++ t) = hexv [a, b, c, d] := by
    simp only [hexv, List.length_append, List.length_cons, List.length_nil]
    rw [if_neg (by omega), if_neg (by omega)]
    rfl
  show escape (117 :: ([a, b, c, d] ++ t)) = _
  rw [e2, hh]
  rw [h] at e1
  by_cases hc : 0 ≤ hexv [a, b, c, d] ∧ sound (hexv [a, b, c, d]) = true
  · rw [if_pos hc] at e1 ⊢; exact e1.symm
  · rw [if_neg hc] at e1
    rw [if_pos (by simp)] at e1
    simp at e1
theorem esc_ctl (k : Nat) (h : k < 32) (hn : ¬ (k = 8 ∨ k = 9 ∨ k = 10 ∨ k = 12 ∨ k = 13)) : escape [117, 48, 48, hexs[k / 16]?.getD 0, hexs[k % 16]?.getD 0] = ((k : Int), 5) := by
  have : ∀ k : Fin 32, (k.val = 8 ∨ k.val = 9 ∨ k.val = 10 ∨ k.val = 12 ∨ k.val = 13) ∨ escape [117, 48, 48, hexs[k.val / 16]?.getD 0, hexs[k.val % 16]?.getD 0] = ((k.val : Int), 5) := by decide +kernel
  rcases this ⟨k, h⟩ with h | h
  · exact absurd h hn
  · exact h
/-- how a character stands quoted -/
theorem step {r : Int} (hs : sound r = true) :
    (quoL (enc r) = enc r ∧ r ≠ 92 ∧ r ≠ 34 ∧ 32 ≤ r) ∨ (∃ u, quoL (enc r) = 92 :: u ∧ 1 ≤ u.length ∧ u.length ≤ 5 ∧ ∀ t, escape (u ++ t) = (r, u.length)) := by
  have hsb := (sound_iff r).1 hs
  by_cases h : 128 ≤ r
  · exact .inl ⟨quoL_high _ (enc_high h (by omega)), by omega, by omega, by omega⟩
  · have he : enc r = [byte r] := by rw [enc, if_pos (by omega)]
    have hb : (byte r).toNat = r.toNat := byte_toNat (by omega) (by omega)
    obtain ⟨c, hc⟩ : ∃ c, byte r = c := ⟨_, rfl⟩
    have hr : r = (c.toNat : Int) := by rw [← hc, hb]; omega
    have hq : quoL (enc r) = quoC c := by rw [he, hc]; simp [quoL]
    rw [hq]
    clear hq he hb hc hs hsb
    subst hr
    by_cases h1 : c = 34 ∨ c = 92
    · refine .inr ⟨[c], by simp [quoC, h1], by simp, by simp, fun t => ?_⟩
      exact esc_one c t (by rcases h1 with h | h <;> simp [h])
    · by_cases h8 : c = 8
      · subst h8; exact .inr ⟨[98], rfl, by simp, by simp, fun t => rfl⟩
      by_cases h9 : c = 9
      · subst h9; exact .inr ⟨[116], rfl, by simp, by simp, fun t => rfl⟩
      by_cases h10 : c = 10
      · subst h10; exact .inr ⟨[110], rfl, by simp, by simp, fun t => rfl⟩
      by_cases h12 : c = 12
      · subst h12; exact .inr ⟨[102], rfl, by simp, by simp, fun t => rfl⟩
      by_cases h13 : c = 13
      · subst h13; exact .inr ⟨[114], rfl, by simp, by simp, fun t => rfl⟩
      by_cases h32 : c.toNat < 32
      · refine .inr ⟨[117, 48, 48, hexs[c.toNat / 16]?.getD 0, hexs[c.toNat % 16]?.getD 0], by simp [quoC, h1, h8, h9, h10, h12, h13, h32], by simp, by simp, fun t => ?_⟩
        refine esc_u4 _ _ _ _ t _ (esc_ctl c.toNat h32 ?_)
        have ne : ∀ k : UInt8, c ≠ k → c.toNat ≠ k.toNat := fun k hk e => hk (UInt8.toNat_inj.1 e)
        have := ne 8 h8; have := ne 9 h9; have := ne 10 h10; have := ne 12 h12; have := ne 13 h13
        simp at *; omega
      · refine .inl ⟨by simp [quoC, h1, h8, h9, h10, h12, h13, h32]; rw [enc, if_pos (by omega), byte_of rfl], ?_, ?_, by omega⟩
        · intro e; exact h1 (.inr (UInt8.toNat_inj.1 (by show c.toNat = 92; omega)))
        · intro e; exact h1 (.inl (UInt8.toNat_inj.1 (by show c.toNat = 34; omega)))

theorem _root_.Go.Mem.Bytes.drop_at {w : World} {b o N c : Nat} {xs : List UInt8} (h : Bytes w (.slice (some ⟨b, o, none⟩) N c) xs) (k : Nat) (hk : k ≤ N) (hc : N ≤ c) : Bytes w (.slice (some ⟨b, o + k, none⟩) (N - k) (c - k)) (xs.drop k) := by
  obtain ⟨a', c', e, h1, h2, h3, h4⟩ := h
  simp only [Value.slice.injEq] at e
  obtain ⟨rfl, e2, rfl⟩ := e
  exact Bytes.mk (h4.drop k) (by simp; omega) (by omega) (by omega) (by omega)

theorem qfacts {w : World} {g M cap : Nat} {Q L : List UInt8} (hat : BytesAt w (some ⟨g, 0, none⟩) Q) (hQ : Q = 34 :: (quoL L ++ [34])) (hM : (quoL L).length = M) (hc : M + 2 ≤ cap) (hcm : cap ≤ 9223372036854775807) (h3 : M ≤ 3000) :
    w.cell? ⟨g, 0, none⟩ = some (.int .u8 34) ∧ w.cell? ⟨g, M + 1, none⟩ = some (.int .u8 34) ∧ Bytes w (.slice (some ⟨g, 1, none⟩) M (cap - 1)) (quoL L) := by
  have hl : Q.length = M + 2 := by rw [hQ]; simp [hM]
  have hb : Bytes w (.slice (some ⟨g, 0, none⟩) (M + 2) cap) Q := Bytes.mk hat hl.symm hc hcm (by omega)
  have h1 := (hat.drop 1).take M
  rw [hQ, List.drop_succ_cons, List.drop_zero, ← hM, List.take_left, Nat.zero_add] at h1
  refine ⟨cell0_of hb hQ, ?_, Bytes.mk h1 hM.symm (by omega) (by omega) (by omega)⟩
  obtain ⟨b', o', e', _, hh⟩ := hat (by omega)
  simp only [Option.some.injEq, Addr.mk.injEq, and_true] at e'
  obtain ⟨rfl, rfl⟩ := e'
  have h2 := hh (M + 1) (by omega)
  rw [Nat.zero_add] at h2
  rw [h2]
  simp [hQ, ← hM]

set_option maxHeartbeats 6400000 in
set_option maxRecDepth 100000 in
theorem walk (s : ByteArray) (hs : s.size ≤ 140737488351232) (w : World) :
    Calls Try.prog 10 #[.string s] w fun e w' => e = .returned (.bool true) ∧ Ext w w' := by
  go_enter Try.func10, Try.ntmps10
  go_wp2_with fail
  refine (awake_any _).mono ?_
  rintro e w1 ⟨rfl, hw1⟩
  by_cases hlen : s.size ≤ 500
  · have hd : decide (500 < (s.size : Int)) = false := by simp; omega
    have hL : s.data.toList.length = s.size := Array.length_toList
    obtain ⟨L, hLe⟩ : ∃ L, s.data.toList = L := ⟨_, rfl⟩
    have HLE := Lib.hid hLe
    rw [hLe] at hL
    clear hLe
    have hsmall : s.size ≤ 140737488355328 := by omega
    go_wp2_with (refine wpList_bytes_of_string _ rfl 9 22 5 _ rfl s rfl Try.underlying9 Try.underlying22 Try.underlying5 hsmall ?_; intro cap2 w2 hE2 hcap2 hcm2 hsz2 hat2; rw [HLE.out] at hat2)
    refine (check_any _ L _ (Bytes.mk hat2 hL.symm hcap2 hcm2 hsmall)).mono ?_
    rintro e w3 ⟨rfl, hw3⟩
    have hE3 : Ext w w3 := ext_trans (ext_trans hw1 hE2) hw3
    clear hat2 hcap2 hcm2 hsz2
    by_cases hck : 0 ≤ check L
    · go_wp2_with fail
      go_ret
      exact ⟨rfl, hE3⟩
    · have hdck : decide (0 ≤ check L) = false := by simpa using hck
      obtain ⟨l, hl1, hl2⟩ := good_encs _ L 0 (Nat.le_refl _) (by omega) (by unfold check at hck; omega)
      have HL2 := Lib.hid hl2
      clear hl2
      go_wp2_with fail
      refine (quote_any _ _ (by omega)).mono ?_
      rintro e w4 ⟨rfl, hw4⟩
      rw [HLE.out]
      have hE4 : Ext w w4 := ext_trans hE3 hw4
      have hql : (quote L).length ≤ 3002 := by
        have := quoL_len L
        simp only [quote, List.length_cons, List.length_append, List.length_nil]; omega
      have hql2 : (quote L).length = (quoL L).length + 2 := by simp [quote]
      obtain ⟨Q, hQ⟩ : ∃ Q, quote L = Q := ⟨_, rfl⟩
      have hQ3 : (ByteArray.mk Q.toArray).size ≤ 140737488355328 := by show Q.toArray.size ≤ _; rw [← hQ]; simp; omega
      rw [hQ] at hql2
      rw [hQ]
      have HQ := Lib.hid hQ
      clear hQ hql
      have hM : (quoL L).length ≤ 3000 := by have := quoL_len L; omega
      obtain ⟨M, hMe⟩ : ∃ M, (quoL L).length = M := ⟨_, rfl⟩
      have HM := Lib.hid hMe
      rw [hMe] at hql2 hM
      clear hMe
      have hq0 : Hid (Q = 34 :: (quoL L ++ [34])) := Lib.hid HQ.out.symm
      have hQz : (ByteArray.mk Q.toArray).size = M + 2 := by show Q.toArray.size = _; simp [hql2]
      have HQZ := Lib.hid hQz
      have hd2 : decide ((M : Int) + 2 < 2) = false := by simp; omega
      clear hQz
      go_wp2_with (refine wpList_bytes_of_string _ rfl 9 22 5 _ rfl ⟨Q.toArray⟩ rfl Try.underlying9 Try.underlying22 Try.underlying5 hQ3 ?_; intro cap5 w5 hE5 hcap5 hcm5 hsz5 hat5; rw [HQZ.out] at hcap5; obtain ⟨hc0, hcM, hbL⟩ := qfacts hat5 hq0.out HM.out hcap5 hcm5 hM; clear hat5; have HB := Lib.hid hbL; clear hbL; have hc5' : M + 1 ≤ cap5 := (by omega))
      rw [show M + 2 - 1 = M + 1 from rfl, show M + 1 - 1 = M from rfl]
      have hlL : (encs l).length ≤ 500 := by rw [← HL2.out]; omega
      have hE5' : Ext w w5 := ext_trans hE4 hE5
      go_loopw [4, 5] (fun v4 v5 wr => ∃ (done m : List Int) (o N c : Nat) (a5 : Option Addr) (c5 : Nat), l = done ++ m ∧ v4 = .slice (some ⟨w4.heap.size, o, none⟩) N c ∧ N + 1 ≤ c ∧ N ≤ 3000 ∧ Bytes wr (.slice (some ⟨w4.heap.size, o, none⟩) N c) (quoL (encs m)) ∧ v5 = .slice a5 (encs done).length c5 ∧ (encs done).length ≤ 500 ∧ Bytes wr (.slice a5 (encs done).length c5) (encs done) ∧ Ext w wr) (fun v _ _ => lenOf' v)
      case atStart =>
        exact ⟨[], l, 1, M, cap5 - 1, none, 0, rfl, rfl, by omega, hM, by rw [← HL2.out]; exact HB.out, rfl, by simp [encs], Bytes.nil _ _ _ (by omega), hE5'⟩
      case round =>
        obtain ⟨done, m, o, N, c, a5, c5, hl, rfl, hNc, hN, hb4, rfl, hdl, hb5, hEr⟩ := hrel
        have HL := Lib.hid hl
        clear hl hE5' hE4 hw4 hE3 hE2 hw3 hw1 hE5 hc0 hcM HB
        cases m with
        | nil =>
          have hN0 : N = 0 := by
            obtain ⟨_, _, e, _⟩ := hb4
            simp only [Value.slice.injEq] at e
            simpa [quoL, encs] using e.2.1
          subst hN0
          have hfin : encs done = L := by rw [HL2.out, HL.out, List.append_nil]
          rw [hfin] at hb5 hdl ⊢
          have hsz : (ByteArray.mk L.toArray) = s := ba_ext (by rw [HLE.out])
          have HSZ := Lib.hid hsz
          clear hsz hfin
          go_wp2_with (refine wpList_string_of_bytes _ rfl 22 9 5 _ rfl _ L rfl hb5 Try.underlying22 Try.underlying5 Try.underlying9 ?_; rw [HSZ.out])
          go_ret
          exact ⟨rfl, hEr⟩
        | cons r m =>
          have hlr : sound r = true := hl1 r (by rw [HL.out]; simp)
          have he : encs (r :: m) = enc r ++ encs m := rfl
          rw [he, quoL_append] at hb4
          have hdl2 : (encs (done ++ [r])).length ≤ 500 := by
            have h1 : encs l = encs (done ++ [r]) ++ encs m := by rw [HL.out]; simp [encs]
            rw [h1, List.length_append] at hlL; omega
          have hdn : encs (done ++ [r]) = encs done ++ encP r := by rw [encP, if_pos hlr]; simp [encs]
          have HDN := Lib.hid hdn
          clear hdn he
          have hrb := (sound_iff r).1 hlr
          have hr0 : 0 ≤ r := by omega
          have hr1 : r ≤ 1114111 := by omega
          clear hrb
          have HL1 := Lib.hid hl1
          clear hl1
          rcases step hlr with ⟨hq, h92, h34, h32⟩ | ⟨u, hq, hu1, hu5, hes⟩
          · rw [hq] at hb4
            have hN2 : N = (enc r).length + (quoL (encs m)).length := by
              obtain ⟨_, _, e, _⟩ := hb4
              simp only [Value.slice.injEq] at e
              rw [← List.length_append]; exact e.2.1
            have hp := enc_pos r
            have hnx := next_enc hlr (quoL (encs m))
            have hdrop : Hid ((enc r ++ quoL (encs m)).drop (enc r).length = quoL (encs m)) := Lib.hid List.drop_left
            have hb4c := Bytes.drop_at hb4 (enc r).length (by omega) (by omega)
            rw [hdrop.out] at hb4c
            generalize (enc r).length = n at *
            have HNX := Lib.hid hnx
            have HL4 := Lib.hid hb4c
            clear hnx hb4c hdrop hq
            have q92 : (r == 92) = false := by simpa using h92
            have q34 : (r == 34) = false := by simpa using h34
            have qn : ((n : Int) == 0) = false := by simp; omega
            have hnN : n ≤ N := by omega
            have hNp : 0 < N := by omega
            have HN2 := Lib.hid hN2
            clear hN2
            go_wp2_with fail
            refine (next_any _ _ _ hb4).mono ?_
            rintro e w6 ⟨rfl, hw6⟩
            rw [HNX.out]
            go_wp2_with fail
            refine (put_any _ (encs done) r _ (hb5.ext hw6) (by omega)).mono ?_
            rintro e w7 ⟨v7, rfl, hown7, hw7⟩
            rw [← HDN.out] at hown7
            have hb7 := hown7.bytes (by omega)
            have hb7' := hb7
            obtain ⟨a7, c7, rfl, _⟩ := hb7'
            have hnc : n < c := by omega
            go_wp2_with fail
            go_roundw
            case rel =>
              exact ⟨done ++ [r], m, o + n, N - n, c - n, a7, c7, by rw [HL.out]; simp, rfl, by omega, by omega, (HL4.out.ext hw6).ext hw7, rfl, hdl2, hb7, ext_trans hEr (ext_trans hw6 hw7)⟩
            case measure => simp [lenOf']; omega
          · rw [hq] at hb4
            have hN2 : N = u.length + 1 + (quoL (encs m)).length := by
              obtain ⟨_, _, e, _⟩ := hb4
              simp only [Value.slice.injEq, List.length_append, List.length_cons] at e
              exact e.2.1
            have hnx : Hid (next (92 :: u ++ quoL (encs m)) = (92, 1)) := Lib.hid rfl
            have hes : Hid (escape (u ++ quoL (encs m)) = (r, u.length)) := Lib.hid (hes _)
            have hb4b := Bytes.drop_at hb4 1 (by omega) (by omega)
            have hb4c := Bytes.drop_at hb4 (u.length + 1) (by omega) (by omega)
            rw [show (92 :: u ++ quoL (encs m)).drop 1 = u ++ quoL (encs m) from rfl] at hb4b
            rw [show (92 :: u ++ quoL (encs m)).drop (u.length + 1) = quoL (encs m) by simp] at hb4c
            have HN2 := Lib.hid hN2
            have HB4 := Lib.hid hb4b
            have HL4 := Lib.hid hb4c
            have hnN : u.length + 1 ≤ N := by omega
            clear hb4b hb4c hN2 hq
            generalize u.length = n at *
            have hNp : 0 < N := by omega
            have h1c : 1 < c := by omega
            have hnc : n + 1 < c := by omega
            have qn : ((n : Int) + 1 == 1) = false := by simp; omega
            go_wp2_with fail
            refine (next_any _ _ _ hb4).mono ?_
            rintro e w6 ⟨rfl, hw6⟩
            rw [hnx.out]
            go_wp2_with fail
            refine (escape_any _ _ _ (HB4.out.ext hw6)).mono ?_
            rintro e w6' ⟨rfl, rfl⟩
            rw [hes.out]
            go_wp2_with fail
            refine (put_any _ (encs done) r _ (hb5.ext hw6) (by omega)).mono ?_
            rintro e w7 ⟨v7, rfl, hown7, hw7⟩
            rw [← HDN.out] at hown7
            have hb7 := hown7.bytes (by omega)
            have hb7' := hb7
            obtain ⟨a7, c7, rfl, _⟩ := hb7'
            go_wp2_with fail
            go_roundw
            case rel =>
              exact ⟨done ++ [r], m, o + (n + 1), N - (n + 1), c - (n + 1), a7, c7, by rw [HL.out]; simp, rfl, by omega, by omega, (HL4.out.ext hw6).ext hw7, rfl, hdl2, hb7, ext_trans hEr (ext_trans hw6 hw7)⟩
            case measure => simp [lenOf']; omega
  · have hd : decide (500 < (s.size : Int)) = true := by simp; omega
    go_wp2_with fail
    go_ret
    exact ⟨rfl, hw1⟩

set_option linter.unusedSimpArgs false
theorem own : ownKnob Try.prog.godebug = none := by kernel_rfl
theorem laid : laidOutB Try.prog = true := by kernel_rfl
set_option maxHeartbeats 1600000 in
set_option maxRecDepth 100000 in
theorem lifted (os : Os) (started : os.Started) (H : Type) (enc : TypeId × Value → H) :
    ReturnsInHanded {} Try.checked os 10 .any (Rows.utfQuotesSpec.pre6 enc Try.prog Try.f10 Rows.utfQuotesRow.domain false) (Rows.utfQuotesSpec.post enc Try.prog Try.f10 false true false false) := by
  refine returnsInHanded_of_change_sized (C := Try.checked) own started (by kernel_rfl) Try.func10
    (ChangeSpec.witness6 (enc := enc) (C := Try.checked) false ⟨#[], #[.string ⟨#[]⟩], []⟩ 8 (by kernel_rfl) (by kernel_rfl) (by kernel_rfl) (by kernel_rfl)) ?_
  intro W base args ds gs before hval0 hW _ hsz0 _
  have hsz : (DataW.weightsEach Try.prog (Try.f10.params.toList ++ Rows.utfQuotesSpec.plain.varTypes Try.prog) (ds ++ gs)).all (· ≤ reachBytes) = true := hsz0
  clear hsz0
  have hval : ∀ (j : Nat) t v, Try.f10.params[j]? = some t → args[j]? = some v → Value.okWide Try.prog W .any base t v := hval0
  have hW' := hW
  obtain ⟨p, q, hA0, hV, rfl, _, _⟩ := hW
  have hA : DataW.TrodAll enc Try.prog W 0 (fun _ => true) true Try.f10.params.toList args.toList ds p := hA0
  rw [Try.params10] at hA hval hsz
  obtain ⟨v0, vs0, d0, ds0, p0, q0, ha0, rfl, rfl, h0, r0⟩ := trodAll_cons hA
  obtain ⟨hb1, rfl, rfl⟩ := trodAll_nil r0
  subst hb1
  obtain rfl : args = #[v0] := by cases args; simpa using ha0
  obtain ⟨rfl, rfl⟩ := trodVars_none hV
  have hk0 := h0
  obtain ⟨a0, rfl, rfl, rfl, _⟩ := Go.ChangeMaps.open_string Try.underlying9 (hval 0 9 v0 rfl rfl) h0
  have hs0 : a0.size ≤ 140737488351232 := by have := sized_string hsz (j := 0) rfl rfl; simpa [reachBytes] using this
  have hlt := fun x hx => hW'.lt x hx
  simp only [List.append_nil, List.nil_append] at hW' hlt
  refine (walk a0 hs0 W ).mono fun e W' ⟨he, hb⟩ => ?_
  subst he
  have hargs := (trodAll_cons_mk (Below.trod laid (by kernel_rfl) (of_decide_eq_true (by kernel_rfl)) hk0 hb (fun x hx => by first | exact hlt x hx | exact absurd hx (List.not_mem_nil) | exact hlt x (by simp [hx]))) trodAll_mk0)
  exact ⟨_, rfl, _, _, _, [], _, [], hW', trodAll_cons_mk (shut_bool Try.underlying4 _) trodAll_mk0, hargs, rfl, hb.frame _, fun h => by cases h⟩

theorem proved : Rows.UtfQuotesSaid :=
  OpenClaim.holds_of_wide 10 Try.f10 rfl rfl rfl rfl rfl rfl rfl ⟨rfl, rfl, rfl, rfl, rfl⟩ rfl rfl rfl rfl rfl (by kernel_rfl) Try.func10 (by kernel_rfl)
    (of_decide_eq_true (by kernel_rfl)) (by unfold Func.isWrapper; first | (rw [if_pos (by decide +kernel)]; kernel_rfl) | (rw [if_neg (by decide +kernel)]; exact ⟨rfl, rfl⟩))
    (fun os started H enc _ => lifted os started H enc)
end Go.Proofs.Ytikhdnpokhldeaa.utfQuotes
