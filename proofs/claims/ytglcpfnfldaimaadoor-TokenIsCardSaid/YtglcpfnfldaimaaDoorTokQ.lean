/- token: what is read from a quoted text. -/
import Derived.Test.YtglcpfnfldaimaaDoorTokH
import Derived.Test.YtglcpfnfldaimaaDoorRefG
set_option linter.unusedVariables false
set_option linter.unusedSimpArgs false
set_option maxRecDepth 100000
namespace Go.Proofs.YtglcpfnfldaimaaDoor
open Go.RowKit Go.Mem Orange

theorem quoL_append (a b : List UInt8) : quoL (a ++ b) = quoL a ++ quoL b := by simp [quoL]
theorem quoL_high (l : List UInt8) (h : ∀ x ∈ l, 128 ≤ x.toNat) : quoL l = l := by
  induction l with
  | nil => rfl
  | cons x t ih =>
    have hx := h x (List.mem_cons_self ..)
    have hq : quoC x = [x] := by
      have ne : ∀ k : UInt8, k.toNat < 128 → x ≠ k := fun k hk e => by rw [e] at hx; omega
      simp only [quoC, ne 34 (by decide), ne 92 (by decide), ne 8 (by decide), ne 9 (by decide), ne 10 (by decide), ne 12 (by decide), ne 13 (by decide), or_self, if_false]
      rw [if_neg (by omega)]
    have := ih (fun y hy => h y (List.mem_cons_of_mem _ hy))
    simp only [quoL, List.flatMap_cons, hq] at this ⊢
    rw [this]; rfl
theorem enc_high {r : Int} (h0 : 128 ≤ r) (h1 : r ≤ 1114111) : ∀ x ∈ enc r, 128 ≤ x.toNat := by
  unfold enc
  rw [if_neg (by omega)]
  split
  · intro x hx
    simp only [List.mem_cons, List.not_mem_nil, or_false] at hx
    rcases hx with rfl | rfl <;> rw [byte_toNat (by omega) (by omega)] <;> omega
  split
  · intro x hx
    simp only [List.mem_cons, List.not_mem_nil, or_false] at hx
    rcases hx with rfl | rfl | rfl <;> rw [byte_toNat (by omega) (by omega)] <;> omega
  · intro x hx
    simp only [List.mem_cons, List.not_mem_nil, or_false] at hx
    rcases hx with rfl | rfl | rfl | rfl <;> rw [byte_toNat (by omega) (by omega)] <;> omega
theorem esc_u4 (a b c d : UInt8) (t : List UInt8) (v : Int) (h : escape [117, a, b, c, d] = (v, 5)) : escape ([117, a, b, c, d] ++ t) = (v, 5) := by
  have e1 := escape_u [a, b, c, d]
  have e2 := escape_u ([a, b, c, d] ++ t)
  have hh : hexv ([a, b, c, d] ++ t) = hexv [a, b, c, d] := by
    simp only [hexv, List.length_append, List.length_cons, List.length_nil]
    rw [if_neg (by omega), if_neg (by omega)]
    rfl
  show escape (117 :: ([a, b, c, d] ++ t)) = _
  rw [e2, hh]
  rw [h] at e1
  by_cases hc : 0 ≤ hexv [a, b, c, d] ∧ sound (hexv [a, b, c, d]) = true
  · rw [if_pos hc] at e1 ⊢; exact e1.symm
  · rw [if_neg hc] at e1
    rw [if_pos (by simp)] at e1
    simp at e1
theorem esc_ctl (k : Nat) (h : k < 32) (hn : ¬ (k = 8 ∨ k = 9 ∨ k = 10 ∨ k = 12 ∨ k = 13)) : escape [117, 48, 48, hexs[k / 16]?.getD 0, hexs[k % 16]?.getD 0] = ((k : Int), 5) := by
  have : ∀ k : Fin 32, (k.val = 8 ∨ k.val = 9 ∨ k.val = 10 ∨ k.val = 12 ∨ k.val = 13) ∨ escape [117, 48, 48, hexs[k.val / 16]?.getD 0, hexs[k.val % 16]?.getD 0] = ((k.val : Int), 5) := by decide +kernel
  rcases this ⟨k, h⟩ with h | h
  · exact absurd h hn
  · exact h
/-- how a character stands quoted -/
theorem step {r : Int} (hs : sound r = true) :
    (quoL (enc r) = enc r ∧ r ≠ 92 ∧ r ≠ 34 ∧ 32 ≤ r) ∨ (∃ u, quoL (enc r) = 92 :: u ∧ 1 ≤ u.length ∧ u.length ≤ 5 ∧ ∀ t, escape (u ++ t) = (r, u.length)) := by
  have hsb := (sound_iff r).1 hs
  by_cases h : 128 ≤ r
  · exact .inl ⟨quoL_high _ (enc_high h (by omega)), by omega, by omega, by omega⟩
  · have he : enc r = [byte r] := by rw [enc, if_pos (by omega)]
    have hb : (byte r).toNat = r.toNat := byte_toNat (by omega) (by omega)
    obtain ⟨c, hc⟩ : ∃ c, byte r = c := ⟨_, rfl⟩
    have hr : r = (c.toNat : Int) := by rw [← hc, hb]; omega
    have hq : quoL (enc r) = quoC c := by rw [he, hc]; simp [quoL]
    rw [hq]
    clear hq he hb hc hs hsb
    subst hr
    by_cases h1 : c = 34 ∨ c = 92
    · refine .inr ⟨[c], by simp [quoC, h1], by simp, by simp, fun t => ?_⟩
      exact esc_one c t (by rcases h1 with h | h <;> simp [h])
    · by_cases h8 : c = 8
      · subst h8; exact .inr ⟨[98], rfl, by simp, by simp, fun t => rfl⟩
      by_cases h9 : c = 9
      · subst h9; exact .inr ⟨[116], rfl, by simp, by simp, fun t => rfl⟩
      by_cases h10 : c = 10
      · subst h10; exact .inr ⟨[110], rfl, by simp, by simp, fun t => rfl⟩
      by_cases h12 : c = 12
      · subst h12; exact .inr ⟨[102], rfl, by simp, by simp, fun t => rfl⟩
      by_cases h13 : c = 13
      · subst h13; exact .inr ⟨[114], rfl, by simp, by simp, fun t => rfl⟩
      by_cases h32 : c.toNat < 32
      · refine .inr ⟨[117, 48, 48, hexs[c.toNat / 16]?.getD 0, hexs[c.toNat % 16]?.getD 0], by simp [quoC, h1, h8, h9, h10, h12, h13, h32], by simp, by simp, fun t => ?_⟩
        refine esc_u4 _ _ _ _ t _ (esc_ctl c.toNat h32 ?_)
        have ne : ∀ k : UInt8, c ≠ k → c.toNat ≠ k.toNat := fun k hk e => hk (UInt8.toNat_inj.1 e)
        have := ne 8 h8; have := ne 9 h9; have := ne 10 h10; have := ne 12 h12; have := ne 13 h13
        simp at *; omega
      · refine .inl ⟨by simp [quoC, h1, h8, h9, h10, h12, h13, h32]; rw [enc, if_pos (by omega), byte_of rfl], ?_, ?_, by omega⟩
        · intro e; exact h1 (.inr (UInt8.toNat_inj.1 (by show c.toNat = 92; omega)))
        · intro e; exact h1 (.inl (UInt8.toNat_inj.1 (by show c.toNat = 34; omega)))


theorem tquoL_append (a b : List UInt8) : tquoL (a ++ b) = tquoL a ++ tquoL b := by simp [tquoL]
theorem tquoL_same (l : List UInt8) (h : ∀ x ∈ l, x ≠ 39 ∧ x ≠ 34) : tquoL l = quoL l := by
  induction l with
  | nil => rfl
  | cons x t ih =>
    have hx := h x (List.mem_cons_self ..)
    have := ih (fun y hy => h y (List.mem_cons_of_mem _ hy))
    simp only [tquoL, quoL, List.flatMap_cons] at this ⊢
    rw [this, tquoC, if_neg hx.1, if_neg hx.2]
theorem enc_ne {r : Int} (hs : sound r = true) (k : UInt8) (hk : k.toNat < 128) (h : r ≠ k.toNat) : ∀ x ∈ enc r, x ≠ k := by
  have hsb := (sound_iff r).1 hs
  intro x hx e
  subst e
  by_cases h8 : 128 ≤ r
  · have := enc_high h8 (by omega) x hx; omega
  · rw [enc, if_pos (by omega), List.mem_singleton] at hx
    apply h
    rw [hx, byte_toNat (by omega) (by omega)]; omega
theorem esc_39 (t : List UInt8) : escape (39 :: t) = (0, 0) := by
  have hu : unit (39 :: t) = none := by simp [unit]
  simp [escape, hu]
theorem esc_34 (t : List UInt8) : escape (34 :: t) = (34, 1) := by
  rfl
theorem tstep {r : Int} (hs : sound r = true) : ∃ x T, tquoL (enc r) = x :: T ∧ x ≠ 39 ∧ ∀ t, textC 39 (x :: T ++ t) = (r, T.length + 1) := by
  have hsb := (sound_iff r).1 hs
  by_cases h39 : r = 39
  · subst h39
    exact ⟨92, [39], rfl, by decide, fun t => rfl⟩
  by_cases h34 : r = 34
  · subst h34
    refine ⟨34, [], rfl, by decide, fun t => ?_⟩
    have hn := next_enc hs t
    rfl
  have hne : ∀ x ∈ enc r, x ≠ 39 ∧ x ≠ 34 := fun x hx => ⟨enc_ne hs 39 (by decide) h39 x hx, enc_ne hs 34 (by decide) h34 x hx⟩
  rw [tquoL_same _ hne]
  rcases step hs with ⟨hq, h92, _, h32⟩ | ⟨u, hq, hu1, hu5, hes⟩
  · rw [hq]
    have hp := (enc_pos r).1
    obtain ⟨x, T, hxT⟩ : ∃ x T, enc r = x :: T := by
      cases h : enc r with
      | nil => rw [h] at hp; simp at hp
      | cons x T => exact ⟨x, T, rfl⟩
    refine ⟨x, T, hxT, (hne x (by rw [hxT]; exact List.mem_cons_self ..)).1, fun t => ?_⟩
    have hn := next_enc hs t
    rw [hxT] at hn
    rw [textC, hn, if_neg (fun h => h92 h.2), if_neg (by show ¬ r < 32; omega)]
    rfl
  · refine ⟨92, u, hq, by decide, fun t => ?_⟩
    obtain ⟨c, u', rfl⟩ : ∃ c u', u = c :: u' := by
      cases u with
      | nil => simp at hu1
      | cons c u' => exact ⟨c, u', rfl⟩
    have he := hes t
    have hc39 : c ≠ 39 := by
      rintro rfl
      rw [List.cons_append, esc_39] at he
      simp at he
    have hc34 : c ≠ 34 := by
      rintro rfl
      rw [List.cons_append, esc_34] at he
      simp only [Prod.mk.injEq] at he
      exact h34 he.1.symm
    have hn : next (92 :: c :: u' ++ t) = (92, 1) := rfl
    have ht : tokEsc ((92 :: c :: u' ++ t).drop 1) 39 = (r, (c :: u').length) := by
      show tokEsc (c :: (u' ++ t)) 39 = _
      simp only [tokEsc]
      rw [if_neg hc39, if_neg hc34]; exact he
    rw [textC, hn, if_pos ⟨by decide, rfl⟩, ht, if_neg (by simp)]
theorem textL_quo : ∀ (m : List Int), (∀ r ∈ m, sound r = true) → ∀ f, (tquoL (encs m)).length < f → textL 39 f (tquoL (encs m) ++ [39]) = some (encs m, (tquoL (encs m)).length + 1)
  | [], _, f, hf => by
    obtain ⟨f, rfl⟩ : ∃ f', f = f' + 1 := ⟨f - 1, by omega⟩
    rfl
  | r :: m, hm, f, hf => by
    obtain ⟨f, rfl⟩ : ∃ f', f = f' + 1 := ⟨f - 1, by omega⟩
    have hs := hm r (List.mem_cons_self ..)
    obtain ⟨x, T, hT, hx, hC⟩ := tstep hs
    have he : encs (r :: m) = enc r ++ encs m := rfl
    rw [he, tquoL_append, hT] at hf ⊢
    simp only [List.cons_append, List.length_cons, List.length_append, List.append_assoc] at hf ⊢
    have ih := textL_quo m (fun r' h' => hm r' (List.mem_cons_of_mem _ h')) f (by omega)
    have hC' := hC (tquoL (encs m) ++ [39])
    rw [List.cons_append] at hC'
    rw [textL, if_neg hx, hC', if_neg (by simp)]
    have hd : (x :: (T ++ (tquoL (encs m) ++ [39]))).drop (T.length + 1) = tquoL (encs m) ++ [39] := by
      rw [List.drop_succ_cons, List.drop_left]
    simp only [hd, ih, Option.map_some, encP, hs, if_true]
    congr 2
    omega
theorem textP_quo (l : List UInt8) (h : check l < 0) (hl : l.length ≤ 500) : textP (tquote l) = (l, (tquote l).length) := by
  obtain ⟨m, h1, h2⟩ := good_encs _ l 0 (Nat.le_refl _) (by omega) (by unfold check at h; omega)
  have := textL_quo m h1 (tquoL (encs m) ++ [39]).length (by simp)
  rw [← h2] at this
  simp only [textP, tquote, this]
  simp
theorem dropW (l : List UInt8) (h : isW (l.headD 0) = false) : l.dropWhile isW = l := by
  cases l with
  | nil => rfl
  | cons c t => rw [List.dropWhile_cons, if_neg (by simpa using h)]
/-- a text that is one token -/
theorem all_alone (l : List UInt8) (k : Int) (s : List UInt8) (hk : k ≠ 0) (h0 : 0 < l.length) (hl : l.length ≤ 8192) (hw : isW (l.headD 0) = false) (h : ∀ t : Orange.Tok, readP l t = ({ t with kind := k, s := s }, l.length, 0)) :
    allP l = ([⟨k, s, Num.zero, 0, l.length⟩], 0) := by
  have h1 : nextAt l 0 = (⟨k, s, Num.zero, 0, l.length⟩, 0) := by
    have hne : l ≠ [] := fun e => by rw [e] at h0; simp at h0
    simp only [nextAt, List.drop_zero, dropW l hw, if_neg hne, h]
    simp
  have h2 : nextAt l l.length = (⟨0, [], Num.zero, l.length, l.length⟩, 0) := by
    simp [nextAt]
  obtain ⟨n, hn⟩ : ∃ n, l.length = n + 1 := ⟨l.length - 1, by omega⟩
  rw [allP, if_neg (by omega)]
  have e : l.length + 1 = n + 1 + 1 := by omega
  rw [e, allL, h1]
  simp only [ne_eq, not_true, if_false, Int.toNat_natCast]
  rw [if_neg hk, allL, h2]
  simp
theorem all_quo (l : List UInt8) (h : check l < 0) (hl : l.length ≤ 500) : allP (tquote l) = ([⟨2, l, Num.zero, 0, (tquote l).length⟩], 0) := by
  have hq := tquoL_len l
  have hlen : (tquote l).length = (tquoL l).length + 2 := by simp [tquote]
  refine all_alone _ 2 l (by decide) (by omega) (by omega) (show isW 39 = false by decide) fun t => ?_
  have hh : (tquote l).headD 0 = 39 := rfl
  have ht := textP_quo l h hl
  have hn : isNumHead (tquote l) = false := by
    simp only [isNumHead, hh]
    simp; decide
  rw [readP, hh, if_neg (by decide), hn, if_neg (by decide), if_pos (.inl rfl), ht, if_neg (show ¬ (tquote l).length = 0 by omega)]
theorem all_name (l : List UInt8) (h : isName l = true) (hl : l.length ≤ 500) : allP l = ([⟨1, l, Num.zero, 0, l.length⟩], 0) := by
  simp only [isName, Bool.and_eq_true, Bool.not_eq_true', decide_eq_true_eq] at h
  obtain ⟨⟨⟨h1, h2⟩, h3⟩, h4⟩ := h
  have h0 : 0 < l.length := by cases l with | nil => simp at h1 | cons _ _ => simp
  have hw : isW (l.headD 0) = false := by
    generalize l.headD 0 = c at *
    have := u8f (p := fun n => (letterR ((UInt8.ofNat n).toNat : Int)) → isW (UInt8.ofNat n) = false) (by decide +kernel) c
    rw [UInt8.ofNat_toNat] at this
    exact (of_decide_eq_true this) h2
  refine all_alone _ 1 l (by decide) h0 (by omega) hw fun t => ?_
  rw [readP, if_pos h2, if_pos h3, h4, if_neg (by omega), List.take_length]
end Go.Proofs.YtglcpfnfldaimaaDoor
