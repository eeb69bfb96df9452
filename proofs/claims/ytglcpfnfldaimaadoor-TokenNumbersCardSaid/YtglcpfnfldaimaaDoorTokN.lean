/- token: what is read from a number. -/
import Derived.Test.YtglcpfnfldaimaaDoorTokQ
import Derived.Test.YtglcpfnfldaimaaDoorTokJ
set_option linter.unusedVariables false
set_option linter.unusedSimpArgs false
set_option maxRecDepth 100000
namespace Go.Proofs.YtglcpfnfldaimaaDoor
open Go.RowKit Go.Mem Orange

theorem trimR0_pre (l : List UInt8) : ∃ r, l = trimR0 l ++ r := by
  obtain ⟨t, ht⟩ := List.dropWhile_suffix (fun c : UInt8 => c == 48) (l := l.reverse)
  refine ⟨t.reverse, ?_⟩
  have := congrArg List.reverse ht
  rw [List.reverse_append, List.reverse_reverse] at this
  exact this.symm
theorem trimL0_suf (l : List UInt8) : ∃ r, l = r ++ trimL0 l := by
  obtain ⟨t, ht⟩ := List.dropWhile_suffix (fun c : UInt8 => c == 48) (l := l)
  exact ⟨t, ht.symm⟩
theorem drop_head (l : List UInt8) : (l.dropWhile (· == 48)).head? ≠ some 48 := by
  have := List.head?_dropWhile_not (fun c : UInt8 => c == 48) l
  intro e
  rw [e] at this
  simp at this
theorem formP_ok (neg : Bool) (D : List UInt8) (hd : D.all isDig = true) (hl : D.length ≤ 5) : (formP neg D 0).2 = 0 := by
  simp only [formP]
  split
  · rfl
  rename_i hne
  obtain ⟨r, hr⟩ := trimR0_pre (trimL0 D)
  obtain ⟨q, hq⟩ := trimL0_suf D
  have h1 : (trimL0 D).head? ≠ some 48 := drop_head D
  have h2 : (trimR0 (trimL0 D)).getLast? ≠ some 48 := by
    rw [trimR0, List.getLast?_reverse]; exact drop_head _
  generalize trimR0 (trimL0 D) = sh at *
  generalize trimL0 D = dg at *
  have hsa : sh.all isDig = true := by
    rw [hq, hr] at hd
    simp only [List.all_append, Bool.and_eq_true] at hd
    exact hd.2.1
  have hlen := congrArg List.length hr
  have hlen2 := congrArg List.length hq
  simp only [List.length_append] at hlen hlen2
  have h0 : sh.length ≠ 0 := fun e => hne (List.eq_nil_of_length_eq_zero e)
  have h3 : sh.head? ≠ some 48 := by
    intro e
    apply h1
    rw [hr]
    cases sh with
    | nil => cases e
    | cons c t => simpa using e
  have hs : sane ⟨neg, sh, 0 + dg.length - sh.length⟩ = true := by
    simp only [sane, height]
    rw [if_neg h0, if_neg (by simp only [hsa]; simp; omega), if_neg (by simp; omega)]
    simp only [Bool.and_eq_true, decide_eq_true_eq, bne_iff_ne, ne_eq]
    refine ⟨⟨⟨decide_eq_true (by omega), decide_eq_true (by omega)⟩, h3⟩, h2⟩
  rw [if_pos hs]
/-- what follows a number here -/
def Stop (T : List UInt8) : Prop := T = [] ∨ ∃ u, T = 46 :: 46 :: u
theorem numLen_stop (bh : Bool) (T : List UInt8) (h : Stop T) : numLen bh T = 0 := by
  rcases h with rfl | ⟨u, rfl⟩
  · rfl
  · have : numOk bh 46 (46 :: u) = false := by simp [numOk, isDig, isE]
    rw [numLen, this]; rfl
theorem dig_E (c : UInt8) (h : isDig c = true) : isE c = false := by
  have := (isDig_iff c).1 h
  simp [isE]; omega
theorem numLen_dig (T : List UInt8) (h : Stop T) : ∀ (bh : Bool) (D : List UInt8), D.all isDig = true → numLen bh (D ++ T) = D.length
  | bh, [], _ => numLen_stop bh T h
  | bh, c :: D, hd => by
    simp only [List.all_cons, Bool.and_eq_true] at hd
    have : numOk bh c (D ++ T) = true := by simp [numOk, hd.1]
    rw [List.cons_append, numLen, this, if_pos rfl, numLen_dig T h _ D hd.2]; rfl
theorem take_digs (D : List UInt8) (h : D.all isDig = true) : D.takeWhile isDig = D ∧ D.dropWhile isDig = [] := by
  induction D with
  | nil => exact ⟨rfl, rfl⟩
  | cons c t ih =>
    simp only [List.all_cons, Bool.and_eq_true] at h
    rw [List.takeWhile_cons, List.dropWhile_cons, if_pos h.1, if_pos h.1, (ih h.2).1, (ih h.2).2]
    exact ⟨rfl, rfl⟩
structure IsNum (sg D : List UInt8) : Prop where
  sg : sg = [] ∨ sg = [45]
  dig : D.all isDig = true
  pos : 0 < D.length
  few : D.length ≤ 5
  head : D.length = 1 ∨ D.head? ≠ some 48
def numOf (sg D : List UInt8) : Num := (formP (decide (sg ≠ [])) D 0).1
theorem decP_num (sg D : List UInt8) (h : IsNum sg D) : decP (sg ++ D) = (numOf sg D, 0) := by
  obtain ⟨hs, hd, hp, hf, hh⟩ := h
  obtain ⟨h1, h2⟩ := take_digs D hd
  have key : ∀ neg, (if (!true || !([] : List UInt8).isEmpty || D.isEmpty || (decide (1 < D.length) && decide (D.head? = some 48)) || (false && ([] : List UInt8).isEmpty)) = true then (Num.zero, 2) else formP neg (D ++ []) (0 - (([] : List UInt8).length : Int))) = ((formP neg D 0).1, 0) := by
    intro neg
    have hne : D.isEmpty = false := by cases D with | nil => simp at hp | cons _ _ => rfl
    have hz : (decide (1 < D.length) && decide (D.head? = some 48)) = false := by
      rcases hh with h | h
      · rw [h]; rfl
      · simp [h]
    have hfp := formP_ok neg D hd hf
    rw [hne, hz, List.append_nil]
    simp only [List.isEmpty_nil, Bool.not_true, Bool.or_false, Bool.false_and, Bool.false_eq_true, if_false, List.length_nil]
    exact Prod.ext rfl hfp
  have hc : ∀ c t, D = c :: t → c ≠ 45 := by
    rintro c t rfl rfl
    simp [isDig] at hd
  rcases hs with rfl | rfl
  · have hn : D.head? ≠ some 45 := by
      cases hD : D with
      | nil => simp
      | cons c t => simpa using hc c t hD
    have hn2 : ¬ 1000 < D.length := by omega
    have := key false
    simp only [List.nil_append, decP, if_neg hn2, if_neg hn, decide_eq_false hn, h1, h2, expP, List.head?_nil] at this ⊢
    simpa [numOf] using this
  · have hn2 : ¬ 1000 < ([45] ++ D).length := by simp; omega
    have hn : ([45] ++ D).head? = some 45 := rfl
    have hdr : ([45] ++ D).drop 1 = D := rfl
    have := key true
    simp only [decP, if_neg hn2, hn, if_true, hdr, h1, h2, expP, List.head?_nil] at this ⊢
    simpa [numOf] using this
theorem readP_num (sg D T : List UInt8) (t : Orange.Tok) (h : IsNum sg D) (hT : Stop T) : readP (sg ++ D ++ T) t = ({ t with kind := 3, n := numOf sg D }, (sg ++ D).length, 0) := by
  have hdec := decP_num sg D h
  obtain ⟨hs, hd, hp, hf, hh⟩ := h
  obtain ⟨c, D', rfl⟩ : ∃ c D', D = c :: D' := by cases D with | nil => simp at hp | cons c t => exact ⟨c, t, rfl⟩
  have hdc : isDig c = true := by simp only [List.all_cons, Bool.and_eq_true] at hd; exact hd.1
  have hcb := (isDig_iff c).1 hdc
  have hnl : numLen true (sg ++ c :: D' ++ T) = (sg ++ c :: D').length := by
    rcases hs with rfl | rfl
    · exact numLen_dig T hT true (c :: D') hd
    · have : numOk true 45 (c :: D' ++ T) = true := by simp [numOk]
      show numLen true (45 :: (c :: D' ++ T)) = _
      rw [numLen, this, if_pos rfl, numLen_dig T hT _ (c :: D') hd]; simp
  have hL : letterR (((sg ++ c :: D' ++ T).headD 0).toNat : Int) = false := by
    rcases hs with rfl | rfl
    · show letterR (c.toNat : Int) = false
      simp [letterR]; omega
    · exact (by decide : letterR ((45 : UInt8).toNat : Int) = false)
  have hN : isNumHead (sg ++ c :: D' ++ T) = true := by
    rcases hs with rfl | rfl
    · simp [isNumHead, hdc]
    · simp [isNumHead, hdc]
  have htk : (sg ++ c :: D' ++ T).take (sg ++ c :: D').length = sg ++ c :: D' := List.take_left
  rw [readP, hL, if_neg (by simp), hN, if_pos rfl, hnl, htk, hdec]
  simp
theorem readP_dots (S : List UInt8) (t : Orange.Tok) : readP (46 :: 46 :: S) t = ({ t with kind := 4, s := [46, 46] }, 2, 0) := by
  have hN : isNumHead (46 :: 46 :: S) = false := by simp [isNumHead, isDig]
  have hs : signP (46 :: 46 :: S) = 2 := by simp [signP, isTwo, twosL, List.isPrefixOf]
  have hh : (46 :: 46 :: S).headD 0 = 46 := rfl
  rw [readP, hh, if_neg (by decide), hN, if_neg (by decide), if_neg (by decide), hs]
  rfl
theorem nextAt_read (l Y : List UInt8) (k : Nat) (kd : Int) (s : List UInt8) (n : Num) (len : Nat) (hk : l.drop k = Y) (h0 : 0 < Y.length) (hw : isW (Y.headD 0) = false) (h : ∀ t : Orange.Tok, readP Y t = (⟨kd, if kd = 4 then s else t.s, if kd = 3 then n else t.n, t.fr, t.upto⟩, len, 0)) :
    nextAt l k = (⟨kd, if kd = 4 then s else [], if kd = 3 then n else Num.zero, (l.length : Int) - Y.length, (l.length : Int) - Y.length + len⟩, 0) := by
  have hne : Y ≠ [] := fun e => by rw [e] at h0; simp at h0
  rw [nextAt_R, hk, dropW Y hw, nextR, if_neg hne, h, if_pos rfl]
  rfl
theorem num_white (sg D T : List UInt8) (h : IsNum sg D) : isW ((sg ++ D ++ T).headD 0) = false := by
  obtain ⟨hs, hd, hp, hf, hh⟩ := h
  obtain ⟨c, D', rfl⟩ : ∃ c D', D = c :: D' := by cases D with | nil => simp at hp | cons c t => exact ⟨c, t, rfl⟩
  have hdc : isDig c = true := by simp only [List.all_cons, Bool.and_eq_true] at hd; exact hd.1
  have hcb := (isDig_iff c).1 hdc
  rcases hs with rfl | rfl
  · show isW c = false
    have ne : ∀ k : UInt8, k.toNat < 48 → c ≠ k := fun k hk e => by rw [e] at hcb; omega
    simp [isW, ne 9 (by decide), ne 10 (by decide), ne 13 (by decide), ne 32 (by decide)]
  · exact (by decide : isW 45 = false)
theorem next_num (l sg D T : List UInt8) (k : Nat) (h : IsNum sg D) (hT : Stop T) (hk : l.drop k = sg ++ D ++ T) : nextAt l k = (⟨3, [], numOf sg D, (l.length : Int) - (sg ++ D ++ T).length, (l.length : Int) - (sg ++ D ++ T).length + (sg ++ D).length⟩, 0) := by
  have := nextAt_read l _ k 3 [] (numOf sg D) (sg ++ D).length hk (by have := h.pos; simp; omega) (num_white sg D T h) (fun t => readP_num sg D T t h hT)
  simpa using this
theorem next_done (l : List UInt8) : nextAt l l.length = (⟨0, [], Num.zero, l.length, l.length⟩, 0) := by
  simp [nextAt]
theorem all_num (sg D : List UInt8) (h : IsNum sg D) : allP (sg ++ D) = ([⟨3, [], numOf sg D, 0, (sg ++ D).length⟩], 0) := by
  have hl : (sg ++ D).length ≤ 6 := by have := h.few; rcases h.sg with e | e <;> simp [e] <;> omega
  have h1 := next_num (sg ++ D) sg D [] 0 h (.inl rfl) (by simp)
  have h2 := next_done (sg ++ D)
  have hp : 0 < (sg ++ D).length := by have := h.pos; simp; omega
  rw [List.append_nil] at h1
  generalize sg ++ D = S at *
  obtain ⟨n, hn⟩ : ∃ n, S.length = n + 1 := ⟨S.length - 1, by omega⟩
  rw [allP, if_neg (by omega), show S.length + 1 = n + 1 + 1 by omega, allL, h1, allL]
  simp only [ne_eq, not_true, if_false, Int.sub_self, Int.zero_add, Int.toNat_natCast, h2]
  simp
theorem all_dots (sg D : List UInt8) (h : IsNum sg D) : allP (sg ++ D ++ 46 :: 46 :: (sg ++ D)) = ([⟨3, [], numOf sg D, 0, (sg ++ D).length⟩, ⟨4, [46, 46], Num.zero, (sg ++ D).length, (sg ++ D).length + 2⟩, ⟨3, [], numOf sg D, (sg ++ D).length + 2, (sg ++ D).length + 2 + (sg ++ D).length⟩], 0) := by
  have hl : (sg ++ D).length ≤ 6 := by have := h.few; rcases h.sg with e | e <;> simp [e] <;> omega
  have hp : 0 < (sg ++ D).length := by have := h.pos; simp; omega
  have h1 := next_num (sg ++ D ++ 46 :: 46 :: (sg ++ D)) sg D (46 :: 46 :: (sg ++ D)) 0 h (.inr ⟨_, rfl⟩) rfl
  have h2 := nextAt_read (sg ++ D ++ 46 :: 46 :: (sg ++ D)) (46 :: 46 :: (sg ++ D)) (sg ++ D).length 4 [46, 46] Num.zero 2 List.drop_left (by simp) (show isW 46 = false by decide) (fun t => by rw [readP_dots]; rfl)
  have h3 := next_num (sg ++ D ++ 46 :: 46 :: (sg ++ D)) sg D [] ((sg ++ D).length + 2) h (.inl rfl) (by rw [← List.drop_drop, List.drop_left]; simp)
  have h4 := next_done (sg ++ D ++ 46 :: 46 :: (sg ++ D))
  have hX : (sg ++ D ++ 46 :: 46 :: (sg ++ D)).length = (sg ++ D).length + 2 + (sg ++ D).length := by simp; omega
  rw [List.append_nil] at h3
  generalize sg ++ D ++ 46 :: 46 :: (sg ++ D) = X at *
  generalize numOf sg D = N at *
  have hY : (46 :: 46 :: (sg ++ D)).length = (sg ++ D).length + 2 := by simp
  rw [hY] at h2
  generalize sg ++ D = S at *
  generalize S.length = L at *
  rw [hX] at h1 h2 h3 h4
  have e1 : ((L + 2 + L : Nat) : Int) - ((L + 2 + L : Nat) : Int) = 0 := by omega
  have e2 : ((L + 2 + L : Nat) : Int) - ((L + 2 : Nat) : Int) = L := by omega
  have e3 : ((L + 2 + L : Nat) : Int) - (L : Int) = (L : Int) + 2 := by omega
  rw [e1] at h1
  rw [e2] at h2
  rw [e3] at h3
  obtain ⟨f, hf⟩ : ∃ f, L + 2 + L + 1 = f + 1 + 1 + 1 + 1 := ⟨L + L - 1, by omega⟩
  have t2 : ((L : Int) + 2).toNat = L + 2 := by omega
  have t3 : ((L : Int) + 2 + L).toNat = L + 2 + L := by omega
  rw [allP, if_neg (by omega), hX, hf, allL, h1]
  simp only [ne_eq, not_true, if_false, Int.zero_add, Int.toNat_natCast]
  rw [if_neg (by decide), allL, h2]
  simp only [ne_eq, not_true, if_false, if_true, Int.toNat_natCast]
  rw [if_neg (by decide), show ((L : Int) + ((2 : Nat) : Int)).toNat = L + 2 by omega, allL, h3]
  simp only [ne_eq, not_true, if_false, if_true]
  rw [if_neg (by decide), t3, allL, h4]
  simp
theorem all_zero (D : List UInt8) (h : IsNum [] D) : (allP (48 :: D)).2 = 2 := by
  obtain ⟨hs, hd, hp, hf, hh⟩ := h
  have hd0 : (48 :: D).all isDig = true := by simp only [List.all_cons, hd]; decide
  obtain ⟨h1, h2⟩ := take_digs (48 :: D) hd0
  have hnl : numLen true (48 :: D) = D.length + 1 := by have := numLen_dig [] (.inl rfl) true (48 :: D) hd0; simpa using this
  have hdec : decP (48 :: D) = (Num.zero, 2) := by
    have hn2 : ¬ 1000 < (48 :: D).length := by simp; omega
    have hn : ¬ (48 :: D).head? = some 45 := by simp
    have hl : 1 < (48 :: D).length := by simp; omega
    simp only [decP, if_neg hn2, if_neg hn, h1, h2, expP, List.head?_nil, hl]
    simp
  have hR : (readP (48 :: D) Orange.Tok.zero).2.2 = 2 := by
    have hN : isNumHead (48 :: D) = true := by simp [isNumHead, isDig]
    have htk : (48 :: D).take (D.length + 1) = 48 :: D := List.take_of_length_le (by simp)
    have hh : (48 :: D).headD 0 = 48 := rfl
    rw [readP, hh, if_neg (by decide), hN, if_pos rfl, hnl, htk, hdec]
    simp
  have hn : (nextAt (48 :: D) 0).2 = 2 := by
    rw [nextAt_R, List.drop_zero, dropW (48 :: D) (by show isW 48 = false; decide), nextR, if_neg (by simp), hR, if_neg (by decide)]
  rw [allP, if_neg (by simp; omega), allL, if_pos (by rw [hn]; decide)]
  exact hn
end Go.Proofs.YtglcpfnfldaimaaDoor
