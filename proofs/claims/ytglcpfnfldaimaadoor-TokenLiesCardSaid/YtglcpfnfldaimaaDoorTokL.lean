/- token: a token's own bytes are one token by itself, and tokens lie one behind the other. -/
import Derived.Test.YtglcpfnfldaimaaDoorTokQ
import Derived.Test.YtglcpfnfldaimaaDoorTokJ
set_option linter.unusedVariables false
set_option linter.unusedSimpArgs false
set_option maxRecDepth 100000
namespace Go.Proofs.YtglcpfnfldaimaaDoor
open Go.RowKit Go.Mem Orange

theorem next_take (b : List UInt8) (m : Nat) (h : (next b).2 ≠ 0) (hm : (next b).2 ≤ m) : next (b.take m) = next b := by
  rcases next_spec b with hz | ⟨hs, hn, t, ht⟩
  · rw [hz] at h; exact absurd rfl h
  · obtain ⟨r, hr⟩ : ∃ r, (next b).1 = r := ⟨_, rfl⟩
    rw [hr] at hs hn ht
    have h1 := next_enc hs t
    have h2 := next_enc hs (t.take (m - (enc r).length))
    rw [← ht] at h1
    have : b.take m = enc r ++ t.take (m - (enc r).length) := by
      rw [ht, List.take_append, List.take_of_length_le (by omega)]
    rw [this, h2, h1]
theorem unit_take {b : List UInt8} {v : Int} (m : Nat) (h : unit b = some v) (hm : 5 ≤ m) : unit (b.take m) = some v := by
  cases b with
  | nil => cases h
  | cons u t =>
    obtain ⟨m, rfl⟩ : ∃ k, m = k + 1 := ⟨m - 1, by omega⟩
    have hl := unit_len h
    simp only [List.length_cons] at hl
    rw [List.take_succ_cons]
    simp only [unit] at h ⊢
    split at h
    · cases h
    · rename_i hc
      rw [if_neg (by simp at hc ⊢; exact ⟨by omega, hc.2⟩), List.take_take, Nat.min_eq_left (by omega)]; exact h
theorem pair_take {b : List UInt8} {v r : Int} (m : Nat) (h : pair v b = some r) (hm : 6 ≤ m) : pair v (b.take m) = some r := by
  cases b with
  | nil => cases h
  | cons c t =>
    obtain ⟨m, rfl⟩ : ∃ k, m = k + 1 := ⟨m - 1, by omega⟩
    rw [List.take_succ_cons]
    simp only [pair] at h ⊢
    split at h
    · cases h
    · rename_i hc
      simp only [Bool.or_eq_true, decide_eq_true_eq, not_or, Bool.not_eq_true] at hc
      rw [if_neg (by simp only [Bool.or_eq_true, decide_eq_true_eq, not_or, Bool.not_eq_true, List.length_take]; exact ⟨⟨hc.1.1, by omega⟩, hc.2⟩)]
      cases hu : unit t with
      | none => rw [hu] at h; cases h
      | some w => rw [hu] at h; rw [unit_take m hu (by omega)]; exact h
theorem esc_take (b : List UInt8) (m : Nat) (h : (escape b).2 ≠ 0) (hm : (escape b).2 ≤ m) : escape (b.take m) = escape b := by
  cases b with
  | nil => exact absurd rfl h
  | cons c t =>
    obtain ⟨m, rfl⟩ : ∃ k, m = k + 1 := ⟨m - 1, by omega⟩
    rw [List.take_succ_cons]
    simp only [escape] at h hm ⊢
    split
    · rfl
    · rename_i h1
      rw [if_neg h1] at h hm
      split
      · rfl
      · rename_i h2
        rw [if_neg h2] at h hm
        cases hu : unit (c :: t) with
        | none => rw [hu] at h; exact absurd rfl h
        | some v =>
          rw [hu] at h hm
          simp only at h hm
          by_cases h3 : sound v = true
          · rw [if_pos h3] at hm
            simp only at hm
            have hu2 := unit_take (m + 1) hu (by omega)
            rw [List.take_succ_cons] at hu2
            rw [hu2]; simp only [h3, if_true]
          · rw [if_neg h3] at h hm
            cases hp : pair v (t.drop 4) with
            | none => rw [hp] at h; exact absurd rfl h
            | some r =>
              rw [hp] at hm
              simp only at hm
              have hu2 := unit_take (m + 1) hu (by omega)
              rw [List.take_succ_cons] at hu2
              have hp2 := pair_take (m - 4) hp (by omega)
              rw [hu2]
              simp only [h3, if_false, List.drop_take, hp2, Bool.false_eq_true]
              rw [hp]
theorem tokEsc_take (b : List UInt8) (q : UInt8) (m : Nat) (h : (tokEsc b q).2 ≠ 0) (hm : (tokEsc b q).2 ≤ m) : tokEsc (b.take m) q = tokEsc b q := by
  cases b with
  | nil => exact absurd rfl h
  | cons c t =>
    have hm0 : 0 < m := by omega
    have he := esc_take (c :: t) m
    obtain ⟨m, rfl⟩ : ∃ k, m = k + 1 := ⟨m - 1, by omega⟩
    rw [List.take_succ_cons] at he ⊢
    simp only [tokEsc] at h hm ⊢
    split
    · rfl
    · rename_i h1
      rw [if_neg h1] at h hm
      split
      · rfl
      · rename_i h2
        rw [if_neg h2] at h hm
        exact he h hm
theorem textC_take (q : UInt8) (b : List UInt8) (m : Nat) (h : (textC q b).2 ≠ 0) (hm : (textC q b).2 ≤ m) : textC q (b.take m) = textC q b := by
  by_cases hn : (next b).2 = 0
  · rw [textC, next_zero hn] at h
    exact absurd rfl h
  · simp only [textC] at h hm ⊢
    by_cases h1 : (next b).2 ≠ 0 ∧ (next b).1 = 92
    · rw [if_pos h1] at h hm
      have ht : (tokEsc (b.drop 1) q).2 ≠ 0 := fun e => by rw [if_pos e] at h; exact h rfl
      rw [if_neg ht] at hm
      simp only at hm
      have hb1 : (next b).2 ≤ m := by
        rcases next_spec b with hz | ⟨hs, hn2, t, ht⟩
        · rw [hz] at hn; exact absurd rfl hn
        · rw [hn2, h1.2]; show 1 ≤ m; omega
      rw [next_take b m hn hb1, if_pos h1, if_pos h1, List.drop_take, tokEsc_take _ q (m - 1) ht (by omega)]
    · rw [if_neg h1] at h hm
      by_cases h2 : (next b).1 < 32
      · rw [if_pos h2] at h; exact absurd rfl h
      · rw [if_neg h2] at hm
        rw [next_take b m hn hm, if_neg h1, if_neg h1]
theorem textL_take (q : UInt8) : ∀ (f : Nat) (b : List UInt8) (p : List UInt8 × Nat) (f' : Nat), textL q f b = some p → p.2 ≤ f' → textL q f' (b.take p.2) = some p
  | 0, b, p, f', h, _ => by cases b <;> cases h
  | f + 1, [], p, f', h, _ => by cases h
  | f + 1, x :: t, p, f', h, hf => by
    rw [textL] at h
    split at h
    · rename_i h1
      simp only [Option.some.injEq] at h
      subst h
      simp only at hf ⊢
      obtain ⟨f', rfl⟩ : ∃ g, f' = g + 1 := ⟨f' - 1, by omega⟩
      rw [List.take_succ_cons, textL, if_pos h1]
    · rename_i h1
      by_cases hc : (textC q (x :: t)).2 = 0
      · rw [if_pos hc] at h; cases h
      · rw [if_neg hc] at h
        cases hr : textL q f ((x :: t).drop (textC q (x :: t)).2) with
        | none => rw [hr] at h; cases h
        | some p' =>
          rw [hr] at h
          simp only [Option.map_some, Option.some.injEq] at h
          subst h
          simp only at hf ⊢
          have hC := textC_take q (x :: t) ((textC q (x :: t)).2 + p'.2) hc (by omega)
          obtain ⟨n, hn⟩ : ∃ n, (textC q (x :: t)).2 = n + 1 := ⟨(textC q (x :: t)).2 - 1, by omega⟩
          have hih := textL_take q f _ p' (f' - 1) hr (by omega)
          obtain ⟨f', rfl⟩ : ∃ g, f' = g + 1 := ⟨f' - 1, by omega⟩
          have e : (textC q (x :: t)).2 + p'.2 = (n + p'.2) + 1 := by omega
          rw [e, List.take_succ_cons] at hC
          rw [e, List.take_succ_cons, textL, if_neg h1, hC, if_neg hc]
          have hd : (x :: t.take (n + p'.2)).drop (textC q (x :: t)).2 = ((x :: t).drop (textC q (x :: t)).2).take p'.2 := by
            rw [← List.take_succ_cons, List.drop_take, hn]
            congr 1; omega
          rw [hd, show f' = f' + 1 - 1 from rfl, hih]
          simp only [Option.map_some, Option.some.injEq, Prod.mk.injEq, true_and]
          omega
theorem textP_take (l : List UInt8) (h : (textP l).2 ≠ 0) : textP (l.take (textP l).2) = textP l := by
  cases l with
  | nil => exact absurd rfl h
  | cons q t =>
    simp only [textP] at h ⊢
    cases ht : textL q t.length t with
    | none => rw [ht] at h; exact absurd rfl h
    | some p =>
      have hl := textL_le q _ t p ht
      have := textL_take q _ t p (t.take p.2).length ht (by simp; omega)
      simp only [List.take_succ_cons, this]
theorem nameLen_take (l : List UInt8) : nameLen (l.take (nameLen l)) = nameLen l := by
  induction l with
  | nil => rfl
  | cons c t ih =>
    simp only [nameLen, List.takeWhile_cons] at ih ⊢
    split
    · rename_i h
      rw [List.length_cons, List.take_succ_cons, List.takeWhile_cons, if_pos h, List.length_cons, ih]
    · rfl
theorem numOk_take (bh : Bool) (c : UInt8) (t : List UInt8) (m : Nat) (h : numOk bh c t = true) : numOk bh c (t.take m) = true := by
  simp only [numOk, Bool.or_eq_true, Bool.and_eq_true, decide_eq_true_eq] at h ⊢
  rcases h with h | ⟨h1, h2⟩
  · exact .inl h
  · refine .inr ⟨h1, fun e => h2 ?_⟩
    cases m with
    | zero => simp at e
    | succ m => cases t with | nil => simp at e | cons a t => simpa using e
theorem numLen_take : ∀ (bh : Bool) (l : List UInt8), numLen bh (l.take (numLen bh l)) = numLen bh l
  | bh, [] => by simp [numLen]
  | bh, c :: t => by
    by_cases h : numOk bh c t = true
    · have e : numLen bh (c :: t) = numLen (isE c) t + 1 := by rw [numLen, if_pos h]
      rw [e, List.take_succ_cons, numLen, if_pos (numOk_take bh c t _ h), numLen_take (isE c) t]
    · have e : numLen bh (c :: t) = 0 := by rw [numLen, if_neg h]
      rw [e]; rfl
theorem isTwo_take (l : List UInt8) : isTwo (l.take 2) = isTwo l := by
  match l with
  | [] => rfl
  | [c] => rfl
  | c :: d :: t => simp [isTwo, twosL, List.isPrefixOf]
theorem isTwo_one (c : UInt8) : isTwo [c] = false := by simp [isTwo, twosL, List.isPrefixOf]
theorem signP_take (l : List UInt8) (h : signP l ≠ 0) : signP (l.take (signP l)) = signP l ∧ 0 < l.length := by
  cases l with
  | nil => exact absurd (by decide) h
  | cons c t =>
    refine ⟨?_, by simp⟩
    by_cases h2 : isTwo (c :: t) = true
    · have e : signP (c :: t) = 2 := by rw [signP, if_pos h2]
      rw [e, signP, isTwo_take, if_pos h2]
    · have h1 : 0 ≤ Lib.indexByte onesL ((c :: t).headD 0) := by
        by_cases h1 : 0 ≤ Lib.indexByte onesL ((c :: t).headD 0)
        · exact h1
        · rw [signP, if_neg h2, if_neg h1] at h; exact absurd rfl h
      have e : signP (c :: t) = 1 := by rw [signP, if_neg h2, if_pos h1]
      rw [e]
      show signP [c] = 1
      rw [signP, if_neg (by rw [isTwo_one]; decide)]
      exact if_pos h1
theorem headD_take (l : List UInt8) (n : Nat) (h : 0 < n) : (l.take n).headD 0 = l.headD 0 := by
  obtain ⟨n, rfl⟩ : ∃ k, n = k + 1 := ⟨n - 1, by omega⟩
  cases l <;> rfl
/-- a token's own bytes are the token -/
theorem readP_take (l : List UInt8) (t : Orange.Tok) (h : (readP l t).2.2 = 0) : readP (l.take (readP l t).2.1) t = readP l t := by
  have hpos := (readP_ok l t h).1
  have hh := headD_take l _ hpos
  by_cases h1 : letterR ((l.headD 0).toNat : Int) = true
  · have e : readP l t = if nameOk l then ({ t with kind := 1, s := l.take (nameLen l) }, nameLen l, if nameLen l = 0 then 2 else 0) else (t, 0, 2) := by rw [readP, if_pos h1]
    have hok : nameOk l = true := by
      cases ho : nameOk l with
      | true => rfl
      | false => rw [e, ho] at h; cases h
    rw [hok, if_pos rfl] at e
    rw [e] at hh ⊢
    simp only at hh ⊢
    have hn := nameLen_take l
    have ho2 : nameOk (l.take (nameLen l)) = true := by
      rw [nameOk, hn, List.take_take, Nat.min_self]; exact hok
    rw [readP, hh, if_pos h1, ho2, if_pos rfl, hn, List.take_take, Nat.min_self]
  by_cases h2 : isNumHead l = true
  · have e : readP l t = ({ t with kind := 3, n := (decP (l.take (numLen true l))).1 }, numLen true l, if (decP (l.take (numLen true l))).2 = 0 ∧ numLen true l = 0 then 2 else (decP (l.take (numLen true l))).2) := by rw [readP, if_neg h1, if_pos h2]
    rw [e] at hh hpos ⊢
    simp only at hh hpos ⊢
    have hn := numLen_take true l
    have hi : isNumHead (l.take (numLen true l)) = true := by
      simp only [isNumHead, hh, Bool.or_eq_true, Bool.and_eq_true, decide_eq_true_eq] at h2 ⊢
      rcases h2 with h2 | ⟨⟨h3, h4⟩, h5⟩
      · exact .inl h2
      · obtain ⟨c, d, u, rfl⟩ : ∃ c d u, l = c :: d :: u := by
          match l, h4 with
          | c :: d :: u, _ => exact ⟨c, d, u, rfl⟩
        simp only [List.headD_cons, List.drop_succ_cons, List.drop_zero] at h3 h5
        have hd : ∀ bh, numOk bh d u = true := fun bh => by simp [numOk, h5]
        have hc : numOk true c (d :: u) = true := by rw [h3]; simp [numOk]
        have hlen : numLen true (c :: d :: u) = numLen (isE d) u + 1 + 1 := by rw [numLen, if_pos hc, numLen, if_pos (hd _)]
        refine .inr ⟨⟨h3, ?_⟩, ?_⟩
        · rw [hlen]; simp
        · rw [hlen, List.take_succ_cons, List.take_succ_cons]; simpa using h5
    rw [readP, hh, if_neg h1, hi, if_pos rfl, hn, List.take_take, Nat.min_self]
  by_cases h3 : l.headD 0 = 39 ∨ l.headD 0 = 34
  · have e : readP l t = ({ t with kind := 2, s := (textP l).1 }, (textP l).2, if (textP l).2 = 0 then 2 else 0) := by rw [readP, if_neg h1, if_neg h2, if_pos h3]
    rw [e] at hh hpos ⊢
    simp only at hh hpos ⊢
    have ht := textP_take l (by omega)
    have hi : isNumHead (l.take (textP l).2) = false := by
      simp only [isNumHead, hh]
      rcases h3 with h3 | h3 <;> (rw [h3]; simp [isDig])
    rw [readP, hh, if_neg h1, hi, if_neg (by decide), if_pos h3, ht]
  · have e : readP l t = ({ t with kind := 4, s := l.take (signP l) }, signP l, if signP l = 0 then 2 else 0) := by rw [readP, if_neg h1, if_neg h2, if_neg h3]
    rw [e] at hh hpos ⊢
    simp only at hh hpos ⊢
    have hs := (signP_take l (by omega)).1
    have hi : isNumHead (l.take (signP l)) = false := by
      cases hx : isNumHead (l.take (signP l)) with
      | false => rfl
      | true =>
        exfalso; apply h2
        simp only [isNumHead, hh, Bool.or_eq_true, Bool.and_eq_true, decide_eq_true_eq] at hx ⊢
        rcases hx with hx | ⟨⟨h5, h6⟩, h7⟩
        · exact .inl hx
        · refine .inr ⟨⟨h5, by rw [List.length_take] at h6; omega⟩, ?_⟩
          rw [List.drop_take, headD_take _ _ (by rw [List.length_take] at h6; omega)] at h7
          exact h7
    rw [readP, hh, if_neg h1, hi, if_neg (by decide), if_neg h3, hs, List.take_take, Nat.min_self]
theorem readP_head (l : List UInt8) (t : Orange.Tok) (h : (readP l t).2.2 = 0) : isW (l.headD 0) = false := by
  cases hw : isW (l.headD 0) with
  | false => rfl
  | true =>
    exfalso
    have hpos := (readP_ok l t h).1
    generalize hc : l.headD 0 = c at *
    have hcs : c = 9 ∨ c = 10 ∨ c = 13 ∨ c = 32 := by simpa [isW, or_assoc] using hw
    have hL : letterR (c.toNat : Int) = false := by rcases hcs with rfl | rfl | rfl | rfl <;> decide
    have hN : isNumHead l = false := by
      rw [isNumHead, hc]; rcases hcs with rfl | rfl | rfl | rfl <;> simp [isDig]
    have hq : ¬ (c = 39 ∨ c = 34) := by rcases hcs with rfl | rfl | rfl | rfl <;> decide
    have hs : signP l = 0 := by
      have h2 : isTwo l = false := by
        match l, hc with
        | [], _ => rfl
        | [d], _ => exact isTwo_one d
        | d :: e :: u, hc =>
          have : d = c := hc
          subst this
          rcases hcs with rfl | rfl | rfl | rfl <;> simp [isTwo, twosL, List.isPrefixOf]
      rw [signP, h2, hc, if_neg (by decide)]
      rcases hcs with rfl | rfl | rfl | rfl <;> decide
    rw [readP, hc, hL, if_neg (by decide), hN, if_neg (by decide), if_neg hq, hs] at h
    cases h
/-- a token by itself -/
theorem all_self (l : List UInt8) (h0 : (readP l Orange.Tok.zero).2.2 = 0) (hl : l.length ≤ 8192) (hn : (readP l Orange.Tok.zero).2.1 ≤ l.length) :
    allP (l.take (readP l Orange.Tok.zero).2.1) = ([⟨(readP l Orange.Tok.zero).1.kind, (readP l Orange.Tok.zero).1.s, (readP l Orange.Tok.zero).1.n, 0, (readP l Orange.Tok.zero).2.1⟩], 0) := by
  have ht := readP_take l Orange.Tok.zero h0
  obtain ⟨hp, hk⟩ := readP_ok l Orange.Tok.zero h0
  have hw := readP_head l Orange.Tok.zero h0
  generalize readP l Orange.Tok.zero = R at *
  obtain ⟨⟨k, s, n, f, u⟩, m, e⟩ := R
  simp only at *
  subst h0
  obtain ⟨m, rfl⟩ : ∃ k, m = k + 1 := ⟨m - 1, by omega⟩
  have hlen : (l.take (m + 1)).length = m + 1 := by rw [List.length_take]; omega
  have hw2 : isW ((l.take (m + 1)).headD 0) = false := by rw [headD_take l _ (by omega)]; exact hw
  generalize l.take (m + 1) = S at *
  have hne : S ≠ [] := fun e => by rw [e] at hlen; simp at hlen
  have h1 : nextAt S 0 = (⟨k, s, n, 0, ((m + 1 : Nat) : Int)⟩, 0) := by
    rw [nextAt_R, List.drop_zero, dropW S hw2, nextR, if_neg hne, ht, if_pos rfl, hlen]
    simp
  have h2 : nextAt S (m + 1) = (⟨0, [], Num.zero, S.length, S.length⟩, 0) := by
    rw [← hlen]; simp [nextAt]
  rw [allP, if_neg (by omega), hlen, allL, h1]
  simp only [ne_eq, not_true, if_false, Int.toNat_natCast]
  rw [if_neg hk, allL, h2]
  simp
/-- tokens lie one behind the other from a place on -/
def Lies (l : List UInt8) : Nat → List Orange.Tok → Prop
  | k, [] => k ≤ l.length ∧ ∀ i, k ≤ i → (h : i < l.length) → isW l[i] = true
  | k, t :: ts => ∃ f u : Nat, t.fr = f ∧ t.upto = u ∧ k ≤ f ∧ f < u ∧ u ≤ l.length ∧ (∀ i, k ≤ i → i < f → (h : i < l.length) → isW l[i] = true) ∧ allP ((l.drop f).take (u - f)) = ([⟨t.kind, t.s, t.n, 0, ((u - f : Nat) : Int)⟩], 0) ∧ Lies l u ts
theorem white_run (l : List UInt8) : ∀ i, (h : i < l.length) → i < l.length - (l.dropWhile isW).length → isW l[i] = true := by
  induction l with
  | nil => intro i h; simp at h
  | cons c t ih =>
    intro i h h2
    rw [List.dropWhile_cons] at h2
    split at h2
    · rename_i hc
      cases i with
      | zero => exact hc
      | succ i =>
        have hd : (t.dropWhile isW).length ≤ t.length := (List.dropWhile_sublist (p := isW) (l := t)).length_le
        exact ih i (by simpa using h) (by simp only [List.length_cons] at h2; omega)
    · omega
theorem lies_all (l : List UInt8) (hl8 : l.length ≤ 8192) : ∀ (f k : Nat) (acc ts : List Orange.Tok), k ≤ l.length → l.length - k < f → allL l f k acc = (ts, 0) → ∃ r, ts = acc ++ r ∧ Lies l k r
  | 0, _, _, _, _, h, _ => absurd h (by omega)
  | f + 1, k, acc, ts, hk, hf, h => by
    have h0 : (nextAt l k).2 = 0 := by
      by_cases e : (nextAt l k).2 = 0
      · exact e
      · rw [allL, if_pos e] at h
        exact absurd (congrArg Prod.snd h) e
    rw [allL, if_neg (by omega)] at h
    have hwr : ∀ i, k ≤ i → (h : i < l.length) → i < l.length - ((l.drop k).dropWhile isW).length → isW l[i] = true := fun i hi h h2 => by
      have := white_run (l.drop k) (i - k) (by simp; omega) (by rw [List.length_drop]; omega)
      simpa [show k + (i - k) = i by omega] using this
    have hdl : ((l.drop k).dropWhile isW).length ≤ (l.drop k).length := (List.dropWhile_sublist (p := isW) (l := l.drop k)).length_le
    rw [List.length_drop] at hdl
    by_cases hz : (nextAt l k).1.kind = 0
    · rw [if_pos hz] at h
      obtain rfl : acc = ts := congrArg Prod.fst h
      refine ⟨[], by simp, hk, fun i hi hil => ?_⟩
      rw [nextAt_R] at h0 hz
      have hr := (nextR_kind _ _ h0).1 hz
      exact hwr i hi hil (by rw [hr]; simpa using hil)
    · rw [if_neg hz] at h
      rcases nextAt_end l k hk h0 with he | ⟨he1, he2, _⟩
      · exact absurd he hz
      obtain ⟨r, hr, hlies⟩ := lies_all l hl8 f (nextAt l k).1.upto.toNat (acc ++ [(nextAt l k).1]) ts (by omega) (by omega) h
      refine ⟨(nextAt l k).1 :: r, by rw [hr]; simp, ?_⟩
      have hR := nextAt_R l k
      obtain ⟨R, hRe⟩ : ∃ R, (l.drop k).dropWhile isW = R := ⟨_, rfl⟩
      rw [hRe] at hR hwr hdl
      rw [hR] at h0 hz hlies he1 he2 ⊢
      have hRn : R ≠ [] := fun e => hz ((nextR_kind _ _ h0).2 e)
      have hok : (readP R Orange.Tok.zero).2.2 = 0 := by
        rw [nextR, if_neg hRn] at h0
        by_cases e : (readP R Orange.Tok.zero).2.2 = 0
        · exact e
        · rw [if_neg e] at h0; exact absurd h0 e
      rw [nextR, if_neg hRn, if_pos hok] at hlies he1 he2 ⊢
      simp only at hlies he1 he2 ⊢
      have hRd : l.drop (l.length - R.length) = R := by
        have hsuf : R <:+ l := by rw [← hRe]; exact (List.dropWhile_suffix _).trans (List.drop_suffix _ _)
        obtain ⟨q, hq⟩ := hsuf
        rw [← hq, List.length_append, Nat.add_sub_cancel, List.drop_left]
      have hall := all_self R hok (by omega) (by omega)
      have hpos := (readP_ok R Orange.Tok.zero hok).1
      generalize (readP R Orange.Tok.zero) = P at *
      obtain ⟨⟨pk, ps, pn, pf, pu⟩, m, pe⟩ := P
      simp only at *
      refine ⟨l.length - R.length, l.length - R.length + m, (by show (l.length : Int) - R.length = _; omega), (by show (l.length : Int) - R.length + m = _; omega), by omega, by omega, by omega, fun i hi hif hil => ?_, ?_, ?_⟩
      · exact hwr i hi hil (by omega)
      · rw [hRd, show l.length - R.length + m - (l.length - R.length) = m by omega]; exact hall
      · have e : ((l.length : Int) - R.length + m).toNat = l.length - R.length + m := by omega
        rw [← e]; exact hlies
theorem allP_lies (l : List UInt8) (ts : List Orange.Tok) (h : allP l = (ts, 0)) : Lies l 0 ts := by
  rw [allP] at h
  split at h
  · cases h
  · obtain ⟨r, h1, h2⟩ := lies_all l (by omega) (l.length + 1) 0 [] ts (by omega) (by omega) h
    rw [h1]; exact h2
end Go.Proofs.YtglcpfnfldaimaaDoor
