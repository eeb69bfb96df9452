/- token: the tokens of two texts with white between. -/
import Derived.Test.YtglcpfnfldaimaaDoorTokG
set_option linter.unusedVariables false
set_option linter.unusedSimpArgs false
set_option maxRecDepth 100000
namespace Go.Proofs.YtglcpfnfldaimaaDoor
open Go.RowKit Go.Mem Orange

theorem next_app (b R : List UInt8) (h : (next b).2 ≠ 0) : next (b ++ R) = next b := by
  rcases next_spec b with hz | ⟨hs, hn, t, ht⟩
  · rw [hz] at h; exact absurd rfl h
  · have h1 := next_enc hs (t ++ R)
    have h2 := next_enc hs t
    rw [← List.append_assoc, ← ht] at h1
    rw [← ht] at h2
    exact h1.trans h2.symm
theorem unit_app {b : List UInt8} {v : Int} (R : List UInt8) (h : unit b = some v) : unit (b ++ R) = some v := by
  cases b with
  | nil => cases h
  | cons u t =>
    simp only [unit, List.cons_append] at h ⊢
    split at h
    · cases h
    · rename_i hc
      have h4 : 4 ≤ t.length := by simp at hc; omega
      rw [if_neg (by simp at hc ⊢; exact ⟨by omega, hc.2⟩), List.take_append_of_le_length h4]; exact h
theorem unit_len {b : List UInt8} {v : Int} (h : unit b = some v) : 5 ≤ b.length := by
  cases b with
  | nil => cases h
  | cons u t =>
    simp only [unit] at h
    split at h
    · cases h
    · rename_i hc; simp at hc ⊢; omega
theorem pair_app {b : List UInt8} {v r : Int} (R : List UInt8) (h : pair v b = some r) : pair v (b ++ R) = some r := by
  cases b with
  | nil => cases h
  | cons c t =>
    simp only [pair, List.cons_append] at h ⊢
    split at h
    · cases h
    · rename_i hc
      simp only [Bool.or_eq_true, decide_eq_true_eq, not_or, Bool.not_eq_true] at hc
      rw [if_neg (by simp only [Bool.or_eq_true, decide_eq_true_eq, not_or, Bool.not_eq_true, List.length_append]; exact ⟨⟨hc.1.1, by omega⟩, hc.2⟩)]
      cases hu : unit t with
      | none => rw [hu] at h; cases h
      | some w => rw [hu] at h; rw [unit_app R hu]; exact h
theorem esc_app (b R : List UInt8) (h : (escape b).2 ≠ 0) : escape (b ++ R) = escape b := by
  cases b with
  | nil => exact absurd rfl h
  | cons c t =>
    rw [List.cons_append]
    simp only [escape] at h ⊢
    split
    · rfl
    · rename_i h1
      rw [if_neg h1] at h
      split
      · rfl
      · rename_i h2
        rw [if_neg h2] at h
        cases hu : unit (c :: t) with
        | none => rw [hu] at h; exact absurd rfl h
        | some v =>
          have hu2 := unit_app R hu
          have hl := unit_len hu
          simp only [List.length_cons] at hl
          rw [List.cons_append] at hu2
          rw [hu] at h
          simp only [hu2] at h ⊢
          split
          · rfl
          · rename_i h3
            rw [if_neg h3] at h
            rw [List.drop_append_of_le_length (by omega)]
            cases hp : pair v (t.drop 4) with
            | none => rw [hp] at h; exact absurd rfl h
            | some r => rw [pair_app R hp]
theorem tokEsc_app (b R : List UInt8) (q : UInt8) (h : (tokEsc b q).2 ≠ 0) : tokEsc (b ++ R) q = tokEsc b q := by
  cases b with
  | nil => exact absurd rfl h
  | cons c t =>
    rw [List.cons_append]
    simp only [tokEsc] at h ⊢
    split
    · rfl
    · rename_i h1
      rw [if_neg h1] at h
      split
      · rfl
      · rename_i h2
        rw [if_neg h2] at h
        exact esc_app (c :: t) R h
theorem textC_app (q : UInt8) (b R : List UInt8) (h : (textC q b).2 ≠ 0) : textC q (b ++ R) = textC q b := by
  by_cases hn : (next b).2 = 0
  · rw [textC, next_zero hn] at h
    exact absurd rfl h
  · have hb : 1 ≤ b.length := by cases b with | nil => exact absurd rfl hn | cons _ _ => simp
    simp only [textC] at h ⊢
    rw [next_app b R hn, List.drop_append_of_le_length hb]
    split
    · rename_i h1
      rw [if_pos h1] at h
      have ht : (tokEsc (b.drop 1) q).2 ≠ 0 := fun e => by rw [if_pos e] at h; exact h rfl
      rw [tokEsc_app _ R q ht]
    · rfl
theorem textL_app (q : UInt8) (R : List UInt8) : ∀ (f : Nat) (b : List UInt8) (p : List UInt8 × Nat) (f' : Nat), textL q f b = some p → f ≤ f' → textL q f' (b ++ R) = some p
  | 0, b, p, f', h, _ => by cases b <;> cases h
  | f + 1, [], p, f', h, _ => by cases h
  | f + 1, x :: t, p, f', h, hf => by
    obtain ⟨f', rfl⟩ : ∃ g, f' = g + 1 := ⟨f' - 1, by omega⟩
    rw [textL] at h
    rw [List.cons_append, textL]
    split
    · rename_i h1; rw [if_pos h1] at h; exact h
    · rename_i h1
      rw [if_neg h1] at h
      by_cases hc : (textC q (x :: t)).2 = 0
      · rw [if_pos hc] at h; cases h
      · rw [if_neg hc] at h
        have ha := textC_app q (x :: t) R hc
        rw [List.cons_append] at ha
        rw [ha, if_neg hc]
        have hd : (x :: (t ++ R)).drop (textC q (x :: t)).2 = (x :: t).drop (textC q (x :: t)).2 ++ R := by
          rw [← List.cons_append, List.drop_append_of_le_length (textC_le q (x :: t))]
        rw [hd]
        cases hr : textL q f ((x :: t).drop (textC q (x :: t)).2) with
        | none => rw [hr] at h; cases h
        | some p' =>
          rw [hr] at h
          rw [textL_app q R f _ p' f' hr (by omega)]; exact h
theorem textP_app (l R : List UInt8) (h : (textP l).2 ≠ 0) : textP (l ++ R) = textP l := by
  cases l with
  | nil => exact absurd rfl h
  | cons q t =>
    rw [List.cons_append]
    simp only [textP] at h ⊢
    cases ht : textL q t.length t with
    | none => rw [ht] at h; exact absurd rfl h
    | some p => rw [textL_app q R _ t p (t ++ R).length ht (by simp)]
theorem nameLen_app (l b : List UInt8) : nameLen (l ++ 10 :: b) = nameLen l := by
  induction l with
  | nil => rfl
  | cons c t ih =>
    simp only [nameLen, List.cons_append, List.takeWhile_cons] at ih ⊢
    split
    · simp only [List.length_cons, ih]
    · rfl
theorem numOk_app (bh : Bool) (c : UInt8) (t b : List UInt8) : numOk bh c (t ++ 10 :: b) = numOk bh c t := by
  cases t with
  | nil => simp [numOk]
  | cons _ _ => rfl
theorem numLen_app (b : List UInt8) : ∀ (bh : Bool) (l : List UInt8), numLen bh (l ++ 10 :: b) = numLen bh l
  | bh, [] => by
    have : numOk bh 10 b = false := by simp [numOk, isDig, isE]
    show numLen bh (10 :: b) = 0
    rw [numLen, this]; rfl
  | bh, c :: t => by
    rw [List.cons_append, numLen, numLen, numOk_app, numLen_app b (isE c) t]
theorem isTwo_app (l b : List UInt8) (h : 0 < l.length) : isTwo (l ++ 10 :: b) = isTwo l := by
  match l, h with
  | [c], _ => simp [isTwo, twosL, List.isPrefixOf]
  | c :: d :: t, _ => simp [isTwo, twosL, List.isPrefixOf]
theorem readP_app (l b : List UInt8) (t : Orange.Tok) (h0 : 0 < l.length) (h : (readP l t).2.2 = 0) : readP (l ++ 10 :: b) t = readP l t := by
  have hh : (l ++ 10 :: b).headD 0 = l.headD 0 := by cases l with | nil => simp at h0 | cons _ _ => rfl
  have hn := nameLen_app l b
  have hok : nameOk (l ++ 10 :: b) = nameOk l := by
    simp only [nameOk, hn, List.take_append_of_le_length (nameLen_le l)]
  have hm := numLen_app b true l
  have hi : isNumHead (l ++ 10 :: b) = isNumHead l := by
    simp only [isNumHead, hh]
    match l, h0 with
    | [c], _ => simp [isDig]
    | c :: d :: t, _ => simp
  have hs : signP (l ++ 10 :: b) = signP l := by
    simp only [signP, hh, isTwo_app l b h0]
  simp only [readP] at h ⊢
  rw [hh, hn, hok, hm, hi, hs, List.take_append_of_le_length (nameLen_le l), List.take_append_of_le_length (numLen_le true l), List.take_append_of_le_length (signP_le l h0)]
  split
  · rfl
  rename_i h1
  rw [if_neg h1] at h
  split
  · rfl
  rename_i h2
  rw [if_neg h2] at h
  split
  · rename_i h3
    rw [if_pos h3] at h
    have ht : (textP l).2 ≠ 0 := fun e => by simp [e] at h
    rw [textP_app l _ ht]
  · rfl
theorem readP_at (l : List UInt8) (f u : Int) : readP l ⟨0, [], Num.zero, f, u⟩ = (⟨(readP l Orange.Tok.zero).1.kind, (readP l Orange.Tok.zero).1.s, (readP l Orange.Tok.zero).1.n, f, u⟩, (readP l Orange.Tok.zero).2) := by
  simp only [readP, Orange.Tok.zero]
  split
  · split <;> rfl
  split
  · rfl
  split <;> rfl
/-- the token of what is left of a text of n bytes -/
def nextR (n : Int) (rest : List UInt8) : Orange.Tok × Int :=
  if rest = [] then (⟨0, [], Num.zero, n - rest.length, n - rest.length⟩, 0)
  else if (readP rest Orange.Tok.zero).2.2 = 0 then (⟨(readP rest Orange.Tok.zero).1.kind, (readP rest Orange.Tok.zero).1.s, (readP rest Orange.Tok.zero).1.n, n - rest.length, n - rest.length + (readP rest Orange.Tok.zero).2.1⟩, 0)
  else (Orange.Tok.zero, (readP rest Orange.Tok.zero).2.2)
theorem nextAt_R (l : List UInt8) (k : Nat) : nextAt l k = nextR l.length ((l.drop k).dropWhile isW) := by
  simp only [nextAt, nextR, readP_at]
def shiftT (d : Int) (t : Orange.Tok) : Orange.Tok := ⟨t.kind, t.s, t.n, t.fr + d, t.upto + d⟩
theorem nextR_shift (n d : Int) (rest : List UInt8) (h : (nextR n rest).2 = 0) : nextR (n + d) rest = (shiftT d (nextR n rest).1, 0) := by
  simp only [nextR] at h ⊢
  split
  · simp only [shiftT, Prod.mk.injEq, Orange.Tok.mk.injEq, true_and, and_true]; constructor <;> omega
  rename_i h1
  rw [if_neg h1] at h
  split
  · simp only [shiftT, Prod.mk.injEq, Orange.Tok.mk.injEq, true_and, and_true]; constructor <;> omega
  rename_i h2
  rw [if_neg h2] at h
  exact absurd h h2
theorem dropW_app (l R : List UInt8) (h : l.dropWhile isW ≠ []) : (l ++ R).dropWhile isW = l.dropWhile isW ++ R := by
  induction l with
  | nil => exact absurd rfl h
  | cons c t ih =>
    rw [List.cons_append, List.dropWhile_cons]
    rw [List.dropWhile_cons] at h ⊢
    split
    · rename_i hc; rw [if_pos hc] at h; exact ih h
    · rfl
theorem dropW_nil (l R : List UInt8) (h : l.dropWhile isW = []) : (l ++ R).dropWhile isW = R.dropWhile isW := by
  induction l with
  | nil => rfl
  | cons c t ih =>
    rw [List.cons_append, List.dropWhile_cons]
    rw [List.dropWhile_cons] at h
    split
    · rename_i hc; rw [if_pos hc] at h; exact ih h
    · rename_i hc; rw [if_neg hc] at h; cases h
theorem nextR_kind (n : Int) (rest : List UInt8) (h : (nextR n rest).2 = 0) : (nextR n rest).1.kind = 0 ↔ rest = [] := by
  simp only [nextR] at h ⊢
  split
  · rename_i h1; simp [h1]
  rename_i h1
  rw [if_neg h1] at h
  split
  · rename_i h2
    exact ⟨fun e => absurd e (readP_ok rest _ h2).2, fun e => absurd e h1⟩
  · rename_i h2
    rw [if_neg h2] at h; exact absurd h h2
theorem nextAt_app (a b : List UInt8) (k : Nat) (hk : k ≤ a.length) (h : (nextAt a k).2 = 0) (h1 : (nextAt a k).1.kind ≠ 0) : nextAt (a ++ 10 :: b) k = nextAt a k := by
  rw [nextAt_R] at h h1 ⊢
  rw [nextAt_R]
  have hne : (a.drop k).dropWhile isW ≠ [] := fun e => h1 ((nextR_kind _ _ h).2 e)
  rw [List.drop_append_of_le_length hk, dropW_app _ _ hne]
  generalize (a.drop k).dropWhile isW = r at *
  have h0 : 0 < r.length := by cases r with | nil => exact absurd rfl hne | cons _ _ => simp
  simp only [nextR, if_neg hne] at h h1 ⊢
  have hne2 : r ++ 10 :: b ≠ [] := by simp
  have hr : (readP r Orange.Tok.zero).2.2 = 0 := by
    by_cases e : (readP r Orange.Tok.zero).2.2 = 0
    · exact e
    · rw [if_neg e] at h; exact h
  rw [if_neg hne2, readP_app r b _ h0 hr, if_pos hr, if_pos hr]
  simp only [List.length_append, List.length_cons, Prod.mk.injEq, Orange.Tok.mk.injEq, true_and, and_true]
  omega
theorem nextAt_behind (a b : List UInt8) (j : Nat) (h : (nextAt b j).2 = 0) : nextAt (a ++ 10 :: b) (a.length + 1 + j) = (shiftT (a.length + 1) (nextAt b j).1, 0) := by
  have hd : (a ++ 10 :: b).drop (a.length + 1 + j) = b.drop j := by
    rw [show a ++ 10 :: b = (a ++ [10]) ++ b by simp, ← List.drop_drop, show a.length + 1 = (a ++ [10]).length by simp, List.drop_left]
  rw [nextAt_R] at h
  rw [nextAt_R, nextAt_R b, hd, ← nextR_shift _ _ _ h]
  congr 1
  simp; omega
theorem nextAt_cross (a b : List UInt8) (k : Nat) (hk : k ≤ a.length) (h : (nextAt a k).2 = 0) (h1 : (nextAt a k).1.kind = 0) : nextAt (a ++ 10 :: b) k = nextAt (a ++ 10 :: b) (a.length + 1 + 0) := by
  rw [nextAt_R] at h h1
  have hr := (nextR_kind _ _ h).1 h1
  rw [nextAt_R, nextAt_R]
  congr 1
  have hd : (a ++ 10 :: b).drop (a.length + 1 + 0) = b := by
    rw [show a ++ 10 :: b = (a ++ [10]) ++ b by simp, show a.length + 1 + 0 = (a ++ [10]).length by simp, List.drop_left]
  rw [List.drop_append_of_le_length hk, dropW_nil _ _ hr, hd, List.dropWhile_cons, if_pos (by decide)]
theorem allL_err (l : List UInt8) : ∀ (f k : Nat) (acc : List Orange.Tok), (allL l f k acc).2 ≠ 0 → (allL l f k acc).1 = []
  | 0, _, _, _ => rfl
  | f + 1, k, acc, h => by
    rw [allL] at h ⊢
    split
    · rfl
    rename_i h1
    rw [if_neg h1] at h
    split
    · rename_i h2; rw [if_pos h2] at h; exact absurd rfl h
    · rename_i h2
      rw [if_neg h2] at h
      exact allL_err l f _ _ h
theorem allP_err (l : List UInt8) (h : (allP l).2 ≠ 0) : (allP l).1 = [] := by
  rw [allP] at h ⊢
  split
  · rfl
  · rename_i h1; rw [if_neg h1] at h; exact allL_err l _ _ _ h
theorem allL_behind (a b : List UInt8) (X : List Orange.Tok) : ∀ (f j : Nat) (acc m : List Orange.Tok) (f' : Nat), j ≤ b.length → f ≤ f' → allL b f j acc = (m, 0) → 0 < f →
    (l : b.length - j < f) → allL (a ++ 10 :: b) f' (a.length + 1 + j) (X ++ acc.map (shiftT (a.length + 1))) = (X ++ m.map (shiftT (a.length + 1)), 0)
  | 0, _, _, _, _, _, _, _, h, _ => absurd h (by omega)
  | f + 1, j, acc, m, f', hj, hf, h, _, hl => by
    obtain ⟨f', rfl⟩ : ∃ g, f' = g + 1 := ⟨f' - 1, by omega⟩
    have h0 : (nextAt b j).2 = 0 := by
      by_cases e : (nextAt b j).2 = 0
      · exact e
      · rw [allL, if_pos e] at h
        exact absurd (congrArg Prod.snd h) e
    rw [allL, if_neg (by omega)] at h
    rw [allL, nextAt_behind a b j h0, if_neg (by simp)]
    have hk : (shiftT (a.length + 1) (nextAt b j).1).kind = (nextAt b j).1.kind := rfl
    simp only [hk]
    by_cases hz : (nextAt b j).1.kind = 0
    · rw [if_pos hz] at h ⊢
      obtain rfl : acc = m := congrArg Prod.fst h
      rfl
    · rw [if_neg hz] at h ⊢
      rcases nextAt_end b j hj h0 with he | ⟨he1, he2, _⟩
      · exact absurd he hz
      have hu : (shiftT (a.length + 1) (nextAt b j).1).upto.toNat = a.length + 1 + (nextAt b j).1.upto.toNat := by
        simp only [shiftT]; omega
      have := allL_behind a b X f (nextAt b j).1.upto.toNat (acc ++ [(nextAt b j).1]) m f' (by omega) (by omega) h (by omega) (by omega)
      rw [hu]
      simpa using this
theorem allL_two (a b : List UInt8) (m : List Orange.Tok) (hb : allL b (b.length + 1) 0 [] = (m, 0)) : ∀ (f k : Nat) (acc l : List Orange.Tok) (f' : Nat), k ≤ a.length → f + b.length ≤ f' → allL a f k acc = (l, 0) → a.length - k < f →
    allL (a ++ 10 :: b) f' k acc = (l ++ m.map (shiftT (a.length + 1)), 0)
  | 0, _, _, _, _, _, _, _, h => absurd h (by omega)
  | f + 1, k, acc, l, f', hk, hf, h, hl => by
    obtain ⟨f', rfl⟩ : ∃ g, f' = g + 1 := ⟨f' - 1, by omega⟩
    have h0 : (nextAt a k).2 = 0 := by
      by_cases e : (nextAt a k).2 = 0
      · exact e
      · rw [allL, if_pos e] at h
        exact absurd (congrArg Prod.snd h) e
    rw [allL, if_neg (by omega)] at h
    by_cases hz : (nextAt a k).1.kind = 0
    · rw [if_pos hz] at h
      have hc := nextAt_cross a b k hk h0 hz
      have e : allL (a ++ 10 :: b) (f' + 1) k acc = allL (a ++ 10 :: b) (f' + 1) (a.length + 1 + 0) acc := by
        rw [allL, allL, hc]
      obtain rfl : acc = l := congrArg Prod.fst h
      rw [e]
      have := allL_behind a b acc (b.length + 1) 0 [] m (f' + 1) (by omega) (by omega) hb (by omega) (by omega)
      simpa using this
    · rw [if_neg hz] at h
      rcases nextAt_end a k hk h0 with he | ⟨he1, he2, _⟩
      · exact absurd he hz
      rw [allL, nextAt_app a b k hk h0 hz, if_neg (by omega), if_neg hz]
      exact allL_two a b m hb f _ _ l f' (by omega) (by omega) h (by omega)
theorem allP_two (a b : List UInt8) (l m : List Orange.Tok) (ha : allP a = (l, 0)) (hb : allP b = (m, 0)) (hlen : a.length + b.length ≤ 1000) : allP (a ++ 10 :: b) = (l ++ m.map (shiftT (a.length + 1)), 0) := by
  rw [allP, if_neg (by omega)] at ha hb
  have hl : (a ++ 10 :: b).length = a.length + 1 + b.length := by simp; omega
  rw [allP, if_neg (by omega)]
  exact allL_two a b m hb (a.length + 1) 0 [] l _ (by omega) (by omega) ha (by omega)
end Go.Proofs.YtglcpfnfldaimaaDoor
