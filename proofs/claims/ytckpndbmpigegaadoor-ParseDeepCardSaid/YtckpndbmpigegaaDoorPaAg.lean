/- parse: a text that agrees with another one as far as a value goes has this value (plain). -/
import Derived.Test.YtckpndbmpigegaaDoorPaQ
set_option linter.unusedVariables false
set_option linter.unusedSimpArgs false
set_option maxRecDepth 100000
namespace Go.Proofs.YtckpndbmpigegaaDoor
open Go.RowKit Go.Mem Orange
/-! ### the end of a run of bytes -/
def endQ (q : UInt8 → Bool) (X : List UInt8) (k : Nat) : Nat := X.length - ((X.drop k).dropWhile q).length
theorem endQ_step {q : UInt8 → Bool} {X : List UInt8} {k : Nat} (h : k < X.length) (hq : q X[k] = true) : endQ q X k = endQ q X (k + 1) := by
  unfold endQ
  rw [List.drop_eq_getElem_cons h, List.dropWhile_cons, if_pos hq]
theorem endQ_stop {q : UInt8 → Bool} {X : List UInt8} {k : Nat} (h : k < X.length) (hq : q X[k] = false) : endQ q X k = k := by
  unfold endQ
  rw [List.drop_eq_getElem_cons h, List.dropWhile_cons, hq]
  simp
  omega
theorem endQ_end {q : UInt8 → Bool} {X : List UInt8} {k : Nat} (h : k = X.length) : endQ q X k = k := by
  unfold endQ
  rw [List.drop_of_length_le (by omega)]
  simp [h]
theorem endQ_spec (q : UInt8 → Bool) (X : List UInt8) : ∀ (j k : Nat), j = X.length - k → k ≤ X.length → k ≤ endQ q X k ∧ endQ q X k ≤ X.length ∧ (∀ i, k ≤ i → i < endQ q X k → ∃ c, X[i]? = some c ∧ q c = true) ∧ (∀ c, X[endQ q X k]? = some c → q c = false)
  | 0, k, hj, hk => by
    rw [endQ_end (by omega)]
    refine ⟨by omega, hk, fun i h1 h2 => by omega, fun c h => ?_⟩
    rw [List.getElem?_eq_none (by omega)] at h
    cases h
  | j + 1, k, hj, hk => by
    have hlt : k < X.length := by omega
    cases hq : q X[k] with
    | true =>
      obtain ⟨h1, h2, h3, h4⟩ := endQ_spec q X j (k + 1) (by omega) (by omega)
      rw [endQ_step hlt hq]
      refine ⟨by omega, h2, fun i h5 h6 => ?_, h4⟩
      by_cases hi : i = k
      · subst hi; exact ⟨X[i], by simp [hlt], hq⟩
      · exact h3 i (by omega) h6
    | false =>
      rw [endQ_stop hlt hq]
      refine ⟨by omega, hk, fun i h1 h2 => by omega, fun c h => ?_⟩
      rw [List.getElem?_eq_getElem hlt, Option.some.injEq] at h
      rw [← h]; exact hq
theorem endQ_unique {q : UInt8 → Bool} {Z : List UInt8} : ∀ (j k p : Nat), p = k + j → p ≤ Z.length → (∀ i, k ≤ i → i < p → ∃ c, Z[i]? = some c ∧ q c = true) → (∀ c, Z[p]? = some c → q c = false) → endQ q Z k = p
  | 0, k, p, hj, hp, _, h2 => by
    obtain rfl : p = k := by omega
    rcases Nat.lt_or_ge p Z.length with h | h
    · exact endQ_stop h (h2 _ (by simp [h]))
    · exact endQ_end (by omega)
  | j + 1, k, p, hj, hp, h1, h2 => by
    have hlt : k < Z.length := by omega
    obtain ⟨c, h3, h4⟩ := h1 k (by omega) (by omega)
    rw [List.getElem?_eq_getElem hlt, Option.some.injEq] at h3
    subst h3
    rw [endQ_step hlt h4]
    exact endQ_unique j (k + 1) p (by omega) hp (fun i h5 h6 => h1 i (by omega) h6) h2
theorem whiteN_endQ (X : List UInt8) (k : Nat) : whiteN X k = endQ isWhite X k := rfl
theorem numEnd_endQ (X : List UInt8) (k : Nat) : numEnd X k = endQ isFig X k := rfl
/-- bytes that agree -/
theorem agree_get {X Z : List UInt8} {a i : Nat} (h : Z.take a = X.take a) (hi : i < a) : Z[i]? = X[i]? := by
  have := congrArg (fun l => l[i]?) h
  simpa [List.getElem?_take, hi] using this
theorem agree_len {X Z : List UInt8} {a : Nat} (h : Z.take a = X.take a) (ha : a ≤ X.length) : a ≤ Z.length := by
  have := congrArg List.length h
  simp at this
  omega
theorem agree_mono {X Z : List UInt8} {a b : Nat} (h : Z.take a = X.take a) (hb : b ≤ a) : Z.take b = X.take b := by
  have := congrArg (List.take b) h
  simpa [List.take_take, Nat.min_eq_left hb] using this
theorem agree_drop {X Z : List UInt8} {a k : Nat} (h : Z.take (k + a) = X.take (k + a)) : (Z.drop k).take a = (X.drop k).take a := by
  rw [List.take_drop, List.take_drop, h]
theorem agree_peek {X Z : List UInt8} {a i : Nat} (h : Z.take a = X.take a) (hi : i < a) : peekP Z i = peekP X i := by
  unfold peekP
  rw [List.getD_eq_getElem?_getD, List.getD_eq_getElem?_getD, agree_get h hi]
theorem endQ_agree {q : UInt8 → Bool} {X Z : List UInt8} {k a : Nat} (hk : k ≤ X.length) (hZ : Z.take a = X.take a) (ha : a ≤ X.length) (hp : endQ q X k ≤ a) (hend : endQ q X k < a ∨ ∀ c, Z[endQ q X k]? = some c → q c = false) : endQ q Z k = endQ q X k := by
  obtain ⟨h1, h2, h3, h4⟩ := endQ_spec q X _ k rfl hk
  have hl := agree_len hZ ha
  refine endQ_unique (endQ q X k - k) k _ (by omega) (by omega) (fun i h5 h6 => ?_) ?_
  · rw [agree_get hZ (by omega)]; exact h3 i h5 h6
  · rcases hend with h | h
    · rw [agree_get hZ h]; exact h4
    · exact h
theorem white_agree {X Z : List UInt8} {k a : Nat} (hk : k ≤ X.length) (hZ : Z.take a = X.take a) (ha : a ≤ X.length) (hp : whiteN X k < a) : whiteN Z k = whiteN X k :=
  endQ_agree hk hZ ha (Nat.le_of_lt hp) (.inl hp)
/-! ### characters -/
theorem next_agree {X Z : List UInt8} (h : 0 < (next X).2) (hZ : Z.take (next X).2 = X.take (next X).2) : next Z = next X := by
  rcases next_spec X with h0 | ⟨hs, hn, t, ht⟩
  · rw [h0] at h; exact absurd h (by decide)
  · generalize hP : next X = P at *
    obtain ⟨r, n⟩ := P
    simp only at hs hn ht hZ h ⊢
    subst hn
    rw [ht, List.take_left] at hZ
    have hz : Z = enc r ++ Z.drop (enc r).length := by
      conv => lhs; rw [← List.take_append_drop (enc r).length Z, hZ]
    rw [hz, next_enc hs]
theorem unit_agree {X Z : List UInt8} {v : Int} (h : unit X = some v) (hZ : Z.take 5 = X.take 5) : unit Z = some v := by
  cases X with
  | nil => cases h
  | cons u t =>
    cases Z with
    | nil =>
      simp only [unit] at h
      split at h
      · cases h
      · simp at hZ
    | cons z s =>
      simp only [List.take_succ_cons, List.cons.injEq] at hZ
      obtain ⟨rfl, h4⟩ := hZ
      simp only [unit] at h ⊢
      have hl := congrArg List.length h4
      simp only [List.length_take] at hl
      split at h
      · cases h
      · rename_i hc
        rw [if_neg (by simp only [Bool.or_eq_true, decide_eq_true_eq, not_or] at hc ⊢; exact ⟨by omega, hc.2⟩), h4]
        exact h
theorem pair_agree {X Z : List UInt8} {v r : Int} (h : pair v X = some r) (hZ : Z.take 6 = X.take 6) : pair v Z = some r := by
  cases X with
  | nil => cases h
  | cons u t =>
    cases Z with
    | nil => simp at hZ
    | cons z s =>
      simp only [List.take_succ_cons, List.cons.injEq] at hZ
      obtain ⟨rfl, h4⟩ := hZ
      simp only [pair] at h ⊢
      have hl := congrArg List.length h4
      simp only [List.length_take] at hl
      split at h
      · cases h
      · rename_i hc
        rw [if_neg (by simp only [Bool.or_eq_true, decide_eq_true_eq, not_or] at hc ⊢; exact ⟨⟨hc.1.1, by omega⟩, hc.2⟩)]
        cases hu : unit t with
        | none => rw [hu] at h; cases h
        | some x => rw [hu] at h; rw [unit_agree hu h4]; exact h
theorem escape_agree {X Z : List UInt8} (h : 0 < (escape X).2) (hZ : Z.take (escape X).2 = X.take (escape X).2) : escape Z = escape X := by
  cases X with
  | nil => exact absurd h (by decide)
  | cons c t =>
    have hz : ∃ s, Z = c :: s ∧ s.take ((escape (c :: t)).2 - 1) = t.take ((escape (c :: t)).2 - 1) := by
      obtain ⟨n, hn⟩ : ∃ n, (escape (c :: t)).2 = n + 1 := ⟨(escape (c :: t)).2 - 1, by omega⟩
      rw [hn] at hZ ⊢
      cases Z with
      | nil => simp at hZ
      | cons z s =>
        simp only [List.take_succ_cons, List.cons.injEq] at hZ
        obtain ⟨rfl, h4⟩ := hZ
        exact ⟨s, rfl, by simpa using h4⟩
    obtain ⟨s, rfl, h4⟩ := hz
    clear hZ
    simp only [escape] at h h4 ⊢
    split
    · rfl
    split
    · rfl
    rename_i h1 h2
    rw [if_neg h1, if_neg h2] at h h4
    cases hu : unit (c :: t) with
    | none => rw [hu] at h; exact absurd h (Nat.lt_irrefl 0)
    | some v =>
      rw [hu] at h h4
      simp only at h h4 ⊢
      by_cases hs : sound v = true
      · rw [if_pos hs] at h4 ⊢
        rw [unit_agree hu (by simp only [List.take_succ_cons]; rw [show (4 : Nat) = 5 - 1 from rfl, h4])]
        simp [hs]
      · rw [if_neg hs] at h h4 ⊢
        cases hp : pair v (t.drop 4) with
        | none => rw [hp] at h; exact absurd h (Nat.lt_irrefl 0)
        | some r =>
          rw [hp] at h4
          have h4 : s.take 10 = t.take 10 := h4
          rw [unit_agree hu (by simp only [List.take_succ_cons]; rw [agree_mono h4 (by omega)])]
          simp only
          rw [if_neg hs, pair_agree hp (agree_drop (k := 4) h4)]
/-! ### how deep and how many: what a value meets at any depth -/
def foldE {ι : Type} (g : Nat → ι → Except Int Nat) : Nat → List ι → Except Int Nat
  | n, [] => .ok n
  | n, x :: l => match g n x with | .error e => .error e | .ok n' => foldE g n' l
mutual
def fitT : Nat → Nat → Tree → Except Int Nat
  | deep, n, .mk k _ _ _ l m => if 4096 < n + 1 then .error 4 else if 4 ≤ k ∧ 64 ≤ deep then .error 3 else match fitL (deep + 1) (n + 1) l with | .error e => .error e | .ok n' => fitM (deep + 1) n' m
def fitL : Nat → Nat → List Tree → Except Int Nat
  | _, n, [] => .ok n
  | deep, n, t :: l => match fitT deep n t with | .error e => .error e | .ok n' => fitL deep n' l
def fitM : Nat → Nat → List (List UInt8 × Tree) → Except Int Nat
  | _, n, [] => .ok n
  | deep, n, (_, t) :: l => match fitT deep n t with | .error e => .error e | .ok n' => fitM deep n' l
end
theorem fitL_fold (deep : Nat) : ∀ (l : List Tree) (n : Nat), fitL deep n l = foldE (fun n t => fitT deep n t) n l
  | [], n => by rw [fitL, foldE]
  | t :: l, n => by
    rw [fitL, foldE]
    cases fitT deep n t with
    | error e => rfl
    | ok n' => exact fitL_fold deep l n'
theorem fitM_fold (deep : Nat) : ∀ (l : List (List UInt8 × Tree)) (n : Nat), fitM deep n l = foldE (fun n p => fitT deep n p.2) n l
  | [], n => by rw [fitM, foldE]
  | (k, t) :: l, n => by
    rw [fitM, foldE]
    cases fitT deep n t with
    | error e => rfl
    | ok n' => exact fitM_fold deep l n'
/-- the same thing, or an error -/
def SameR {α : Type} (r : PR α) (x : Except Int Nat) (v : α) (a : Nat) : Prop :=
  match x with
  | .ok m => r = .ok v a m
  | .error e => ∃ p, r = .err e p
theorem SameR.map {α β : Type} {f : α → β} {r : PR α} {x : Except Int Nat} {v : α} {a : Nat} (h : SameR r x v a) : SameR (r.map f) x (f v) a := by
  cases x with
  | ok m => have h : r = .ok v a m := h; rw [h]; exact rfl
  | error e => obtain ⟨p, h⟩ := h; rw [h]; exact ⟨p, rfl⟩
/-! ### the parser's parts -/
theorem textL_agree {X Z : List UInt8} (n n' : Nat) : ∀ (f k : Nat) (out v : List UInt8) (a m : Nat), k ≤ X.length → textL X n f k out = .ok v a m → k < a ∧ a ≤ X.length ∧ m = n ∧ (Z.take a = X.take a → ∀ f', Z.length < k + f' → textL Z n' f' k out = .ok v a n')
  | 0, k, out, v, a, m, hk, h => by rw [textL] at h; cases h
  | f + 1, k, out, v, a, m, hk, h => by
    rw [textL] at h
    by_cases h34 : peekP X k = 34
    · rw [if_pos h34] at h
      simp only [PR.ok.injEq] at h
      obtain ⟨rfl, rfl, rfl⟩ := h
      have hlt := (peekP_some h34 (by decide)).2
      refine ⟨by omega, by omega, rfl, fun hZ f' hf => ?_⟩
      have hl := agree_len hZ (by omega)
      obtain ⟨g, rfl⟩ : ∃ g, f' = g + 1 := ⟨f' - 1, by omega⟩
      rw [textL, if_pos (by rw [agree_peek hZ (by omega)]; exact h34)]
    · rw [if_neg h34] at h
      by_cases hne : 0 < (next (X.drop k)).2 ∧ 32 ≤ (next (X.drop k)).1
      · rw [if_neg (fun h => h hne)] at h
        have hnl := (next_le (X.drop k)).2
        rw [List.length_drop] at hnl
        by_cases h92 : (next (X.drop k)).1 = 92
        · rw [if_pos h92] at h
          by_cases hes : 0 < (escape (X.drop (k + 1))).2
          · rw [if_neg (fun h => h hes)] at h
            have hel := escape_le (X.drop (k + 1))
            rw [List.length_drop] at hel
            obtain ⟨i1, i2, i3, i4⟩ := textL_agree (Z := Z) n n' f _ _ _ _ _ (by omega) h
            refine ⟨by omega, i2, i3, fun hZ f' hf => ?_⟩
            obtain ⟨g, rfl⟩ : ∃ g, f' = g + 1 := ⟨f' - 1, by have := agree_len hZ i2; omega⟩
            have hn1 : (next (X.drop k)).2 = 1 := by
              rcases next_spec (X.drop k) with h0 | ⟨_, hn, _⟩
              · rw [h0] at h92; exact absurd h92 (by decide)
              · rw [hn, h92]; rfl
            have hn := next_agree (Z := Z.drop k) hne.1 (by rw [hn1]; exact agree_drop (agree_mono hZ (by omega)))
            have he := escape_agree (Z := Z.drop (k + 1)) hes (agree_drop (agree_mono hZ (by omega)))
            rw [textL, if_neg (by rw [agree_peek hZ (by omega)]; exact h34), hn, if_neg (fun h => h hne), if_pos h92, he, if_neg (fun h => h hes)]
            exact i4 hZ g (by omega)
          · rw [if_pos hes] at h; cases h
        · rw [if_neg h92] at h
          obtain ⟨i1, i2, i3, i4⟩ := textL_agree (Z := Z) n n' f _ _ _ _ _ (by omega) h
          refine ⟨by omega, i2, i3, fun hZ f' hf => ?_⟩
          obtain ⟨g, rfl⟩ : ∃ g, f' = g + 1 := ⟨f' - 1, by have := agree_len hZ i2; omega⟩
          have hn := next_agree (Z := Z.drop k) hne.1 (agree_drop (agree_mono hZ (by omega)))
          rw [textL, if_neg (by rw [agree_peek hZ (by omega)]; exact h34), hn, if_neg (fun h => h hne), if_neg h92]
          exact i4 hZ g (by omega)
      · rw [if_pos hne] at h; cases h
theorem textP_agree {X Z : List UInt8} {k n n' a m : Nat} {v : List UInt8} (h : textP X k n = .ok v a m) : k < a ∧ a ≤ X.length ∧ m = n ∧ (Z.take a = X.take a → textP Z k n' = .ok v a n') := by
  rw [textP] at h
  split at h
  · rename_i h34
    obtain ⟨hl, _⟩ := List.getElem?_eq_some_iff.1 h34
    obtain ⟨i1, i2, i3, i4⟩ := textL_agree (Z := Z) n n' _ _ _ _ _ _ (by omega) h
    refine ⟨by omega, i2, i3, fun hZ => ?_⟩
    rw [textP, if_pos (by rw [agree_get hZ (by omega)]; exact h34)]
    exact i4 hZ _ (by omega)
  · cases h
/-- an item's law: it lies ahead, and a text that agrees has it -/
def ItemOk {ι : Type} (X Z : List UInt8) (it it' : List ι → Nat → Nat → PR (List ι)) (g : Nat → ι → Except Int Nat) : Prop :=
  ∀ s k n s1 a1 m1, k ≤ X.length → it s k n = .ok s1 a1 m1 → ∃ x, s1 = s ++ [x] ∧ k ≤ a1 ∧ a1 ≤ X.length ∧ (Z.take a1 = X.take a1 → Z[a1]? = X[a1]? → ∀ n', SameR (it' s k n') (g n' x) (s ++ [x]) a1)
theorem listP_agree {ι : Type} {X Z : List UInt8} {close : UInt8} {it it' : List ι → Nat → Nat → PR (List ι)} {g : Nat → ι → Except Int Nat} (hi : ItemOk X Z it it' g) (hc : close ≠ 0) : ∀ (f : Nat) (s : List ι) (k n : Nat) (s' : List ι) (a m : Nat), k ≤ X.length → listP X close it f s k n = .ok s' a m →
    k < a ∧ a ≤ X.length ∧ ∃ l, s' = s ++ l ∧ (Z.take a = X.take a → ∀ f' n', Z.length < k + f' → SameR (listP Z close it' f' s k n') (foldE g n' l) s' a)
  | 0, s, k, n, s', a, m, hk, h => by rw [listP] at h; cases h
  | f + 1, s, k, n, s', a, m, hk, h => by
    rw [listP] at h
    cases hr : it s k n with
    | err e b => rw [hr] at h; cases h
    | ok s1 a1 m1 =>
      rw [hr] at h
      simp only at h
      obtain ⟨x, rfl, h1, h2, h3⟩ := hi _ _ _ _ _ _ hk hr
      have hw1 := whiteN_ge X a1 h2
      by_cases h44 : peekP X (whiteN X a1) = 44
      · rw [if_pos h44] at h
        have hlt := (peekP_some h44 (by decide)).2
        obtain ⟨i1, i2, l, rfl, i4⟩ := listP_agree hi hc f _ _ _ _ _ _ (by omega) h
        refine ⟨by omega, i2, x :: l, by simp, fun hZ f' n' hf => ?_⟩
        have hl := agree_len hZ i2
        obtain ⟨j, rfl⟩ : ∃ j, f' = j + 1 := ⟨f' - 1, by omega⟩
        have h5 := h3 (agree_mono hZ (by omega)) (agree_get hZ (by omega)) n'
        rw [listP, foldE]
        cases hg : g n' x with
        | error e => rw [hg] at h5; obtain ⟨p, h5⟩ := h5; rw [h5]; exact ⟨p, rfl⟩
        | ok n2 =>
          rw [hg] at h5
          have h5 : it' s k n' = .ok (s ++ [x]) a1 n2 := h5
          rw [h5]
          simp only
          rw [white_agree h2 hZ i2 (by omega), if_pos (by rw [agree_peek hZ (by omega)]; exact h44)]
          exact i4 hZ j n2 (by omega)
      · rw [if_neg h44] at h
        by_cases hcl : X[whiteN X a1]? = some close
        · rw [if_pos hcl] at h
          simp only [PR.ok.injEq] at h
          obtain ⟨rfl, rfl, rfl⟩ := h
          obtain ⟨hlt, _⟩ := List.getElem?_eq_some_iff.1 hcl
          refine ⟨by omega, by omega, [x], rfl, fun hZ f' n' hf => ?_⟩
          have hl := agree_len hZ (by omega)
          obtain ⟨j, rfl⟩ : ∃ j, f' = j + 1 := ⟨f' - 1, by omega⟩
          have h5 := h3 (agree_mono hZ (by omega)) (agree_get hZ (by omega)) n'
          rw [listP, foldE]
          cases hg : g n' x with
          | error e => rw [hg] at h5; obtain ⟨p, h5⟩ := h5; rw [h5]; exact ⟨p, rfl⟩
          | ok n2 =>
            rw [hg] at h5
            have h5 : it' s k n' = .ok (s ++ [x]) a1 n2 := h5
            rw [h5]
            simp only
            rw [white_agree h2 hZ (by omega) (by omega), if_neg (by rw [agree_peek hZ (by omega)]; exact h44), if_pos (by rw [agree_get hZ (by omega)]; exact hcl)]
            rw [foldE]
            exact rfl
        · rw [if_neg hcl] at h; cases h
theorem openP_agree {ι : Type} {X Z : List UInt8} {close : UInt8} {it it' : List ι → Nat → Nat → PR (List ι)} {g : Nat → ι → Except Int Nat} (hi : ItemOk X Z it it' g) (hc : close ≠ 0) {k n a m : Nat} {s' : List ι} (hk : k < X.length) (h : openP X close it [] k n = .ok s' a m) :
    k < a ∧ a ≤ X.length ∧ (Z.take a = X.take a → ∀ n', SameR (openP Z close it' [] k n') (foldE g n' s') s' a) := by
  rw [openP] at h
  have hk1 : k + 1 ≤ X.length := hk
  have hw1 := whiteN_ge X (k + 1) hk1
  by_cases hcl : peekP X (whiteN X (k + 1)) = close
  · rw [if_pos hcl] at h
    simp only [PR.ok.injEq] at h
    obtain ⟨rfl, rfl, rfl⟩ := h
    have hlt := (peekP_some hcl hc).2
    refine ⟨by omega, by omega, fun hZ n' => ?_⟩
    rw [openP, white_agree hk1 hZ (by omega) (by omega), if_pos (by rw [agree_peek hZ (by omega)]; exact hcl), foldE]
    exact rfl
  · rw [if_neg hcl] at h
    obtain ⟨i1, i2, l, h3, i4⟩ := listP_agree hi hc _ _ _ _ _ _ _ (whiteN_le X (k + 1)) h
    simp only [List.nil_append] at h3
    subst h3
    refine ⟨by omega, i2, fun hZ n' => ?_⟩
    rw [openP, white_agree hk1 hZ i2 (by omega), if_neg (by rw [agree_peek hZ (by omega)]; exact hcl)]
    exact i4 hZ _ n' (by omega)
theorem fitT_leaf {deep n : Nat} {k : Int} {b : Bool} {d : Num} {s : List UInt8} (hk : k < 4) : fitT deep n (.mk k b d s [] []) = if 4096 < n + 1 then .error 4 else .ok (n + 1) := by
  rw [fitT, fitL]
  show (if 4096 < n + 1 then Except.error 4 else if 4 ≤ k ∧ 64 ≤ deep then .error 3 else fitM (deep + 1) (n + 1) []) = _
  rw [fitM, if_neg (c := 4 ≤ k ∧ 64 ≤ deep) (fun h => by omega)]
theorem fitT_arr {deep n : Nat} (l : List Tree) : fitT deep n (tArr l) = if 4096 < n + 1 then .error 4 else if 64 ≤ deep then .error 3 else foldE (fun n t => fitT (deep + 1) n t) (n + 1) l := by
  rw [tArr, fitT, ← fitL_fold]
  congr 1
  simp only [show (4 : Int) ≤ 4 from by decide, true_and]
  congr 1
  cases fitL (deep + 1) (n + 1) l with
  | error e => rfl
  | ok n' => show fitM (deep + 1) n' [] = _; rw [fitM]
theorem fitT_obj {deep n : Nat} (l : List (List UInt8 × Tree)) : fitT deep n (tObj l) = if 4096 < n + 1 then .error 4 else if 64 ≤ deep then .error 3 else foldE (fun n p => fitT (deep + 1) n p.2) (n + 1) l := by
  rw [tObj, fitT, ← fitM_fold, fitL]
  simp only [show (4 : Int) ≤ 5 from by decide, true_and]
/-- how a value ends is said by the text there -/
def Cut (X Z : List UInt8) (a : Nat) (t : Tree) : Prop := t.kind ≠ 2 ∨ Z[a]? = X[a]? ∨ ∀ c, Z[a]? = some c → isFig c = false
theorem numP_agree {X Z : List UInt8} {k n n' a m : Nat} {t : Tree} (hk : k ≤ X.length) (h : numP X k n = .ok t a m) : k ≤ a ∧ a ≤ X.length ∧ t.kind = 2 ∧ m = n ∧ (Z.take a = X.take a → Cut X Z a t → numP Z k n' = .ok t a n') := by
  unfold numP at h
  simp only at h
  have hb := numEnd_bd X k hk
  split at h
  · rename_i hd
    simp only [PR.ok.injEq] at h
    obtain ⟨rfl, rfl, rfl⟩ := h
    refine ⟨hb.1, hb.2, rfl, rfl, fun hZ hcut => ?_⟩
    have he : numEnd Z k = numEnd X k := by
      refine endQ_agree hk hZ hb.2 (Nat.le_refl _) (.inr ?_)
      rcases hcut with h1 | h1 | h1
      · exact absurd rfl h1
      · have := (endQ_spec isFig X _ k rfl hk).2.2.2
        show ∀ c, Z[numEnd X k]? = some c → isFig c = false
        rw [h1]; exact this
      · exact h1
    unfold numP
    simp only
    rw [he, agree_drop (X := X) (Z := Z) (k := k) (a := numEnd X k - k) (by rw [show k + (numEnd X k - k) = numEnd X k by omega]; exact hZ), if_pos hd]
  · cases h
theorem wordP_agree {X Z s : List UInt8} {t t' : Tree} {k n n' a m : Nat} (hk : k ≤ X.length) (h : wordP X s t' k n = .ok t a m) : a = k + s.length ∧ a ≤ X.length ∧ t = t' ∧ m = n ∧ (Z.take a = X.take a → wordP Z s t' k n' = .ok t a n') := by
  unfold wordP at h
  split at h
  · rename_i hs
    simp only [PR.ok.injEq] at h
    obtain ⟨rfl, rfl, rfl⟩ := h
    have hl := congrArg List.length hs
    simp only [List.length_take, List.length_drop] at hl
    refine ⟨rfl, by omega, rfl, rfl, fun hZ => ?_⟩
    unfold wordP
    rw [agree_drop hZ, if_pos hs]
  · cases h
theorem valueP_agree {X Z : List UInt8} : ∀ (f deep k n : Nat) (t : Tree) (a m : Nat), k ≤ X.length → valueP X f deep k n = .ok t a m →
    k < a ∧ a ≤ X.length ∧ (Z.take a = X.take a → Cut X Z a t → ∀ f' deep' n', 65 ≤ f' + deep' → deep' ≤ 64 → SameR (valueP Z f' deep' k n') (fitT deep' n' t) t a)
  | 0, deep, k, n, t, a, m, hk, h => by rw [valueP] at h; cases h
  | f + 1, deep, k, n, t, a, m, hk, h => by
    rw [valueP] at h
    have hw1 := whiteN_ge X k hk
    by_cases hb : peekP X (whiteN X k) ≠ 0 ∧ begs.contains (peekP X (whiteN X k)) = true
    case neg => rw [if_pos hb] at h; cases h
    rw [if_neg (by simpa using hb)] at h
    by_cases hn : 4096 < n + 1
    case pos => rw [if_pos hn] at h; cases h
    rw [if_neg hn] at h
    have hlt : whiteN X k < X.length := (peekP_some rfl hb.1).2
    -- what Z does, as soon as it agrees behind white
    have hpz : whiteN X k < a → a ≤ X.length → Z.take a = X.take a → whiteN Z k = whiteN X k ∧ peekP Z (whiteN X k) = peekP X (whiteN X k) := fun h1 h2 hZ => ⟨white_agree hk hZ h2 h1, agree_peek hZ h1⟩
    generalize hp : whiteN X k = p at *
    generalize hc : peekP X p = c at *
    -- a leaf that ends at a: what its parse says of any text that agrees
    have hleaf : ∀ (r : List UInt8 → Nat → PR Tree), p < a → a ≤ X.length → (∀ (f' deep' n' : Nat), ¬ 4096 < n' + 1 → (whiteN Z k = p ∧ peekP Z p = c) → valueP Z (f' + 1) deep' k n' = r Z (n' + 1)) → (∃ kk b d s, t = .mk kk b d s [] [] ∧ kk < 4) → (Z.take a = X.take a → Cut X Z a t → ∀ n', r Z n' = .ok t a n') →
        (Z.take a = X.take a → Cut X Z a t → ∀ f' deep' n', 65 ≤ f' + deep' → deep' ≤ 64 → SameR (valueP Z f' deep' k n') (fitT deep' n' t) t a) := fun r h1 h2 h3 ht h4 hZ hcut f' deep' n' hf hd => by
      obtain ⟨j, rfl⟩ : ∃ j, f' = j + 1 := ⟨f' - 1, by omega⟩
      obtain ⟨kk, b, d, s, rfl, hkk⟩ := ht
      have hz := hpz h1 h2 hZ
      rw [fitT_leaf hkk]
      by_cases hn' : 4096 < n' + 1
      · rw [if_pos hn', valueP, hz.1, hz.2, if_neg (by simpa using hb), if_pos hn']
        exact ⟨_, rfl⟩
      · rw [if_neg hn', h3 j deep' n' hn' hz, h4 hZ hcut]
        exact rfl
    by_cases h116 : c = 116
    · rw [if_pos h116] at h
      obtain ⟨i1, i2, i3, i4, i5⟩ := wordP_agree (Z := Z) (n' := 0) (Nat.le_of_lt hlt) h
      refine ⟨by simp at i1; omega, i2, hleaf (fun Z n' => wordP Z [116, 114, 117, 101] (tBool true) p n') (by simp at i1; omega) i2 (fun f' deep' n' hn' hz => ?_) ⟨1, true, Num.zero, [], i3, by decide⟩ (fun hZ _ n' => (wordP_agree (Z := Z) (n' := n') (Nat.le_of_lt hlt) h).2.2.2.2 hZ)⟩
      rw [valueP, hz.1, hz.2, if_neg (by simpa using hb), if_neg hn', if_pos h116]
    rw [if_neg h116] at h
    by_cases h102 : c = 102
    · rw [if_pos h102] at h
      obtain ⟨i1, i2, i3, i4, i5⟩ := wordP_agree (Z := Z) (n' := 0) (Nat.le_of_lt hlt) h
      refine ⟨by simp at i1; omega, i2, hleaf (fun Z n' => wordP Z [102, 97, 108, 115, 101] (tBool false) p n') (by simp at i1; omega) i2 (fun f' deep' n' hn' hz => ?_) ⟨1, false, Num.zero, [], i3, by decide⟩ (fun hZ _ n' => (wordP_agree (Z := Z) (n' := n') (Nat.le_of_lt hlt) h).2.2.2.2 hZ)⟩
      rw [valueP, hz.1, hz.2, if_neg (by simpa using hb), if_neg hn', if_neg h116, if_pos h102]
    rw [if_neg h102] at h
    by_cases h110 : c = 110
    · rw [if_pos h110] at h
      obtain ⟨i1, i2, i3, i4, i5⟩ := wordP_agree (Z := Z) (n' := 0) (Nat.le_of_lt hlt) h
      refine ⟨by simp at i1; omega, i2, hleaf (fun Z n' => wordP Z [110, 117, 108, 108] tNull p n') (by simp at i1; omega) i2 (fun f' deep' n' hn' hz => ?_) ⟨0, false, Num.zero, [], i3, by decide⟩ (fun hZ _ n' => (wordP_agree (Z := Z) (n' := n') (Nat.le_of_lt hlt) h).2.2.2.2 hZ)⟩
      rw [valueP, hz.1, hz.2, if_neg (by simpa using hb), if_neg hn', if_neg h116, if_neg h102, if_pos h110]
    rw [if_neg h110] at h
    by_cases h34 : c = 34
    · rw [if_pos h34] at h
      obtain ⟨u, h1, rfl⟩ := PR.map_ok h
      obtain ⟨i1, i2, i3, i4⟩ := textP_agree (Z := Z) (n' := 0) h1
      refine ⟨by omega, i2, hleaf (fun Z n' => (textP Z p n').map tStr) i1 i2 (fun f' deep' n' hn' hz => ?_) ⟨3, false, Num.zero, u, rfl, by decide⟩ (fun hZ _ n' => by rw [(textP_agree (Z := Z) (n' := n') h1).2.2.2 hZ]; rfl)⟩
      rw [valueP, hz.1, hz.2, if_neg (by simpa using hb), if_neg hn', if_neg h116, if_neg h102, if_neg h110, if_pos h34]
    rw [if_neg h34] at h
    by_cases h91 : c = 91
    · rw [if_pos h91] at h
      by_cases hdp : 64 ≤ deep
      · rw [if_pos hdp] at h; cases h
      rw [if_neg hdp] at h
      obtain ⟨u, h1, rfl⟩ := PR.map_ok h
      have hit : ∀ f' deep', 65 ≤ f' + deep' → deep' ≤ 64 → ItemOk X Z (itemA (valueP X f (deep + 1))) (itemA (valueP Z f' deep')) (fun n t => fitT deep' n t) := fun f' deep' hf hd s k n s1 a1 m1 hk hr => by
        unfold itemA at hr
        obtain ⟨x, h2, rfl⟩ := PR.map_ok hr
        obtain ⟨j1, j2, j3⟩ := valueP_agree (Z := Z) f _ _ _ _ _ _ hk h2
        exact ⟨x, rfl, Nat.le_of_lt j1, j2, fun hZ hg n' => (j3 hZ (.inr (.inl hg)) f' deep' n' hf hd).map⟩
      obtain ⟨i1, i2, _⟩ := openP_agree (hit 65 0 (by omega) (by omega)) (by decide) hlt h1
      refine ⟨by omega, i2, fun hZ hcut f' deep' n' hf hd => ?_⟩
      obtain ⟨j, rfl⟩ : ∃ j, f' = j + 1 := ⟨f' - 1, by omega⟩
      have hz := hpz i1 i2 hZ
      rw [valueP, hz.1, hz.2, if_neg (by simpa using hb), fitT_arr]
      by_cases hn' : 4096 < n' + 1
      · rw [if_pos hn', if_pos hn']; exact ⟨_, rfl⟩
      rw [if_neg hn', if_neg hn', if_neg h116, if_neg h102, if_neg h110, if_neg h34, if_pos h91]
      by_cases hd' : 64 ≤ deep'
      · rw [if_pos hd', if_pos hd']; exact ⟨_, rfl⟩
      rw [if_neg hd', if_neg hd']
      exact ((openP_agree (hit j (deep' + 1) (by omega) (by omega)) (by decide) hlt h1).2.2 hZ (n' + 1)).map
    rw [if_neg h91] at h
    by_cases h123 : c = 123
    · rw [if_pos h123] at h
      by_cases hdp : 64 ≤ deep
      · rw [if_pos hdp] at h; cases h
      rw [if_neg hdp] at h
      obtain ⟨u, h1, rfl⟩ := PR.map_ok h
      have hit : ∀ f' deep', 65 ≤ f' + deep' → deep' ≤ 64 → ItemOk X Z (itemO X (valueP X f (deep + 1))) (itemO Z (valueP Z f' deep')) (fun n p => fitT deep' n p.2) := fun f' deep' hf hd s k n s1 a1 m1 hk hr => by
        unfold itemO at hr
        cases ht : textP X (whiteN X k) n with
        | err e b => rw [ht] at hr; cases hr
        | ok key a2 n2 =>
          rw [ht] at hr
          simp only at hr
          obtain ⟨q1, q2, q3, _⟩ := textP_agree (Z := Z) (n' := 0) ht
          have hwk := whiteN_ge X k hk
          have hw2 := whiteN_ge X a2 q2
          split at hr
          · cases hr
          rename_i hany
          split at hr
          · rename_i h58
            obtain ⟨hl58, _⟩ := List.getElem?_eq_some_iff.1 h58
            obtain ⟨x, h2, rfl⟩ := PR.map_ok hr
            obtain ⟨j1, j2, j3⟩ := valueP_agree (Z := Z) f _ _ _ _ _ _ (by omega) h2
            refine ⟨(key, x), rfl, by omega, j2, fun hZ hg n' => ?_⟩
            unfold itemO
            rw [white_agree hk hZ j2 (by omega), (textP_agree (Z := Z) (n' := n') ht).2.2.2 (agree_mono hZ (by omega))]
            simp only
            rw [if_neg hany, white_agree q2 hZ j2 (by omega), if_pos (by rw [agree_get hZ (by omega)]; exact h58)]
            exact (j3 hZ (.inr (.inl hg)) f' deep' n' hf hd).map
          · cases hr
      obtain ⟨i1, i2, _⟩ := openP_agree (hit 65 0 (by omega) (by omega)) (by decide) hlt h1
      refine ⟨by omega, i2, fun hZ hcut f' deep' n' hf hd => ?_⟩
      obtain ⟨j, rfl⟩ : ∃ j, f' = j + 1 := ⟨f' - 1, by omega⟩
      have hz := hpz i1 i2 hZ
      rw [valueP, hz.1, hz.2, if_neg (by simpa using hb), fitT_obj]
      by_cases hn' : 4096 < n' + 1
      · rw [if_pos hn', if_pos hn']; exact ⟨_, rfl⟩
      rw [if_neg hn', if_neg hn', if_neg h116, if_neg h102, if_neg h110, if_neg h34, if_neg h91, if_pos h123]
      by_cases hd' : 64 ≤ deep'
      · rw [if_pos hd', if_pos hd']; exact ⟨_, rfl⟩
      rw [if_neg hd', if_neg hd']
      exact ((openP_agree (hit j (deep' + 1) (by omega) (by omega)) (by decide) hlt h1).2.2 hZ (n' + 1)).map
    rw [if_neg h123] at h
    · obtain ⟨i1, i2, i3, i4, _⟩ := numP_agree (Z := Z) (n' := 0) (Nat.le_of_lt hlt) h
      have hpa : p < a := by
        rcases Nat.lt_or_eq_of_le i1 with h' | h'
        · exact h'
        · exfalso
          -- a number's text is not empty
          unfold numP at h
          simp only at h
          split at h
          · rename_i hd
            simp only [PR.ok.injEq] at h
            obtain ⟨_, e, _⟩ := h
            rw [e, ← h', Nat.sub_self, List.take_zero] at hd
            exact absurd hd (by decide)
          · cases h
      refine ⟨by omega, i2, hleaf (fun Z n' => numP Z p n') hpa i2 (fun f' deep' n' hn' hz => ?_) ?_ (fun hZ hcut n' => (numP_agree (Z := Z) (n' := n') (Nat.le_of_lt hlt) h).2.2.2.2 hZ hcut)⟩
      · rw [valueP, hz.1, hz.2, if_neg (by simpa using hb), if_neg hn', if_neg h116, if_neg h102, if_neg h110, if_neg h34, if_neg h91, if_neg h123]
      · unfold numP at h
        simp only at h
        split at h
        · simp only [PR.ok.injEq] at h
          exact ⟨2, false, _, [], h.1.symm, by decide⟩
        · cases h
end Go.Proofs.YtckpndbmpigegaaDoor
