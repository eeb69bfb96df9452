/- parse: white ahead of a value and behind it says nothing (plain). -/
import Derived.Test.YtckpndbmpigegaaDoorPaAg
set_option linter.unusedVariables false
set_option linter.unusedSimpArgs false
set_option maxRecDepth 100000
namespace Go.Proofs.YtckpndbmpigegaaDoor
open Go.RowKit Go.Mem Orange
theorem enc_tail (r : Int) (i : Nat) (c : UInt8) (h1 : 1 ≤ i) (h2 : (enc r)[i]? = some c) : 128 ≤ c.toNat := by
  have hb : ∀ n : Int, (byte (128 + n % 64)).toNat = (128 + n % 64).toNat := fun n => byte_toNat (by omega) (by omega)
  obtain ⟨j, rfl⟩ : ∃ j, i = j + 1 := ⟨i - 1, by omega⟩
  unfold enc at h2
  split at h2
  · simp at h2
  split at h2
  · match j, h2 with
    | 0, h2 => simp at h2; subst h2; rw [hb]; omega
  split at h2
  · match j, h2 with
    | 0, h2 => simp at h2; subst h2; rw [hb]; omega
    | 1, h2 => simp at h2; subst h2; rw [hb]; omega
  · match j, h2 with
    | 0, h2 => simp at h2; subst h2; rw [hb]; omega
    | 1, h2 => simp at h2; subst h2; rw [hb]; omega
    | 2, h2 => simp at h2; subst h2; rw [hb]; omega
theorem next_cont {Y : List UInt8} (h : 0 < (next Y).2) (i : Nat) (c : UInt8) (h1 : 1 ≤ i) (h2 : i < (next Y).2) (hc : Y[i]? = some c) : 128 ≤ c.toNat := by
  rcases next_spec Y with h0 | ⟨hs, hn, t, ht⟩
  · rw [h0] at h; exact absurd h (by decide)
  · generalize hP : next Y = P at *
    obtain ⟨r, n⟩ := P
    simp only at hs hn ht h2
    rw [ht, List.getElem?_append_left (by omega)] at hc
    exact enc_tail r i c h1 hc
theorem hexN_no9 : ∀ (l : List UInt8) (v r : Int), hexN l v = some r → (9 : UInt8) ∉ l
  | [], _, _, _ => by simp
  | c :: t, v, r, h => by
    rw [hexN] at h
    split at h
    · cases h
    · rename_i hd
      intro hm
      rcases List.mem_cons.1 hm with h9 | h9
      · subst h9; exact absurd hd (by decide)
      · exact hexN_no9 t _ r h h9
theorem unit_no9 {Y : List UInt8} {v : Int} (h : unit Y = some v) : (9 : UInt8) ∉ Y.take 5 := by
  cases Y with
  | nil => cases h
  | cons u t =>
    simp only [unit] at h
    split at h
    · cases h
    · rename_i hc
      intro hm
      rw [List.take_succ_cons] at hm
      rcases List.mem_cons.1 hm with h9 | h9
      · subst h9; exact absurd hc (by simp)
      · exact hexN_no9 _ _ _ h h9
theorem pair_no9 {Y : List UInt8} {v r : Int} (h : pair v Y = some r) : (9 : UInt8) ∉ Y.take 6 := by
  cases Y with
  | nil => cases h
  | cons u t =>
    simp only [pair] at h
    split at h
    · cases h
    · rename_i hc
      intro hm
      rw [List.take_succ_cons] at hm
      rcases List.mem_cons.1 hm with h9 | h9
      · subst h9; exact absurd hc (by simp)
      · cases hu : unit t with
        | none => rw [hu] at h; cases h
        | some w => exact unit_no9 hu h9
theorem escape_no9 {Y : List UInt8} (h : 0 < (escape Y).2) : (9 : UInt8) ∉ Y.take (escape Y).2 := by
  cases Y with
  | nil => exact absurd h (by decide)
  | cons c t =>
    simp only [escape] at h ⊢
    by_cases h1 : (decide (c = 34) || decide (c = 47) || decide (c = 92)) = true
    · rw [if_pos h1]
      intro hm
      simp at hm
      subst hm
      exact absurd h1 (by decide)
    rw [if_neg h1] at h ⊢
    by_cases h2 : (decide (c = 98) || decide (c = 116) || decide (c = 110) || decide (c = 102) || decide (c = 114)) = true
    · rw [if_pos h2]
      intro hm
      simp at hm
      subst hm
      exact absurd h2 (by decide)
    rw [if_neg h2] at h ⊢
    cases hu : unit (c :: t) with
    | none => rw [hu] at h; exact absurd h (Nat.lt_irrefl 0)
    | some v =>
      rw [hu] at h
      simp only at h ⊢
      have h5 := unit_no9 hu
      by_cases hs : sound v = true
      · rw [if_pos hs]; exact h5
      · rw [if_neg hs] at h ⊢
        cases hp : pair v (t.drop 4) with
        | none => rw [hp] at h; exact absurd h (Nat.lt_irrefl 0)
        | some r =>
          have h6 := pair_no9 hp
          simp only
          intro hm
          rw [List.take_succ_cons] at hm h5
          rw [show (10 : Nat) = 4 + 6 from rfl, List.take_add] at hm
          simp only [List.mem_cons, List.mem_append] at hm h5
          rcases hm with h9 | h9 | h9
          · exact h5 (.inl h9)
          · exact h5 (.inr h9)
          · exact h6 h9
/-- white that begins with a tab -/
structure Tail (s : List UInt8) : Prop where
  white : ∀ c ∈ s, isWhite c = true
  first : s.head? = some 9
theorem Tail.nofig {s : List UInt8} (h : Tail s) {X : List UInt8} {c : UInt8} (hc : (X ++ s)[X.length]? = some c) : c = 9 := by
  have := h.first
  rw [List.getElem?_append_right (Nat.le_refl _), Nat.sub_self, ← List.head?_eq_getElem?, this] at hc
  exact (Option.some.inj hc).symm
theorem app_agree (X s : List UInt8) {a : Nat} (h : a ≤ X.length) : (X ++ s).take a = X.take a := by
  rw [List.take_append_of_le_length h]
theorem app_get (X s : List UInt8) {a : Nat} (h : a < X.length) : (X ++ s)[a]? = X[a]? := List.getElem?_append_left h
theorem app_cut {s : List UInt8} (hs : Tail s) (X : List UInt8) {a : Nat} (h : a ≤ X.length) (t : Tree) : Cut X (X ++ s) a t := by
  rcases Nat.lt_or_eq_of_le h with h' | h'
  · exact .inr (.inl (app_get X s h'))
  · refine .inr (.inr fun c hc => ?_)
    subst h'
    rw [hs.nofig hc]; decide
theorem app_white_lt {X s : List UInt8} {k : Nat} (hk : k ≤ X.length) (h : whiteN X k < X.length) : whiteN (X ++ s) k = whiteN X k :=
  white_agree hk (app_agree X s (Nat.le_refl _)) (Nat.le_refl _) h
theorem app_white_end {X s : List UInt8} (hs : Tail s) {k : Nat} (hk : k ≤ X.length) (h : ¬ whiteN X k < X.length) : whiteN (X ++ s) k = (X ++ s).length := by
  obtain ⟨h1, h2, h3, h4⟩ := endQ_spec isWhite X _ k rfl hk
  have he : endQ isWhite X k = X.length := by have : endQ isWhite X k = whiteN X k := rfl; omega
  rw [he] at h3
  refine endQ_unique ((X ++ s).length - k) k _ (by simp; omega) (Nat.le_refl _) (fun i h5 h6 => ?_) (fun c h5 => ?_)
  · by_cases hi : i < X.length
    · rw [app_get X s hi]; exact h3 i h5 hi
    · have hj : i - X.length < s.length := by simp at h6; omega
      refine ⟨s[i - X.length], ?_, hs.white _ (List.getElem_mem hj)⟩
      rw [List.getElem?_append_right (by omega)]
      simp [hj]
  · rw [List.getElem?_eq_none (Nat.le_refl _)] at h5; cases h5
theorem app_peek (X s : List UInt8) {a : Nat} (h : a < X.length) : peekP (X ++ s) a = peekP X a := by
  unfold peekP; rw [List.getD_eq_getElem?_getD, List.getD_eq_getElem?_getD, app_get X s h]
theorem app_end (X s : List UInt8) : peekP (X ++ s) (X ++ s).length = 0 := peekP_ge (by omega)
/-- an error stays; its place too, or it is the end -/
def WErr {α : Type} (X Z : List UInt8) (r r' : PR α) : Prop := ∀ e p, r = .err e p → ∃ p', r' = .err e p' ∧ (p' = p ∨ p' = Z.length)
theorem WErr.map {α β : Type} {f : α → β} {X Z : List UInt8} {r r' : PR α} (h : WErr X Z r r') : WErr X Z (r.map f) (r'.map f) := by
  intro e p hr
  cases r with
  | ok v a n => cases hr
  | err e0 p0 =>
    obtain ⟨rfl, rfl⟩ : e0 = e ∧ p0 = p := by simpa [PR.map] using hr
    obtain ⟨p', h1, h2⟩ := h e0 p0 rfl
    exact ⟨p', by rw [h1]; rfl, h2⟩
theorem next_app {s Y : List UInt8} (hs : Tail s) (hY : Y ≠ []) (h : (next Y).2 = 0) : (next (Y ++ s)).2 = 0 := by
  rcases Nat.eq_zero_or_pos (next (Y ++ s)).2 with h0 | h0
  · exact h0
  exfalso
  by_cases hl : (next (Y ++ s)).2 ≤ Y.length
  · have := next_agree (X := Y ++ s) (Z := Y) h0 (by rw [List.take_append_of_le_length hl])
    rw [this] at h
    omega
  · have hp : 0 < Y.length := List.length_pos_iff.2 hY
    have h9 : (Y ++ s)[Y.length]? = some 9 := by
      rw [List.getElem?_append_right (Nat.le_refl _), Nat.sub_self, ← List.head?_eq_getElem?, hs.first]
    exact absurd (next_cont h0 Y.length 9 hp (by omega) h9) (by decide)
theorem escape_app {s Y : List UInt8} (hs : Tail s) (h : (escape Y).2 = 0) : (escape (Y ++ s)).2 = 0 := by
  rcases Nat.eq_zero_or_pos (escape (Y ++ s)).2 with h0 | h0
  · exact h0
  exfalso
  by_cases hl : (escape (Y ++ s)).2 ≤ Y.length
  · have := escape_agree (X := Y ++ s) (Z := Y) h0 (by rw [List.take_append_of_le_length hl])
    rw [this] at h
    omega
  · have h9 : (Y ++ s)[Y.length]? = some 9 := by
      rw [List.getElem?_append_right (Nat.le_refl _), Nat.sub_self, ← List.head?_eq_getElem?, hs.first]
    refine escape_no9 h0 (List.mem_of_getElem? (i := Y.length) ?_)
    rw [List.getElem?_take, if_pos (by omega), h9]
theorem drop_app {X s : List UInt8} {k : Nat} (h : k ≤ X.length) : (X ++ s).drop k = X.drop k ++ s := List.drop_append_of_le_length h
theorem textL_werr {X s : List UInt8} (hs : Tail s) (n : Nat) : ∀ (f f' k : Nat) (out : List UInt8), k ≤ X.length → X.length < k + f → (X ++ s).length < k + f' → WErr X (X ++ s) (textL X n f k out) (textL (X ++ s) n f' k out)
  | 0, f', k, out, hk, h1, h2 => by omega
  | f + 1, 0, k, out, hk, h1, h2 => by rw [List.length_append] at h2; omega
  | f + 1, f' + 1, k, out, hk, h1, h2 => by
    intro e p h
    rw [textL] at h
    by_cases hlt : k < X.length
    case neg =>
      have hkx : k = X.length := by omega
      rw [peekP_ge hlt, if_neg (by decide), List.drop_of_length_le (by omega)] at h
      rw [if_pos (by decide)] at h
      simp only [PR.err.injEq] at h
      obtain ⟨rfl, rfl⟩ := h
      refine ⟨k, ?_, .inl rfl⟩
      have h9 : (X ++ s)[k]? = some 9 := by
        rw [hkx, List.getElem?_append_right (Nat.le_refl _), Nat.sub_self, ← List.head?_eq_getElem?, hs.first]
      have hd : (X ++ s).drop k = 9 :: s.tail := by
        rw [drop_app hk, List.drop_of_length_le (by omega), List.nil_append]
        cases s with
        | nil => exact absurd hs.first (by simp)
        | cons a b => have := hs.first; simp at this; rw [this]; rfl
      rw [textL, if_neg (by unfold peekP; rw [List.getD_eq_getElem?_getD, h9]; decide), hd, if_pos (by simp [next])]
    rw [textL, app_peek X s hlt, drop_app hk]
    by_cases h34 : peekP X k = 34
    · rw [if_pos h34] at h; cases h
    rw [if_neg h34] at h
    rw [if_neg h34]
    by_cases hne : 0 < (next (X.drop k)).2 ∧ 32 ≤ (next (X.drop k)).1
    · rw [if_neg (fun h => h hne)] at h
      have hnl := (next_le (X.drop k)).2
      have hn : next (X.drop k ++ s) = next (X.drop k) := next_agree hne.1 (by rw [List.take_append_of_le_length hnl])
      rw [List.length_drop] at hnl
      rw [hn, if_neg (fun h => h hne)]
      by_cases h92 : (next (X.drop k)).1 = 92
      · rw [if_pos h92] at h
        rw [if_pos h92, drop_app (by omega)]
        by_cases hes : 0 < (escape (X.drop (k + 1))).2
        · rw [if_neg (fun h => h hes)] at h
          have hel := escape_le (X.drop (k + 1))
          have he : escape (X.drop (k + 1) ++ s) = escape (X.drop (k + 1)) := escape_agree hes (by rw [List.take_append_of_le_length hel])
          rw [List.length_drop] at hel
          rw [he, if_neg (fun h => h hes)]
          exact textL_werr hs n f f' _ _ (by omega) (by omega) (by omega) e p h
        · rw [if_pos hes] at h
          rw [if_pos (by rw [escape_app hs (by omega)]; decide)]
          exact ⟨p, h, .inl rfl⟩
      · rw [if_neg h92] at h
        rw [if_neg h92]
        exact textL_werr hs n f f' _ _ (by omega) (by omega) (by omega) e p h
    · rw [if_pos hne] at h
      have hne2 : ¬ (0 < (next (X.drop k ++ s)).2 ∧ 32 ≤ (next (X.drop k ++ s)).1) := by
        rcases Nat.eq_zero_or_pos (next (X.drop k)).2 with h0 | h0
        · rw [next_app hs (fun e => by have := congrArg List.length e; simp at this; omega) h0]; omega
        · have hn : next (X.drop k ++ s) = next (X.drop k) := next_agree h0 (by rw [List.take_append_of_le_length (next_le _).2])
          rw [hn]; exact hne
      rw [if_pos hne2]
      exact ⟨p, h, .inl rfl⟩
theorem textP_werr {X s : List UInt8} (hs : Tail s) {k n : Nat} (hk : k < X.length) : WErr X (X ++ s) (textP X k n) (textP (X ++ s) k n) := by
  unfold textP
  rw [app_get X s hk]
  split
  · exact textL_werr hs n _ _ _ _ hk (by omega) (by rw [List.length_append]; omega)
  · exact fun e p h => ⟨p, h, .inl rfl⟩
/-- an item's law -/
structure ItemW {ι : Type} (X Z : List UInt8) (it it' : List ι → Nat → Nat → PR (List ι)) : Prop where
  good : ∀ s k n s1 a1 m1, k ≤ X.length → it s k n = .ok s1 a1 m1 → a1 ≤ X.length ∧ it' s k n = .ok s1 a1 m1 ∧ k ≤ a1
  bad : ∀ s k n, k ≤ X.length → WErr X Z (it s k n) (it' s k n)
theorem listP_werr {ι : Type} {X s : List UInt8} (hs : Tail s) {close : UInt8} (hc : close ≠ 0) {it it' : List ι → Nat → Nat → PR (List ι)} (hi : ItemW X (X ++ s) it it') : ∀ (f f' : Nat) (acc : List ι) (k n : Nat), k ≤ X.length → X.length < k + f → (X ++ s).length < k + f' → WErr X (X ++ s) (listP X close it f acc k n) (listP (X ++ s) close it' f' acc k n)
  | 0, f', acc, k, n, hk, h1, h2 => by omega
  | f + 1, 0, acc, k, n, hk, h1, h2 => by rw [List.length_append] at h2; omega
  | f + 1, f' + 1, acc, k, n, hk, h1, h2 => by
    intro e p h
    rw [listP] at h
    rw [listP]
    cases hr : it acc k n with
    | err e0 p0 =>
      rw [hr] at h
      simp only [PR.err.injEq] at h
      obtain ⟨rfl, rfl⟩ := h
      obtain ⟨p', h3, h4⟩ := hi.bad acc k n hk _ _ hr
      rw [h3]
      exact ⟨p', rfl, h4⟩
    | ok s1 a1 m1 =>
      rw [hr] at h
      simp only at h
      obtain ⟨h3, h4, h5⟩ := hi.good _ _ _ _ _ _ hk hr
      have hw := whiteN_ge X a1 h3
      rw [h4]
      simp only
      by_cases hlt : whiteN X a1 < X.length
      · rw [app_white_lt h3 hlt, app_peek X s hlt, app_get X s hlt]
        by_cases h44 : peekP X (whiteN X a1) = 44
        · rw [if_pos h44] at h
          rw [if_pos h44]
          exact listP_werr hs hc hi f f' _ _ _ hlt (by omega) (by omega) e p h
        rw [if_neg h44] at h
        rw [if_neg h44]
        by_cases hcl : X[whiteN X a1]? = some close
        · rw [if_pos hcl] at h; cases h
        rw [if_neg hcl] at h
        rw [if_neg hcl]
        exact ⟨p, h, .inl rfl⟩
      · rw [app_white_end hs h3 hlt, app_end, if_neg (by decide), List.getElem?_eq_none (Nat.le_refl _), if_neg (by simp)]
        rw [peekP_ge hlt, if_neg (by decide), List.getElem?_eq_none (by omega), if_neg (by simp)] at h
        simp only [PR.err.injEq] at h
        obtain ⟨rfl, rfl⟩ := h
        exact ⟨_, rfl, .inr rfl⟩
theorem openP_werr {ι : Type} {X s : List UInt8} (hs : Tail s) {close : UInt8} (hc : close ≠ 0) {it it' : List ι → Nat → Nat → PR (List ι)} (hi : ItemW X (X ++ s) it it')
    (hend : ∀ acc n, ∃ e, it acc X.length n = .err e X.length ∧ it' acc (X ++ s).length n = .err e (X ++ s).length) {acc : List ι} {k n : Nat} (hk : k < X.length) : WErr X (X ++ s) (openP X close it acc k n) (openP (X ++ s) close it' acc k n) := by
  intro e p h
  have hk1 : k + 1 ≤ X.length := hk
  have hw : k + 1 ≤ whiteN X (k + 1) := whiteN_ge X (k + 1) hk1
  have hwl := whiteN_le X (k + 1)
  unfold openP at h ⊢
  by_cases hlt : whiteN X (k + 1) < X.length
  · rw [app_white_lt hk1 hlt, app_peek X s hlt]
    by_cases hcl : peekP X (whiteN X (k + 1)) = close
    · rw [if_pos hcl] at h; cases h
    rw [if_neg hcl] at h
    rw [if_neg hcl]
    exact listP_werr hs hc hi _ _ _ _ _ hwl (by omega) (by omega) e p h
  · rw [app_white_end hs hk1 hlt, app_end, if_neg (Ne.symm hc)]
    rw [peekP_ge hlt, if_neg (Ne.symm hc), show whiteN X (k + 1) = X.length by omega] at h
    obtain ⟨e0, h1, h2⟩ := hend acc n
    rw [listP, h1] at h
    rw [listP, h2]
    simp only [PR.err.injEq] at h ⊢
    obtain ⟨rfl, rfl⟩ := h
    exact ⟨_, ⟨rfl, rfl⟩, .inr rfl⟩
/-- at the same depth, from the same count: the same -/
theorem valueP_same {X Z : List UInt8} {f deep k n a m : Nat} {t : Tree} (hk : k ≤ X.length) (h : valueP X f deep k n = .ok t a m) (hf : 65 ≤ f + deep) (hd : deep ≤ 64) (hZ : Z.take a = X.take a) (hc : Cut X Z a t) : valueP Z f deep k n = .ok t a m := by
  have h1 := (valueP_agree (Z := Z) f deep k n t a m hk h).2.2 hZ hc f deep n hf hd
  have h2 := (valueP_agree (Z := X) f deep k n t a m hk h).2.2 rfl (.inr (.inl rfl)) f deep n hf hd
  cases hx : fitT deep n t with
  | error e =>
    rw [hx] at h2
    obtain ⟨p, h2⟩ := h2
    rw [h] at h2; cases h2
  | ok m' =>
    rw [hx] at h1 h2
    have h1 : valueP Z f deep k n = .ok t a m' := h1
    have h2 : valueP X f deep k n = .ok t a m' := h2
    rw [h] at h2
    simp only [PR.ok.injEq, true_and] at h2
    rw [h1, h2]
theorem valueP_end (X : List UInt8) (f deep n : Nat) : valueP X f deep X.length n = .err 2 X.length := by
  cases f with
  | zero => rw [valueP]
  | succ f =>
    have hw : whiteN X X.length = X.length := endQ_end rfl
    rw [valueP, hw, peekP_ge (by omega), if_pos (by simp)]
theorem textP_end (X : List UInt8) (n : Nat) : textP X X.length n = .err 2 X.length := by
  rw [textP, List.getElem?_eq_none (Nat.le_refl _), if_neg (by simp)]
theorem wordP_werr {X s w : List UInt8} (hs : Tail s) (hw : ∀ c ∈ w, c ≠ 9) {t : Tree} {k n : Nat} (hk : k ≤ X.length) : WErr X (X ++ s) (wordP X w t k n) (wordP (X ++ s) w t k n) := by
  intro e p h
  unfold wordP at h ⊢
  split at h
  · cases h
  · rename_i hne
    rw [if_neg]
    · exact ⟨p, h, .inl rfl⟩
    · intro heq
      apply hne
      rw [drop_app hk] at heq
      by_cases hl : w.length ≤ (X.drop k).length
      · rwa [List.take_append_of_le_length hl] at heq
      · exfalso
        have h9 : (9 : UInt8) ∈ w := by
          rw [← heq]
          refine List.mem_of_getElem? (i := (X.drop k).length) ?_
          rw [List.getElem?_take, if_pos (by omega), List.getElem?_append_right (Nat.le_refl _), Nat.sub_self, ← List.head?_eq_getElem?, hs.first]
        exact hw 9 h9 rfl
theorem numP_werr {X s : List UInt8} (hs : Tail s) {k n : Nat} (hk : k ≤ X.length) : WErr X (X ++ s) (numP X k n) (numP (X ++ s) k n) := by
  intro e p h
  have hb := numEnd_bd X k hk
  have he : numEnd (X ++ s) k = numEnd X k := by
    rcases Nat.lt_or_eq_of_le hb.2 with h' | h'
    · exact endQ_agree hk (app_agree X s (Nat.le_refl _)) (Nat.le_refl _) hb.2 (.inl h')
    · refine endQ_agree hk (app_agree X s (Nat.le_refl _)) (Nat.le_refl _) hb.2 (.inr fun c hc => ?_)
      have h' : endQ isFig X k = X.length := h'
      rw [h'] at hc
      rw [hs.nofig hc]; decide
  unfold numP at h ⊢
  simp only at h ⊢
  rw [he, drop_app hk, List.take_append_of_le_length (by rw [List.length_drop]; omega)]
  split at h
  · cases h
  · rename_i hd
    rw [if_neg hd]
    exact ⟨p, h, .inl rfl⟩
theorem valueP_werr {X s : List UInt8} (hs : Tail s) : ∀ (f deep k n : Nat), k ≤ X.length → 65 ≤ f + deep → deep ≤ 64 → WErr X (X ++ s) (valueP X f deep k n) (valueP (X ++ s) f deep k n)
  | 0, deep, k, n, hk, hf, hd => by omega
  | f + 1, deep, k, n, hk, hf, hd => by
    by_cases hlt : whiteN X k < X.length
    case neg =>
      intro e p h
      rw [valueP, peekP_ge hlt, if_pos (by simp)] at h
      simp only [PR.err.injEq] at h
      obtain ⟨rfl, rfl⟩ := h
      rw [valueP, app_white_end hs hk hlt, app_end, if_pos (by simp)]
      exact ⟨_, rfl, .inr rfl⟩
    rw [valueP, valueP, app_white_lt hk hlt, app_peek X s hlt]
    have hle := Nat.le_of_lt hlt
    generalize whiteN X k = p at *
    have herr : ∀ (e : Int), WErr X (X ++ s) (.err e p : PR Tree) (.err e p) := fun e e' p' h => ⟨p', h, .inl rfl⟩
    split
    · exact herr 2
    split
    · exact herr 4
    split
    · exact wordP_werr hs (by decide) hle
    split
    · exact wordP_werr hs (by decide) hle
    split
    · exact wordP_werr hs (by decide) hle
    split
    · exact (textP_werr hs hlt).map
    split
    · split
      · exact herr 3
      · rename_i hdd
        refine (openP_werr hs (by decide) ⟨fun acc k n s1 a1 m1 hk hr => ?_, fun acc k n hk => (valueP_werr hs f _ k n hk (by omega) (by omega)).map⟩ (fun acc n => ⟨2, ?_, ?_⟩) hlt).map
        · obtain ⟨x, h2, rfl⟩ := PR.map_ok (f := fun t => acc ++ [t]) hr
          obtain ⟨j1, j2, _⟩ := valueP_agree (Z := X) f _ _ _ _ _ _ hk h2
          refine ⟨j2, ?_, by omega⟩
          show PR.map _ (valueP (X ++ s) f (deep + 1) k n) = _
          rw [valueP_same hk h2 (by omega) (by omega) (app_agree X s j2) (app_cut hs X j2 _)]
          rfl
        · show PR.map _ (valueP X f (deep + 1) X.length n) = _; rw [valueP_end]; rfl
        · show PR.map _ (valueP (X ++ s) f (deep + 1) (X ++ s).length n) = _; rw [valueP_end]; rfl
    split
    · split
      · exact herr 3
      · rename_i hdd
        refine (openP_werr hs (by decide) ⟨fun acc k n s1 a1 m1 hk hr => ?_, fun acc k n hk => ?_⟩ (fun acc n => ⟨2, ?_, ?_⟩) hlt).map
        · unfold itemO at hr ⊢
          cases ht : textP X (whiteN X k) n with
          | err e b => rw [ht] at hr; cases hr
          | ok key a2 n2 =>
            rw [ht] at hr
            simp only at hr
            obtain ⟨q1, q2, q3, q4⟩ := textP_agree (Z := X ++ s) (n' := n) ht
            have q4 := q4 (app_agree X s q2)
            subst q3
            have hwk := whiteN_ge X k hk
            have hw2 := whiteN_ge X a2 q2
            split at hr
            · cases hr
            rename_i hany
            split at hr
            · rename_i h58
              obtain ⟨hl58, _⟩ := List.getElem?_eq_some_iff.1 h58
              obtain ⟨x, h2, rfl⟩ := PR.map_ok hr
              obtain ⟨j1, j2, _⟩ := valueP_agree (Z := X) f _ _ _ _ _ _ (by omega) h2
              rw [app_white_lt hk (by omega), q4]
              simp only
              rw [if_neg hany, app_white_lt q2 hl58, app_get X s hl58, if_pos h58, valueP_same (by omega) h2 (by omega) (by omega) (app_agree X s j2) (app_cut hs X j2 _)]
              exact ⟨j2, rfl, by omega⟩
            · cases hr
        · intro e p h
          by_cases hlk : whiteN X k < X.length
          case neg =>
            unfold itemO at h ⊢
            rw [show whiteN X k = X.length by have := whiteN_le X k; omega, textP_end] at h
            simp only [PR.err.injEq] at h
            obtain ⟨rfl, rfl⟩ := h
            rw [app_white_end hs hk hlk, textP_end]
            exact ⟨_, rfl, .inr rfl⟩
          unfold itemO at h ⊢
          rw [app_white_lt hk hlk]
          cases ht : textP X (whiteN X k) n with
          | err e0 p0 =>
            rw [ht] at h
            simp only [PR.err.injEq] at h
            obtain ⟨rfl, rfl⟩ := h
            obtain ⟨p', h3, h4⟩ := textP_werr hs hlk _ _ ht
            rw [h3]
            exact ⟨p', rfl, h4⟩
          | ok key a2 n2 =>
            rw [ht] at h
            simp only at h
            obtain ⟨q1, q2, q3, q4⟩ := textP_agree (Z := X ++ s) (n' := n) ht
            have q4 := q4 (app_agree X s q2)
            subst q3
            rw [q4]
            simp only
            split at h
            · rename_i hany
              rw [if_pos hany]
              exact ⟨p, h, .inl rfl⟩
            rename_i hany
            rw [if_neg hany]
            by_cases hl2 : whiteN X a2 < X.length
            · rw [app_white_lt q2 hl2, app_get X s hl2]
              split at h
              · rename_i h58
                rw [if_pos h58]
                exact (valueP_werr hs f _ _ _ hl2 (by omega) (by omega)).map e p h
              · rename_i h58
                rw [if_neg h58]
                exact ⟨p, h, .inl rfl⟩
            · rw [List.getElem?_eq_none (by omega), if_neg (by simp)] at h
              simp only [PR.err.injEq] at h
              obtain ⟨rfl, rfl⟩ := h
              rw [app_white_end hs q2 hl2, List.getElem?_eq_none (Nat.le_refl _), if_neg (by simp)]
              exact ⟨_, rfl, .inr rfl⟩
        · unfold itemO; rw [show whiteN X X.length = X.length from endQ_end rfl, textP_end]
        · unfold itemO; rw [show whiteN (X ++ s) (X ++ s).length = (X ++ s).length from endQ_end rfl, textP_end]
    · exact numP_werr hs hle
/-! ### white ahead -/
theorem valueP_white {X : List UInt8} {k k' : Nat} (h : whiteN X k = whiteN X k') : ∀ (f deep n : Nat), (f = 0 → k = k') → valueP X f deep k n = valueP X f deep k' n
  | 0, deep, n, h0 => by rw [h0 rfl]
  | f + 1, deep, n, _ => by rw [valueP, valueP, h]
theorem white_skip (s Y : List UInt8) (hs : ∀ c ∈ s, isWhite c = true) : whiteN (s ++ Y) 0 = whiteN (s ++ Y) s.length := by
  obtain ⟨h1, h2, h3, h4⟩ := endQ_spec isWhite (s ++ Y) _ s.length rfl (by simp)
  rw [whiteN_endQ, whiteN_endQ]
  refine endQ_unique (endQ isWhite (s ++ Y) s.length) 0 _ (by omega) h2 (fun i h5 h6 => ?_) h4
  by_cases hi : i < s.length
  · exact ⟨s[i], by rw [List.getElem?_append_left hi]; simp, hs _ (List.getElem_mem hi)⟩
  · exact h3 i (by omega) h6
/-- a value behind white -/
theorem one_skip (s Y : List UInt8) (hs : ∀ c ∈ s, isWhite c = true) : valueP (s ++ Y) 65 0 0 0 = shiftR s.length (valueP Y 65 0 0 0) := by
  rw [valueP_white (white_skip s Y hs) 65 0 0 (fun h => by omega), valueP_drop _ _ _ _ _ (by simp), List.drop_left]
theorem oneP_zero (X : List UInt8) : oneP X 0 = valueP X 65 0 0 0 := by unfold oneP; rw [show clampN X.length 0 = 0 from by unfold clampN; omega]
/-- white all the way to a byte that is not -/
theorem white_run {Z : List UInt8} {k p : Nat} (hk : k ≤ p) (hp : p ≤ Z.length) (h1 : ∀ i, k ≤ i → i < p → ∃ c, Z[i]? = some c ∧ isWhite c = true) (h2 : ∀ c, Z[p]? = some c → isWhite c = false) : whiteN Z k = p :=
  endQ_unique (p - k) k p (by omega) hp h1 h2
def tabs (n : Nat) : List UInt8 := [9, 10, 13, 32, 32, 32, 32].take n
theorem tabs_white (n : Nat) : ∀ c ∈ tabs n, isWhite c = true := fun c h => by
  have := List.mem_of_mem_take h
  have h2 : ∀ c ∈ ([9, 10, 13, 32, 32, 32, 32] : List UInt8), isWhite c = true := by decide
  exact h2 c this
theorem tabs_tail (n : Nat) (h : 0 < n) : Tail (tabs n) := ⟨tabs_white n, by
  obtain ⟨m, rfl⟩ : ∃ m, n = m + 1 := ⟨n - 1, by omega⟩
  rfl⟩
/-- the law, of the parser's function -/
theorem whites_err (b : List UInt8) (n : Nat) (hb : b.length ≤ 1000) (he : (parseP b).2.1 ≠ 0) : (parseP (tabs n ++ (b ++ tabs n))).2.1 = (parseP b).2.1 ∧
    ((parseP (tabs n ++ (b ++ tabs n))).2.2 = (parseP b).2.2 + (tabs n).length ∨ (parseP (tabs n ++ (b ++ tabs n))).2.2 = (tabs n ++ (b ++ tabs n)).length) ∧ (parseP (tabs n ++ (b ++ tabs n))).1 = tNull ∧ (parseP b).1 = tNull := by
  have htl : (tabs n).length ≤ 7 := by unfold tabs; simp; omega
  rcases Nat.eq_zero_or_pos n with h0 | h0
  · subst h0
    have : tabs 0 = [] := rfl
    rw [this, List.nil_append, List.append_nil]
    refine ⟨rfl, .inl rfl, ?_⟩
    have : (parseP b).1 = tNull := by
      unfold parseP at he ⊢
      split
      · rfl
      rename_i hl
      rw [if_neg hl] at he
      cases hop : oneP b 0 with
      | err e p => rfl
      | ok t a m =>
        rw [hop] at he
        simp only at he ⊢
        split
        · rfl
        · rename_i hw; rw [if_neg hw] at he; exact absurd rfl he
    exact ⟨this, this⟩
  have hs := tabs_tail n h0
  generalize tabs n = s at *
  have hl1 : ¬ 65536 < b.length := by omega
  have hl2 : ¬ 65536 < (s ++ (b ++ s)).length := by simp; omega
  unfold parseP at he ⊢
  rw [if_neg hl1] at he
  rw [if_neg hl1, if_neg hl2, oneP_zero, oneP_zero, one_skip s _ hs.white]
  rw [oneP_zero] at he
  cases hop : valueP b 65 0 0 0 with
  | err e p =>
    obtain ⟨p', h1, h2⟩ := valueP_werr hs 65 0 0 0 (Nat.zero_le _) (by omega) (by omega) e p hop
    rw [h1]
    refine ⟨rfl, ?_, rfl, rfl⟩
    rcases h2 with h2 | h2
    · left; show s.length + p' = p + s.length; omega
    · right; show s.length + p' = _; rw [h2, ← List.length_append]
  | ok t a m =>
    rw [hop] at he
    simp only at he
    by_cases hw : whiteN b a < b.length
    · obtain ⟨j1, j2, _⟩ := valueP_agree (Z := b) 65 0 0 0 t a m (Nat.zero_le _) hop
      rw [valueP_same (Nat.zero_le _) hop (by omega) (by omega) (app_agree b s j2) (app_cut hs b j2 _)]
      have hwx : whiteN (s ++ (b ++ s)) (s.length + a) = s.length + whiteN b a := by
        rw [whiteN_at _ _ _ (by simp; omega), List.drop_left, app_white_lt j2 hw]
      simp only [shiftR]
      rw [hwx, if_pos hw, if_pos (by simp; omega)]
      exact ⟨rfl, .inl (Nat.add_comm _ _), rfl, rfl⟩
    · rw [if_neg hw] at he; exact absurd rfl he
theorem whites_ok (b : List UInt8) (n : Nat) (hb : b.length ≤ 1000) (he : (parseP b).2.1 = 0) : parseP (tabs n ++ (b ++ tabs n)) = ((parseP b).1, 0, (tabs n ++ (b ++ tabs n)).length) ∧
    ∀ c, isWhite c = false → parseP (tabs n ++ (b ++ tabs n) ++ [32, c]) = (tNull, 2, (tabs n ++ (b ++ tabs n)).length + 1) := by
  have htl : (tabs n).length ≤ 7 := by unfold tabs; simp; omega
  have hl1 : ¬ 65536 < b.length := by omega
  have hw0 := tabs_white n
  have hn9 : ∀ (Y : List UInt8), (∀ c ∈ Y, isWhite c = true ∨ True) → True := fun _ _ => trivial
  unfold parseP at he
  rw [if_neg hl1, oneP_zero] at he
  cases hop : valueP b 65 0 0 0 with
  | err e p =>
    rw [hop] at he
    have hf := valueP_fine 65 0 0 0 (Nat.zero_le b.length)
    rw [hop] at hf
    exact absurd he hf.1
  | ok t a m =>
    rw [hop] at he
    simp only at he
    by_cases hw : whiteN b a < b.length
    · rw [if_pos hw] at he; exact absurd (show (2 : Int) = 0 from he) (by decide)
    obtain ⟨j1, j2, _⟩ := valueP_agree (Z := b) 65 0 0 0 t a m (Nat.zero_le _) hop
    have hpb : (parseP b).1 = t := by unfold parseP; rw [if_neg hl1, oneP_zero, hop]; simp only; rw [if_neg hw]
    rw [hpb]
    obtain ⟨w1, w2, w3, w4⟩ := endQ_spec isWhite b _ a rfl j2
    have hwe : endQ isWhite b a = b.length := by have : endQ isWhite b a = whiteN b a := rfl; omega
    rw [hwe] at w3
    -- what stands behind b, if it begins with white or is nothing
    have key : ∀ (Y : List UInt8), (∀ c, Y[0]? = some c → isFig c = false) → valueP (tabs n ++ (b ++ Y)) 65 0 0 0 = .ok t ((tabs n).length + a) m := fun Y hY => by
      rw [one_skip _ _ hw0, valueP_same (Nat.zero_le _) hop (by omega) (by omega) (app_agree b Y j2) ?_]
      · rfl
      · rcases Nat.lt_or_eq_of_le j2 with h' | h'
        · exact .inr (.inl (app_get b Y h'))
        · refine .inr (.inr fun c hc => hY c ?_)
          rw [h', List.getElem?_append_right (Nat.le_refl _), Nat.sub_self] at hc
          exact hc
    have hnf : ∀ c : UInt8, isWhite c = true → isFig c = false := fun c h => by
      have : ∀ c : Fin 256, isWhite (UInt8.ofFin c) = true → isFig (UInt8.ofFin c) = false := by decide +kernel
      exact this c.toFin h
    have hin : ∀ (Y : List UInt8) (i : Nat), (tabs n).length + a ≤ i → i < (tabs n).length + b.length → ∃ c, (tabs n ++ (b ++ Y))[i]? = some c ∧ isWhite c = true := fun Y i h1 h2 => by
      rw [List.getElem?_append_right (by omega), List.getElem?_append_left (by omega)]
      exact w3 _ (by omega) (by omega)
    have htab : ∀ i, i < (tabs n).length → ∃ c, (tabs n)[i]? = some c ∧ isWhite c = true := fun i hi => ⟨(tabs n)[i], by simp [hi], hw0 _ (List.getElem_mem hi)⟩
    refine ⟨?_, fun c hc => ?_⟩
    · unfold parseP
      rw [if_neg (by simp; omega), oneP_zero, key _ (fun c hc => hnf c (hw0 c (List.mem_of_getElem? hc)))]
      have hwx : whiteN (tabs n ++ (b ++ tabs n)) ((tabs n).length + a) = (tabs n ++ (b ++ tabs n)).length := by
        refine white_run (by simp; omega) (Nat.le_refl _) (fun i h1 h2 => ?_) (fun c hc => by rw [List.getElem?_eq_none (Nat.le_refl _)] at hc; cases hc)
        by_cases hi : i < (tabs n).length + b.length
        · exact hin _ i h1 hi
        · simp only [List.length_append] at h2
          rw [List.getElem?_append_right (by omega), List.getElem?_append_right (by omega)]
          exact htab _ (by omega)
      simp only
      rw [hwx, if_neg (by omega)]
    · unfold parseP
      rw [show tabs n ++ (b ++ tabs n) ++ [32, c] = tabs n ++ (b ++ (tabs n ++ [32, c])) by simp]
      rw [if_neg (by simp; omega), oneP_zero, key _ (fun d hd => by
        rcases Nat.eq_zero_or_pos (tabs n).length with h0 | h0
        · rw [List.length_eq_zero_iff.1 h0] at hd
          simp at hd
          rw [← hd]; decide
        · rw [List.getElem?_append_left h0] at hd
          exact hnf d (hw0 d (List.mem_of_getElem? hd)))]
      have hwx : whiteN (tabs n ++ (b ++ (tabs n ++ [32, c]))) ((tabs n).length + a) = (tabs n ++ (b ++ tabs n)).length + 1 := by
        refine white_run (by simp; omega) (by simp; omega) (fun i h1 h2 => ?_) (fun d hd => ?_)
        · by_cases hi : i < (tabs n).length + b.length
          · exact hin _ i h1 hi
          · simp only [List.length_append] at h2
            rw [List.getElem?_append_right (by omega), List.getElem?_append_right (by omega)]
            by_cases hj : i - (tabs n).length - b.length < (tabs n).length
            · rw [List.getElem?_append_left hj]; exact htab _ hj
            · rw [List.getElem?_append_right (by omega), show i - (tabs n).length - b.length - (tabs n).length = 0 by omega]
              exact ⟨32, rfl, by decide⟩
        · rw [List.getElem?_append_right (by simp; omega), List.getElem?_append_right (by simp; omega), List.getElem?_append_right (by simp; omega)] at hd
          rw [show (tabs n ++ (b ++ tabs n)).length + 1 - (tabs n).length - b.length - (tabs n).length = 1 by simp; omega] at hd
          simp at hd
          rw [← hd]; exact hc
      simp only
      rw [hwx, if_pos (by simp; omega)]
end Go.Proofs.YtckpndbmpigegaaDoor
