/- parse: two values' texts in brackets (plain). -/
import Derived.Test.YtckpndbmpigegaaDoorPaAg
set_option linter.unusedVariables false
set_option linter.unusedSimpArgs false
set_option maxRecDepth 100000
namespace Go.Proofs.YtckpndbmpigegaaDoor
open Go.RowKit Go.Mem Orange
theorem foldE_err {ι : Type} {g : Nat → ι → Except Int Nat} (hg : ∀ n x e, g n x = .error e → e = 3 ∨ e = 4) : ∀ (l : List ι) (n : Nat) (e : Int), foldE g n l = .error e → e = 3 ∨ e = 4
  | [], n, e, h => by rw [foldE] at h; cases h
  | x :: l, n, e, h => by
    rw [foldE] at h
    cases hx : g n x with
    | error e' => rw [hx] at h; cases h; exact hg n x e hx
    | ok n' => rw [hx] at h; exact foldE_err hg l n' e h
mutual
theorem fitT_err : ∀ (t : Tree) (deep n : Nat) (e : Int), fitT deep n t = .error e → e = 3 ∨ e = 4
  | .mk k b d s l m, deep, n, e, h => by
    rw [fitT] at h
    split at h
    · cases h; exact .inr rfl
    split at h
    · cases h; exact .inl rfl
    · cases hl : fitL (deep + 1) (n + 1) l with
      | error e' => rw [hl] at h; cases h; exact fitL_err l _ _ _ hl
      | ok n' => rw [hl] at h; exact fitM_err m _ _ _ h
theorem fitL_err : ∀ (l : List Tree) (deep n : Nat) (e : Int), fitL deep n l = .error e → e = 3 ∨ e = 4
  | [], deep, n, e, h => by rw [fitL] at h; cases h
  | t :: l, deep, n, e, h => by
    rw [fitL] at h
    cases hl : fitT deep n t with
    | error e' => rw [hl] at h; cases h; exact fitT_err t _ _ _ hl
    | ok n' => rw [hl] at h; exact fitL_err l _ _ _ h
theorem fitM_err : ∀ (l : List (List UInt8 × Tree)) (deep n : Nat) (e : Int), fitM deep n l = .error e → e = 3 ∨ e = 4
  | [], deep, n, e, h => by rw [fitM] at h; cases h
  | (k, t) :: l, deep, n, e, h => by
    rw [fitM] at h
    cases hl : fitT deep n t with
    | error e' => rw [hl] at h; cases h; exact fitT_err t _ _ _ hl
    | ok n' => rw [hl] at h; exact fitM_err l _ _ _ h
end
theorem valueP_from {X : List UInt8} {k k' : Nat} (h : whiteN X k = whiteN X k') : ∀ (f deep n : Nat), (f = 0 → k = k') → valueP X f deep k n = valueP X f deep k' n
  | 0, deep, n, h0 => by rw [h0 rfl]
  | f + 1, deep, n, _ => by rw [valueP, valueP, h]
theorem text_one {X Y : List UInt8} {k n : Nat} {c : UInt8} (hk : k ≤ X.length) (h : X.drop k = 34 :: c :: 34 :: Y) (h1 : 32 ≤ c.toNat) (h2 : c.toNat < 128) (h3 : c ≠ 34) (h4 : c.toNat ≠ 92) : textP X k n = .ok [c] (k + 3) n := by
  have hat := textP_at X k 0 n hk
  rw [Nat.add_zero] at hat
  rw [hat, h, textP, if_pos (show (34 :: c :: 34 :: Y)[0]? = some 34 from rfl)]
  have hn : next (c :: 34 :: Y) = ((c.toNat : Int), 1) := by simp only [next]; rw [if_pos h2]
  have he : encP (c.toNat : Int) = [c] := by
    unfold encP enc
    rw [if_pos (by rw [sound_iff]; omega), if_pos (by omega), byte_of (c := c) rfl]
  rw [textL]
  have hp : peekP (34 :: c :: 34 :: Y) (0 + 1) = c := rfl
  have hd : (34 :: c :: 34 :: Y).drop (0 + 1) = c :: 34 :: Y := rfl
  rw [hp, if_neg h3, hd, hn, if_neg (fun h => h ⟨Nat.zero_lt_one, by show (32 : Int) ≤ c.toNat; omega⟩), if_neg (by show ¬ (c.toNat : Int) = 92; omega), he]
  rw [show (34 :: c :: 34 :: Y).length = Y.length + 2 + 1 by simp, textL, if_pos (show peekP (34 :: c :: 34 :: Y) (0 + 1 + 1) = 34 from rfl)]
  rfl
theorem itemO_one {X Y : List UInt8} {val : Nat → Nat → PR Tree} {acc : List (List UInt8 × Tree)} {k n : Nat} {c : UInt8} (hk : k ≤ X.length) (h : X.drop k = 34 :: c :: 34 :: 58 :: Y) (h1 : 32 ≤ c.toNat) (h2 : c.toNat < 128) (h3 : c ≠ 34) (h4 : c.toNat ≠ 92)
    (hacc : acc.any (fun x => x.1 == [c]) = false) : itemO X val acc k n = (val (k + 4) n).map fun t => acc ++ [([c], t)] := by
  have hl : k + 3 < X.length := by
    have := congrArg List.length h
    simp at this
    omega
  have g0 : X[k]? = some 34 := by have := get_at X k 0; rw [h] at this; exact this
  have g3 : X[k + 3]? = some 58 := by have := get_at X k 3; rw [h] at this; exact this
  have w0 : whiteN X k = k := endQ_unique 0 k k rfl hk (fun i h1 h2 => by omega) (fun d hd => by rw [g0] at hd; cases hd; decide)
  have w3 : whiteN X (k + 3) = k + 3 := endQ_unique 0 _ _ rfl (by omega) (fun i h1 h2 => by omega) (fun d hd => by rw [g3] at hd; cases hd; decide)
  unfold itemO
  rw [w0, text_one hk h h1 h2 h3 h4]
  simp only
  rw [hacc, w3, if_neg (by simp), if_pos g3]
/-- a whole text, at a place of another one, with a sign behind it -/
theorem item_run {P a R : List UInt8} {c : UInt8} {t : Tree} {pa ma : Nat} (hw : isWhite c = false) (hf : isFig c = false) (hop : valueP a 65 0 0 0 = .ok t pa ma) (hwh : whiteN a pa = a.length) :
    (∀ n, SameR (valueP (P ++ (a ++ c :: R)) 64 1 P.length n) (fitT 1 n t) t (P.length + pa)) ∧ whiteN (P ++ (a ++ c :: R)) (P.length + pa) = P.length + a.length ∧ pa ≤ a.length ∧ (∀ d, isWhite d = false → (∀ x ∈ begs, x ≠ d) → peekP (P ++ (a ++ c :: R)) (whiteN (P ++ (a ++ c :: R)) P.length) ≠ d) := by
  obtain ⟨j1, j2, j3⟩ := valueP_agree (Z := a ++ c :: R) 65 0 0 0 t pa ma (Nat.zero_le _) hop
  refine ⟨fun n => ?_, ?_, j2, fun d hd1 hd2 => ?_⟩
  · have h1 := j3 (by rw [List.take_append_of_le_length j2]) (by
      rcases Nat.lt_or_eq_of_le j2 with h' | h'
      · exact .inr (.inl (List.getElem?_append_left h'))
      · refine .inr (.inr fun d hd => ?_)
        rw [h', List.getElem?_append_right (Nat.le_refl _), Nat.sub_self] at hd
        cases hd
        exact hf) 64 1 n (by omega) (by omega)
    rw [valueP_drop _ _ _ _ _ (by simp), List.drop_left]
    cases hx : fitT 1 n t with
    | error e => rw [hx] at h1; obtain ⟨p, h1⟩ := h1; rw [h1]; exact ⟨_, rfl⟩
    | ok m => rw [hx] at h1; have h1 : valueP (a ++ c :: R) 64 1 0 n = .ok t pa m := h1; rw [h1]; exact rfl
  · obtain ⟨w1, w2, w3, w4⟩ := endQ_spec isWhite a _ pa rfl j2
    have hwe : endQ isWhite a pa = a.length := hwh
    rw [hwe] at w3
    refine endQ_unique (a.length - pa) _ _ (by omega) (by simp) (fun i h1 h2 => ?_) (fun d hd => ?_)
    · rw [List.getElem?_append_right (by omega), List.getElem?_append_left (by omega)]
      exact w3 _ (by omega) (by omega)
    · rw [List.getElem?_append_right (by omega), List.getElem?_append_right (by omega), show P.length + a.length - P.length - a.length = 0 by omega] at hd
      cases hd
      exact hw
  · have hb : peekP a (whiteN a 0) ≠ 0 ∧ begs.contains (peekP a (whiteN a 0)) = true := by
      rw [valueP] at hop
      by_cases hb : peekP a (whiteN a 0) ≠ 0 ∧ begs.contains (peekP a (whiteN a 0)) = true
      · exact hb
      · rw [if_pos hb] at hop; cases hop
    have hlt : whiteN a 0 < a.length := (peekP_some rfl hb.1).2
    have hwz : whiteN (a ++ c :: R) 0 = whiteN a 0 := white_agree (Nat.zero_le _) (by rw [List.take_append_of_le_length (Nat.le_refl _)]) (Nat.le_refl _) hlt
    have hwp := whiteN_at (P ++ (a ++ c :: R)) P.length 0 (by simp)
    rw [List.drop_left, hwz, Nat.add_zero] at hwp
    rw [hwp, peekP_at, List.drop_left, agree_peek (X := a) (a := a.length) (by rw [List.take_append_of_le_length (Nat.le_refl _)]) hlt]
    exact hd2 _ (by simpa using hb.2)
def lText (a b : List UInt8) : List UInt8 := [91] ++ (a ++ 44 :: (b ++ [93]))
def oText (a b : List UInt8) : List UInt8 := [123, 34, 121, 34, 58] ++ (a ++ 44 :: (34 :: 120 :: 34 :: 58 :: (b ++ [125])))
set_option maxHeartbeats 3200000 in
/-- the two ends of a text of two -/
theorem list_law {a b : List UInt8} {ta tb : Tree} {pa ma pb mb : Nat} (ha : valueP a 65 0 0 0 = .ok ta pa ma) (hwa : whiteN a pa = a.length) (hb : valueP b 65 0 0 0 = .ok tb pb mb) (hwb : whiteN b pb = b.length) :
    match fitT 1 1 ta with
    | .error e => (∃ p, valueP (lText a b) 65 0 0 0 = .err e p) ∧ (∃ p, valueP (oText a b) 65 0 0 0 = .err e p)
    | .ok m => match fitT 1 m tb with
      | .error e => (∃ p, valueP (lText a b) 65 0 0 0 = .err e p) ∧ (∃ p, valueP (oText a b) 65 0 0 0 = .err e p)
      | .ok m2 => valueP (lText a b) 65 0 0 0 = .ok (tArr [ta, tb]) (lText a b).length m2 ∧ valueP (oText a b) 65 0 0 0 = .ok (tObj [([121], ta), ([120], tb)]) (oText a b).length m2 := by
  -- the list
  obtain ⟨p1, p2, p3, p4⟩ := item_run (P := [91]) (R := b ++ [93]) (c := 44) (by decide) (by decide) ha hwa
  have hl2 : lText a b = ([91] ++ (a ++ [44])) ++ (b ++ 93 :: []) := by simp [lText]
  obtain ⟨q1, q2, q3, q4⟩ := item_run (P := [91] ++ (a ++ [44])) (R := []) (c := 93) (by decide) (by decide) hb hwb
  rw [← hl2] at q1 q2 q4
  have hl1 : lText a b = [91] ++ (a ++ 44 :: (b ++ [93])) := rfl
  rw [← hl1] at p1 p2 p4
  have hL : (lText a b).length = a.length + b.length + 3 := by simp [lText]; omega
  have hlen1 : ([91] ++ (a ++ [44]) : List UInt8).length = a.length + 2 := by simp
  rw [hlen1] at q1 q2 q4
  simp only [List.length_singleton] at p1 p2 p4
  have g44 : peekP (lText a b) (1 + a.length) = 44 := by
    rw [lText, show (1 + a.length) = [(91 : UInt8)].length + a.length from rfl, peekP_at, List.drop_left]
    unfold peekP; simp
  have g93 : (lText a b)[a.length + 2 + b.length]? = some 93 := by
    rw [hl2, List.getElem?_append_right (by rw [hlen1]; omega), hlen1, List.getElem?_append_right (by omega)]
    simp
  have hop : valueP (lText a b) 65 0 0 0 = (listP (lText a b) 93 (itemA (valueP (lText a b) 64 1)) ((lText a b).length + 1) [] 1 1).map tArr := by
    have hw0 : whiteN (lText a b) 0 = 0 := endQ_unique 0 0 0 rfl (Nat.zero_le _) (fun i h1 h2 => by omega) (fun d hd => by cases hd; decide)
    have hp0 : peekP (lText a b) 0 = 91 := rfl
    rw [valueP, hw0, hp0, if_neg (by decide), if_neg (by decide), if_neg (by decide), if_neg (by decide), if_neg (by decide), if_neg (by decide), if_pos rfl, if_neg (by decide), openP, if_neg (p4 93 (by decide) (by decide))]
    congr 1
    -- white ahead of the first one says nothing
    rw [listP, listP]
    unfold itemA
    rw [valueP_from (k := whiteN (lText a b) (0 + 1)) (k' := 1) ?_ 64 1 (0 + 1) (fun h => by omega)]
    have hw1 := whiteN_ge (lText a b) 1 (by omega)
    obtain ⟨w1, w2, w3, w4⟩ := endQ_spec isWhite (lText a b) _ 1 rfl (by omega)
    exact endQ_unique 0 (endQ isWhite (lText a b) 1) _ rfl w2 (fun i h1 h2 => absurd h2 (Nat.not_lt.2 h1)) w4
  -- the object
  obtain ⟨r1, r2, r3, r4⟩ := item_run (P := [123, 34, 121, 34, 58]) (R := 34 :: 120 :: 34 :: 58 :: (b ++ [125])) (c := 44) (by decide) (by decide) ha hwa
  have ho1 : oText a b = [123, 34, 121, 34, 58] ++ (a ++ 44 :: (34 :: 120 :: 34 :: 58 :: (b ++ [125]))) := rfl
  rw [← ho1] at r1 r2 r4
  have ho2 : oText a b = ([123, 34, 121, 34, 58] ++ (a ++ [44, 34, 120, 34, 58])) ++ (b ++ 125 :: []) := by simp [oText]
  obtain ⟨s1, s2, s3, s4⟩ := item_run (P := [123, 34, 121, 34, 58] ++ (a ++ [44, 34, 120, 34, 58])) (R := []) (c := 125) (by decide) (by decide) hb hwb
  rw [← ho2] at s1 s2 s4
  have hlen2 : ([123, 34, 121, 34, 58] ++ (a ++ [44, 34, 120, 34, 58]) : List UInt8).length = a.length + 10 := by simp
  rw [hlen2] at s1 s2 s4
  have hlen3 : ([123, 34, 121, 34, 58] : List UInt8).length = 5 := rfl
  rw [hlen3] at r1 r2 r4
  have hO : (oText a b).length = a.length + b.length + 11 := by simp [oText]; omega
  have o44 : peekP (oText a b) (5 + a.length) = 44 := by
    rw [oText, show (5 + a.length) = [(123 : UInt8), 34, 121, 34, 58].length + a.length from rfl, peekP_at, List.drop_left]
    unfold peekP; simp
  have o125 : (oText a b)[a.length + 10 + b.length]? = some 125 := by
    rw [ho2, List.getElem?_append_right (by rw [hlen2]; omega), hlen2, List.getElem?_append_right (by omega)]
    simp
  have hoo : valueP (oText a b) 65 0 0 0 = (listP (oText a b) 125 (itemO (oText a b) (valueP (oText a b) 64 1)) ((oText a b).length + 1) [] 1 1).map tObj := by
    have hw0 : whiteN (oText a b) 0 = 0 := endQ_unique 0 0 0 rfl (Nat.zero_le _) (fun i h1 h2 => by omega) (fun d hd => by cases hd; decide)
    have hw1 : whiteN (oText a b) 1 = 1 := endQ_unique 0 1 1 rfl (by omega) (fun i h1 h2 => by omega) (fun d hd => by cases hd; decide)
    have hp0 : peekP (oText a b) 0 = 123 := rfl
    have hp1 : peekP (oText a b) 1 = 34 := rfl
    rw [valueP, hw0, hp0, if_neg (by decide), if_neg (by decide), if_neg (by decide), if_neg (by decide), if_neg (by decide), if_neg (by decide), if_neg (by decide), if_pos rfl, if_neg (by decide), openP, hw1, hp1, if_neg (by decide)]
  have i1 : ∀ acc n, acc.any (fun x => x.1 == [121]) = false → itemO (oText a b) (valueP (oText a b) 64 1) acc 1 n = (valueP (oText a b) 64 1 5 n).map fun t => acc ++ [([121], t)] := fun acc n h =>
    itemO_one (by omega) (Y := a ++ 44 :: (34 :: 120 :: 34 :: 58 :: (b ++ [125]))) (by simp [oText]) (by decide) (by decide) (by decide) (by decide) h
  have i2 : ∀ acc n, acc.any (fun x => x.1 == [120]) = false → itemO (oText a b) (valueP (oText a b) 64 1) acc (5 + a.length + 1) n = (valueP (oText a b) 64 1 (a.length + 10) n).map fun t => acc ++ [([120], t)] := fun acc n h => by
    rw [itemO_one (k := 5 + a.length + 1) (by omega) (Y := b ++ [125]) (by
      rw [show oText a b = ([123, 34, 121, 34, 58] ++ (a ++ [44])) ++ (34 :: 120 :: 34 :: 58 :: (b ++ [125])) by simp [oText], show 5 + a.length + 1 = ([123, 34, 121, 34, 58] ++ (a ++ [44]) : List UInt8).length by simp; omega, List.drop_left]) (by decide) (by decide) (by decide) (by decide) h]
    rw [show 5 + a.length + 1 + 4 = a.length + 10 by omega]
  rw [hop, hoo, hL, hO]
  have hp1 := p1 1
  have hr1 := r1 1
  rw [listP, listP]
  unfold itemA
  rw [i1 [] 1 rfl]
  cases hx : fitT 1 1 ta with
  | error e =>
    rw [hx] at hp1 hr1
    obtain ⟨x, hp1⟩ := hp1
    obtain ⟨y, hr1⟩ := hr1
    simp only
    rw [hp1, hr1]
    exact ⟨⟨_, rfl⟩, ⟨_, rfl⟩⟩
  | ok m =>
    rw [hx] at hp1 hr1
    have hp1 : valueP (lText a b) 64 1 1 1 = .ok ta (1 + pa) m := hp1
    have hr1 : valueP (oText a b) 64 1 5 1 = .ok ta (5 + pa) m := hr1
    simp only
    rw [hp1, hr1]
    simp only [PR.map]
    rw [p2, if_pos g44, r2, if_pos o44]
    have hq := q1 m
    have hs := s1 m
    rw [listP, listP, i2 _ m (by rfl), show 1 + a.length + 1 = a.length + 2 by omega]
    cases hy : fitT 1 m tb with
    | error e =>
      rw [hy] at hq hs
      obtain ⟨x, hq⟩ := hq
      obtain ⟨y, hs⟩ := hs
      simp only
      rw [hq, hs]
      exact ⟨⟨_, rfl⟩, ⟨_, rfl⟩⟩
    | ok m2 =>
      rw [hy] at hq hs
      have hq : valueP (lText a b) 64 1 (a.length + 2) m = .ok tb (a.length + 2 + pb) m2 := hq
      have hs : valueP (oText a b) 64 1 (a.length + 10) m = .ok tb (a.length + 10 + pb) m2 := hs
      simp only
      rw [hq, hs]
      simp only [PR.map]
      rw [q2, s2, if_neg (by rw [peekP, List.getD_eq_getElem?_getD, g93]; decide), if_pos g93, if_neg (by rw [peekP, List.getD_eq_getElem?_getD, o125]; decide), if_pos o125]
      simp only [List.nil_append, List.cons_append]
      exact ⟨by congr 1; omega, by congr 1; omega⟩
/-- the law, of the parser's function -/
theorem lists_law (a b : List UInt8) (hl : a.length + b.length ≤ 1000) (ha : (parseP a).2.1 = 0) (hb : (parseP b).2.1 = 0) :
    (∃ e, (e = 3 ∨ e = 4) ∧ (parseP (lText a b)).2.1 = e ∧ (parseP (oText a b)).2.1 = e ∧ (parseP (lText a b)).1 = tNull ∧ (parseP (oText a b)).1 = tNull) ∨
    (parseP (lText a b) = (tArr [(parseP a).1, (parseP b).1], 0, (lText a b).length) ∧ parseP (oText a b) = (tObj [([121], (parseP a).1), ([120], (parseP b).1)], 0, (oText a b).length)) := by
  have one : ∀ x : List UInt8, x.length ≤ 1000 → (parseP x).2.1 = 0 → ∃ t p m, valueP x 65 0 0 0 = .ok t p m ∧ whiteN x p = x.length ∧ (parseP x).1 = t := fun x hx h => by
    have hz : oneP x 0 = valueP x 65 0 0 0 := by unfold oneP; rw [show clampN x.length 0 = 0 from by unfold clampN; omega]
    unfold parseP at h ⊢
    rw [if_neg (by omega), hz] at h
    rw [if_neg (by omega), hz]
    have hf := valueP_fine 65 0 0 0 (Nat.zero_le x.length)
    cases hv : valueP x 65 0 0 0 with
    | err e p => rw [hv] at h hf; exact absurd h hf.1
    | ok t p m =>
      rw [hv] at h
      simp only at h ⊢
      by_cases hw : whiteN x p < x.length
      · rw [if_pos hw] at h; exact absurd (show (2 : Int) = 0 from h) (by decide)
      · refine ⟨t, p, m, rfl, by have := whiteN_le x p; omega, by rw [if_neg hw]⟩
  obtain ⟨ta, pa, ma, h1, h2, h3⟩ := one a (by omega) ha
  obtain ⟨tb, pb, mb, h4, h5, h6⟩ := one b (by omega) hb
  rw [h3, h6]
  have hlaw := list_law h1 h2 h4 h5
  have hL : (lText a b).length = a.length + b.length + 3 := by simp [lText]; omega
  have hO : (oText a b).length = a.length + b.length + 11 := by simp [oText]; omega
  have bad : ∀ (x : List UInt8) (e : Int) (p : Nat), x.length ≤ 65536 → valueP x 65 0 0 0 = .err e p → (parseP x).2.1 = e ∧ (parseP x).1 = tNull := fun x e p hx h => by
    have hz : oneP x 0 = valueP x 65 0 0 0 := by unfold oneP; rw [show clampN x.length 0 = 0 from by unfold clampN; omega]
    unfold parseP
    rw [if_neg (by omega), hz, h]
    exact ⟨rfl, rfl⟩
  have good : ∀ (x : List UInt8) (t : Tree) (m : Nat), x.length ≤ 65536 → valueP x 65 0 0 0 = .ok t x.length m → parseP x = (t, 0, x.length) := fun x t m hx h => by
    have hz : oneP x 0 = valueP x 65 0 0 0 := by unfold oneP; rw [show clampN x.length 0 = 0 from by unfold clampN; omega]
    have hw : whiteN x x.length = x.length := endQ_end rfl
    unfold parseP
    rw [if_neg (by omega), hz, h]
    simp only
    rw [hw, if_neg (by omega)]
  cases hx : fitT 1 1 ta with
  | error e =>
    rw [hx] at hlaw
    obtain ⟨⟨p, h7⟩, ⟨q, h8⟩⟩ := hlaw
    have h9 := bad _ _ _ (by omega) h7
    have h10 := bad _ _ _ (by omega) h8
    exact .inl ⟨e, fitT_err _ _ _ _ hx, h9.1, h10.1, h9.2, h10.2⟩
  | ok m =>
    rw [hx] at hlaw
    simp only at hlaw
    cases hy : fitT 1 m tb with
    | error e =>
      rw [hy] at hlaw
      obtain ⟨⟨p, h7⟩, ⟨q, h8⟩⟩ := hlaw
      have h9 := bad _ _ _ (by omega) h7
      have h10 := bad _ _ _ (by omega) h8
      exact .inl ⟨e, fitT_err _ _ _ _ hy, h9.1, h10.1, h9.2, h10.2⟩
    | ok m2 =>
      rw [hy] at hlaw
      exact .inr ⟨good _ _ _ (by omega) hlaw.1, good _ _ _ (by omega) hlaw.2⟩
end Go.Proofs.YtckpndbmpigegaaDoor
