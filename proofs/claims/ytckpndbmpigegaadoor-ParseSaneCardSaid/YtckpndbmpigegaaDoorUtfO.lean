/- Plain laws of characters: the order of marks; good texts are rows of characters. -/
import Derived.Test.YtckpndbmpigegaaDoorUtfM
set_option linter.unusedVariables false
set_option maxRecDepth 100000
namespace Orange

theorem lessL_irrefl : ∀ l : List Int, lessL l l = false
  | [] => rfl
  | a :: l => by rw [lessL, if_pos rfl]; exact lessL_irrefl l
theorem lessL_asymm : ∀ l m : List Int, lessL l m = true → lessL m l = false
  | [], [], h => by simp [lessL] at h
  | [], b :: m, _ => by simp [lessL]
  | a :: l, [], h => by simp [lessL] at h
  | a :: l, b :: m, h => by
    rw [lessL] at h ⊢
    by_cases e : a = b
    · rw [if_pos e] at h; rw [if_pos e.symm]; exact lessL_asymm l m h
    · rw [if_neg e] at h; rw [if_neg (fun x => e x.symm)]
      simp only [decide_eq_true_eq] at h
      simp only [decide_eq_false_iff_not]; omega
theorem lessL_tri : ∀ l m : List Int, lessL l m = false → lessL m l = false → l = m
  | [], [], _, _ => rfl
  | [], b :: m, h, _ => by simp [lessL] at h
  | a :: l, [], _, h => by simp [lessL] at h
  | a :: l, b :: m, h, k => by
    rw [lessL] at h k
    by_cases e : a = b
    · rw [if_pos e] at h; rw [if_pos e.symm] at k; rw [e, lessL_tri l m h k]
    · rw [if_neg e] at h; rw [if_neg (fun x => e x.symm)] at k
      simp only [decide_eq_false_iff_not] at h k; omega
theorem lessL_trans : ∀ l m n : List Int, lessL l m = true → lessL m n = true → lessL l n = true
  | [], m, [], h, k => by cases m <;> simp [lessL] at h k
  | [], _, _ :: _, _, _ => by simp [lessL]
  | a :: l, [], _, h, _ => by simp [lessL] at h
  | a :: l, b :: m, [], _, k => by simp [lessL] at k
  | a :: l, b :: m, c :: n, h, k => by
    rw [lessL] at h k ⊢
    by_cases e : a = b
    · rw [if_pos e] at h
      by_cases e2 : b = c
      · rw [if_pos e2] at k; rw [if_pos (e.trans e2)]; exact lessL_trans l m n h k
      · rw [if_neg e2] at k; rw [if_neg (by rw [e]; exact e2), e]; exact k
    · rw [if_neg e] at h
      simp only [decide_eq_true_eq] at h
      by_cases e2 : b = c
      · rw [if_neg (by omega)]; simp only [decide_eq_true_eq]; omega
      · rw [if_neg e2] at k
        simp only [decide_eq_true_eq] at k
        rw [if_neg (by omega)]; simp only [decide_eq_true_eq]; omega

/-- a character's bytes, or the byte of a mark above all -/
def un (r : Int) : List UInt8 := if 2097152 ≤ r then [byte (r - 2097152)] else enc r
theorem marks_un : ∀ (n : Nat) (b : List UInt8), b.length ≤ n → (marks b).flatMap un = b
  | _, [], _ => by rw [marks_nil]; rfl
  | 0, _ :: _, h => by simp at h
  | n + 1, x :: t, h => by
    have hmk : mark (x :: t) = if (next (x :: t)).2 = 0 then 2097152 + (x.toNat : Int) else (next (x :: t)).1 := rfl
    have hx := x.toNat_lt
    simp only [List.length_cons] at h
    rw [marks_cons, List.flatMap_cons]
    rcases next_spec (x :: t) with hz | ⟨hs, hn, t', ht⟩
    · have ha : adv (x :: t) = 1 := by simp [adv, hz]
      rw [ha, hmk, hz, if_pos rfl]
      have hu : un (2097152 + (x.toNat : Int)) = [x] := by
        rw [un, if_pos (by omega), byte_of (c := x) (by omega)]
      rw [hu, List.drop_succ_cons, List.drop_zero, marks_un n t (by omega)]
      rfl
    · have hbd := next_bd (x :: t)
      obtain ⟨c, hcc⟩ : ∃ c, (next (x :: t)).1 = c := ⟨_, rfl⟩
      rw [hcc] at hs hn ht hbd hmk
      have hp := enc_pos c
      have ha : adv (x :: t) = (next (x :: t)).2 := by simp [adv]; omega
      rw [ha, hmk, if_neg (by omega)]
      have hu : un c = enc c := by rw [un, if_neg (by omega)]
      have hd : (x :: t).drop (next (x :: t)).2 = t' := by
        rw [hn, ht, List.drop_left]
      have hl := congrArg List.length ht
      simp only [List.length_cons, List.length_append] at hl
      rw [hu, hd, marks_un n t' (by omega)]
      exact ht.symm
theorem marks_inj {a b : List UInt8} (h : marks a = marks b) : a = b := by
  rw [← marks_un _ a (Nat.le_refl _), ← marks_un _ b (Nat.le_refl _), h]

def encs (l : List Int) : List UInt8 := l.flatMap enc
theorem enc_cons {r : Int} (h : sound r = true) : ∃ x t, enc r = x :: t := by
  have hp := enc_pos r
  cases hx : enc r with
  | nil => rw [hx] at hp; simp at hp
  | cons x t => exact ⟨x, t, rfl⟩
theorem checkL_enc {r : Int} (h : sound r = true) (t : List UInt8) (i : Int) : checkL (enc r ++ t) i = checkL t (i + (enc r).length) := by
  have hn := next_enc h t
  have hp := enc_pos r
  obtain ⟨x, u, hx⟩ := enc_cons h
  have e : enc r ++ t = x :: (u ++ t) := by rw [hx]; rfl
  rw [e, checkL_cons, ← e, hn, if_neg (by simp only; omega)]
  simp only [List.drop_left]
theorem marks_enc {r : Int} (h : sound r = true) (t : List UInt8) : marks (enc r ++ t) = r :: marks t := by
  have hn := next_enc h t
  have hp := enc_pos r
  obtain ⟨x, u, hx⟩ := enc_cons h
  have e : enc r ++ t = x :: (u ++ t) := by rw [hx]; rfl
  have hmk : mark (x :: (u ++ t)) = if (next (x :: (u ++ t))).2 = 0 then 2097152 + (x.toNat : Int) else (next (x :: (u ++ t))).1 := rfl
  have ha : adv (enc r ++ t) = (enc r).length := by simp only [adv, hn]; rw [if_neg (by omega)]
  rw [e, marks_cons, hmk, ← e, ha, hn, if_neg (by simp only; omega), List.drop_left]
theorem checkL_encs : ∀ (l : List Int), (∀ r ∈ l, sound r = true) → ∀ (t : List UInt8) (i : Int), checkL (encs l ++ t) i = checkL t (i + (encs l).length)
  | [], _, t, i => by simp [encs]
  | r :: l, h, t, i => by
    have e : encs (r :: l) = enc r ++ encs l := rfl
    rw [e, List.append_assoc, checkL_enc (h r (List.mem_cons_self ..)), checkL_encs l (fun x hx => h x (List.mem_cons_of_mem _ hx))]
    congr 1
    rw [List.length_append]; omega
theorem marks_encs : ∀ (l : List Int), (∀ r ∈ l, sound r = true) → ∀ (t : List UInt8), marks (encs l ++ t) = l ++ marks t
  | [], _, t => by simp [encs]
  | r :: l, h, t => by
    have e : encs (r :: l) = enc r ++ encs l := rfl
    rw [e, List.append_assoc, marks_enc (h r (List.mem_cons_self ..)), marks_encs l (fun x hx => h x (List.mem_cons_of_mem _ hx))]
    rfl
/-- a good text is a row of characters -/
theorem good_encs : ∀ (n : Nat) (b : List UInt8) (i : Int), b.length ≤ n → 0 ≤ i → checkL b i < 0 → ∃ l, (∀ r ∈ l, sound r = true) ∧ b = encs l
  | _, [], _, _, _, _ => ⟨[], by simp, rfl⟩
  | 0, _ :: _, _, h, _, _ => by simp at h
  | n + 1, x :: t, i, h, hi, hc => by
    rw [checkL_cons] at hc
    simp only [List.length_cons] at h
    rcases next_spec (x :: t) with hz | ⟨hs, hn, t', ht⟩
    · rw [hz, if_pos rfl] at hc; omega
    · obtain ⟨c, hcc⟩ : ∃ c, (next (x :: t)).1 = c := ⟨_, rfl⟩
      rw [hcc] at hs hn ht
      have hp := enc_pos c
      rw [if_neg (by omega)] at hc
      have hd : (x :: t).drop (next (x :: t)).2 = t' := by
        rw [hn, ht, List.drop_left]
      have hl := congrArg List.length ht
      simp only [List.length_cons, List.length_append] at hl
      rw [hd] at hc
      obtain ⟨l, h1, h2⟩ := good_encs n t' _ (by omega) (by omega) hc
      refine ⟨c :: l, fun r hr => ?_, ?_⟩
      · rcases List.mem_cons.1 hr with rfl | hr
        · exact hs
        · exact h1 r hr
      · rw [ht, h2]; rfl

/-- the order of bytes -/
def lexB : List UInt8 → List UInt8 → Bool
  | [], [] => false
  | [], _ :: _ => true
  | _ :: _, [] => false
  | a :: l, b :: m => if a.toNat = b.toNat then lexB l m else decide (a.toNat < b.toNat)
theorem lexB_pre : ∀ (p x y : List UInt8), lexB (p ++ x) (p ++ y) = lexB x y
  | [], _, _ => rfl
  | a :: p, x, y => by rw [List.cons_append, List.cons_append, lexB, if_pos rfl]; exact lexB_pre p x y
theorem lexB_enc {r s : Int} (hr : sound r = true) (hs : sound s = true) (hne : r ≠ s) (x y : List UInt8) : lexB (enc r ++ x) (enc s ++ y) = decide (r < s) := by
  rw [sound_iff] at hr hs
  have h0 : 0 ≤ r ∧ r ≤ 1114111 := by omega
  have h1 : 0 ≤ s ∧ s ≤ 1114111 := by omega
  clear hr hs
  unfold enc
  repeat' split
  all_goals
    simp only [List.cons_append, List.nil_append, lexB]
    repeat rw [byte_toNat (by omega) (by omega)]
    repeat' split
    all_goals first | omega | (simp only [decide_eq_decide]; omega)
theorem lexB_encs : ∀ (l m : List Int), (∀ r ∈ l, sound r = true) → (∀ r ∈ m, sound r = true) → lexB (encs l) (encs m) = lessL l m
  | [], [], _, _ => rfl
  | [], b :: m, _, h => by
    obtain ⟨x, t, hx⟩ := enc_cons (h b (List.mem_cons_self ..))
    have e : encs (b :: m) = x :: (t ++ encs m) := by show enc b ++ encs m = _; rw [hx]; rfl
    rw [e]; rfl
  | a :: l, [], h, _ => by
    obtain ⟨x, t, hx⟩ := enc_cons (h a (List.mem_cons_self ..))
    have e : encs (a :: l) = x :: (t ++ encs l) := by show enc a ++ encs l = _; rw [hx]; rfl
    rw [e]; rfl
  | a :: l, b :: m, h, k => by
    have e1 : encs (a :: l) = enc a ++ encs l := rfl
    have e2 : encs (b :: m) = enc b ++ encs m := rfl
    rw [e1, e2, lessL]
    by_cases e : a = b
    · subst e
      rw [if_pos rfl, lexB_pre, lexB_encs l m (fun x hx => h x (List.mem_cons_of_mem _ hx)) (fun x hx => k x (List.mem_cons_of_mem _ hx))]
    · rw [if_neg e, lexB_enc (h a (List.mem_cons_self ..)) (k b (List.mem_cons_self ..)) e]
end Orange
