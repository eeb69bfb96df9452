/- Decimal numbers as texts, and back. Plain. -/
import Derived.Test.YtpheohgceepboaaDoorDecP
set_option linter.unusedVariables false
set_option linter.unusedSimpArgs false
set_option maxRecDepth 100000
namespace Orange

def decD (n : Nat) : List UInt8 := if n = 0 then [48] else digs n
def itoaP (n : Int) : List UInt8 := if n < 0 then 45 :: decD n.natAbs else decD n.toNat
def writtenP (d : Num) : List UInt8 :=
  if (d.digits.length : Int) ≤ height d ∧ height d ≤ 21 then d.digits ++ zeros (height d - d.digits.length).toNat
  else if 1 ≤ height d ∧ height d ≤ 21 then d.digits.take (height d).toNat ++ 46 :: d.digits.drop (height d).toNat
  else if -5 ≤ height d ∧ height d < 1 then 48 :: 46 :: (zeros (-height d).toNat ++ d.digits)
  else d.digits.take 1 ++ ((if 1 < d.digits.length then 46 :: d.digits.drop 1 else []) ++ ((if 0 < height d then [101, 43] else [101]) ++ itoaP (height d - 1)))
def printP (d : Num) : List UInt8 := if sane d = true then (if d.digits = [] then [48] else if d.neg then 45 :: writtenP d else writtenP d) else []

theorem digs_len (k : Nat) : ∀ N, N < 10 ^ k → (digs N).length ≤ k := by
  induction k with
  | zero => intro N h; have : N = 0 := by simpa using h
            subst this; rw [digs_zero]; simp
  | succ k ih =>
    intro N h
    by_cases h0 : N = 0
    · subst h0; rw [digs_zero]; simp
    · rw [digs_pos h0, List.length_append, List.length_singleton]
      have := ih (N / 10) (by rw [Nat.pow_succ] at h; omega)
      omega
theorem decD_all (n : Nat) : allD (decD n) := by
  unfold decD; split
  · intro c hc; have := List.mem_singleton.1 hc; subst this; rfl
  · exact digs_all n
theorem decD_val (n : Nat) : val (decD n) = n := by
  unfold decD; split
  · rename_i h; rw [h]; rfl
  · exact digs_val n
theorem decD_ne (n : Nat) : decD n ≠ [] := by
  unfold decD; split
  · simp
  · rename_i h; exact digs_ne h
theorem decD_len (k n : Nat) (hk : 1 ≤ k) (h : n < 10 ^ k) : (decD n).length ≤ k := by
  unfold decD; split
  · simpa using hk
  · exact digs_len k n h
theorem tw (W R : List UInt8) (hW : allD W) (hR : (R.head?.map isDig).getD false = false) : (W ++ R).takeWhile isDig = W ∧ (W ++ R).dropWhile isDig = R := by
  induction W with
  | nil =>
    cases R with
    | nil => exact ⟨rfl, rfl⟩
    | cons c t =>
      have : isDig c = false := by simpa using hR
      rw [List.nil_append, List.takeWhile_cons, List.dropWhile_cons, this]; exact ⟨rfl, rfl⟩
  | cons c t ih =>
    have h1 := ih hW.cons.2
    rw [List.cons_append, List.takeWhile_cons, List.dropWhile_cons, hW.cons.1]
    simp only [if_true]
    rw [h1.1, h1.2]; exact ⟨rfl, rfl⟩
theorem dig_digV {c : UInt8} (h : isDig c = true) : dig c = (digV c : Nat) := by
  have := (isDig_iff c).1 h; unfold dig digV; omega
theorem small_val : ∀ (l : List UInt8) (n : Nat), allD l → n * 10 ^ l.length + val l ≤ 1000000 → small l n = ((n * 10 ^ l.length + val l : Nat) : Int)
  | [], n, _, _ => by simp [small, val_nil]
  | c :: t, n, h, hb => by
    rw [val_cons, List.length_cons, Nat.pow_succ] at hb ⊢
    have hp := pow_pos10 t.length
    rw [small, dig_digV h.cons.1]
    have e : n * (10 ^ t.length * 10) + (digV c * 10 ^ t.length + val t) = (n * 10 + digV c) * 10 ^ t.length + val t := by
      generalize 10 ^ t.length = p
      generalize digV c = d
      grind
    rw [e] at hb ⊢
    have hle : n * 10 + digV c ≤ 1000000 := by
      have : (n * 10 + digV c) * 1 ≤ (n * 10 + digV c) * 10 ^ t.length := Nat.mul_le_mul_left _ hp
      omega
    have hm : min ((n : Int) * 10 + (digV c : Nat)) 1000000 = ((n * 10 + digV c : Nat) : Int) := by omega
    rw [hm]
    exact small_val t _ h.cons.2 hb
theorem small_decD (n : Nat) (h : n ≤ 1000000) : small (decD n) 0 = n := by
  have := small_val (decD n) 0 (decD_all n) (by rw [decD_val]; omega)
  rw [decD_val] at this
  simpa using this
theorem sane_normN {d : Num} (h : sane d = true) (h0 : d.digits ≠ []) : normN d.neg (val d.digits) d.exp = d := by
  have h1 := sane_norm h
  have hv : val d.digits ≠ 0 := by
    rcases sane_parts h with e | e
    · subst e; exact absurd rfl h0
    · exact val_pos e.2.1 h0 e.2.2.2.2.2.2.2.1
  have e : zv d d.exp = sgn d * (val d.digits : Nat) := by unfold zv; simp
  rw [e] at h1
  unfold normZ at h1
  have e2 : (sgn d * ((val d.digits : Nat) : Int)).natAbs = val d.digits := by unfold sgn; cases d.neg <;> simp
  have e3 : decide (sgn d * ((val d.digits : Nat) : Int) < 0) = d.neg := by unfold sgn; cases d.neg <;> simp <;> omega
  rw [e2, e3] at h1
  exact h1
/-- what a text of parts is -/
theorem mid_plain {neg : Bool} {W : List UInt8} (hW : allD W) (h0 : W ≠ []) (hz : ¬ (1 < W.length ∧ W.head? = some 48)) (R : List UInt8) (hR : (R.head?.map isDig).getD false = false) (h46 : R.head? ≠ some 46) :
    midP neg (W ++ R) = tailE neg W 0 R := by
  obtain ⟨t1, t2⟩ := tw W R hW hR
  unfold midP
  rw [t1, t2]
  have hh : (W ++ R).head? = W.head? := by cases W with | nil => exact absurd rfl h0 | cons c t => rfl
  rw [hh, if_neg (fun h => h.elim h0 hz), if_neg h46]
theorem mid_point {neg : Bool} {W P : List UInt8} (hW : allD W) (h0 : W ≠ []) (hz : ¬ (1 < W.length ∧ W.head? = some 48)) (hP : allD P) (hP0 : P ≠ []) (R : List UInt8) (hR : (R.head?.map isDig).getD false = false) :
    midP neg (W ++ 46 :: (P ++ R)) = tailE neg (W ++ P) (-(P.length : Int)) R := by
  obtain ⟨t1, t2⟩ := tw W (46 :: (P ++ R)) hW rfl
  obtain ⟨t3, t4⟩ := tw P R hP hR
  unfold midP
  rw [t1, t2]
  have hh : (W ++ 46 :: (P ++ R)).head? = W.head? := by cases W with | nil => exact absurd rfl h0 | cons c t => rfl
  rw [hh, if_neg (fun h => h.elim h0 hz), List.head?_cons, if_pos rfl, List.drop_succ_cons, List.drop_zero, t3, t4, if_neg hP0]
theorem tail_nil (neg : Bool) (all : List UInt8) (x : Int) (ha : allD all) : tailE neg all x [] = toldP (normN neg (val all) x) := by
  unfold tailE
  have e : expP [] = (0, [], true) := rfl
  rw [e]
  simp only [Int.add_zero]
  rw [formP_told, formR_norm _ _ _ ha]; rfl
theorem tail_plus (neg : Bool) (all : List UInt8) (x : Int) (ha : allD all) (k : Nat) (hk : k ≤ 1000000) (e : UInt8) (he : isE e = true) : tailE neg all x (e :: 43 :: decD k) = toldP (normN neg (val all) (x + k)) := by
  unfold tailE
  have t := tw (decD k) [] (decD_all k) rfl
  rw [List.append_nil] at t
  rw [expP_yes e (43 :: decD k) (decD k) he (by simp), t.1, t.2, small_decD k hk]
  have h0 := decD_ne k
  have h1 : (decD k).isEmpty = false := by simpa using h0
  simp only [h1]
  rw [if_neg (by decide), if_neg (show ¬ ((43 : UInt8) :: decD k).head? = some 45 by simp), formP_told, formR_norm _ _ _ ha]
theorem tail_minus (neg : Bool) (all : List UInt8) (x : Int) (ha : allD all) (k : Nat) (hk : k ≤ 1000000) (e : UInt8) (he : isE e = true) : tailE neg all x (e :: 45 :: decD k) = toldP (normN neg (val all) (x - k)) := by
  unfold tailE
  have t := tw (decD k) [] (decD_all k) rfl
  rw [List.append_nil] at t
  rw [expP_yes e (45 :: decD k) (decD k) he (by simp), t.1, t.2, small_decD k hk]
  have h0 := decD_ne k
  have h1 : (decD k).isEmpty = false := by simpa using h0
  simp only [h1]
  rw [if_neg (by decide), if_pos (show ((45 : UInt8) :: decD k).head? = some 45 from rfl), formP_told, formR_norm _ _ _ ha]; rfl
theorem written_back {d : Num} (h : sane d = true) (h0 : d.digits ≠ []) : midP d.neg (writtenP d) = (d, 0) ∧ (writtenP d).length ≤ 100 ∧ (writtenP d).head? ≠ some 45 := by
  have hN := sane_normN h h0
  have hT := toldP_sane h
  rcases sane_parts h with e | ⟨_, ha, hl, hh1, hh2, hx1, hx2, hh, hg⟩
  · subst e; exact absurd rfl h0
  obtain ⟨neg, l, x⟩ := d
  simp only at *
  have hhd : height ⟨neg, l, x⟩ = (l.length : Int) + x := rfl
  obtain ⟨c, t, rfl⟩ : ∃ c t, l = c :: t := by cases l with | nil => exact absurd rfl h0 | cons c t => exact ⟨c, t, rfl⟩
  have hc48 : c ≠ 48 := by simpa using hh
  have hc45 : c ≠ 45 := fun e => by have := ha.cons.1; rw [e] at this; exact absurd this (by decide)
  have hlen : (c :: t).length = t.length + 1 := rfl
  obtain ⟨H, hH⟩ : ∃ H, height ⟨neg, c :: t, x⟩ = H := ⟨_, rfl⟩
  rw [hH] at hh1 hh2 hhd
  have hnz : ∀ W : List UInt8, W.head? = some c → ¬ (1 < W.length ∧ W.head? = some 48) := fun W hW hz => by
    rw [hW] at hz; exact hc48 (by simpa using hz.2)
  unfold writtenP
  simp only [hH]
  split
  · rename_i h1
    obtain ⟨k, hk⟩ : ∃ k : Nat, (H - (c :: t).length).toNat = k := ⟨_, rfl⟩
    rw [hk]
    have hkx : x = k := by omega
    have hall : allD (c :: t ++ zeros k) := ha.app (allD_zeros k)
    have := mid_plain (neg := neg) hall (by simp) (hnz _ rfl) [] rfl (by simp)
    rw [List.append_nil] at this
    refine ⟨?_, by rw [List.length_append, zeros_len]; omega, by simpa using hc45⟩
    rw [this, tail_nil _ _ _ hall, val_app, val_zeros, zeros_len, Nat.add_zero, normN_pow, Int.zero_add, ← hkx, hN, hT]
  · rename_i h1
    split
    · rename_i h2
      obtain ⟨k, hk⟩ : ∃ k : Nat, H.toNat = k := ⟨_, rfl⟩
      rw [hk]
      have hkn : k < (c :: t).length := by omega
      have hk1 : 1 ≤ k := by omega
      have htk : ((c :: t).take k).head? = some c := by obtain ⟨k, rfl⟩ : ∃ j, k = j + 1 := ⟨k - 1, by omega⟩; rfl
      have hd0 : (c :: t).drop k ≠ [] := fun e => by have := congrArg List.length e; simp only [List.length_drop, List.length_nil] at this; omega
      have := mid_point (neg := neg) (W := (c :: t).take k) (P := (c :: t).drop k) (ha.sub (fun x hx => List.mem_of_mem_take hx)) (fun e => by rw [e] at htk; cases htk) (hnz _ htk) (ha.sub (fun x hx => List.mem_of_mem_drop hx)) hd0 [] rfl
      rw [List.append_nil] at this
      refine ⟨?_, by simp only [List.length_append, List.length_cons, List.length_take, List.length_drop]; omega, ?_⟩
      · rw [this, List.take_append_drop, tail_nil _ _ _ ha]
        have e : -(((c :: t).drop k).length : Int) = x := by rw [List.length_drop]; omega
        rw [e, hN, hT]
      · rw [List.head?_append, htk]; simpa using hc45
    · rename_i h2
      split
      · rename_i h3
        obtain ⟨k, hk⟩ : ∃ k : Nat, (-H).toNat = k := ⟨_, rfl⟩
        rw [hk]
        have hall : allD (zeros k ++ c :: t) := (allD_zeros k).app ha
        have := mid_point (neg := neg) (W := [48]) (P := zeros k ++ c :: t) (fun c hc => by rw [List.mem_singleton.1 hc]; rfl) (by simp) (by simp) hall (by simp) [] rfl
        rw [List.append_nil] at this
        refine ⟨?_, by simp only [List.length_append, List.length_cons, zeros_len]; omega, by simp⟩
        have e48 : allD [48] := fun c hc => by rw [List.mem_singleton.1 hc]; rfl
        have e : midP neg (48 :: 46 :: (zeros k ++ c :: t)) = _ := this
        rw [e, tail_nil _ _ _ (e48.app hall)]
        have ev : val ([48] ++ (zeros k ++ c :: t)) = val (c :: t) := by
          rw [val_app, val_app, val_zeros]
          have : val [48] = 0 := rfl
          rw [this]; simp
        have ee : -((zeros k ++ c :: t).length : Int) = x := by rw [List.length_append, zeros_len]; omega
        rw [ev, ee, hN, hT]
      · rename_i h3
        have hbig : 21 < H ∨ H < -5 := by omega
        obtain ⟨E, hE⟩ : ∃ E, (if 0 < H then [101, 43] else [101]) ++ itoaP (H - 1) = E := ⟨_, rfl⟩
        rw [hE]
        have c1 : allD [c] := fun y hy => by rw [List.mem_singleton.1 hy]; exact ha.cons.1
        have hEl : E.length ≤ 10 ∧ (E.head?.map isDig).getD false = false ∧ E.head? ≠ some 46 := by
          rw [← hE]
          have hl1 := decD_len 4 (H - 1).toNat (by omega) (by omega)
          have hl2 := decD_len 4 (H - 1).natAbs (by omega) (by omega)
          unfold itoaP
          generalize decD (H - 1).natAbs = D1 at *
          generalize decD (H - 1).toNat = D2 at *
          split <;> split <;> exact ⟨by simp; omega, by rfl, by simp⟩
        have key : ∀ y : Int, tailE neg (c :: t) y E = toldP (normN neg (val (c :: t)) (y + (H - 1))) := fun y => by
          rw [← hE]
          rcases hbig with hb | hb
          · rw [if_pos (by omega)]
            unfold itoaP
            rw [if_neg (by omega)]
            show tailE neg (c :: t) y (101 :: 43 :: decD (H - 1).toNat) = _
            rw [tail_plus neg _ y ha _ (by omega) 101 (by decide)]
            congr 2; omega
          · rw [if_neg (by omega)]
            unfold itoaP
            rw [if_pos (by omega)]
            show tailE neg (c :: t) y (101 :: 45 :: decD (H - 1).natAbs) = _
            rw [tail_minus neg _ y ha _ (by omega) 101 (by decide)]
            congr 2; omega
        rw [List.take_succ_cons, List.take_zero, List.drop_succ_cons, List.drop_zero]
        by_cases h4 : 1 < (c :: t).length
        · rw [if_pos h4]
          have ht0 : t ≠ [] := fun e => by rw [e] at h4; simp at h4
          have := mid_point (neg := neg) (W := [c]) (P := t) c1 (by simp) (hnz _ rfl) ha.cons.2 ht0 E hEl.2.1
          refine ⟨?_, by simp only [List.length_append, List.length_cons, List.length_nil]; omega, by simpa using hc45⟩
          have e : midP neg (c :: ([] ++ (46 :: t ++ E))) = _ := this
          show midP neg (c :: ([] ++ (46 :: t ++ E))) = _
          rw [e]
          show tailE neg (c :: t) _ E = _
          rw [key]
          have ee : -(t.length : Int) + (H - 1) = x := by omega
          rw [ee, hN, hT]
        · rw [if_neg h4, List.nil_append]
          have ht0 : t = [] := List.eq_nil_of_length_eq_zero (by omega)
          subst ht0
          have := mid_plain (neg := neg) c1 (by simp) (hnz _ rfl) E hEl.2.1 hEl.2.2
          refine ⟨?_, by simp only [List.length_append, List.length_cons, List.length_nil]; omega, by simpa using hc45⟩
          rw [this, key]
          have ee : (0 : Int) + (H - 1) = x := by simp at hlen hhd; omega
          rw [ee, hN, hT]
/-- THERE AND BACK -/
theorem print_back {d : Num} (h : sane d = true) : decP (printP d) = (d, 0) ∧ (printP d).length ≤ 101 := by
  unfold printP
  rw [if_pos h]
  by_cases h0 : d.digits = []
  · rw [if_pos h0]
    rcases sane_parts h with e | e
    · subst e; exact ⟨by decide +kernel, by decide⟩
    · exact absurd h0 e.1
  · rw [if_neg h0]
    obtain ⟨h1, h2, h3⟩ := written_back h h0
    cases hn : d.neg with
    | true =>
      rw [if_pos rfl]
      refine ⟨?_, by rw [List.length_cons]; omega⟩
      rw [decP_mid _ (by rw [List.length_cons]; omega)]
      rw [hn] at h1
      simpa using h1
    | false =>
      rw [if_neg (by decide)]
      refine ⟨?_, by omega⟩
      rw [decP_mid _ (by omega), if_neg h3]
      rw [hn] at h1
      have : decide ((writtenP d).head? = some 45) = false := by simpa using h3
      rw [this]; exact h1
theorem tailE_sane (neg : Bool) (all : List UInt8) (x : Int) (R : List UInt8) : (tailE neg all x R).2 = 0 → sane (tailE neg all x R).1 = true := by
  unfold tailE
  split
  · intro h; cases h
  · intro h
    rw [formP_told] at h ⊢
    obtain ⟨h1, h2⟩ := toldP_ok h
    rw [h1]; exact h2
theorem decP_sane (l : List UInt8) : (decP l).2 = 0 → sane (decP l).1 = true := by
  rcases Nat.lt_or_ge 1000 l.length with h | h
  · intro h2; unfold decP at h2; rw [if_pos h] at h2; cases h2
  · rw [decP_mid l h]
    generalize (if l.head? = some 45 then l.drop 1 else l) = u
    generalize decide (l.head? = some 45) = neg
    unfold midP
    split
    · intro h; cases h
    · split
      · split
        · intro h; cases h
        · exact tailE_sane _ _ _ _
      · exact tailE_sane _ _ _ _
end Orange
