/- dec: what Add does. -/
import Derived.Test.YtpheohgceepboaaDoorDecG
set_option linter.unusedVariables false
set_option linter.unusedSimpArgs false
set_option maxRecDepth 100000
namespace Go.Proofs.YtpheohgceepboaaDoor
open Go.RowKit Go.Mem Orange

theorem sumF_congr {F G : Nat → Int} : ∀ n, (∀ i, i < n → F i = G i) → sumF F n = sumF G n
  | 0, _ => rfl
  | n + 1, h => by rw [sumF, sumF, sumF_congr n (fun i hi => h i (by omega)), h n (by omega)]
theorem sumF_tail {F : Nat → Int} (m : Nat) : ∀ n, m ≤ n → (∀ i, m ≤ i → i < n → F i = 0) → sumF F n = sumF F m
  | 0, h, _ => by have : m = 0 := by omega
                  rw [this]
  | n + 1, h, hz => by
    by_cases e : m = n + 1
    · rw [e]
    · rw [sumF, sumF_tail m n (by omega) (fun i h1 h2 => hz i h1 (by omega)), hz n (by omega) (by omega)]; simp
theorem sumF_add (F G : Nat → Int) : ∀ n, sumF (fun i => F i + G i) n = sumF F n + sumF G n
  | 0 => rfl
  | n + 1 => by
    rw [sumF, sumF, sumF, sumF_add F G n]
    generalize ((10 ^ n : Nat) : Int) = p
    grind
theorem sumF_sub (F G : Nat → Int) : ∀ n, sumF (fun i => F i - G i) n = sumF F n - sumF G n
  | 0 => rfl
  | n + 1 => by
    rw [sumF, sumF, sumF, sumF_sub F G n]
    generalize ((10 ^ n : Nat) : Int) = p
    grind
theorem colF_cons (c : UInt8) (t : List UInt8) (at0 i : Nat) : colF (c :: t) at0 i = if i = at0 + t.length then ((digV c : Nat) : Int) else colF t at0 i := by
  unfold colF
  simp only [List.length_cons]
  by_cases h : i = at0 + t.length
  · subst h
    rw [if_pos rfl, if_pos (by omega)]
    have e : t.length + 1 - 1 - (at0 + t.length - at0) = 0 := by omega
    rw [e]; rfl
  · rw [if_neg h]
    by_cases h2 : at0 ≤ i ∧ i < at0 + t.length
    · rw [if_pos h2, if_pos (by omega)]
      have e : t.length + 1 - 1 - (i - at0) = (t.length - 1 - (i - at0)) + 1 := by omega
      rw [e]; rfl
    · rw [if_neg h2, if_neg (by omega)]
theorem sum_col (at0 : Nat) : ∀ (l : List UInt8), sumF (colF l at0) (at0 + l.length) = ((val l * 10 ^ at0 : Nat) : Int)
  | [] => by
    rw [val_nil, Nat.zero_mul]
    have := sumF_tail (F := colF [] at0) 0 (at0 + 0) (by omega) (fun i _ _ => by unfold colF; rw [if_neg (by simp)])
    simpa [sumF] using this
  | c :: t => by
    have e : at0 + (c :: t).length = (at0 + t.length) + 1 := by simp; omega
    rw [e, sumF, colF_cons, if_pos rfl]
    have h := sumF_congr (F := colF (c :: t) at0) (G := colF t at0) (at0 + t.length) (fun i hi => by rw [colF_cons, if_neg (by omega)])
    rw [h, sum_col at0 t, val_cons, Nat.pow_add]
    generalize 10 ^ at0 = p
    generalize 10 ^ t.length = q
    generalize val t = v
    generalize digV c = d
    simp only [Int.natCast_add, Int.natCast_mul]
    grind
theorem sum_colN (l : List UInt8) (at0 n : Nat) (h : at0 + l.length ≤ n) : sumF (colF l at0) n = ((val l * 10 ^ at0 : Nat) : Int) := by
  rw [sumF_tail (at0 + l.length) n h (fun i h1 h2 => by unfold colF; rw [if_neg (by omega)]), sum_col]
theorem colF_bd (l : List UInt8) (ha : allD l) (at0 i : Nat) : 0 ≤ colF l at0 i ∧ colF l at0 i ≤ 9 := by
  unfold colF
  split
  · rename_i h
    have hj : l.length - 1 - (i - at0) < l.length := by omega
    rw [List.getD_eq_getElem?_getD, List.getElem?_eq_getElem hj]
    have := digV_lt (ha l[l.length - 1 - (i - at0)] (List.getElem_mem hj))
    simp only [Option.getD_some]; omega
  · omega
theorem norm_sgn (neg : Bool) (N : Nat) (x : Int) : normN neg N x = normZ (if neg then -(N : Int) else N) x := by
  unfold normZ
  by_cases h : N = 0
  · subst h; cases neg <;> rfl
  · cases neg with
    | true =>
      simp only [if_true]
      rw [show (-(N : Int)).natAbs = N by omega, decide_eq_true (by omega : -(N : Int) < 0)]
    | false =>
      simp only [Bool.false_eq_true, if_false]
      rw [show ((N : Int)).natAbs = N by omega, decide_eq_false (by omega : ¬ ((N : Int) < 0))]
def addF (a b : Num) (m : Int) : Nat → Int := fun i => if a.neg = b.neg then colF a.digits (a.exp - m).toNat i + colF b.digits (b.exp - m).toNat i else colF a.digits (a.exp - m).toNat i - colF b.digits (b.exp - m).toNat i
theorem addF_bd (a b : Num) (m : Int) (ha : allD a.digits) (hb : allD b.digits) (i : Nat) : -1000000 ≤ addF a b m i ∧ addF a b m i ≤ 1000000 := by
  have h1 := colF_bd a.digits ha (a.exp - m).toNat i
  have h2 := colF_bd b.digits hb (b.exp - m).toNat i
  unfold addF; split <;> omega
theorem add_form {a b : Num} (ha : sane a = true) (hb : sane b = true) (ha0 : a.digits ≠ []) (m : Int) (h1 : m ≤ a.exp) (h2 : m ≤ b.exp) (hle : av b m ≤ av a m) (n : Nat) (hn : ((n : Nat) : Int) = height a - m + 1) (hnb : height b ≤ height a) :
    formP a.neg (outL (addF a b m) n) m = toldP (normZ (zv a m + zv b m) m) := by
  have hal := sane_all ha
  have hbl := sane_all hb
  have hva := val_lt a.digits hal
  have hna : (a.exp - m).toNat + a.digits.length ≤ n - 1 ∧ 1 ≤ n := by unfold height at hn; omega
  have hnb2 : (b.exp - m).toNat + b.digits.length ≤ n := by unfold height at hn hnb; omega
  have sA : sumF (colF a.digits (a.exp - m).toNat) n = av a m := sum_colN _ _ _ (by omega)
  have sB : sumF (colF b.digits (b.exp - m).toNat) n = av b m := sum_colN _ _ _ hnb2
  have hAlt : av a m < ((10 ^ (n - 1) : Nat) : Int) := by
    unfold av
    have e1 : val a.digits * 10 ^ (a.exp - m).toNat < 10 ^ (a.digits.length + (a.exp - m).toNat) := by
      rw [Nat.pow_add]; exact Nat.mul_lt_mul_of_pos_right hva (pow_pos10 _)
    have e2 : (10 : Nat) ^ (a.digits.length + (a.exp - m).toNat) ≤ 10 ^ (n - 1) := Nat.pow_le_pow_right (by omega) (by omega)
    omega
  have hp : ((10 ^ n : Nat) : Int) = 10 * ((10 ^ (n - 1) : Nat) : Int) := by
    have : n = (n - 1) + 1 := by omega
    rw [this, Nat.pow_succ]; simp; omega
  have hB0 := av_nonneg b m
  have hA0 := av_nonneg a m
  have hs : sumF (addF a b m) n = if a.neg = b.neg then av a m + av b m else av a m - av b m := by
    by_cases h : a.neg = b.neg
    · rw [if_pos h, ← sA, ← sB, ← sumF_add]
      exact sumF_congr n (fun i _ => by unfold addF; rw [if_pos h])
    · rw [if_neg h, ← sA, ← sB, ← sumF_sub]
      exact sumF_congr n (fun i _ => by unfold addF; rw [if_neg h])
  have hb1 : 0 ≤ sumF (addF a b m) n ∧ sumF (addF a b m) n < ((10 ^ n : Nat) : Int) := by
    rw [hs]; split <;> omega
  have hv := out_val (addF a b m) n hb1.1 hb1.2
  rw [formP_told, formR_norm _ _ _ (outL_all _ n), norm_sgn, hv, hs]
  congr 2
  rw [zv_av, zv_av]
  cases hq : a.neg <;> cases hr : b.neg <;> simp <;> omega
theorem addP_comm (a b : Num) : addP a b = addP b a := by
  by_cases h : sane a = true ∧ sane b = true
  · rw [addP_at h.1 h.2 (low a b) under.low.1 under.low.2, addP_at h.2 h.1 (low a b) under.low.2 under.low.1, Int.add_comm]
  · unfold addP; rw [if_neg h, if_neg (fun h2 => h ⟨h2.2, h2.1⟩)]
theorem height_le_of {a b : Num} (ha : sane a = true) (hb : sane b = true) (ha0 : a.digits ≠ []) (hb0 : b.digits ≠ []) (h : av b (low a b) ≤ av a (low a b)) : height b ≤ height a := by
  rcases Int.lt_or_le (height a) (height b) with q | q
  · have := height_lt ha hb ha0 hb0 q (low a b) (by unfold low; omega) (by unfold low; omega)
    omega
  · exact q
def AddMid (w wx : World) (R : Num × Int) : Prop := ∃ A B : Num, NumAt wx w.heap.size A ∧ NumAt wx (w.heap.size + 1) B ∧ NumAt wx (w.heap.size + 2) Num.zero ∧ Ext w wx ∧ sane A = true ∧ sane B = true ∧ A.digits ≠ [] ∧ B.digits ≠ [] ∧ av B (low A B) ≤ av A (low A B) ∧ R = toldP (normZ (zv A (low A B) + zv B (low A B)) (low A B))
-- the end of Add: store the number and the error. $1: NumAt of the result's block ahead; $2: Below; $3 the number; $4 the error; HF : Hid (addP a b = ($3, $4))
set_option maxHeartbeats 6400000 in
theorem add_any (a b : Num) (w : World) (hal : a.digits.length ≤ 140737488355328) (hbl : b.digits.length ≤ 140737488355328) :
    Calls Tryd.prog 17 #[.agg #[.bool a.neg, .string ⟨a.digits.toArray⟩, .int .i64 a.exp], .agg #[.bool b.neg, .string ⟨b.digits.toArray⟩, .int .i64 b.exp]] w fun e w' => e = .returned (.tuple #[.agg #[.bool (addP a b).1.neg, .string ⟨(addP a b).1.digits.toArray⟩, .int .i64 (addP a b).1.exp], .int .i64 (addP a b).2]) ∧ Ext w w' := by
  have HP : Hid (addP a b = if sane a = true ∧ sane b = true then (if a.digits = [] then (b, 0) else if b.digits = [] then (a, 0) else toldP (normZ (zv a (low a b) + zv b (low a b)) (low a b))) else (Num.zero, 1)) := Lib.hid rfl
  obtain ⟨an, al, ax⟩ := a
  obtain ⟨bn, bl, bx⟩ := b
  simp only at hal hbl HP
  have hm1 := NumAt.new w ⟨an, al, ax⟩
  have hE1 : Ext w (w.alloc (.cells #[.bool an, .string ⟨al.toArray⟩, .int .i64 ax] 25)) := (ext_refl w).alloc (Nat.le_refl _) _
  have hs1 : (w.alloc (.cells #[.bool an, .string ⟨al.toArray⟩, .int .i64 ax] 25)).heap.size = w.heap.size + 1 := by simp
  have hm2 := NumAt.new (w.alloc (.cells #[.bool an, .string ⟨al.toArray⟩, .int .i64 ax] 25)) ⟨bn, bl, bx⟩
  have hE2 : Ext (w.alloc (.cells #[.bool an, .string ⟨al.toArray⟩, .int .i64 ax] 25)) ((w.alloc (.cells #[.bool an, .string ⟨al.toArray⟩, .int .i64 ax] 25)).alloc (.cells #[.bool bn, .string ⟨bl.toArray⟩, .int .i64 bx] 25)) := (ext_refl _).alloc (Nat.le_refl _) _
  rw [hs1] at hm2
  have hm1' := hm1.ext hE2
  have hE := ext_trans hE1 hE2
  simp only at hm1' hm2
  clear hm1 hE1 hE2 hs1
  have hm3 := NumAt.new ((w.alloc (.cells #[.bool an, .string ⟨al.toArray⟩, .int .i64 ax] 25)).alloc (.cells #[.bool bn, .string ⟨bl.toArray⟩, .int .i64 bx] 25)) Num.zero
  have hE3 : Ext ((w.alloc (.cells #[.bool an, .string ⟨al.toArray⟩, .int .i64 ax] 25)).alloc (.cells #[.bool bn, .string ⟨bl.toArray⟩, .int .i64 bx] 25)) (((w.alloc (.cells #[.bool an, .string ⟨al.toArray⟩, .int .i64 ax] 25)).alloc (.cells #[.bool bn, .string ⟨bl.toArray⟩, .int .i64 bx] 25)).alloc (.cells #[.bool false, .string ⟨#[]⟩, .int .i64 0] 25)) := (ext_refl _).alloc (Nat.le_refl _) _
  have hs3 : ((w.alloc (.cells #[.bool an, .string ⟨al.toArray⟩, .int .i64 ax] 25)).alloc (.cells #[.bool bn, .string ⟨bl.toArray⟩, .int .i64 bx] 25)).heap.size = w.heap.size + 2 := by simp
  rw [hs3] at hm3
  simp only [Num.zero] at hm3
  have hA := hm1'.ext hE3
  have hB := hm2.ext hE3
  have hE' := ext_trans hE hE3
  clear hm1' hm2 hE hE3 hs3
  go_enter Tryd.func17, Tryd.ntmps17
  go_wp2_with fail
  generalize ((w.alloc (.cells #[.bool an, .string ⟨al.toArray⟩, .int .i64 ax] 25)).alloc (.cells #[.bool bn, .string ⟨bl.toArray⟩, .int .i64 bx] 25)).alloc (.cells #[.bool false, .string ⟨#[]⟩, .int .i64 0] 25) = w2 at *
  have hR : NumAt w2 (w.heap.size + 2) Num.zero := hm3
  refine (sane_any ⟨an, al, ax⟩ _ hal).mono ?_
  rintro e w3 ⟨rfl, hw3⟩
  have hE3 := ext_trans hE' hw3
  have HA := Lib.hid (hA.ext hw3)
  have HB := Lib.hid (hB.ext hw3)
  have HR := Lib.hid (hR.ext hw3)
  clear hA hB hR hm3 hE' hw3
  obtain ⟨c0, c1, c2, f0, f1, f2, hp⟩ := (HA.out).cells
  obtain ⟨d0, d1, d2, g0, g1, g2, hq⟩ := (HB.out).cells
  obtain ⟨v0, v1, v2, q0, q1, q2, hr⟩ := (HR.out).cells
  simp only [Num.zero] at c0 c1 c2 d0 d1 d2 v0 v1 v2
  cases hsa : sane ⟨an, al, ax⟩ with
  | false =>
    have HF : Hid (addP ⟨an, al, ax⟩ ⟨bn, bl, bx⟩ = (Num.zero, 1)) := Lib.hid (by rw [HP.out, if_neg (fun h => by rw [hsa] at h; cases h.1)])
    clear hsa HP
    go_wp2_with fail
    have hN := ((HR.out).store (Num.zero)).cells
    simp only [Num.zero] at hN
    obtain ⟨r0, r1, r2, _⟩ := hN
    exact bodyPost_ret (v := .tuple #[.agg #[.bool (Num.zero).neg, .string ⟨(Num.zero).digits.toArray⟩, .int .i64 (Num.zero).exp], .int .i64 (1)]) (by simp [results, Num.zero, Tryd.results17, go_sem, r0, r1, r2]) rfl ⟨by rw [HF.out], below_store (hE3) (by omega) _ _ _⟩
  | true =>
    have HSA := Lib.hid hsa
    clear hsa
    go_wp2_with fail
    refine (sane_any ⟨bn, bl, bx⟩ _ hbl).mono ?_
    rintro e w4 ⟨rfl, hw4⟩
    have hE4 := ext_trans hE3 hw4
    have HA4 := Lib.hid (HA.out.ext hw4)
    have HB4 := Lib.hid (HB.out.ext hw4)
    have HR4 := Lib.hid (HR.out.ext hw4)
    clear HA HB HR hw4 hE3 c0 c1 c2 f0 f1 f2 hp d0 d1 d2 g0 g1 g2 hq v0 v1 v2 q0 q1 q2 hr
    obtain ⟨c0, c1, c2, f0, f1, f2, hp⟩ := (HA4.out).cells
    obtain ⟨d0, d1, d2, g0, g1, g2, hq⟩ := (HB4.out).cells
    obtain ⟨v0, v1, v2, q0, q1, q2, hr⟩ := (HR4.out).cells
    simp only [Num.zero] at c0 c1 c2 d0 d1 d2 v0 v1 v2
    cases hsb : sane ⟨bn, bl, bx⟩ with
    | false =>
      have HF : Hid (addP ⟨an, al, ax⟩ ⟨bn, bl, bx⟩ = (Num.zero, 1)) := Lib.hid (by rw [HP.out, if_neg (fun h => by rw [hsb] at h; cases h.2)])
      clear hsb HP
      go_wp2_with fail
      have hN := ((HR4.out).store (Num.zero)).cells
      simp only [Num.zero] at hN
      obtain ⟨r0, r1, r2, _⟩ := hN
      exact bodyPost_ret (v := .tuple #[.agg #[.bool (Num.zero).neg, .string ⟨(Num.zero).digits.toArray⟩, .int .i64 (Num.zero).exp], .int .i64 (1)]) (by simp [results, Num.zero, Tryd.results17, go_sem, r0, r1, r2]) rfl ⟨by rw [HF.out], below_store (hE4) (by omega) _ _ _⟩
    | true =>
      have HSB := Lib.hid hsb
      have HP2 := Lib.hid (HP.out.trans (if_pos ⟨HSA.out, hsb⟩))
      clear hsb HP
      by_cases ha0 : al = []
      · have HF := Lib.hid (HP2.out.trans (if_pos ha0))
        subst ha0
        clear HP2
        go_wp2_with fail
        have hN := ((HR4.out).store ((⟨bn, bl, bx⟩ : Num))).cells
        simp only [Num.zero] at hN
        obtain ⟨r0, r1, r2, _⟩ := hN
        exact bodyPost_ret (v := .tuple #[.agg #[.bool ((⟨bn, bl, bx⟩ : Num)).neg, .string ⟨((⟨bn, bl, bx⟩ : Num)).digits.toArray⟩, .int .i64 ((⟨bn, bl, bx⟩ : Num)).exp], .int .i64 (0)]) (by simp [results, Num.zero, Tryd.results17, go_sem, r0, r1, r2]) rfl ⟨by rw [HF.out], below_store (hE4) (by omega) _ _ _⟩
      · have HP3 := Lib.hid (HP2.out.trans (if_neg ha0))
        have hae : al.isEmpty = false := by simpa using ha0
        have HA0 := Lib.hid ha0
        clear HP2 ha0
        by_cases hb0 : bl = []
        · have HF := Lib.hid (HP3.out.trans (if_pos hb0))
          subst hb0
          clear HP3
          go_wp2_with fail
          have hN := ((HR4.out).store ((⟨an, al, ax⟩ : Num))).cells
          simp only [Num.zero] at hN
          obtain ⟨r0, r1, r2, _⟩ := hN
          exact bodyPost_ret (v := .tuple #[.agg #[.bool ((⟨an, al, ax⟩ : Num)).neg, .string ⟨((⟨an, al, ax⟩ : Num)).digits.toArray⟩, .int .i64 ((⟨an, al, ax⟩ : Num)).exp], .int .i64 (0)]) (by simp [results, Num.zero, Tryd.results17, go_sem, r0, r1, r2]) rfl ⟨by rw [HF.out], below_store (hE4) (by omega) _ _ _⟩
        · have HP4 := Lib.hid (HP3.out.trans (if_neg hb0))
          have hbe : bl.isEmpty = false := by simpa using hb0
          have HB0 := Lib.hid hb0
          clear HP3 hb0
          go_wp2_with fail
          refine (size_any ⟨an, al, ax⟩ ⟨bn, bl, bx⟩ _ HSA.out HSB.out).mono ?_
          rintro e w5 ⟨rfl, hw5⟩
          have hE5 := ext_trans hE4 hw5
          have HA5 := Lib.hid (HA4.out.ext hw5)
          have HB5 := Lib.hid (HB4.out.ext hw5)
          have HR5 := Lib.hid (HR4.out.ext hw5)
          clear HA4 HB4 HR4 hw5 hE4 c0 c1 c2 f0 f1 f2 hp d0 d1 d2 g0 g1 g2 hq v0 v1 v2 q0 q1 q2 hr
          obtain ⟨c0, c1, c2, f0, f1, f2, hp⟩ := (HA5.out).cells
          obtain ⟨d0, d1, d2, g0, g1, g2, hq⟩ := (HB5.out).cells
          obtain ⟨v0, v1, v2, q0, q1, q2, hr⟩ := (HR5.out).cells
          simp only [Num.zero] at c0 c1 c2 d0 d1 d2 v0 v1 v2
          have hsz := sizeP_av HSA.out HSB.out
          obtain ⟨z, hz⟩ : ∃ z, sizeP ⟨an, al, ax⟩ ⟨bn, bl, bx⟩ = z := ⟨_, rfl⟩
          rw [hz] at hsz ⊢
          have HSZ := Lib.hid hsz
          clear hz hsz
          go_upto_if 34 with fail
          go_cut [] (fun wx => AddMid w wx (addP ⟨an, al, ax⟩ ⟨bn, bl, bx⟩))
          case first =>
            by_cases hz : z < 0
            · have hle : av ⟨an, al, ax⟩ (low ⟨bn, bl, bx⟩ ⟨an, al, ax⟩) ≤ av ⟨bn, bl, bx⟩ (low ⟨bn, bl, bx⟩ ⟨an, al, ax⟩) := by
                rw [low_comm]
                have := HSZ.out
                unfold cmpZ at this
                split at this
                · omega
                · split at this <;> omega
              have hp4 := HP4.out
              rw [Int.add_comm, low_comm] at hp4
              have HP5 := Lib.hid hp4
              clear HP4 hp4 HSZ
              go_wp2_with fail
              go_meet
              have n1 : w.heap.size ≠ w.heap.size + 1 := by omega
              have n2 : w.heap.size + 1 ≠ w.heap.size := by omega
              have n3 : w.heap.size + 2 ≠ w.heap.size := by omega
              have n4 : w.heap.size + 2 ≠ w.heap.size + 1 := by omega
              have x1 := HA5.out.store ⟨bn, bl, bx⟩
              have x2 := ((HB5.out.setOther (q := w.heap.size) (i := 0) n2 (.bool bn)).setOther (q := w.heap.size) (i := 1) n2 (.string ⟨bl.toArray⟩)).setOther (q := w.heap.size) (i := 2) n2 (.int .i64 bx)
              have x3 := ((HR5.out.setOther (q := w.heap.size) (i := 0) n3 (.bool bn)).setOther (q := w.heap.size) (i := 1) n3 (.string ⟨bl.toArray⟩)).setOther (q := w.heap.size) (i := 2) n3 (.int .i64 bx)
              have y1 := ((x1.setOther (q := w.heap.size + 1) (i := 0) n1 (.bool an)).setOther (q := w.heap.size + 1) (i := 1) n1 (.string ⟨al.toArray⟩)).setOther (q := w.heap.size + 1) (i := 2) n1 (.int .i64 ax)
              have y2 := x2.store ⟨an, al, ax⟩
              have y3 := ((x3.setOther (q := w.heap.size + 1) (i := 0) n4 (.bool an)).setOther (q := w.heap.size + 1) (i := 1) n4 (.string ⟨al.toArray⟩)).setOther (q := w.heap.size + 1) (i := 2) n4 (.int .i64 ax)
              exact ⟨⟨bn, bl, bx⟩, ⟨an, al, ax⟩, y1, y2, y3, below_store (below_store hE5 (Nat.le_refl _) _ _ _) (by omega) _ _ _, HSB.out, HSA.out, HB0.out, HA0.out, hle, HP5.out⟩
            · have hle : av ⟨bn, bl, bx⟩ (low ⟨an, al, ax⟩ ⟨bn, bl, bx⟩) ≤ av ⟨an, al, ax⟩ (low ⟨an, al, ax⟩ ⟨bn, bl, bx⟩) := by
                have := HSZ.out
                unfold cmpZ at this
                split at this
                · omega
                · split at this <;> omega
              clear HSZ
              go_wp2_with fail
              go_meet
              exact ⟨⟨an, al, ax⟩, ⟨bn, bl, bx⟩, HA5.out, HB5.out, HR5.out, hE5, HSA.out, HSB.out, HA0.out, HB0.out, hle, HP4.out⟩
          case rest =>
            obtain ⟨A, B, hA, hB, hR, hE6, hsA, hsB, hA0, hB0, hle, hadd⟩ := hcut
            obtain ⟨bAn, bAl, bAx⟩ := A
            obtain ⟨bBn, bBl, bBx⟩ := B
            have hAp := sane_parts hsA
            have hBp := sane_parts hsB
            have hla : bAl.length ≤ 40 ∧ -800 ≤ bAx ∧ bAx ≤ 800 ∧ height ⟨bAn, bAl, bAx⟩ = bAl.length + bAx := by
              rcases hAp with e | e
              · rw [e] at hA0; exact absurd rfl hA0
              · exact ⟨e.2.2.1, e.2.2.2.2.2.1, e.2.2.2.2.2.2.1, rfl⟩
            have hlb : bBl.length ≤ 40 ∧ -800 ≤ bBx ∧ bBx ≤ 800 ∧ height ⟨bBn, bBl, bBx⟩ = bBl.length + bBx := by
              rcases hBp with e | e
              · rw [e] at hB0; exact absurd rfl hB0
              · exact ⟨e.2.2.1, e.2.2.2.2.2.1, e.2.2.2.2.2.2.1, rfl⟩
            have hhl := height_le_of hsA hsB hA0 hB0 hle
            have haA := sane_all hsA
            have haB := sane_all hsB
            obtain ⟨m, hm⟩ : ∃ m, low ⟨bAn, bAl, bAx⟩ ⟨bBn, bBl, bBx⟩ = m := ⟨_, rfl⟩
            have hm1 : min bAx bBx = m := by rw [← hm]; rfl
            have hmA : m ≤ bAx := by rw [← hm1]; omega
            have hmB : m ≤ bBx := by rw [← hm1]; omega
            obtain ⟨H, hH⟩ : ∃ H, height ⟨bAn, bAl, bAx⟩ = H := ⟨_, rfl⟩
            obtain ⟨n, hn⟩ : ∃ n : Nat, H - m + 1 = n := ⟨(H - m + 1).toNat, by omega⟩
            rw [hm] at hle hadd
            obtain ⟨aA, haA0⟩ : ∃ k : Nat, bAx - m = k := ⟨(bAx - m).toNat, by omega⟩
            obtain ⟨aB, haB0⟩ : ∃ k : Nat, bBx - m = k := ⟨(bBx - m).toNat, by omega⟩
            have hHl : -1000 ≤ H := by rw [← hH, hla.2.2.2]; omega
            have hHu : H ≤ 1000 := by rw [← hH, hla.2.2.2]; omega
            have hn1 : aA + bAl.length ≤ n := by have := hla.2.2.2; rw [hH] at this; omega
            have hn2 : aB + bBl.length ≤ n := by have h1 := hlb.2.2.2; rw [hH] at hhl; omega
            have hml : -800 ≤ m := by rw [← hm1]; omega
            have hmu : m ≤ 800 := by omega
            have hform := add_form hsA hsB hA0 m hmA hmB hle n (by rw [hH, hn]) hhl
            rw [← hadd] at hform
            have HFORM := Lib.hid hform
            have HH := Lib.hid hH
            have hFF : addF ⟨bAn, bAl, bAx⟩ ⟨bBn, bBl, bBx⟩ m = fun i => if bAn = bBn then colF bAl aA i + colF bBl aB i else colF bAl aA i - colF bBl aB i := by
              unfold addF; simp only [haA0, haB0, Int.toNat_natCast]
            have HFF := Lib.hid hFF
            have HA := Lib.hid hA
            have HB := Lib.hid hB
            have HR := Lib.hid hR
            have HAA := Lib.hid haA
            have HAB := Lib.hid haB
            have HSA2 := Lib.hid hsA
            have HSB2 := Lib.hid hsB
            clear hform hadd hle hsA hsB hA0 hB0 hAp hBp hH hFF hA hB hR HP4 HSA HSB HA0 HB0 haA haB hm HSZ
            obtain ⟨hla1, hla2, hla3, hla4⟩ := hla
            obtain ⟨hlb1, hlb2, hlb3, hlb4⟩ := hlb
            obtain ⟨c0, c1, c2, f0, f1, f2, hp⟩ := (HA.out).cells
            obtain ⟨d0, d1, d2, g0, g1, g2, hq⟩ := (HB.out).cells
            obtain ⟨v0, v1, v2, q0, q1, q2, hr⟩ := (HR.out).cells
            simp only [Num.zero] at c0 c1 c2 d0 d1 d2 v0 v1 v2
            go_wp2_with fail
            refine (height_any ⟨bAn, bAl, bAx⟩ _ (by simp only; omega) (by simp only; omega)).mono ?_
            rintro e w7 ⟨rfl, hw7⟩
            rw [HH.out]
            have hE7 := ext_trans hE6 hw7
            have HA7 := Lib.hid (HA.out.ext hw7)
            have HB7 := Lib.hid (HB.out.ext hw7)
            have HR7 := Lib.hid (HR.out.ext hw7)
            clear HA HB HR hw7 hE6 c0 c1 c2 f0 f1 f2 hp d0 d1 d2 g0 g1 g2 hq v0 v1 v2 q0 q1 q2 hr
            obtain ⟨c0, c1, c2, f0, f1, f2, hp⟩ := (HA7.out).cells
            obtain ⟨d0, d1, d2, g0, g1, g2, hq⟩ := (HB7.out).cells
            obtain ⟨v0, v1, v2, q0, q1, q2, hr⟩ := (HR7.out).cells
            simp only [Num.zero] at c0 c1 c2 d0 d1 d2 v0 v1 v2
            go_wp2_with fail
            refine (column_any ⟨bAn, bAl, bAx⟩ m aA n _ HAA.out (by simp only; omega) (by simp only; omega) haA0 hn1 (by omega)).mono ?_
            rintro e w8 ⟨b8, rfl, hb8, hI8, hw8⟩
            have hE8 := ext_trans hE7 hw8
            have HA8 := Lib.hid (HA7.out.ext hw8)
            have HB8 := Lib.hid (HB7.out.ext hw8)
            have HR8 := Lib.hid (HR7.out.ext hw8)
            have hsz7 := hE7.size
            have hb8w : w.heap.size + 2 < b8 := by have := HR7.out.cells.2.2.2.2.2.2; omega
            clear HA7 HB7 HR7 hw8 hE7 hsz7 c0 c1 c2 f0 f1 f2 hp d0 d1 d2 g0 g1 g2 hq v0 v1 v2 q0 q1 q2 hr
            obtain ⟨c0, c1, c2, f0, f1, f2, hp⟩ := (HA8.out).cells
            obtain ⟨d0, d1, d2, g0, g1, g2, hq⟩ := (HB8.out).cells
            obtain ⟨v0, v1, v2, q0, q1, q2, hr⟩ := (HR8.out).cells
            simp only [Num.zero] at c0 c1 c2 d0 d1 d2 v0 v1 v2
            go_wp2_with fail
            refine (column_any ⟨bBn, bBl, bBx⟩ m aB n _ HAB.out (by simp only; omega) (by simp only; omega) haB0 hn2 (by omega)).mono ?_
            rintro e w9 ⟨b9, rfl, hb9, hI9, hw9⟩
            have hE9 := ext_trans hE8 hw9
            have HA9 := Lib.hid (HA8.out.ext hw9)
            have HB9 := Lib.hid (HB8.out.ext hw9)
            have HR9 := Lib.hid (HR8.out.ext hw9)
            have hI8' := hI8.ext hw9
            have hb89 : b8 < b9 := by have := World.rowIs.lt hI8; omega
            clear HA8 HB8 HR8 hw9 hE8 hb9 hI8 c0 c1 c2 f0 f1 f2 hp d0 d1 d2 g0 g1 g2 hq v0 v1 v2 q0 q1 q2 hr
            go_wp2_with fail
            obtain ⟨CA, hCA⟩ : ∃ f, colF bAl aA = f := ⟨_, rfl⟩
            obtain ⟨CB, hCB⟩ : ∃ f, colF bBl aB = f := ⟨_, rfl⟩
            have hbA : ∀ i, 0 ≤ CA i ∧ CA i ≤ 9 := fun i => by rw [← hCA]; exact colF_bd bAl HAA.out aA i
            have hbB : ∀ i, 0 ≤ CB i ∧ CB i ≤ 9 := fun i => by rw [← hCB]; exact colF_bd bBl HAB.out aB i
            have hFF := HFF.out
            rw [hCA, hCB] at hFF
            rw [hCA] at hI8'
            rw [hCB] at hI9
            have HBA := Lib.hid hbA
            have HBB := Lib.hid hbB
            have HFF2 := Lib.hid hFF
            have HI8 := Lib.hid hI8'
            have HI9 := Lib.hid hI9
            have hb99 := World.rowIs.lt hI9
            clear hCA hCB hbA hbB hFF HFF hI8' hI9
            go_loopw [9, 10, 56] (fun _ _ kv wr => ∃ k : Nat, kv = .int .i64 k ∧ k ≤ n ∧ Ints wr b8 n (fun i => if i < k then addF ⟨bAn, bAl, bAx⟩ ⟨bBn, bBl, bBx⟩ m i else CA i) ∧ Ints wr b9 n CB ∧ NumAt wr w.heap.size ⟨bAn, bAl, bAx⟩ ∧ NumAt wr (w.heap.size + 1) ⟨bBn, bBl, bBx⟩ ∧ NumAt wr (w.heap.size + 2) Num.zero ∧ Below w.heap.size w wr) (fun _ _ kv _ => n - (intOf kv).toNat)
            case atStart => exact ⟨0, rfl, by omega, World.rowIs.congr HI8.out (fun i hi => by simp), HI9.out, HA9.out, HB9.out, HR9.out, hE9⟩
            case round =>
              obtain ⟨k, rfl, hk, hi8, hi9, hA, hB, hR, hb⟩ := hrel
              have HJ8 := Lib.hid hi8
              have HJ9 := Lib.hid hi9
              have HA := Lib.hid hA
              have HB := Lib.hid hB
              have HR := Lib.hid hR
              clear hi8 hi9 hA hB hR HI8 HI9 HA9 HB9 HR9 hE9
              obtain ⟨c0, c1, c2, f0, f1, f2, hp⟩ := (HA.out).cells
              obtain ⟨d0, d1, d2, g0, g1, g2, hq⟩ := (HB.out).cells
              obtain ⟨v0, v1, v2, q0, q1, q2, hr⟩ := (HR.out).cells
              simp only [Num.zero] at c0 c1 c2 d0 d1 d2 v0 v1 v2
              by_cases hlt : k < n
              · have ck := HJ8.out.cell hlt
                simp only [Nat.lt_irrefl, if_false] at ck
                have cb := HJ9.out.cell hlt
                have fk := World.rowIs.frozen HJ8.out k
                obtain ⟨hx1, hx2⟩ := HBA.out k
                obtain ⟨hy1, hy2⟩ := HBB.out k
                have hfk : addF ⟨bAn, bAl, bAx⟩ ⟨bBn, bBl, bBx⟩ m k = if bAn = bBn then CA k + CB k else CA k - CB k := by rw [HFF2.out]
                obtain ⟨x, hx⟩ : ∃ x, CA k = x := ⟨_, rfl⟩
                obtain ⟨y, hy⟩ : ∃ y, CB k = y := ⟨_, rfl⟩
                rw [hx] at ck hx1 hx2 hfk
                rw [hy] at cb hy1 hy2 hfk
                have b1 : (k : Int) < n := by omega
                have HFK := Lib.hid hfk
                clear hx hy hfk
                by_cases hsg : bAn = bBn
                · have hsq : (bAn == bBn) = true := by simpa using hsg
                  have HV : Hid (addF ⟨bAn, bAl, bAx⟩ ⟨bBn, bBl, bBx⟩ m k = x + y) := Lib.hid (by rw [HFK.out, if_pos hsg])
                  clear hsg
                  go_wp2_with fail
                  have z8 := Ints.set HJ8.out k (x + y) (G := fun i => if i < k + 1 then addF ⟨bAn, bAl, bAx⟩ ⟨bBn, bBl, bBx⟩ m i else CA i) (fun j hj => by
                    by_cases q : j = k
                    · subst q; rw [if_pos (by omega), if_pos rfl, HV.out]
                    · rw [if_neg q]
                      by_cases q2 : j < k
                      · rw [if_pos q2, if_pos (by omega)]
                      · rw [if_neg q2, if_neg (by omega)])
                  have z9 : Ints (wr.setCell ⟨b8, k, none⟩ (.int .i64 (x + y))) b9 n CB := World.rowIs.setOther HJ9.out (by show b9 ≠ b8; omega) _
                  have zA := HA.out.setOther (q := b8) (i := k) (by omega) (.int .i64 (x + y))
                  have zB := HB.out.setOther (q := b8) (i := k) (by omega) (.int .i64 (x + y))
                  have zR := HR.out.setOther (q := b8) (i := k) (by omega) (.int .i64 (x + y))
                  have zE := hb.setCell (p := ⟨b8, k, none⟩) (show w.heap.size ≤ b8 by omega) (.int .i64 (x + y))
                  go_roundw
                  case rel => exact ⟨k + 1, by go_num, by omega, z8, z9, zA, zB, zR, zE⟩
                  case measure => simp [intOf]; omega
                · have hsq : (bAn == bBn) = false := by simpa using hsg
                  have HV : Hid (addF ⟨bAn, bAl, bAx⟩ ⟨bBn, bBl, bBx⟩ m k = x - y) := Lib.hid (by rw [HFK.out, if_neg hsg])
                  clear hsg
                  go_wp2_with fail
                  have z8 := Ints.set HJ8.out k (x - y) (G := fun i => if i < k + 1 then addF ⟨bAn, bAl, bAx⟩ ⟨bBn, bBl, bBx⟩ m i else CA i) (fun j hj => by
                    by_cases q : j = k
                    · subst q; rw [if_pos (by omega), if_pos rfl, HV.out]
                    · rw [if_neg q]
                      by_cases q2 : j < k
                      · rw [if_pos q2, if_pos (by omega)]
                      · rw [if_neg q2, if_neg (by omega)])
                  have z9 : Ints (wr.setCell ⟨b8, k, none⟩ (.int .i64 (x - y))) b9 n CB := World.rowIs.setOther HJ9.out (by show b9 ≠ b8; omega) _
                  have zA := HA.out.setOther (q := b8) (i := k) (by omega) (.int .i64 (x - y))
                  have zB := HB.out.setOther (q := b8) (i := k) (by omega) (.int .i64 (x - y))
                  have zR := HR.out.setOther (q := b8) (i := k) (by omega) (.int .i64 (x - y))
                  have zE := hb.setCell (p := ⟨b8, k, none⟩) (show w.heap.size ≤ b8 by omega) (.int .i64 (x - y))
                  go_roundw
                  case rel => exact ⟨k + 1, by go_num, by omega, z8, z9, zA, zB, zR, zE⟩
                  case measure => simp [intOf]; omega
              · obtain rfl : k = n := by omega
                have HK8 : Hid (Ints wr b8 k (addF ⟨bAn, bAl, bAx⟩ ⟨bBn, bBl, bBx⟩ m)) := Lib.hid (World.rowIs.congr HJ8.out (fun i hi => by simp only; rw [if_pos hi]))
                have HFB : Hid (∀ i, -1000000 ≤ addF ⟨bAn, bAl, bAx⟩ ⟨bBn, bBl, bBx⟩ m i ∧ addF ⟨bAn, bAl, bAx⟩ ⟨bBn, bBl, bBx⟩ m i ≤ 1000000) := Lib.hid (fun i => addF_bd ⟨bAn, bAl, bAx⟩ ⟨bBn, bBl, bBx⟩ m HAA.out HAB.out i)
                generalize addF ⟨bAn, bAl, bAx⟩ ⟨bBn, bBl, bBx⟩ m = FF at *
                have hol := outL_len FF k
                have hkb : k ≤ 10000 := by omega
                obtain ⟨O, hO⟩ : ∃ O, outL FF k = O := ⟨_, rfl⟩
                rw [hO] at HFORM hol
                have HO := Lib.hid hO
                obtain ⟨T, hT⟩ : ∃ T, addP ⟨an, al, ax⟩ ⟨bn, bl, bx⟩ = T := ⟨_, rfl⟩
                have hform := HFORM.out
                rw [hT] at hform
                obtain ⟨⟨tn, td, te⟩, er⟩ := T
                have HT := Lib.hid hT
                have HFORM2 := Lib.hid hform
                clear hO hT hform HFORM HFF2 HJ8
                go_wp2_with fail
                refine Grow.wp_region_tail (G := Ext) (B := fun w' => Ext wr w') (anc := fun _ => []) (I := fun j => if j = 3 then some (Grow.Spec.val Ext (.string ⟨O.toArray⟩)) else if j = 5 then some (Grow.Spec.val Ext (.tuple #[.agg #[.bool tn, .string ⟨td.toArray⟩, .int .i64 te], .int .i64 er])) else none) 8 (by kernel_rfl) (by kernel_rfl) (by kernel_rfl) ?_ ?_ ?_
                · exact fun w w' h hg => ext_trans h hg
                · exact (ext_refl _).drew
                · simp only [List.take_succ_cons, List.take_zero, List.drop_succ_cons, List.drop_zero]
                  repeat
                    (refine Grow.walk_step (fun K hK => ?_)
                     first
                     | (refine Grow.step_read (by rfl) (by rfl) ext_refl ?_
                        apply Exists.intro
                        refine ⟨fun w hB hF => ?_, ?_⟩
                        · obtain ⟨c0, c1, c2, f0, f1, f2, hp⟩ := (HA.out.ext hB).cells; simp only at c0 c1 c2
                          go_simp
                          try exact rfl
                        go_simp
                        refine hK _ _ ?_
                        clear hK K)
                     | (refine Grow.step_off (by rfl) ?_
                        go_simp
                        refine hK _ _ ?_
                        clear hK K))
                  refine Grow.walk_step (fun K hK => ?_)
                  refine Grow.step_rel (by rfl) (by rfl) (fun w' hB hF => ?_) (fun v hv => ?_)
                  · go_simp
                    refine Grow.relUpon_enter ((carried_any b8 k FF w' (HK8.out.ext hB) (by omega) (fun i _ => HFB.out i)).mono ?_)
                    rintro e w'' ⟨rfl, hw''⟩
                    exact ⟨_, rfl, hw'', by rw [HO.out]; rfl, trivial⟩
                  obtain rfl : v = _ := hv
                  go_simp
                  refine hK _ _ ?_
                  clear hK K
                  repeat
                    (refine Grow.walk_step (fun K hK => ?_)
                     first
                     | (refine Grow.step_read (by rfl) (by rfl) ext_refl ?_
                        apply Exists.intro
                        refine ⟨fun w hB hF => ?_, ?_⟩
                        · obtain ⟨c0, c1, c2, f0, f1, f2, hp⟩ := (HA.out.ext hB).cells; simp only at c0 c1 c2
                          go_simp
                          try exact rfl
                        go_simp
                        refine hK _ _ ?_
                        clear hK K)
                     | (refine Grow.step_off (by rfl) ?_
                        go_simp
                        refine hK _ _ ?_
                        clear hK K))
                  refine Grow.walk_step (fun K hK => ?_)
                  refine Grow.step_rel (by rfl) (by rfl) (fun w' hB hF => ?_) (fun v hv => ?_)
                  · go_simp
                    refine Grow.relUpon_enter ((form_any bAn O m w' (by omega) (by omega) (by omega)).mono ?_)
                    rintro e w'' ⟨rfl, hw''⟩
                    exact ⟨_, rfl, hw'', by rw [HFORM2.out]; rfl, trivial⟩
                  obtain rfl : v = _ := hv
                  go_simp
                  refine hK _ _ ?_
                  clear hK K
                  repeat
                    (refine Grow.walk_step (fun K hK => ?_)
                     first
                     | (refine Grow.step_read (by rfl) (by rfl) ext_refl ?_
                        apply Exists.intro
                        refine ⟨fun w hB hF => ?_, ?_⟩
                        · obtain ⟨c0, c1, c2, f0, f1, f2, hp⟩ := (HA.out.ext hB).cells; simp only at c0 c1 c2
                          go_simp
                          try exact rfl
                        go_simp
                        refine hK _ _ ?_
                        clear hK K)
                     | (refine Grow.step_off (by rfl) ?_
                        go_simp
                        refine hK _ _ ?_
                        clear hK K))
                  refine Grow.walk_nil ?_
                  intro w10 hB' hF
                  clear hF
                  have HR10 := Lib.hid (HR.out.ext hB')
                  have hE10 : Ext w w10 := hb.trans (hB'.mono hb.size)
                  clear hB' c0 c1 c2 f0 f1 f2 hp d0 d1 d2 g0 g1 g2 hq v0 v1 v2 q0 q1 q2 hr
                  obtain ⟨v0, v1, v2, q0, q1, q2, hr⟩ := HR10.out.cells
                  simp only [Num.zero] at v0 v1 v2
                  go_wp2_with fail
                  have hN := (HR10.out.store ⟨tn, td, te⟩).cells
                  simp only at hN
                  obtain ⟨r0, r1, r2, _⟩ := hN
                  exact bodyPost_ret (v := .tuple #[.agg #[.bool tn, .string ⟨td.toArray⟩, .int .i64 te], .int .i64 er]) (by simp [results, Tryd.results17, go_sem, r0, r1, r2]) rfl ⟨by rw [HT.out], below_store hE10 (by omega) _ _ _⟩
end Go.Proofs.YtpheohgceepboaaDoor
