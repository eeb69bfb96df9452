/- dec: what size, Compare and Neg do. -/
import Derived.Test.YtpheohgceepboaaDoorDecD
set_option linter.unusedVariables false
set_option linter.unusedSimpArgs false
set_option maxRecDepth 100000
namespace Go.Proofs.YtpheohgceepboaaDoor
open Go.RowKit Go.Mem Orange

def av (d : Num) (m : Int) : Int := ((val d.digits * 10 ^ (d.exp - m).toNat : Nat) : Int)
theorem av_nonneg (d : Num) (m : Int) : 0 ≤ av d m := by unfold av; omega
theorem zv_av (d : Num) (m : Int) : zv d m = if d.neg then - av d m else av d m := by
  unfold zv sgn av; cases d.neg <;> simp
theorem lt_digV {c d : UInt8} (hc : isDig c = true) (hd : isDig d = true) : (c < d) ↔ digV c < digV d := by
  have h1 := (isDig_iff c).1 hc
  have h2 := (isDig_iff d).1 hd
  rw [UInt8.lt_iff_toNat_lt]; unfold digV; omega
theorem eq_digV {c d : UInt8} (hc : isDig c = true) (hd : isDig d = true) (h : digV c = digV d) : c = d := by
  rw [← dgt_of hc, h, dgt_of hd]
theorem cmpZ_lt {x y : Int} (h : x < y) : cmpZ x y = -1 := by unfold cmpZ; rw [if_pos h]
theorem cmpZ_gt {x y : Int} (h : y < x) : cmpZ x y = 1 := by unfold cmpZ; rw [if_neg (by omega), if_pos h]
theorem cmpZ_eq (x : Int) : cmpZ x x = 0 := by unfold cmpZ; rw [if_neg (by omega), if_neg (by omega)]
theorem cmpZ_add (x y z : Int) : cmpZ (z + x) (z + y) = cmpZ x y := by
  unfold cmpZ
  have e1 : (z + x < z + y) ↔ x < y := by omega
  have e2 : (z + y < z + x) ↔ y < x := by omega
  simp only [e1, e2]
theorem last_pos : ∀ (l : List UInt8), allD l → l ≠ [] → l.getLast? ≠ some 48 → 0 < val l := by
  intro l ha h0 hg
  rcases snoc_cases l with h | ⟨v, d, h, _⟩
  · exact absurd h h0
  · subst h
    rw [val_snoc]
    have hd : isDig d = true := ha d (by simp)
    have : digV d ≠ 0 := fun e => by
      have : d = 48 := by rw [← dgt_of hd, e]; rfl
      subst this; simp at hg
    omega
theorem tail_last {c : UInt8} {t : List UInt8} (h : (c :: t).getLast? ≠ some 48) : t.getLast? ≠ some 48 := by
  cases t with
  | nil => simp
  | cons d u => simpa [List.getLast?_cons_cons] using h
theorem cmp_bytes : ∀ (x y : List UInt8) (p q : Nat), allD x → allD y → x.getLast? ≠ some 48 → y.getLast? ≠ some 48 → x.length + p = y.length + q →
    Lib.compareBytes x y = cmpZ ((val x * 10 ^ p : Nat) : Int) ((val y * 10 ^ q : Nat) : Int)
  | [], [], p, q, _, _, _, _, _ => by simp [Lib.compareBytes, val_nil, cmpZ_eq]
  | [], d :: y, p, q, _, hy, _, hly, _ => by
    have h := last_pos (d :: y) hy (by simp) hly
    have hq := pow_pos10 q
    rw [Lib.compareBytes, val_nil, Nat.zero_mul]
    exact (cmpZ_lt (by have := Nat.mul_pos h hq; omega)).symm
  | c :: x, [], p, q, hx, _, hlx, _, _ => by
    have h := last_pos (c :: x) hx (by simp) hlx
    have hp := pow_pos10 p
    rw [Lib.compareBytes, val_nil, Nat.zero_mul]
    exact (cmpZ_gt (by have := Nat.mul_pos h hp; omega)).symm
  | c :: x, d :: y, p, q, hx, hy, hlx, hly, hlen => by
    simp only [List.length_cons] at hlen
    have hl2 : x.length + p = y.length + q := by omega
    have ih := cmp_bytes x y p q hx.cons.2 hy.cons.2 (tail_last hlx) (tail_last hly) hl2
    have hvx := val_lt x hx.cons.2
    have hvy := val_lt y hy.cons.2
    have ex : val (c :: x) * 10 ^ p = digV c * 10 ^ (x.length + p) + val x * 10 ^ p := by
      rw [val_cons, Nat.pow_add, Nat.add_mul, Nat.mul_assoc]
    have ey : val (d :: y) * 10 ^ q = digV d * 10 ^ (x.length + p) + val y * 10 ^ q := by
      rw [val_cons, hl2, Nat.pow_add, Nat.add_mul, Nat.mul_assoc]
    have bx : val x * 10 ^ p < 10 ^ (x.length + p) := by rw [Nat.pow_add]; exact Nat.mul_lt_mul_of_pos_right hvx (pow_pos10 p)
    have by' : val y * 10 ^ q < 10 ^ (x.length + p) := by rw [hl2, Nat.pow_add]; exact Nat.mul_lt_mul_of_pos_right hvy (pow_pos10 q)
    rw [Lib.compareBytes, ex, ey]
    generalize 10 ^ (x.length + p) = T at *
    generalize val x * 10 ^ p = A at *
    generalize val y * 10 ^ q = B at *
    by_cases h1 : c < d
    · rw [if_pos h1]
      have h2 := (lt_digV hx.cons.1 hy.cons.1).1 h1
      have h3 : (digV c + 1) * T ≤ digV d * T := Nat.mul_le_mul_right T h2
      rw [Nat.add_mul, Nat.one_mul] at h3
      generalize digV c * T = U at *
      generalize digV d * T = V at *
      exact (cmpZ_lt (Int.ofNat_lt.2 (by omega))).symm
    · rw [if_neg h1]
      by_cases h4 : d < c
      · rw [if_pos h4]
        have h2 := (lt_digV hy.cons.1 hx.cons.1).1 h4
        have h3 : (digV d + 1) * T ≤ digV c * T := Nat.mul_le_mul_right T h2
        rw [Nat.add_mul, Nat.one_mul] at h3
        generalize digV c * T = U at *
        generalize digV d * T = V at *
        exact (cmpZ_gt (Int.ofNat_lt.2 (by omega))).symm
      · rw [if_neg h4, ih]
        have h5 : digV c = digV d := by
          have e1 : ¬ digV c < digV d := fun h => h1 ((lt_digV hx.cons.1 hy.cons.1).2 h)
          have e2 : ¬ digV d < digV c := fun h => h4 ((lt_digV hy.cons.1 hx.cons.1).2 h)
          omega
        rw [h5, Int.natCast_add, Int.natCast_add, cmpZ_add]
/-- what size compares -/
def sizeP (a b : Num) : Int :=
  if a.digits = [] ∨ b.digits = [] then cmpZ a.digits.length b.digits.length
  else if height a ≠ height b then cmpZ (height a) (height b) else Lib.compareBytes a.digits b.digits
theorem val_ge (l : List UInt8) (ha : allD l) (h0 : l ≠ []) (hh : l.head? ≠ some 48) : 10 ^ (l.length - 1) ≤ val l := by
  cases l with
  | nil => exact absurd rfl h0
  | cons c t =>
    rw [val_cons]
    have hc : digV c ≠ 0 := fun e => by
      have : c = 48 := by rw [← dgt_of ha.cons.1, e]; rfl
      subst this; simp at hh
    have : 1 * 10 ^ t.length ≤ digV c * 10 ^ t.length := Nat.mul_le_mul_right _ (by omega)
    simp only [List.length_cons, Nat.add_sub_cancel]; omega
theorem height_lt {a b : Num} (ha : sane a = true) (hb : sane b = true) (ha0 : a.digits ≠ []) (hb0 : b.digits ≠ []) (h : height a < height b) (m : Int) (h1 : m ≤ a.exp) (h2 : m ≤ b.exp) : av a m < av b m := by
  rcases sane_parts ha with e | ⟨_, ha1, _, _, _, _, _, hh, _⟩
  · subst e; exact absurd rfl ha0
  rcases sane_parts hb with e | ⟨_, hb1, _, _, _, _, _, hh2, _⟩
  · subst e; exact absurd rfl hb0
  have hva := val_lt _ ha1
  have hvb := val_ge _ hb1 hb0 hh2
  have hlb : 1 ≤ b.digits.length := by cases hq : b.digits with | nil => exact absurd hq hb0 | cons c t => simp
  have e1 : val a.digits * 10 ^ (a.exp - m).toNat < 10 ^ (a.digits.length + (a.exp - m).toNat) := by
    rw [Nat.pow_add]; exact Nat.mul_lt_mul_of_pos_right hva (pow_pos10 _)
  have e2 : 10 ^ ((b.digits.length - 1) + (b.exp - m).toNat) ≤ val b.digits * 10 ^ (b.exp - m).toNat := by
    rw [Nat.pow_add]; exact Nat.mul_le_mul_right _ hvb
  have e3 : a.digits.length + (a.exp - m).toNat ≤ (b.digits.length - 1) + (b.exp - m).toNat := by
    unfold height at h; omega
  have e4 : (10 : Nat) ^ (a.digits.length + (a.exp - m).toNat) ≤ 10 ^ ((b.digits.length - 1) + (b.exp - m).toNat) := Nat.pow_le_pow_right (by omega) e3
  unfold av; omega
theorem av_zero {d : Num} (h : d.digits = []) (m : Int) : av d m = 0 := by unfold av; rw [h, val_nil]; simp
theorem av_pos {d : Num} (h : sane d = true) (h0 : d.digits ≠ []) (m : Int) : 0 < av d m := by
  rcases sane_parts h with e | ⟨_, ha1, _, _, _, _, _, hh, _⟩
  · subst e; exact absurd rfl h0
  have := val_pos ha1 h0 hh
  have h2 := Nat.mul_pos (by omega : 0 < val d.digits) (pow_pos10 (d.exp - m).toNat)
  unfold av; omega
theorem sizeP_av {a b : Num} (ha : sane a = true) (hb : sane b = true) : sizeP a b = cmpZ (av a (low a b)) (av b (low a b)) := by
  unfold sizeP
  have hla : low a b ≤ a.exp := by unfold low; omega
  have hlb : low a b ≤ b.exp := by unfold low; omega
  by_cases ha0 : a.digits = []
  · rw [if_pos (.inl ha0), av_zero ha0, ha0]
    by_cases hb0 : b.digits = []
    · rw [hb0, av_zero hb0]; rfl
    · have h1 := av_pos hb hb0 (low a b)
      have h2 : 0 < b.digits.length := by cases hq : b.digits with | nil => exact absurd hq hb0 | cons c t => simp
      rw [cmpZ_lt h1]; exact cmpZ_lt (by simp only [List.length_nil]; omega)
  · by_cases hb0 : b.digits = []
    · rw [if_pos (.inr hb0), hb0, av_zero hb0]
      have h1 := av_pos ha ha0 (low a b)
      have h2 : 0 < a.digits.length := by cases hq : a.digits with | nil => exact absurd hq ha0 | cons c t => simp
      rw [cmpZ_gt h1]; exact cmpZ_gt (by simp only [List.length_nil]; omega)
    · rw [if_neg (fun h => h.elim ha0 hb0)]
      by_cases hh : height a = height b
      · rw [if_neg (fun h => h hh)]
        rcases sane_parts ha with e | ⟨_, ha1, _, _, _, _, _, _, hga⟩
        · subst e; exact absurd rfl ha0
        rcases sane_parts hb with e | ⟨_, hb1, _, _, _, _, _, _, hgb⟩
        · subst e; exact absurd rfl hb0
        exact cmp_bytes _ _ _ _ ha1 hb1 hga hgb (by unfold height at hh; omega)
      · rw [if_pos hh]
        rcases Int.lt_or_gt_of_ne hh with h | h
        · rw [cmpZ_lt h, cmpZ_lt (height_lt ha hb ha0 hb0 h _ hla hlb)]
        · rw [cmpZ_gt h, cmpZ_gt (height_lt hb ha hb0 ha0 h _ hlb hla)]
theorem low_comm (a b : Num) : low a b = low b a := by unfold low; omega
theorem cmpZ_neg (x y : Int) : cmpZ (-x) (-y) = cmpZ y x := by
  unfold cmpZ
  have e1 : (-x < -y) ↔ y < x := by omega
  have e2 : (-y < -x) ↔ x < y := by omega
  simp only [e1, e2]
theorem sane_neg {d : Num} (h : sane d = true) (hn : d.neg = true) : d.digits ≠ [] := by
  rcases sane_parts h with e | e
  · subst e; cases hn
  · exact e.1
/-- what Compare says -/
theorem cmpP_size {a b : Num} (ha : sane a = true) (hb : sane b = true) : cmpP a b = if a.neg then (if b.neg then sizeP b a else -1) else (if b.neg then 1 else sizeP a b) := by
  unfold cmpP
  rw [if_pos ⟨ha, hb⟩, zv_av, zv_av]
  cases hna : a.neg with
  | true =>
    cases hnb : b.neg with
    | true => simp only [if_true]; rw [cmpZ_neg, sizeP_av hb ha, low_comm]
    | false =>
      simp only [if_true]
      have h1 := av_pos ha (sane_neg ha hna) (low a b)
      have h2 := av_nonneg b (low a b)
      exact cmpZ_lt (by simp; omega)
  | false =>
    cases hnb : b.neg with
    | true =>
      simp only [if_true]
      have h1 := av_pos hb (sane_neg hb hnb) (low a b)
      have h2 := av_nonneg a (low a b)
      exact cmpZ_gt (by simp; omega)
    | false => simp only [if_false, Bool.false_eq_true]; rw [sizeP_av ha hb]
theorem cmpZ_bd (x y : Int) : -1 ≤ cmpZ x y ∧ cmpZ x y ≤ 1 := by unfold cmpZ; split <;> (try split) <;> omega
theorem sizeP_bd {a b : Num} (ha : sane a = true) (hb : sane b = true) : -1 ≤ sizeP a b ∧ sizeP a b ≤ 1 := by rw [sizeP_av ha hb]; exact cmpZ_bd _ _

-- reads of a region that lies over two numbers' blocks: $1 $2: their NumAt at the region's own world
set_option maxHeartbeats 3200000 in
theorem size_any (a b : Num) (w : World) (ha : sane a = true) (hb : sane b = true) :
    Calls Tryd.prog 31 #[.agg #[.bool a.neg, .string ⟨a.digits.toArray⟩, .int .i64 a.exp], .agg #[.bool b.neg, .string ⟨b.digits.toArray⟩, .int .i64 b.exp]] w fun e w' => e = .returned (.int .i64 (sizeP a b)) ∧ Ext w w' := by
  have hla : a.digits.length ≤ 40 ∧ -800 ≤ a.exp ∧ a.exp ≤ 800 := by
    rcases sane_parts ha with e | e
    · subst e; decide
    · exact ⟨e.2.2.1, e.2.2.2.2.2.1, e.2.2.2.2.2.2.1⟩
  have hlb : b.digits.length ≤ 40 ∧ -800 ≤ b.exp ∧ b.exp ≤ 800 := by
    rcases sane_parts hb with e | e
    · subst e; decide
    · exact ⟨e.2.2.1, e.2.2.2.2.2.1, e.2.2.2.2.2.2.1⟩
  have hP : sizeP a b = if a.digits = [] ∨ b.digits = [] then cmpZ a.digits.length b.digits.length else if height a ≠ height b then cmpZ (height a) (height b) else Lib.compareBytes a.digits b.digits := rfl
  have HP := Lib.hid hP
  obtain ⟨an, al, ax⟩ := a
  obtain ⟨bn, bl, bx⟩ := b
  simp only at hla hlb HP
  obtain ⟨hla, hxa1, hxa2⟩ := hla
  obtain ⟨hlb, hxb1, hxb2⟩ := hlb
  have hm1 := NumAt.new w ⟨an, al, ax⟩
  have hE1 : Ext w (w.alloc (.cells #[.bool an, .string ⟨al.toArray⟩, .int .i64 ax] 25)) := (ext_refl w).alloc (Nat.le_refl _) _
  have hs1 : (w.alloc (.cells #[.bool an, .string ⟨al.toArray⟩, .int .i64 ax] 25)).heap.size = w.heap.size + 1 := by simp
  have hm2 := NumAt.new (w.alloc (.cells #[.bool an, .string ⟨al.toArray⟩, .int .i64 ax] 25)) ⟨bn, bl, bx⟩
  have hE2 : Ext (w.alloc (.cells #[.bool an, .string ⟨al.toArray⟩, .int .i64 ax] 25)) ((w.alloc (.cells #[.bool an, .string ⟨al.toArray⟩, .int .i64 ax] 25)).alloc (.cells #[.bool bn, .string ⟨bl.toArray⟩, .int .i64 bx] 25)) := (ext_refl _).alloc (Nat.le_refl _) _
  rw [hs1] at hm2
  have hm1' := hm1.ext hE2
  have hE := ext_trans hE1 hE2
  simp only at hm1' hm2
  clear hP ha hb hm1 hE1 hE2 hs1
  go_enter Tryd.func31, Tryd.ntmps31
  go_upto_region 1 with fail
  generalize (w.alloc (.cells #[.bool an, .string ⟨al.toArray⟩, .int .i64 ax] 25)).alloc (.cells #[.bool bn, .string ⟨bl.toArray⟩, .int .i64 bx] 25) = w2 at *
  have HA := Lib.hid hm1'
  have HB := Lib.hid hm2
  clear hm1' hm2
  obtain ⟨c0, c1, c2, f0, f1, f2, hp⟩ := HA.out.cells
  obtain ⟨d0, d1, d2, g0, g1, g2, hq⟩ := HB.out.cells
  simp only at c0 c1 c2 d0 d1 d2
  go_cut [13] (fun s13 wx => s13 = .bool (decide (al = [] ∨ bl = [])) ∧ w2 = wx)
  case first =>
    clear HP
    cases al with
    | nil =>
      go_wp2_with fail
      go_meet
      exact ⟨by simp, rfl⟩
    | cons x t =>
      cases bl with
      | nil =>
        go_wp2_with fail
        go_meet
        exact ⟨by simp, rfl⟩
      | cons y u =>
        go_wp2_with fail
        go_meet
        exact ⟨by simp, rfl⟩
  case rest =>
    obtain ⟨rfl, rfl⟩ := hcut
    by_cases h0 : al = [] ∨ bl = []
    · have hd : decide (al = [] ∨ bl = []) = true := by simpa using h0
      rw [hd]
      have HF := Lib.hid (HP.out.trans (if_pos h0))
      clear hd h0 HP
      go_wp2_with fail
      refine (cmpInt_any _ _ _).mono ?_
      rintro e w3 ⟨rfl, hw3⟩
      go_wp2_with fail
      go_ret
      exact ⟨ret_int HF.out.symm, ext_trans hE hw3⟩
    · have hd : decide (al = [] ∨ bl = []) = false := by simpa using h0
      rw [hd]
      have HF := Lib.hid (HP.out.trans (if_neg h0))
      obtain ⟨h, hh⟩ : ∃ h, height ⟨an, al, ax⟩ = h := ⟨_, rfl⟩
      obtain ⟨g, hg⟩ : ∃ g, height ⟨bn, bl, bx⟩ = g := ⟨_, rfl⟩
      have hF := HF.out
      rw [hh, hg] at hF
      have HF2 := Lib.hid hF
      have HH := Lib.hid hh
      have HG := Lib.hid hg
      clear hd h0 HP HF hF hh hg
      go_upto_region 3 with fail
      refine Grow.wp_region_lit (G := Ext) (B := fun w' => Ext w2 w') (anc := fun _ => []) (I := fun j => if j = 1 then some (Grow.Spec.val Ext (.int .i64 h)) else if j = 3 then some (Grow.Spec.val Ext (.int .i64 g)) else if j = 4 then some (Grow.Spec.val Ext (.int .i64 (cmpZ h g))) else none) (by kernel_rfl) (by kernel_rfl) (by kernel_rfl) ?_ ?_ ?_
      · exact fun w w' h hg => ext_trans h hg
      · exact (ext_refl _).drew
      repeat
        (refine Grow.walk_step (fun K hK => ?_)
         first
         | (refine Grow.step_read (by rfl) (by rfl) ext_refl ?_
            apply Exists.intro
            refine ⟨fun w hB hF => ?_, ?_⟩
            · obtain ⟨c0, c1, c2, f0, f1, f2, hp⟩ := (HA.out.ext hB).cells; obtain ⟨d0, d1, d2, g0, g1, g2, hq⟩ := (HB.out.ext hB).cells; simp only at c0 c1 c2 d0 d1 d2
              go_simp
              try exact rfl
            go_simp
            refine hK _ _ ?_
            clear hK K)
         | (refine Grow.step_off (by rfl) ?_
            go_simp
            refine hK _ _ ?_
            clear hK K))
      refine Grow.walk_step (fun K hK => ?_)
      refine Grow.step_rel (by rfl) (by rfl) (fun w' hB hF => ?_) (fun v hv => ?_)
      · go_simp
        refine Grow.relUpon_enter ((height_any ⟨an, al, ax⟩ w' (by simp only; omega) (by simp only; omega)).mono ?_)
        rintro e w'' ⟨rfl, hw''⟩
        exact ⟨_, rfl, hw'', (by rw [HH.out]; rfl), trivial⟩
      obtain rfl : v = _ := hv
      go_simp
      refine hK _ _ ?_
      clear hK K
      repeat
        (refine Grow.walk_step (fun K hK => ?_)
         first
         | (refine Grow.step_read (by rfl) (by rfl) ext_refl ?_
            apply Exists.intro
            refine ⟨fun w hB hF => ?_, ?_⟩
            · obtain ⟨c0, c1, c2, f0, f1, f2, hp⟩ := (HA.out.ext hB).cells; obtain ⟨d0, d1, d2, g0, g1, g2, hq⟩ := (HB.out.ext hB).cells; simp only at c0 c1 c2 d0 d1 d2
              go_simp
              try exact rfl
            go_simp
            refine hK _ _ ?_
            clear hK K)
         | (refine Grow.step_off (by rfl) ?_
            go_simp
            refine hK _ _ ?_
            clear hK K))
      refine Grow.walk_step (fun K hK => ?_)
      refine Grow.step_rel (by rfl) (by rfl) (fun w' hB hF => ?_) (fun v hv => ?_)
      · go_simp
        refine Grow.relUpon_enter ((height_any ⟨bn, bl, bx⟩ w' (by simp only; omega) (by simp only; omega)).mono ?_)
        rintro e w'' ⟨rfl, hw''⟩
        exact ⟨_, rfl, hw'', (by rw [HG.out]; rfl), trivial⟩
      obtain rfl : v = _ := hv
      go_simp
      refine hK _ _ ?_
      clear hK K
      refine Grow.walk_step (fun K hK => ?_)
      refine Grow.step_rel (by rfl) (by rfl) (fun w' hB hF => ?_) (fun v hv => ?_)
      · go_simp
        refine Grow.relUpon_enter ((cmpInt_any h g w').mono ?_)
        rintro e w'' ⟨rfl, hw''⟩
        exact ⟨_, rfl, hw'', rfl, trivial⟩
      obtain rfl : v = _ := hv
      go_simp
      refine hK _ _ ?_
      clear hK K
      repeat
        (refine Grow.walk_step (fun K hK => ?_)
         first
         | (refine Grow.step_read (by rfl) (by rfl) ext_refl ?_
            apply Exists.intro
            refine ⟨fun w hB hF => ?_, ?_⟩
            · obtain ⟨c0, c1, c2, f0, f1, f2, hp⟩ := (HA.out.ext hB).cells; obtain ⟨d0, d1, d2, g0, g1, g2, hq⟩ := (HB.out.ext hB).cells; simp only at c0 c1 c2 d0 d1 d2
              go_simp
              try exact rfl
            go_simp
            refine hK _ _ ?_
            clear hK K)
         | (refine Grow.step_off (by rfl) ?_
            go_simp
            refine hK _ _ ?_
            clear hK K))
      refine Grow.walk_nil ?_
      intro w3 hB hF
      clear hF
      have hE3 := ext_trans hE hB
      have HA3 := Lib.hid (HA.out.ext hB)
      have HB3 := Lib.hid (HB.out.ext hB)
      clear hB HA HB HH HG c0 c1 c2 d0 d1 d2 f0 f1 f2 g0 g1 g2 hp hq hE
      obtain ⟨c0, c1, c2, f0, f1, f2, hp⟩ := HA3.out.cells
      obtain ⟨d0, d1, d2, g0, g1, g2, hq⟩ := HB3.out.cells
      simp only at c0 c1 c2 d0 d1 d2
      by_cases hne : h = g
      · have HF3 := Lib.hid (HF2.out.trans (if_neg (fun q => q hne)))
        have hz : cmpZ h g = 0 := by rw [hne, cmpZ_eq]
        rw [hz]
        clear hne hz HF2
        go_wp2_with fail
        refine (strCmp_any _ _ _).mono ?_
        rintro e w4 ⟨rfl, hw4⟩
        go_wp2_with fail
        go_ret
        exact ⟨ret_int HF3.out.symm, ext_trans hE3 hw4⟩
      · have HF3 := Lib.hid (HF2.out.trans (if_pos hne))
        have hz : (cmpZ h g != 0) = true := by
          unfold cmpZ
          by_cases q : h < g
          · rw [if_pos q]; rfl
          · rw [if_neg q, if_pos (by omega)]; rfl
        generalize cmpZ h g = z at *
        clear hne HF2
        go_wp2_with fail
        go_ret
        exact ⟨ret_int HF3.out.symm, hE3⟩
end Go.Proofs.YtpheohgceepboaaDoor
