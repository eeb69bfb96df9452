/- orangeryref02: what Add does. -/
import Derived.Test.YtpheohgceepboaaDoorR2D
set_option linter.unusedVariables false
set_option linter.unusedSimpArgs false
set_option maxRecDepth 100000
namespace Go.Proofs.YtpheohgceepboaaDoor
open Go.RowKit Go.Mem Orange
theorem addR {a b : Num} (m : Int) (r : List UInt8) (neg : Bool) (hr : allD r) (hv : (if neg then -((val r : Nat) : Int) else ((val r : Nat) : Int)) = zv a m + zv b m) : toldP (formR neg r m) = toldP (normZ (zv a m + zv b m) m) := by
  rw [formR_norm _ _ _ hr, norm_sgn, hv]
theorem less_val : ∀ (x y : List UInt8), allD x → allD y → x.length = y.length → Op.bytesLess x y = decide (val x < val y)
  | [], [], _, _, _ => by simp [Op.bytesLess, val_nil]
  | [], d :: y, _, _, h => by simp at h
  | c :: x, [], _, _, h => by simp at h
  | c :: x, d :: y, hx, hy, h => by
    have hl : x.length = y.length := by simpa using h
    have h1 := val_lt x hx.cons.2
    have h2 := val_lt y hy.cons.2
    have ih := less_val x y hx.cons.2 hy.cons.2 hl
    have l1 := (isDig_iff c).1 hx.cons.1
    have l2 := (isDig_iff d).1 hy.cons.1
    rw [Op.bytesLess, val_cons, val_cons, ih, ← hl]
    rw [← hl] at h2
    have e1 : digV c = c.toNat - 48 := rfl
    have e2 : digV d = d.toNat - 48 := rfl
    generalize 10 ^ x.length = p at *
    by_cases q : c.toNat < d.toNat
    · have : (digV c + 1) * p ≤ digV d * p := Nat.mul_le_mul_right p (by omega)
      rw [Nat.add_mul] at this
      simp [UInt8.lt_iff_toNat_lt, q]; omega
    · by_cases q2 : d.toNat < c.toNat
      · have : (digV d + 1) * p ≤ digV c * p := Nat.mul_le_mul_right p (by omega)
        rw [Nat.add_mul] at this
        have hne : ¬ c = d := fun e => by subst e; omega
        have hn2 : (c == d) = false := beq_eq_false_iff_ne.2 hne
        have hf : ¬ digV c * p + val x < digV d * p + val y := by omega
        rw [hn2, decide_eq_false hf]
        simp [UInt8.lt_iff_toNat_lt, q]
      · have hcd : c = d := UInt8.toNat_inj.1 (by omega)
        subst hcd
        simp
-- digits with zeros behind: $1: digits; $2: how many; $3: the box
-- the last region: $1: the contract of plus or minus; $2: its digits; $3: the sign; $4: the digits' length
set_option maxHeartbeats 6400000 in
theorem r2add_any (a b : Num) (w : World) (hal : a.digits.length ≤ 140737488355328) (hbl : b.digits.length ≤ 140737488355328) :
    Calls Tryd.prog 20 #[.agg #[.bool a.neg, .string ⟨a.digits.toArray⟩, .int .i64 a.exp], .agg #[.bool b.neg, .string ⟨b.digits.toArray⟩, .int .i64 b.exp]] w fun e w' => e = .returned (.tuple #[.agg #[.bool (addP a b).1.neg, .string ⟨(addP a b).1.digits.toArray⟩, .int .i64 (addP a b).1.exp], .int .i64 (addP a b).2]) ∧ Ext w w' := by
  have HP : Hid (addP a b = if sane a = true ∧ sane b = true then (if a.digits = [] then (b, 0) else if b.digits = [] then (a, 0) else toldP (normZ (zv a (low a b) + zv b (low a b)) (low a b))) else (Num.zero, 1)) := Lib.hid rfl
  obtain ⟨an, al, ax⟩ := a
  obtain ⟨bn, bl, bx⟩ := b
  simp only at hal hbl HP
  have hE := ext_refl w
  have HA0 := NumAt.new w ⟨an, al, ax⟩
  have hx := ext_newnum w ⟨an, al, ax⟩
  simp only at HA0 hx
  replace hE := ext_trans hE hx
  have HA := Lib.hid HA0
  clear hx HA0
  generalize hwA : w.alloc (.cells #[.bool an, .string ⟨al.toArray⟩, .int .i64 ax] 25) = wA at *
  have hsA : wA.heap.size = w.heap.size + 1 := by rw [← hwA]; simp
  have HB0 := NumAt.new wA ⟨bn, bl, bx⟩
  have hx := ext_newnum wA ⟨bn, bl, bx⟩
  simp only at HB0 hx
  replace HA := Lib.hid (HA.out.ext hx)
  replace hE := ext_trans hE hx
  have HB := Lib.hid HB0
  clear hx HB0
  generalize hwB : wA.alloc (.cells #[.bool bn, .string ⟨bl.toArray⟩, .int .i64 bx] 25) = wB at *
  have hsB : wB.heap.size = w.heap.size + 2 := by rw [← hwB]; simp [hsA]
  rw [hsA] at HB
  have HR0 := NumAt.new wB ⟨false, [], 0⟩
  have hx := ext_newnum wB ⟨false, [], 0⟩
  simp only at HR0 hx
  replace HA := Lib.hid (HA.out.ext hx)
  replace HB := Lib.hid (HB.out.ext hx)
  replace hE := ext_trans hE hx
  have HR := Lib.hid HR0
  clear hx HR0
  generalize hwR : wB.alloc (.cells #[.bool false, .string ⟨#[]⟩, .int .i64 0] 25) = wR at *
  rw [hsB] at HR
  subst hwA hwB
  go_enter Tryd.func20, Tryd.ntmps20
  obtain ⟨fA0, fA1, fA2, gA0, gA1, gA2, lA⟩ := HA.out.cells
  simp only at fA0 fA1 fA2
  obtain ⟨fB0, fB1, fB2, gB0, gB1, gB2, lB⟩ := HB.out.cells
  simp only at fB0 fB1 fB2
  obtain ⟨fR0, fR1, fR2, gR0, gR1, gR2, lR⟩ := HR.out.cells
  simp only at fR0 fR1 fR2
  go_wp2_with fail
  clear fA0 fA1 fA2 gA0 gA1 gA2 lA
  clear fB0 fB1 fB2 gB0 gB1 gB2 lB
  clear fR0 fR1 fR2 gR0 gR1 gR2 lR
  clear hwR hsA hsB
  refine (r2sane_any ⟨an, al, ax⟩ _ hal).mono ?_
  rintro e wn ⟨rfl, hw⟩
  replace HA := Lib.hid (HA.out.ext hw)
  replace HB := Lib.hid (HB.out.ext hw)
  replace HR := Lib.hid (HR.out.ext hw)
  replace hE := ext_trans hE hw
  clear hw
  cases hsa : sane ⟨an, al, ax⟩ with
  | false =>
    have HF : Hid (addP ⟨an, al, ax⟩ ⟨bn, bl, bx⟩ = (Num.zero, 1)) := Lib.hid (by rw [HP.out, if_neg (fun h => by rw [hsa] at h; cases h.1)])
    clear hsa HP
    obtain ⟨fA0, fA1, fA2, gA0, gA1, gA2, lA⟩ := HA.out.cells
    simp only at fA0 fA1 fA2
    obtain ⟨fB0, fB1, fB2, gB0, gB1, gB2, lB⟩ := HB.out.cells
    simp only at fB0 fB1 fB2
    obtain ⟨fR0, fR1, fR2, gR0, gR1, gR2, lR⟩ := HR.out.cells
    simp only at fR0 fR1 fR2
    go_wp2_with fail
    have hN := ((HR.out).store (Num.zero)).cells
    simp only [Num.zero] at hN
    obtain ⟨r0, r1, r2, _⟩ := hN
    exact bodyPost_ret (v := .tuple #[.agg #[.bool (Num.zero).neg, .string ⟨(Num.zero).digits.toArray⟩, .int .i64 (Num.zero).exp], .int .i64 (1)]) (by simp [results, Num.zero, Tryd.results20, go_sem, r0, r1, r2]) rfl ⟨by rw [HF.out], below_store (hE) (by omega) _ _ _⟩
  | true =>
  have HSA := Lib.hid hsa
  clear hsa
  obtain ⟨fA0, fA1, fA2, gA0, gA1, gA2, lA⟩ := HA.out.cells
  simp only at fA0 fA1 fA2
  obtain ⟨fB0, fB1, fB2, gB0, gB1, gB2, lB⟩ := HB.out.cells
  simp only at fB0 fB1 fB2
  obtain ⟨fR0, fR1, fR2, gR0, gR1, gR2, lR⟩ := HR.out.cells
  simp only at fR0 fR1 fR2
  go_wp2_with fail
  clear fA0 fA1 fA2 gA0 gA1 gA2 lA
  clear fB0 fB1 fB2 gB0 gB1 gB2 lB
  clear fR0 fR1 fR2 gR0 gR1 gR2 lR
  refine (r2sane_any ⟨bn, bl, bx⟩ _ hbl).mono ?_
  rintro e wn ⟨rfl, hw⟩
  replace HA := Lib.hid (HA.out.ext hw)
  replace HB := Lib.hid (HB.out.ext hw)
  replace HR := Lib.hid (HR.out.ext hw)
  replace hE := ext_trans hE hw
  clear hw
  cases hsb : sane ⟨bn, bl, bx⟩ with
  | false =>
    have HF : Hid (addP ⟨an, al, ax⟩ ⟨bn, bl, bx⟩ = (Num.zero, 1)) := Lib.hid (by rw [HP.out, if_neg (fun h => by rw [hsb] at h; cases h.2)])
    clear hsb HP
    obtain ⟨fA0, fA1, fA2, gA0, gA1, gA2, lA⟩ := HA.out.cells
    simp only at fA0 fA1 fA2
    obtain ⟨fB0, fB1, fB2, gB0, gB1, gB2, lB⟩ := HB.out.cells
    simp only at fB0 fB1 fB2
    obtain ⟨fR0, fR1, fR2, gR0, gR1, gR2, lR⟩ := HR.out.cells
    simp only at fR0 fR1 fR2
    go_wp2_with fail
    have hN := ((HR.out).store (Num.zero)).cells
    simp only [Num.zero] at hN
    obtain ⟨r0, r1, r2, _⟩ := hN
    exact bodyPost_ret (v := .tuple #[.agg #[.bool (Num.zero).neg, .string ⟨(Num.zero).digits.toArray⟩, .int .i64 (Num.zero).exp], .int .i64 (1)]) (by simp [results, Num.zero, Tryd.results20, go_sem, r0, r1, r2]) rfl ⟨by rw [HF.out], below_store (hE) (by omega) _ _ _⟩
  | true =>
  have HSB := Lib.hid hsb
  have HP2 := Lib.hid (HP.out.trans (if_pos ⟨HSA.out, hsb⟩))
  clear hsb HP
  by_cases ha0 : al = []
  · have HF := Lib.hid (HP2.out.trans (if_pos ha0))
    subst ha0
    clear HP2
    obtain ⟨fA0, fA1, fA2, gA0, gA1, gA2, lA⟩ := HA.out.cells
    simp only at fA0 fA1 fA2
    obtain ⟨fB0, fB1, fB2, gB0, gB1, gB2, lB⟩ := HB.out.cells
    simp only at fB0 fB1 fB2
    obtain ⟨fR0, fR1, fR2, gR0, gR1, gR2, lR⟩ := HR.out.cells
    simp only at fR0 fR1 fR2
    go_wp2_with fail
    have hN := ((HR.out).store ((⟨bn, bl, bx⟩ : Num))).cells
    simp only [Num.zero] at hN
    obtain ⟨r0, r1, r2, _⟩ := hN
    exact bodyPost_ret (v := .tuple #[.agg #[.bool ((⟨bn, bl, bx⟩ : Num)).neg, .string ⟨((⟨bn, bl, bx⟩ : Num)).digits.toArray⟩, .int .i64 ((⟨bn, bl, bx⟩ : Num)).exp], .int .i64 (0)]) (by simp [results, Num.zero, Tryd.results20, go_sem, r0, r1, r2]) rfl ⟨by rw [HF.out], below_store (hE) (by omega) _ _ _⟩
  by_cases hb0 : bl = []
  · have HF := Lib.hid ((HP2.out.trans (if_neg ha0)).trans (if_pos hb0))
    subst hb0
    have hl1 : 0 < al.length := List.length_pos_iff.2 ha0
    have e1 : ((al.length : Int) == 0) = false := by simp; omega
    clear HP2
    obtain ⟨fA0, fA1, fA2, gA0, gA1, gA2, lA⟩ := HA.out.cells
    simp only at fA0 fA1 fA2
    obtain ⟨fB0, fB1, fB2, gB0, gB1, gB2, lB⟩ := HB.out.cells
    simp only at fB0 fB1 fB2
    obtain ⟨fR0, fR1, fR2, gR0, gR1, gR2, lR⟩ := HR.out.cells
    simp only at fR0 fR1 fR2
    go_wp2_with fail
    have hN := ((HR.out).store ((⟨an, al, ax⟩ : Num))).cells
    simp only [Num.zero] at hN
    obtain ⟨r0, r1, r2, _⟩ := hN
    exact bodyPost_ret (v := .tuple #[.agg #[.bool ((⟨an, al, ax⟩ : Num)).neg, .string ⟨((⟨an, al, ax⟩ : Num)).digits.toArray⟩, .int .i64 ((⟨an, al, ax⟩ : Num)).exp], .int .i64 (0)]) (by simp [results, Num.zero, Tryd.results20, go_sem, r0, r1, r2]) rfl ⟨by rw [HF.out], below_store (hE) (by omega) _ _ _⟩
  have HP4 := Lib.hid ((HP2.out.trans (if_neg ha0)).trans (if_neg hb0))
  have hl1 : 0 < al.length := List.length_pos_iff.2 ha0
  have hl2 : 0 < bl.length := List.length_pos_iff.2 hb0
  have e1 : ((al.length : Int) == 0) = false := by simp; omega
  have e2 : ((bl.length : Int) == 0) = false := by simp; omega
  clear ha0 hb0 HP2
  obtain ⟨hla, hxa1, hxa2⟩ := sane_xb HSA.out
  obtain ⟨hlb, hxb1, hxb2⟩ := sane_xb HSB.out
  simp only at hla hxa1 hxa2 hlb hxb1 hxb2
  obtain ⟨m, hm⟩ : ∃ m, low ⟨an, al, ax⟩ ⟨bn, bl, bx⟩ = m := ⟨_, rfl⟩
  have hm1 : min ax bx = m := by rw [← hm]; rfl
  rw [hm] at HP4
  clear hm
  obtain ⟨k1, hk1⟩ : ∃ k : Nat, ax - m = k := ⟨(ax - m).toNat, by omega⟩
  obtain ⟨k2, hk2⟩ : ∃ k : Nat, bx - m = k := ⟨(bx - m).toNat, by omega⟩
  have e3 : IntKind.i64.wrap (ax - m) = (k1 : Int) := by rw [IntWalk.i64_in _ (by omega)]; exact hk1
  have e4 : IntKind.i64.wrap (bx - m) = (k2 : Int) := by rw [IntWalk.i64_in _ (by omega)]; exact hk2
  have hmb : -800 ≤ m ∧ m ≤ 800 := by omega
  have hkb : k1 ≤ 1600 ∧ k2 ≤ 1600 := by omega
  obtain ⟨hmb1, hmb2⟩ := hmb
  obtain ⟨hkb1, hkb2⟩ := hkb
  have hza : zv ⟨an, al, ax⟩ m = if an then -((val al * 10 ^ k1 : Nat) : Int) else ((val al * 10 ^ k1 : Nat) : Int) := by
    unfold zv sgn; simp only [hk1, Int.toNat_natCast]; cases an <;> simp
  have hzb : zv ⟨bn, bl, bx⟩ m = if bn then -((val bl * 10 ^ k2 : Nat) : Int) else ((val bl * 10 ^ k2 : Nat) : Int) := by
    unfold zv sgn; simp only [hk2, Int.toNat_natCast]; cases bn <;> simp
  have hcat1 := ba_app al (zeros k1)
  have hcat2 := ba_app bl (zeros k2)
  have hv1 : val (al ++ zeros k1) = val al * 10 ^ k1 := by rw [val_app, val_zeros, zeros_len, Nat.add_zero]
  have hv2 : val (bl ++ zeros k2) = val bl * 10 ^ k2 := by rw [val_app, val_zeros, zeros_len, Nat.add_zero]
  have hd1 : allD (al ++ zeros k1) := (sane_all HSA.out).app (allD_zeros _)
  have hd2 : allD (bl ++ zeros k2) := (sane_all HSB.out).app (allD_zeros _)
  have hn1 : (al ++ zeros k1).length ≤ 2000 := by rw [List.length_append, zeros_len]; omega
  have hn2 : (bl ++ zeros k2).length ≤ 2000 := by rw [List.length_append, zeros_len]; omega
  have hz1 := zeros_len k1
  have hz2 := zeros_len k2
  rw [← hv1] at hza
  rw [← hv2] at hzb
  obtain ⟨X0, hX0⟩ : ∃ X0, al ++ zeros k1 = X0 := ⟨_, rfl⟩
  obtain ⟨Y0, hY0⟩ : ∃ Y0, bl ++ zeros k2 = Y0 := ⟨_, rfl⟩
  rw [hX0] at hza hcat1 hd1 hn1
  rw [hY0] at hzb hcat2 hd2 hn2
  have HZA := Lib.hid hza
  have HZB := Lib.hid hzb
  have HD1 := Lib.hid hd1
  have HD2 := Lib.hid hd2
  clear hv1 hv2 hX0 hY0 hza hzb hd1 hd2 hk1 hk2
  have hov1 : ¬ 2^63-1 < al.length + (zeros k1).length := by omega
  have hov2 : ¬ 2^63-1 < bl.length + (zeros k2).length := by omega
  clear hz1 hz2
  obtain ⟨fA0, fA1, fA2, gA0, gA1, gA2, lA⟩ := HA.out.cells
  simp only at fA0 fA1 fA2
  obtain ⟨fB0, fB1, fB2, gB0, gB1, gB2, lB⟩ := HB.out.cells
  simp only at fB0 fB1 fB2
  obtain ⟨fR0, fR1, fR2, gR0, gR1, gR2, lR⟩ := HR.out.cells
  simp only at fR0 fR1 fR2
  go_wp2_with fail
  clear fA0 fA1 fA2 gA0 gA1 gA2 lA
  clear fB0 fB1 fB2 gB0 gB1 gB2 lB
  clear fR0 fR1 fR2 gR0 gR1 gR2 lR
  refine Grow.wp_region_lit (G := Ext) (B := fun w' => Ext wn w') (anc := fun _ => []) (I := fun j => if j = 6 then some (Grow.Spec.val Ext (.string ⟨(zeros k1).toArray⟩)) else none) (by kernel_rfl) (by kernel_rfl) (by kernel_rfl) ?_ ?_ ?_
  · exact fun w w' h hg => ext_trans h hg
  · exact (ext_refl _).drew
  repeat
    (refine Grow.walk_step (fun K hK => ?_)
     first
     | (refine Grow.step_read (by rfl) (by rfl) ext_refl ?_
        apply Exists.intro
        refine ⟨fun w hB hF => ?_, ?_⟩
        · obtain ⟨a0, a1, a2, af0, af1, af2, hp⟩ := (HA.out.ext hB).cells; simp only at a0 a1 a2
          go_simp
          try exact rfl
        go_simp
        refine hK _ _ ?_
        clear hK K)
     | (refine Grow.step_off (by rfl) ?_
        go_simp
        refine hK _ _ ?_
        clear hK K))
  refine Grow.walk_step (fun K hK => ?_)
  refine Grow.step_rel (by rfl) (by rfl) (fun w' hB hF => ?_) (fun v hv => ?_)
  · go_simp
    refine Grow.relUpon_enter ((r2zeros_any (k1 : Int) w' (by omega) (by omega)).mono ?_)
    rintro e w'' ⟨rfl, hw''⟩
    exact ⟨_, rfl, hw'', by rw [Int.toNat_natCast]; rfl, trivial⟩
  obtain rfl : v = _ := hv
  go_simp
  refine hK _ _ ?_
  clear hK K
  repeat
    (refine Grow.walk_step (fun K hK => ?_)
     first
     | (refine Grow.step_read (by rfl) (by rfl) ext_refl ?_
        apply Exists.intro
        refine ⟨fun w hB hF => ?_, ?_⟩
        · skip
          go_simp
          try exact rfl
        go_simp
        refine hK _ _ ?_
        clear hK K)
     | (refine Grow.step_off (by rfl) ?_
        go_simp
        refine hK _ _ ?_
        clear hK K))
  refine Grow.walk_nil ?_
  intro wn hB hF
  clear hF
  replace HA := Lib.hid (HA.out.ext hB)
  replace HB := Lib.hid (HB.out.ext hB)
  replace HR := Lib.hid (HR.out.ext hB)
  replace hE := ext_trans hE hB
  clear hB
  go_wp2_with fail
  refine Grow.wp_region_lit (G := Ext) (B := fun w' => Ext wn w') (anc := fun _ => []) (I := fun j => if j = 6 then some (Grow.Spec.val Ext (.string ⟨(zeros k2).toArray⟩)) else none) (by kernel_rfl) (by kernel_rfl) (by kernel_rfl) ?_ ?_ ?_
  · exact fun w w' h hg => ext_trans h hg
  · exact (ext_refl _).drew
  repeat
    (refine Grow.walk_step (fun K hK => ?_)
     first
     | (refine Grow.step_read (by rfl) (by rfl) ext_refl ?_
        apply Exists.intro
        refine ⟨fun w hB hF => ?_, ?_⟩
        · obtain ⟨a0, a1, a2, af0, af1, af2, hp⟩ := (HB.out.ext hB).cells; simp only at a0 a1 a2
          go_simp
          try exact rfl
        go_simp
        refine hK _ _ ?_
        clear hK K)
     | (refine Grow.step_off (by rfl) ?_
        go_simp
        refine hK _ _ ?_
        clear hK K))
  refine Grow.walk_step (fun K hK => ?_)
  refine Grow.step_rel (by rfl) (by rfl) (fun w' hB hF => ?_) (fun v hv => ?_)
  · go_simp
    refine Grow.relUpon_enter ((r2zeros_any (k2 : Int) w' (by omega) (by omega)).mono ?_)
    rintro e w'' ⟨rfl, hw''⟩
    exact ⟨_, rfl, hw'', by rw [Int.toNat_natCast]; rfl, trivial⟩
  obtain rfl : v = _ := hv
  go_simp
  refine hK _ _ ?_
  clear hK K
  repeat
    (refine Grow.walk_step (fun K hK => ?_)
     first
     | (refine Grow.step_read (by rfl) (by rfl) ext_refl ?_
        apply Exists.intro
        refine ⟨fun w hB hF => ?_, ?_⟩
        · skip
          go_simp
          try exact rfl
        go_simp
        refine hK _ _ ?_
        clear hK K)
     | (refine Grow.step_off (by rfl) ?_
        go_simp
        refine hK _ _ ?_
        clear hK K))
  refine Grow.walk_nil ?_
  intro wn hB hF
  clear hF
  replace HA := Lib.hid (HA.out.ext hB)
  replace HB := Lib.hid (HB.out.ext hB)
  replace HR := Lib.hid (HR.out.ext hB)
  replace hE := ext_trans hE hB
  clear hB
  clear hcat1 hcat2 hov1 hov2 e3 e4
  obtain ⟨n, hn⟩ : ∃ n, max X0.length Y0.length = n := ⟨_, rfl⟩
  have hmax : max (X0.length : Int) (Y0.length : Int) = (n : Int) := by omega
  have hnb : n ≤ 2000 := by omega
  go_wp2_with fail
  refine (r2wide_any X0 n _ (by omega) (by omega)).mono ?_
  rintro e wn ⟨rfl, hw⟩
  replace HA := Lib.hid (HA.out.ext hw)
  replace HB := Lib.hid (HB.out.ext hw)
  replace HR := Lib.hid (HR.out.ext hw)
  replace hE := ext_trans hE hw
  clear hw
  go_wp2_with fail
  refine (r2wide_any Y0 n _ (by omega) (by omega)).mono ?_
  rintro e wn ⟨rfl, hw⟩
  replace HA := Lib.hid (HA.out.ext hw)
  replace HB := Lib.hid (HB.out.ext hw)
  replace HR := Lib.hid (HR.out.ext hw)
  replace hE := ext_trans hE hw
  clear hw
  have hwx := wideP_val X0 n
  have hwy := wideP_val Y0 n
  have hlx := wideP_len X0 n (by omega)
  have hly := wideP_len Y0 n (by omega)
  have hax := wideP_all n HD1.out
  have hay := wideP_all n HD2.out
  rw [← hwx] at HZA
  rw [← hwy] at HZB
  generalize wideP X0 n = X at *
  generalize wideP Y0 n = Y at *
  have HAX := Lib.hid hax
  have HAY := Lib.hid hay
  clear hwx hwy hax hay hmax HD1 HD2 hn
  have HLESS : Op.bytesLess X Y = decide (val X < val Y) := less_val X Y HAX.out HAY.out (by omega)
  have HVX := Lib.hid (val_lt_pow HAX.out (k := n) (by omega))
  have HVY := Lib.hid (val_lt_pow HAY.out (k := n) (by omega))
  by_cases hs : an = bn
  · subst hs
    have hpl := padD_len (n + 1) (val X + val Y)
    have hadd := addR (a := ⟨an, al, ax⟩) (b := ⟨an, bl, bx⟩) m (padD (n + 1) (val X + val Y)) an (padD_all _ _) (by
      rw [HZA.out, HZB.out, padD_val, Nat.mod_eq_of_lt (by rw [Nat.pow_succ]; have := HVX.out; have := HVY.out; omega)]
      cases an <;> simp <;> omega)
    rw [← HP4.out] at hadd
    obtain ⟨S, hS⟩ : ∃ S, padD (n + 1) (val X + val Y) = S := ⟨_, rfl⟩
    rw [hS] at hadd hpl
    obtain ⟨F, hF⟩ : ∃ F, formR an S m = F := ⟨_, rfl⟩
    rw [hF] at hadd
    obtain ⟨T, hT⟩ : ∃ T, toldP F = T := ⟨_, rfl⟩
    rw [hT] at hadd
    have HS := Lib.hid hS
    have HFF := Lib.hid hF
    have HTT := Lib.hid hT
    have HF := Lib.hid hadd.symm
    have hFl : F.digits.length ≤ 140737488355328 := by
      rw [← hF]; unfold formR; split
      · decide
      · have h1 := trimR0_le (trimL0 S)
        have h2 := trimL0_le S
        show (trimR0 (trimL0 S)).length ≤ _
        omega
    clear hS hF hT hadd
    obtain ⟨fn, fl, fx⟩ := F
    obtain ⟨⟨tn, tl, tx⟩, te⟩ := T
    simp only at hFl
    obtain ⟨fA0, fA1, fA2, gA0, gA1, gA2, lA⟩ := HA.out.cells
    simp only at fA0 fA1 fA2
    obtain ⟨fB0, fB1, fB2, gB0, gB1, gB2, lB⟩ := HB.out.cells
    simp only at fB0 fB1 fB2
    obtain ⟨fR0, fR1, fR2, gR0, gR1, gR2, lR⟩ := HR.out.cells
    simp only at fR0 fR1 fR2
    go_wp2_with fail
    clear fA0 fA1 fA2 gA0 gA1 gA2 lA
    clear fB0 fB1 fB2 gB0 gB1 gB2 lB
    clear fR0 fR1 fR2 gR0 gR1 gR2 lR
    refine Grow.wp_region_tail (G := Ext) (B := fun w' => Ext wn w') (anc := fun _ => []) (I := fun j => if j = 4 then some (Grow.Spec.val Ext (.string ⟨S.toArray⟩)) else if j = 6 then some (Grow.Spec.val Ext (.agg #[.bool fn, .string ⟨fl.toArray⟩, .int .i64 fx])) else if j = 7 then some (Grow.Spec.val Ext (.tuple #[.agg #[.bool tn, .string ⟨tl.toArray⟩, .int .i64 tx], .int .i64 te])) else none) 10 (by kernel_rfl) (by kernel_rfl) (by kernel_rfl) ?_ ?_ ?_
    · exact fun w w' h hg => ext_trans h hg
    · exact (ext_refl _).drew
    · simp only [List.take_succ_cons, List.take_zero, List.drop_succ_cons, List.drop_zero]
      repeat
        (refine Grow.walk_step (fun K hK => ?_)
         first
         | (refine Grow.step_read (by rfl) (by rfl) ext_refl ?_
            apply Exists.intro
            refine ⟨fun w hB hF => ?_, ?_⟩
            · obtain ⟨a0, a1, a2, af0, af1, af2, hp⟩ := (HA.out.ext hB).cells; obtain ⟨b0, b1, b2, bf0, bf1, bf2, hq⟩ := (HB.out.ext hB).cells; simp only at a0 a1 a2 b0 b1 b2
              go_simp
              try exact rfl
            go_simp
            refine hK _ _ ?_
            clear hK K)
         | (refine Grow.step_off (by rfl) ?_
            go_simp
            refine hK _ _ ?_
            clear hK K))
      refine Grow.walk_step (fun K hK => ?_)
      refine Grow.step_rel (by rfl) (by rfl) (fun w' hB hF => ?_) (fun v hv => ?_)
      · go_simp
        refine Grow.relUpon_enter ((r2plus_any X Y w' (by omega) (by omega) HAX.out HAY.out).mono ?_)
        rintro e w'' ⟨rfl, hw''⟩
        exact ⟨_, rfl, hw'', by rw [hlx]; rw [HS.out]; rfl, trivial⟩
      obtain rfl : v = _ := hv
      go_simp
      refine hK _ _ ?_
      clear hK K
      repeat
        (refine Grow.walk_step (fun K hK => ?_)
         first
         | (refine Grow.step_read (by rfl) (by rfl) ext_refl ?_
            apply Exists.intro
            refine ⟨fun w hB hF => ?_, ?_⟩
            · obtain ⟨a0, a1, a2, af0, af1, af2, hp⟩ := (HA.out.ext hB).cells; obtain ⟨b0, b1, b2, bf0, bf1, bf2, hq⟩ := (HB.out.ext hB).cells; simp only at a0 a1 a2 b0 b1 b2
              go_simp
              try exact rfl
            go_simp
            refine hK _ _ ?_
            clear hK K)
         | (refine Grow.step_off (by rfl) ?_
            go_simp
            refine hK _ _ ?_
            clear hK K))
      refine Grow.walk_step (fun K hK => ?_)
      refine Grow.step_rel (by rfl) (by rfl) (fun w' hB hF => ?_) (fun v hv => ?_)
      · go_simp
        refine Grow.relUpon_enter ((r2form_any an S m w' (by omega) (by omega) (by omega)).mono ?_)
        rintro e w'' ⟨rfl, hw''⟩
        exact ⟨_, rfl, hw'', by rw [HFF.out]; rfl, trivial⟩
      obtain rfl : v = _ := hv
      go_simp
      refine hK _ _ ?_
      clear hK K
      refine Grow.walk_step (fun K hK => ?_)
      refine Grow.step_rel (by rfl) (by rfl) (fun w' hB hF => ?_) (fun v hv => ?_)
      · go_simp
        refine Grow.relUpon_enter ((r2told_any ⟨fn, fl, fx⟩ w' hFl).mono ?_)
        rintro e w'' ⟨rfl, hw''⟩
        exact ⟨_, rfl, hw'', by rw [HTT.out]; rfl, trivial⟩
      obtain rfl : v = _ := hv
      go_simp
      refine hK _ _ ?_
      clear hK K
      repeat
        (refine Grow.walk_step (fun K hK => ?_)
         first
         | (refine Grow.step_read (by rfl) (by rfl) ext_refl ?_
            apply Exists.intro
            refine ⟨fun w hB hF => ?_, ?_⟩
            · skip
              go_simp
              try exact rfl
            go_simp
            refine hK _ _ ?_
            clear hK K)
         | (refine Grow.step_off (by rfl) ?_
            go_simp
            refine hK _ _ ?_
            clear hK K))
      refine Grow.walk_nil ?_
      intro w3 hB hF
      clear hF
      replace HR := Lib.hid (HR.out.ext hB)
      replace hE := ext_trans hE hB
      obtain ⟨fR0, fR1, fR2, gR0, gR1, gR2, lR⟩ := HR.out.cells
      simp only at fR0 fR1 fR2
      go_wp2_with fail
      have hN := ((HR.out).store ((⟨tn, tl, tx⟩ : Num))).cells
      simp only [Num.zero] at hN
      obtain ⟨r0, r1, r2, _⟩ := hN
      exact bodyPost_ret (v := .tuple #[.agg #[.bool ((⟨tn, tl, tx⟩ : Num)).neg, .string ⟨((⟨tn, tl, tx⟩ : Num)).digits.toArray⟩, .int .i64 ((⟨tn, tl, tx⟩ : Num)).exp], .int .i64 (te)]) (by simp [results, Num.zero, Tryd.results20, go_sem, r0, r1, r2]) rfl ⟨by rw [HF.out], below_store (hE) (by omega) _ _ _⟩
  · obtain rfl : bn = !an := by cases an <;> cases bn <;> simp_all
    have hsn : (an == !an) = false := by cases an <;> rfl
    by_cases hlt : val X < val Y
    · rw [decide_eq_true hlt] at HLESS
      have hpl := padD_len n (val Y - val X)
      have hadd := addR (a := ⟨an, al, ax⟩) (b := ⟨!an, bl, bx⟩) m (padD n (val Y - val X)) (!an) (padD_all _ _) (by
        rw [HZA.out, HZB.out, padD_val, Nat.mod_eq_of_lt (by have := HVY.out; omega)]
        cases an <;> simp <;> omega)
      rw [← HP4.out] at hadd
      obtain ⟨S, hS⟩ : ∃ S, padD n (val Y - val X) = S := ⟨_, rfl⟩
      rw [hS] at hadd hpl
      obtain ⟨F, hF⟩ : ∃ F, formR (!an) S m = F := ⟨_, rfl⟩
      rw [hF] at hadd
      obtain ⟨T, hT⟩ : ∃ T, toldP F = T := ⟨_, rfl⟩
      rw [hT] at hadd
      have HS := Lib.hid hS
      have HFF := Lib.hid hF
      have HTT := Lib.hid hT
      have HF := Lib.hid hadd.symm
      have hFl : F.digits.length ≤ 140737488355328 := by
        rw [← hF]; unfold formR; split
        · decide
        · have h1 := trimR0_le (trimL0 S)
          have h2 := trimL0_le S
          show (trimR0 (trimL0 S)).length ≤ _
          omega
      clear hS hF hT hadd
      obtain ⟨fn, fl, fx⟩ := F
      obtain ⟨⟨tn, tl, tx⟩, te⟩ := T
      simp only at hFl
      obtain ⟨fA0, fA1, fA2, gA0, gA1, gA2, lA⟩ := HA.out.cells
      simp only at fA0 fA1 fA2
      obtain ⟨fB0, fB1, fB2, gB0, gB1, gB2, lB⟩ := HB.out.cells
      simp only at fB0 fB1 fB2
      obtain ⟨fR0, fR1, fR2, gR0, gR1, gR2, lR⟩ := HR.out.cells
      simp only at fR0 fR1 fR2
      go_wp2_with fail
      clear fA0 fA1 fA2 gA0 gA1 gA2 lA
      clear fB0 fB1 fB2 gB0 gB1 gB2 lB
      clear fR0 fR1 fR2 gR0 gR1 gR2 lR
      refine Grow.wp_region_tail (G := Ext) (B := fun w' => Ext wn w') (anc := fun _ => []) (I := fun j => if j = 4 then some (Grow.Spec.val Ext (.string ⟨S.toArray⟩)) else if j = 6 then some (Grow.Spec.val Ext (.agg #[.bool fn, .string ⟨fl.toArray⟩, .int .i64 fx])) else if j = 7 then some (Grow.Spec.val Ext (.tuple #[.agg #[.bool tn, .string ⟨tl.toArray⟩, .int .i64 tx], .int .i64 te])) else none) 10 (by kernel_rfl) (by kernel_rfl) (by kernel_rfl) ?_ ?_ ?_
      · exact fun w w' h hg => ext_trans h hg
      · exact (ext_refl _).drew
      · simp only [List.take_succ_cons, List.take_zero, List.drop_succ_cons, List.drop_zero]
        repeat
          (refine Grow.walk_step (fun K hK => ?_)
           first
           | (refine Grow.step_read (by rfl) (by rfl) ext_refl ?_
              apply Exists.intro
              refine ⟨fun w hB hF => ?_, ?_⟩
              · obtain ⟨a0, a1, a2, af0, af1, af2, hp⟩ := (HA.out.ext hB).cells; obtain ⟨b0, b1, b2, bf0, bf1, bf2, hq⟩ := (HB.out.ext hB).cells; simp only at a0 a1 a2 b0 b1 b2
                go_simp
                try exact rfl
              go_simp
              refine hK _ _ ?_
              clear hK K)
           | (refine Grow.step_off (by rfl) ?_
              go_simp
              refine hK _ _ ?_
              clear hK K))
        refine Grow.walk_step (fun K hK => ?_)
        refine Grow.step_rel (by rfl) (by rfl) (fun w' hB hF => ?_) (fun v hv => ?_)
        · go_simp
          refine Grow.relUpon_enter ((r2minus_any Y X w' (by omega) (by omega) HAY.out HAX.out (by omega)).mono ?_)
          rintro e w'' ⟨rfl, hw''⟩
          exact ⟨_, rfl, hw'', by rw [hly]; rw [HS.out]; rfl, trivial⟩
        obtain rfl : v = _ := hv
        go_simp
        refine hK _ _ ?_
        clear hK K
        repeat
          (refine Grow.walk_step (fun K hK => ?_)
           first
           | (refine Grow.step_read (by rfl) (by rfl) ext_refl ?_
              apply Exists.intro
              refine ⟨fun w hB hF => ?_, ?_⟩
              · obtain ⟨a0, a1, a2, af0, af1, af2, hp⟩ := (HA.out.ext hB).cells; obtain ⟨b0, b1, b2, bf0, bf1, bf2, hq⟩ := (HB.out.ext hB).cells; simp only at a0 a1 a2 b0 b1 b2
                go_simp
                try exact rfl
              go_simp
              refine hK _ _ ?_
              clear hK K)
           | (refine Grow.step_off (by rfl) ?_
              go_simp
              refine hK _ _ ?_
              clear hK K))
        refine Grow.walk_step (fun K hK => ?_)
        refine Grow.step_rel (by rfl) (by rfl) (fun w' hB hF => ?_) (fun v hv => ?_)
        · go_simp
          refine Grow.relUpon_enter ((r2form_any (!an) S m w' (by omega) (by omega) (by omega)).mono ?_)
          rintro e w'' ⟨rfl, hw''⟩
          exact ⟨_, rfl, hw'', by rw [HFF.out]; rfl, trivial⟩
        obtain rfl : v = _ := hv
        go_simp
        refine hK _ _ ?_
        clear hK K
        refine Grow.walk_step (fun K hK => ?_)
        refine Grow.step_rel (by rfl) (by rfl) (fun w' hB hF => ?_) (fun v hv => ?_)
        · go_simp
          refine Grow.relUpon_enter ((r2told_any ⟨fn, fl, fx⟩ w' hFl).mono ?_)
          rintro e w'' ⟨rfl, hw''⟩
          exact ⟨_, rfl, hw'', by rw [HTT.out]; rfl, trivial⟩
        obtain rfl : v = _ := hv
        go_simp
        refine hK _ _ ?_
        clear hK K
        repeat
          (refine Grow.walk_step (fun K hK => ?_)
           first
           | (refine Grow.step_read (by rfl) (by rfl) ext_refl ?_
              apply Exists.intro
              refine ⟨fun w hB hF => ?_, ?_⟩
              · skip
                go_simp
                try exact rfl
              go_simp
              refine hK _ _ ?_
              clear hK K)
           | (refine Grow.step_off (by rfl) ?_
              go_simp
              refine hK _ _ ?_
              clear hK K))
        refine Grow.walk_nil ?_
        intro w3 hB hF
        clear hF
        replace HR := Lib.hid (HR.out.ext hB)
        replace hE := ext_trans hE hB
        obtain ⟨fR0, fR1, fR2, gR0, gR1, gR2, lR⟩ := HR.out.cells
        simp only at fR0 fR1 fR2
        go_wp2_with fail
        have hN := ((HR.out).store ((⟨tn, tl, tx⟩ : Num))).cells
        simp only [Num.zero] at hN
        obtain ⟨r0, r1, r2, _⟩ := hN
        exact bodyPost_ret (v := .tuple #[.agg #[.bool ((⟨tn, tl, tx⟩ : Num)).neg, .string ⟨((⟨tn, tl, tx⟩ : Num)).digits.toArray⟩, .int .i64 ((⟨tn, tl, tx⟩ : Num)).exp], .int .i64 (te)]) (by simp [results, Num.zero, Tryd.results20, go_sem, r0, r1, r2]) rfl ⟨by rw [HF.out], below_store (hE) (by omega) _ _ _⟩
    · rw [decide_eq_false hlt] at HLESS
      have hpl := padD_len n (val X - val Y)
      have hadd := addR (a := ⟨an, al, ax⟩) (b := ⟨!an, bl, bx⟩) m (padD n (val X - val Y)) an (padD_all _ _) (by
        rw [HZA.out, HZB.out, padD_val, Nat.mod_eq_of_lt (by have := HVX.out; omega)]
        cases an <;> simp <;> omega)
      rw [← HP4.out] at hadd
      obtain ⟨S, hS⟩ : ∃ S, padD n (val X - val Y) = S := ⟨_, rfl⟩
      rw [hS] at hadd hpl
      obtain ⟨F, hF⟩ : ∃ F, formR an S m = F := ⟨_, rfl⟩
      rw [hF] at hadd
      obtain ⟨T, hT⟩ : ∃ T, toldP F = T := ⟨_, rfl⟩
      rw [hT] at hadd
      have HS := Lib.hid hS
      have HFF := Lib.hid hF
      have HTT := Lib.hid hT
      have HF := Lib.hid hadd.symm
      have hFl : F.digits.length ≤ 140737488355328 := by
        rw [← hF]; unfold formR; split
        · decide
        · have h1 := trimR0_le (trimL0 S)
          have h2 := trimL0_le S
          show (trimR0 (trimL0 S)).length ≤ _
          omega
      clear hS hF hT hadd
      obtain ⟨fn, fl, fx⟩ := F
      obtain ⟨⟨tn, tl, tx⟩, te⟩ := T
      simp only at hFl
      obtain ⟨fA0, fA1, fA2, gA0, gA1, gA2, lA⟩ := HA.out.cells
      simp only at fA0 fA1 fA2
      obtain ⟨fB0, fB1, fB2, gB0, gB1, gB2, lB⟩ := HB.out.cells
      simp only at fB0 fB1 fB2
      obtain ⟨fR0, fR1, fR2, gR0, gR1, gR2, lR⟩ := HR.out.cells
      simp only at fR0 fR1 fR2
      go_wp2_with fail
      clear fA0 fA1 fA2 gA0 gA1 gA2 lA
      clear fB0 fB1 fB2 gB0 gB1 gB2 lB
      clear fR0 fR1 fR2 gR0 gR1 gR2 lR
      refine Grow.wp_region_tail (G := Ext) (B := fun w' => Ext wn w') (anc := fun _ => []) (I := fun j => if j = 4 then some (Grow.Spec.val Ext (.string ⟨S.toArray⟩)) else if j = 6 then some (Grow.Spec.val Ext (.agg #[.bool fn, .string ⟨fl.toArray⟩, .int .i64 fx])) else if j = 7 then some (Grow.Spec.val Ext (.tuple #[.agg #[.bool tn, .string ⟨tl.toArray⟩, .int .i64 tx], .int .i64 te])) else none) 10 (by kernel_rfl) (by kernel_rfl) (by kernel_rfl) ?_ ?_ ?_
      · exact fun w w' h hg => ext_trans h hg
      · exact (ext_refl _).drew
      · simp only [List.take_succ_cons, List.take_zero, List.drop_succ_cons, List.drop_zero]
        repeat
          (refine Grow.walk_step (fun K hK => ?_)
           first
           | (refine Grow.step_read (by rfl) (by rfl) ext_refl ?_
              apply Exists.intro
              refine ⟨fun w hB hF => ?_, ?_⟩
              · obtain ⟨a0, a1, a2, af0, af1, af2, hp⟩ := (HA.out.ext hB).cells; obtain ⟨b0, b1, b2, bf0, bf1, bf2, hq⟩ := (HB.out.ext hB).cells; simp only at a0 a1 a2 b0 b1 b2
                go_simp
                try exact rfl
              go_simp
              refine hK _ _ ?_
              clear hK K)
           | (refine Grow.step_off (by rfl) ?_
              go_simp
              refine hK _ _ ?_
              clear hK K))
        refine Grow.walk_step (fun K hK => ?_)
        refine Grow.step_rel (by rfl) (by rfl) (fun w' hB hF => ?_) (fun v hv => ?_)
        · go_simp
          refine Grow.relUpon_enter ((r2minus_any X Y w' (by omega) (by omega) HAX.out HAY.out (by omega)).mono ?_)
          rintro e w'' ⟨rfl, hw''⟩
          exact ⟨_, rfl, hw'', by rw [hlx]; rw [HS.out]; rfl, trivial⟩
        obtain rfl : v = _ := hv
        go_simp
        refine hK _ _ ?_
        clear hK K
        repeat
          (refine Grow.walk_step (fun K hK => ?_)
           first
           | (refine Grow.step_read (by rfl) (by rfl) ext_refl ?_
              apply Exists.intro
              refine ⟨fun w hB hF => ?_, ?_⟩
              · obtain ⟨a0, a1, a2, af0, af1, af2, hp⟩ := (HA.out.ext hB).cells; obtain ⟨b0, b1, b2, bf0, bf1, bf2, hq⟩ := (HB.out.ext hB).cells; simp only at a0 a1 a2 b0 b1 b2
                go_simp
                try exact rfl
              go_simp
              refine hK _ _ ?_
              clear hK K)
           | (refine Grow.step_off (by rfl) ?_
              go_simp
              refine hK _ _ ?_
              clear hK K))
        refine Grow.walk_step (fun K hK => ?_)
        refine Grow.step_rel (by rfl) (by rfl) (fun w' hB hF => ?_) (fun v hv => ?_)
        · go_simp
          refine Grow.relUpon_enter ((r2form_any an S m w' (by omega) (by omega) (by omega)).mono ?_)
          rintro e w'' ⟨rfl, hw''⟩
          exact ⟨_, rfl, hw'', by rw [HFF.out]; rfl, trivial⟩
        obtain rfl : v = _ := hv
        go_simp
        refine hK _ _ ?_
        clear hK K
        refine Grow.walk_step (fun K hK => ?_)
        refine Grow.step_rel (by rfl) (by rfl) (fun w' hB hF => ?_) (fun v hv => ?_)
        · go_simp
          refine Grow.relUpon_enter ((r2told_any ⟨fn, fl, fx⟩ w' hFl).mono ?_)
          rintro e w'' ⟨rfl, hw''⟩
          exact ⟨_, rfl, hw'', by rw [HTT.out]; rfl, trivial⟩
        obtain rfl : v = _ := hv
        go_simp
        refine hK _ _ ?_
        clear hK K
        repeat
          (refine Grow.walk_step (fun K hK => ?_)
           first
           | (refine Grow.step_read (by rfl) (by rfl) ext_refl ?_
              apply Exists.intro
              refine ⟨fun w hB hF => ?_, ?_⟩
              · skip
                go_simp
                try exact rfl
              go_simp
              refine hK _ _ ?_
              clear hK K)
           | (refine Grow.step_off (by rfl) ?_
              go_simp
              refine hK _ _ ?_
              clear hK K))
        refine Grow.walk_nil ?_
        intro w3 hB hF
        clear hF
        replace HR := Lib.hid (HR.out.ext hB)
        replace hE := ext_trans hE hB
        obtain ⟨fR0, fR1, fR2, gR0, gR1, gR2, lR⟩ := HR.out.cells
        simp only at fR0 fR1 fR2
        go_wp2_with fail
        have hN := ((HR.out).store ((⟨tn, tl, tx⟩ : Num))).cells
        simp only [Num.zero] at hN
        obtain ⟨r0, r1, r2, _⟩ := hN
        exact bodyPost_ret (v := .tuple #[.agg #[.bool ((⟨tn, tl, tx⟩ : Num)).neg, .string ⟨((⟨tn, tl, tx⟩ : Num)).digits.toArray⟩, .int .i64 ((⟨tn, tl, tx⟩ : Num)).exp], .int .i64 (te)]) (by simp [results, Num.zero, Tryd.results20, go_sem, r0, r1, r2]) rfl ⟨by rw [HF.out], below_store (hE) (by omega) _ _ _⟩
end Go.Proofs.YtpheohgceepboaaDoor
