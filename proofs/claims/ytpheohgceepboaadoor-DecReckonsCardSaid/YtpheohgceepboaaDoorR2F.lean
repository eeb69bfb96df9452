/- orangeryref02: what Mul does. -/
import Derived.Test.YtpheohgceepboaaDoorR2E
set_option linter.unusedVariables false
set_option linter.unusedSimpArgs false
set_option maxRecDepth 100000
namespace Go.Proofs.YtpheohgceepboaaDoor
open Go.RowKit Go.Mem Orange
theorem mulR {a b : Num} (ha : sane a = true) (hb : sane b = true) (r : List UInt8) (hr : allD r) (hv : val r = val a.digits * val b.digits) : toldP (formR (a.neg != b.neg) r (a.exp + b.exp)) = mulP a b := by
  have hm : mulP a b = toldP (normZ (zv a a.exp * zv b b.exp) (a.exp + b.exp)) := by unfold mulP; rw [if_pos ⟨ha, hb⟩]
  rw [formR_norm _ _ _ hr, norm_sgn, hv, hm]
  have e : (if (a.neg != b.neg) = true then -((val a.digits * val b.digits : Nat) : Int) else ((val a.digits * val b.digits : Nat) : Int)) = zv a a.exp * zv b b.exp := by
    unfold zv sgn
    simp only [Int.sub_self, Int.toNat_zero, Nat.pow_zero, Nat.mul_one]
    generalize val a.digits = p
    generalize val b.digits = q
    cases a.neg <;> cases b.neg <;> simp [Int.mul_neg, Int.neg_mul]
  rw [e]
/-- the sum when i digits are done -/
def sx (A : Nat) (l : List UInt8) (i : Nat) : Nat := A * (val (l.take i) * 10 ^ (l.length - i))
theorem sx_zero (A : Nat) (l : List UInt8) : sx A l 0 = 0 := by unfold sx; rw [List.take_zero, val_nil]; simp
theorem sx_step (A : Nat) (l : List UInt8) (i : Nat) (h : i < l.length) : sx A l (i + 1) = sx A l i + digV l[i] * (A * 10 ^ (l.length - 1 - i)) := by
  unfold sx
  have e1 : l.length - i = (l.length - 1 - i) + 1 := by omega
  have e2 : l.length - (i + 1) = l.length - 1 - i := by omega
  rw [val_take l i h, e1, e2, Nat.pow_succ]
  generalize 10 ^ (l.length - 1 - i) = p
  generalize val (l.take i) = v
  generalize digV l[i] = d
  grind
theorem sx_le (A : Nat) (l : List UInt8) (i : Nat) : sx A l i ≤ A * val l := by
  unfold sx
  refine Nat.mul_le_mul_left A ?_
  have h := val_app (l.take i) (l.drop i)
  rw [List.take_append_drop, List.length_drop] at h
  omega
theorem sx_end (A : Nat) (l : List UInt8) : sx A l l.length = A * val l := by unfold sx; rw [List.take_length, Nat.sub_self]; simp
theorem padD_zero : ∀ n, zeros n = padD n 0
  | 0 => rfl
  | n + 1 => by
    rw [padD, ← padD_zero n, Nat.zero_div]; rfl
set_option maxHeartbeats 6400000 in
theorem r2mul_any (a b : Num) (w : World) (hal : a.digits.length ≤ 140737488355328) (hbl : b.digits.length ≤ 140737488355328) :
    Calls Tryd.prog 21 #[.agg #[.bool a.neg, .string ⟨a.digits.toArray⟩, .int .i64 a.exp], .agg #[.bool b.neg, .string ⟨b.digits.toArray⟩, .int .i64 b.exp]] w fun e w' => e = .returned (.tuple #[.agg #[.bool (mulP a b).1.neg, .string ⟨(mulP a b).1.digits.toArray⟩, .int .i64 (mulP a b).1.exp], .int .i64 (mulP a b).2]) ∧ Ext w w' := by
  have HP : Hid (mulP a b = if sane a = true ∧ sane b = true then toldP (normZ (zv a a.exp * zv b b.exp) (a.exp + b.exp)) else (Num.zero, 1)) := Lib.hid rfl
  obtain ⟨an, al, ax⟩ := a
  obtain ⟨bn, bl, bx⟩ := b
  simp only at hal hbl HP
  have hE := ext_refl w
  have HA0 := NumAt.new w ⟨an, al, ax⟩
  have hx := ext_newnum w ⟨an, al, ax⟩
  simp only at HA0 hx
  replace hE := ext_trans hE hx
  have HA := Lib.hid HA0
  clear hx HA0
  generalize hwA : w.alloc (.cells #[.bool an, .string ⟨al.toArray⟩, .int .i64 ax] 25) = wA at *
  have hsA : wA.heap.size = w.heap.size + 1 := by rw [← hwA]; simp
  have HB0 := NumAt.new wA ⟨bn, bl, bx⟩
  have hx := ext_newnum wA ⟨bn, bl, bx⟩
  simp only at HB0 hx
  replace HA := Lib.hid (HA.out.ext hx)
  replace hE := ext_trans hE hx
  have HB := Lib.hid HB0
  clear hx HB0
  generalize hwB : wA.alloc (.cells #[.bool bn, .string ⟨bl.toArray⟩, .int .i64 bx] 25) = wB at *
  have hsB : wB.heap.size = w.heap.size + 2 := by rw [← hwB]; simp [hsA]
  rw [hsA] at HB
  have HR0 := NumAt.new wB ⟨false, [], 0⟩
  have hx := ext_newnum wB ⟨false, [], 0⟩
  simp only at HR0 hx
  replace HA := Lib.hid (HA.out.ext hx)
  replace HB := Lib.hid (HB.out.ext hx)
  replace hE := ext_trans hE hx
  have HR := Lib.hid HR0
  clear hx HR0
  generalize hwR : wB.alloc (.cells #[.bool false, .string ⟨#[]⟩, .int .i64 0] 25) = wR at *
  rw [hsB] at HR
  subst hwA hwB
  go_enter Tryd.func21, Tryd.ntmps21
  obtain ⟨fA0, fA1, fA2, gA0, gA1, gA2, lA⟩ := HA.out.cells
  simp only at fA0 fA1 fA2
  obtain ⟨fB0, fB1, fB2, gB0, gB1, gB2, lB⟩ := HB.out.cells
  simp only at fB0 fB1 fB2
  obtain ⟨fR0, fR1, fR2, gR0, gR1, gR2, lR⟩ := HR.out.cells
  simp only at fR0 fR1 fR2
  go_wp2_with fail
  clear fA0 fA1 fA2 gA0 gA1 gA2 lA
  clear fB0 fB1 fB2 gB0 gB1 gB2 lB
  clear fR0 fR1 fR2 gR0 gR1 gR2 lR
  clear hwR hsA hsB
  refine (r2sane_any ⟨an, al, ax⟩ _ hal).mono ?_
  rintro e wn ⟨rfl, hw⟩
  replace HA := Lib.hid (HA.out.ext hw)
  replace HB := Lib.hid (HB.out.ext hw)
  replace HR := Lib.hid (HR.out.ext hw)
  replace hE := ext_trans hE hw
  clear hw
  cases hsa : sane ⟨an, al, ax⟩ with
  | false =>
    have HF : Hid (mulP ⟨an, al, ax⟩ ⟨bn, bl, bx⟩ = (Num.zero, 1)) := Lib.hid (by rw [HP.out, if_neg (fun h => by rw [hsa] at h; cases h.1)])
    clear hsa HP
    obtain ⟨fA0, fA1, fA2, gA0, gA1, gA2, lA⟩ := HA.out.cells
    simp only at fA0 fA1 fA2
    obtain ⟨fB0, fB1, fB2, gB0, gB1, gB2, lB⟩ := HB.out.cells
    simp only at fB0 fB1 fB2
    obtain ⟨fR0, fR1, fR2, gR0, gR1, gR2, lR⟩ := HR.out.cells
    simp only at fR0 fR1 fR2
    go_wp2_with fail
    have hN := ((HR.out).store (Num.zero)).cells
    simp only [Num.zero] at hN
    obtain ⟨r0, r1, r2, _⟩ := hN
    exact bodyPost_ret (v := .tuple #[.agg #[.bool (Num.zero).neg, .string ⟨(Num.zero).digits.toArray⟩, .int .i64 (Num.zero).exp], .int .i64 (1)]) (by simp [results, Num.zero, Tryd.results21, go_sem, r0, r1, r2]) rfl ⟨by rw [HF.out], below_store (hE) (by omega) _ _ _⟩
  | true =>
  have HSA := Lib.hid hsa
  clear hsa
  obtain ⟨fA0, fA1, fA2, gA0, gA1, gA2, lA⟩ := HA.out.cells
  simp only at fA0 fA1 fA2
  obtain ⟨fB0, fB1, fB2, gB0, gB1, gB2, lB⟩ := HB.out.cells
  simp only at fB0 fB1 fB2
  obtain ⟨fR0, fR1, fR2, gR0, gR1, gR2, lR⟩ := HR.out.cells
  simp only at fR0 fR1 fR2
  go_wp2_with fail
  clear fA0 fA1 fA2 gA0 gA1 gA2 lA
  clear fB0 fB1 fB2 gB0 gB1 gB2 lB
  clear fR0 fR1 fR2 gR0 gR1 gR2 lR
  refine (r2sane_any ⟨bn, bl, bx⟩ _ hbl).mono ?_
  rintro e wn ⟨rfl, hw⟩
  replace HA := Lib.hid (HA.out.ext hw)
  replace HB := Lib.hid (HB.out.ext hw)
  replace HR := Lib.hid (HR.out.ext hw)
  replace hE := ext_trans hE hw
  clear hw
  cases hsb : sane ⟨bn, bl, bx⟩ with
  | false =>
    have HF : Hid (mulP ⟨an, al, ax⟩ ⟨bn, bl, bx⟩ = (Num.zero, 1)) := Lib.hid (by rw [HP.out, if_neg (fun h => by rw [hsb] at h; cases h.2)])
    clear hsb HP
    obtain ⟨fA0, fA1, fA2, gA0, gA1, gA2, lA⟩ := HA.out.cells
    simp only at fA0 fA1 fA2
    obtain ⟨fB0, fB1, fB2, gB0, gB1, gB2, lB⟩ := HB.out.cells
    simp only at fB0 fB1 fB2
    obtain ⟨fR0, fR1, fR2, gR0, gR1, gR2, lR⟩ := HR.out.cells
    simp only at fR0 fR1 fR2
    go_wp2_with fail
    have hN := ((HR.out).store (Num.zero)).cells
    simp only [Num.zero] at hN
    obtain ⟨r0, r1, r2, _⟩ := hN
    exact bodyPost_ret (v := .tuple #[.agg #[.bool (Num.zero).neg, .string ⟨(Num.zero).digits.toArray⟩, .int .i64 (Num.zero).exp], .int .i64 (1)]) (by simp [results, Num.zero, Tryd.results21, go_sem, r0, r1, r2]) rfl ⟨by rw [HF.out], below_store (hE) (by omega) _ _ _⟩
  | true =>
  have HSB := Lib.hid hsb
  clear hsb HP
  obtain ⟨hla, hxa1, hxa2⟩ := sane_xb HSA.out
  obtain ⟨hlb, hxb1, hxb2⟩ := sane_xb HSB.out
  simp only at hla hxa1 hxa2 hlb hxb1 hxb2
  have HDA : Hid (allD al) := Lib.hid (sane_all HSA.out)
  have HDB : Hid (allD bl) := Lib.hid (sane_all HSB.out)
  obtain ⟨n, hn⟩ : ∃ n : Nat, al.length + bl.length = n := ⟨_, rfl⟩
  have hnI : (al.length : Int) + bl.length = (n : Int) := by omega
  have hlt10 : val al * val bl < 10 ^ n := by
    rw [← hn, Nat.pow_add]; exact Nat.mul_lt_mul'' (val_lt al HDA.out) (val_lt bl HDB.out)
  have HB10 : Hid (∀ i, sx (val al) bl i < 10 ^ n) := Lib.hid (fun i => Nat.lt_of_le_of_lt (sx_le _ _ _) hlt10)
  have HMR : Hid (∀ r, allD r → val r = val al * val bl → toldP (formR (an != bn) r (ax + bx)) = mulP ⟨an, al, ax⟩ ⟨bn, bl, bx⟩) := Lib.hid (fun r h1 h2 => mulR HSA.out HSB.out r h1 h2)
  clear hlt10
  obtain ⟨fA0, fA1, fA2, gA0, gA1, gA2, lA⟩ := HA.out.cells
  simp only at fA0 fA1 fA2
  obtain ⟨fB0, fB1, fB2, gB0, gB1, gB2, lB⟩ := HB.out.cells
  simp only at fB0 fB1 fB2
  obtain ⟨fR0, fR1, fR2, gR0, gR1, gR2, lR⟩ := HR.out.cells
  simp only at fR0 fR1 fR2
  go_wp2_with fail
  clear fA0 fA1 fA2 gA0 gA1 gA2 lA
  clear fB0 fB1 fB2 gB0 gB1 gB2 lB
  clear fR0 fR1 fR2 gR0 gR1 gR2 lR
  refine (r2zeros_any (n : Int) _ (by omega) (by omega)).mono ?_
  rintro e wn ⟨rfl, hw⟩
  rw [Int.toNat_natCast]
  replace HA := Lib.hid (HA.out.ext hw)
  replace HB := Lib.hid (HB.out.ext hw)
  replace HR := Lib.hid (HR.out.ext hw)
  replace hE := ext_trans hE hw
  clear hw
  have hz0 : zeros n = padD n 0 := padD_zero n
  go_wp2_with fail
  clear hz0
  go_loopw [7, 8] (fun sv iv wr => ∃ i : Nat, iv = .int .i64 i ∧ i ≤ bl.length ∧ sv = .string ⟨(padD n (sx (val al) bl i)).toArray⟩ ∧ NumAt wr w.heap.size ⟨an, al, ax⟩ ∧ NumAt wr (w.heap.size + 1) ⟨bn, bl, bx⟩ ∧ NumAt wr (w.heap.size + 2) ⟨false, [], 0⟩ ∧ Ext w wr) (fun _ iv _ => bl.length - (intOf iv).toNat)
  case atStart => exact ⟨0, rfl, by omega, by rw [sx_zero], HA.out, HB.out, HR.out, hE⟩
  case round =>
    obtain ⟨i, rfl, hi, rfl, hA, hB, hR, hE⟩ := hrel
    have HA := Lib.hid hA
    have HB := Lib.hid hB
    have HR := Lib.hid hR
    clear hA hB hR
    by_cases hlt : i < bl.length
    · obtain ⟨z, hz⟩ : ∃ z, bl.length - 1 - i = z := ⟨_, rfl⟩
      have hst := sx_step (val al) bl i hlt
      rw [hz] at hst
      have hzI : (bl.length : Int) - 1 - i = (z : Int) := by omega
      have e1 : IntKind.i64.wrap ((bl.length : Int) - 1) = (bl.length : Int) - 1 := IntWalk.i64_in _ (by omega)
      have e2 : IntKind.i64.wrap ((bl.length : Int) - 1 - i) = (z : Int) := by rw [IntWalk.i64_in _ (by omega)]; exact hzI
      have e6 : IntKind.i64.wrap (z : Int) = (z : Int) := IntWalk.i64_in _ (by omega)
      have hcat := ba_app al (zeros z)
      have hX0v : val (al ++ zeros z) = val al * 10 ^ z := by rw [val_app, val_zeros, zeros_len, Nat.add_zero]
      have hX0l : (al ++ zeros z).length ≤ n := by rw [List.length_append, zeros_len]; omega
      have hX0d : allD (al ++ zeros z) := HDA.out.app (allD_zeros _)
      have hov : ¬ 2^63-1 < al.length + (zeros z).length := by rw [zeros_len]; omega
      obtain ⟨X0, hX0⟩ : ∃ X0, al ++ zeros z = X0 := ⟨_, rfl⟩
      rw [hX0] at hcat hX0v hX0l hX0d
      have hXv := wideP_val X0 n
      have hXl := wideP_len X0 n hX0l
      have hXd := wideP_all n hX0d
      rw [hX0v] at hXv
      obtain ⟨X, hX⟩ : ∃ X, wideP X0 n = X := ⟨_, rfl⟩
      rw [hX] at hXv hXl hXd
      have HX := Lib.hid hX
      have HXV := Lib.hid hXv
      have HXL := Lib.hid hXl
      have HXD := Lib.hid hXd
      have hg := sx_get bl i hlt
      have hdk := (isDig_iff bl[i]).1 (HDB.out _ (List.getElem_mem hlt))
      have hdv : ((bl[i].toNat : Nat) : Int) - 48 = (digV bl[i] : Nat) := by unfold digV; omega
      have hdl := digV_lt (HDB.out _ (List.getElem_mem hlt))
      generalize bl[i] = c at *
      generalize digV c = d at *
      obtain ⟨hd1, hd2⟩ := hdk
      have e3 : IntKind.u8.wrap ((c.toNat : Int) - 48) = (d : Int) := by rw [IntWalk.u8_in _ (by omega)]; exact hdv
      have HST := Lib.hid hst
      clear hX0 hX hXv hXl hXd hX0v hX0d hst hz hdv
      obtain ⟨fA0, fA1, fA2, gA0, gA1, gA2, lA⟩ := HA.out.cells
      simp only at fA0 fA1 fA2
      obtain ⟨fB0, fB1, fB2, gB0, gB1, gB2, lB⟩ := HB.out.cells
      simp only at fB0 fB1 fB2
      obtain ⟨fR0, fR1, fR2, gR0, gR1, gR2, lR⟩ := HR.out.cells
      simp only at fR0 fR1 fR2
      go_wp2_with fail
      clear fA0 fA1 fA2 gA0 gA1 gA2 lA
      clear fB0 fB1 fB2 gB0 gB1 gB2 lB
      clear fR0 fR1 fR2 gR0 gR1 gR2 lR
      refine Grow.wp_region_lit (G := Ext) (B := fun w' => Ext wr w') (anc := fun _ => []) (I := fun j => if j = 8 then some (Grow.Spec.val Ext (.string ⟨(zeros z).toArray⟩)) else if j = 11 then some (Grow.Spec.val Ext (.string ⟨X.toArray⟩)) else none) (by kernel_rfl) (by kernel_rfl) (by kernel_rfl) ?_ ?_ ?_
      · exact fun w w' h hg => ext_trans h hg
      · exact (ext_refl _).drew
      repeat
        (refine Grow.walk_step (fun K hK => ?_)
         first
         | (refine Grow.step_read (by rfl) (by rfl) ext_refl ?_
            apply Exists.intro
            refine ⟨fun w hB hF => ?_, ?_⟩
            · obtain ⟨a0, a1, a2, af0, af1, af2, hp⟩ := (HA.out.ext hB).cells; obtain ⟨b0, b1, b2, bf0, bf1, bf2, hq⟩ := (HB.out.ext hB).cells; simp only at a0 a1 a2 b0 b1 b2
              go_simp
              try exact rfl
            go_simp
            refine hK _ _ ?_
            clear hK K)
         | (refine Grow.step_off (by rfl) ?_
            go_simp
            refine hK _ _ ?_
            clear hK K))
      refine Grow.walk_step (fun K hK => ?_)
      refine Grow.step_rel (by rfl) (by rfl) (fun w' hB hF => ?_) (fun v hv => ?_)
      · go_simp
        refine Grow.relUpon_enter ((r2zeros_any (z : Int) w' (by omega) (by omega)).mono ?_)
        rintro e w'' ⟨rfl, hw''⟩
        exact ⟨_, rfl, hw'', by rw [Int.toNat_natCast]; rfl, trivial⟩
      obtain rfl : v = _ := hv
      go_simp
      refine hK _ _ ?_
      clear hK K
      repeat
        (refine Grow.walk_step (fun K hK => ?_)
         first
         | (refine Grow.step_read (by rfl) (by rfl) ext_refl ?_
            apply Exists.intro
            refine ⟨fun w hB hF => ?_, ?_⟩
            · skip
              go_simp
              try exact rfl
            go_simp
            refine hK _ _ ?_
            clear hK K)
         | (refine Grow.step_off (by rfl) ?_
            go_simp
            refine hK _ _ ?_
            clear hK K))
      refine Grow.walk_step (fun K hK => ?_)
      refine Grow.step_rel (by rfl) (by rfl) (fun w' hB hF => ?_) (fun v hv => ?_)
      · go_simp
        refine Grow.relUpon_enter ((r2wide_any X0 n w' (by omega) (by omega)).mono ?_)
        rintro e w'' ⟨rfl, hw''⟩
        exact ⟨_, rfl, hw'', by rw [HX.out]; rfl, trivial⟩
      obtain rfl : v = _ := hv
      go_simp
      refine hK _ _ ?_
      clear hK K
      repeat
        (refine Grow.walk_step (fun K hK => ?_)
         first
         | (refine Grow.step_read (by rfl) (by rfl) ext_refl ?_
            apply Exists.intro
            refine ⟨fun w hB hF => ?_, ?_⟩
            · skip
              go_simp
              try exact rfl
            go_simp
            refine hK _ _ ?_
            clear hK K)
         | (refine Grow.step_off (by rfl) ?_
            go_simp
            refine hK _ _ ?_
            clear hK K))
      refine Grow.walk_nil ?_
      intro wn hB hF
      clear hF
      replace HA := Lib.hid (HA.out.ext hB)
      replace HB := Lib.hid (HB.out.ext hB)
      replace HR := Lib.hid (HR.out.ext hB)
      replace hE := ext_trans hE hB
      clear hB hcat hov e1 e2 hX0l hzI
      go_wp2_with fail
      go_loopw [7, 10] (fun sv kv ws => ∃ k : Nat, kv = .int .i64 k ∧ k ≤ d ∧ sv = .string ⟨(padD n (sx (val al) bl i + k * val X)).toArray⟩ ∧ NumAt ws w.heap.size ⟨an, al, ax⟩ ∧ NumAt ws (w.heap.size + 1) ⟨bn, bl, bx⟩ ∧ NumAt ws (w.heap.size + 2) ⟨false, [], 0⟩ ∧ Ext w ws) (fun _ kv _ => d - (intOf kv).toNat)
      case atStart => exact ⟨0, rfl, by omega, by rw [Nat.zero_mul, Nat.add_zero], HA.out, HB.out, HR.out, hE⟩
      case round =>
        obtain ⟨k, rfl, hk, rfl, hA, hB, hR, hE⟩ := hrel
        have HA := Lib.hid hA
        have HB := Lib.hid hB
        have HR := Lib.hid hR
        clear hA hB hR
        by_cases hlt2 : k < d
        · have hT : sx (val al) bl i + k * val X + val X < 10 ^ n := by
            have h1 := HB10.out (i + 1)
            rw [HST.out, ← HXV.out] at h1
            have h2 := Nat.mul_le_mul_right (val X) (show k + 1 ≤ d by omega)
            rw [Nat.add_mul, Nat.one_mul] at h2
            omega
          have hnx : sx (val al) bl i + (k + 1) * val X = sx (val al) bl i + k * val X + val X := by rw [Nat.add_mul, Nat.one_mul]; omega
          have HNX := Lib.hid hnx
          obtain ⟨S, hS⟩ : ∃ S, sx (val al) bl i + k * val X = S := ⟨_, rfl⟩
          rw [hS] at hT hnx ⊢
          have hpl := padD_len n S
          have hpv := padD_val n S
          have hpd := padD_all n S
          rw [Nat.mod_eq_of_lt (by omega)] at hpv
          have HPL := Lib.hid hpl
          have HPV := Lib.hid hpv
          have HPD := Lib.hid hpd
          have HNX2 := Lib.hid hnx
          clear hS hT hnx hpl hpv hpd
          obtain ⟨fA0, fA1, fA2, gA0, gA1, gA2, lA⟩ := HA.out.cells
          simp only at fA0 fA1 fA2
          obtain ⟨fB0, fB1, fB2, gB0, gB1, gB2, lB⟩ := HB.out.cells
          simp only at fB0 fB1 fB2
          obtain ⟨fR0, fR1, fR2, gR0, gR1, gR2, lR⟩ := HR.out.cells
          simp only at fR0 fR1 fR2
          go_wp2_with fail
          clear fA0 fA1 fA2 gA0 gA1 gA2 lA
          clear fB0 fB1 fB2 gB0 gB1 gB2 lB
          clear fR0 fR1 fR2 gR0 gR1 gR2 lR
          refine (r2plus_any (padD n S) X _ (by rw [HPL.out, HXL.out]) (by rw [HPL.out]; omega) HPD.out HXD.out).mono ?_
          rintro e wn ⟨rfl, hw⟩
          rw [HPL.out, HPV.out, show padD (n + 1) (S + val X) = dgt ((S + val X) / 10 ^ n % 10) :: padD n (S + val X) from rfl]
          generalize dgt ((S + val X) / 10 ^ n % 10) = g
          obtain ⟨L, hL⟩ : ∃ L, padD n (S + val X) = L := ⟨_, rfl⟩
          have hLl := padD_len n (S + val X)
          rw [hL] at hLl ⊢
          have HL := Lib.hid hL
          have hdr := drop1 g L (L.length + 1) rfl
          have hln : L.length ≤ 80 := by omega
          replace HA := Lib.hid (HA.out.ext hw)
          replace HB := Lib.hid (HB.out.ext hw)
          replace HR := Lib.hid (HR.out.ext hw)
          replace hE := ext_trans hE hw
          clear hw hL hLl
          go_wp2_with fail
          go_roundw
          case rel => exact ⟨k + 1, by go_num, by omega, by rw [HNX2.out, HL.out], HA.out, HB.out, HR.out, hE⟩
          case measure => simp [intOf]; omega
        · obtain rfl : k = d := by omega
          have HSX : Hid (sx (val al) bl i + k * val X = sx (val al) bl (i + 1)) := Lib.hid (by rw [HST.out, HXV.out])
          obtain ⟨fA0, fA1, fA2, gA0, gA1, gA2, lA⟩ := HA.out.cells
          simp only at fA0 fA1 fA2
          obtain ⟨fB0, fB1, fB2, gB0, gB1, gB2, lB⟩ := HB.out.cells
          simp only at fB0 fB1 fB2
          obtain ⟨fR0, fR1, fR2, gR0, gR1, gR2, lR⟩ := HR.out.cells
          simp only at fR0 fR1 fR2
          go_wp2_with fail
          clear fA0 fA1 fA2 gA0 gA1 gA2 lA
          clear fB0 fB1 fB2 gB0 gB1 gB2 lB
          clear fR0 fR1 fR2 gR0 gR1 gR2 lR
          go_roundw
          case rel => exact ⟨i + 1, by go_num, by omega, by rw [HSX.out], HA.out, HB.out, HR.out, hE⟩
          case measure => simp [intOf]; omega
    · obtain rfl : i = bl.length := by omega
      have hse := sx_end (val al) bl
      have hlt := HB10.out bl.length
      rw [hse] at hlt ⊢
      have hpl := padD_len n (val al * val bl)
      have HF0 := Lib.hid (HMR.out (padD n (val al * val bl)) (padD_all _ _) (by rw [padD_val, Nat.mod_eq_of_lt hlt]))
      obtain ⟨S, hS⟩ : ∃ S, padD n (val al * val bl) = S := ⟨_, rfl⟩
      rw [hS] at HF0 hpl ⊢
      obtain ⟨F, hF⟩ : ∃ F, formR (an != bn) S (ax + bx) = F := ⟨_, rfl⟩
      rw [hF] at HF0
      obtain ⟨T, hT⟩ : ∃ T, toldP F = T := ⟨_, rfl⟩
      rw [hT] at HF0
      have HFF := Lib.hid hF
      have HTT := Lib.hid hT
      have HF := Lib.hid HF0.out.symm
      have hFl : F.digits.length ≤ 140737488355328 := by
        rw [← hF]; unfold formR; split
        · decide
        · have h1 := trimR0_le (trimL0 S)
          have h2 := trimL0_le S
          show (trimR0 (trimL0 S)).length ≤ _
          omega
      have HFL := Lib.hid hFl
      have e5 : IntKind.i64.wrap (ax + bx) = ax + bx := IntWalk.i64_in _ (by omega)
      clear hS hF hT hse hlt hFl HF0
      obtain ⟨fn, fl, fx⟩ := F
      obtain ⟨⟨tn, tl, tx⟩, te⟩ := T
      obtain ⟨fA0, fA1, fA2, gA0, gA1, gA2, lA⟩ := HA.out.cells
      simp only at fA0 fA1 fA2
      obtain ⟨fB0, fB1, fB2, gB0, gB1, gB2, lB⟩ := HB.out.cells
      simp only at fB0 fB1 fB2
      obtain ⟨fR0, fR1, fR2, gR0, gR1, gR2, lR⟩ := HR.out.cells
      simp only at fR0 fR1 fR2
      go_wp2_with fail
      clear fA0 fA1 fA2 gA0 gA1 gA2 lA
      clear fB0 fB1 fB2 gB0 gB1 gB2 lB
      clear fR0 fR1 fR2 gR0 gR1 gR2 lR
      refine (r2form_any (an != bn) S (ax + bx) _ (by omega) (by omega) (by omega)).mono ?_
      rintro e wn ⟨rfl, hw⟩
      replace HA := Lib.hid (HA.out.ext hw)
      replace HB := Lib.hid (HB.out.ext hw)
      replace HR := Lib.hid (HR.out.ext hw)
      replace hE := ext_trans hE hw
      clear hw
      rw [HFF.out]
      simp only
      go_wp2_with fail
      refine (r2told_any ⟨fn, fl, fx⟩ _ HFL.out).mono ?_
      rintro e wn ⟨rfl, hw⟩
      replace HA := Lib.hid (HA.out.ext hw)
      replace HB := Lib.hid (HB.out.ext hw)
      replace HR := Lib.hid (HR.out.ext hw)
      replace hE := ext_trans hE hw
      clear hw
      rw [HTT.out]
      simp only
      obtain ⟨fR0, fR1, fR2, gR0, gR1, gR2, lR⟩ := HR.out.cells
      simp only at fR0 fR1 fR2
      go_wp2_with fail
      have hN := ((HR.out).store ((⟨tn, tl, tx⟩ : Num))).cells
      simp only [Num.zero] at hN
      obtain ⟨r0, r1, r2, _⟩ := hN
      exact bodyPost_ret (v := .tuple #[.agg #[.bool ((⟨tn, tl, tx⟩ : Num)).neg, .string ⟨((⟨tn, tl, tx⟩ : Num)).digits.toArray⟩, .int .i64 ((⟨tn, tl, tx⟩ : Num)).exp], .int .i64 (te)]) (by simp [results, Num.zero, Tryd.results21, go_sem, r0, r1, r2]) rfl ⟨by rw [HF.out], below_store (hE) (by omega) _ _ _⟩
end Go.Proofs.YtpheohgceepboaaDoor
