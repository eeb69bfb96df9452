/- dec: what column and carried do. -/
import Derived.Test.YtpheohgceepboaaDoorDecF
import Derived.Deep.OwnRows
set_option linter.unusedVariables false
set_option linter.unusedSimpArgs false
set_option maxRecDepth 100000
namespace Go.Proofs.YtpheohgceepboaaDoor
open Go.RowKit Go.Mem Orange

theorem infoI : (Tryd.prog.info? 3).map (fun i => (i.zero, i.size, i.bytes)) = some (some (.int .i64 0), 1, 8) := by kernel_rfl
theorem infoB : (Tryd.prog.info? 5).map (fun i => (i.zero, i.size, i.bytes)) = some (some (.int .u8 0), 1, 1) := by kernel_rfl
/-- a row of ints at a block -/
def Ints (w : World) (b n : Nat) (F : Nat → Int) : Prop := w.rowIs b 3 n (fun i => .int .i64 (F i))
theorem Ints.ext {w w' : World} {b n : Nat} {F : Nat → Int} (h : Ints w b n F) (hb : Ext w w') : Ints w' b n F := World.rowIs.of_block h (hb.block b (World.rowIs.lt h))
theorem Ints.cell {w : World} {b n : Nat} {F : Nat → Int} (h : Ints w b n F) {i : Nat} (hi : i < n) : w.cell? ⟨b, i, none⟩ = some (.int .i64 (F i)) := World.rowIs.cell h hi
theorem Ints.set {w : World} {b n : Nat} {F G : Nat → Int} (h : Ints w b n F) (i : Nat) (v : Int) (e : ∀ j, j < n → G j = if j = i then v else F j) : Ints (w.setCell ⟨b, i, none⟩ (.int .i64 v)) b n G := by
  refine (World.rowIs.set h i (.int .i64 v)).congr (fun j hj => ?_)
  rw [e j hj]
  by_cases q : j = i <;> simp [q]
theorem NumAt.setOther {w : World} {p q i : Nat} {d : Num} (h : NumAt w p d) (hq : p ≠ q) (u : Value) : NumAt (w.setCell ⟨q, i, none⟩ u) p d := by
  unfold NumAt at h ⊢; rw [Below.heap_setCell _ _ _ _ hq]; exact h
def colF (l : List UInt8) (at0 : Nat) : Nat → Int := fun i => if at0 ≤ i ∧ i < at0 + l.length then ((digV (l.getD (l.length - 1 - (i - at0)) 0) : Nat) : Int) else 0
/-- so far -/
def colK (l : List UInt8) (at0 k : Nat) : Nat → Int := fun i => if at0 + l.length - k ≤ i ∧ i < at0 + l.length then ((digV (l.getD (l.length - 1 - (i - at0)) 0) : Nat) : Int) else 0
theorem colK_step (l : List UInt8) (at0 k : Nat) (hk : k < l.length) (j : Nat) : colK l at0 (k + 1) j = if j = at0 + l.length - 1 - k then ((digV l[k] : Nat) : Int) else colK l at0 k j := by
  unfold colK
  by_cases h : j = at0 + l.length - 1 - k
  · subst h
    rw [if_pos rfl, if_pos (by omega)]
    have e : l.length - 1 - (at0 + l.length - 1 - k - at0) = k := by omega
    rw [e, List.getD_eq_getElem?_getD, List.getElem?_eq_getElem hk]; rfl
  · rw [if_neg h]
    by_cases h2 : at0 + l.length - k ≤ j ∧ j < at0 + l.length
    · rw [if_pos h2, if_pos (by omega)]
    · rw [if_neg h2, if_neg (by omega)]
set_option maxHeartbeats 3200000 in
theorem column_any (d : Num) (fr : Int) (at0 n : Nat) (w : World) (ha : allD d.digits) (hl : d.digits.length ≤ 1000) (hx : -100000 ≤ d.exp ∧ d.exp ≤ 100000) (hfr : d.exp - fr = at0) (hn : at0 + d.digits.length ≤ n) (hnb : n ≤ 1000000) :
    Calls Tryd.prog 32 #[.agg #[.bool d.neg, .string ⟨d.digits.toArray⟩, .int .i64 d.exp], .int .i64 fr, .int .i64 n] w fun e w' => ∃ b, e = .returned (.slice (some ⟨b, 0, none⟩) n n) ∧ w.heap.size ≤ b ∧ Ints w' b n (colF d.digits at0) ∧ Ext w w' := by
  obtain ⟨an, l, ax⟩ := d
  simp only at ha hl hx hfr hn ⊢
  obtain ⟨hx1, hx2⟩ := hx
  have HA := Lib.hid ha
  have hm1 := NumAt.new w ⟨an, l, ax⟩
  have hE1 : Ext w (w.alloc (.cells #[.bool an, .string ⟨l.toArray⟩, .int .i64 ax] 25)) := (ext_refl w).alloc (Nat.le_refl _) _
  have hs1 : (w.alloc (.cells #[.bool an, .string ⟨l.toArray⟩, .int .i64 ax] 25)).heap.size = w.heap.size + 1 := by simp
  simp only at hm1
  obtain ⟨i0, hi, hz0, hz1, hz2⟩ := info_parts infoI
  clear ha
  go_enter Tryd.func32, Tryd.ntmps32
  go_upto_region 1 with fail
  generalize w.alloc (.cells #[.bool an, .string ⟨l.toArray⟩, .int .i64 ax] 25) = w1 at *
  have hrow := World.rowIs_made w1 (.int .i64 0) n 3
  have hE2 : Ext w1 (w1.alloc (.cells (madeCells #[.int .i64 0] n) 3)) := (ext_refl w1).alloc (Nat.le_refl _) _
  rw [hs1] at hrow
  have hm2 := hm1.ext hE2
  have hE := ext_trans hE1 hE2
  have hmk := run_make_row' (P := Tryd.prog) 52 3 (.int .i64 0) 8 Tryd.underlying52 infoI rfl .i64 .i64 n (by omega) (by omega) w1
  rw [hs1] at hmk
  clear hm1 hE1 hE2 hs1
  have HROW := Lib.hid hrow
  have HM := Lib.hid hm2
  clear hrow hm2
  go_upto_region 2 with fail
  generalize w1.alloc (.cells (madeCells #[.int .i64 0] n) 3) = w2 at *
  have HI : Hid (Ints w2 (w.heap.size + 1) n (colK l at0 0)) := Lib.hid ((World.rowIs.congr HROW.out (fun i hi => by unfold colK; rw [if_neg (by omega)])))
  obtain ⟨c0, c1, c2, f0, f1, f2, hp⟩ := HM.out.cells
  simp only at c0 c1 c2
  clear HROW hmk
  go_wp2_with fail
  clear c0 c1 c2 f0 f1 f2
  go_loopw [9, 19] (fun _ kv wr => ∃ k : Nat, kv = .int .i64 k ∧ k ≤ l.length ∧ Ints wr (w.heap.size + 1) n (colK l at0 k) ∧ NumAt wr w.heap.size ⟨an, l, ax⟩ ∧ Below w.heap.size w wr) (fun _ kv _ => l.length - (intOf kv).toNat)
  case atStart => exact ⟨0, rfl, by omega, HI.out, HM.out, hE⟩
  case round =>
    obtain ⟨k, rfl, hk, hint, hm, hb⟩ := hrel
    have HINT := Lib.hid hint
    have HMM := Lib.hid hm
    clear hint hm HI HM hE
    by_cases hlt : k < l.length
    · have hg := sx_get l k hlt
      have hst := colK_step l at0 k hlt
      have hdc := HA.out l[k] (List.getElem_mem hlt)
      generalize l[k] = c at *
      have HST := Lib.hid hst
      have hd1 := (isDig_iff c).1 hdc
      have hd2 := digV_lt hdc
      have hdv : (c.toNat : Int) - 48 = (digV c : Nat) := by unfold digV; omega
      obtain ⟨D, hD⟩ : ∃ D, digV c = D := ⟨_, rfl⟩
      rw [hD] at hdv hd2 HST
      obtain ⟨A, hA⟩ : ∃ A : Nat, at0 + l.length = A := ⟨_, rfl⟩
      obtain ⟨J, hJ⟩ : ∃ J : Nat, A - 1 - k = J := ⟨_, rfl⟩
      have e1 : IntKind.i64.wrap ((at0 : Int) + l.length) = A := by rw [IntWalk.i64_in _ (by omega)]; omega
      have e2 : IntKind.i64.wrap ((A : Int) - 1) = (A : Int) - 1 := IntWalk.i64_in _ (by omega)
      have e3 : IntKind.i64.wrap ((A : Int) - 1 - k) = J := by rw [IntWalk.i64_in _ (by omega)]; omega
      have e4 : IntKind.u8.wrap ((c.toNat : Int) - 48) = D := by rw [IntWalk.u8_in _ (by omega)]; exact hdv
      have e5 : IntKind.i64.wrap (D : Int) = D := IntWalk.i64_in _ (by omega)
      have b1 : (J : Int) < n := by omega
      have b2 : J < n := by omega
      have b3 : (0 : Int) ≤ J := by omega
      have b4 : (k : Int) < l.length := by omega
      have b5 : (0 : Int) ≤ k := by omega
      have HJ : Hid (at0 + l.length - 1 - k = J) := Lib.hid (by rw [hA, hJ])
      clear hst hdc hd1 hD hA hJ hdv
      go_wp2_with fail
      refine Grow.wp_region_tail (G := Ext) (B := fun w' => Ext wr w') (anc := fun _ => []) (I := fun j => none) 16 (by kernel_rfl) (by kernel_rfl) (by kernel_rfl) ?_ ?_ ?_
      · exact fun w w' h hg => ext_trans h hg
      · exact (ext_refl _).drew
      · simp only [List.take_succ_cons, List.take_zero, List.drop_succ_cons, List.drop_zero]
        repeat
          (refine Grow.walk_step (fun K hK => ?_)
           first
           | (refine Grow.step_read (by rfl) (by rfl) ext_refl ?_
              apply Exists.intro
              refine ⟨fun w hB hF => ?_, ?_⟩
              · obtain ⟨c0, c1, c2, f0, f1, f2, hp⟩ := (HMM.out.ext hB).cells; simp only at c0 c1 c2
                go_simp
                try exact rfl
              go_simp
              refine hK _ _ ?_
              clear hK K)
           | (refine Grow.step_off (by rfl) ?_
              go_simp
              refine hK _ _ ?_
              clear hK K))
        refine Grow.walk_nil ?_
        intro w3 hB hF
        clear hF
        have hI3 := HINT.out.ext hB
        have hM3 := HMM.out.ext hB
        have hb3 : Below w.heap.size w w3 := hb.trans (hB.mono hb.size)
        have s1 := hI3.cell b2
        have s2 := World.rowIs.frozen hI3 J
        have hI4 := hI3.set J (D : Int) (G := colK l at0 (k + 1)) (fun j hj => by rw [HST.out j, HJ.out])
        have hM4 := hM3.setOther (q := w.heap.size + 1) (i := J) (by omega) (.int .i64 D)
        have hb4 := hb3.setCell (p := ⟨w.heap.size + 1, J, none⟩) (show w.heap.size ≤ w.heap.size + 1 by omega) (.int .i64 D)
        have HI4 := Lib.hid hI4
        have HM4 := Lib.hid hM4
        clear hI3 hM3 hb3 hI4 hM4 hB HINT HMM
        go_wp2_with fail
        go_roundw
        case rel => exact ⟨k + 1, by go_num, by omega, HI4.out, HM4.out, hb4⟩
        case measure => simp [intOf]; omega
    · obtain rfl : k = l.length := by omega
      go_wp2_with fail
      go_ret
      refine ⟨w.heap.size + 1, rfl, by omega, World.rowIs.congr HINT.out (fun i hi => ?_), hb⟩
      unfold colK colF
      rw [show at0 + l.length - l.length = at0 by omega]
/-- the carry ahead of a column, and the digit there -/
def carr (F : Nat → Int) : Nat → Int
  | 0 => 0
  | k + 1 => (F k + carr F k) / 10
def dgk (F : Nat → Int) (k : Nat) : Nat := ((F k + carr F k) % 10).toNat
def sumF (F : Nat → Int) : Nat → Int
  | 0 => 0
  | k + 1 => sumF F k + F k * ((10 ^ k : Nat) : Int)
def outL (F : Nat → Int) : Nat → List UInt8
  | 0 => []
  | k + 1 => dgt (dgk F k) :: outL F k
theorem dgk_lt (F : Nat → Int) (k : Nat) : dgk F k < 10 := by unfold dgk; omega
theorem outL_len (F : Nat → Int) : ∀ n, (outL F n).length = n
  | 0 => rfl
  | n + 1 => by rw [outL, List.length_cons, outL_len F n]
theorem outL_all (F : Nat → Int) : ∀ n, allD (outL F n)
  | 0 => allD.nil
  | n + 1 => fun c hc => by
    rw [outL] at hc
    rcases List.mem_cons.1 hc with h | h
    · rw [h]; exact dgt_dig (dgk_lt F n)
    · exact outL_all F n c h
theorem outL_at (F : Nat → Int) : ∀ (n i : Nat) (h : i < (outL F n).length), (outL F n)[i] = dgt (dgk F (n - 1 - i))
  | 0, i, h => absurd h (by simp [outL])
  | n + 1, 0, _ => rfl
  | n + 1, i + 1, h => by
    simp only [outL, List.getElem_cons_succ]
    rw [outL_at F n i (by rw [outL_len] at h ⊢; omega)]
    congr 2; omega
theorem sum_out (F : Nat → Int) : ∀ n, sumF F n = (val (outL F n) : Nat) + carr F n * ((10 ^ n : Nat) : Int)
  | 0 => by simp [sumF, outL, carr, val_nil]
  | n + 1 => by
    rw [sumF, sum_out F n, outL, val_cons, outL_len, carr, dgt_val (dgk_lt F n), Nat.pow_succ]
    have h : ((dgk F n : Nat) : Int) + (F n + carr F n) / 10 * 10 = F n + carr F n := by unfold dgk; omega
    generalize (F n + carr F n) / 10 = q at *
    generalize dgk F n = g at *
    generalize carr F n = c at *
    generalize F n = f at *
    generalize 10 ^ n = p
    have e : f = (g : Int) + q * 10 - c := by omega
    rw [e]
    simp only [Int.natCast_add, Int.natCast_mul]
    grind
theorem out_val (F : Nat → Int) (n : Nat) (h0 : 0 ≤ sumF F n) (h1 : sumF F n < ((10 ^ n : Nat) : Int)) : ((val (outL F n) : Nat) : Int) = sumF F n := by
  have h := sum_out F n
  have hv := val_lt (outL F n) (outL_all F n)
  rw [outL_len] at hv
  generalize carr F n = c at *
  have hp := pow_pos10 n
  generalize 10 ^ n = p at *
  generalize val (outL F n) = v at *
  have hc : c = 0 := by
    rcases Int.lt_trichotomy c 0 with q | q | q
    · exfalso
      have : c * (p : Int) ≤ (-1) * p := Int.mul_le_mul_of_nonneg_right (by omega) (by omega)
      omega
    · exact q
    · exfalso
      have : 1 * (p : Int) ≤ c * p := Int.mul_le_mul_of_nonneg_right (by omega) (by omega)
      omega
  rw [hc] at h; omega
theorem carr_bd (F : Nat → Int) (n : Nat) (hF : ∀ i, i < n → -1000000 ≤ F i ∧ F i ≤ 1000000) : ∀ k, k ≤ n → -1000000 ≤ carr F k ∧ carr F k ≤ 1000000
  | 0, _ => by simp [carr]
  | k + 1, h => by
    have h1 := carr_bd F n hF k (by omega)
    have h2 := hF k (by omega)
    rw [carr]; omega
theorem floor10 (v : Int) : (if v.tmod 10 < 0 then v.tdiv 10 - 1 else v.tdiv 10) = v / 10 := by
  rcases Int.lt_or_le v 0 with h | h
  · obtain ⟨u, hu⟩ : ∃ u : Int, v = -u := ⟨-v, by omega⟩
    subst hu
    rw [Int.neg_tmod, Int.neg_tdiv, Int.tmod_eq_emod_of_nonneg (by omega), Int.tdiv_eq_ediv_of_nonneg (by omega)]
    split <;> omega
  · rw [Int.tmod_eq_emod_of_nonneg h, Int.tdiv_eq_ediv_of_nonneg h]
    split <;> omega
/-- what is written so far -/
def outK (F : Nat → Int) (n k : Nat) : Nat → Int := fun i => if n - k ≤ i then ((48 + dgk F (n - 1 - i) : Nat) : Int) else 0
theorem outK_step (F : Nat → Int) (n k j : Nat) (hk : k < n) (hj : j < n) : outK F n (k + 1) j = if j = n - 1 - k then ((48 + dgk F k : Nat) : Int) else outK F n k j := by
  unfold outK
  by_cases h : j = n - 1 - k
  · subst h; rw [if_pos rfl, if_pos (by omega), show n - 1 - (n - 1 - k) = k by omega]
  · rw [if_neg h]
    by_cases h2 : n - k ≤ j
    · rw [if_pos h2, if_pos (by omega)]
    · rw [if_neg h2, if_neg (by omega)]
def U8s (w : World) (b n : Nat) (F : Nat → Int) : Prop := w.rowIs b 5 n (fun i => .int .u8 (F i))
theorem U8s.set {w : World} {b n : Nat} {F G : Nat → Int} (h : U8s w b n F) (i : Nat) (v : Int) (e : ∀ j, j < n → G j = if j = i then v else F j) : U8s (w.setCell ⟨b, i, none⟩ (.int .u8 v)) b n G := by
  refine (World.rowIs.set h i (.int .u8 v)).congr (fun j hj => ?_)
  rw [e j hj]
  by_cases q : j = i <;> simp [q]
theorem u8s_bytes {w : World} {b n : Nat} {F : Nat → Int} (h : U8s w b n (outK F n n)) (hn : n ≤ 1000000) : Bytes w (.slice (some ⟨b, 0, none⟩) n n) (outL F n) := by
  refine Bytes.mk (fun h0 => ⟨b, 0, rfl, World.rowIs.lt h, fun i hi => ?_⟩) (outL_len F n).symm (Nat.le_refl _) (by omega) (by omega)
  have hi2 : i < n := by rw [outL_len] at hi; exact hi
  have := World.rowIs.cell h hi2
  rw [Nat.zero_add, this, outL_at F n i hi, dgt_toNat (dgk_lt F _)]
  unfold outK; rw [if_pos (by omega)]
set_option maxHeartbeats 3200000 in
theorem carried_any (b n : Nat) (F : Nat → Int) (w : World) (hI : Ints w b n F) (hn : n ≤ 1000000) (hF : ∀ i, i < n → -1000000 ≤ F i ∧ F i ≤ 1000000) :
    Calls Tryd.prog 33 #[.slice (some ⟨b, 0, none⟩) n n] w fun e w' => e = .returned (.string ⟨(outL F n).toArray⟩) ∧ Ext w w' := by
  have HI := Lib.hid hI
  have HFB := Lib.hid hF
  have hblt := World.rowIs.lt hI
  have hE : Ext w (w.alloc (.cells (madeCells #[.int .u8 0] n) 5)) := (ext_refl w).alloc (Nat.le_refl _) _
  have hrow := World.rowIs_made w (.int .u8 0) n 5
  have hmk := run_make_row' (P := Tryd.prog) 60 5 (.int .u8 0) 1 Tryd.underlying60 infoB rfl .i64 .i64 n (by omega) (by omega) w
  clear hI hF
  go_enter Tryd.func33, Tryd.ntmps33
  go_wp2_with fail
  generalize hW2 : w.alloc (.cells (madeCells #[.int .u8 0] n) 5) = w2 at *
  have HU : Hid (U8s w2 w.heap.size n (outK F n 0)) := Lib.hid (World.rowIs.congr hrow (fun i hi => by unfold outK; rw [if_neg (by omega)]))
  have HI2 := Lib.hid (HI.out.ext hE)
  clear hrow hmk hW2
  go_loopw [4, 5, 6, 12] (fun cv _ _ kv wr => ∃ k : Nat, kv = .int .i64 k ∧ cv = .int .i64 (carr F k) ∧ k ≤ n ∧ U8s wr w.heap.size n (outK F n k) ∧ Ints wr b n F ∧ Below w.heap.size w wr) (fun _ _ _ kv _ => n - (intOf kv).toNat)
  case atStart => exact ⟨0, rfl, rfl, by omega, HU.out, HI2.out, hE⟩
  case round =>
    obtain ⟨k, rfl, rfl, hk, hu, hint, hb⟩ := hrel
    have HU2 := Lib.hid hu
    have HI3 := Lib.hid hint
    clear hu hint HU HI2 hE
    by_cases hlt : k < n
    · have hck := HI3.out.cell hlt
      have hcb := carr_bd F n HFB.out k hk
      have hfb := HFB.out k hlt
      have hfl := floor10 (F k + carr F k)
      have hc1 : carr F (k + 1) = (F k + carr F k) / 10 := rfl
      have hdg : (F k + carr F k) = ((dgk F k : Nat) : Int) + 10 * ((F k + carr F k) / 10) := by unfold dgk; omega
      have hdl := dgk_lt F k
      have hst := outK_step F n k
      obtain ⟨x, hx⟩ : ∃ x, F k + carr F k = x := ⟨_, rfl⟩
      obtain ⟨D, hD⟩ : ∃ D, dgk F k = D := ⟨_, rfl⟩
      rw [hx] at hfl hc1 hdg
      rw [hD] at hdg hdl hst
      have hxb : -2000000 ≤ x ∧ x ≤ 2000000 := by omega
      have HST := Lib.hid hst
      obtain ⟨J, hJ⟩ : ∃ J : Nat, n - 1 - k = J := ⟨_, rfl⟩
      have HJ := Lib.hid hJ
      have e3 : (n : Int) - 1 - k = J := by omega
      have b1 : (J : Int) < n := by omega
      have b2 : J < n := by omega
      obtain ⟨Q, hQ⟩ : ∃ Q, x / 10 = Q := ⟨_, rfl⟩
      rw [hQ] at hfl hc1 hdg
      have HC1 := Lib.hid hc1
      have e4 : 48 + x - 10 * Q = ((48 + D : Nat) : Int) := by omega
      have s1 := World.rowIs.cell HU2.out b2
      have s2 := World.rowIs.frozen HU2.out J
      generalize carr F k = cy at *
      generalize F k = fk at *
      obtain ⟨hx1, hx2⟩ := hxb
      obtain ⟨hcb1, hcb2⟩ := hcb
      obtain ⟨hfb1, hfb2⟩ := hfb
      clear hst hc1 hD hJ hdg
      by_cases hr : x.tmod 10 < 0
      · rw [if_pos hr] at hfl
        have HQ := Lib.hid hQ
        clear hQ
        go_wp2_with fail
        have hu4 := U8s.set HU2.out J ((48 + D : Nat) : Int) (G := outK F n (k + 1)) (fun j hj => by rw [HST.out j hlt hj, HJ.out])
        have hi4 : Ints (wr.setCell ⟨w.heap.size, J, none⟩ (.int .u8 ((48 + D : Nat) : Int))) b n F := World.rowIs.setOther HI3.out (by show b ≠ w.heap.size; omega) _
        have hb4 := hb.setCell (p := ⟨w.heap.size, J, none⟩) (Nat.le_refl _) (.int .u8 ((48 + D : Nat) : Int))
        go_roundw
        case rel => exact ⟨k + 1, by go_num, by rw [HC1.out], by omega, hu4, hi4, hb4⟩
        case measure => simp [intOf]; omega
      · rw [if_neg hr] at hfl
        have HQ := Lib.hid hQ
        clear hQ
        go_wp2_with fail
        have hu4 := U8s.set HU2.out J ((48 + D : Nat) : Int) (G := outK F n (k + 1)) (fun j hj => by rw [HST.out j hlt hj, HJ.out])
        have hi4 : Ints (wr.setCell ⟨w.heap.size, J, none⟩ (.int .u8 ((48 + D : Nat) : Int))) b n F := World.rowIs.setOther HI3.out (by show b ≠ w.heap.size; omega) _
        have hb4 := hb.setCell (p := ⟨w.heap.size, J, none⟩) (Nat.le_refl _) (.int .u8 ((48 + D : Nat) : Int))
        go_roundw
        case rel => exact ⟨k + 1, by go_num, by rw [HC1.out], by omega, hu4, hi4, hb4⟩
        case measure => simp [intOf]; omega
    · obtain rfl : k = n := by omega
      have hby := u8s_bytes HU2.out hn
      have hrs := run_string_of_bytes wr hby 60 9 5 Tryd.underlying60 Tryd.underlying5 Tryd.underlying9
      go_wp2_with fail
      go_ret
      exact ⟨rfl, hb⟩
end Go.Proofs.YtpheohgceepboaaDoor
