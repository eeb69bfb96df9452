/- dec: what Of and Int do. -/
import Derived.Test.YtpheohgceepboaaDoorDecM
import Derived.Test.YtpheohgceepboaaDoorDecL2
import Derived.Test.YtpheohgceepboaaDoorDecL
import Derived.Test.YtpheohgceepboaaDoorDecD
set_option linter.unusedVariables false
set_option linter.unusedSimpArgs false
set_option maxRecDepth 100000
namespace Go.Proofs.YtpheohgceepboaaDoor
open Go.RowKit Go.Mem Orange

def specBs (ys : List UInt8) : Grow.Spec Ext := ⟨fun v => ∃ a c, v = .slice a ys.length c, fun v w => Bytes w v ys, ⟨.slice none ys.length 0, none, 0, rfl⟩, fun v w w' h hg => h.ext hg⟩
theorem conv_bytes (w : World) (l : List UInt8) (hl : l.length ≤ 140737488355328) : ∃ cap w', (convert 9 60 (.string ⟨l.toArray⟩)).run Tryd.prog w = .ok (.slice (some ⟨w.heap.size, 0, none⟩) l.length cap) w' ∧ Bytes w' (.slice (some ⟨w.heap.size, 0, none⟩) l.length cap) l ∧ Ext w w' := by
  have hr := run_bytes_of_string (P := Tryd.prog) w 9 60 5 ⟨l.toArray⟩ Tryd.underlying9 Tryd.underlying60 Tryd.underlying5
  have hs : (ByteArray.mk l.toArray).size = l.length := by simp [ByteArray.size]
  have hge := grownCap_ge w (ByteArray.mk l.toArray).size 0 5
  have hm := grownCap_le_maxLen w (ByteArray.mk l.toArray).size 0 5 (by simp only [maxLen]; omega)
  have hat := bytes_of_string_at w.drew ⟨l.toArray⟩ 5 (grownCap w (ByteArray.mk l.toArray).size 0 5) ((bytesRow ⟨l.toArray⟩ (grownCap w (ByteArray.mk l.toArray).size 0 5)).size, (bytesRow ⟨l.toArray⟩ (grownCap w (ByteArray.mk l.toArray).size 0 5)).size + 1) hge
  rw [hs] at hr
  rw [hs] at hge hm hat
  refine ⟨_, _, hr, Bytes.mk (by simpa using hat) rfl hge (by simpa [maxLen] using hm) (by omega), ((ext_refl w).drew).alloc (by simp) _⟩
theorem itoa_cut (n : Int) : decide ((itoaP n).head? = some 45) = decide (n < 0) ∧ (if (itoaP n).head? = some 45 then (itoaP n).drop 1 else itoaP n) = decD n.natAbs := by
  have hd : ∀ k, (decD k).head? ≠ some 45 := fun k => by
    have h0 := decD_ne k
    have ha := decD_all k
    cases hk : decD k with
    | nil => exact absurd hk h0
    | cons c t =>
      rw [hk] at ha
      simp only [List.head?_cons, ne_eq, Option.some.injEq]
      intro e
      have := ha c (List.mem_cons_self ..)
      rw [e] at this; exact absurd this (by decide)
  unfold itoaP
  by_cases h : n < 0
  · rw [if_pos h]; simp [h]
  · rw [if_neg h]
    have := hd n.toNat
    rw [show n.natAbs = n.toNat by omega]
    simp [h, this]
set_option maxHeartbeats 3200000 in
theorem of_any (n : Int) (w : World) (hT : Tab w) (h0 : -9223372036854775808 ≤ n) (h1 : n ≤ 9223372036854775807) :
    Calls Tryd.prog 19 #[.int .i64 n] w fun e w' => e = .returned (.agg #[.bool (ofP n).neg, .string ⟨(ofP n).digits.toArray⟩, .int .i64 (ofP n).exp]) ∧ Ext w w' := by
  have HC := Lib.hid (itoa_cut n)
  have HFO := Lib.hid (ofP_form n (Nat.lt_of_le_of_lt (show n.natAbs ≤ 9223372036854775808 by omega) (by decide)))
  have hlen : (decD n.natAbs).length ≤ 20 := decD_len 20 _ (by omega) (Nat.lt_of_le_of_lt (show n.natAbs ≤ 9223372036854775808 by omega) (by decide))
  obtain ⟨D, hD⟩ : ∃ D, decD n.natAbs = D := ⟨_, rfl⟩
  obtain ⟨R, hR⟩ : ∃ R, ofP n = R := ⟨_, rfl⟩
  rw [hD] at HC HFO hlen
  rw [hR] at HFO ⊢
  obtain ⟨rn, rl, rx⟩ := R
  clear hD hR
  have hE := ext_refl w
  have HR0 := NumAt.new w ⟨false, [], 0⟩
  have hx := ext_newnum w ⟨false, [], 0⟩
  simp only at HR0 hx
  replace hE := ext_trans hE hx
  have HR := Lib.hid HR0
  clear hx HR0
  generalize hwR : w.alloc (.cells #[.bool false, .string ⟨#[]⟩, .int .i64 0] 25) = wR at *
  go_enter Tryd.func19, Tryd.ntmps19
  go_wp2_with fail
  clear hwR
  refine (itoa_any n _ (hT.ext hE) h0 h1).mono ?_
  rintro e wn ⟨rfl, hw⟩
  replace HR := Lib.hid (HR.out.ext hw)
  replace hE := ext_trans hE hw
  clear hw
  go_wp2_with fail
  refine (cutPrefix_1 (itoaP n) 45 _).mono ?_
  rintro e w2 ⟨rfl, rfl⟩
  rw [HC.out.1, HC.out.2]
  go_wp2_with fail
  refine (form_any (decide (n < 0)) D 0 _ (by omega) (by omega) (by omega)).mono ?_
  rintro e wn ⟨rfl, hw⟩
  replace HR := Lib.hid (HR.out.ext hw)
  replace hE := ext_trans hE hw
  clear hw
  rw [HFO.out]
  simp only
  have HD0 := NumAt.new wn ⟨rn, rl, rx⟩
  have hx := ext_newnum wn ⟨rn, rl, rx⟩
  simp only at HD0 hx
  replace HR := Lib.hid (HR.out.ext hx)
  replace hE := ext_trans hE hx
  have HD := Lib.hid HD0
  clear hx HD0
  obtain ⟨fD0, fD1, fD2, gD0, gD1, gD2, lD⟩ := HD.out.cells
  simp only at fD0 fD1 fD2
  obtain ⟨fR0, fR1, fR2, gR0, gR1, gR2, lR⟩ := HR.out.cells
  simp only at fR0 fR1 fR2
  go_wp2_with fail
  have hN := (HR.out.store ⟨rn, rl, rx⟩).cells
  simp only at hN
  obtain ⟨r0, r1, r2, _⟩ := hN
  exact bodyPost_ret (v := .agg #[.bool rn, .string ⟨rl.toArray⟩, .int .i64 rx]) (by simp [results, Tryd.results19, go_sem, r0, r1, r2]) rfl ⟨rfl, below_store hE (Nat.le_refl _) _ _ _⟩
theorem intP_yes {d : Num} (h : sane d = true) (h0 : 0 ≤ d.exp) (h1 : height d ≤ 15) : intP d = (if d.neg then -((val (d.digits ++ zeros d.exp.toNat) : Nat) : Int) else ((val (d.digits ++ zeros d.exp.toNat) : Nat) : Int), true) := by
  unfold intP
  rw [if_pos ⟨h, h0, h1⟩]
  unfold zv sgn
  rw [val_app, val_zeros, zeros_len, Int.sub_zero, Nat.add_zero]
  cases d.neg <;> simp
theorem val_lt_pow15 (l : List UInt8) (h : allD l) (hl : l.length ≤ 15) : ∀ k, val (l.take k) < 1000000000000000 := fun k => by
  have h1 := val_lt (l.take k) (h.sub (fun x hx => List.mem_of_mem_take hx))
  have h2 : (10 : Nat) ^ (l.take k).length ≤ 10 ^ 15 := Nat.pow_le_pow_right (by omega) (by simp; omega)
  omega
theorem intP_no {d : Num} (h : ¬ (sane d = true ∧ 0 ≤ d.exp ∧ height d ≤ 15)) : intP d = (0, false) := by unfold intP; rw [if_neg h]
set_option maxHeartbeats 6400000 in
theorem int_any (d : Num) (w : World) (hl : d.digits.length ≤ 140737488355328) (hxx : -9223372036854775808 ≤ d.exp ∧ d.exp ≤ 9223372036854775807) :
    Calls Tryd.prog 23 #[.agg #[.bool d.neg, .string ⟨d.digits.toArray⟩, .int .i64 d.exp]] w fun e w' => e = .returned (.tuple #[.int .i64 (intP d).1, .bool (intP d).2]) ∧ Ext w w' := by
  have HNO := Lib.hid (@intP_no d)
  have HYES := Lib.hid (@intP_yes d)
  obtain ⟨an, al, ax⟩ := d
  simp only at hl hxx HYES
  have hE := ext_refl w
  have HA0 := NumAt.new w ⟨an, al, ax⟩
  have hx := ext_newnum w ⟨an, al, ax⟩
  simp only at HA0 hx
  replace hE := ext_trans hE hx
  have HA := Lib.hid HA0
  clear hx HA0
  generalize hwA : w.alloc (.cells #[.bool an, .string ⟨al.toArray⟩, .int .i64 ax] 25) = wA at *
  go_enter Tryd.func23, Tryd.ntmps23
  obtain ⟨fA0, fA1, fA2, gA0, gA1, gA2, lA⟩ := HA.out.cells
  simp only at fA0 fA1 fA2
  go_wp2_with fail
  clear fA0 fA1 fA2 gA0 gA1 gA2 lA
  clear hwA
  refine (sane_any ⟨an, al, ax⟩ _ hl).mono ?_
  rintro e wn ⟨rfl, hw⟩
  replace HA := Lib.hid (HA.out.ext hw)
  replace hE := ext_trans hE hw
  clear hw
  cases hsa : sane ⟨an, al, ax⟩ with
  | false =>
    have HF : Hid (intP ⟨an, al, ax⟩ = (0, false)) := Lib.hid (HNO.out (fun h => by rw [hsa] at h; cases h.1))
    clear hsa HYES HNO
    obtain ⟨fA0, fA1, fA2, gA0, gA1, gA2, lA⟩ := HA.out.cells
    simp only at fA0 fA1 fA2
    go_wp2_with fail
    clear fA0 fA1 fA2 gA0 gA1 gA2 lA
    go_ret2
    exact ⟨by rw [HF.out]; rfl, hE⟩
  | true =>
    have HSA := Lib.hid hsa
    have hla := sane_len hsa
    have hxa : -800 ≤ ax ∧ ax ≤ 800 := by
      rcases sane_parts hsa with e | e
      · simp only [Num.zero, Num.mk.injEq] at e; omega
      · exact ⟨e.2.2.2.2.2.1, e.2.2.2.2.2.2.1⟩
    have HDA := Lib.hid (sane_all hsa)
    simp only at hla HDA
    clear hsa hxx
    by_cases h0 : ax < 0
    · have HF : Hid (intP ⟨an, al, ax⟩ = (0, false)) := Lib.hid (HNO.out (fun h => by have := h.2.1; omega))
      clear HYES HNO
      obtain ⟨fA0, fA1, fA2, gA0, gA1, gA2, lA⟩ := HA.out.cells
      simp only at fA0 fA1 fA2
      go_wp2_with fail
      clear fA0 fA1 fA2 gA0 gA1 gA2 lA
      go_ret2
      exact ⟨by rw [HF.out]; rfl, hE⟩
    · obtain ⟨c, rfl⟩ : ∃ c : Nat, ax = c := ⟨ax.toNat, by omega⟩
      obtain ⟨fA0, fA1, fA2, gA0, gA1, gA2, lA⟩ := HA.out.cells
      simp only at fA0 fA1 fA2
      go_wp2_with fail
      clear fA0 fA1 fA2 gA0 gA1 gA2 lA
      refine (height_any ⟨an, al, c⟩ _ (by simp only; omega) (by simp only; omega)).mono ?_
      rintro e wn ⟨rfl, hw⟩
      replace HA := Lib.hid (HA.out.ext hw)
      replace hE := ext_trans hE hw
      clear hw
      have hh : height ⟨an, al, (c : Int)⟩ = (al.length : Int) + c := rfl
      obtain ⟨H, hH⟩ : ∃ H, height ⟨an, al, (c : Int)⟩ = H := ⟨_, rfl⟩
      rw [hH] at hh ⊢
      have HH := Lib.hid hH
      clear hH
      by_cases h15 : 15 < H
      · have HF : Hid (intP ⟨an, al, c⟩ = (0, false)) := Lib.hid (HNO.out (fun h => by have := h.2.2; rw [HH.out] at this; omega))
        clear HYES HNO
        obtain ⟨fA0, fA1, fA2, gA0, gA1, gA2, lA⟩ := HA.out.cells
        simp only at fA0 fA1 fA2
        go_wp2_with fail
        clear fA0 fA1 fA2 gA0 gA1 gA2 lA
        go_ret2
        exact ⟨by rw [HF.out]; rfl, hE⟩
      · have HF := Lib.hid (HYES.out HSA.out (by omega) (by rw [HH.out]; omega))
        simp only [Int.toNat_natCast] at HF
        clear HYES HNO
        obtain ⟨fA0, fA1, fA2, gA0, gA1, gA2, lA⟩ := HA.out.cells
        simp only at fA0 fA1 fA2
        go_wp2_with fail
        clear fA0 fA1 fA2 gA0 gA1 gA2 lA
        have HDZ : Hid (allD (al ++ zeros c)) := Lib.hid (HDA.out.app (allD_zeros c))
        have hLL : (al ++ zeros c).length ≤ 15 := by rw [List.length_append, zeros_len]; omega
        have hcat := ba_app al (zeros c)
        have hov : ¬ 2^63-1 < al.length + (zeros c).length := by rw [zeros_len]; omega
        obtain ⟨L, hL⟩ : ∃ L, al ++ zeros c = L := ⟨_, rfl⟩
        rw [hL] at HDZ HF hLL hcat
        clear hL
        refine Grow.wp_region_lit (G := Ext) (B := fun w' => Ext wn w') (anc := fun _ => []) (I := fun j => if j = 4 then some (Grow.Spec.val Ext (.string ⟨(zeros c).toArray⟩)) else if j = 6 then some (specBs L) else none) (by kernel_rfl) (by kernel_rfl) (by kernel_rfl) ?_ ?_ ?_
        · exact fun w w' h hg => ext_trans h hg
        · exact (ext_refl _).drew
        repeat
          (refine Grow.walk_step (fun K hK => ?_)
           first
           | (refine Grow.step_read (by rfl) (by rfl) ext_refl ?_
              apply Exists.intro
              refine ⟨fun w hB hF => ?_, ?_⟩
              · obtain ⟨a0, a1, a2, af0, af1, af2, hp⟩ := (HA.out.ext hB).cells; try simp only at a0 a1 a2
                go_simp
                try exact rfl
              go_simp
              refine hK _ _ ?_
              clear hK K)
           | (refine Grow.step_off (by rfl) ?_
              go_simp
              refine hK _ _ ?_
              clear hK K))
        refine Grow.walk_step (fun K hK => ?_)
        refine Grow.step_rel (by rfl) (by rfl) (fun w' hB hF => ?_) (fun v hv => ?_)
        · go_simp
          refine Grow.relUpon_enter ((repeat_any c (by omega) w').mono ?_)
          rintro e w'' ⟨rfl, hw''⟩
          exact ⟨_, rfl, hw'', rfl, trivial⟩
        obtain rfl : v = _ := hv
        go_simp
        refine hK _ _ ?_
        clear hK K
        repeat
          (refine Grow.walk_step (fun K hK => ?_)
           first
           | (refine Grow.step_read (by rfl) (by rfl) ext_refl ?_
              apply Exists.intro
              refine ⟨fun w hB hF => ?_, ?_⟩
              · skip
                go_simp
                try exact rfl
              go_simp
              refine hK _ _ ?_
              clear hK K)
           | (refine Grow.step_off (by rfl) ?_
              go_simp
              refine hK _ _ ?_
              clear hK K))
        refine Grow.walk_step (fun K hK => ?_)
        refine Grow.step_rel (by rfl) (by rfl) (fun w' hB hF => ?_) (fun v hv => ?_)
        · go_simp
          obtain ⟨cap, W', hrun, hby, hxx⟩ := conv_bytes w' L (by omega)
          rw [hrun]
          exact Grow.relUpon_value hxx ⟨_, _, rfl⟩ hby
        obtain ⟨a9, c9, rfl⟩ := hv
        go_simp
        refine hK _ _ ?_
        clear hK K
        repeat
          (refine Grow.walk_step (fun K hK => ?_)
           first
           | (refine Grow.step_read (by rfl) (by rfl) ext_refl ?_
              apply Exists.intro
              refine ⟨fun w hB hF => ?_, ?_⟩
              · skip
                go_simp
                try exact rfl
              go_simp
              refine hK _ _ ?_
              clear hK K)
           | (refine Grow.step_off (by rfl) ?_
              go_simp
              refine hK _ _ ?_
              clear hK K))
        refine Grow.walk_nil ?_
        intro w3 hB hF
        have hF6 := hF 6
        simp only [Grow.upd, specBs, if_true] at hF6
        replace HA := Lib.hid (HA.out.ext hB)
        replace hE := ext_trans hE hB
        clear hF hB hcat hov
        obtain ⟨a', cap', e', hlc, hcm, hlb, hat⟩ := hF6
        simp only [Value.slice.injEq] at e'
        obtain ⟨rfl, _, rfl⟩ := e'
        have HAT := Lib.hid hat
        clear hat
        have hvl := val_lt_pow15 L HDZ.out (by omega)
        have HVL := Lib.hid hvl
        clear hvl
        go_wp2_with fail
        go_loop [4, 28] (fun nv kv => ∃ k : Nat, kv = .int .i64 k ∧ k ≤ L.length ∧ nv = .int .i64 ((val (L.take k) : Nat) : Int)) (fun _ kv => L.length - (intOf kv).toNat)
        case atStart => exact ⟨0, rfl, by omega, rfl⟩
        case round =>
          obtain ⟨k, rfl, hk, rfl⟩ := hrel
          by_cases hlt : k < L.length
          · obtain ⟨b', o', e', _, hcell⟩ := HAT.out (by omega)
            subst e'
            have hck := hcell k hlt
            have hdk := (isDig_iff L[k]).1 (HDZ.out _ (List.getElem_mem hlt))
            have hst := val_take L k hlt
            have hb1 := HVL.out k
            have hb2 := HVL.out (k + 1)
            have hdv : ((L[k].toNat : Nat) : Int) - 48 = (digV L[k] : Nat) := by unfold digV; omega
            have hd1 := hdk.1
            have hd2 := hdk.2
            generalize L[k] = x at hck hd1 hd2 hst hdv
            have HST := Lib.hid hst
            have e1 : ((val (L.take k) : Nat) : Int) * 10 + ((x.toNat : Int) - 48) = ((val (L.take (k + 1)) : Nat) : Int) := by rw [hst]; omega
            have HE1 := Lib.hid e1
            generalize val (L.take k) = n at *
            have HB2 := Lib.hid hb2
            clear hb2
            clear hst hcell hdk e1 hdv
            go_wp2_with fail
            go_round
            case rel => exact ⟨k + 1, by go_num, by omega, by rw [← HE1.out]⟩
            case measure => simp [intOf]; omega
          · obtain rfl : k = L.length := by omega
            have hb := HVL.out L.length
            rw [List.take_length] at hb ⊢
            generalize val L = N at *
            cases an with
            | true =>
              obtain ⟨fA0, fA1, fA2, gA0, gA1, gA2, lA⟩ := HA.out.cells
              simp only at fA0 fA1 fA2
              go_wp2_with fail
              clear fA0 fA1 fA2 gA0 gA1 gA2 lA
              go_ret2
              exact ⟨by rw [HF.out]; rfl, hE⟩
            | false =>
              obtain ⟨fA0, fA1, fA2, gA0, gA1, gA2, lA⟩ := HA.out.cells
              simp only at fA0 fA1 fA2
              go_wp2_with fail
              clear fA0 fA1 fA2 gA0 gA1 gA2 lA
              go_ret2
              exact ⟨by rw [HF.out]; rfl, hE⟩
end Go.Proofs.YtpheohgceepboaaDoor
