/- orangeryref02: what size and Compare do. -/
import Derived.Test.YtpheohgceepboaaDoorR2C
import Derived.Test.YtpheohgceepboaaDoorDecF
import Derived.Test.YtpheohgceepboaaDoorDecL2
set_option linter.unusedVariables false
set_option linter.unusedSimpArgs false
set_option maxRecDepth 100000
namespace Orange
open Go.Proofs.YtpheohgceepboaaDoor (tail_last)
/-- digit by digit, with zeros behind -/
def pcmp : List UInt8 → List UInt8 → Int
  | [], [] => 0
  | c :: x, [] => if c.toNat < 48 then -1 else if 48 < c.toNat then 1 else pcmp x []
  | [], d :: y => if 48 < d.toNat then -1 else if d.toNat < 48 then 1 else pcmp [] y
  | c :: x, d :: y => if c.toNat < d.toNat then -1 else if d.toNat < c.toNat then 1 else pcmp x y
theorem pcmp_nil : ∀ (y : List UInt8), allD y → y ≠ [] → y.getLast? ≠ some 48 → pcmp [] y = -1
  | [], _, h, _ => absurd rfl h
  | d :: y, ha, _, hl => by
    have h1 := (isDig_iff d).1 ha.cons.1
    rw [pcmp]
    by_cases h : 48 < d.toNat
    · rw [if_pos h]
    · have hd : d = 48 := UInt8.toNat_inj.1 (by show d.toNat = 48; omega)
      rw [if_neg h, if_neg (by omega)]
      refine pcmp_nil y ha.cons.2 (fun e => ?_) (tail_last hl)
      subst e; subst hd; exact hl rfl
theorem pcmp_nil2 : ∀ (y : List UInt8), allD y → y ≠ [] → y.getLast? ≠ some 48 → pcmp y [] = 1
  | [], _, h, _ => absurd rfl h
  | d :: y, ha, _, hl => by
    have h1 := (isDig_iff d).1 ha.cons.1
    rw [pcmp]
    by_cases h : 48 < d.toNat
    · rw [if_neg (by omega), if_pos h]
    · have hd : d = 48 := UInt8.toNat_inj.1 (by show d.toNat = 48; omega)
      rw [if_neg (by omega), if_neg h]
      refine pcmp_nil2 y ha.cons.2 (fun e => ?_) (tail_last hl)
      subst e; subst hd; exact hl rfl
theorem pcmp_bytes : ∀ (x y : List UInt8), allD x → allD y → x.getLast? ≠ some 48 → y.getLast? ≠ some 48 → pcmp x y = Go.Lib.compareBytes x y
  | [], [], _, _, _, _ => by simp [pcmp, Go.Lib.compareBytes]
  | [], d :: y, _, hy, _, hl => by rw [pcmp_nil _ hy (by simp) hl]; simp [Go.Lib.compareBytes]
  | c :: x, [], hx, _, hl, _ => by rw [pcmp_nil2 _ hx (by simp) hl]; simp [Go.Lib.compareBytes]
  | c :: x, d :: y, hx, hy, hlx, hly => by
    rw [pcmp, Go.Lib.compareBytes, pcmp_bytes x y hx.cons.2 hy.cons.2 (tail_last hlx) (tail_last hly)]
    simp only [UInt8.lt_iff_toNat_lt]
def atZ (l : List UInt8) (i : Nat) : UInt8 := l.getD i 48
theorem pcmp_at (x y : List UInt8) (i : Nat) (h : i < x.length ∨ i < y.length) : pcmp (x.drop i) (y.drop i) = if (atZ x i).toNat < (atZ y i).toNat then -1 else if (atZ y i).toNat < (atZ x i).toNat then 1 else pcmp (x.drop (i + 1)) (y.drop (i + 1)) := by
  unfold atZ
  by_cases h1 : i < x.length
  · by_cases h2 : i < y.length
    · rw [List.drop_eq_getElem_cons h1, List.drop_eq_getElem_cons h2, pcmp]
      simp [h1, h2]
    · rw [List.drop_eq_getElem_cons h1, List.drop_of_length_le (by omega : y.length ≤ i), List.drop_of_length_le (by omega : y.length ≤ i + 1), pcmp]
      simp [h1, h2]
  · have h2 : i < y.length := by omega
    rw [List.drop_of_length_le (by omega : x.length ≤ i), List.drop_of_length_le (by omega : x.length ≤ i + 1), List.drop_eq_getElem_cons h2, pcmp]
    simp [h1, h2]
end Orange
namespace Go.Proofs.YtpheohgceepboaaDoor
open Go.RowKit Go.Mem Orange
theorem sane_xb {d : Num} (h : sane d = true) : d.digits.length ≤ 40 ∧ -800 ≤ d.exp ∧ d.exp ≤ 800 := by
  rcases sane_parts h with e | e
  · rw [e]; decide
  · exact ⟨e.2.2.1, e.2.2.2.2.2.1, e.2.2.2.2.2.2.1⟩
-- a round: the two bytes are $1 and $2 (numbers); HR : Hid (pcmp al bl = if ..)
set_option maxHeartbeats 6400000 in
theorem r2size_any (a b : Num) (w : World) (ha : sane a = true) (hb : sane b = true) :
    Calls Tryd.prog 44 #[.agg #[.bool a.neg, .string ⟨a.digits.toArray⟩, .int .i64 a.exp], .agg #[.bool b.neg, .string ⟨b.digits.toArray⟩, .int .i64 b.exp]] w fun e w' => e = .returned (.int .i64 (sizeP a b)) ∧ Ext w w' := by
  have hla := sane_xb ha
  have hlb := sane_xb hb
  have hP : sizeP a b = if a.digits = [] ∨ b.digits = [] then cmpZ a.digits.length b.digits.length else if height a ≠ height b then cmpZ (height a) (height b) else Lib.compareBytes a.digits b.digits := rfl
  have hpc : a.digits ≠ [] → b.digits ≠ [] → pcmp a.digits b.digits = Lib.compareBytes a.digits b.digits := fun h1 h2 => by
    rcases sane_parts ha with e | e
    · rw [e] at h1; exact absurd rfl h1
    · rcases sane_parts hb with e' | e'
      · rw [e'] at h2; exact absurd rfl h2
      · exact pcmp_bytes _ _ e.2.1 e'.2.1 e.2.2.2.2.2.2.2.2 e'.2.2.2.2.2.2.2.2
  have HP := Lib.hid hP
  have HPC := Lib.hid hpc
  have hha : height a = (a.digits.length : Int) + a.exp := rfl
  have hhb : height b = (b.digits.length : Int) + b.exp := rfl
  obtain ⟨an, al, ax⟩ := a
  obtain ⟨bn, bl, bx⟩ := b
  simp only at hla hlb HP HPC hha hhb
  obtain ⟨hla, hxa1, hxa2⟩ := hla
  obtain ⟨hlb, hxb1, hxb2⟩ := hlb
  clear hP hpc ha hb
  have hE := ext_refl w
  have HA0 := NumAt.new w ⟨an, al, ax⟩
  have hx := ext_newnum w ⟨an, al, ax⟩
  simp only at HA0 hx
  replace hE := ext_trans hE hx
  have HA := Lib.hid HA0
  clear hx HA0
  generalize hwA : w.alloc (.cells #[.bool an, .string ⟨al.toArray⟩, .int .i64 ax] 25) = wA at *
  have hsA : wA.heap.size = w.heap.size + 1 := by rw [← hwA]; simp
  have HB0 := NumAt.new wA ⟨bn, bl, bx⟩
  have hx := ext_newnum wA ⟨bn, bl, bx⟩
  simp only at HB0 hx
  replace HA := Lib.hid (HA.out.ext hx)
  replace hE := ext_trans hE hx
  have HB := Lib.hid HB0
  clear hx HB0
  generalize hwB : wA.alloc (.cells #[.bool bn, .string ⟨bl.toArray⟩, .int .i64 bx] 25) = wB at *
  rw [hsA] at HB
  subst hwA
  go_enter Tryd.func44, Tryd.ntmps44
  go_upto_region 1 with fail
  clear hsA hwB
  by_cases hal : al = []
  · subst hal
    have HF := Lib.hid (HP.out.trans (if_pos (.inl rfl)))
    clear HP HPC
    cases bl with
    | nil =>
      obtain ⟨fA0, fA1, fA2, gA0, gA1, gA2, lA⟩ := HA.out.cells
      simp only at fA0 fA1 fA2
      obtain ⟨fB0, fB1, fB2, gB0, gB1, gB2, lB⟩ := HB.out.cells
      simp only at fB0 fB1 fB2
      go_wp2_with fail
      go_ret
      exact ⟨ret_int (by rw [HF.out]; rfl), hE⟩
    | cons y u =>
      have hm : min ((u.length : Int) + 1) 1 = 1 := by omega
      have HF2 : Hid (sizeP ⟨an, [], ax⟩ ⟨bn, y :: u, bx⟩ = -1) := Lib.hid (by rw [HF.out]; unfold cmpZ; rw [if_pos (by simp <;> omega)])
      obtain ⟨fA0, fA1, fA2, gA0, gA1, gA2, lA⟩ := HA.out.cells
      simp only at fA0 fA1 fA2
      obtain ⟨fB0, fB1, fB2, gB0, gB1, gB2, lB⟩ := HB.out.cells
      simp only at fB0 fB1 fB2
      go_wp2_with fail
      go_ret
      exact ⟨ret_int (by rw [HF2.out]; rfl), hE⟩
  · by_cases hbl : bl = []
    · subst hbl
      have HF := Lib.hid (HP.out.trans (if_pos (.inr rfl)))
      cases al with
      | nil => exact absurd rfl hal
      | cons y u =>
        have hm : min ((u.length : Int) + 1) 1 = 1 := by omega
        have HF2 : Hid (sizeP ⟨an, y :: u, ax⟩ ⟨bn, [], bx⟩ = 1) := Lib.hid (by rw [HF.out]; unfold cmpZ; rw [if_neg (by simp; omega), if_pos (by simp <;> omega)])
        clear HP HPC hal
        obtain ⟨fA0, fA1, fA2, gA0, gA1, gA2, lA⟩ := HA.out.cells
        simp only at fA0 fA1 fA2
        obtain ⟨fB0, fB1, fB2, gB0, gB1, gB2, lB⟩ := HB.out.cells
        simp only at fB0 fB1 fB2
        go_wp2_with fail
        go_ret
        exact ⟨ret_int (by rw [HF2.out]; rfl), hE⟩
    · have HP2 := Lib.hid (HP.out.trans (if_neg (fun h => h.elim hal hbl)))
      have hpq := HPC.out hal hbl
      have hl1 : 0 < al.length := List.length_pos_iff.2 hal
      have hl2 : 0 < bl.length := List.length_pos_iff.2 hbl
      have e1 : ((al.length : Int) == 0) = false := by simp; omega
      have e2 : ((bl.length : Int) == 0) = false := by simp; omega
      clear HP HPC hal hbl
      rw [hha, hhb] at HP2
      clear hha hhb
      rcases Int.lt_trichotomy ((al.length : Int) + ax) ((bl.length : Int) + bx) with h | h | h
      · have HF : Hid (sizeP ⟨an, al, ax⟩ ⟨bn, bl, bx⟩ = -1) := Lib.hid (by rw [HP2.out, if_pos (by omega)]; unfold cmpZ; rw [if_pos h])
        clear HP2
        obtain ⟨fA0, fA1, fA2, gA0, gA1, gA2, lA⟩ := HA.out.cells
        simp only at fA0 fA1 fA2
        obtain ⟨fB0, fB1, fB2, gB0, gB1, gB2, lB⟩ := HB.out.cells
        simp only at fB0 fB1 fB2
        go_wp2_with fail
        go_ret
        exact ⟨ret_int HF.out.symm, hE⟩
      · have HS : Hid (sizeP ⟨an, al, ax⟩ ⟨bn, bl, bx⟩ = pcmp al bl) := Lib.hid (by rw [HP2.out, if_neg (by omega), hpq])
        have hneq : ((al.length : Int) + ax != (bl.length : Int) + bx) = false := by simp; omega
        clear HP2 hpq
        obtain ⟨fA0, fA1, fA2, gA0, gA1, gA2, lA⟩ := HA.out.cells
        simp only at fA0 fA1 fA2
        obtain ⟨fB0, fB1, fB2, gB0, gB1, gB2, lB⟩ := HB.out.cells
        simp only at fB0 fB1 fB2
        go_wp2_with fail
        clear fA0 fA1 fA2 gA0 gA1 gA2 lA
        clear fB0 fB1 fB2 gB0 gB1 gB2 lB
        go_loop [7] (fun iv => ∃ i : Nat, iv = .int .i64 i ∧ i ≤ 40 ∧ pcmp al bl = pcmp (al.drop i) (bl.drop i)) (fun iv => 41 - (intOf iv).toNat)
        case atStart => exact ⟨0, rfl, by omega, rfl⟩
        case round =>
          obtain ⟨i, rfl, hi, hr⟩ := hrel
          have HR := Lib.hid hr
          clear hr
          by_cases h1 : i < al.length
          · have hat := pcmp_at al bl i (.inl h1)
            have ha1 : atZ al i = al[i] := by unfold atZ; simp [h1]
            have hg1 := sx_get al i h1
            rw [ha1] at hat
            generalize al[i] = x at *
            by_cases h2 : i < bl.length
            · have hb1 : atZ bl i = bl[i] := by unfold atZ; simp [h2]
              have hg2 := sx_get bl i h2
              rw [hb1] at hat
              generalize bl[i] = y at *
              have HRR := Lib.hid (HR.out.trans hat)
              clear hat ha1 hb1
              by_cases hc1 : (x.toNat : Int) < y.toNat
              · have HF : Hid (sizeP ⟨an, al, ax⟩ ⟨bn, bl, bx⟩ = -1) := Lib.hid (by rw [HS.out, HRR.out, if_pos (by omega)])
                obtain ⟨fA0, fA1, fA2, gA0, gA1, gA2, lA⟩ := HA.out.cells
                simp only at fA0 fA1 fA2
                obtain ⟨fB0, fB1, fB2, gB0, gB1, gB2, lB⟩ := HB.out.cells
                simp only at fB0 fB1 fB2
                go_wp2_with fail
                go_ret
                exact ⟨ret_int HF.out.symm, hE⟩
              · by_cases hc2 : (y.toNat : Int) < x.toNat
                · have HF : Hid (sizeP ⟨an, al, ax⟩ ⟨bn, bl, bx⟩ = 1) := Lib.hid (by rw [HS.out, HRR.out, if_neg (by omega), if_pos (by omega)])
                  obtain ⟨fA0, fA1, fA2, gA0, gA1, gA2, lA⟩ := HA.out.cells
                  simp only at fA0 fA1 fA2
                  obtain ⟨fB0, fB1, fB2, gB0, gB1, gB2, lB⟩ := HB.out.cells
                  simp only at fB0 fB1 fB2
                  go_wp2_with fail
                  go_ret
                  exact ⟨ret_int HF.out.symm, hE⟩
                · have HN : Hid (pcmp al bl = pcmp (al.drop (i + 1)) (bl.drop (i + 1))) := Lib.hid (by rw [HRR.out, if_neg (by omega), if_neg (by omega)])
                  obtain ⟨fA0, fA1, fA2, gA0, gA1, gA2, lA⟩ := HA.out.cells
                  simp only at fA0 fA1 fA2
                  obtain ⟨fB0, fB1, fB2, gB0, gB1, gB2, lB⟩ := HB.out.cells
                  simp only at fB0 fB1 fB2
                  go_wp2_with fail
                  go_round
                  case rel => exact ⟨i + 1, by go_num, by omega, HN.out⟩
                  case measure => simp [intOf]; omega
            · have hb1 : atZ bl i = 48 := by unfold atZ; simp [h2]
              rw [hb1] at hat
              have HRR : Hid (pcmp al bl = if x.toNat < 48 then -1 else if 48 < x.toNat then 1 else pcmp (al.drop (i + 1)) (bl.drop (i + 1))) := Lib.hid (HR.out.trans hat)
              clear hat ha1 hb1
              by_cases hc1 : (x.toNat : Int) < 48
              · have HF : Hid (sizeP ⟨an, al, ax⟩ ⟨bn, bl, bx⟩ = -1) := Lib.hid (by rw [HS.out, HRR.out, if_pos (by omega)])
                obtain ⟨fA0, fA1, fA2, gA0, gA1, gA2, lA⟩ := HA.out.cells
                simp only at fA0 fA1 fA2
                obtain ⟨fB0, fB1, fB2, gB0, gB1, gB2, lB⟩ := HB.out.cells
                simp only at fB0 fB1 fB2
                go_wp2_with fail
                go_ret
                exact ⟨ret_int HF.out.symm, hE⟩
              · by_cases hc2 : (48 : Int) < x.toNat
                · have HF : Hid (sizeP ⟨an, al, ax⟩ ⟨bn, bl, bx⟩ = 1) := Lib.hid (by rw [HS.out, HRR.out, if_neg (by omega), if_pos (by omega)])
                  obtain ⟨fA0, fA1, fA2, gA0, gA1, gA2, lA⟩ := HA.out.cells
                  simp only at fA0 fA1 fA2
                  obtain ⟨fB0, fB1, fB2, gB0, gB1, gB2, lB⟩ := HB.out.cells
                  simp only at fB0 fB1 fB2
                  go_wp2_with fail
                  go_ret
                  exact ⟨ret_int HF.out.symm, hE⟩
                · have HN : Hid (pcmp al bl = pcmp (al.drop (i + 1)) (bl.drop (i + 1))) := Lib.hid (by rw [HRR.out, if_neg (by omega), if_neg (by omega)])
                  obtain ⟨fA0, fA1, fA2, gA0, gA1, gA2, lA⟩ := HA.out.cells
                  simp only at fA0 fA1 fA2
                  obtain ⟨fB0, fB1, fB2, gB0, gB1, gB2, lB⟩ := HB.out.cells
                  simp only at fB0 fB1 fB2
                  go_wp2_with fail
                  go_round
                  case rel => exact ⟨i + 1, by go_num, by omega, HN.out⟩
                  case measure => simp [intOf]; omega
          · by_cases h2 : i < bl.length
            · have hat := pcmp_at al bl i (.inr h2)
              have ha1 : atZ al i = 48 := by unfold atZ; simp [h1]
              have hb1 : atZ bl i = bl[i] := by unfold atZ; simp [h2]
              have hg2 := sx_get bl i h2
              rw [ha1, hb1] at hat
              generalize bl[i] = y at *
              have HRR : Hid (pcmp al bl = if 48 < y.toNat then -1 else if y.toNat < 48 then 1 else pcmp (al.drop (i + 1)) (bl.drop (i + 1))) := Lib.hid (HR.out.trans hat)
              clear hat ha1 hb1
              by_cases hc1 : (48 : Int) < y.toNat
              · have HF : Hid (sizeP ⟨an, al, ax⟩ ⟨bn, bl, bx⟩ = -1) := Lib.hid (by rw [HS.out, HRR.out, if_pos (by omega)])
                obtain ⟨fA0, fA1, fA2, gA0, gA1, gA2, lA⟩ := HA.out.cells
                simp only at fA0 fA1 fA2
                obtain ⟨fB0, fB1, fB2, gB0, gB1, gB2, lB⟩ := HB.out.cells
                simp only at fB0 fB1 fB2
                go_wp2_with fail
                go_ret
                exact ⟨ret_int HF.out.symm, hE⟩
              · by_cases hc2 : (y.toNat : Int) < 48
                · have HF : Hid (sizeP ⟨an, al, ax⟩ ⟨bn, bl, bx⟩ = 1) := Lib.hid (by rw [HS.out, HRR.out, if_neg (by omega), if_pos (by omega)])
                  obtain ⟨fA0, fA1, fA2, gA0, gA1, gA2, lA⟩ := HA.out.cells
                  simp only at fA0 fA1 fA2
                  obtain ⟨fB0, fB1, fB2, gB0, gB1, gB2, lB⟩ := HB.out.cells
                  simp only at fB0 fB1 fB2
                  go_wp2_with fail
                  go_ret
                  exact ⟨ret_int HF.out.symm, hE⟩
                · have HN : Hid (pcmp al bl = pcmp (al.drop (i + 1)) (bl.drop (i + 1))) := Lib.hid (by rw [HRR.out, if_neg (by omega), if_neg (by omega)])
                  obtain ⟨fA0, fA1, fA2, gA0, gA1, gA2, lA⟩ := HA.out.cells
                  simp only at fA0 fA1 fA2
                  obtain ⟨fB0, fB1, fB2, gB0, gB1, gB2, lB⟩ := HB.out.cells
                  simp only at fB0 fB1 fB2
                  go_wp2_with fail
                  go_round
                  case rel => exact ⟨i + 1, by go_num, by omega, HN.out⟩
                  case measure => simp [intOf]; omega
            · have HF : Hid (sizeP ⟨an, al, ax⟩ ⟨bn, bl, bx⟩ = 0) := Lib.hid (by rw [HS.out, HR.out, List.drop_of_length_le (by omega), List.drop_of_length_le (by omega), pcmp])
              obtain ⟨fA0, fA1, fA2, gA0, gA1, gA2, lA⟩ := HA.out.cells
              simp only at fA0 fA1 fA2
              obtain ⟨fB0, fB1, fB2, gB0, gB1, gB2, lB⟩ := HB.out.cells
              simp only at fB0 fB1 fB2
              go_wp2_with fail
              go_ret
              exact ⟨ret_int HF.out.symm, hE⟩
      · have HF : Hid (sizeP ⟨an, al, ax⟩ ⟨bn, bl, bx⟩ = 1) := Lib.hid (by rw [HP2.out, if_pos (by omega)]; unfold cmpZ; rw [if_neg (by omega), if_pos h])
        have hneq : ((al.length : Int) + ax != (bl.length : Int) + bx) = true := by simp; omega
        have hnl : ¬ (al.length : Int) + ax < (bl.length : Int) + bx := by omega
        clear HP2
        obtain ⟨fA0, fA1, fA2, gA0, gA1, gA2, lA⟩ := HA.out.cells
        simp only at fA0 fA1 fA2
        obtain ⟨fB0, fB1, fB2, gB0, gB1, gB2, lB⟩ := HB.out.cells
        simp only at fB0 fB1 fB2
        go_wp2_with fail
        go_ret
        exact ⟨ret_int HF.out.symm, hE⟩
set_option maxHeartbeats 3200000 in
theorem r2compare_any (a b : Num) (w : World) (hal : a.digits.length ≤ 140737488355328) (hbl : b.digits.length ≤ 140737488355328) :
    Calls Tryd.prog 22 #[.agg #[.bool a.neg, .string ⟨a.digits.toArray⟩, .int .i64 a.exp], .agg #[.bool b.neg, .string ⟨b.digits.toArray⟩, .int .i64 b.exp]] w fun e w' => e = .returned (.int .i64 (cmpP a b)) ∧ Ext w w' := by
  have HC : Hid (sane a = true → sane b = true → cmpP a b = if a.neg then (if b.neg then sizeP b a else -1) else (if b.neg then 1 else sizeP a b)) := Lib.hid cmpP_size
  have HN : Hid (¬ (sane a = true ∧ sane b = true) → cmpP a b = 0) := Lib.hid (fun h => by unfold cmpP; rw [if_neg h])
  obtain ⟨an, al, ax⟩ := a
  obtain ⟨bn, bl, bx⟩ := b
  simp only at hal hbl HC
  have hE := ext_refl w
  have HA0 := NumAt.new w ⟨an, al, ax⟩
  have hx := ext_newnum w ⟨an, al, ax⟩
  simp only at HA0 hx
  replace hE := ext_trans hE hx
  have HA := Lib.hid HA0
  clear hx HA0
  generalize hwA : w.alloc (.cells #[.bool an, .string ⟨al.toArray⟩, .int .i64 ax] 25) = wA at *
  have hsA : wA.heap.size = w.heap.size + 1 := by rw [← hwA]; simp
  have HB0 := NumAt.new wA ⟨bn, bl, bx⟩
  have hx := ext_newnum wA ⟨bn, bl, bx⟩
  simp only at HB0 hx
  replace HA := Lib.hid (HA.out.ext hx)
  replace hE := ext_trans hE hx
  have HB := Lib.hid HB0
  clear hx HB0
  generalize hwB : wA.alloc (.cells #[.bool bn, .string ⟨bl.toArray⟩, .int .i64 bx] 25) = wB at *
  rw [hsA] at HB
  subst hwA
  go_enter Tryd.func22, Tryd.ntmps22
  obtain ⟨fA0, fA1, fA2, gA0, gA1, gA2, lA⟩ := HA.out.cells
  simp only at fA0 fA1 fA2
  obtain ⟨fB0, fB1, fB2, gB0, gB1, gB2, lB⟩ := HB.out.cells
  simp only at fB0 fB1 fB2
  go_wp2_with fail
  clear fA0 fA1 fA2 gA0 gA1 gA2 lA
  clear fB0 fB1 fB2 gB0 gB1 gB2 lB
  clear hsA hwB
  refine (r2sane_any ⟨an, al, ax⟩ _ hal).mono ?_
  rintro e wn ⟨rfl, hw⟩
  replace HA := Lib.hid (HA.out.ext hw)
  replace HB := Lib.hid (HB.out.ext hw)
  replace hE := ext_trans hE hw
  clear hw
  cases hsa : sane ⟨an, al, ax⟩ with
  | false =>
    have HF := Lib.hid (HN.out (fun h => by rw [hsa] at h; cases h.1))
    clear hsa
    obtain ⟨fA0, fA1, fA2, gA0, gA1, gA2, lA⟩ := HA.out.cells
    simp only at fA0 fA1 fA2
    obtain ⟨fB0, fB1, fB2, gB0, gB1, gB2, lB⟩ := HB.out.cells
    simp only at fB0 fB1 fB2
    go_wp2_with fail
    clear fA0 fA1 fA2 gA0 gA1 gA2 lA
    clear fB0 fB1 fB2 gB0 gB1 gB2 lB
    go_ret
    exact ⟨ret_int HF.out.symm, hE⟩
  | true =>
    have HSA := Lib.hid hsa
    clear hsa
    obtain ⟨fA0, fA1, fA2, gA0, gA1, gA2, lA⟩ := HA.out.cells
    simp only at fA0 fA1 fA2
    obtain ⟨fB0, fB1, fB2, gB0, gB1, gB2, lB⟩ := HB.out.cells
    simp only at fB0 fB1 fB2
    go_wp2_with fail
    clear fA0 fA1 fA2 gA0 gA1 gA2 lA
    clear fB0 fB1 fB2 gB0 gB1 gB2 lB
    refine (r2sane_any ⟨bn, bl, bx⟩ _ hbl).mono ?_
    rintro e wn ⟨rfl, hw⟩
    replace HA := Lib.hid (HA.out.ext hw)
    replace HB := Lib.hid (HB.out.ext hw)
    replace hE := ext_trans hE hw
    clear hw
    cases hsb : sane ⟨bn, bl, bx⟩ with
    | false =>
      have HF := Lib.hid (HN.out (fun h => by rw [hsb] at h; cases h.2))
      clear hsb
      obtain ⟨fA0, fA1, fA2, gA0, gA1, gA2, lA⟩ := HA.out.cells
      simp only at fA0 fA1 fA2
      obtain ⟨fB0, fB1, fB2, gB0, gB1, gB2, lB⟩ := HB.out.cells
      simp only at fB0 fB1 fB2
      go_wp2_with fail
      clear fA0 fA1 fA2 gA0 gA1 gA2 lA
      clear fB0 fB1 fB2 gB0 gB1 gB2 lB
      go_ret
      exact ⟨ret_int HF.out.symm, hE⟩
    | true =>
      have HSB := Lib.hid hsb
      have HC2 := Lib.hid (HC.out HSA.out hsb)
      clear hsb HC HN
      cases an with
      | true =>
        cases bn with
        | true =>
          have HF : Hid (cmpP ⟨true, al, ax⟩ ⟨true, bl, bx⟩ = sizeP ⟨true, bl, bx⟩ ⟨true, al, ax⟩) := Lib.hid HC2.out
          obtain ⟨fA0, fA1, fA2, gA0, gA1, gA2, lA⟩ := HA.out.cells
          simp only at fA0 fA1 fA2
          obtain ⟨fB0, fB1, fB2, gB0, gB1, gB2, lB⟩ := HB.out.cells
          simp only at fB0 fB1 fB2
          go_wp2_with fail
          clear fA0 fA1 fA2 gA0 gA1 gA2 lA
          clear fB0 fB1 fB2 gB0 gB1 gB2 lB
          refine (r2size_any ⟨true, bl, bx⟩ ⟨true, al, ax⟩ _ HSB.out HSA.out).mono ?_
          rintro e wn ⟨rfl, hw⟩
          replace hE := ext_trans hE hw
          clear hw
          go_wp2_with fail
          go_ret
          exact ⟨ret_int HF.out.symm, hE⟩
        | false =>
          have HF : Hid (cmpP ⟨true, al, ax⟩ ⟨false, bl, bx⟩ = -1) := Lib.hid HC2.out
          obtain ⟨fA0, fA1, fA2, gA0, gA1, gA2, lA⟩ := HA.out.cells
          simp only at fA0 fA1 fA2
          obtain ⟨fB0, fB1, fB2, gB0, gB1, gB2, lB⟩ := HB.out.cells
          simp only at fB0 fB1 fB2
          go_wp2_with fail
          clear fA0 fA1 fA2 gA0 gA1 gA2 lA
          clear fB0 fB1 fB2 gB0 gB1 gB2 lB
          go_ret
          exact ⟨ret_int HF.out.symm, hE⟩
      | false =>
        cases bn with
        | true =>
          have HF : Hid (cmpP ⟨false, al, ax⟩ ⟨true, bl, bx⟩ = 1) := Lib.hid HC2.out
          obtain ⟨fA0, fA1, fA2, gA0, gA1, gA2, lA⟩ := HA.out.cells
          simp only at fA0 fA1 fA2
          obtain ⟨fB0, fB1, fB2, gB0, gB1, gB2, lB⟩ := HB.out.cells
          simp only at fB0 fB1 fB2
          go_wp2_with fail
          clear fA0 fA1 fA2 gA0 gA1 gA2 lA
          clear fB0 fB1 fB2 gB0 gB1 gB2 lB
          go_ret
          exact ⟨ret_int HF.out.symm, hE⟩
        | false =>
          have HF : Hid (cmpP ⟨false, al, ax⟩ ⟨false, bl, bx⟩ = sizeP ⟨false, al, ax⟩ ⟨false, bl, bx⟩) := Lib.hid HC2.out
          obtain ⟨fA0, fA1, fA2, gA0, gA1, gA2, lA⟩ := HA.out.cells
          simp only at fA0 fA1 fA2
          obtain ⟨fB0, fB1, fB2, gB0, gB1, gB2, lB⟩ := HB.out.cells
          simp only at fB0 fB1 fB2
          go_wp2_with fail
          clear fA0 fA1 fA2 gA0 gA1 gA2 lA
          clear fB0 fB1 fB2 gB0 gB1 gB2 lB
          refine (r2size_any ⟨false, al, ax⟩ ⟨false, bl, bx⟩ _ HSA.out HSB.out).mono ?_
          rintro e wn ⟨rfl, hw⟩
          replace hE := ext_trans hE hw
          clear hw
          go_wp2_with fail
          go_ret
          exact ⟨ret_int HF.out.symm, hE⟩
end Go.Proofs.YtpheohgceepboaaDoor
