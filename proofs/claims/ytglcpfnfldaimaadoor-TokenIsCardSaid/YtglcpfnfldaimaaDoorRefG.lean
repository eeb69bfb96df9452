/- orangeryref01: what Escape does. -/
import Derived.Test.YtglcpfnfldaimaaDoorRefF
set_option linter.unusedVariables false
set_option maxRecDepth 100000
set_option linter.unusedSimpArgs false
namespace Orange
theorem hexv_bd (xs : List UInt8) : -1 ≤ hexv xs ∧ hexv xs ≤ 65535 := by
  unfold hexv
  split
  · omega
  · rename_i h
    split
    · rename_i v hv
      have := hexN_bd _ _ _ (by decide) hv
      have hl : (xs.take 4).length = 4 := by simp; omega
      rw [hl] at this; omega
    · omega
theorem unit_hexv (t : List UInt8) : unit (117 :: t) = if hexv t < 0 then none else some (hexv t) := by
  simp only [unit, hexv]
  by_cases h : t.length < 4
  · simp [h]
  · simp only [h, decide_false, bne_self_eq_false, Bool.or_self, Bool.false_eq_true, if_false]
    cases hh : hexN (t.take 4) 0 with
    | none => simp
    | some v =>
      have := hexN_bd _ _ _ (by decide) hh
      simp only; rw [if_neg (by omega)]
theorem unit_other (u : UInt8) (t : List UInt8) (h : u ≠ 117) : unit (u :: t) = none := by
  simp [unit, h]
theorem escape_u (t : List UInt8) : escape (117 :: t) = if 0 ≤ hexv t ∧ sound (hexv t) = true then (hexv t, 5) else
    if hexv t < 55296 ∨ 56319 < hexv t ∨ t.length < 10 ∨ t[4]? ≠ some 92 ∨ t[5]? ≠ some 117 then (0, 0) else
    if hexv (t.drop 6) < 56320 ∨ 57343 < hexv (t.drop 6) then (0, 0) else (65536 + (hexv t - 55296) * 1024 + hexv (t.drop 6) - 56320, 11) := by
  have e0 : escape (117 :: t) = match unit (117 :: t) with
      | none => (0, 0)
      | some v => if sound v then (v, 5) else match pair v (t.drop 4) with
        | some r => (r, 11)
        | none => (0, 0) := by
    rfl
  rw [e0, unit_hexv]
  have hb := hexv_bd t
  by_cases h0 : hexv t < 0
  · rw [if_pos h0, if_neg (by omega), if_pos (by omega)]
  · rw [if_neg h0]
    simp only
    by_cases hs : sound (hexv t) = true
    · rw [if_pos hs, if_pos ⟨by omega, hs⟩]
    · rw [if_neg hs, if_neg (fun h => hs h.2)]
      have hns := hs
      rw [sound_iff] at hns
      generalize hexv t = v at *
      by_cases hl : t.length < 10
      · rw [if_pos (.inr (.inr (.inl hl)))]
        have : pair v (t.drop 4) = none := by
          cases hd : t.drop 4 with
          | nil => rfl
          | cons c u =>
            have h5 := congrArg List.length hd
            simp only [List.length_drop, List.length_cons] at h5
            simp only [pair]
            split
            · rfl
            · rename_i hc
              simp only [Bool.or_eq_true, decide_eq_true_eq, not_or] at hc
              omega
        rw [this]
      · have h4 : 4 < t.length := by omega
        have h5 : 5 < t.length := by omega
        have hd4 : t.drop 4 = t[4] :: t[5] :: t.drop 6 := by
          rw [List.drop_eq_getElem_cons h4, List.drop_eq_getElem_cons h5]
        have g4 : t[4]? = some t[4] := by simp [h4]
        have g5 : t[5]? = some t[5] := by simp [h5]
        rw [hd4, g4, g5]
        generalize t[4] = c at *
        generalize t[5] = u at *
        have hlen : (u :: t.drop 6).length = t.length - 5 := by simp; omega
        simp only [pair, hlen, Option.some.injEq, ne_eq]
        by_cases hv : 56319 < v
        · rw [if_pos (by simp [hv]), if_pos (.inr (.inl hv))]
        · by_cases hc : c = 92
          · rw [if_neg (by simp [hv, hc]; omega)]
            by_cases hu : u = 117
            · subst hu
              rw [unit_hexv, if_neg (show ¬ (v < 55296 ∨ 56319 < v ∨ t.length < 10 ∨ ¬ c = 92 ∨ ¬ (117 : UInt8) = 117) by simp [hc]; omega)]
              have hb2 := hexv_bd (t.drop 6)
              by_cases hw0 : hexv (t.drop 6) < 0
              · rw [if_pos hw0, if_pos (by omega)]
              · rw [if_neg hw0]
                by_cases hw : hexv (t.drop 6) < 56320 ∨ 57343 < hexv (t.drop 6)
                · simp [hw]
                · simp [hw]
            · rw [unit_other u _ hu, if_pos (.inr (.inr (.inr (.inr hu))))]
          · rw [if_pos (by simp [hc]), if_pos (.inr (.inr (.inr (.inl hc))))]
end Orange
namespace Go.Proofs.YtglcpfnfldaimaaDoor
open Go.RowKit Go.Mem Orange

theorem esc_one (c : UInt8) (t : List UInt8) (h : c = 34 ∨ c = 47 ∨ c = 92) : escape (c :: t) = ((c.toNat : Int), 1) := by
  rcases h with rfl | rfl | rfl <;> rfl
theorem esc_named (c : UInt8) (t : List UInt8) (n : Int) (h : (c = 98 ∧ n = 8) ∨ (c = 116 ∧ n = 9) ∨ (c = 110 ∧ n = 10) ∨ (c = 102 ∧ n = 12) ∨ (c = 114 ∧ n = 13)) : escape (c :: t) = (n, 1) := by
  rcases h with ⟨rfl, rfl⟩ | ⟨rfl, rfl⟩ | ⟨rfl, rfl⟩ | ⟨rfl, rfl⟩ | ⟨rfl, rfl⟩ <;> rfl
theorem esc_none (c : UInt8) (t : List UInt8) (h1 : c ≠ 34) (h2 : c ≠ 47) (h3 : c ≠ 92) (h4 : c ≠ 98) (h5 : c ≠ 116) (h6 : c ≠ 110) (h7 : c ≠ 102) (h8 : c ≠ 114) (h9 : c ≠ 117) : escape (c :: t) = (0, 0) := by
  simp [escape, h1, h2, h3, h4, h5, h6, h7, h8, unit_other c t h9]

set_option maxHeartbeats 3200000 in
set_option maxRecDepth 100000 in
theorem refescape_u (b o cap : Nat) (t : List UInt8) (w : World) (hcap : t.length + 1 ≤ cap) (hcm : cap ≤ 9223372036854775807) (hlm : t.length + 1 ≤ 140737488355328) (hbl : b < w.heap.size)
    (hc0 : w.cell? ⟨b, o, none⟩ = some (.int .u8 117)) (hat : BytesAt w (some ⟨b, o, none⟩) (117 :: t)) :
    Calls Tryd.prog 52 #[.slice (some ⟨b, o, none⟩) (t.length + 1) cap] w fun e w' => e = .returned (.tuple #[.int .i32 (escape (117 :: t)).1, .int .i64 (escape (117 :: t)).2]) ∧ Ext w w' := by
  have hbs1 : Bytes w (.slice (some ⟨b, if cap = 1 then o else o + 1, none⟩) t.length (cap - 1)) t := by
    by_cases h1 : cap = 1
    · obtain rfl : t = [] := List.eq_nil_of_length_eq_zero (by omega)
      exact Bytes.nil _ _ _ (by omega)
    · rw [if_neg h1]
      exact Bytes.mk (hat.drop 1) rfl (by omega) (by omega) (by omega)
  have hbd := hexv_bd t
  have HE := Lib.hid (escape_u t)
  have HAT := Lib.hid hat
  have HBS := Lib.hid hbs1
  clear hat hbs1
  have fin : ∀ (q : Int × Nat) (r n : Int) (w1 : World), escape (117 :: t) = q → r = q.1 → n = q.2 → Ext w w1 → (Ending.returned (.tuple #[.int .i32 r, .int .i64 n]) = .returned (.tuple #[.int .i32 (escape (117 :: t)).1, .int .i64 (escape (117 :: t)).2])) ∧ Ext w w1 := by
    intro q r n w1 e1 e2 e3 h; rw [e1, e2, e3]; exact ⟨rfl, h⟩
  have FIN := Lib.hid fin
  clear fin
  by_cases h1 : cap = 1
  · subst h1
    obtain rfl : t = [] := List.eq_nil_of_length_eq_zero (by omega)
    have he : Hid (escape [117] = (0, 0)) := Lib.hid rfl
    have hv : hexv [] = -1 := rfl
    go_enter Tryd.func52, Tryd.ntmps52
    go_wp2_with fail
    refine (refhex_any _ [] _ (Bytes.nil _ _ _ (by omega))).mono ?_
    rintro e w1 ⟨rfl, hw1⟩
    rw [hv]
    go_wp2_with fail
    go_ret2
    exact FIN.out _ _ _ _ he.out rfl rfl hw1
  · have hbs1 := HBS.out
    rw [if_neg h1] at hbs1
    have h1' : 1 < cap := by omega
    have HB1 := Lib.hid hbs1
    clear hbs1 HBS h1
    go_enter Tryd.func52, Tryd.ntmps52
    go_wp2_with fail
    refine (refhex_any _ t _ HB1.out).mono ?_
    rintro e w1 ⟨rfl, hw1⟩
    by_cases h0 : 0 ≤ hexv t
    · by_cases hs : sound (hexv t) = true
      · have he : Hid (escape (117 :: t) = (hexv t, 5)) := Lib.hid (by rw [HE.out, if_pos ⟨h0, hs⟩])
        go_wp2_with fail
        refine (valid_any _ _).mono ?_
        rintro e w2 ⟨rfl, rfl⟩
        go_wp2_with fail
        go_ret2
        exact FIN.out _ _ _ _ he.out rfl rfl hw1
      · have he : Hid (escape (117 :: t) = _) := Lib.hid (by rw [HE.out, if_neg (fun h => hs h.2)])
        have hs' : sound (hexv t) = false := by simpa using hs
        have hns := hs
        rw [sound_iff] at hns
        have hlo : 55296 ≤ hexv t := by omega
        have hhi : hexv t ≤ 57343 := by omega
        clear hs hns
        go_wp2_with fail
        refine (valid_any _ _).mono ?_
        rintro e w2 ⟨rfl, rfl⟩
        by_cases hv : 56319 < hexv t
        · have he2 : Hid (escape (117 :: t) = (0, 0)) := Lib.hid (by rw [he.out, if_pos (.inr (.inl hv))])
          go_wp2_with fail
          go_ret2
          exact FIN.out _ _ _ _ he2.out rfl rfl hw1
        · by_cases hl : t.length < 10
          · have he2 : Hid (escape (117 :: t) = (0, 0)) := Lib.hid (by rw [he.out, if_pos (.inr (.inr (.inl hl)))])
            have hd : decide ((t.length : Int) + 1 < 11) = true := by simp; omega
            go_wp2_with fail
            go_ret2
            exact FIN.out _ _ _ _ he2.out rfl rfl hw1
          · have hd : decide ((t.length : Int) + 1 < 11) = false := by simp; omega
            have hx5 : Hid (Bytes w1 (.slice (some ⟨b, o + 5, none⟩) (t.length - 4) (cap - 5)) (t.drop 4)) := Lib.hid ((Bytes.mk (HAT.out.drop 5) (by simp) (by omega) (by omega) (by omega)).ext hw1)
            have hx6 : Hid (Bytes w1 (.slice (some ⟨b, o + 6, none⟩) (t.length - 5) (cap - 6)) (t.drop 5)) := Lib.hid ((Bytes.mk (HAT.out.drop 6) (by simp) (by omega) (by omega) (by omega)).ext hw1)
            have hx7 : Hid (Bytes w1 (.slice (some ⟨b, o + 7, none⟩) (t.length - 6) (cap - 7)) (t.drop 6)) := Lib.hid ((Bytes.mk (HAT.out.drop 7) (by simp) (by omega) (by omega) (by omega)).ext hw1)
            have h4 : 4 < t.length := by omega
            have h5 : 5 < t.length := by omega
            have g4 : t[4]? = some t[4] := by simp [h4]
            have g5 : t[5]? = some t[5] := by simp [h5]
            have hc5 := cell0_of hx5.out (List.drop_eq_getElem_cons h4)
            have hc6 := cell0_of hx6.out (List.drop_eq_getElem_cons h5)
            generalize t[4] = c5 at g4 hc5
            generalize t[5] = c6 at g5 hc6
            have G4 := Lib.hid g4
            have G5 := Lib.hid g5
            clear g4 g5
            by_cases hc5e : c5 = 92
            · subst hc5e
              by_cases hc6e : c6 = 117
              · subst hc6e
                have he2 : Hid (escape (117 :: t) = _) := Lib.hid (by rw [he.out, if_neg (by rw [G4.out, G5.out]; simp; omega)])
                have hbd2 := hexv_bd (t.drop 6)
                go_wp2_with fail
                refine (refhex_any _ (t.drop 6) _ hx7.out).mono ?_
                rintro e w3 ⟨rfl, hw3⟩
                have hE := ext_trans hw1 hw3
                by_cases hw0 : hexv (t.drop 6) < 56320
                · have he3 : Hid (escape (117 :: t) = (0, 0)) := Lib.hid (by rw [he2.out, if_pos (.inl hw0)])
                  go_wp2_with fail
                  go_ret2
                  exact FIN.out _ _ _ _ he3.out rfl rfl hE
                · by_cases hw9 : 57343 < hexv (t.drop 6)
                  · have he3 : Hid (escape (117 :: t) = (0, 0)) := Lib.hid (by rw [he2.out, if_pos (.inr hw9)])
                    go_wp2_with fail
                    go_ret2
                    exact FIN.out _ _ _ _ he3.out rfl rfl hE
                  · have he3 : Hid (escape (117 :: t) = _) := Lib.hid (by rw [he2.out, if_neg (by omega)])
                    go_wp2_with fail
                    go_ret2
                    exact FIN.out _ _ _ _ he3.out rfl rfl hE
              · have he2 : Hid (escape (117 :: t) = (0, 0)) := Lib.hid (by rw [he.out, if_pos (.inr (.inr (.inr (.inr (by rw [G5.out]; simpa using hc6e)))))])
                have hq : ((c6.toNat : Int) != 117) = true := by simp; intro e; exact hc6e (UInt8.toNat_inj.1 (by rw [show (117 : UInt8).toNat = 117 from rfl]; omega))
                go_wp2_with fail
                go_ret2
                exact FIN.out _ _ _ _ he2.out rfl rfl hw1
            · have he2 : Hid (escape (117 :: t) = (0, 0)) := Lib.hid (by rw [he.out, if_pos (.inr (.inr (.inr (.inl (by rw [G4.out]; simpa using hc5e)))))])
              have hq : ((c5.toNat : Int) != 92) = true := by simp; intro e; exact hc5e (UInt8.toNat_inj.1 (by rw [show (92 : UInt8).toNat = 92 from rfl]; omega))
              go_wp2_with fail
              go_ret2
              exact FIN.out _ _ _ _ he2.out rfl rfl hw1
    · have he : Hid (escape (117 :: t) = (0, 0)) := Lib.hid (by rw [HE.out, if_neg (fun h => h0 h.1), if_pos (by omega)])
      go_wp2_with fail
      go_ret2
      exact FIN.out _ _ _ _ he.out rfl rfl hw1

set_option maxHeartbeats 3200000 in
set_option maxRecDepth 100000 in
theorem refescape_any (v : Value) (xs : List UInt8) (w : World) (hx : Bytes w v xs) :
    Calls Tryd.prog 52 #[v] w fun e w' => e = .returned (.tuple #[.int .i32 (escape xs).1, .int .i64 (escape xs).2]) ∧ Ext w w' := by
  rcases hx.cases with ⟨rfl, a, cap, rfl, _⟩ | ⟨c, t, b, o, cap, rfl, rfl, hcap, hcm, hlm, hbl, hc0, hc, hat⟩
  · go_enter Tryd.func52, Tryd.ntmps52
    go_wp2_with fail
    go_ret2
    exact ⟨rfl, ext_refl w⟩
  · have hc8 : c.toNat < 256 := c.toNat_lt
    have HC := Lib.hid hc
    have HX := Lib.hid hx
    have HAT := Lib.hid hat
    clear hc hx hat
    by_cases h34 : c.toNat = 34
    · have hcc : c = 34 := UInt8.toNat_inj.1 h34
      have he : Hid (escape (c :: t) = (34, 1)) := Lib.hid (by rw [esc_one c t (.inl hcc), h34]; rfl)
      clear hcc
      go_enter Tryd.func52, Tryd.ntmps52
      go_wp2_with fail
      go_ret2
      exact ⟨by rw [he.out]; first | rfl | simp, ext_refl w⟩
    · have g34 : c ≠ 34 := fun e => h34 (by rw [e]; rfl)
      have q34 : ((c.toNat : Int) == 34) = false := by simp; omega
      by_cases h47 : c.toNat = 47
      · have hcc : c = 47 := UInt8.toNat_inj.1 h47
        have he : Hid (escape (c :: t) = (47, 1)) := Lib.hid (by rw [esc_one c t (.inr (.inl hcc)), h47]; rfl)
        clear hcc
        go_enter Tryd.func52, Tryd.ntmps52
        go_wp2_with fail
        go_ret2
        exact ⟨by rw [he.out]; first | rfl | simp, ext_refl w⟩
      · have g47 : c ≠ 47 := fun e => h47 (by rw [e]; rfl)
        have q47 : ((c.toNat : Int) == 47) = false := by simp; omega
        by_cases h92 : c.toNat = 92
        · have hcc : c = 92 := UInt8.toNat_inj.1 h92
          have he : Hid (escape (c :: t) = (92, 1)) := Lib.hid (by rw [esc_one c t (.inr (.inr hcc)), h92]; rfl)
          clear hcc
          go_enter Tryd.func52, Tryd.ntmps52
          go_wp2_with fail
          go_ret2
          exact ⟨by rw [he.out]; first | rfl | simp, ext_refl w⟩
        · have g92 : c ≠ 92 := fun e => h92 (by rw [e]; rfl)
          have q92 : ((c.toNat : Int) == 92) = false := by simp; omega
          by_cases h98 : c.toNat = 98
          · have hcc : c = 98 := UInt8.toNat_inj.1 h98
            have he : Hid (escape (c :: t) = (8, 1)) := Lib.hid (by exact esc_named c t _ (.inl ⟨hcc, rfl⟩))
            clear hcc
            go_enter Tryd.func52, Tryd.ntmps52
            go_wp2_with fail
            go_ret2
            exact ⟨by rw [he.out]; first | rfl | simp, ext_refl w⟩
          · have g98 : c ≠ 98 := fun e => h98 (by rw [e]; rfl)
            have q98 : ((c.toNat : Int) == 98) = false := by simp; omega
            by_cases h116 : c.toNat = 116
            · have hcc : c = 116 := UInt8.toNat_inj.1 h116
              have he : Hid (escape (c :: t) = (9, 1)) := Lib.hid (by exact esc_named c t _ (.inr (.inl ⟨hcc, rfl⟩)))
              clear hcc
              go_enter Tryd.func52, Tryd.ntmps52
              go_wp2_with fail
              go_ret2
              exact ⟨by rw [he.out]; first | rfl | simp, ext_refl w⟩
            · have g116 : c ≠ 116 := fun e => h116 (by rw [e]; rfl)
              have q116 : ((c.toNat : Int) == 116) = false := by simp; omega
              by_cases h110 : c.toNat = 110
              · have hcc : c = 110 := UInt8.toNat_inj.1 h110
                have he : Hid (escape (c :: t) = (10, 1)) := Lib.hid (by exact esc_named c t _ (.inr (.inr (.inl ⟨hcc, rfl⟩))))
                clear hcc
                go_enter Tryd.func52, Tryd.ntmps52
                go_wp2_with fail
                go_ret2
                exact ⟨by rw [he.out]; first | rfl | simp, ext_refl w⟩
              · have g110 : c ≠ 110 := fun e => h110 (by rw [e]; rfl)
                have q110 : ((c.toNat : Int) == 110) = false := by simp; omega
                by_cases h102 : c.toNat = 102
                · have hcc : c = 102 := UInt8.toNat_inj.1 h102
                  have he : Hid (escape (c :: t) = (12, 1)) := Lib.hid (by exact esc_named c t _ (.inr (.inr (.inr (.inl ⟨hcc, rfl⟩)))))
                  clear hcc
                  go_enter Tryd.func52, Tryd.ntmps52
                  go_wp2_with fail
                  go_ret2
                  exact ⟨by rw [he.out]; first | rfl | simp, ext_refl w⟩
                · have g102 : c ≠ 102 := fun e => h102 (by rw [e]; rfl)
                  have q102 : ((c.toNat : Int) == 102) = false := by simp; omega
                  by_cases h114 : c.toNat = 114
                  · have hcc : c = 114 := UInt8.toNat_inj.1 h114
                    have he : Hid (escape (c :: t) = (13, 1)) := Lib.hid (by exact esc_named c t _ (.inr (.inr (.inr (.inr (⟨hcc, rfl⟩))))))
                    clear hcc
                    go_enter Tryd.func52, Tryd.ntmps52
                    go_wp2_with fail
                    go_ret2
                    exact ⟨by rw [he.out]; first | rfl | simp, ext_refl w⟩
                  · have g114 : c ≠ 114 := fun e => h114 (by rw [e]; rfl)
                    have q114 : ((c.toNat : Int) == 114) = false := by simp; omega
                    have G : Hid (c ≠ 34 ∧ c ≠ 47 ∧ c ≠ 92 ∧ c ≠ 98 ∧ c ≠ 116 ∧ c ≠ 110 ∧ c ≠ 102 ∧ c ≠ 114) := Lib.hid ⟨g34, g47, g92, g98, g116, g110, g102, g114⟩
                    clear g34 g47 g92 g98 g116 g110 g102 g114
                    by_cases h117 : c.toNat = 117
                    · obtain rfl : c = 117 := UInt8.toNat_inj.1 h117
                      exact refescape_u b o cap t w hcap hcm hlm hbl hc0 HAT.out
                    · have g117 : c ≠ 117 := fun e => h117 (by rw [e]; rfl)
                      have q117 : ((c.toNat : Int) == 117) = false := by simp; omega
                      have he : Hid (escape (c :: t) = (0, 0)) := Lib.hid (by obtain ⟨g1, g2, g3, g4, g5, g6, g7, g8⟩ := G.out; exact esc_none c t g1 g2 g3 g4 g5 g6 g7 g8 g117)
                      clear g117
                      go_enter Tryd.func52, Tryd.ntmps52
                      go_wp2_with fail
                      go_ret2
                      exact ⟨by rw [he.out]; rfl, ext_refl w⟩
end Go.Proofs.YtglcpfnfldaimaaDoor
