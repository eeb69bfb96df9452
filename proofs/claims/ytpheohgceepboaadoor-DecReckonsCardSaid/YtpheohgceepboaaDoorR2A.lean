/- orangeryref02: what digit, run, small, Sane, form and told do. -/
import Derived.Test.YtpheohgceepboaaDoorDecB
import Derived.Test.YtpheohgceepboaaDoorDecC
import Derived.Test.YtpheohgceepboaaDoorStr
import Derived.Test.YtpheohgceepboaaDoorDecV
set_option linter.unusedVariables false
set_option linter.unusedSimpArgs false
set_option maxRecDepth 100000
namespace Go.Proofs.YtpheohgceepboaaDoor
open Go.RowKit Go.Mem Orange

theorem r2digit_any (c : UInt8) (w : World) :
    Calls Tryd.prog 60 #[.int .u8 c.toNat] w fun e w' => e = .returned (.bool (isDig c)) ∧ w = w' := by
  have hd : isDig c = (decide (48 ≤ c.toNat) && decide (c.toNat ≤ 57)) := rfl
  have HD := Lib.hid hd
  clear hd
  by_cases h1 : 48 ≤ c.toNat
  · go_enter Tryd.func60, Tryd.ntmps60
    go_wp2_with fail
    go_ret
    exact ⟨ret_bool (by rw [HD.out]; simp [h1]; try omega), rfl⟩
  · go_enter Tryd.func60, Tryd.ntmps60
    go_wp2_with fail
    go_ret
    exact ⟨ret_bool (by rw [HD.out]; simp [h1]; try omega), rfl⟩

theorem trimL0_cons (c : UInt8) (t : List UInt8) : trimL0 (c :: t) = if c = 48 then trimL0 t else c :: t := by
  unfold trimL0; rw [List.dropWhile_cons]
  by_cases h : c = 48 <;> simp [h]
theorem trimR0_snoc (t : List UInt8) (c : UInt8) : trimR0 (t ++ [c]) = if c = 48 then trimR0 t else t ++ [c] := by
  unfold trimR0; rw [List.reverse_append, List.reverse_singleton, List.singleton_append, List.dropWhile_cons]
  by_cases h : c = 48 <;> simp [h]
theorem trimL0_nil : trimL0 [] = [] := rfl
theorem trimR0_nil : trimR0 [] = [] := rfl
def formG (neg : Bool) (x : Int) (G : List UInt8) : Num := if trimR0 G = [] then Num.zero else ⟨neg, trimR0 G, x + G.length - (trimR0 G).length⟩
set_option maxHeartbeats 1600000 in
theorem r2form_any (neg : Bool) (l : List UInt8) (x : Int) (w : World) (hl : l.length ≤ 1000000) (hx1 : -1000000000 ≤ x) (hx2 : x ≤ 1000000000) :
    Calls Tryd.prog 41 #[.bool neg, .string ⟨l.toArray⟩, .int .i64 x] w fun e w' => e = .returned (.agg #[.bool (formR neg l x).neg, .string ⟨(formR neg l x).digits.toArray⟩, .int .i64 (formR neg l x).exp]) ∧ Ext w w' := by
  have hn0 := NumAt.new w Num.zero
  have hE : Ext w (w.alloc (.cells #[.bool false, .string ⟨#[]⟩, .int .i64 0] 25)) := (ext_refl w).alloc (Nat.le_refl _) _
  go_enter Tryd.func41, Tryd.ntmps41
  go_wp2_with fail
  simp only [Num.zero] at hn0
  generalize w.alloc (.cells #[.bool false, .string ⟨#[]⟩, .int .i64 0] 25) = w1 at *
  have HE := Lib.hid hE
  have HN := Lib.hid hn0
  clear hE hn0
  go_loop [1] (fun sv => ∃ m : List UInt8, sv = .string ⟨m.toArray⟩ ∧ trimL0 l = trimL0 m ∧ m.length ≤ l.length) (fun sv => slen sv)
  case atStart => exact ⟨l, rfl, rfl, Nat.le_refl _⟩
  case round =>
    obtain ⟨m, rfl, hm, hml⟩ := hrel
    cases m with
    | nil =>
      have HG : Hid (trimL0 l = []) := Lib.hid hm
      clear hm
      go_wp2_with fail
      -- behind the first loop: HG : Hid (trimL0 l = ([] : List UInt8))
      have HF : Hid (formR neg l x = formG neg x (([] : List UInt8))) := Lib.hid (by unfold formR shortR formG; rw [HG.out])
      obtain ⟨G, hG⟩ : ∃ G, (([] : List UInt8)) = G := ⟨_, rfl⟩
      have hGl : G.length ≤ l.length := by rw [← hG]; exact hml
      rw [hG] at HF
      clear HG
      go_loop [1, 2] (fun sv xv => ∃ (n : List UInt8) (y : Int), sv = .string ⟨n.toArray⟩ ∧ xv = .int .i64 y ∧ trimR0 G = trimR0 n ∧ n.length ≤ G.length ∧ y + n.length = x + G.length) (fun sv _ => slen sv)
      case atStart => exact ⟨G, x, by rw [← hG], rfl, rfl, Nat.le_refl _, rfl⟩
      case round =>
        obtain ⟨n, y, rfl, rfl, hn, hnl, hy⟩ := hrel
        rcases snoc_cases n with rfl | ⟨v, d, hv, hvl, hgd, hex⟩
        · have HN2 : Hid (formR neg l x = Num.zero) := Lib.hid (by rw [HF.out, formG, if_pos (by rw [hn]; rfl)])
          clear hn hG
          obtain ⟨c0, c1, c2, f0, f1, f2, hp⟩ := HN.out.cells
          go_wp2_with fail
          have hN := (HN.out.store Num.zero).cells
          simp only [Num.zero] at hN
          obtain ⟨d0, d1, d2, _⟩ := hN
          exact bodyPost_ret (v := .agg #[.bool false, .string ⟨#[]⟩, .int .i64 0]) (by simp [results, Tryd.results41, go_sem, d0, d1, d2]) rfl ⟨by rw [HN2.out]; rfl, below_store HE.out (Nat.le_refl _) _ _ _⟩
        · have hm2 := trimR0_snoc v d
          rw [← hv] at hm2
          by_cases hd : d = 48
          · have hd2 : ((d.toNat : Int) == 48) = true := by rw [hd]; rfl
            have HY : Hid (y + 1 + v.length = x + G.length) := Lib.hid (by omega)
            have hyb : y ≤ 100000000000 := by omega
            have hyc : -100000000000 ≤ y := by omega
            have HH : Hid (trimR0 G = trimR0 v) := Lib.hid (by rw [hn, hm2, if_pos hd])
            have hvb : v.length < 1000000 := by omega
            have HVL : Hid (v.length ≤ G.length) := Lib.hid (by omega)
            have HNL := Lib.hid (sx_size n)
            clear hd hm2 hn hy hG hnl hv
            go_wp2_with fail
            go_round
            case rel => exact ⟨v, y + 1, rfl, by go_num, HH.out, HVL.out, HY.out⟩
            case measure => simp only [slen]; rw [HNL.out, sx_size, hvl]; omega
          · have hd2 : ((d.toNat : Int) == 48) = false := by
              have : ¬ d.toNat = 48 := fun e => hd (UInt8.toNat_inj.1 e)
              simp; omega
            have HH : Hid (formR neg l x = ⟨neg, n, y⟩) := Lib.hid (by
              rw [HF.out, formG, hn, hm2, if_neg hd, if_neg (by rw [hv]; simp)]
              congr 1
              omega)
            have hemp : n.isEmpty = false := by rw [hv]; simp
            have hvb : v.length < 1000000 := by omega
            obtain ⟨c0, c1, c2, f0, f1, f2, hp⟩ := HN.out.cells
            clear hd hm2 hn hG hy hex hv
            go_wp2_with fail
            have hN := (HN.out.store ⟨neg, n, y⟩).cells
            simp only at hN
            obtain ⟨d0, d1, d2, _⟩ := hN
            exact bodyPost_ret (v := .agg #[.bool neg, .string ⟨n.toArray⟩, .int .i64 y]) (by simp [results, Tryd.results41, go_sem, d0, d1, d2]) rfl ⟨by rw [HH.out], below_store HE.out (Nat.le_refl _) _ _ _⟩
    | cons c u =>
      have hg := get0 c u
      have hd := drop1 c u (u.length + 1) rfl
      have hm2 := trimL0_cons c u
      have hsz := sx_size (c :: u)
      by_cases hc : c = 48
      · have hc2 : ((c.toNat : Int) == 48) = true := by rw [hc]; rfl
        have HH : Hid (trimL0 l = trimL0 u) := Lib.hid (by rw [hm, hm2, if_pos hc])
        have hul : u.length + 1 ≤ l.length := by simpa using hml
        clear hm hm2 hc hml
        have HSZ := Lib.hid hsz
        clear hsz
        go_wp2_with fail
        go_round
        case rel => exact ⟨u, rfl, HH.out, by omega⟩
        case measure => simp only [slen]; rw [HSZ.out, sx_size]; simp
      · have hc2 : ((c.toNat : Int) == 48) = false := by
          have : ¬ c.toNat = 48 := fun e => hc (UInt8.toNat_inj.1 e)
          simp; omega
        have HG : Hid (trimL0 l = c :: u) := Lib.hid (by rw [hm, hm2, if_neg hc])
        clear hm hm2 hc hsz
        go_wp2_with fail
        -- behind the first loop: HG : Hid (trimL0 l = c :: u)
        have HF : Hid (formR neg l x = formG neg x (c :: u)) := Lib.hid (by unfold formR shortR formG; rw [HG.out])
        obtain ⟨G, hG⟩ : ∃ G, (c :: u) = G := ⟨_, rfl⟩
        have hGl : G.length ≤ l.length := by rw [← hG]; exact hml
        rw [hG] at HF
        clear HG
        go_loop [1, 2] (fun sv xv => ∃ (n : List UInt8) (y : Int), sv = .string ⟨n.toArray⟩ ∧ xv = .int .i64 y ∧ trimR0 G = trimR0 n ∧ n.length ≤ G.length ∧ y + n.length = x + G.length) (fun sv _ => slen sv)
        case atStart => exact ⟨G, x, by rw [← hG], rfl, rfl, Nat.le_refl _, rfl⟩
        case round =>
          obtain ⟨n, y, rfl, rfl, hn, hnl, hy⟩ := hrel
          rcases snoc_cases n with rfl | ⟨v, d, hv, hvl, hgd, hex⟩
          · have HN2 : Hid (formR neg l x = Num.zero) := Lib.hid (by rw [HF.out, formG, if_pos (by rw [hn]; rfl)])
            clear hn hG
            obtain ⟨c0, c1, c2, f0, f1, f2, hp⟩ := HN.out.cells
            go_wp2_with fail
            have hN := (HN.out.store Num.zero).cells
            simp only [Num.zero] at hN
            obtain ⟨d0, d1, d2, _⟩ := hN
            exact bodyPost_ret (v := .agg #[.bool false, .string ⟨#[]⟩, .int .i64 0]) (by simp [results, Tryd.results41, go_sem, d0, d1, d2]) rfl ⟨by rw [HN2.out]; rfl, below_store HE.out (Nat.le_refl _) _ _ _⟩
          · have hm2 := trimR0_snoc v d
            rw [← hv] at hm2
            by_cases hd : d = 48
            · have hd2 : ((d.toNat : Int) == 48) = true := by rw [hd]; rfl
              have HY : Hid (y + 1 + v.length = x + G.length) := Lib.hid (by omega)
              have hyb : y ≤ 100000000000 := by omega
              have hyc : -100000000000 ≤ y := by omega
              have HH : Hid (trimR0 G = trimR0 v) := Lib.hid (by rw [hn, hm2, if_pos hd])
              have hvb : v.length < 1000000 := by omega
              have HVL : Hid (v.length ≤ G.length) := Lib.hid (by omega)
              have HNL := Lib.hid (sx_size n)
              clear hd hm2 hn hy hG hnl hv
              go_wp2_with fail
              go_round
              case rel => exact ⟨v, y + 1, rfl, by go_num, HH.out, HVL.out, HY.out⟩
              case measure => simp only [slen]; rw [HNL.out, sx_size, hvl]; omega
            · have hd2 : ((d.toNat : Int) == 48) = false := by
                have : ¬ d.toNat = 48 := fun e => hd (UInt8.toNat_inj.1 e)
                simp; omega
              have HH : Hid (formR neg l x = ⟨neg, n, y⟩) := Lib.hid (by
                rw [HF.out, formG, hn, hm2, if_neg hd, if_neg (by rw [hv]; simp)]
                congr 1
                omega)
              have hemp : n.isEmpty = false := by rw [hv]; simp
              have hvb : v.length < 1000000 := by omega
              obtain ⟨c0, c1, c2, f0, f1, f2, hp⟩ := HN.out.cells
              clear hd hm2 hn hG hy hex hv
              go_wp2_with fail
              have hN := (HN.out.store ⟨neg, n, y⟩).cells
              simp only at hN
              obtain ⟨d0, d1, d2, _⟩ := hN
              exact bodyPost_ret (v := .agg #[.bool neg, .string ⟨n.toArray⟩, .int .i64 y]) (by simp [results, Tryd.results41, go_sem, d0, d1, d2]) rfl ⟨by rw [HH.out], below_store HE.out (Nat.le_refl _) _ _ _⟩
theorem sane_cons (neg : Bool) (c : UInt8) (t : List UInt8) (x : Int) (z : UInt8) (hz : (c :: t).getLast? = some z) : sane ⟨neg, c :: t, x⟩ = ((c :: t).all isDig && decide (t.length + 1 ≤ 40) && decide (-400 ≤ (t.length : Int) + 1 + x) && decide ((t.length : Int) + 1 + x ≤ 400) && decide (c ≠ 48) && decide (z ≠ 48)) := by
  have hlen : (c :: t).length = t.length + 1 := rfl
  have e1 : (some c != some (48 : UInt8)) = decide (c ≠ 48) := by rw [Bool.eq_iff_iff]; simp
  have e2 : (some z != some (48 : UInt8)) = decide (z ≠ 48) := by rw [Bool.eq_iff_iff]; simp
  simp only [sane, hlen, height]
  rw [if_neg (by omega), hz, List.head?_cons, e1, e2]
  by_cases h1 : (c :: t).all isDig = true
  · rw [h1]
    by_cases h2 : t.length + 1 ≤ 40
    · rw [if_neg (by simp; omega)]
      by_cases h3 : x < -800 ∨ 800 < x
      · rw [if_pos (by simpa using h3)]
        rw [eq_comm, Bool.eq_false_iff]
        simp; omega
      · rw [if_neg (by simpa using h3)]
        simp [h2]
    · rw [if_pos (by simp; omega)]; simp; omega
  · have h1' : (c :: t).all isDig = false := by simpa using h1
    rw [h1', if_pos (by simp)]; simp
set_option maxHeartbeats 1600000 in
theorem r2sane_any (d : Num) (w : World) (hl : d.digits.length ≤ 140737488355328) :
    Calls Tryd.prog 37 #[.agg #[.bool d.neg, .string ⟨d.digits.toArray⟩, .int .i64 d.exp]] w fun e w' => e = .returned (.bool (sane d)) ∧ Ext w w' := by
  obtain ⟨neg, l, x⟩ := d
  have hE : Ext w (w.alloc (.cells #[.bool neg, .string ⟨l.toArray⟩, .int .i64 x] 25)) := (ext_refl w).alloc (Nat.le_refl _) _
  cases l with
  | nil =>
    cases neg with
    | true =>
      go_enter Tryd.func37, Tryd.ntmps37
      go_wp2_with fail
      go_ret
      exact ⟨rfl, hE⟩
    | false =>
      by_cases hx : x = 0
      · subst hx
        go_enter Tryd.func37, Tryd.ntmps37
        go_wp2_with fail
        go_ret
        exact ⟨rfl, hE⟩
      · have hx0 : (x == 0) = false := by simpa using hx
        have hs : Hid (sane ⟨false, [], x⟩ = false) := Lib.hid (by simp [sane, hx])
        clear hx
        go_enter Tryd.func37, Tryd.ntmps37
        go_wp2_with fail
        go_ret
        exact ⟨ret_bool hs.out.symm, hE⟩
  | cons c t =>
    obtain ⟨z, hz⟩ : ∃ z, (c :: t).getLast? = some z := by cases h : (c :: t).getLast? with | none => simp at h | some z => exact ⟨z, rfl⟩
    have HS := Lib.hid (sane_cons neg c t x z hz)
    have hz2 : ∀ h, (ByteArray.mk (c :: t).toArray)[t.length]'h = z := fun h => by
      rw [List.getLast?_eq_getElem?] at hz
      simp only [List.length_cons, Nat.add_sub_cancel] at hz
      have h2 := sx_get (c :: t) t.length (by simp)
      rw [List.getElem?_eq_getElem (by simp)] at hz
      rw [h2]; simpa using hz
    have h0 : ∀ h, (ByteArray.mk (c :: t).toArray)[0]'h = c := fun _ => rfl
    have hlc : (c :: t).length = t.length + 1 := rfl
    have hl1 : t.length < 140737488355328 := by simp at hl; omega
    have hne : (((t.length : Int) + 1) == 0) = false := by simp; omega
    clear hz hl
    generalize c :: t = L at *
    have hblk := heap_alloc_new w (.cells #[.bool neg, .string ⟨L.toArray⟩, .int .i64 x] 25)
    go_enter Tryd.func37, Tryd.ntmps37
    go_wp2_with fail
    generalize w.alloc (.cells #[.bool neg, .string ⟨L.toArray⟩, .int .i64 x] 25) = w0 at *
    have HB := Lib.hid hblk
    have c1 : w0.cell? ⟨w.heap.size, 1, none⟩ = some (.string ⟨L.toArray⟩) := by rw [cell_of_cells hblk]; rfl
    have c2 : w0.cell? ⟨w.heap.size, 2, none⟩ = some (.int .i64 x) := by rw [cell_of_cells hblk]; rfl
    clear hblk
    go_loop [4] (fun kv => ∃ k : Nat, kv = .int .i64 k ∧ k ≤ t.length + 1 ∧ ∀ i, (h : i < L.length) → i < k → isDig L[i] = true) (fun kv => t.length + 1 - (intOf kv).toNat)
    case atStart => exact ⟨0, rfl, by omega, fun i _ h => by omega⟩
    case round =>
      obtain ⟨k, rfl, hk, hall⟩ := hrel
      have HA := Lib.hid hall
      clear hall
      by_cases hlt : k < t.length + 1
      · have hkl : k < L.length := by omega
        have hg := sx_get L k hkl
        have HN : Hid (isDig L[k] = true → ∀ i, (h : i < L.length) → i < k + 1 → isDig L[i] = true) := Lib.hid (fun hd i h hi => by
          by_cases e : i = k
          · subst e; exact hd
          · exact HA.out i h (by omega))
        have HF : Hid (isDig L[k] = false → sane ⟨neg, L, x⟩ = false) := Lib.hid (fun hd => by
          have : L.all isDig = false := by
            rw [Bool.eq_false_iff]; intro h
            have := List.all_eq_true.1 h _ (List.getElem_mem hkl)
            rw [hd] at this; cases this
          rw [HS.out, this]; simp)
        generalize L[k] = d at *
        go_wp2_with fail
        refine (r2digit_any d _).mono ?_
        rintro e w1 ⟨rfl, rfl⟩
        cases hd : isDig d with
        | true =>
          go_wp2_with fail
          go_round
          case rel => exact ⟨k + 1, by go_num, by omega, HN.out hd⟩
          case measure => simp [intOf]; omega
        | false =>
          have HS2 := Lib.hid (HF.out hd)
          go_wp2_with fail
          go_ret
          exact ⟨ret_bool HS2.out.symm, hE⟩
      · obtain rfl : k = t.length + 1 := by omega
        have hal : L.all isDig = true := by
          rw [List.all_eq_true]; intro y hy
          obtain ⟨i, hi, rfl⟩ := List.getElem_of_mem hy
          exact HA.out i hi (by omega)
        have HS2 := HS.out
        rw [hal, Bool.true_and] at HS2
        have hs := Lib.hid HS2
        clear HS2 HS HA hal hk hlt
        by_cases h40 : t.length + 1 ≤ 40
        · by_cases h1 : -1000 ≤ x
          · by_cases h2 : x ≤ 1000
            · by_cases h3 : -400 ≤ (t.length : Int) + 1 + x
              · by_cases h4 : (t.length : Int) + 1 + x ≤ 400
                · by_cases h5 : c = 48
                  · have h5n : c.toNat = 48 := by rw [h5]; rfl
                    have H5 := Lib.hid h5
                    clear h5
                    (go_wp2_with fail
                     go_ret
                     exact ⟨ret_bool (by rw [hs.out]; symm; rw [Bool.eq_false_iff]; (try rw [H5.out]); simp; try omega), hE⟩)
                  · have h5n : ((c.toNat : Int) != 48) = true := by
                      have : ¬ c.toNat = 48 := fun e => h5 (UInt8.toNat_inj.1 e)
                      simp; omega
                    have H5 := Lib.hid h5
                    clear h5
                    go_wp2_with fail
                    go_ret
                    refine ⟨ret_bool ?_, hE⟩
                    rw [hs.out]
                    have e1 : ((z.toNat : Int) != 48) = decide (z ≠ 48) := by
                      rw [Bool.eq_iff_iff]; simp [← UInt8.toNat_inj]; omega
                    rw [e1]
                    simp [h40, h3, h4, H5.out]
                · (go_wp2_with fail
                   go_ret
                   exact ⟨ret_bool (by rw [hs.out]; symm; rw [Bool.eq_false_iff]; (try rw [H5.out]); simp; try omega), hE⟩)
              · (go_wp2_with fail
                 go_ret
                 exact ⟨ret_bool (by rw [hs.out]; symm; rw [Bool.eq_false_iff]; (try rw [H5.out]); simp; try omega), hE⟩)
            · (go_wp2_with fail
               go_ret
               exact ⟨ret_bool (by rw [hs.out]; symm; rw [Bool.eq_false_iff]; (try rw [H5.out]); simp; try omega), hE⟩)
          · (go_wp2_with fail
             go_ret
             exact ⟨ret_bool (by rw [hs.out]; symm; rw [Bool.eq_false_iff]; (try rw [H5.out]); simp; try omega), hE⟩)
        · (go_wp2_with fail
           go_ret
           exact ⟨ret_bool (by rw [hs.out]; symm; rw [Bool.eq_false_iff]; (try rw [H5.out]); simp; try omega), hE⟩)
set_option maxHeartbeats 800000 in
theorem r2told_any (d : Num) (w : World) (hl : d.digits.length ≤ 140737488355328) :
    Calls Tryd.prog 40 #[.agg #[.bool d.neg, .string ⟨d.digits.toArray⟩, .int .i64 d.exp]] w fun e w' => e = .returned (.tuple #[.agg #[.bool (toldP d).1.neg, .string ⟨(toldP d).1.digits.toArray⟩, .int .i64 (toldP d).1.exp], .int .i64 (toldP d).2]) ∧ Ext w w' := by
  have hm0 := NumAt.new w d
  have hE0 : Ext w (w.alloc (.cells #[.bool d.neg, .string ⟨d.digits.toArray⟩, .int .i64 d.exp] 25)) := (ext_refl w).alloc (Nat.le_refl _) _
  have hm1 := NumAt.new (w.alloc (.cells #[.bool d.neg, .string ⟨d.digits.toArray⟩, .int .i64 d.exp] 25)) Num.zero
  have hE1 : Ext (w.alloc (.cells #[.bool d.neg, .string ⟨d.digits.toArray⟩, .int .i64 d.exp] 25)) ((w.alloc (.cells #[.bool d.neg, .string ⟨d.digits.toArray⟩, .int .i64 d.exp] 25)).alloc (.cells #[.bool false, .string ⟨#[]⟩, .int .i64 0] 25)) := (ext_refl _).alloc (Nat.le_refl _) _
  have hs : (w.alloc (.cells #[.bool d.neg, .string ⟨d.digits.toArray⟩, .int .i64 d.exp] 25)).heap.size = w.heap.size + 1 := by simp
  simp only [Num.zero] at hm1
  have hm2 := hm0.ext hE1
  rw [hs] at hm1
  have hE := ext_trans hE0 hE1
  clear hE0 hE1 hm0 hs
  go_enter Tryd.func40, Tryd.ntmps40
  go_wp2_with fail
  generalize (w.alloc (.cells #[.bool d.neg, .string ⟨d.digits.toArray⟩, .int .i64 d.exp] 25)).alloc (.cells #[.bool false, .string ⟨#[]⟩, .int .i64 0] 25) = w1 at *
  refine (r2sane_any d _ hl).mono ?_
  rintro e w2 ⟨rfl, hw2⟩
  have hm3 := (hm2.ext hw2).cells
  have hm4 := hm1.ext hw2
  obtain ⟨c0, c1, c2, f0, f1, f2, hp⟩ := hm3
  obtain ⟨d0, d1, d2, g0, g1, g2, hq⟩ := hm4.cells
  have hE2 := ext_trans hE hw2
  have HM := Lib.hid hm4
  clear hE hw2 hm1 hm2 hm4
  cases hs : sane d with
  | true =>
    have HT : Hid (toldP d = (d, 0)) := Lib.hid (by rw [toldP, if_pos hs])
    go_wp2_with fail
    have hN := (HM.out.store d).cells
    obtain ⟨d0, d1, d2, _⟩ := hN
    exact bodyPost_ret (v := .tuple #[.agg #[.bool d.neg, .string ⟨d.digits.toArray⟩, .int .i64 d.exp], .int .i64 0]) (by simp [results, Tryd.results40, go_sem, d0, d1, d2]) rfl ⟨by rw [HT.out], below_store hE2 (by omega) _ _ _⟩
  | false =>
    have HT : Hid (toldP d = (Num.zero, 4)) := Lib.hid (by rw [toldP, if_neg (by rw [hs]; decide)])
    go_wp2_with fail
    have hN := (HM.out.store Num.zero).cells
    simp only [Num.zero] at hN
    obtain ⟨d0, d1, d2, _⟩ := hN
    exact bodyPost_ret (v := .tuple #[.agg #[.bool false, .string ⟨#[]⟩, .int .i64 0], .int .i64 4]) (by simp [results, Tryd.results40, go_sem, d0, d1, d2]) rfl ⟨by rw [HT.out]; rfl, below_store hE2 (by omega) _ _ _⟩
end Go.Proofs.YtpheohgceepboaaDoor
