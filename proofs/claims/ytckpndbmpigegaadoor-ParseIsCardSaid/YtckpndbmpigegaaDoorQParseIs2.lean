/- Several texts of this proof in one. -/
import Derived.Test.YtckpndbmpigegaaDoorQParseIs1
import Derived.Test.YtckpndbmpigegaaDoorDecP
import Derived.Deep.DeepCutAuto
import Derived.Test.YtckpndbmpigegaaDoorUtfM
import Derived.IntWalk
import Derived.Test.YtckpndbmpigegaaDoorConv
import Derived.Test.YtckpndbmpigegaaDoorWEscA
import Derived.Test.YtckpndbmpigegaaDoorWEscB
import Derived.Test.YtckpndbmpigegaaDoorGrowS
section
/- orangeryref02: what Parse does. -/
set_option linter.unusedVariables false
set_option linter.unusedSimpArgs false
set_option maxRecDepth 100000
namespace Go.Proofs.YtckpndbmpigegaaDoor
open Go.RowKit Go.Mem Orange

theorem run_at (l : List UInt8) (k : Nat) (h : k < l.length) : ((l.drop k).takeWhile isDig).length = if isDig l[k] then ((l.drop (k + 1)).takeWhile isDig).length + 1 else 0 := by
  rw [List.drop_eq_getElem_cons h, List.takeWhile_cons]
  split <;> simp
set_option maxHeartbeats 800000 in
theorem r2run_any (l : List UInt8) (w : World) (hl : l.length ≤ 1000000000) :
    Calls Tryd.prog 85 #[.string ⟨l.toArray⟩] w fun e w' => e = .returned (.int .i64 (l.takeWhile isDig).length) ∧ Ext w w' := by
  go_enter Tryd.func85, Tryd.ntmps85
  go_wp2_with fail
  go_loopw [3] (fun kv wr => ∃ k : Nat, kv = .int .i64 k ∧ k ≤ l.length ∧ Ext w wr ∧ (l.takeWhile isDig).length = k + ((l.drop k).takeWhile isDig).length) (fun kv _ => l.length - (intOf kv).toNat)
  case atStart => exact ⟨0, rfl, by omega, ext_refl w, by simp⟩
  case round =>
    obtain ⟨k, rfl, hk, hE, hr⟩ := hrel
    by_cases hlt : k < l.length
    · have hs := run_at l k hlt
      have hg := sx_get l k hlt
      generalize l[k] = c at *
      have HR := Lib.hid hr
      have HS := Lib.hid hs
      clear hr hs
      go_wp2_with fail
      refine (r2digit_any c _).mono ?_
      rintro e w1 ⟨rfl, rfl⟩
      cases hd : isDig c with
      | true =>
        go_wp2_with fail
        go_roundw
        case rel => exact ⟨k + 1, by go_num, by omega, hE, by rw [HR.out, HS.out, if_pos hd]; omega⟩
        case measure => simp [intOf]; omega
      | false =>
        go_wp2_with fail
        go_ret
        exact ⟨ret_int (by rw [HR.out, HS.out, if_neg (by rw [hd]; decide)]; rfl), hE⟩
    · obtain rfl : k = l.length := by omega
      have HR : Hid ((l.takeWhile isDig).length = l.length) := Lib.hid (by rw [hr]; simp)
      clear hr
      go_wp2_with fail
      go_ret
      exact ⟨ret_int (by rw [HR.out]), hE⟩
set_option maxHeartbeats 800000 in
theorem r2small_any (l : List UInt8) (w : World) (hl : l.length ≤ 1000000000) (hall : ∀ c ∈ l, isDig c = true) :
    Calls Tryd.prog 86 #[.string ⟨l.toArray⟩] w fun e w' => e = .returned (.int .i64 (small l 0)) ∧ Ext w w' := by
  have HA := Lib.hid hall
  clear hall
  go_enter Tryd.func86, Tryd.ntmps86
  go_wp2_with fail
  go_loopw [3, 4] (fun nv kv wr => ∃ (k : Nat) (n : Int), nv = .int .i64 n ∧ kv = .int .i64 k ∧ k ≤ l.length ∧ wr = w ∧ 0 ≤ n ∧ n ≤ 1000000 ∧ small l 0 = small (l.drop k) n) (fun _ kv _ => l.length - (intOf kv).toNat)
  case atStart => exact ⟨0, 0, rfl, rfl, by omega, by trivial, by omega, by omega, by simp⟩
  case round =>
    obtain ⟨k, n, rfl, rfl, hk, rfl, h0, h1, hr⟩ := hrel
    by_cases hlt : k < l.length
    · have hs := small_at l k n hlt
      have hg := sx_get l k hlt
      have hd := (isDig_iff _).1 (HA.out l[k] (List.getElem_mem hlt))
      generalize l[k] = c at *
      obtain ⟨hd1, hd2⟩ := hd
      have HR := Lib.hid hr
      have HS := Lib.hid hs
      clear hr hs
      go_wp2_with fail
      go_roundw
      case rel => exact ⟨k + 1, _, by first | rfl | go_num, by go_num, by omega, by trivial, by omega, by omega, by rw [HR.out, HS.out]⟩
      case measure => simp [intOf]; omega
    · obtain rfl : k = l.length := by omega
      have HR : Hid (small l 0 = n) := Lib.hid (by rw [hr, List.drop_length]; rfl)
      clear hr
      go_wp2_with fail
      go_ret
      exact ⟨ret_int (by rw [HR.out]), ext_refl _⟩
theorem isE_nots (c : UInt8) (h : isE c = false) : ((c.toNat : Int) == 101) = false ∧ ((c.toNat : Int) == 69) = false := by
  unfold isE at h; simp at h ⊢; omega
theorem isE_split (c : UInt8) (h : isE c = true) : ((c.toNat : Int) == 101) = true ∨ (((c.toNat : Int) == 101) = false ∧ ((c.toNat : Int) == 69) = true) := by
  unfold isE at h; simp at h ⊢; omega
-- an early end: an error of the form
set_option maxHeartbeats 6400000 in
theorem r2parse_any (l : List UInt8) (w : World) (hl : l.length ≤ 140737488355328) :
    Calls Tryd.prog 63 #[.string ⟨l.toArray⟩] w fun e w' => e = .returned (.tuple #[.agg #[.bool (decP l).1.neg, .string ⟨(decP l).1.digits.toArray⟩, .int .i64 (decP l).1.exp], .int .i64 (decP l).2]) ∧ Ext w w' := by
  have hn0 := NumAt.new w Num.zero
  have hw0 : Ext w (w.alloc (.cells #[.bool false, .string ⟨#[]⟩, .int .i64 0] 25)) := (ext_refl w).alloc (Nat.le_refl _) _
  simp only [Num.zero] at hn0
  by_cases h1000 : 1000 < l.length
  · have hP : decP l = (Num.zero, 4) := by rw [decP, if_pos h1000]
    have HP := Lib.hid hP
    clear hP
    obtain ⟨c0, c1, c2, f0, f1, f2, hp⟩ := hn0.cells
    go_enter Tryd.func63, Tryd.ntmps63
    go_wp2_with fail
    exact bodyPost_ret (v := .tuple #[.agg #[.bool false, .string ⟨#[]⟩, .int .i64 0], .int .i64 4]) (by simp [results, Tryd.results63, go_sem, c0, c1, c2]) rfl ⟨by rw [HP.out]; rfl, hw0⟩
  · have hP := Lib.hid (decP_mid l (by omega))
    have hd1000 : decide (1000 < (l.length : Int)) = false := by simp; omega
    go_enter Tryd.func63, Tryd.ntmps63
    go_upto_region 3 with fail
    generalize w.alloc (.cells #[.bool false, .string ⟨#[]⟩, .int .i64 0] 25) = w1 at *
    have HN := Lib.hid hn0
    clear hn0
    -- s != "" && s[0] == 45 ( in words of bytes), s = l : into slot 4
    go_cut [4] (fun s4 wx => s4 = .bool (decide ((l).head? = some 45)) ∧ w1 = wx)
    case first =>
      clear hP
      cases l with
      | nil =>
        go_wp2_with fail
        go_meet
        exact ⟨rfl, rfl⟩
      | cons c t =>
        have h0 : ∀ h, (ByteArray.mk (c :: t).toArray)[0]'h = c := fun _ => rfl
        by_cases hc : c = 45
        · have hq := b_eq c 45 45 rfl hc
          have HC := Lib.hid hc
          clear hc
          go_wp2_with fail
          go_meet
          exact ⟨by rw [HC.out]; rfl, rfl⟩
        · have hq := b_ne c 45 45 rfl hc
          have HC := Lib.hid hc
          clear hc
          go_wp2_with fail
          go_meet
          exact ⟨by have : decide ((c :: t).head? = some 45) = false := by simpa using HC.out
                    rw [this], rfl⟩
    case rest =>
      obtain ⟨rfl, rfl⟩ := hcut
      go_upto_if 21 with fail
      have hul : (if l.head? = some 45 then l.drop 1 else l).length ≤ 1000 := by split <;> (try simp) <;> omega
      have hP1 := hP.out
      obtain ⟨neg, hneg⟩ : ∃ b, decide (l.head? = some 45) = b := ⟨_, rfl⟩
      rw [hneg] at hP1 ⊢
      have HNEG := Lib.hid hneg
      clear hP hneg
      go_cut [0] (fun s0 wx => s0 = .string ⟨(if l.head? = some 45 then l.drop 1 else l).toArray⟩ ∧ w1 = wx)
      case first =>
        clear hP1 hul
        cases neg with
        | true =>
          obtain ⟨u, rfl⟩ : ∃ u, l = 45 :: u := by
            have hm := HNEG.out
            cases l with | nil => simp at hm | cons x u => exact ⟨u, by simp at hm; rw [hm]⟩
          have hd := drop1 45 u (u.length + 1) rfl
          go_wp2_with fail
          go_meet
          exact ⟨rfl, rfl⟩
        | false =>
          go_wp2_with fail
          go_meet
          exact ⟨by rw [if_neg (by have := HNEG.out; simpa using this)], rfl⟩
      case rest =>
        obtain ⟨rfl, rfl⟩ := hcut
        clear HNEG
        generalize (if l.head? = some 45 then l.drop 1 else l) = u at *
        have HP := Lib.hid hP1
        clear hP1 h1000 hd1000
        go_wp2_with fail
        refine (r2run_any u _ (by omega)).mono ?_
        rintro e w2 ⟨rfl, hw2⟩
        have hE := ext_trans hw0 hw2
        have HN2 := Lib.hid (HN.out.ext hw2)
        clear hw2 hw0 HN
        obtain ⟨W, hW⟩ : ∃ s, u.takeWhile isDig = s := ⟨_, rfl⟩
        obtain ⟨R, hR⟩ : ∃ s, u.dropWhile isDig = s := ⟨_, rfl⟩
        have hWl := run_le u
        have hRl := drop_le u
        have hx1 := sx_take u (u.takeWhile isDig).length
        rw [run_take] at hx1
        have hx2 := sx_drop u (u.takeWhile isDig).length u.length (Nat.le_refl _)
        rw [run_drop] at hx2
        have hM : midP neg u = if W = [] ∨ (1 < W.length ∧ u.head? = some 48) then (Num.zero, 2)
          else if R.head? = some 46 then
            (if (R.drop 1).takeWhile isDig = [] then (Num.zero, 2)
             else tailE neg (W ++ (R.drop 1).takeWhile isDig) (-(((R.drop 1).takeWhile isDig).length : Int)) ((R.drop 1).dropWhile isDig))
          else tailE neg W 0 R := by rw [← hW, ← hR]; rfl
        rw [hW] at hWl hx1 hx2 ⊢
        rw [hR] at hRl hx2
        have hWd : ∀ c ∈ W, isDig c = true := by rw [← hW]; exact take_all u
        have HP2 := Lib.hid (HP.out.trans hM)
        have HWD := Lib.hid hWd
        clear hM hWd HP hW hR
        go_upto_region 7 with fail
        go_cut [36] (fun s36 wx => s36 = .bool (decide (W = [] ∨ (1 < W.length ∧ u.head? = some 48))) ∧ w2 = wx)
        case first =>
          clear HP2
          cases W with
          | nil =>
            go_wp2_with fail
            go_meet
            exact ⟨rfl, rfl⟩
          | cons a W =>
            cases u with
            | nil => simp at hWl
            | cons c t =>
              have h0 : ∀ h, (ByteArray.mk (c :: t).toArray)[0]'h = c := fun _ => rfl
              have hne : (((W.length : Int) + 1) == 0) = false := by simp; omega
              by_cases h1 : 0 < W.length
              · by_cases hc : c = 48
                · have hq := b_eq c 48 48 rfl hc
                  have HC := Lib.hid hc
                  clear hc
                  go_wp2_with fail
                  go_meet
                  exact ⟨by rw [HC.out]; simp [h1], rfl⟩
                · have hq := b_ne c 48 48 rfl hc
                  have HC := Lib.hid hc
                  clear hc
                  go_wp2_with fail
                  go_meet
                  exact ⟨by have := HC.out; simp [this], rfl⟩
              · have h2 : W.length = 0 := by omega
                go_wp2_with fail
                go_meet
                exact ⟨by simp [h1, h2], rfl⟩
        case rest =>
          obtain ⟨rfl, rfl⟩ := hcut
          by_cases hz : W = [] ∨ (1 < W.length ∧ u.head? = some 48)
          · have HF : Hid (decP l = (Num.zero, 2)) := Lib.hid (by rw [HP2.out, if_pos hz])
            have hz2 : decide (W = [] ∨ (1 < W.length ∧ u.head? = some 48)) = true := by simpa using hz
            rw [hz2]
            clear HP2 hz hz2
            obtain ⟨c0, c1, c2, f0, f1, f2, hp⟩ := HN2.out.cells
            go_wp2_with fail
            have hN := (HN2.out.store Num.zero).cells
            simp only [Num.zero] at hN
            obtain ⟨d0, d1, d2, _⟩ := hN
            exact bodyPost_ret (v := .tuple #[.agg #[.bool false, .string ⟨#[]⟩, .int .i64 0], .int .i64 2]) (by simp [results, Tryd.results63, go_sem, d0, d1, d2]) rfl ⟨by rw [HF.out]; rfl, below_store hE (Nat.le_refl _) _ _ _⟩
          · have hz2 : decide (W = [] ∨ (1 < W.length ∧ u.head? = some 48)) = false := by simpa using hz
            have HP3 := Lib.hid (HP2.out.trans (if_neg hz))
            have HW0 : Hid (W ≠ []) := Lib.hid (fun e => hz (.inl e))
            rw [hz2]
            clear HP2 hz hz2
            go_upto_region 12 with fail
            go_cut [50] (fun s50 wx => s50 = .bool (decide (R.head? = some 46)) ∧ w2 = wx)
            case first =>
              clear HP3
              cases R with
              | nil =>
                go_wp2_with fail
                go_meet
                exact ⟨rfl, rfl⟩
              | cons c t =>
                have h0 : ∀ h, (ByteArray.mk (c :: t).toArray)[0]'h = c := fun _ => rfl
                by_cases hc : c = 46
                · have hq := b_eq c 46 46 rfl hc
                  have HC := Lib.hid hc
                  clear hc
                  go_wp2_with fail
                  go_meet
                  exact ⟨by rw [HC.out]; rfl, rfl⟩
                · have hq := b_ne c 46 46 rfl hc
                  have HC := Lib.hid hc
                  clear hc
                  go_wp2_with fail
                  go_meet
                  exact ⟨by have : decide ((c :: t).head? = some 46) = false := by simpa using HC.out
                            rw [this], rfl⟩
            case rest =>
              obtain ⟨rfl, rfl⟩ := hcut
              go_upto_if 50 with fail
              obtain ⟨pt, hpt⟩ : ∃ b, decide (R.head? = some 46) = b := ⟨_, rfl⟩
              rw [hpt]
              have HPT := Lib.hid hpt
              clear hpt
              go_cut [0, 5, 6, 7] (fun s0 s5 s6 s7 wx => ∃ (R2 all : List UInt8) (x n : Int), s0 = .string ⟨R2.toArray⟩ ∧ s5 = .int .i64 n ∧ s6 = .string ⟨all.toArray⟩ ∧ s7 = .int .i64 x ∧ Ext w wx ∧ NumAt wx w.heap.size Num.zero ∧ R2.length ≤ 1000 ∧ all.length ≤ 2000 ∧ -1000 ≤ x ∧ x ≤ 0 ∧ decP l = tailE neg all x R2)
              case first =>
                cases pt with
                | false =>
                  have HP4 := HP3.out
                  rw [if_neg (by have := HPT.out; simpa using this)] at HP4
                  have HP5 := Lib.hid HP4
                  clear HP4 HP3 HPT
                  go_wp2_with fail
                  go_meet
                  exact ⟨R, W, 0, _, rfl, rfl, rfl, rfl, hE, HN2.out, by omega, by omega, by omega, by omega, HP5.out⟩
                | true =>
                  have HP4 := HP3.out
                  have hR46 : R.head? = some 46 := by have := HPT.out; simpa using this
                  rw [if_pos hR46] at HP4
                  obtain ⟨B, rfl⟩ : ∃ B, R = 46 :: B := by cases R with | nil => simp at hR46 | cons x B => exact ⟨B, by simp at hR46; rw [hR46]⟩
                  simp only [List.drop_succ_cons, List.drop_zero] at HP4
                  have hd := drop1 46 B (B.length + 1) rfl
                  have HP5 := Lib.hid HP4
                  have hBl : B.length < 1000 := by simp at hRl; omega
                  clear HP4 HP3 HPT hR46
                  go_wp2_with fail
                  refine (r2run_any B _ (by omega)).mono ?_
                  rintro e w3 ⟨rfl, hw3⟩
                  have hE3 := ext_trans hE hw3
                  have HN3 := Lib.hid (HN2.out.ext hw3)
                  clear hw3
                  have hPl := run_le B
                  have hSl := drop_le B
                  have hx3 : ByteArray.extract ⟨(46 :: B).toArray⟩ 1 (1 + (B.takeWhile isDig).length) = ⟨(B.takeWhile isDig).toArray⟩ := by
                    rw [Nat.add_comm, sx_mid, List.take_succ_cons, List.drop_succ_cons, List.drop_zero, run_take]
                  have hx4 : ByteArray.extract ⟨(46 :: B).toArray⟩ (1 + (B.takeWhile isDig).length) (B.length + 1) = ⟨(B.dropWhile isDig).toArray⟩ := by
                    rw [Nat.add_comm, sx_drop _ _ _ (by simp), List.drop_succ_cons, run_drop]
                  obtain ⟨P, hP⟩ : ∃ s, B.takeWhile isDig = s := ⟨_, rfl⟩
                  obtain ⟨S, hS⟩ : ∃ s, B.dropWhile isDig = s := ⟨_, rfl⟩
                  have HP6 := HP5.out
                  rw [hP, hS] at HP6
                  rw [hP] at hPl hx3 hx4 ⊢
                  rw [hS] at hSl hx4
                  clear hP hS HP5
                  by_cases hP0 : P = []
                  · rw [if_pos hP0] at HP6
                    have HF := Lib.hid HP6
                    subst hP0
                    clear HP6 hx3 hx4
                    obtain ⟨c0, c1, c2, f0, f1, f2, hp⟩ := HN3.out.cells
                    go_wp2_with fail
                    have hN := (HN3.out.store Num.zero).cells
                    simp only [Num.zero] at hN
                    obtain ⟨d0, d1, d2, _⟩ := hN
                    exact bodyPost_ret (v := .tuple #[.agg #[.bool false, .string ⟨#[]⟩, .int .i64 0], .int .i64 2]) (by simp [results, Tryd.results63, go_sem, d0, d1, d2]) rfl ⟨by rw [HF.out]; rfl, below_store hE3 (Nat.le_refl _) _ _ _⟩
                  · rw [if_neg hP0] at HP6
                    have HF := Lib.hid HP6
                    have hPz : ((P.length : Int) == 0) = false := by
                      have : P.length ≠ 0 := fun e => hP0 (List.eq_nil_of_length_eq_zero e)
                      simp; omega
                    have happ := sx_app W P
                    clear HP6 hP0
                    go_wp2_with fail
                    go_meet
                    exact ⟨S, W ++ P, -(P.length : Int), _, by rw [hx4], rfl, rfl, by go_num, hE3, HN3.out, by omega, by simp; omega, by omega, by omega, HF.out⟩
              case rest =>
                obtain ⟨R2, all, x, n, rfl, rfl, rfl, rfl, hE3, hn3, hR2, hall, hx1', hx2', hP4⟩ := hcut
                have HN3 := Lib.hid hn3
                have HP4 := Lib.hid hP4
                clear hn3 hP4 HPT HP3 hx1 hx2 HN2 hE hRl hWl hul HW0 HWD
                go_upto_region 19 with fail
                go_cut [80] (fun s80 wx => s80 = .bool ((R2.head?.map isE).getD false) ∧ wc = wx)
                case first =>
                  clear HP4
                  cases R2 with
                  | nil =>
                    go_wp2_with fail
                    go_meet
                    exact ⟨rfl, rfl⟩
                  | cons c t =>
                    have h0 : ∀ h, (ByteArray.mk (c :: t).toArray)[0]'h = c := fun _ => rfl
                    cases he : isE c with
                    | true =>
                      have HC := Lib.hid he
                      rcases isE_split c he with q1 | ⟨q1, q2⟩
                      · clear he
                        go_wp2_with fail
                        go_meet
                        exact ⟨by have := HC.out; simp [this], rfl⟩
                      · clear he
                        go_wp2_with fail
                        go_meet
                        exact ⟨by have := HC.out; simp [this], rfl⟩
                    | false =>
                      have HC := Lib.hid he
                      obtain ⟨q1, q2⟩ := isE_nots c he
                      clear he
                      go_wp2_with fail
                      go_meet
                      exact ⟨by have := HC.out; simp [this], rfl⟩
                case rest =>
                  obtain ⟨rfl, rfl⟩ := hcut
                  go_upto_if 80 with fail
                  obtain ⟨eb, heb⟩ : ∃ b, (R2.head?.map isE).getD false = b := ⟨_, rfl⟩
                  rw [heb]
                  have HEB := Lib.hid heb
                  clear heb
                  go_cut [0, 5, 7, 8, 9] (fun s0 s5 s7 s8 s9 wx => ∃ (R3 : List UInt8) (y : Int), s0 = .string ⟨R3.toArray⟩ ∧ s7 = .int .i64 y ∧ Ext w wx ∧ NumAt wx w.heap.size Num.zero ∧ -2000000 ≤ y ∧ y ≤ 2000000 ∧ decP l = if R3 = [] then formP neg all y else (Num.zero, 2))
                  case first =>
                    cases eb with
                    | false =>
                      have HP5 : Hid (decP l = if R2 = [] then formP neg all x else (Num.zero, 2)) := Lib.hid (by
                        rw [HP4.out, tailE, expP_not R2 HEB.out]
                        by_cases h : R2 = [] <;> simp [h])
                      clear HP4 HEB
                      go_wp2_with fail
                      go_meet
                      exact ⟨R2, x, rfl, rfl, hE3, HN3.out, by omega, by omega, HP5.out⟩
                    | true =>
                      obtain ⟨c, t, rfl, he⟩ : ∃ c t, R2 = c :: t ∧ isE c = true := by
                        have h := HEB.out
                        cases R2 with
                        | nil => simp at h
                        | cons c t => exact ⟨c, t, rfl, by simpa using h⟩
                      have HEC := Lib.hid he
                      have hd := drop1 c t (t.length + 1) rfl
                      have htl : t.length < 1000 := by simp at hR2; omega
                      clear he HEB
                      go_upto_region 21 with fail
                      go_cut [8] (fun s8 wx => s8 = .bool (decide (t.head? = some 45)) ∧ wc = wx)
                      case first =>
                        clear HP4 HEC
                        cases t with
                        | nil =>
                          go_wp2_with fail
                          go_meet
                          exact ⟨rfl, rfl⟩
                        | cons c t =>
                          have h0 : ∀ h, (ByteArray.mk (c :: t).toArray)[0]'h = c := fun _ => rfl
                          by_cases hc : c = 45
                          · have hq := b_eq c 45 45 rfl hc
                            have HC := Lib.hid hc
                            clear hc
                            go_wp2_with fail
                            go_meet
                            exact ⟨by rw [HC.out]; rfl, rfl⟩
                          · have hq := b_ne c 45 45 rfl hc
                            have HC := Lib.hid hc
                            clear hc
                            go_wp2_with fail
                            go_meet
                            exact ⟨by have : decide ((c :: t).head? = some 45) = false := by simpa using HC.out
                                      rw [this], rfl⟩
                      case rest =>
                        obtain ⟨rfl, rfl⟩ := hcut
                        go_upto_region 22 with fail
                        go_cut [101] (fun s101 wx => s101 = .bool (decide (t.head? = some 45 ∨ t.head? = some 43)) ∧ wc = wx)
                        case first =>
                          clear HP4 HEC
                          cases t with
                          | nil =>
                            go_wp2_with fail
                            go_meet
                            exact ⟨rfl, rfl⟩
                          | cons c t =>
                            have h0 : ∀ h, (ByteArray.mk (c :: t).toArray)[0]'h = c := fun _ => rfl
                            by_cases hc : c = 45
                            · have hq := b_eq c 45 45 rfl hc
                              have HC := Lib.hid hc
                              clear hc
                              go_wp2_with fail
                              go_meet
                              exact ⟨by have := HC.out; simp [this], rfl⟩
                            · have hq := b_ne c 45 45 rfl hc
                              have HC := Lib.hid hc
                              clear hc
                              by_cases hc : c = 43
                              · have hq := b_eq c 43 43 rfl hc
                                have HC2 := Lib.hid hc
                                clear hc
                                go_wp2_with fail
                                go_meet
                                exact ⟨by have := HC2.out; simp [this], rfl⟩
                              · have hq := b_ne c 43 43 rfl hc
                                have HC2 := Lib.hid hc
                                clear hc
                                go_wp2_with fail
                                go_meet
                                exact ⟨by have := HC.out; have := HC2.out; simp [*], rfl⟩
                        case rest =>
                          obtain ⟨rfl, rfl⟩ := hcut
                          go_upto_if 101 with fail
                          obtain ⟨sb, hsb⟩ : ∃ b, decide (t.head? = some 45 ∨ t.head? = some 43) = b := ⟨_, rfl⟩
                          obtain ⟨ls, hls⟩ : ∃ b, decide (t.head? = some 45) = b := ⟨_, rfl⟩
                          rw [hsb, hls]
                          have hPL : Hid (∀ v, (if t.head? = some 45 ∨ t.head? = some 43 then t.drop 1 else t) = v → decP l = if !(!(v.takeWhile isDig).isEmpty) || !(v.dropWhile isDig).isEmpty then (Num.zero, 2) else formP neg all (x + (if ls = true then - small (v.takeWhile isDig) 0 else small (v.takeWhile isDig) 0))) := Lib.hid (fun v hv => by
                            rw [HP4.out, tailE, expP_yes c t v HEC.out hv]
                            simp only
                            have e : (t.head? = some 45) = (ls = true) := by rw [← hls]; simp
                            simp only [e])
                          have HSB := Lib.hid hsb
                          clear HP4 HEC hsb hls
                          go_cut [0] (fun s0 wx => ∃ v : List UInt8, s0 = .string ⟨v.toArray⟩ ∧ v.length ≤ 1000 ∧ (if t.head? = some 45 ∨ t.head? = some 43 then t.drop 1 else t) = v ∧ wc = wx)
                          case first =>
                            clear hPL
                            cases sb with
                            | true =>
                              have h := HSB.out
                              cases t with
                              | nil => simp at h
                              | cons a v =>
                                have hd := drop1 a v (v.length + 1) rfl
                                have hq : (a :: v).head? = some 45 ∨ (a :: v).head? = some 43 := by simpa using h
                                have HQ := Lib.hid hq
                                clear h hq HSB
                                go_wp2_with fail
                                go_meet
                                exact ⟨v, rfl, by simp at htl; omega, by rw [if_pos HQ.out]; rfl, rfl⟩
                            | false =>
                              go_wp2_with fail
                              go_meet
                              exact ⟨t, rfl, by omega, by rw [if_neg (by have := HSB.out; simpa using this)], rfl⟩
                          case rest =>
                            obtain ⟨v, rfl, hvl, hv, rfl⟩ := hcut
                            have HP6 := Lib.hid (hPL.out v hv)
                            clear hPL HSB hv hd htl
                            go_wp2_with fail
                            refine (r2run_any v _ (by omega)).mono ?_
                            rintro e w5 ⟨rfl, hw5⟩
                            have hE5 := ext_trans hE3 hw5
                            have HN5 := Lib.hid (HN3.out.ext hw5)
                            clear hw5 HN3
                            have hPl := run_le v
                            have hSl := drop_le v
                            have hx1 := sx_take v (v.takeWhile isDig).length
                            rw [run_take] at hx1
                            have hx2 := sx_drop v (v.takeWhile isDig).length v.length (Nat.le_refl _)
                            rw [run_drop] at hx2
                            have hWd := take_all v
                            obtain ⟨P, hP⟩ : ∃ s, v.takeWhile isDig = s := ⟨_, rfl⟩
                            obtain ⟨S, hS⟩ : ∃ s, v.dropWhile isDig = s := ⟨_, rfl⟩
                            have HP7 := HP6.out
                            rw [hP, hS] at HP7
                            rw [hP] at hPl hx1 hx2 hWd ⊢
                            rw [hS] at hSl hx2
                            clear hP hS HP6
                            by_cases hP0 : P = []
                            · subst hP0
                              have HF : Hid (decP l = (Num.zero, 2)) := Lib.hid HP7
                              clear HP7 hx1 hx2 hWd
                              obtain ⟨c0, c1, c2, f0, f1, f2, hp⟩ := HN5.out.cells
                              go_wp2_with fail
                              have hN := (HN5.out.store Num.zero).cells
                              simp only [Num.zero] at hN
                              obtain ⟨d0, d1, d2, _⟩ := hN
                              exact bodyPost_ret (v := .tuple #[.agg #[.bool false, .string ⟨#[]⟩, .int .i64 0], .int .i64 2]) (by simp [results, Tryd.results63, go_sem, d0, d1, d2]) rfl ⟨by rw [HF.out]; rfl, below_store hE5 (Nat.le_refl _) _ _ _⟩
                            · have hPe : P.isEmpty = false := by simpa using hP0
                              rw [hPe] at HP7
                              have hPz : ((P.length : Int) == 0) = false := by
                                have : P.length ≠ 0 := fun e => hP0 (List.eq_nil_of_length_eq_zero e)
                                simp; omega
                              have HP8 : Hid (decP l = if S = [] then formP neg all (x + (if ls = true then - small P 0 else small P 0)) else (Num.zero, 2)) := Lib.hid (by
                                rw [HP7]; by_cases h : S = [] <;> simp [h])
                              have HWD := Lib.hid hWd
                              clear HP7 hP0 hPe hWd
                              go_wp2_with fail
                              refine (r2small_any P _ (by omega) HWD.out).mono ?_
                              rintro e w6 ⟨rfl, hw6⟩
                              obtain ⟨hb1, hb2⟩ := small_bd P 0 HWD.out (by omega) (by omega)
                              have hE6 := ext_trans hE5 hw6
                              have HN6 := Lib.hid (HN5.out.ext hw6)
                              generalize small P 0 = z at *
                              clear hw6 HN5 hE5
                              cases ls with
                              | true =>
                                go_wp2_with fail
                                go_meet
                                exact ⟨S, x + -z, by first | rfl | rw [hx2], by go_num, hE6, HN6.out, by omega, by omega, HP8.out⟩
                              | false =>
                                go_wp2_with fail
                                go_meet
                                exact ⟨S, x + z, by first | rfl | rw [hx2], by go_num, hE6, HN6.out, by omega, by omega, HP8.out⟩
                  case rest =>
                    obtain ⟨R3, y, rfl, rfl, hE4, hn4, hy1, hy2, hP5⟩ := hcut
                    have HN4 := Lib.hid hn4
                    have HP5 := Lib.hid hP5
                    clear hn4 hP5 HP4 HEB HN3 hE3
                    by_cases hR3 : R3 = []
                    · have HP6 : Hid (decP l = toldP (formR neg all y)) := Lib.hid (by rw [HP5.out, if_pos hR3, formP_told])
                      subst hR3
                      clear HP5
                      go_wp2_with fail
                      refine (r2form_any neg all y _ (by omega) (by omega) (by omega)).mono ?_
                      rintro e w7 ⟨rfl, hw7⟩
                      have hE7 := ext_trans hE4 hw7
                      have hn7 := HN4.out.ext hw7
                      have hfl : (formR neg all y).digits.length ≤ 2000 := by
                        unfold formR shortR
                        have h1 := trimL0_le all
                        have h2 := trimR0_le (trimL0 all)
                        split
                        · simp [Num.zero]
                        · simp only; omega
                      generalize formR neg all y = F at *
                      clear hw7 HN4 hE4
                      go_wp2_with fail
                      refine (r2told_any F _ (by omega)).mono ?_
                      rintro e w8 ⟨rfl, hw8⟩
                      have hE8 := ext_trans hE7 hw8
                      have HN8 := Lib.hid (hn7.ext hw8)
                      obtain ⟨c0, c1, c2, f0, f1, f2, hp⟩ := HN8.out.cells
                      obtain ⟨T, hT⟩ : ∃ T, toldP F = T := ⟨_, rfl⟩
                      rw [hT] at HP6 ⊢
                      obtain ⟨⟨tn, td, te⟩, er⟩ := T
                      clear hT hw8 hn7
                      go_wp2_with fail
                      have hN := (HN8.out.store ⟨tn, td, te⟩).cells
                      simp only at hN
                      obtain ⟨d0, d1, d2, _⟩ := hN
                      exact bodyPost_ret (v := .tuple #[.agg #[.bool tn, .string ⟨td.toArray⟩, .int .i64 te], .int .i64 er]) (by simp [results, Tryd.results63, go_sem, d0, d1, d2]) rfl ⟨by rw [HP6.out], below_store hE8 (Nat.le_refl _) _ _ _⟩
                    · have HF := Lib.hid (HP5.out.trans (if_neg hR3))
                      have hre : R3.isEmpty = false := by simpa using hR3
                      clear HP5 hR3
                      obtain ⟨c0, c1, c2, f0, f1, f2, hp⟩ := HN4.out.cells
                      go_wp2_with fail
                      have hN := (HN4.out.store Num.zero).cells
                      simp only [Num.zero] at hN
                      obtain ⟨d0, d1, d2, _⟩ := hN
                      exact bodyPost_ret (v := .tuple #[.agg #[.bool false, .string ⟨#[]⟩, .int .i64 0], .int .i64 2]) (by simp [results, Tryd.results63, go_sem, d0, d1, d2]) rfl ⟨by rw [HF.out]; rfl, below_store hE4 (Nat.le_refl _) _ _ _⟩
end Go.Proofs.YtckpndbmpigegaaDoor
end

section
/- Plain laws of characters: the order of marks; good texts are rows of characters. -/
set_option linter.unusedVariables false
set_option maxRecDepth 100000
namespace Orange

theorem lessL_irrefl : ∀ l : List Int, lessL l l = false
  | [] => rfl
  | a :: l => by rw [lessL, if_pos rfl]; exact lessL_irrefl l
theorem lessL_asymm : ∀ l m : List Int, lessL l m = true → lessL m l = false
  | [], [], h => by simp [lessL] at h
  | [], b :: m, _ => by simp [lessL]
  | a :: l, [], h => by simp [lessL] at h
  | a :: l, b :: m, h => by
    rw [lessL] at h ⊢
    by_cases e : a = b
    · rw [if_pos e] at h; rw [if_pos e.symm]; exact lessL_asymm l m h
    · rw [if_neg e] at h; rw [if_neg (fun x => e x.symm)]
      simp only [decide_eq_true_eq] at h
      simp only [decide_eq_false_iff_not]; omega
theorem lessL_tri : ∀ l m : List Int, lessL l m = false → lessL m l = false → l = m
  | [], [], _, _ => rfl
  | [], b :: m, h, _ => by simp [lessL] at h
  | a :: l, [], _, h => by simp [lessL] at h
  | a :: l, b :: m, h, k => by
    rw [lessL] at h k
    by_cases e : a = b
    · rw [if_pos e] at h; rw [if_pos e.symm] at k; rw [e, lessL_tri l m h k]
    · rw [if_neg e] at h; rw [if_neg (fun x => e x.symm)] at k
      simp only [decide_eq_false_iff_not] at h k; omega
theorem lessL_trans : ∀ l m n : List Int, lessL l m = true → lessL m n = true → lessL l n = true
  | [], m, [], h, k => by cases m <;> simp [lessL] at h k
  | [], _, _ :: _, _, _ => by simp [lessL]
  | a :: l, [], _, h, _ => by simp [lessL] at h
  | a :: l, b :: m, [], _, k => by simp [lessL] at k
  | a :: l, b :: m, c :: n, h, k => by
    rw [lessL] at h k ⊢
    by_cases e : a = b
    · rw [if_pos e] at h
      by_cases e2 : b = c
      · rw [if_pos e2] at k; rw [if_pos (e.trans e2)]; exact lessL_trans l m n h k
      · rw [if_neg e2] at k; rw [if_neg (by rw [e]; exact e2), e]; exact k
    · rw [if_neg e] at h
      simp only [decide_eq_true_eq] at h
      by_cases e2 : b = c
      · rw [if_neg (by omega)]; simp only [decide_eq_true_eq]; omega
      · rw [if_neg e2] at k
        simp only [decide_eq_true_eq] at k
        rw [if_neg (by omega)]; simp only [decide_eq_true_eq]; omega

/-- a character's bytes, or the byte of a mark above all -/
def un (r : Int) : List UInt8 := if 2097152 ≤ r then [byte (r - 2097152)] else enc r
theorem marks_un : ∀ (n : Nat) (b : List UInt8), b.length ≤ n → (marks b).flatMap un = b
  | _, [], _ => by rw [marks_nil]; rfl
  | 0, _ :: _, h => by simp at h
  | n + 1, x :: t, h => by
    have hmk : mark (x :: t) = if (next (x :: t)).2 = 0 then 2097152 + (x.toNat : Int) else (next (x :: t)).1 := rfl
    have hx := x.toNat_lt
    simp only [List.length_cons] at h
    rw [marks_cons, List.flatMap_cons]
    rcases next_spec (x :: t) with hz | ⟨hs, hn, t', ht⟩
    · have ha : adv (x :: t) = 1 := by simp [adv, hz]
      rw [ha, hmk, hz, if_pos rfl]
      have hu : un (2097152 + (x.toNat : Int)) = [x] := by
        rw [un, if_pos (by omega), byte_of (c := x) (by omega)]
      rw [hu, List.drop_succ_cons, List.drop_zero, marks_un n t (by omega)]
      rfl
    · have hbd := next_bd (x :: t)
      obtain ⟨c, hcc⟩ : ∃ c, (next (x :: t)).1 = c := ⟨_, rfl⟩
      rw [hcc] at hs hn ht hbd hmk
      have hp := enc_pos c
      have ha : adv (x :: t) = (next (x :: t)).2 := by simp [adv]; omega
      rw [ha, hmk, if_neg (by omega)]
      have hu : un c = enc c := by rw [un, if_neg (by omega)]
      have hd : (x :: t).drop (next (x :: t)).2 = t' := by
        rw [hn, ht, List.drop_left]
      have hl := congrArg List.length ht
      simp only [List.length_cons, List.length_append] at hl
      rw [hu, hd, marks_un n t' (by omega)]
      exact ht.symm
theorem marks_inj {a b : List UInt8} (h : marks a = marks b) : a = b := by
  rw [← marks_un _ a (Nat.le_refl _), ← marks_un _ b (Nat.le_refl _), h]

def encs (l : List Int) : List UInt8 := l.flatMap enc
theorem enc_cons {r : Int} (h : sound r = true) : ∃ x t, enc r = x :: t := by
  have hp := enc_pos r
  cases hx : enc r with
  | nil => rw [hx] at hp; simp at hp
  | cons x t => exact ⟨x, t, rfl⟩
theorem checkL_enc {r : Int} (h : sound r = true) (t : List UInt8) (i : Int) : checkL (enc r ++ t) i = checkL t (i + (enc r).length) := by
  have hn := next_enc h t
  have hp := enc_pos r
  obtain ⟨x, u, hx⟩ := enc_cons h
  have e : enc r ++ t = x :: (u ++ t) := by rw [hx]; rfl
  rw [e, checkL_cons, ← e, hn, if_neg (by simp only; omega)]
  simp only [List.drop_left]
theorem marks_enc {r : Int} (h : sound r = true) (t : List UInt8) : marks (enc r ++ t) = r :: marks t := by
  have hn := next_enc h t
  have hp := enc_pos r
  obtain ⟨x, u, hx⟩ := enc_cons h
  have e : enc r ++ t = x :: (u ++ t) := by rw [hx]; rfl
  have hmk : mark (x :: (u ++ t)) = if (next (x :: (u ++ t))).2 = 0 then 2097152 + (x.toNat : Int) else (next (x :: (u ++ t))).1 := rfl
  have ha : adv (enc r ++ t) = (enc r).length := by simp only [adv, hn]; rw [if_neg (by omega)]
  rw [e, marks_cons, hmk, ← e, ha, hn, if_neg (by simp only; omega), List.drop_left]
theorem checkL_encs : ∀ (l : List Int), (∀ r ∈ l, sound r = true) → ∀ (t : List UInt8) (i : Int), checkL (encs l ++ t) i = checkL t (i + (encs l).length)
  | [], _, t, i => by simp [encs]
  | r :: l, h, t, i => by
    have e : encs (r :: l) = enc r ++ encs l := rfl
    rw [e, List.append_assoc, checkL_enc (h r (List.mem_cons_self ..)), checkL_encs l (fun x hx => h x (List.mem_cons_of_mem _ hx))]
    congr 1
    rw [List.length_append]; omega
theorem marks_encs : ∀ (l : List Int), (∀ r ∈ l, sound r = true) → ∀ (t : List UInt8), marks (encs l ++ t) = l ++ marks t
  | [], _, t => by simp [encs]
  | r :: l, h, t => by
    have e : encs (r :: l) = enc r ++ encs l := rfl
    rw [e, List.append_assoc, marks_enc (h r (List.mem_cons_self ..)), marks_encs l (fun x hx => h x (List.mem_cons_of_mem _ hx))]
    rfl
/-- a good text is a row of characters -/
theorem good_encs : ∀ (n : Nat) (b : List UInt8) (i : Int), b.length ≤ n → 0 ≤ i → checkL b i < 0 → ∃ l, (∀ r ∈ l, sound r = true) ∧ b = encs l
  | _, [], _, _, _, _ => ⟨[], by simp, rfl⟩
  | 0, _ :: _, _, h, _, _ => by simp at h
  | n + 1, x :: t, i, h, hi, hc => by
    rw [checkL_cons] at hc
    simp only [List.length_cons] at h
    rcases next_spec (x :: t) with hz | ⟨hs, hn, t', ht⟩
    · rw [hz, if_pos rfl] at hc; omega
    · obtain ⟨c, hcc⟩ : ∃ c, (next (x :: t)).1 = c := ⟨_, rfl⟩
      rw [hcc] at hs hn ht
      have hp := enc_pos c
      rw [if_neg (by omega)] at hc
      have hd : (x :: t).drop (next (x :: t)).2 = t' := by
        rw [hn, ht, List.drop_left]
      have hl := congrArg List.length ht
      simp only [List.length_cons, List.length_append] at hl
      rw [hd] at hc
      obtain ⟨l, h1, h2⟩ := good_encs n t' _ (by omega) (by omega) hc
      refine ⟨c :: l, fun r hr => ?_, ?_⟩
      · rcases List.mem_cons.1 hr with rfl | hr
        · exact hs
        · exact h1 r hr
      · rw [ht, h2]; rfl

/-- the order of bytes -/
def lexB : List UInt8 → List UInt8 → Bool
  | [], [] => false
  | [], _ :: _ => true
  | _ :: _, [] => false
  | a :: l, b :: m => if a.toNat = b.toNat then lexB l m else decide (a.toNat < b.toNat)
theorem lexB_pre : ∀ (p x y : List UInt8), lexB (p ++ x) (p ++ y) = lexB x y
  | [], _, _ => rfl
  | a :: p, x, y => by rw [List.cons_append, List.cons_append, lexB, if_pos rfl]; exact lexB_pre p x y
theorem lexB_enc {r s : Int} (hr : sound r = true) (hs : sound s = true) (hne : r ≠ s) (x y : List UInt8) : lexB (enc r ++ x) (enc s ++ y) = decide (r < s) := by
  rw [sound_iff] at hr hs
  have h0 : 0 ≤ r ∧ r ≤ 1114111 := by omega
  have h1 : 0 ≤ s ∧ s ≤ 1114111 := by omega
  clear hr hs
  unfold enc
  repeat' split
  all_goals
    simp only [List.cons_append, List.nil_append, lexB]
    repeat rw [byte_toNat (by omega) (by omega)]
    repeat' split
    all_goals first | omega | (simp only [decide_eq_decide]; omega)
theorem lexB_encs : ∀ (l m : List Int), (∀ r ∈ l, sound r = true) → (∀ r ∈ m, sound r = true) → lexB (encs l) (encs m) = lessL l m
  | [], [], _, _ => rfl
  | [], b :: m, _, h => by
    obtain ⟨x, t, hx⟩ := enc_cons (h b (List.mem_cons_self ..))
    have e : encs (b :: m) = x :: (t ++ encs m) := by show enc b ++ encs m = _; rw [hx]; rfl
    rw [e]; rfl
  | a :: l, [], h, _ => by
    obtain ⟨x, t, hx⟩ := enc_cons (h a (List.mem_cons_self ..))
    have e : encs (a :: l) = x :: (t ++ encs l) := by show enc a ++ encs l = _; rw [hx]; rfl
    rw [e]; rfl
  | a :: l, b :: m, h, k => by
    have e1 : encs (a :: l) = enc a ++ encs l := rfl
    have e2 : encs (b :: m) = enc b ++ encs m := rfl
    rw [e1, e2, lessL]
    by_cases e : a = b
    · subst e
      rw [if_pos rfl, lexB_pre, lexB_encs l m (fun x hx => h x (List.mem_cons_of_mem _ hx)) (fun x hx => k x (List.mem_cons_of_mem _ hx))]
    · rw [if_neg e, lexB_enc (h a (List.mem_cons_self ..)) (k b (List.mem_cons_self ..)) e]
end Orange
end

section
/- The document's way to read a character: plain laws. -/
set_option linter.unusedVariables false
set_option maxRecDepth 100000
set_option linter.unusedSimpArgs false
namespace Orange

/-- the number that bytes would be -/
def fold6 : List UInt8 → Int → Int
  | [], r => r
  | c :: t, r => fold6 t (r * 64 + (c.toNat : Int) % 64)
def kind (x : UInt8) : Nat := if 240 ≤ x.toNat then 4 else if 224 ≤ x.toNat then 3 else if 192 ≤ x.toNat then 2 else 1
def lead0 (x : UInt8) : Int := if 240 ≤ x.toNat then (x.toNat : Int) % 8 else if 224 ≤ x.toNat then (x.toNat : Int) % 16 else if 192 ≤ x.toNat then (x.toNat : Int) % 32 else x.toNat
def begins (b c : List UInt8) : Bool := decide (b.take c.length = c)

theorem begins_iff {b c : List UInt8} : begins b c = true ↔ ∃ t, b = c ++ t := by
  simp only [begins, decide_eq_true_eq]
  constructor
  · intro h
    exact ⟨b.drop c.length, by conv => lhs; rw [← List.take_append_drop c.length b, h]⟩
  · rintro ⟨t, rfl⟩; simp
theorem fold6_at (xs : List UInt8) (n k : Nat) (r : Int) (h : k < n) (hk : k < xs.length) : fold6 ((xs.take n).drop k) r = fold6 ((xs.take n).drop (k + 1)) (r * 64 + (xs[k].toNat : Int) % 64) := by
  rw [List.drop_eq_getElem_cons (by simp; omega), fold6]
  simp
theorem fold6_end (xs : List UInt8) (n : Nat) (r : Int) : fold6 ((xs.take n).drop n) r = r := by
  rw [List.drop_of_length_le (by simp; omega), fold6]

theorem enc_read {c : Int} (hc : sound c = true) (x : UInt8) (t t' : List UInt8) (h : x :: t = enc c ++ t') :
    kind x = (enc c).length ∧ fold6 (((x :: t).take (kind x)).drop 1) (lead0 x) = c := by
  rw [sound_iff] at hc
  unfold enc at h ⊢
  split at h
  · rename_i h1
    rw [if_pos h1]
    obtain ⟨rfl, rfl⟩ := by simpa using h
    have hb := byte_int (n := c) (by omega) (by omega)
    have hk : kind (byte c) = 1 := by unfold kind; rw [if_neg (by omega), if_neg (by omega), if_neg (by omega)]
    refine ⟨by rw [hk]; rfl, ?_⟩
    rw [hk]
    simp only [List.take_succ_cons, List.take_zero, List.drop_succ_cons, List.drop_nil, fold6, lead0]
    rw [if_neg (by omega), if_neg (by omega), if_neg (by omega)]; exact hb
  · rename_i h1
    rw [if_neg h1]
    split at h
    · rename_i h2
      rw [if_pos h2]
      obtain ⟨rfl, rfl⟩ := by simpa using h
      have hb := byte_int (n := 192 + c / 64) (by omega) (by omega)
      have hb2 := byte_int (n := 128 + c % 64) (by omega) (by omega)
      have hk : kind (byte (192 + c / 64)) = 2 := by unfold kind; rw [if_neg (by omega), if_neg (by omega), if_pos (by omega)]
      refine ⟨by rw [hk]; rfl, ?_⟩
      rw [hk]
      simp only [List.take_succ_cons, List.take_zero, List.drop_succ_cons, List.drop_zero, List.drop_nil, fold6, lead0]
      rw [if_neg (by omega), if_neg (by omega), if_pos (by omega)]; omega
    · rename_i h2
      rw [if_neg h2]
      split at h
      · rename_i h3
        rw [if_pos h3]
        obtain ⟨rfl, rfl⟩ := by simpa using h
        have hb := byte_int (n := 224 + c / 4096) (by omega) (by omega)
        have hb2 := byte_int (n := 128 + c / 64 % 64) (by omega) (by omega)
        have hb3 := byte_int (n := 128 + c % 64) (by omega) (by omega)
        have hk : kind (byte (224 + c / 4096)) = 3 := by unfold kind; rw [if_neg (by omega), if_pos (by omega)]
        refine ⟨by rw [hk]; rfl, ?_⟩
        rw [hk]
        simp only [List.take_succ_cons, List.take_zero, List.drop_succ_cons, List.drop_zero, List.drop_nil, fold6, lead0]
        rw [if_neg (by omega), if_pos (by omega)]; omega
      · rename_i h3
        rw [if_neg h3]
        obtain ⟨rfl, rfl⟩ := by simpa using h
        have hb := byte_int (n := 240 + c / 262144) (by omega) (by omega)
        have hb2 := byte_int (n := 128 + c / 4096 % 64) (by omega) (by omega)
        have hb3 := byte_int (n := 128 + c / 64 % 64) (by omega) (by omega)
        have hb4 := byte_int (n := 128 + c % 64) (by omega) (by omega)
        have hk : kind (byte (240 + c / 262144)) = 4 := by unfold kind; rw [if_pos (by omega)]
        refine ⟨by rw [hk]; rfl, ?_⟩
        rw [hk]
        simp only [List.take_succ_cons, List.take_zero, List.drop_succ_cons, List.drop_zero, List.drop_nil, fold6, lead0]
        rw [if_pos (by omega)]; omega

/-- what is read is what is laid again -/
theorem next_yes {b : List UInt8} {r : Int} {n : Nat} (hs : sound r = true) (hb : begins b (enc r) = true) (hn : (enc r).length = n) : next b = (r, n) := by
  obtain ⟨t, rfl⟩ := begins_iff.1 hb
  rw [next_enc hs, hn]
theorem next_no {x : UInt8} {t : List UInt8} {r : Int} (hr : fold6 (((x :: t).take (kind x)).drop 1) (lead0 x) = r) (h : ¬ (sound r = true ∧ begins (x :: t) (enc r) = true ∧ (enc r).length = kind x)) : next (x :: t) = (0, 0) := by
  rcases next_spec (x :: t) with hz | ⟨hs, hn, t', ht⟩
  · exact hz
  · exfalso
    obtain ⟨h1, h2⟩ := enc_read hs x t t' ht
    have hrr : r = (next (x :: t)).1 := by rw [← hr, h2]
    refine h ⟨by rw [hrr]; exact hs, begins_iff.2 ⟨t', by rw [hrr]; exact ht⟩, by rw [hrr]; exact h1.symm⟩
theorem next_short {x : UInt8} {t : List UInt8} (h : t.length + 1 < kind x) : next (x :: t) = (0, 0) := by
  rcases next_spec (x :: t) with hz | ⟨hs, hn, t', ht⟩
  · exact hz
  · exfalso
    obtain ⟨h1, h2⟩ := enc_read hs x t t' ht
    have := congrArg List.length ht
    simp only [List.length_cons, List.length_append] at this
    omega
end Orange
end

section
/- orangeryref01: what valid, bytes and begins do. -/
set_option linter.unusedVariables false
set_option maxRecDepth 100000
set_option linter.unusedSimpArgs false
namespace Go.Proofs.YtckpndbmpigegaaDoor
open Go.RowKit Go.Mem Orange

set_option maxHeartbeats 400000 in
theorem valid_any (r : Int) (w : World) :
    Calls Tryd.prog 81 #[.int .i64 r] w fun e w' => e = .returned (.bool (sound r)) ∧ w = w' := by
  by_cases h1 : 0 ≤ r
  · by_cases h2 : r < 55296
    · have hf : sound r = true := by rw [sound_iff]; omega
      go_enter Tryd.func81, Tryd.ntmps81
      go_wp2
      go_ret
      first | exact ⟨rfl, rfl⟩ | exact ⟨ret_bool (by rw [hf]), rfl⟩
    · by_cases h3 : 57343 < r
      · go_enter Tryd.func81, Tryd.ntmps81
        go_wp2
        go_ret
        refine ⟨ret_bool ?_, rfl⟩
        rw [Bool.eq_iff_iff, sound_iff]; simp; omega
      · have hf : sound r = false := by rw [Bool.eq_false_iff, ne_eq, sound_iff]; omega
        go_enter Tryd.func81, Tryd.ntmps81
        go_wp2
        go_ret
        first | exact ⟨rfl, rfl⟩ | exact ⟨ret_bool (by rw [hf]), rfl⟩
  · have hf : sound r = false := by rw [Bool.eq_false_iff, ne_eq, sound_iff]; omega
    have h3 : ¬ 57343 < r := by omega
    go_enter Tryd.func81, Tryd.ntmps81
    go_wp2
    go_ret
    first | exact ⟨rfl, rfl⟩ | exact ⟨ret_bool (by rw [hf]), rfl⟩

set_option maxHeartbeats 800000 in
theorem bytes_any (r : Int) (w : World) (h0 : 0 ≤ r) (h1 : r ≤ 1114111) :
    Calls Tryd.prog 83 #[.int .i64 r] w fun e w' => (∃ v, e = .returned v ∧ Bytes w' v (enc r)) ∧ Ext w w' := by
  by_cases h2 : r < 128
  · have he : enc r = [byte r] := by rw [enc, if_pos h2]
    go_enter Tryd.func83, Tryd.ntmps83
    go_wp2_with fail
    go_ret
    refine ⟨⟨_, rfl, ?_⟩, (ext_refl w).alloc (Nat.le_refl _) _⟩
    refine bytes_new _ _ _ _ ?_ _ ?_ (by omega)
    · (try rw [he]); simp only [cells8, List.map_cons, List.map_nil, byte_int (n := r) (by omega) (by omega)]
    · (try rw [he]); rfl
  · by_cases h3 : r < 2048
    · have he : enc r = [byte (192 + r / 64), byte (128 + r % 64)] := by rw [enc, if_neg h2, if_pos h3]
      go_enter Tryd.func83, Tryd.ntmps83
      go_wp2_with fail
      go_ret
      refine ⟨⟨_, rfl, ?_⟩, (ext_refl w).alloc (Nat.le_refl _) _⟩
      refine bytes_new _ _ _ _ ?_ _ ?_ (by omega)
      · (try rw [he]); simp only [cells8, List.map_cons, List.map_nil, byte_int (n := 192 + r / 64) (by omega) (by omega), byte_int (n := 128 + r % 64) (by omega) (by omega)]
      · (try rw [he]); rfl
    · by_cases h4 : r < 65536
      · have he : enc r = [byte (224 + r / 4096), byte (128 + r / 64 % 64), byte (128 + r % 64)] := by rw [enc, if_neg h2, if_neg h3, if_pos h4]
        go_enter Tryd.func83, Tryd.ntmps83
        go_wp2_with fail
        go_ret
        refine ⟨⟨_, rfl, ?_⟩, (ext_refl w).alloc (Nat.le_refl _) _⟩
        refine bytes_new _ _ _ _ ?_ _ ?_ (by omega)
        · (try rw [he]); simp only [cells8, List.map_cons, List.map_nil, byte_int (n := 224 + r / 4096) (by omega) (by omega), byte_int (n := 128 + r / 64 % 64) (by omega) (by omega), byte_int (n := 128 + r % 64) (by omega) (by omega)]
        · (try rw [he]); rfl
      · have he : enc r = [byte (240 + r / 262144), byte (128 + r / 4096 % 64), byte (128 + r / 64 % 64), byte (128 + r % 64)] := by rw [enc, if_neg h2, if_neg h3, if_neg h4]
        go_enter Tryd.func83, Tryd.ntmps83
        go_wp2_with fail
        go_ret
        refine ⟨⟨_, rfl, ?_⟩, (ext_refl w).alloc (Nat.le_refl _) _⟩
        refine bytes_new _ _ _ _ ?_ _ ?_ (by omega)
        · (try rw [he]); simp only [cells8, List.map_cons, List.map_nil, byte_int (n := 240 + r / 262144) (by omega) (by omega), byte_int (n := 128 + r / 4096 % 64) (by omega) (by omega), byte_int (n := 128 + r / 64 % 64) (by omega) (by omega), byte_int (n := 128 + r % 64) (by omega) (by omega)]
        · (try rw [he]); rfl

set_option maxHeartbeats 1600000 in
theorem begins_any (v : Value) (xs : List UInt8) (u : Value) (ys : List UInt8) (w : World) (hx : Bytes w v xs) (hy : Bytes w u ys) :
    Calls Tryd.prog 82 #[v, u] w fun e w' => e = .returned (.bool (begins xs ys)) ∧ Ext w w' := by
  obtain ⟨a, ca, rfl, hxc, hxm, hxl, hxat⟩ := hx
  obtain ⟨b, cb, rfl, hyc, hym, hyl, hyat⟩ := hy
  by_cases hlen : xs.length < ys.length
  · have hb : begins xs ys = false := by
      rw [Bool.eq_false_iff, ne_eq, begins_iff]; rintro ⟨t, rfl⟩; simp at hlen; omega
    have hd : decide (xs.length < ys.length) = true := by simpa using hlen
    go_enter Tryd.func82, Tryd.ntmps82
    go_wp2_with fail
    go_ret
    exact ⟨by first | rfl | exact ret_bool hb.symm, ext_refl w⟩
  · have hd : decide (xs.length < ys.length) = false := by simpa using hlen
    have HX : Hid (BytesAt w a xs) := Lib.hid hxat
    have HY : Hid (BytesAt w b ys) := Lib.hid hyat
    clear hxat hyat
    go_enter Tryd.func82, Tryd.ntmps82
    go_wp2_with fail
    go_loopw [5] (fun kv wr => ∃ k n : Nat, kv = .int .i64 k ∧ k ≤ ys.length ∧ wr = w.drewN n ∧ xs.take k = ys.take k) (fun kv _ => ys.length - (intOf kv).toNat)
    case atStart => exact ⟨0, 0, rfl, by omega, rfl, rfl⟩
    case round =>
      obtain ⟨k, n, rfl, hk, rfl, hr⟩ := hrel
      have HR := Lib.hid hr
      clear hr
      by_cases hlt : k < ys.length
      · obtain ⟨b1, o1, rfl, hl1, hc1⟩ := HX.out (by omega)
        obtain ⟨b2, o2, rfl, hl2, hc2⟩ := HY.out (by omega)
        have hkx : k < xs.length := by omega
        have hx1 := hc1 k hkx
        have hx2 := hc2 k hlt
        have hs1 : xs.take (k + 1) = xs.take k ++ [xs[k]] := List.take_succ_eq_append_getElem hkx
        have hs2 : ys.take (k + 1) = ys.take k ++ [ys[k]] := List.take_succ_eq_append_getElem hlt
        clear hc1 hc2 
        by_cases hxy : xs[k] = ys[k]
        · have hst : Hid (xs.take (k + 1) = ys.take (k + 1)) := Lib.hid (by rw [hs1, hs2, HR.out, hxy])
          clear hs1 hs2
          have hb : ((xs[k].toNat : Int) != ys[k].toNat) = false := by simp [hxy]
          generalize xs[k] = x at hx1 hb
          generalize ys[k] = y at hx2 hb
          clear hxy
          go_wp2_with fail
          go_quiet (fail)
          go_wp2_with fail
          go_roundw
          case rel => exact ⟨k + 1, _, by go_num, by omega, rfl, hst.out⟩
          case measure => simp [intOf]; omega
        · have hne : (xs[k].toNat : Int) ≠ ys[k].toNat := fun e => hxy (UInt8.toNat_inj.1 (by omega))
          have hb : ((xs[k].toNat : Int) != ys[k].toNat) = true := by simpa using hne
          have hbf : Hid (begins xs ys = false) := by
            refine Lib.hid ?_
            rw [Bool.eq_false_iff, ne_eq, begins_iff]
            rintro ⟨t, ht⟩
            refine hxy ?_
            simp only [ht, List.getElem_append_left hlt]
          clear hs1 hs2 hne
          generalize xs[k] = x at hx1 hb
          generalize ys[k] = y at hx2 hb
          clear hxy
          go_wp2_with fail
          go_quiet (fail)
          go_wp2_with fail
          go_ret
          exact ⟨by first | rfl | exact ret_bool hbf.out.symm, below_drewN (below_drewN (ext_refl w) _) _⟩
      · obtain rfl : k = ys.length := by omega
        have hbt : Hid (begins xs ys = true) := Lib.hid (by simp only [begins, decide_eq_true_eq]; rw [HR.out, List.take_length])
        go_wp2_with fail
        go_ret
        exact ⟨by first | rfl | exact ret_bool hbt.out.symm, below_drewN (ext_refl w) _⟩
end Go.Proofs.YtckpndbmpigegaaDoor
end

section
/- orangeryref01: what Next does. -/
set_option linter.unusedVariables false
set_option maxRecDepth 100000
set_option linter.unusedSimpArgs false
namespace Go.Proofs.YtckpndbmpigegaaDoor
open Go.RowKit Go.Mem Orange

theorem refnext_nil (a : Option Addr) (cap : Nat) (w : World) :
    Calls Tryd.prog 60 #[.slice a 0 cap] w fun e w' => e = .returned (.tuple #[.int .i32 0, .int .i64 0]) ∧ Ext w w' := by
  go_enter Tryd.func60, Tryd.ntmps60
  go_wp2_with fail
  go_ret2
  exact ⟨rfl, ext_refl w⟩

theorem next_ref {xs : List UInt8} {x : UInt8} {n : Nat} {r : Int} (h0 : xs[0]? = some x) (hk : kind x = n) (hr : fold6 ((xs.take n).drop 1) (lead0 x) = r) :
    next xs = if sound r = true ∧ begins xs (enc r) = true ∧ (enc r).length = n then (r, n) else (0, 0) := by
  split
  · rename_i h; exact next_yes h.1 h.2.1 h.2.2
  · rename_i h
    cases xs with
    | nil => simp at h0
    | cons y t =>
      obtain rfl : y = x := by simpa using h0
      subst hk
      exact next_no hr h
theorem next_few {xs : List UInt8} {x : UInt8} {n : Nat} (h0 : xs[0]? = some x) (hk : kind x = n) (h : xs.length < n) : next xs = (0, 0) := by
  cases xs with
  | nil => rfl
  | cons y t =>
    obtain rfl : y = x := by simpa using h0
    exact next_short (by rw [hk]; simpa using h)
theorem pow_next {r c : Int} {i : Nat} (h : r < 256 * 64 ^ i) (hc : c < 64) : r * 64 + c < 256 * 64 ^ (i + 1) := r_next h hc
theorem pow_small {r : Int} {i : Nat} (h : r < 256 * 64 ^ i) (hi : i ≤ 3) : r < 67108864 := by
  have : i = 0 ∨ i = 1 ∨ i = 2 ∨ i = 3 := by omega
  rcases this with rfl | rfl | rfl | rfl <;> simp at h <;> omega

set_option maxHeartbeats 3200000 in
set_option maxRecDepth 100000 in
theorem refnext_any (v : Value) (xs : List UInt8) (w : World) (hx : Bytes w v xs) :
    Calls Tryd.prog 60 #[v] w fun e w' => e = .returned (.tuple #[.int .i32 (next xs).1, .int .i64 (next xs).2]) ∧ Ext w w' := by
  have hx0 := hx
  obtain ⟨a, cap, rfl, hxc, hxm, hxl, hat⟩ := hx0
  by_cases hn0 : xs.length = 0
  · obtain rfl := List.eq_nil_of_length_eq_zero hn0
    exact refnext_nil a cap w
  have hpos : 0 < xs.length := by omega
  obtain ⟨b, o, rfl, hbl, hc⟩ := hat hpos
  have hc0 := hc 0 hpos
  have h0 : xs[0]? = some xs[0] := by simp [hpos]
  have hx8 : xs[0].toNat < 256 := xs[0].toNat_lt
  rw [Nat.add_zero] at hc0
  generalize xs[0] = x at hc0 h0 hx8
  have H0 := Lib.hid h0
  have HC := Lib.hid hc
  have HX := Lib.hid hx
  clear h0 hc hat hx hn0
  by_cases h240 : 240 ≤ x.toNat
  · have hk : kind x = 4 := by rw [kind, if_pos h240]
    have hl : lead0 x = (x.toNat : Int) % 8 := by rw [lead0, if_pos h240]
    have HK := Lib.hid hk
    have HL := Lib.hid hl
    clear hk hl
    by_cases hlen : xs.length < 4
    · first
      | (exfalso; omega)
      | (have hz : Hid (next xs = (0, 0)) := Lib.hid (next_few H0.out HK.out hlen)
         go_enter Tryd.func60, Tryd.ntmps60
         go_wp2_with fail
         go_ret2
         refine ⟨?_, ext_refl w⟩
         rw [hz.out]; rfl)
    · have hd : decide ((xs.length : Int) < 4) = false := by simp; omega
      go_enter Tryd.func60, Tryd.ntmps60
      go_wp2_with fail
      go_loop [4, 6] (fun rv iv => ∃ (k : Nat) (r : Int), k + 1 ≤ 4 ∧ iv = .int .i64 (k + 1 : Nat) ∧ rv = .int .i64 r ∧ 0 ≤ r ∧ r < 256 * 64 ^ k ∧ fold6 ((xs.take 4).drop 1) ((x.toNat : Int) % 8) = fold6 ((xs.take 4).drop (k + 1)) r) (fun _ iv => 5 - (intOf iv).toNat)
      case atStart => exact ⟨0, (x.toNat : Int) % 8, by omega, rfl, rfl, by omega, by omega, rfl⟩
      case round =>
        obtain ⟨k, r, hk, rfl, rfl, hr0, hrh, hf⟩ := hrel
        have HF := Lib.hid hf
        have HRH := Lib.hid hrh
        clear hf hrh
        by_cases hlt : k + 1 < 4
        · first
          | (exfalso; omega)
          | (have hkx : k + 1 < xs.length := by omega
             have hck := HC.out (k + 1) hkx
             have hr2 : r < 67108864 := pow_small HRH.out (by omega)
             have hstep := fold6_at xs 4 (k + 1) r hlt hkx
             have hc8 : xs[k + 1].toNat < 256 := xs[k + 1].toNat_lt
             generalize xs[k + 1] = c at hck hstep hc8
             have HS := Lib.hid hstep
             clear hstep
             go_wp2_with fail
             go_round
             case rel => exact ⟨k + 1, r * 64 + (c.toNat : Int) % 64, by omega, by go_num, rfl, by omega, pow_next HRH.out (by omega), by rw [HF.out, HS.out]⟩
             case measure => simp [intOf]; omega)
        · obtain rfl : k = 4 - 1 := by omega
          have hr2 : r < 67108864 := pow_small HRH.out (by omega)
          have hfin : Hid (next xs = if sound r = true ∧ begins xs (enc r) = true ∧ (enc r).length = 4 then (r, 4) else (0, 0)) :=
            Lib.hid (next_ref H0.out HK.out (by rw [HL.out]; exact HF.out.trans (fold6_end xs 4 r)))
          by_cases hs : sound r = true
          · have hsb := sound_iff r |>.1 hs
            have hr3 : r ≤ 1114111 := by omega
            have HSB := Lib.hid hsb
            clear hsb
            go_wp2_with fail
            refine (valid_any _ _).mono ?_
            rintro e w1 ⟨rfl, rfl⟩
            go_wp2_with fail
            refine (bytes_any _ _ hr0 hr3).mono ?_
            rintro e w2 ⟨⟨v2, rfl, hb2⟩, hw2⟩
            go_wp2_with fail
            refine (begins_any _ xs _ _ _ (HX.out.ext hw2) hb2).mono ?_
            rintro e w3 ⟨rfl, hw3⟩
            by_cases hbg : begins xs (enc r) = true
            · go_wp2_with fail
              refine (bytes_any _ _ hr0 hr3).mono ?_
              rintro e w4 ⟨⟨v4, rfl, hb4⟩, hw4⟩
              obtain ⟨a4, c4, rfl, _⟩ := hb4
              have hE := ext_trans hw2 (ext_trans hw3 hw4)
              by_cases hen : (enc r).length = 4
              · rw [hen]
                go_wp2_with fail
                go_ret2
                refine ⟨?_, hE⟩
                rw [hfin.out, if_pos ⟨hs, hbg, hen⟩]; rfl
              · have hd1 : (((enc r).length : Int) != 4) = true := by simp; omega
                go_wp2_with fail
                go_ret2
                refine ⟨?_, hE⟩
                rw [hfin.out, if_neg (fun h => hen h.2.2)]; rfl
            · have hbf : begins xs (enc r) = false := by simpa using hbg
              go_wp2_with fail
              go_ret2
              refine ⟨?_, ext_trans hw2 hw3⟩
              rw [hfin.out, if_neg (fun h => hbg h.2.1)]; rfl
          · have hs : sound r = false := by simpa using hs
            go_wp2_with fail
            refine (valid_any _ _).mono ?_
            rintro e w1 ⟨rfl, rfl⟩
            go_wp2_with fail
            go_ret2
            refine ⟨?_, ext_refl _⟩
            rw [hfin.out, if_neg (fun h => by rw [hs] at h; simp at h)]; rfl
  · by_cases h224 : 224 ≤ x.toNat
    · have hk : kind x = 3 := by rw [kind, if_neg h240, if_pos h224]
      have hl : lead0 x = (x.toNat : Int) % 16 := by rw [lead0, if_neg h240, if_pos h224]
      have HK := Lib.hid hk
      have HL := Lib.hid hl
      clear hk hl
      by_cases hlen : xs.length < 3
      · first
        | (exfalso; omega)
        | (have hz : Hid (next xs = (0, 0)) := Lib.hid (next_few H0.out HK.out hlen)
           go_enter Tryd.func60, Tryd.ntmps60
           go_wp2_with fail
           go_ret2
           refine ⟨?_, ext_refl w⟩
           rw [hz.out]; rfl)
      · have hd : decide ((xs.length : Int) < 3) = false := by simp; omega
        go_enter Tryd.func60, Tryd.ntmps60
        go_wp2_with fail
        go_loop [4, 6] (fun rv iv => ∃ (k : Nat) (r : Int), k + 1 ≤ 3 ∧ iv = .int .i64 (k + 1 : Nat) ∧ rv = .int .i64 r ∧ 0 ≤ r ∧ r < 256 * 64 ^ k ∧ fold6 ((xs.take 3).drop 1) ((x.toNat : Int) % 16) = fold6 ((xs.take 3).drop (k + 1)) r) (fun _ iv => 5 - (intOf iv).toNat)
        case atStart => exact ⟨0, (x.toNat : Int) % 16, by omega, rfl, rfl, by omega, by omega, rfl⟩
        case round =>
          obtain ⟨k, r, hk, rfl, rfl, hr0, hrh, hf⟩ := hrel
          have HF := Lib.hid hf
          have HRH := Lib.hid hrh
          clear hf hrh
          by_cases hlt : k + 1 < 3
          · first
            | (exfalso; omega)
            | (have hkx : k + 1 < xs.length := by omega
               have hck := HC.out (k + 1) hkx
               have hr2 : r < 67108864 := pow_small HRH.out (by omega)
               have hstep := fold6_at xs 3 (k + 1) r hlt hkx
               have hc8 : xs[k + 1].toNat < 256 := xs[k + 1].toNat_lt
               generalize xs[k + 1] = c at hck hstep hc8
               have HS := Lib.hid hstep
               clear hstep
               go_wp2_with fail
               go_round
               case rel => exact ⟨k + 1, r * 64 + (c.toNat : Int) % 64, by omega, by go_num, rfl, by omega, pow_next HRH.out (by omega), by rw [HF.out, HS.out]⟩
               case measure => simp [intOf]; omega)
          · obtain rfl : k = 3 - 1 := by omega
            have hr2 : r < 67108864 := pow_small HRH.out (by omega)
            have hfin : Hid (next xs = if sound r = true ∧ begins xs (enc r) = true ∧ (enc r).length = 3 then (r, 3) else (0, 0)) :=
              Lib.hid (next_ref H0.out HK.out (by rw [HL.out]; exact HF.out.trans (fold6_end xs 3 r)))
            by_cases hs : sound r = true
            · have hsb := sound_iff r |>.1 hs
              have hr3 : r ≤ 1114111 := by omega
              have HSB := Lib.hid hsb
              clear hsb
              go_wp2_with fail
              refine (valid_any _ _).mono ?_
              rintro e w1 ⟨rfl, rfl⟩
              go_wp2_with fail
              refine (bytes_any _ _ hr0 hr3).mono ?_
              rintro e w2 ⟨⟨v2, rfl, hb2⟩, hw2⟩
              go_wp2_with fail
              refine (begins_any _ xs _ _ _ (HX.out.ext hw2) hb2).mono ?_
              rintro e w3 ⟨rfl, hw3⟩
              by_cases hbg : begins xs (enc r) = true
              · go_wp2_with fail
                refine (bytes_any _ _ hr0 hr3).mono ?_
                rintro e w4 ⟨⟨v4, rfl, hb4⟩, hw4⟩
                obtain ⟨a4, c4, rfl, _⟩ := hb4
                have hE := ext_trans hw2 (ext_trans hw3 hw4)
                by_cases hen : (enc r).length = 3
                · rw [hen]
                  go_wp2_with fail
                  go_ret2
                  refine ⟨?_, hE⟩
                  rw [hfin.out, if_pos ⟨hs, hbg, hen⟩]; rfl
                · have hd1 : (((enc r).length : Int) != 3) = true := by simp; omega
                  go_wp2_with fail
                  go_ret2
                  refine ⟨?_, hE⟩
                  rw [hfin.out, if_neg (fun h => hen h.2.2)]; rfl
              · have hbf : begins xs (enc r) = false := by simpa using hbg
                go_wp2_with fail
                go_ret2
                refine ⟨?_, ext_trans hw2 hw3⟩
                rw [hfin.out, if_neg (fun h => hbg h.2.1)]; rfl
            · have hs : sound r = false := by simpa using hs
              go_wp2_with fail
              refine (valid_any _ _).mono ?_
              rintro e w1 ⟨rfl, rfl⟩
              go_wp2_with fail
              go_ret2
              refine ⟨?_, ext_refl _⟩
              rw [hfin.out, if_neg (fun h => by rw [hs] at h; simp at h)]; rfl
    · by_cases h192 : 192 ≤ x.toNat
      · have hk : kind x = 2 := by rw [kind, if_neg h240, if_neg h224, if_pos h192]
        have hl : lead0 x = (x.toNat : Int) % 32 := by rw [lead0, if_neg h240, if_neg h224, if_pos h192]
        have HK := Lib.hid hk
        have HL := Lib.hid hl
        clear hk hl
        by_cases hlen : xs.length < 2
        · first
          | (exfalso; omega)
          | (have hz : Hid (next xs = (0, 0)) := Lib.hid (next_few H0.out HK.out hlen)
             go_enter Tryd.func60, Tryd.ntmps60
             go_wp2_with fail
             go_ret2
             refine ⟨?_, ext_refl w⟩
             rw [hz.out]; rfl)
        · have hd : decide ((xs.length : Int) < 2) = false := by simp; omega
          go_enter Tryd.func60, Tryd.ntmps60
          go_wp2_with fail
          go_loop [4, 6] (fun rv iv => ∃ (k : Nat) (r : Int), k + 1 ≤ 2 ∧ iv = .int .i64 (k + 1 : Nat) ∧ rv = .int .i64 r ∧ 0 ≤ r ∧ r < 256 * 64 ^ k ∧ fold6 ((xs.take 2).drop 1) ((x.toNat : Int) % 32) = fold6 ((xs.take 2).drop (k + 1)) r) (fun _ iv => 5 - (intOf iv).toNat)
          case atStart => exact ⟨0, (x.toNat : Int) % 32, by omega, rfl, rfl, by omega, by omega, rfl⟩
          case round =>
            obtain ⟨k, r, hk, rfl, rfl, hr0, hrh, hf⟩ := hrel
            have HF := Lib.hid hf
            have HRH := Lib.hid hrh
            clear hf hrh
            by_cases hlt : k + 1 < 2
            · first
              | (exfalso; omega)
              | (have hkx : k + 1 < xs.length := by omega
                 have hck := HC.out (k + 1) hkx
                 have hr2 : r < 67108864 := pow_small HRH.out (by omega)
                 have hstep := fold6_at xs 2 (k + 1) r hlt hkx
                 have hc8 : xs[k + 1].toNat < 256 := xs[k + 1].toNat_lt
                 generalize xs[k + 1] = c at hck hstep hc8
                 have HS := Lib.hid hstep
                 clear hstep
                 go_wp2_with fail
                 go_round
                 case rel => exact ⟨k + 1, r * 64 + (c.toNat : Int) % 64, by omega, by go_num, rfl, by omega, pow_next HRH.out (by omega), by rw [HF.out, HS.out]⟩
                 case measure => simp [intOf]; omega)
            · obtain rfl : k = 2 - 1 := by omega
              have hr2 : r < 67108864 := pow_small HRH.out (by omega)
              have hfin : Hid (next xs = if sound r = true ∧ begins xs (enc r) = true ∧ (enc r).length = 2 then (r, 2) else (0, 0)) :=
                Lib.hid (next_ref H0.out HK.out (by rw [HL.out]; exact HF.out.trans (fold6_end xs 2 r)))
              by_cases hs : sound r = true
              · have hsb := sound_iff r |>.1 hs
                have hr3 : r ≤ 1114111 := by omega
                have HSB := Lib.hid hsb
                clear hsb
                go_wp2_with fail
                refine (valid_any _ _).mono ?_
                rintro e w1 ⟨rfl, rfl⟩
                go_wp2_with fail
                refine (bytes_any _ _ hr0 hr3).mono ?_
                rintro e w2 ⟨⟨v2, rfl, hb2⟩, hw2⟩
                go_wp2_with fail
                refine (begins_any _ xs _ _ _ (HX.out.ext hw2) hb2).mono ?_
                rintro e w3 ⟨rfl, hw3⟩
                by_cases hbg : begins xs (enc r) = true
                · go_wp2_with fail
                  refine (bytes_any _ _ hr0 hr3).mono ?_
                  rintro e w4 ⟨⟨v4, rfl, hb4⟩, hw4⟩
                  obtain ⟨a4, c4, rfl, _⟩ := hb4
                  have hE := ext_trans hw2 (ext_trans hw3 hw4)
                  by_cases hen : (enc r).length = 2
                  · rw [hen]
                    go_wp2_with fail
                    go_ret2
                    refine ⟨?_, hE⟩
                    rw [hfin.out, if_pos ⟨hs, hbg, hen⟩]; rfl
                  · have hd1 : (((enc r).length : Int) != 2) = true := by simp; omega
                    go_wp2_with fail
                    go_ret2
                    refine ⟨?_, hE⟩
                    rw [hfin.out, if_neg (fun h => hen h.2.2)]; rfl
                · have hbf : begins xs (enc r) = false := by simpa using hbg
                  go_wp2_with fail
                  go_ret2
                  refine ⟨?_, ext_trans hw2 hw3⟩
                  rw [hfin.out, if_neg (fun h => hbg h.2.1)]; rfl
              · have hs : sound r = false := by simpa using hs
                go_wp2_with fail
                refine (valid_any _ _).mono ?_
                rintro e w1 ⟨rfl, rfl⟩
                go_wp2_with fail
                go_ret2
                refine ⟨?_, ext_refl _⟩
                rw [hfin.out, if_neg (fun h => by rw [hs] at h; simp at h)]; rfl
      · have hk : kind x = 1 := by rw [kind, if_neg h240, if_neg h224, if_neg h192]
        have hl : lead0 x = (x.toNat : Int) := by rw [lead0, if_neg h240, if_neg h224, if_neg h192]
        have HK := Lib.hid hk
        have HL := Lib.hid hl
        clear hk hl
        by_cases hlen : xs.length < 1
        · first
          | (exfalso; omega)
          | (have hz : Hid (next xs = (0, 0)) := Lib.hid (next_few H0.out HK.out hlen)
             go_enter Tryd.func60, Tryd.ntmps60
             go_wp2_with fail
             go_ret2
             refine ⟨?_, ext_refl w⟩
             rw [hz.out]; rfl)
        · have hd : decide ((xs.length : Int) < 1) = false := by simp; omega
          go_enter Tryd.func60, Tryd.ntmps60
          go_wp2_with fail
          go_loop [4, 6] (fun rv iv => ∃ (k : Nat) (r : Int), k + 1 ≤ 1 ∧ iv = .int .i64 (k + 1 : Nat) ∧ rv = .int .i64 r ∧ 0 ≤ r ∧ r < 256 * 64 ^ k ∧ fold6 ((xs.take 1).drop 1) ((x.toNat : Int)) = fold6 ((xs.take 1).drop (k + 1)) r) (fun _ iv => 5 - (intOf iv).toNat)
          case atStart => exact ⟨0, (x.toNat : Int), by omega, rfl, rfl, by omega, by omega, rfl⟩
          case round =>
            obtain ⟨k, r, hk, rfl, rfl, hr0, hrh, hf⟩ := hrel
            have HF := Lib.hid hf
            have HRH := Lib.hid hrh
            clear hf hrh
            by_cases hlt : k + 1 < 1
            · first
              | (exfalso; omega)
              | (have hkx : k + 1 < xs.length := by omega
                 have hck := HC.out (k + 1) hkx
                 have hr2 : r < 67108864 := pow_small HRH.out (by omega)
                 have hstep := fold6_at xs 1 (k + 1) r hlt hkx
                 have hc8 : xs[k + 1].toNat < 256 := xs[k + 1].toNat_lt
                 generalize xs[k + 1] = c at hck hstep hc8
                 have HS := Lib.hid hstep
                 clear hstep
                 go_wp2_with fail
                 go_round
                 case rel => exact ⟨k + 1, r * 64 + (c.toNat : Int) % 64, by omega, by go_num, rfl, by omega, pow_next HRH.out (by omega), by rw [HF.out, HS.out]⟩
                 case measure => simp [intOf]; omega)
            · obtain rfl : k = 1 - 1 := by omega
              have hr2 : r < 67108864 := pow_small HRH.out (by omega)
              have hfin : Hid (next xs = if sound r = true ∧ begins xs (enc r) = true ∧ (enc r).length = 1 then (r, 1) else (0, 0)) :=
                Lib.hid (next_ref H0.out HK.out (by rw [HL.out]; exact HF.out.trans (fold6_end xs 1 r)))
              by_cases hs : sound r = true
              · have hsb := sound_iff r |>.1 hs
                have hr3 : r ≤ 1114111 := by omega
                have HSB := Lib.hid hsb
                clear hsb
                go_wp2_with fail
                refine (valid_any _ _).mono ?_
                rintro e w1 ⟨rfl, rfl⟩
                go_wp2_with fail
                refine (bytes_any _ _ hr0 hr3).mono ?_
                rintro e w2 ⟨⟨v2, rfl, hb2⟩, hw2⟩
                go_wp2_with fail
                refine (begins_any _ xs _ _ _ (HX.out.ext hw2) hb2).mono ?_
                rintro e w3 ⟨rfl, hw3⟩
                by_cases hbg : begins xs (enc r) = true
                · go_wp2_with fail
                  refine (bytes_any _ _ hr0 hr3).mono ?_
                  rintro e w4 ⟨⟨v4, rfl, hb4⟩, hw4⟩
                  obtain ⟨a4, c4, rfl, _⟩ := hb4
                  have hE := ext_trans hw2 (ext_trans hw3 hw4)
                  by_cases hen : (enc r).length = 1
                  · rw [hen]
                    go_wp2_with fail
                    go_ret2
                    refine ⟨?_, hE⟩
                    rw [hfin.out, if_pos ⟨hs, hbg, hen⟩]; rfl
                  · have hd1 : (((enc r).length : Int) != 1) = true := by simp; omega
                    go_wp2_with fail
                    go_ret2
                    refine ⟨?_, hE⟩
                    rw [hfin.out, if_neg (fun h => hen h.2.2)]; rfl
                · have hbf : begins xs (enc r) = false := by simpa using hbg
                  go_wp2_with fail
                  go_ret2
                  refine ⟨?_, ext_trans hw2 hw3⟩
                  rw [hfin.out, if_neg (fun h => hbg h.2.1)]; rfl
              · have hs : sound r = false := by simpa using hs
                go_wp2_with fail
                refine (valid_any _ _).mono ?_
                rintro e w1 ⟨rfl, rfl⟩
                go_wp2_with fail
                go_ret2
                refine ⟨?_, ext_refl _⟩
                rw [hfin.out, if_neg (fun h => by rw [hs] at h; simp at h)]; rfl
end Go.Proofs.YtckpndbmpigegaaDoor
end

section
/- Slices whose elements are one cell each: as a list of values. -/
set_option linter.unusedVariables false
set_option maxRecDepth 100000
namespace Go.Mem
open Go.RowKit

/-- a slice value that reads as a list of values of one cell each -/
def Row (w : World) (v : Value) (vs : List Value) : Prop :=
  ∃ a cap, v = .slice a vs.length cap ∧ vs.length ≤ cap ∧ cap ≤ 9223372036854775807 ∧
    (0 < vs.length → ∃ b o, a = some ⟨b, o, none⟩ ∧ b < w.heap.size ∧ ∀ i, (h : i < vs.length) → w.cell? ⟨b, o + i, none⟩ = some vs[i])
theorem Row.ext {w w' : World} {v : Value} {vs : List Value} (h : Row w v vs) (hb : Ext w w') : Row w' v vs := by
  obtain ⟨a, cap, e, h1, h2, h3⟩ := h
  refine ⟨a, cap, e, h1, h2, fun hn => ?_⟩
  obtain ⟨b, o, rfl, hlt, hc⟩ := h3 hn
  refine ⟨b, o, rfl, Nat.lt_of_lt_of_le hlt hb.size, fun i hi => ?_⟩
  rw [hb.cell (p := ⟨b, o + i, none⟩) hlt]
  exact hc i hi

/-- such a slice of the call's own -/
def OwnV (w : World) (base : Nat) (e : TypeId) (v : Value) (vs : List Value) : Prop := w.ownsRow base e 1 v vs.length vs
theorem OwnV.nil (w : World) (base : Nat) (e : TypeId) : OwnV w base e (.slice none 0 0) [] := World.ownsRow_nil w base e 1
theorem OwnV.ext {w w' : World} {base : Nat} {e : TypeId} {v : Value} {vs : List Value} (h : OwnV w base e v vs) (hb : Ext w w') : OwnV w' base e v vs := by
  obtain ⟨h1, h2⟩ := h
  refine ⟨h1, ?_⟩
  rcases h2 with h2 | ⟨g, cap, cur, rfl, hbg, hg, r⟩
  · exact .inl h2
  · exact .inr ⟨g, cap, cur, rfl, hbg, by rw [hb.block g (Array.getElem?_eq_some_iff.1 hg).1]; exact hg, r⟩
theorem OwnV.shape {w : World} {base : Nat} {e : TypeId} {v : Value} {vs : List Value} (h : OwnV w base e v vs) : ∃ a c, v = .slice a vs.length c := by
  rcases h.2 with ⟨rfl, h0⟩ | ⟨g, cap, cur, rfl, _⟩
  · exact ⟨_, _, by rw [h0]⟩
  · exact ⟨_, _, rfl⟩
theorem OwnV.row {w : World} {base : Nat} {e : TypeId} {v : Value} {vs : List Value} (h : OwnV w base e v vs) : Row w v vs := by
  obtain ⟨h1, h2⟩ := h
  rcases h2 with ⟨rfl, h0⟩ | ⟨g, cap, cur, rfl, hb, hg, hnc, hcm, hcs, ht⟩
  · exact ⟨none, 0, by rw [h0], by omega, by omega, fun hn => by omega⟩
  · have hcm' : cap ≤ 9223372036854775807 := by simpa [maxLen] using hcm
    refine ⟨_, _, rfl, hnc, hcm', fun hn => ⟨g, 0, rfl, (Array.getElem?_eq_some_iff.1 hg).1, fun i hi => ?_⟩⟩
    have hc : vs[i]? = some vs[i] := by simp [hi]
    rw [Nat.mul_one] at ht
    conv at hc => lhs; rw [← ht]
    rw [List.getElem?_take] at hc
    simp only [hi, if_true, Array.getElem?_toList] at hc
    simp [World.cell?, hg, hc]
section
variable {P : Program}
/-- append of one value -/
theorem wpList_append_one {ops : Array Oper} {rest : List Oper} {o : Oper} {a : Act} {w : World} {Q : Exit → Act → World → Prop} (hgd : Region.wanted o (yielded ops a.tmps) = true) (s xo : Operand) (t tx : TypeId)
    (ho : o.op = .call { callee := .builtin .append, args := #[s, xo], argTypes := #[t, tx] })
    (base : Nat) (e : TypeId) (i : TypeInfo) (z : Value) (bytes : Nat) (ht : P.underlying t = some (.slice e)) (hi : P.info? e = some i) (hz : i.zero = some z) (hsize : i.size = 1) (hby : i.bytes = bytes) (hzs : z.cells.size = 1)
    (htx : ∃ e', P.underlying tx = some (.slice e'))
    (v : Value) (vs : List Value) (hs : a.eval s = v) (hown : OwnV w base e v vs) (g : Nat) (u : Value) (te : TypeId) (fr : Nat × Nat) (hx : a.eval xo = .slice (some ⟨g, 0, none⟩) 1 1) (hg : w.heap[g]? = some (.cells #[u] te fr)) (hu : u.oneCell' = true)
    (hl : (vs.length + 1) * bytes ≤ 140737488355328) (hl2 : vs.length < 140737488355328) (hbase : base ≤ w.heap.size)
    (h : ∀ a' c' w', OwnV w' base e (.slice a' (vs.length + 1) c') (vs ++ [u]) → Below base w w' → wpList P ops Q rest (a.put o.dst (.slice a' (vs.length + 1) c')) w') : wpList P ops Q (o :: rest) a w := by
  obtain ⟨e', htx⟩ := htx
  refine wpList_append_src w hgd s xo t tx ho base e i z 1 bytes ht hi hz hsize hby hzs (by decide) v _ vs hs hown _ 1 [u] hx (Src.ofSlice w htx ⟨g, 0, none⟩ 1 1 [u] rfl ?_ ?_) (by simp only [maxLen]; omega) hl hbase ?_
  · intro j x hj
    have hj0 : j = 0 := by
      rcases Nat.eq_zero_or_pos j with h | h
      · exact h
      · rw [List.getElem?_eq_none (by simp; omega)] at hj; cases hj
    subst hj0
    simp only [List.getElem?_cons_zero, Option.some.injEq] at hj
    subst hj
    simp [World.cell?, Addr.add, hg]
  · intro x hx
    rw [List.mem_singleton.1 hx]
    exact hu
  · intro v' w' ho' hgr
    have hk : OwnV w' base e v' (vs ++ [u]) := by unfold OwnV; rw [List.length_append]; exact ho'
    obtain ⟨a', c', rfl⟩ := hk.shape
    rw [List.length_append] at hk ⊢
    exact h a' c' w' hk (Below.ofGrown hgr hown hbase)
end
end Go.Mem
end

section
/- orangeryref01: what Put does. -/
set_option linter.unusedVariables false
set_option maxRecDepth 100000
set_option linter.unusedSimpArgs false
namespace Go.Proofs.YtckpndbmpigegaaDoor
open Go.RowKit Go.Mem Orange

def cells64 (xs : List Int) : List Value := xs.map fun r => Value.int .i64 r
@[simp] theorem cells64_length (xs : List Int) : (cells64 xs).length = xs.length := by simp [cells64]
theorem info64 : (Tryd.prog.info? 3).map (fun i => (i.zero, i.size, i.bytes)) = some (some (.int .i64 0), 1, 8) := by kernel_rfl
set_option maxHeartbeats 800000 in
theorem refput_any (v : Value) (xs : List UInt8) (r : Int) (w : World) (hx : Bytes w v xs) (hl : xs.length ≤ 140737488355000) (h0 : -2147483648 ≤ r) (h1 : r ≤ 2147483647) :
    Calls Tryd.prog 62 #[v, .int .i32 r] w fun e w' => ∃ v', e = .returned v' ∧ Bytes w' v' (xs ++ encP r) ∧ Ext w w' := by
  obtain ⟨r1, hs1, he1, hr1⟩ : ∃ r1, sound r1 = true ∧ encP r = enc r1 ∧ ((sound r = true ∧ r1 = r) ∨ (sound r = false ∧ r1 = 65533)) := by
    by_cases h : sound r = true
    · exact ⟨r, h, by rw [encP, if_pos h], .inl ⟨h, rfl⟩⟩
    · exact ⟨65533, by decide, by rw [encP, if_neg h], .inr ⟨by simpa using h, rfl⟩⟩
  have hsb := sound_iff r1 |>.1 hs1
  have hb0 : 0 ≤ r1 := by omega
  have hb1 : r1 ≤ 1114111 := by omega
  have hp := enc_pos r1
  have hp4 : (enc r1).length ≤ 4 := hp.2
  have HE1 := Lib.hid he1
  clear hsb hp he1
  have hx0 := hx
  obtain ⟨a, ca, rfl, hxc, hxm, hxl, hxat⟩ := hx0
  clear hxat
  have hB0 := ownB_new w #[] 5 [] rfl 0 rfl (by omega)
  have hx3 := hx.ext ((ext_refl w).alloc (Nat.le_refl _) (.cells #[] 5))
  go_enter Tryd.func62, Tryd.ntmps62
  go_wp2_with fail
  refine (valid_any _ _).mono ?_
  rintro e w1 ⟨rfl, rfl⟩
  rcases hr1 with ⟨hs, rfl⟩ | ⟨hs, rfl⟩
  all_goals
    clear hs1
    go_wp2_with (first
      | (at_builtin; refine wpList_append_bytes rfl _ _ rfl w.heap.size _ [] rfl hB0 _ xs rfl hx3 (by simp only [List.length_nil]; omega) (by simp) ?_; intro a5 c5 w5 hown5 hw5; rw [List.nil_append, List.length_nil, Nat.zero_add] at hown5; have hs5 : w.heap.size ≤ w5.heap.size := (by have := hw5.size; simp at this; omega); have hE5 : Ext w w5 := ((Below.refl w.heap.size w).alloc (Nat.le_refl _) _).trans hw5)
      | (go_at_call 83; refine (bytes_any _ _ hb0 hb1).mono ?_; rintro e w6 ⟨⟨v6, rfl, hb6⟩, hw6⟩; (have hb6x := hb6; obtain ⟨a6, c6, rfl, _⟩ := hb6x); have hown6 := OwnB.ext hown5 hw6; have hs6 : w.heap.size ≤ w6.heap.size := (by have := hw6.size; omega); have hl6 := Nat.le_trans (Nat.add_le_add_left hp4 xs.length) (show xs.length + 4 ≤ 140737488355328 by omega))
      | (at_builtin; refine wpList_append_bytes rfl _ _ rfl w.heap.size _ xs rfl hown6 _ _ rfl hb6 hl6 hs6 ?_; intro a7 c7 w7 hown7 hw7))
    go_ret
    refine ⟨_, rfl, ?_, hE5.trans ((hw6.mono hs5).trans hw7)⟩
    have := hown7.bytes (by rw [List.length_append]; exact hl6)
    rw [HE1.out]
    simpa using this

end Go.Proofs.YtckpndbmpigegaaDoor
end

section
/- orangeryref01: what Quote does. -/
set_option linter.unusedVariables false
set_option maxRecDepth 100000
set_option linter.unusedSimpArgs false
namespace Go.Proofs.YtckpndbmpigegaaDoor
open Go.RowKit Go.Mem Orange

theorem ba_append (a b : ByteArray) : (a ++ b).data.toList = a.data.toList ++ b.data.toList := by simp
theorem ba_one (s : ByteArray) (i : Nat) (h : i < s.size) : (s.extract i (i + 1)).data.toList = [s[i]] := by
  have h1 : (s.extract i (i + 1)).data.toList = (s.data.toList.drop i).take 1 := by simp [ByteArray.data_extract, Array.toList_extract]
  rw [h1, List.drop_eq_getElem_cons (by simpa using h)]
  simp; rfl
theorem ba_ext {a b : ByteArray} (h : a.data.toList = b.data.toList) : a = b := by
  cases a; cases b; congr 1; exact Array.toList_inj.1 h
end Go.Proofs.YtckpndbmpigegaaDoor
end

section
/- orangeryref01: what hex does. -/
set_option linter.unusedVariables false
set_option maxRecDepth 100000
set_option linter.unusedSimpArgs false
namespace Orange
def loB : ByteArray := ⟨#[48, 49, 50, 51, 52, 53, 54, 55, 56, 57, 97, 98, 99, 100, 101, 102]⟩
def upB : ByteArray := ⟨#[48, 49, 50, 51, 52, 53, 54, 55, 56, 57, 65, 66, 67, 68, 69, 70]⟩
def hexScan (c : UInt8) : Nat → Int
  | 0 => -1
  | k + 1 => if c = loB.get! k ∨ c = upB.get! k then k else hexScan c k
theorem hexScan_end (c : UInt8) : hexScan c 16 = hexD c := by
  have h1 := u8f (p := fun n => hexScan (UInt8.ofNat n) 16 == hexD (UInt8.ofNat n)) (by decide +kernel) c
  rw [UInt8.ofNat_toNat, beq_iff_eq] at h1
  exact h1
theorem hexScan_bd (c : UInt8) : ∀ k, -1 ≤ hexScan c k ∧ hexScan c k ≤ k
  | 0 => by simp [hexScan]
  | k + 1 => by
    have := hexScan_bd c k
    rw [hexScan]; split <;> omega
/-- the number of four digits; below 0: they are none -/
def hexv (xs : List UInt8) : Int := if xs.length < 4 then -1 else match hexN (xs.take 4) 0 with | some v => v | none => -1
theorem hexN_nn (xs : List UInt8) (i : Nat) (v : Int) (hi : i = 4) (hl : 4 ≤ xs.length) : hexN ((xs.take 4).drop i) v = some v := by
  subst hi
  rw [List.drop_of_length_le (by simp; omega), hexN]
end Orange
namespace Go.Proofs.YtckpndbmpigegaaDoor
open Go.RowKit Go.Mem Orange

theorem lo_at (k : Nat) (h : k < 16) : (ByteArray.mk #[48, 49, 50, 51, 52, 53, 54, 55, 56, 57, 97, 98, 99, 100, 101, 102])[k]'h = loB.get! k := by
  have : k = 0 ∨ k = 1 ∨ k = 2 ∨ k = 3 ∨ k = 4 ∨ k = 5 ∨ k = 6 ∨ k = 7 ∨ k = 8 ∨ k = 9 ∨ k = 10 ∨ k = 11 ∨ k = 12 ∨ k = 13 ∨ k = 14 ∨ k = 15 := by omega
  rcases this with rfl | rfl | rfl | rfl | rfl | rfl | rfl | rfl | rfl | rfl | rfl | rfl | rfl | rfl | rfl | rfl <;> rfl
theorem up_at (k : Nat) (h : k < 16) : (ByteArray.mk #[48, 49, 50, 51, 52, 53, 54, 55, 56, 57, 65, 66, 67, 68, 69, 70])[k]'h = upB.get! k := by
  have : k = 0 ∨ k = 1 ∨ k = 2 ∨ k = 3 ∨ k = 4 ∨ k = 5 ∨ k = 6 ∨ k = 7 ∨ k = 8 ∨ k = 9 ∨ k = 10 ∨ k = 11 ∨ k = 12 ∨ k = 13 ∨ k = 14 ∨ k = 15 := by omega
  rcases this with rfl | rfl | rfl | rfl | rfl | rfl | rfl | rfl | rfl | rfl | rfl | rfl | rfl | rfl | rfl | rfl <;> rfl

set_option maxHeartbeats 3200000 in
theorem refhex_any (v : Value) (xs : List UInt8) (w : World) (hx : Bytes w v xs) :
    Calls Tryd.prog 84 #[v] w fun e w' => e = .returned (.int .i64 (hexv xs)) ∧ Ext w w' := by
  obtain ⟨a, cap, rfl, hxc, hxm, hxl, hat⟩ := hx
  by_cases hl4 : xs.length < 4
  · have hv : Hid (hexv xs = -1) := Lib.hid (by rw [hexv, if_pos hl4])
    go_enter Tryd.func84, Tryd.ntmps84
    go_wp2_with fail
    go_ret
    exact ⟨ret_int hv.out.symm, ext_refl w⟩
  · obtain ⟨b, o, rfl, hbl, hc⟩ := hat (by omega)
    have hd : decide ((xs.length : Int) < 4) = false := by simp; omega
    have hv : hexv xs = match hexN (xs.take 4) 0 with | some v => v | none => -1 := by rw [hexv, if_neg hl4]
    have HV := Lib.hid hv
    have HC := Lib.hid hc
    clear hv hc hat
    go_enter Tryd.func84, Tryd.ntmps84
    go_wp2_with fail
    go_loopw [3, 4] (fun rv iv wr => ∃ (i n : Nat) (r : Int), i ≤ 4 ∧ iv = .int .i64 i ∧ rv = .int .i64 r ∧ 0 ≤ r ∧ r < 16 ^ i ∧ wr = w.drewN n ∧ hexN (xs.take 4) 0 = hexN ((xs.take 4).drop i) r) (fun _ iv _ => 4 - (intOf iv).toNat)
    case atStart => exact ⟨0, 0, 0, by omega, rfl, rfl, by omega, by decide, rfl, rfl⟩
    case round =>
      obtain ⟨i, n, r, hi, rfl, rfl, hr0, hrh, rfl, hf⟩ := hrel
      have HF := Lib.hid hf
      have HRH := Lib.hid hrh
      clear hf hrh
      have hr6 : r < 65537 := by
        have : i = 0 ∨ i = 1 ∨ i = 2 ∨ i = 3 ∨ i = 4 := by omega
        have h := HRH.out
        rcases this with rfl | rfl | rfl | rfl | rfl <;> simp at h <;> omega
      by_cases hlt : i < 4
      · have hit : i < xs.length := by omega
        have hci := HC.out i hit
        have hst := hexN_at xs 4 i r hlt hit
        have hbd := hexD_bd xs[i]
        have hc8 : xs[i].toNat < 256 := xs[i].toNat_lt
        generalize xs[i] = c at hci hst hbd hc8
        have HST := Lib.hid hst
        clear hst
        go_wp2_with fail
        go_loopw [5, 6] (fun dv kv wr => ∃ (k m : Nat), k ≤ 16 ∧ kv = .int .i64 k ∧ dv = .int .i64 (hexScan c k) ∧ wr = w.drewN m) (fun _ kv _ => 16 - (intOf kv).toNat)
        case atStart => exact ⟨0, n, by omega, rfl, rfl, rfl⟩
        case round =>
          obtain ⟨k, m, hk, rfl, rfl, rfl⟩ := hrel
          have hsb := hexScan_bd c k
          by_cases hkl : k < 16
          · have h1 := lo_at k hkl
            have h2 := up_at k hkl
            have hsn : hexScan c (k + 1) = if c = loB.get! k ∨ c = upB.get! k then (k : Int) else hexScan c k := rfl
            generalize loB.get! k = x at h1 hsn
            generalize upB.get! k = y at h2 hsn
            have HSN := Lib.hid hsn
            clear hsn
            by_cases hcx : c = x
            · have hb1 : ((c.toNat : Int) == x.toNat) = true := by simp [hcx]
              have HCX := Lib.hid hcx
              clear hcx
              go_wp2_with fail
              go_quiet (fail)
              go_wp2_with fail
              go_roundw
              case rel => exact ⟨k + 1, _, by omega, by go_num, by rw [HSN.out, if_pos (.inl HCX.out)], rfl⟩
              case measure => simp [intOf]; omega
            · have hne1 : (c.toNat : Int) ≠ x.toNat := fun e => hcx (UInt8.toNat_inj.1 (by omega))
              have hb1 : ((c.toNat : Int) == x.toNat) = false := by simpa using hne1
              clear hne1
              by_cases hcy : c = y
              · have hb2 : ((c.toNat : Int) == y.toNat) = true := by simp [hcy]
                have HCY := Lib.hid hcy
                clear hcy
                go_wp2_with fail
                go_quiet (fail)
                go_wp2_with fail
                go_roundw
                case rel => exact ⟨k + 1, _, by omega, by go_num, by rw [HSN.out, if_pos (.inr HCY.out)], rfl⟩
                case measure => simp [intOf]; omega
              · have hne2 : (c.toNat : Int) ≠ y.toNat := fun e => hcy (UInt8.toNat_inj.1 (by omega))
                have hb2 : ((c.toNat : Int) == y.toNat) = false := by simpa using hne2
                clear hne2
                go_wp2_with fail
                go_quiet (fail)
                go_wp2_with fail
                go_roundw
                case rel => exact ⟨k + 1, _, by omega, by go_num, by rw [HSN.out, if_neg (fun h => h.elim hcx hcy)], rfl⟩
                case measure => simp [intOf]; omega
          · obtain rfl : k = 16 := by omega
            rw [hexScan_end]
            clear hsb
            by_cases hneg : hexD c < 0
            · have hfin : Hid (hexv xs = -1) := Lib.hid (by rw [HV.out, HF.out, HST.out, if_pos hneg])
              go_wp2_with fail
              go_ret
              exact ⟨ret_int hfin.out.symm, below_drewN (ext_refl w) _⟩
            · have hnn : 0 ≤ hexD c := by omega
              go_wp2_with fail
              go_roundw
              case rel =>
                refine ⟨i + 1, _, _, by omega, by go_num, rfl, by omega, ?_, rfl, by rw [HF.out, HST.out, if_neg hneg]⟩
                have := HRH.out
                rw [Int.pow_succ]; omega
              case measure => simp [intOf]; omega
      · obtain rfl : i = 4 := by omega
        have hfin : Hid (hexv xs = r) := Lib.hid (by rw [HV.out, HF.out, hexN_nn xs 4 r rfl (by omega)])
        go_wp2_with fail
        go_ret
        exact ⟨ret_int hfin.out.symm, below_drewN (ext_refl w) _⟩
end Go.Proofs.YtckpndbmpigegaaDoor
end

section
/- orangeryref01: what Escape does. -/
set_option linter.unusedVariables false
set_option maxRecDepth 100000
set_option linter.unusedSimpArgs false
namespace Orange
theorem hexv_bd (xs : List UInt8) : -1 ≤ hexv xs ∧ hexv xs ≤ 65535 := by
  unfold hexv
  split
  · omega
  · rename_i h
    split
    · rename_i v hv
      have := hexN_bd _ _ _ (by decide) hv
      have hl : (xs.take 4).length = 4 := by simp; omega
      rw [hl] at this; omega
    · omega
theorem unit_hexv (t : List UInt8) : unit (117 :: t) = if hexv t < 0 then none else some (hexv t) := by
  simp only [unit, hexv]
  by_cases h : t.length < 4
  · simp [h]
  · simp only [h, decide_false, bne_self_eq_false, Bool.or_self, Bool.false_eq_true, if_false]
    cases hh : hexN (t.take 4) 0 with
    | none => simp
    | some v =>
      have := hexN_bd _ _ _ (by decide) hh
      simp only; rw [if_neg (by omega)]
theorem unit_other (u : UInt8) (t : List UInt8) (h : u ≠ 117) : unit (u :: t) = none := by
  simp [unit, h]
theorem escape_u (t : List UInt8) : escape (117 :: t) = if 0 ≤ hexv t ∧ sound (hexv t) = true then (hexv t, 5) else
    if hexv t < 55296 ∨ 56319 < hexv t ∨ t.length < 10 ∨ t[4]? ≠ some 92 ∨ t[5]? ≠ some 117 then (0, 0) else
    if hexv (t.drop 6) < 56320 ∨ 57343 < hexv (t.drop 6) then (0, 0) else (65536 + (hexv t - 55296) * 1024 + hexv (t.drop 6) - 56320, 11) := by
  have e0 : escape (117 :: t) = match unit (117 :: t) with
      | none => (0, 0)
      | some v => if sound v then (v, 5) else match pair v (t.drop 4) with
        | some r => (r, 11)
        | none => (0, 0) := by
    rfl
  rw [e0, unit_hexv]
  have hb := hexv_bd t
  by_cases h0 : hexv t < 0
  · rw [if_pos h0, if_neg (by omega), if_pos (by omega)]
  · rw [if_neg h0]
    simp only
    by_cases hs : sound (hexv t) = true
    · rw [if_pos hs, if_pos ⟨by omega, hs⟩]
    · rw [if_neg hs, if_neg (fun h => hs h.2)]
      have hns := hs
      rw [sound_iff] at hns
      generalize hexv t = v at *
      by_cases hl : t.length < 10
      · rw [if_pos (.inr (.inr (.inl hl)))]
        have : pair v (t.drop 4) = none := by
          cases hd : t.drop 4 with
          | nil => rfl
          | cons c u =>
            have h5 := congrArg List.length hd
            simp only [List.length_drop, List.length_cons] at h5
            simp only [pair]
            split
            · rfl
            · rename_i hc
              simp only [Bool.or_eq_true, decide_eq_true_eq, not_or] at hc
              omega
        rw [this]
      · have h4 : 4 < t.length := by omega
        have h5 : 5 < t.length := by omega
        have hd4 : t.drop 4 = t[4] :: t[5] :: t.drop 6 := by
          rw [List.drop_eq_getElem_cons h4, List.drop_eq_getElem_cons h5]
        have g4 : t[4]? = some t[4] := by simp [h4]
        have g5 : t[5]? = some t[5] := by simp [h5]
        rw [hd4, g4, g5]
        generalize t[4] = c at *
        generalize t[5] = u at *
        have hlen : (u :: t.drop 6).length = t.length - 5 := by simp; omega
        simp only [pair, hlen, Option.some.injEq, ne_eq]
        by_cases hv : 56319 < v
        · rw [if_pos (by simp [hv]), if_pos (.inr (.inl hv))]
        · by_cases hc : c = 92
          · rw [if_neg (by simp [hv, hc]; omega)]
            by_cases hu : u = 117
            · subst hu
              rw [unit_hexv, if_neg (show ¬ (v < 55296 ∨ 56319 < v ∨ t.length < 10 ∨ ¬ c = 92 ∨ ¬ (117 : UInt8) = 117) by simp [hc]; omega)]
              have hb2 := hexv_bd (t.drop 6)
              by_cases hw0 : hexv (t.drop 6) < 0
              · rw [if_pos hw0, if_pos (by omega)]
              · rw [if_neg hw0]
                by_cases hw : hexv (t.drop 6) < 56320 ∨ 57343 < hexv (t.drop 6)
                · simp [hw]
                · simp [hw]
            · rw [unit_other u _ hu, if_pos (.inr (.inr (.inr (.inr hu))))]
          · rw [if_pos (by simp [hc]), if_pos (.inr (.inr (.inr (.inl hc))))]
end Orange
namespace Go.Proofs.YtckpndbmpigegaaDoor
open Go.RowKit Go.Mem Orange

theorem esc_one (c : UInt8) (t : List UInt8) (h : c = 34 ∨ c = 47 ∨ c = 92) : escape (c :: t) = ((c.toNat : Int), 1) := by
  rcases h with rfl | rfl | rfl <;> rfl
theorem esc_named (c : UInt8) (t : List UInt8) (n : Int) (h : (c = 98 ∧ n = 8) ∨ (c = 116 ∧ n = 9) ∨ (c = 110 ∧ n = 10) ∨ (c = 102 ∧ n = 12) ∨ (c = 114 ∧ n = 13)) : escape (c :: t) = (n, 1) := by
  rcases h with ⟨rfl, rfl⟩ | ⟨rfl, rfl⟩ | ⟨rfl, rfl⟩ | ⟨rfl, rfl⟩ | ⟨rfl, rfl⟩ <;> rfl
theorem esc_none (c : UInt8) (t : List UInt8) (h1 : c ≠ 34) (h2 : c ≠ 47) (h3 : c ≠ 92) (h4 : c ≠ 98) (h5 : c ≠ 116) (h6 : c ≠ 110) (h7 : c ≠ 102) (h8 : c ≠ 114) (h9 : c ≠ 117) : escape (c :: t) = (0, 0) := by
  simp [escape, h1, h2, h3, h4, h5, h6, h7, h8, unit_other c t h9]

set_option maxHeartbeats 3200000 in
set_option maxRecDepth 100000 in
theorem refescape_u (b o cap : Nat) (t : List UInt8) (w : World) (hcap : t.length + 1 ≤ cap) (hcm : cap ≤ 9223372036854775807) (hlm : t.length + 1 ≤ 140737488355328) (hbl : b < w.heap.size)
    (hc0 : w.cell? ⟨b, o, none⟩ = some (.int .u8 117)) (hat : BytesAt w (some ⟨b, o, none⟩) (117 :: t)) :
    Calls Tryd.prog 61 #[.slice (some ⟨b, o, none⟩) (t.length + 1) cap] w fun e w' => e = .returned (.tuple #[.int .i32 (escape (117 :: t)).1, .int .i64 (escape (117 :: t)).2]) ∧ Ext w w' := by
  have hbs1 : Bytes w (.slice (some ⟨b, if cap = 1 then o else o + 1, none⟩) t.length (cap - 1)) t := by
    by_cases h1 : cap = 1
    · obtain rfl : t = [] := List.eq_nil_of_length_eq_zero (by omega)
      exact Bytes.nil _ _ _ (by omega)
    · rw [if_neg h1]
      exact Bytes.mk (hat.drop 1) rfl (by omega) (by omega) (by omega)
  have hbd := hexv_bd t
  have HE := Lib.hid (escape_u t)
  have HAT := Lib.hid hat
  have HBS := Lib.hid hbs1
  clear hat hbs1
  have fin : ∀ (q : Int × Nat) (r n : Int) (w1 : World), escape (117 :: t) = q → r = q.1 → n = q.2 → Ext w w1 → (Ending.returned (.tuple #[.int .i32 r, .int .i64 n]) = .returned (.tuple #[.int .i32 (escape (117 :: t)).1, .int .i64 (escape (117 :: t)).2])) ∧ Ext w w1 := by
    intro q r n w1 e1 e2 e3 h; rw [e1, e2, e3]; exact ⟨rfl, h⟩
  have FIN := Lib.hid fin
  clear fin
  by_cases h1 : cap = 1
  · subst h1
    obtain rfl : t = [] := List.eq_nil_of_length_eq_zero (by omega)
    have he : Hid (escape [117] = (0, 0)) := Lib.hid rfl
    have hv : hexv [] = -1 := rfl
    go_enter Tryd.func61, Tryd.ntmps61
    go_wp2_with fail
    refine (refhex_any _ [] _ (Bytes.nil _ _ _ (by omega))).mono ?_
    rintro e w1 ⟨rfl, hw1⟩
    rw [hv]
    go_wp2_with fail
    go_ret2
    exact FIN.out _ _ _ _ he.out rfl rfl hw1
  · have hbs1 := HBS.out
    rw [if_neg h1] at hbs1
    have h1' : 1 < cap := by omega
    have HB1 := Lib.hid hbs1
    clear hbs1 HBS h1
    go_enter Tryd.func61, Tryd.ntmps61
    go_wp2_with fail
    refine (refhex_any _ t _ HB1.out).mono ?_
    rintro e w1 ⟨rfl, hw1⟩
    by_cases h0 : 0 ≤ hexv t
    · by_cases hs : sound (hexv t) = true
      · have he : Hid (escape (117 :: t) = (hexv t, 5)) := Lib.hid (by rw [HE.out, if_pos ⟨h0, hs⟩])
        go_wp2_with fail
        refine (valid_any _ _).mono ?_
        rintro e w2 ⟨rfl, rfl⟩
        go_wp2_with fail
        go_ret2
        exact FIN.out _ _ _ _ he.out rfl rfl hw1
      · have he : Hid (escape (117 :: t) = _) := Lib.hid (by rw [HE.out, if_neg (fun h => hs h.2)])
        have hs' : sound (hexv t) = false := by simpa using hs
        have hns := hs
        rw [sound_iff] at hns
        have hlo : 55296 ≤ hexv t := by omega
        have hhi : hexv t ≤ 57343 := by omega
        clear hs hns
        go_wp2_with fail
        refine (valid_any _ _).mono ?_
        rintro e w2 ⟨rfl, rfl⟩
        by_cases hv : 56319 < hexv t
        · have he2 : Hid (escape (117 :: t) = (0, 0)) := Lib.hid (by rw [he.out, if_pos (.inr (.inl hv))])
          go_wp2_with fail
          go_ret2
          exact FIN.out _ _ _ _ he2.out rfl rfl hw1
        · by_cases hl : t.length < 10
          · have he2 : Hid (escape (117 :: t) = (0, 0)) := Lib.hid (by rw [he.out, if_pos (.inr (.inr (.inl hl)))])
            have hd : decide ((t.length : Int) + 1 < 11) = true := by simp; omega
            go_wp2_with fail
            go_ret2
            exact FIN.out _ _ _ _ he2.out rfl rfl hw1
          · have hd : decide ((t.length : Int) + 1 < 11) = false := by simp; omega
            have hx5 : Hid (Bytes w1 (.slice (some ⟨b, o + 5, none⟩) (t.length - 4) (cap - 5)) (t.drop 4)) := Lib.hid ((Bytes.mk (HAT.out.drop 5) (by simp) (by omega) (by omega) (by omega)).ext hw1)
            have hx6 : Hid (Bytes w1 (.slice (some ⟨b, o + 6, none⟩) (t.length - 5) (cap - 6)) (t.drop 5)) := Lib.hid ((Bytes.mk (HAT.out.drop 6) (by simp) (by omega) (by omega) (by omega)).ext hw1)
            have hx7 : Hid (Bytes w1 (.slice (some ⟨b, o + 7, none⟩) (t.length - 6) (cap - 7)) (t.drop 6)) := Lib.hid ((Bytes.mk (HAT.out.drop 7) (by simp) (by omega) (by omega) (by omega)).ext hw1)
            have h4 : 4 < t.length := by omega
            have h5 : 5 < t.length := by omega
            have g4 : t[4]? = some t[4] := by simp [h4]
            have g5 : t[5]? = some t[5] := by simp [h5]
            have hc5 := cell0_of hx5.out (List.drop_eq_getElem_cons h4)
            have hc6 := cell0_of hx6.out (List.drop_eq_getElem_cons h5)
            generalize t[4] = c5 at g4 hc5
            generalize t[5] = c6 at g5 hc6
            have G4 := Lib.hid g4
            have G5 := Lib.hid g5
            clear g4 g5
            by_cases hc5e : c5 = 92
            · subst hc5e
              by_cases hc6e : c6 = 117
              · subst hc6e
                have he2 : Hid (escape (117 :: t) = _) := Lib.hid (by rw [he.out, if_neg (by rw [G4.out, G5.out]; simp; omega)])
                have hbd2 := hexv_bd (t.drop 6)
                go_wp2_with fail
                refine (refhex_any _ (t.drop 6) _ hx7.out).mono ?_
                rintro e w3 ⟨rfl, hw3⟩
                have hE := ext_trans hw1 hw3
                by_cases hw0 : hexv (t.drop 6) < 56320
                · have he3 : Hid (escape (117 :: t) = (0, 0)) := Lib.hid (by rw [he2.out, if_pos (.inl hw0)])
                  go_wp2_with fail
                  go_ret2
                  exact FIN.out _ _ _ _ he3.out rfl rfl hE
                · by_cases hw9 : 57343 < hexv (t.drop 6)
                  · have he3 : Hid (escape (117 :: t) = (0, 0)) := Lib.hid (by rw [he2.out, if_pos (.inr hw9)])
                    go_wp2_with fail
                    go_ret2
                    exact FIN.out _ _ _ _ he3.out rfl rfl hE
                  · have he3 : Hid (escape (117 :: t) = _) := Lib.hid (by rw [he2.out, if_neg (by omega)])
                    go_wp2_with fail
                    go_ret2
                    exact FIN.out _ _ _ _ he3.out rfl rfl hE
              · have he2 : Hid (escape (117 :: t) = (0, 0)) := Lib.hid (by rw [he.out, if_pos (.inr (.inr (.inr (.inr (by rw [G5.out]; simpa using hc6e)))))])
                have hq : ((c6.toNat : Int) != 117) = true := by simp; intro e; exact hc6e (UInt8.toNat_inj.1 (by rw [show (117 : UInt8).toNat = 117 from rfl]; omega))
                go_wp2_with fail
                go_ret2
                exact FIN.out _ _ _ _ he2.out rfl rfl hw1
            · have he2 : Hid (escape (117 :: t) = (0, 0)) := Lib.hid (by rw [he.out, if_pos (.inr (.inr (.inr (.inl (by rw [G4.out]; simpa using hc5e)))))])
              have hq : ((c5.toNat : Int) != 92) = true := by simp; intro e; exact hc5e (UInt8.toNat_inj.1 (by rw [show (92 : UInt8).toNat = 92 from rfl]; omega))
              go_wp2_with fail
              go_ret2
              exact FIN.out _ _ _ _ he2.out rfl rfl hw1
    · have he : Hid (escape (117 :: t) = (0, 0)) := Lib.hid (by rw [HE.out, if_neg (fun h => h0 h.1), if_pos (by omega)])
      go_wp2_with fail
      go_ret2
      exact FIN.out _ _ _ _ he.out rfl rfl hw1

set_option maxHeartbeats 3200000 in
set_option maxRecDepth 100000 in
theorem refescape_any (v : Value) (xs : List UInt8) (w : World) (hx : Bytes w v xs) :
    Calls Tryd.prog 61 #[v] w fun e w' => e = .returned (.tuple #[.int .i32 (escape xs).1, .int .i64 (escape xs).2]) ∧ Ext w w' := by
  rcases hx.cases with ⟨rfl, a, cap, rfl, _⟩ | ⟨c, t, b, o, cap, rfl, rfl, hcap, hcm, hlm, hbl, hc0, hc, hat⟩
  · go_enter Tryd.func61, Tryd.ntmps61
    go_wp2_with fail
    go_ret2
    exact ⟨rfl, ext_refl w⟩
  · have hc8 : c.toNat < 256 := c.toNat_lt
    have HC := Lib.hid hc
    have HX := Lib.hid hx
    have HAT := Lib.hid hat
    clear hc hx hat
    by_cases h34 : c.toNat = 34
    · have hcc : c = 34 := UInt8.toNat_inj.1 h34
      have he : Hid (escape (c :: t) = (34, 1)) := Lib.hid (by rw [esc_one c t (.inl hcc), h34]; rfl)
      clear hcc
      go_enter Tryd.func61, Tryd.ntmps61
      go_wp2_with fail
      go_ret2
      exact ⟨by rw [he.out]; first | rfl | simp, ext_refl w⟩
    · have g34 : c ≠ 34 := fun e => h34 (by rw [e]; rfl)
      have q34 : ((c.toNat : Int) == 34) = false := by simp; omega
      by_cases h47 : c.toNat = 47
      · have hcc : c = 47 := UInt8.toNat_inj.1 h47
        have he : Hid (escape (c :: t) = (47, 1)) := Lib.hid (by rw [esc_one c t (.inr (.inl hcc)), h47]; rfl)
        clear hcc
        go_enter Tryd.func61, Tryd.ntmps61
        go_wp2_with fail
        go_ret2
        exact ⟨by rw [he.out]; first | rfl | simp, ext_refl w⟩
      · have g47 : c ≠ 47 := fun e => h47 (by rw [e]; rfl)
        have q47 : ((c.toNat : Int) == 47) = false := by simp; omega
        by_cases h92 : c.toNat = 92
        · have hcc : c = 92 := UInt8.toNat_inj.1 h92
          have he : Hid (escape (c :: t) = (92, 1)) := Lib.hid (by rw [esc_one c t (.inr (.inr hcc)), h92]; rfl)
          clear hcc
          go_enter Tryd.func61, Tryd.ntmps61
          go_wp2_with fail
          go_ret2
          exact ⟨by rw [he.out]; first | rfl | simp, ext_refl w⟩
        · have g92 : c ≠ 92 := fun e => h92 (by rw [e]; rfl)
          have q92 : ((c.toNat : Int) == 92) = false := by simp; omega
          by_cases h98 : c.toNat = 98
          · have hcc : c = 98 := UInt8.toNat_inj.1 h98
            have he : Hid (escape (c :: t) = (8, 1)) := Lib.hid (by exact esc_named c t _ (.inl ⟨hcc, rfl⟩))
            clear hcc
            go_enter Tryd.func61, Tryd.ntmps61
            go_wp2_with fail
            go_ret2
            exact ⟨by rw [he.out]; first | rfl | simp, ext_refl w⟩
          · have g98 : c ≠ 98 := fun e => h98 (by rw [e]; rfl)
            have q98 : ((c.toNat : Int) == 98) = false := by simp; omega
            by_cases h116 : c.toNat = 116
            · have hcc : c = 116 := UInt8.toNat_inj.1 h116
              have he : Hid (escape (c :: t) = (9, 1)) := Lib.hid (by exact esc_named c t _ (.inr (.inl ⟨hcc, rfl⟩)))
              clear hcc
              go_enter Tryd.func61, Tryd.ntmps61
              go_wp2_with fail
              go_ret2
              exact ⟨by rw [he.out]; first | rfl | simp, ext_refl w⟩
            · have g116 : c ≠ 116 := fun e => h116 (by rw [e]; rfl)
              have q116 : ((c.toNat : Int) == 116) = false := by simp; omega
              by_cases h110 : c.toNat = 110
              · have hcc : c = 110 := UInt8.toNat_inj.1 h110
                have he : Hid (escape (c :: t) = (10, 1)) := Lib.hid (by exact esc_named c t _ (.inr (.inr (.inl ⟨hcc, rfl⟩))))
                clear hcc
                go_enter Tryd.func61, Tryd.ntmps61
                go_wp2_with fail
                go_ret2
                exact ⟨by rw [he.out]; first | rfl | simp, ext_refl w⟩
              · have g110 : c ≠ 110 := fun e => h110 (by rw [e]; rfl)
                have q110 : ((c.toNat : Int) == 110) = false := by simp; omega
                by_cases h102 : c.toNat = 102
                · have hcc : c = 102 := UInt8.toNat_inj.1 h102
                  have he : Hid (escape (c :: t) = (12, 1)) := Lib.hid (by exact esc_named c t _ (.inr (.inr (.inr (.inl ⟨hcc, rfl⟩)))))
                  clear hcc
                  go_enter Tryd.func61, Tryd.ntmps61
                  go_wp2_with fail
                  go_ret2
                  exact ⟨by rw [he.out]; first | rfl | simp, ext_refl w⟩
                · have g102 : c ≠ 102 := fun e => h102 (by rw [e]; rfl)
                  have q102 : ((c.toNat : Int) == 102) = false := by simp; omega
                  by_cases h114 : c.toNat = 114
                  · have hcc : c = 114 := UInt8.toNat_inj.1 h114
                    have he : Hid (escape (c :: t) = (13, 1)) := Lib.hid (by exact esc_named c t _ (.inr (.inr (.inr (.inr (⟨hcc, rfl⟩))))))
                    clear hcc
                    go_enter Tryd.func61, Tryd.ntmps61
                    go_wp2_with fail
                    go_ret2
                    exact ⟨by rw [he.out]; first | rfl | simp, ext_refl w⟩
                  · have g114 : c ≠ 114 := fun e => h114 (by rw [e]; rfl)
                    have q114 : ((c.toNat : Int) == 114) = false := by simp; omega
                    have G : Hid (c ≠ 34 ∧ c ≠ 47 ∧ c ≠ 92 ∧ c ≠ 98 ∧ c ≠ 116 ∧ c ≠ 110 ∧ c ≠ 102 ∧ c ≠ 114) := Lib.hid ⟨g34, g47, g92, g98, g116, g110, g102, g114⟩
                    clear g34 g47 g92 g98 g116 g110 g102 g114
                    by_cases h117 : c.toNat = 117
                    · obtain rfl : c = 117 := UInt8.toNat_inj.1 h117
                      exact refescape_u b o cap t w hcap hcm hlm hbl hc0 HAT.out
                    · have g117 : c ≠ 117 := fun e => h117 (by rw [e]; rfl)
                      have q117 : ((c.toNat : Int) == 117) = false := by simp; omega
                      have he : Hid (escape (c :: t) = (0, 0)) := Lib.hid (by obtain ⟨g1, g2, g3, g4, g5, g6, g7, g8⟩ := G.out; exact esc_none c t g1 g2 g3 g4 g5 g6 g7 g8 g117)
                      clear g117
                      go_enter Tryd.func61, Tryd.ntmps61
                      go_wp2_with fail
                      go_ret2
                      exact ⟨by rw [he.out]; rfl, ext_refl w⟩
end Go.Proofs.YtckpndbmpigegaaDoor
end

section
/- value: which values may be: Sane. -/
set_option linter.unusedVariables false
set_option linter.unusedSimpArgs false
set_option maxRecDepth 100000
namespace Go.Proofs.YtckpndbmpigegaaDoor
open Go.RowKit Go.Mem Orange
mutual
/-- why may a value, so many deep, behind so many, not be; and how many were counted -/
def saneT : Nat → Nat → Tree → Int × Nat
  | deep, n, .mk k b d s l m =>
    if fieldsT (.mk k b d s l m) = false then (1, n + 1)
    else if twiceP [] (m.map (·.1)) = true then (7, n + 1)
    else if 4 ≤ k ∧ 64 ≤ deep then (3, n + 1)
    else if 4096 < n + 1 then (4, n + 1)
    else match saneL (deep + 1) (n + 1) l with
      | (e, n') => if e = 0 then saneM (deep + 1) n' m else (e, n')
def saneL : Nat → Nat → List Tree → Int × Nat
  | _, n, [] => (0, n)
  | deep, n, t :: l => match saneT deep n t with
    | (e, n') => if e = 0 then saneL deep n' l else (e, n')
def saneM : Nat → Nat → List (List UInt8 × Tree) → Int × Nat
  | _, n, [] => (0, n)
  | deep, n, (_, t) :: l => match saneT deep n t with
    | (e, n') => if e = 0 then saneM deep n' l else (e, n')
end
theorem saneM_map (deep : Nat) : ∀ (m : List (List UInt8 × Tree)) (n : Nat), saneM deep n m = saneL deep n (m.map (·.2))
  | [], n => by rw [saneM, List.map_nil, saneL]
  | (k, t) :: m, n => by
    rw [saneM, List.map_cons, saneL]
    cases saneT deep n t with
    | mk e n' => simp only [saneM_map deep m n']
theorem saneL_append (deep : Nat) : ∀ (l l' : List Tree) (n : Nat), saneL deep n (l ++ l') = (if (saneL deep n l).1 = 0 then saneL deep (saneL deep n l).2 l' else saneL deep n l)
  | [], l', n => by rw [List.nil_append, saneL, if_pos rfl]
  | t :: l, l', n => by
    rw [List.cons_append, saneL, saneL]
    cases saneT deep n t with
    | mk e n' =>
      simp only
      by_cases he : e = 0
      · rw [if_pos he, if_pos he, saneL_append deep l l' n']
      · rw [if_neg he, if_neg he, if_neg he]
theorem saneT_ins (deep n : Nat) (t : Tree) : saneT deep n t = if fieldsT t = false then (1, n + 1) else if twiceP [] (t.mems.map (·.1)) = true then (7, n + 1) else if 4 ≤ t.kind ∧ 64 ≤ deep then (3, n + 1) else if 4096 < n + 1 then (4, n + 1) else saneL (deep + 1) (n + 1) t.ins := by
  cases t with
  | mk k b d s l m =>
    rw [saneT]
    show _ = (if fieldsT (.mk k b d s l m) = false then (1, n + 1) else if twiceP [] (m.map (·.1)) = true then (7, n + 1) else if 4 ≤ k ∧ 64 ≤ deep then (3, n + 1) else if 4096 < n + 1 then (4, n + 1) else saneL (deep + 1) (n + 1) (l ++ m.map (·.2)))
    rw [saneL_append]
    simp only [saneM_map]
theorem saneL_at (deep n : Nat) {l : List Tree} {i : Nat} (h : i < l.length) (h0 : (saneL deep n (l.take i)).1 = 0) : saneL deep n l = if (saneT deep (saneL deep n (l.take i)).2 l[i]).1 = 0 then saneL deep (saneT deep (saneL deep n (l.take i)).2 l[i]).2 (l.drop (i + 1)) else saneT deep (saneL deep n (l.take i)).2 l[i] := by
  conv => lhs; rw [← List.take_append_drop i l, saneL_append, if_pos h0, List.drop_eq_getElem_cons h, saneL]
theorem saneL_take (deep n : Nat) {l : List Tree} {i : Nat} (h : i < l.length) (h0 : (saneL deep n (l.take i)).1 = 0) : saneL deep n (l.take (i + 1)) = saneT deep (saneL deep n (l.take i)).2 l[i] := by
  rw [List.take_add_one, List.getElem?_eq_getElem h, Option.toList_some, saneL_append, if_pos h0, saneL]
  cases saneT deep (saneL deep n (l.take i)).2 l[i] with
  | mk e n' =>
    simp only
    by_cases he : e = 0
    · rw [if_pos he, saneL, he]
    · rw [if_neg he]
mutual
theorem saneT_bd : ∀ (t : Tree) (deep n : Nat), (saneT deep n t).2 ≤ n + countT t
  | .mk k b d s l m, deep, n => by
    rw [saneT, countT]
    split
    · show n + 1 ≤ _; omega
    split
    · show n + 1 ≤ _; omega
    split
    · show n + 1 ≤ _; omega
    split
    · show n + 1 ≤ _; omega
    · have h1 := saneL_bd l (deep + 1) (n + 1)
      cases hl : saneL (deep + 1) (n + 1) l with
      | mk e n' =>
        rw [hl] at h1
        simp only at h1 ⊢
        split
        · have := saneM_bd m (deep + 1) n'; omega
        · simp only; omega
theorem saneL_bd : ∀ (l : List Tree) (deep n : Nat), (saneL deep n l).2 ≤ n + countL l
  | [], deep, n => by rw [saneL, countL]; simp
  | t :: l, deep, n => by
    rw [saneL, countL]
    have h1 := saneT_bd t deep n
    cases hl : saneT deep n t with
    | mk e n' =>
      rw [hl] at h1
      simp only at h1 ⊢
      split
      · have := saneL_bd l deep n'; omega
      · simp only; omega
theorem saneM_bd : ∀ (l : List (List UInt8 × Tree)) (deep n : Nat), (saneM deep n l).2 ≤ n + countM l
  | [], deep, n => by rw [saneM, countM]; simp
  | (_, t) :: l, deep, n => by
    rw [saneM, countM]
    have h1 := saneT_bd t deep n
    cases hl : saneT deep n t with
    | mk e n' =>
      rw [hl] at h1
      simp only at h1 ⊢
      split
      · have := saneM_bd l deep n'; omega
      · simp only; omega
end
/-- the counter -/
def NAt (w : World) (p n : Nat) : Prop := w.heap[p]? = some (.cells #[.int .i64 (n : Nat)] 62 (0, 0))
theorem NAt.lt {w : World} {p n : Nat} (h : NAt w p n) : p < w.heap.size := (Array.getElem?_eq_some_iff.1 h).1
theorem NAt.ext {w w' : World} {p n : Nat} (h : NAt w p n) (hb : Ext w w') : NAt w' p n := by
  unfold NAt; rw [hb.block _ h.lt]; exact h
theorem NAt.cell {w : World} {p n : Nat} (h : NAt w p n) : w.cell? ⟨p, 0, none⟩ = some (.int .i64 (n : Nat)) ∧ w.frozen? ⟨p, 0, none⟩ = false := ⟨by rw [cell_of_cells h]; rfl, free_of_cells h⟩
theorem NAt.set {w : World} {p n : Nat} (h : NAt w p n) (m : Nat) : NAt (w.setCell ⟨p, 0, none⟩ (.int .i64 (m : Nat))) p m := setCell_heap_self h
/-- blocks that are not p stay as they were: what a value's lists lie in -/
theorem keptp {w w' : World} {p : Nat} (h : Kept w.heap.size p w w') (g : Nat) (hg : g ≠ p) (hlt : g < w.heap.size) : g ≠ p ∧ w'.heap[g]? = w.heap[g]? := ⟨hg, h.block g hlt hg⟩
set_option maxHeartbeats 6400000 in
theorem sane_step (N : Nat) (ih : ∀ (t : Tree) (c : Array Value) (deep n p : Nat) (w : World), SizeOf.sizeOf t < N → weightT t ≤ 1000000 → deep + countT t ≤ 1000000000 → n + countT t ≤ 1000000000 → TV w (fun g => g ≠ p) t c → NAt w p n →
    Calls Tryd.prog 25 #[.pointer (some ⟨p, 0, none⟩), .agg c, .int .i64 (deep : Nat)] w (fun e w' => e = .returned (.int .i64 (saneT deep n t).1) ∧ NAt w' p (saneT deep n t).2 ∧ Kept w.heap.size p w w')) :
    ∀ (t : Tree) (c : Array Value) (deep n p : Nat) (w : World), SizeOf.sizeOf t < N + 1 → weightT t ≤ 1000000 → deep + countT t ≤ 1000000000 → n + countT t ≤ 1000000000 → TV w (fun g => g ≠ p) t c → NAt w p n →
    Calls Tryd.prog 25 #[.pointer (some ⟨p, 0, none⟩), .agg c, .int .i64 (deep : Nat)] w (fun e w' => e = .returned (.int .i64 (saneT deep n t).1) ∧ NAt w' p (saneT deep n t).2 ∧ Kept w.heap.size p w w') := by
  intro t c deep n p w hN hwt hdp hnn h hc
  have IH := Lib.hid ih
  clear ih
  obtain ⟨R, hR⟩ : ∃ R, saneT deep n t = R := ⟨_, rfl⟩
  rw [hR]
  rw [saneT_ins] at hR
  have HRR := Lib.hid hR
  clear hR
  obtain ⟨k, b, d, s, la, ln, lc, ma, mn, mc, rfl⟩ := h.eight
  have hplt := hc.lt
  have hpos := countT_pos t
  have hv := VAt.new w (cellsV k b d s (.slice la ln lc) (.slice ma mn mc))
  have hx : Ext w (w.alloc (.cells (cellsV k b d s (.slice la ln lc) (.slice ma mn mc)) 29)) := (ext_refl w).alloc (Nat.le_refl _) _
  simp only [cellsV] at hv hx ⊢
  go_enter Tryd.func25, Tryd.ntmps25
  go_upto_region 1 with fail
  obtain ⟨S, hS⟩ : ∃ S, w.heap.size = S := ⟨_, rfl⟩
  rw [hS] at hv hplt ⊢
  generalize w.alloc (.cells #[.int .i64 k, .bool b, .bool d.neg, .string ⟨d.digits.toArray⟩, .int .i64 d.exp, .string ⟨s.toArray⟩, .slice la ln lc, .slice ma mn mc] 29) = w1 at *
  have HS := Lib.hid hS
  have hc1 := hc.ext hx
  obtain ⟨r0, f0⟩ := hc1.cell
  have e8 : IntKind.i64.wrap ((n : Int) + 1) = ((n + 1 : Nat) : Int) := by rw [IntWalk.i64_in _ (by omega)]; omega
  have hc2 : NAt (w1.setCell ⟨p, 0, none⟩ (.int .i64 ((n : Int) + 1))) p (n + 1) := by rw [show ((n : Int) + 1) = ((n + 1 : Nat) : Int) by omega]; exact hc1.set (n + 1)
  have hv2 := hv.oth (p := p) (i := 0) (u := .int .i64 ((n : Int) + 1)) (by omega)
  have hk2 : Kept w.heap.size p w (w1.setCell ⟨p, 0, none⟩ (.int .i64 ((n : Int) + 1))) := (Kept.ofBelow hx).trans (Kept.setCell _)
  go_upto_region 2 with fail
  clear r0 f0 hc1
  generalize w1.setCell ⟨p, 0, none⟩ (.int .i64 ((n : Int) + 1)) = w2 at *
  have HT := Lib.hid (h.keep (w' := w2) (A' := fun g => g ≠ p) hk2.size (fun g hg hlt => keptp hk2 g hg hlt))
  have HC := Lib.hid hc2
  have HV := Lib.hid hv2
  have HK := Lib.hid hk2
  have HWT := Lib.hid hwt
  have HB : Hid (deep + countT t ≤ 1000000000 ∧ n + countT t ≤ 1000000000 ∧ SizeOf.sizeOf t < N + 1) := Lib.hid ⟨hdp, hnn, hN⟩
  clear h hc hv hx hS hc2 hv2 hk2 hN
  have c0 := HV.out.cell 0; have c1 := HV.out.cell 1; have c2 := HV.out.cell 2; have c3 := HV.out.cell 3; have c4 := HV.out.cell 4; have c5 := HV.out.cell 5; have c6 := HV.out.cell 6; have c7 := HV.out.cell 7
  simp at c0 c1 c2 c3 c4 c5 c6 c7
  go_wp2_with fail
  refine (fields_any t _ _ w2 HT.out HWT.out).mono ?_
  rintro e w3 ⟨rfl, hw3⟩
  clear c0 c1 c2 c3 c4 c5 c6 c7
  replace HT := Lib.hid (HT.out.keep (w' := w3) (A' := fun g => g ≠ p) hw3.size (fun g hg hlt => ⟨hg, hw3.block g hlt⟩))
  replace HC := Lib.hid (HC.out.ext hw3)
  replace HV := Lib.hid (HV.out.ext hw3)
  replace HK := Lib.hid (HK.out.trans (Kept.ofBelow (hw3.mono HK.out.size)))
  clear hw3
  have hrr := HRR.out
  obtain ⟨B, hB⟩ : ∃ B, fieldsT t = B := ⟨_, rfl⟩
  rw [hB] at hrr ⊢
  clear hB
  cases B with
  | false =>
    have HF : Hid (R = (1, n + 1)) := Lib.hid (by rw [← hrr, if_pos rfl])
    clear hrr
    go_wp2_with fail
    go_ret
    rw [HF.out]
    exact ⟨rfl, HC.out, HK.out⟩
  | true =>
  rw [if_neg (by decide)] at hrr
  replace HRR := Lib.hid hrr
  clear hrr
  obtain ⟨cl, cm, htl, hrl, htm, hrm, hk, -⟩ := tv_rows HT.out
  obtain ⟨_, a2, c2, ea, -⟩ := id hrm
  simp only [Value.slice.injEq] at ea
  obtain ⟨rfl, rfl, rfl⟩ := ea
  have hcl := countT_ins t
  have hll := countL_len t.ins
  have hil := ins_len t
  have hcw := count_weight t
  have hMl : t.mems.length ≤ 1000000 := by omega
  have hcb : t.list.length + t.mems.length ≤ 1000000 := by omega
  have hks : ∀ q ∈ t.mems, q.1.length ≤ 1000000 := fun q hq => by
    obtain ⟨j, hj, rfl⟩ := List.mem_iff_getElem.1 hq
    have h1 := weightM_mem hj
    have h2 := HWT.out
    cases t with
    | mk k0 b0 d0 s0 l0 m0 => rw [weightT] at h2; have h1 : (m0[j]'hj).1.length ≤ weightM m0 := h1.1; show (m0[j]'hj).1.length ≤ _; omega
  have HTW := Lib.hid (twice_any _ t.mems cm _ w3 hrm htm hMl hks)
  have HKK := Lib.hid hk
  have HCB := Lib.hid hcb
  clear hcl hll hil hcw hMl hks htl hrl htm hrm hcb hk
  have c7 := HV.out.cell 7
  simp at c7
  go_wp2_with fail
  refine (HTW.out).mono ?_
  rintro e w4 ⟨rfl, hw4⟩
  clear c7 HTW
  replace HT := Lib.hid (HT.out.keep (w' := w4) (A' := fun g => g ≠ p) hw4.size (fun g hg hlt => ⟨hg, hw4.block g hlt⟩))
  replace HC := Lib.hid (HC.out.ext hw4)
  replace HV := Lib.hid (HV.out.ext hw4)
  replace HK := Lib.hid (HK.out.trans (Kept.ofBelow (hw4.mono HK.out.size)))
  clear hw4
  have hrr := HRR.out
  obtain ⟨B, hB⟩ : ∃ B, twiceP [] (t.mems.map (·.1)) = B := ⟨_, rfl⟩
  rw [hB] at hrr ⊢
  clear hB
  cases B with
  | true =>
    have HF : Hid (R = (7, n + 1)) := Lib.hid (by rw [← hrr, if_pos rfl])
    clear hrr
    go_wp2_with fail
    go_ret
    rw [HF.out]
    exact ⟨rfl, HC.out, HK.out⟩
  | false =>
  rw [if_neg (by decide), ← HKK.out] at hrr
  replace HRR := Lib.hid hrr
  clear hrr
  have c0 := HV.out.cell 0
  simp at c0
  by_cases hkd : 4 ≤ k ∧ 64 ≤ deep
  · have HF : Hid (R = (3, n + 1)) := Lib.hid (by rw [← HRR.out, if_pos hkd])
    obtain ⟨hk4, hd64⟩ := hkd
    have hdi : (64 : Int) ≤ deep := by omega
    go_wp2_with fail
    go_ret
    rw [HF.out]
    exact ⟨rfl, HC.out, HK.out⟩
  have hrr := HRR.out
  rw [if_neg hkd] at hrr
  replace HRR := Lib.hid hrr
  clear hrr
  obtain ⟨r0, f0⟩ := HC.out.cell
  by_cases hn4 : 4096 < n + 1
  · have HF : Hid (R = (4, n + 1)) := Lib.hid (by rw [← HRR.out, if_pos hn4])
    have hni : (4096 : Int) < (n + 1 : Nat) := by omega
    by_cases hk4 : 4 ≤ k
    · have hd64 : ¬ (64 : Int) ≤ deep := by omega
      go_wp2_with fail
      go_ret
      rw [HF.out]
      exact ⟨rfl, HC.out, HK.out⟩
    · go_wp2_with fail
      go_ret
      rw [HF.out]
      exact ⟨rfl, HC.out, HK.out⟩
  have hrr := HRR.out
  rw [if_neg hn4] at hrr
  replace HRR := Lib.hid hrr
  clear hrr
  have hni : ¬ (4096 : Int) < (n + 1 : Nat) := by omega
  -- the loop over what stands in the value
  have HRR3 := HRR
  have c1 := HV.out.cell 1; have c2 := HV.out.cell 2; have c3 := HV.out.cell 3; have c4 := HV.out.cell 4; have c5 := HV.out.cell 5; have c6 := HV.out.cell 6; have c7 := HV.out.cell 7
  simp at c1 c2 c3 c4 c5 c6 c7
  have HN4 := Lib.hid hn4
  have HIN : Hid (∀ w', Below w4.heap.size w4 w' → Calls Tryd.prog 24 #[.agg (cellsV k b d s (.slice la ln lc) (.slice ma t.mems.length mc))] w' (fun e w'' => ∃ v cs, e = .returned v ∧ w''.ownsRow w'.heap.size 29 8 v t.ins.length cs ∧ TL w'' (fun g => g ≠ p) t.ins cs ∧ Ext w' w'')) := Lib.hid (fun w' hw => inside_any t _ _ w' (HT.out.keep (w' := w') (A' := fun g => g ≠ p) hw.size (fun g hg hlt => ⟨hg, hw.block g hlt⟩)) HCB.out)
  have hin := HIN.out w4 (Below.refl _ _)
  simp only [cellsV] at hin
  replace HIN := Lib.hid hin
  have HNS : Hid (∀ i (hi : i < t.ins.length), SizeOf.sizeOf t.ins[i] < N ∧ weightT t.ins[i] ≤ 1000000 ∧ deep + 1 + countT t.ins[i] ≤ 1000000000 ∧ n + 1 + countL (t.ins.take i) + countT t.ins[i] ≤ 1000000000) := Lib.hid (fun i hi => by
    have h1 := ins_size (List.getElem_mem hi)
    have h2 := HB.out
    have h3 := weight_ins hi
    have h4 := HWT.out
    have h5 := countL_mem hi
    have h6 := countT_ins t
    have h7 := countL_take t.ins i hi
    have h8 := countL_take_le t.ins (i + 1)
    exact ⟨by omega, by omega, by omega, by omega⟩)
  have HLEN : Hid (t.ins.length ≤ 1000000) := Lib.hid (by
    have h1 := countL_len t.ins
    have h2 := countT_ins t
    have h3 := count_weight t
    have h4 := HWT.out
    omega)
  have HSB : Hid (∀ i, (saneL (deep + 1) (n + 1) (t.ins.take i)).2 ≤ n + 1 + countL (t.ins.take i)) := Lib.hid (fun i => saneL_bd _ _ _)
  have hdd : deep ≤ 1000000000 := by have := HB.out; omega
  have HPS : Hid (p < S) := Lib.hid hplt
  have HKD : Hid (¬ (4 ≤ k ∧ 64 ≤ deep)) := Lib.hid hkd
  clear hin hn4 hkd hwt hplt
  generalize t.ins = l at *
  have LOOP : True := trivial
  by_cases hk4 : 4 ≤ k
  · have hd64 : ¬ (64 : Int) ≤ deep := by have := HKD.out; omega
    go_wp2_with fail
    refine (HIN.out).mono ?_
    rintro e w5 ⟨v5, cs, rfl, hown, htl, hw5⟩
    obtain ⟨a5, cc5, rfl⟩ := ownsRow_shape hown
    have hs4 : S ≤ w4.heap.size := by have := HK.out.size; have := HS.out; omega
    have HR := Lib.hid (RowAt.own hown (by decide) (A := fun g => g ≠ p) (fun g _ hb _ => by have := HPS.out; omega))
    have HTL := Lib.hid htl
    have HC5 := Lib.hid (HC.out.ext hw5)
    have HK5 := Lib.hid (HK.out.trans (Kept.ofBelow (hw5.mono HK.out.size)))
    clear hown htl hw5 c0 c1 c2 c3 c4 c5 c6 c7 r0 f0 hni
    go_wp2_with fail
    go_loopw [42] (fun iv wr => ∃ i : Nat, iv = .int .i64 i ∧ i ≤ l.length ∧ (saneL (deep + 1) (n + 1) (l.take i)).1 = 0 ∧ NAt wr p (saneL (deep + 1) (n + 1) (l.take i)).2 ∧ Kept w5.heap.size p w5 wr) (fun iv _ => 2000000 - (intOf iv).toNat)
    case atStart => exact ⟨0, rfl, by omega, by rw [List.take_zero, saneL], by rw [List.take_zero, saneL]; exact HC5.out, Kept.refl _ _ _⟩
    case round =>
      obtain ⟨i, rfl, hi, hz, hc, hE⟩ := hrel
      have HX := Lib.hid hE
      have HCR := Lib.hid hc
      have HZ := Lib.hid hz
      clear hE hc hz
      have hll := HLEN.out
      by_cases hlt : i < l.length
      · have hlti : (i : Int) < l.length := by omega
        have hi0 : (0 : Int) ≤ i := by omega
        obtain ⟨g, o, xk, xb, xd, xs, xa1, xn1, xc1, xa2, xn2, xc2, rfl, htx, hcell⟩ := row_elem HR.out HTL.out rfl i hlt
        obtain ⟨x0, x1, x2, x3, x4, x5, x6, x7⟩ := hcell wr (fun g hg hlt => HX.out.block g hlt hg)
        have HTX := Lib.hid (htx.keep (w' := wr) (A' := fun g => g ≠ p) HX.out.size (fun g hg hlt => ⟨hg, HX.out.block g hlt hg⟩))
        have HNI := Lib.hid (HNS.out i hlt)
        have HSI := Lib.hid (HSB.out i)
        have HTK := Lib.hid (saneL_take (deep + 1) (n + 1) hlt HZ.out)
        have HAT := Lib.hid (saneL_at (deep + 1) (n + 1) hlt HZ.out)
        clear htx hcell
        generalize l[i] = x at *
        obtain ⟨ni, hni⟩ : ∃ ni, (saneL (deep + 1) (n + 1) (l.take i)).2 = ni := ⟨_, rfl⟩
        have hcr := HCR.out
        have hsi := HSI.out
        have htk := HTK.out
        have hat := HAT.out
        rw [hni] at hcr hsi htk hat
        replace HCR := Lib.hid hcr
        replace HSI := Lib.hid hsi
        replace HTK := Lib.hid htk
        replace HAT := Lib.hid hat
        clear hni hcr hsi htk hat
        have hv3 := VAt.new wr #[.int .i64 xk, .bool xb, .bool xd.neg, .string ⟨xd.digits.toArray⟩, .int .i64 xd.exp, .string ⟨xs.toArray⟩, .slice xa1 xn1 xc1, .slice xa2 xn2 xc2]
        have hx3 : Ext wr (wr.alloc (.cells #[.int .i64 xk, .bool xb, .bool xd.neg, .string ⟨xd.digits.toArray⟩, .int .i64 xd.exp, .string ⟨xs.toArray⟩, .slice xa1 xn1 xc1, .slice xa2 xn2 xc2] 29)) := (ext_refl wr).alloc (Nat.le_refl _) _
        obtain ⟨P, hP⟩ : ∃ P, wr.heap.size = P := ⟨_, rfl⟩
        rw [hP] at hv3
        go_upto_region 13 with fail
        clear x0 x1 x2 x3 x4 x5 x6 x7 hP
        generalize wr.alloc (.cells #[.int .i64 xk, .bool xb, .bool xd.neg, .string ⟨xd.digits.toArray⟩, .int .i64 xd.exp, .string ⟨xs.toArray⟩, .slice xa1 xn1 xc1, .slice xa2 xn2 xc2] 29) = w6 at *
        have c0 := hv3.cell 0; have c1 := hv3.cell 1; have c2 := hv3.cell 2; have c3 := hv3.cell 3; have c4 := hv3.cell 4; have c5 := hv3.cell 5; have c6 := hv3.cell 6; have c7 := hv3.cell 7
        simp at c0 c1 c2 c3 c4 c5 c6 c7
        clear hv3
        have HX6 := Lib.hid hx3
        clear hx3
        have HCALL := Lib.hid (IH.out x _ (deep + 1) ni p w6 HNI.out.1 HNI.out.2.1 (by have := HNI.out; omega) (by have := HNI.out; have := HSI.out; omega) (HTX.out.keep (A' := fun g => g ≠ p) HX6.out.size (fun g hg hlt => ⟨hg, HX6.out.block g hlt⟩)) (HCR.out.ext HX6.out))
        have hcall := HCALL.out
        simp only [cellsV] at hcall
        rw [show ((deep + 1 : Nat) : Int) = (deep : Int) + 1 by omega] at hcall
        replace HCALL := Lib.hid hcall
        clear hcall
        have e9 : IntKind.i64.wrap ((i : Int) + 1) = ((i + 1 : Nat) : Int) := by rw [IntWalk.i64_in _ (by omega)]; omega
        go_wp2_with fail
        refine (HCALL.out).mono ?_
        rintro e w7 ⟨rfl, hc7, hk7⟩
        have HK7 := Lib.hid (HX.out.trans ((Kept.ofBelow (HX6.out.mono HX.out.size)).trans (hk7.mono (Nat.le_trans HX.out.size HX6.out.size))))
        have HC7 := Lib.hid hc7
        clear hc7 hk7 c0 c1 c2 c3 c4 c5 c6 c7
        obtain ⟨Q, hQ⟩ : ∃ Q, saneT (deep + 1) ni x = Q := ⟨_, rfl⟩
        have hc7 := HC7.out
        have htk := HTK.out
        have hat := HAT.out
        rw [hQ] at hc7 htk hat ⊢
        replace HC7 := Lib.hid hc7
        replace HTK := Lib.hid htk
        replace HAT := Lib.hid hat
        clear hQ hc7 htk hat
        obtain ⟨er, n2⟩ := Q
        simp only at HC7 HAT HTK ⊢
        by_cases her : er = 0
        · subst her
          go_wp2_with fail
          go_roundw
          case rel => exact ⟨i + 1, by go_num, by omega, by rw [HTK.out], by rw [HTK.out]; exact HC7.out, HK7.out⟩
          case measure => simp [intOf]; omega
        · have hern : (er != 0) = true := by simpa using her
          have HF : Hid (R = (er, n2)) := Lib.hid (by rw [← HRR3.out, HAT.out, if_neg her])
          go_wp2_with fail
          go_ret
          rw [HF.out]
          exact ⟨rfl, HC7.out, HK5.out.trans (HK7.out.mono HK5.out.size)⟩
      · obtain rfl : i = l.length := by omega
        have hnlt : ¬ ((l.length : Int) < (l.length : Int)) := by omega
        have HF : Hid (R.1 = 0 ∧ NAt wr p R.2) := Lib.hid (by
          have h1 := HZ.out
          have h2 := HCR.out
          rw [List.take_length] at h1 h2
          rw [← HRR3.out]
          exact ⟨h1, h2⟩)
        go_wp2_with fail
        go_ret
        exact ⟨ret_int HF.out.1.symm, HF.out.2, HK5.out.trans (HX.out.mono HK5.out.size)⟩
  · go_wp2_with fail
    refine (HIN.out).mono ?_
    rintro e w5 ⟨v5, cs, rfl, hown, htl, hw5⟩
    obtain ⟨a5, cc5, rfl⟩ := ownsRow_shape hown
    have hs4 : S ≤ w4.heap.size := by have := HK.out.size; have := HS.out; omega
    have HR := Lib.hid (RowAt.own hown (by decide) (A := fun g => g ≠ p) (fun g _ hb _ => by have := HPS.out; omega))
    have HTL := Lib.hid htl
    have HC5 := Lib.hid (HC.out.ext hw5)
    have HK5 := Lib.hid (HK.out.trans (Kept.ofBelow (hw5.mono HK.out.size)))
    clear hown htl hw5 c0 c1 c2 c3 c4 c5 c6 c7 r0 f0 hni
    go_wp2_with fail
    go_loopw [42] (fun iv wr => ∃ i : Nat, iv = .int .i64 i ∧ i ≤ l.length ∧ (saneL (deep + 1) (n + 1) (l.take i)).1 = 0 ∧ NAt wr p (saneL (deep + 1) (n + 1) (l.take i)).2 ∧ Kept w5.heap.size p w5 wr) (fun iv _ => 2000000 - (intOf iv).toNat)
    case atStart => exact ⟨0, rfl, by omega, by rw [List.take_zero, saneL], by rw [List.take_zero, saneL]; exact HC5.out, Kept.refl _ _ _⟩
    case round =>
      obtain ⟨i, rfl, hi, hz, hc, hE⟩ := hrel
      have HX := Lib.hid hE
      have HCR := Lib.hid hc
      have HZ := Lib.hid hz
      clear hE hc hz
      have hll := HLEN.out
      by_cases hlt : i < l.length
      · have hlti : (i : Int) < l.length := by omega
        have hi0 : (0 : Int) ≤ i := by omega
        obtain ⟨g, o, xk, xb, xd, xs, xa1, xn1, xc1, xa2, xn2, xc2, rfl, htx, hcell⟩ := row_elem HR.out HTL.out rfl i hlt
        obtain ⟨x0, x1, x2, x3, x4, x5, x6, x7⟩ := hcell wr (fun g hg hlt => HX.out.block g hlt hg)
        have HTX := Lib.hid (htx.keep (w' := wr) (A' := fun g => g ≠ p) HX.out.size (fun g hg hlt => ⟨hg, HX.out.block g hlt hg⟩))
        have HNI := Lib.hid (HNS.out i hlt)
        have HSI := Lib.hid (HSB.out i)
        have HTK := Lib.hid (saneL_take (deep + 1) (n + 1) hlt HZ.out)
        have HAT := Lib.hid (saneL_at (deep + 1) (n + 1) hlt HZ.out)
        clear htx hcell
        generalize l[i] = x at *
        obtain ⟨ni, hni⟩ : ∃ ni, (saneL (deep + 1) (n + 1) (l.take i)).2 = ni := ⟨_, rfl⟩
        have hcr := HCR.out
        have hsi := HSI.out
        have htk := HTK.out
        have hat := HAT.out
        rw [hni] at hcr hsi htk hat
        replace HCR := Lib.hid hcr
        replace HSI := Lib.hid hsi
        replace HTK := Lib.hid htk
        replace HAT := Lib.hid hat
        clear hni hcr hsi htk hat
        have hv3 := VAt.new wr #[.int .i64 xk, .bool xb, .bool xd.neg, .string ⟨xd.digits.toArray⟩, .int .i64 xd.exp, .string ⟨xs.toArray⟩, .slice xa1 xn1 xc1, .slice xa2 xn2 xc2]
        have hx3 : Ext wr (wr.alloc (.cells #[.int .i64 xk, .bool xb, .bool xd.neg, .string ⟨xd.digits.toArray⟩, .int .i64 xd.exp, .string ⟨xs.toArray⟩, .slice xa1 xn1 xc1, .slice xa2 xn2 xc2] 29)) := (ext_refl wr).alloc (Nat.le_refl _) _
        obtain ⟨P, hP⟩ : ∃ P, wr.heap.size = P := ⟨_, rfl⟩
        rw [hP] at hv3
        go_upto_region 13 with fail
        clear x0 x1 x2 x3 x4 x5 x6 x7 hP
        generalize wr.alloc (.cells #[.int .i64 xk, .bool xb, .bool xd.neg, .string ⟨xd.digits.toArray⟩, .int .i64 xd.exp, .string ⟨xs.toArray⟩, .slice xa1 xn1 xc1, .slice xa2 xn2 xc2] 29) = w6 at *
        have c0 := hv3.cell 0; have c1 := hv3.cell 1; have c2 := hv3.cell 2; have c3 := hv3.cell 3; have c4 := hv3.cell 4; have c5 := hv3.cell 5; have c6 := hv3.cell 6; have c7 := hv3.cell 7
        simp at c0 c1 c2 c3 c4 c5 c6 c7
        clear hv3
        have HX6 := Lib.hid hx3
        clear hx3
        have HCALL := Lib.hid (IH.out x _ (deep + 1) ni p w6 HNI.out.1 HNI.out.2.1 (by have := HNI.out; omega) (by have := HNI.out; have := HSI.out; omega) (HTX.out.keep (A' := fun g => g ≠ p) HX6.out.size (fun g hg hlt => ⟨hg, HX6.out.block g hlt⟩)) (HCR.out.ext HX6.out))
        have hcall := HCALL.out
        simp only [cellsV] at hcall
        rw [show ((deep + 1 : Nat) : Int) = (deep : Int) + 1 by omega] at hcall
        replace HCALL := Lib.hid hcall
        clear hcall
        have e9 : IntKind.i64.wrap ((i : Int) + 1) = ((i + 1 : Nat) : Int) := by rw [IntWalk.i64_in _ (by omega)]; omega
        go_wp2_with fail
        refine (HCALL.out).mono ?_
        rintro e w7 ⟨rfl, hc7, hk7⟩
        have HK7 := Lib.hid (HX.out.trans ((Kept.ofBelow (HX6.out.mono HX.out.size)).trans (hk7.mono (Nat.le_trans HX.out.size HX6.out.size))))
        have HC7 := Lib.hid hc7
        clear hc7 hk7 c0 c1 c2 c3 c4 c5 c6 c7
        obtain ⟨Q, hQ⟩ : ∃ Q, saneT (deep + 1) ni x = Q := ⟨_, rfl⟩
        have hc7 := HC7.out
        have htk := HTK.out
        have hat := HAT.out
        rw [hQ] at hc7 htk hat ⊢
        replace HC7 := Lib.hid hc7
        replace HTK := Lib.hid htk
        replace HAT := Lib.hid hat
        clear hQ hc7 htk hat
        obtain ⟨er, n2⟩ := Q
        simp only at HC7 HAT HTK ⊢
        by_cases her : er = 0
        · subst her
          go_wp2_with fail
          go_roundw
          case rel => exact ⟨i + 1, by go_num, by omega, by rw [HTK.out], by rw [HTK.out]; exact HC7.out, HK7.out⟩
          case measure => simp [intOf]; omega
        · have hern : (er != 0) = true := by simpa using her
          have HF : Hid (R = (er, n2)) := Lib.hid (by rw [← HRR3.out, HAT.out, if_neg her])
          go_wp2_with fail
          go_ret
          rw [HF.out]
          exact ⟨rfl, HC7.out, HK5.out.trans (HK7.out.mono HK5.out.size)⟩
      · obtain rfl : i = l.length := by omega
        have hnlt : ¬ ((l.length : Int) < (l.length : Int)) := by omega
        have HF : Hid (R.1 = 0 ∧ NAt wr p R.2) := Lib.hid (by
          have h1 := HZ.out
          have h2 := HCR.out
          rw [List.take_length] at h1 h2
          rw [← HRR3.out]
          exact ⟨h1, h2⟩)
        go_wp2_with fail
        go_ret
        exact ⟨ret_int HF.out.1.symm, HF.out.2, HK5.out.trans (HX.out.mono HK5.out.size)⟩
theorem Sane_any (t : Tree) (c : Array Value) (A : Nat → Prop) (w : World) (hw : weightT t ≤ 1000000) (h : TV w A t c) :
    Calls Tryd.prog 19 #[.agg c] w (fun e w' => e = .returned (.int .i64 (saneT 0 0 t).1) ∧ Ext w w') := by
  have key : ∀ N : Nat, ∀ (t : Tree) (c : Array Value) (deep n p : Nat) (w : World), SizeOf.sizeOf t < N → weightT t ≤ 1000000 → deep + countT t ≤ 1000000000 → n + countT t ≤ 1000000000 → TV w (fun g => g ≠ p) t c → NAt w p n →
      Calls Tryd.prog 25 #[.pointer (some ⟨p, 0, none⟩), .agg c, .int .i64 (deep : Nat)] w (fun e w' => e = .returned (.int .i64 (saneT deep n t).1) ∧ NAt w' p (saneT deep n t).2 ∧ Kept w.heap.size p w w') := by
    intro N
    induction N with
    | zero => intro t c deep n p w h; omega
    | succ N ih => exact sane_step N ih
  have hcw := count_weight t
  obtain ⟨k, b, d, s, la, ln, lc, ma, mn, mc, rfl⟩ := h.eight
  have HKEY : Hid (∀ (p : Nat) (w' : World), TV w' (fun g => g ≠ p) t (cellsV k b d s (.slice la ln lc) (.slice ma mn mc)) → NAt w' p 0 → Calls Tryd.prog 25 #[.pointer (some ⟨p, 0, none⟩), .agg (cellsV k b d s (.slice la ln lc) (.slice ma mn mc)), .int .i64 (0 : Nat)] w' (fun e w'' => e = .returned (.int .i64 (saneT 0 0 t).1) ∧ NAt w'' p (saneT 0 0 t).2 ∧ Kept w'.heap.size p w' w'')) := Lib.hid (fun p w' h1 h2 => key _ t _ 0 0 p w' (Nat.lt_succ_self _) hw (by omega) (by omega) h1 h2)
  clear key hcw hw
  obtain ⟨R, hR⟩ : ∃ R, saneT 0 0 t = R := ⟨_, rfl⟩
  rw [hR] at HKEY ⊢
  clear hR
  have hv := VAt.new w (cellsV k b d s (.slice la ln lc) (.slice ma mn mc))
  have hx : Ext w (w.alloc (.cells (cellsV k b d s (.slice la ln lc) (.slice ma mn mc)) 29)) := (ext_refl w).alloc (Nat.le_refl _) _
  simp only [cellsV] at hv hx HKEY ⊢
  go_enter Tryd.func19, Tryd.ntmps19
  go_upto_region 1 with fail
  obtain ⟨S, hS⟩ : ∃ S, w.heap.size = S := ⟨_, rfl⟩
  have hsz : (w.alloc (.cells #[.int .i64 k, .bool b, .bool d.neg, .string ⟨d.digits.toArray⟩, .int .i64 d.exp, .string ⟨s.toArray⟩, .slice la ln lc, .slice ma mn mc] 29)).heap.size = S + 1 := by rw [← hS]; simp
  rw [hS] at hv ⊢
  generalize w.alloc (.cells #[.int .i64 k, .bool b, .bool d.neg, .string ⟨d.digits.toArray⟩, .int .i64 d.exp, .string ⟨s.toArray⟩, .slice la ln lc, .slice ma mn mc] 29) = w1 at *
  have hn : NAt (w1.alloc (.cells #[.int .i64 0] 62)) (S + 1) 0 := by have := heap_alloc_new w1 (.cells #[.int .i64 0] 62); rw [hsz] at this; exact this
  have hx2 : Ext w1 (w1.alloc (.cells #[.int .i64 0] 62)) := (ext_refl w1).alloc (Nat.le_refl _) _
  have hv2 := hv.ext hx2
  go_upto_region 2 with fail
  generalize w1.alloc (.cells #[.int .i64 0] 62) = w2 at *
  have hE := ext_trans hx hx2
  have hcall := HKEY.out (S + 1) w2 (h.keep (w' := w2) (A' := fun g => g ≠ S + 1) hE.size (fun g _ hlt => ⟨by omega, hE.block g hlt⟩)) hn
  have HCALL := Lib.hid hcall
  have HE := Lib.hid hE
  have HS := Lib.hid hS
  have c0 := hv2.cell 0; have c1 := hv2.cell 1; have c2 := hv2.cell 2; have c3 := hv2.cell 3; have c4 := hv2.cell 4; have c5 := hv2.cell 5; have c6 := hv2.cell 6; have c7 := hv2.cell 7
  simp at c0 c1 c2 c3 c4 c5 c6 c7
  clear hcall hE hx hx2 hv hv2 hn hsz h HKEY hS
  go_wp2_with fail
  refine (HCALL.out).mono ?_
  rintro e w3 ⟨rfl, _, hk⟩
  have HK := Lib.hid hk
  clear hk
  go_wp2_with fail
  go_ret
  exact ⟨rfl, HE.out.trans ((HK.out.mono HE.out.size).below (by rw [HS.out]; omega))⟩
end Go.Proofs.YtckpndbmpigegaaDoor
end

section
/- parse: what is parsed may be (plain). -/
set_option linter.unusedVariables false
set_option linter.unusedSimpArgs false
set_option maxRecDepth 100000
namespace Go.Proofs.YtckpndbmpigegaaDoor
open Go.RowKit Go.Mem Orange
theorem formP_sane (neg : Bool) (l : List UInt8) (x : Int) (h : (formP neg l x).2 = 0) : sane (formP neg l x).1 = true := by
  unfold formP at h ⊢
  simp only at h ⊢
  split
  · rfl
  rename_i h1
  rw [if_neg h1] at h
  split
  · rename_i h2; exact h2
  · rename_i h2; rw [if_neg h2] at h; exact absurd (show (4 : Int) = 0 from h) (by decide)
theorem ite_formP {c : Bool} {neg : Bool} {l : List UInt8} {x : Int} (h : (if c = true then (Num.zero, (2 : Int)) else formP neg l x).2 = 0) : sane (if c = true then (Num.zero, (2 : Int)) else formP neg l x).1 = true := by
  cases c with
  | true => exact absurd (show (2 : Int) = 0 from h) (by decide)
  | false => exact formP_sane _ _ _ h
theorem decP_sane (l : List UInt8) (h : (decP l).2 = 0) : sane (decP l).1 = true := by
  unfold decP at h ⊢
  by_cases h1 : 1000 < l.length
  · rw [if_pos h1] at h; exact absurd (show (4 : Int) = 0 from h) (by decide)
  rw [if_neg h1] at h
  rw [if_neg h1]
  exact ite_formP h
theorem sane_digits {d : Num} (h : sane d = true) : d.digits.length ≤ 40 := by
  unfold sane at h
  split at h
  · omega
  split at h
  · cases h
  · rename_i h1
    simp only [Bool.or_eq_true, decide_eq_true_eq, not_or] at h1
    omega
/-- bytes that are characters -/
def Good (out : List UInt8) : Prop := ∃ l : List Int, (∀ r ∈ l, sound r = true) ∧ out = encs l
theorem Good.nil : Good [] := ⟨[], by simp, rfl⟩
theorem Good.put {out : List UInt8} (h : Good out) (r : Int) : Good (out ++ encP r) := by
  obtain ⟨l, hl, rfl⟩ := h
  obtain ⟨s, hs, he⟩ : ∃ s, sound s = true ∧ encP r = enc s := by
    unfold encP
    by_cases hr : sound r = true
    · exact ⟨r, hr, by rw [if_pos hr]⟩
    · exact ⟨65533, by decide, by rw [if_neg hr]⟩
  refine ⟨l ++ [s], fun x hx => ?_, by rw [he]; simp [encs]⟩
  rcases List.mem_append.1 hx with hx | hx
  · exact hl x hx
  · rw [List.mem_singleton.1 hx]; exact hs
theorem Good.check {out : List UInt8} (h : Good out) : check out < 0 := by
  obtain ⟨l, hl, rfl⟩ := h
  have := checkL_encs l hl [] 0
  rw [List.append_nil, checkL_nil] at this
  unfold Orange.check
  rw [this]; decide
theorem textL_good (X : List UInt8) (n : Nat) : ∀ (f k : Nat) (out v : List UInt8) (a m : Nat), k ≤ X.length → Good out → textL X n f k out = .ok v a m → Good v ∧ v.length + 4 * k ≤ out.length + 4 * a ∧ k < a ∧ a ≤ X.length ∧ m = n
  | 0, k, out, v, a, m, hk, hg, h => by rw [textL] at h; cases h
  | f + 1, k, out, v, a, m, hk, hg, h => by
    rw [textL] at h
    by_cases h34 : peekP X k = 34
    · rw [if_pos h34] at h
      simp only [PR.ok.injEq] at h
      obtain ⟨rfl, rfl, rfl⟩ := h
      have := (peekP_some h34 (by decide)).2
      exact ⟨hg, by omega, by omega, by omega, rfl⟩
    rw [if_neg h34] at h
    by_cases hne : 0 < (next (X.drop k)).2 ∧ 32 ≤ (next (X.drop k)).1
    · rw [if_neg (fun h => h hne)] at h
      have hnl := (next_le (X.drop k)).2
      rw [List.length_drop] at hnl
      by_cases h92 : (next (X.drop k)).1 = 92
      · rw [if_pos h92] at h
        by_cases hes : 0 < (escape (X.drop (k + 1))).2
        · rw [if_neg (fun h => h hes)] at h
          have hel := escape_le (X.drop (k + 1))
          rw [List.length_drop] at hel
          obtain ⟨i1, i2, i3, i4, i5⟩ := textL_good X n f _ _ _ _ _ (by omega) (hg.put _) h
          have h4 := encP_le (escape (X.drop (k + 1))).1
          rw [List.length_append] at i2
          exact ⟨i1, by omega, by omega, i4, i5⟩
        · rw [if_pos hes] at h; cases h
      · rw [if_neg h92] at h
        obtain ⟨i1, i2, i3, i4, i5⟩ := textL_good X n f _ _ _ _ _ (by omega) (hg.put _) h
        have h4 := encP_le (next (X.drop k)).1
        rw [List.length_append] at i2
        exact ⟨i1, by omega, by omega, i4, i5⟩
    · rw [if_pos hne] at h; cases h
theorem textP_good {X : List UInt8} {k n a m : Nat} {v : List UInt8} (h : textP X k n = .ok v a m) : Good v ∧ v.length + 4 * k ≤ 4 * a ∧ k + 1 < a ∧ a ≤ X.length ∧ m = n := by
  rw [textP] at h
  split at h
  · rename_i h34
    obtain ⟨hl, _⟩ := List.getElem?_eq_some_iff.1 h34
    obtain ⟨i1, i2, i3, i4, i5⟩ := textL_good X n _ _ _ _ _ _ (by omega) Good.nil h
    simp only [List.length_nil] at i2
    exact ⟨i1, by omega, by omega, i4, i5⟩
  · cases h
theorem listP_inv {ι : Type} {X : List UInt8} {close : UInt8} {it : List ι → Nat → Nat → PR (List ι)} {I : List ι → Nat → Nat → Prop} (hm : ∀ s a a' n, I s a n → a ≤ a' → I s a' n)
    (hi : ∀ s k n s1 a1 m1, k ≤ X.length → I s k n → it s k n = .ok s1 a1 m1 → I s1 a1 m1 ∧ a1 ≤ X.length) : ∀ (f : Nat) (s : List ι) (k n : Nat) (s' : List ι) (a m : Nat), k ≤ X.length → I s k n → listP X close it f s k n = .ok s' a m → ∃ a', a' + 1 = a ∧ I s' a' m
  | 0, s, k, n, s', a, m, hk, hI, h => by rw [listP] at h; cases h
  | f + 1, s, k, n, s', a, m, hk, hI, h => by
    rw [listP] at h
    cases hr : it s k n with
    | err e b => rw [hr] at h; cases h
    | ok s1 a1 m1 =>
      rw [hr] at h
      simp only at h
      obtain ⟨h1, h2⟩ := hi _ _ _ _ _ _ hk hI hr
      have hw := whiteN_ge X a1 h2
      by_cases h44 : peekP X (whiteN X a1) = 44
      · rw [if_pos h44] at h
        have hlt := (peekP_some h44 (by decide)).2
        exact listP_inv hm hi f _ _ _ _ _ _ hlt (hm _ _ _ _ h1 (by omega)) h
      · rw [if_neg h44] at h
        by_cases hcl : X[whiteN X a1]? = some close
        · rw [if_pos hcl] at h
          simp only [PR.ok.injEq] at h
          obtain ⟨rfl, rfl, rfl⟩ := h
          exact ⟨_, rfl, hm _ _ _ _ h1 hw⟩
        · rw [if_neg hcl] at h; cases h
theorem openP_inv {ι : Type} {X : List UInt8} {close : UInt8} {it : List ι → Nat → Nat → PR (List ι)} {I : List ι → Nat → Nat → Prop} (hm : ∀ s a a' n, I s a n → a ≤ a' → I s a' n)
    (hi : ∀ s k n s1 a1 m1, k ≤ X.length → I s k n → it s k n = .ok s1 a1 m1 → I s1 a1 m1 ∧ a1 ≤ X.length) {k n : Nat} {s' : List ι} {a m : Nat} (hk : k < X.length) (hI : I [] k n) (h : openP X close it [] k n = .ok s' a m) : ∃ a', a' + 1 = a ∧ I s' a' m := by
  rw [openP] at h
  have hw : k + 1 ≤ whiteN X (k + 1) := whiteN_ge X (k + 1) hk
  split at h
  · simp only [PR.ok.injEq] at h
    obtain ⟨rfl, rfl, rfl⟩ := h
    exact ⟨_, rfl, hm _ _ _ _ hI (by omega)⟩
  · exact listP_inv hm hi _ _ _ _ _ _ _ (whiteN_le _ _) (hm _ _ _ _ hI (by omega)) h
theorem weightL_append : ∀ (l l' : List Tree), weightL (l ++ l') = weightL l + weightL l'
  | [], l' => by rw [List.nil_append, weightL]; omega
  | t :: l, l' => by rw [List.cons_append, weightL, weightL, weightL_append l l']; omega
theorem weightM_append : ∀ (l l' : List (List UInt8 × Tree)), weightM (l ++ l') = weightM l + weightM l'
  | [], l' => by rw [List.nil_append, weightM]; omega
  | (k, t) :: l, l' => by rw [List.cons_append, weightM, weightM, weightM_append l l']; omega
theorem twiceP_append : ∀ (l met : List (List UInt8)) (k : List UInt8), twiceP met (l ++ [k]) = (twiceP met l || met.contains k || l.contains k)
  | [], met, k => by simp [twiceP]
  | x :: l, met, k => by
    rw [List.cons_append, twiceP, twiceP, twiceP_append l (x :: met) k]
    simp only [List.contains_cons]
    cases (k == x) <;> cases met.contains k <;> cases met.contains x <;> cases twiceP (x :: met) l <;> cases l.contains k <;> rfl
theorem leaf_sane {kk : Int} {b : Bool} {d : Num} {s : List UInt8} {deep n : Nat} (hk : kk < 4) (hf : fieldsT (.mk kk b d s [] []) = true) (hn : ¬ 4096 < n + 1) : saneT deep n (.mk kk b d s [] []) = (0, n + 1) := by
  rw [saneT, hf, if_neg (by decide), if_neg (by decide), if_neg (fun h => by omega), if_neg hn]
  simp only [saneL, saneM, if_true]
/-- what is parsed may be, is counted as the parser counts, and holds no more than so much -/
theorem valueP_sane (X : List UInt8) : ∀ (f deep k n : Nat) (t : Tree) (a m : Nat), k ≤ X.length → valueP X f deep k n = .ok t a m → saneT deep n t = (0, m) ∧ weightT t + 50 * k ≤ 50 * a ∧ k < a ∧ a ≤ X.length
  | 0, deep, k, n, t, a, m, hk, h => by rw [valueP] at h; cases h
  | f + 1, deep, k, n, t, a, m, hk, h => by
    have hag := valueP_agree (Z := X) (f + 1) deep k n t a m hk h
    rw [valueP] at h
    have hw1 := whiteN_ge X k hk
    by_cases hb : peekP X (whiteN X k) ≠ 0 ∧ begs.contains (peekP X (whiteN X k)) = true
    case neg => rw [if_pos hb] at h; cases h
    rw [if_neg (fun h => h hb)] at h
    by_cases hn : 4096 < n + 1
    case pos => rw [if_pos hn] at h; cases h
    rw [if_neg hn] at h
    have hlt : whiteN X k < X.length := (peekP_some rfl hb.1).2
    refine ⟨?_, ?_, hag.1, hag.2.1⟩ <;> generalize whiteN X k = p at * <;> generalize peekP X p = c at *
    all_goals
      have hag1 := hag.1
      have hag2 := hag.2.1
      clear hag
    · by_cases h116 : c = 116
      · rw [if_pos h116] at h
        obtain ⟨i1, i2, i3, i4, i5⟩ := wordP_agree (Z := X) (n' := 0) (Nat.le_of_lt hlt) h
        subst i3 i4; exact leaf_sane (by decide) (by decide) hn
      rw [if_neg h116] at h
      by_cases h102 : c = 102
      · rw [if_pos h102] at h
        obtain ⟨i1, i2, i3, i4, i5⟩ := wordP_agree (Z := X) (n' := 0) (Nat.le_of_lt hlt) h
        subst i3 i4; exact leaf_sane (by decide) (by decide) hn
      rw [if_neg h102] at h
      by_cases h110 : c = 110
      · rw [if_pos h110] at h
        obtain ⟨i1, i2, i3, i4, i5⟩ := wordP_agree (Z := X) (n' := 0) (Nat.le_of_lt hlt) h
        subst i3 i4; exact leaf_sane (by decide) (by decide) hn
      rw [if_neg h110] at h
      by_cases h34 : c = 34
      · rw [if_pos h34] at h
        obtain ⟨u, h1, rfl⟩ := PR.map_ok h
        obtain ⟨g1, g2, g3, g4, rfl⟩ := textP_good h1
        exact leaf_sane (by decide) (by simp [fieldsT, tStr, g1.check]) hn
      rw [if_neg h34] at h
      by_cases h91 : c = 91
      · rw [if_pos h91] at h
        by_cases hdp : 64 ≤ deep
        · rw [if_pos hdp] at h; cases h
        rw [if_neg hdp] at h
        obtain ⟨l, h1, rfl⟩ := PR.map_ok h
        have hinv := openP_inv (I := fun s a n' => saneL (deep + 1) (n + 1) s = (0, n')) (fun s a a' n' h _ => h) (fun s k' n' s1 a1 m1 hk' hI hr => by
          obtain ⟨x, h2, rfl⟩ := PR.map_ok (f := fun t => s ++ [t]) hr
          obtain ⟨j1, j2, j3, j4⟩ := valueP_sane X f (deep + 1) k' n' x a1 m1 hk' h2
          refine ⟨?_, j4⟩
          show saneL (deep + 1) (n + 1) (s ++ [x]) = (0, m1)
          have hI : saneL (deep + 1) (n + 1) s = (0, n') := hI
          rw [saneL_append, hI, if_pos rfl, saneL, j1]; simp only [if_true]; rw [saneL]) hlt (by rw [saneL]) h1
        obtain ⟨_, _, hinv⟩ := hinv
        have hinv : saneL (deep + 1) (n + 1) l = (0, m) := hinv
        rw [tArr, saneT, if_neg (by simp [fieldsT]), if_neg (by simp [twiceP]), if_neg (fun h => hdp h.2), if_neg hn, hinv]
        simp only [saneM, if_true]
      rw [if_neg h91] at h
      by_cases h123 : c = 123
      · rw [if_pos h123] at h
        by_cases hdp : 64 ≤ deep
        · rw [if_pos hdp] at h; cases h
        rw [if_neg hdp] at h
        obtain ⟨l, h1, rfl⟩ := PR.map_ok h
        have hinv := openP_inv (I := fun s a n' => saneM (deep + 1) (n + 1) s = (0, n') ∧ s.any badKey = false ∧ twiceP [] (s.map (·.1)) = false) (fun s a a' n' h _ => h) (fun s k' n' s1 a1 m1 hk' hI hr => by
          unfold itemO at hr
          cases ht : textP X (whiteN X k') n' with
          | err e b => rw [ht] at hr; cases hr
          | ok key a2 n2 =>
            rw [ht] at hr
            simp only at hr
            obtain ⟨g1, g2, g3, g4, rfl⟩ := textP_good ht
            have hw2 := whiteN_ge X a2 g4
            split at hr
            · cases hr
            rename_i hany
            split at hr
            · rename_i h58
              obtain ⟨hl58, _⟩ := List.getElem?_eq_some_iff.1 h58
              obtain ⟨x, h2, rfl⟩ := PR.map_ok hr
              obtain ⟨j1, j2, j3, j4⟩ := valueP_sane X f (deep + 1) _ _ x a1 m1 (by omega) h2
              obtain ⟨hI1, hI2, hI3⟩ := hI
              refine ⟨⟨?_, ?_, ?_⟩, j4⟩
              · rw [saneM_map] at hI1 ⊢
                rw [List.map_append, saneL_append, hI1, if_pos rfl, List.map_cons, List.map_nil, saneL, j1]; simp only [if_true]; rw [saneL]
              · rw [List.any_append, hI2]
                have hc := g1.check
                simp [badKey]; exact hc
              · rw [List.map_append, List.map_cons, List.map_nil, twiceP_append, hI3]
                have hne : (s.map (·.1)).contains key = false := by
                  cases hcc : (s.map (·.1)).contains key with
                  | false => rfl
                  | true =>
                    exfalso; apply hany
                    rw [List.contains_iff_mem] at hcc
                    obtain ⟨q, hq, he⟩ := List.mem_map.1 hcc
                    exact List.any_eq_true.2 ⟨q, hq, by rw [he]; simp⟩
                rw [hne]; rfl
            · cases hr) hlt ⟨by rw [saneM], rfl, rfl⟩ h1
        obtain ⟨_, _, v1, v2, v3⟩ := hinv
        rw [tObj, saneT, if_neg (by simp [fieldsT, v2]), if_neg (by rw [v3]; decide), if_neg (fun h => hdp h.2), if_neg hn, saneL]
        simp only [if_true]
        exact v1
      rw [if_neg h123] at h
      unfold numP at h
      simp only at h
      split at h
      · rename_i hd
        simp only [PR.ok.injEq] at h
        obtain ⟨rfl, rfl, rfl⟩ := h
        exact leaf_sane (by decide) (by simp [fieldsT, decP_sane _ hd]) hn
      · cases h
    · by_cases h116 : c = 116
      · rw [if_pos h116] at h
        obtain ⟨i1, i2, i3, i4, i5⟩ := wordP_agree (Z := X) (n' := 0) (Nat.le_of_lt hlt) h
        subst i3; show 1 + 50 * k ≤ _; omega
      rw [if_neg h116] at h
      by_cases h102 : c = 102
      · rw [if_pos h102] at h
        obtain ⟨i1, i2, i3, i4, i5⟩ := wordP_agree (Z := X) (n' := 0) (Nat.le_of_lt hlt) h
        subst i3; show 1 + 50 * k ≤ _; omega
      rw [if_neg h102] at h
      by_cases h110 : c = 110
      · rw [if_pos h110] at h
        obtain ⟨i1, i2, i3, i4, i5⟩ := wordP_agree (Z := X) (n' := 0) (Nat.le_of_lt hlt) h
        subst i3; show 1 + 50 * k ≤ _; omega
      rw [if_neg h110] at h
      by_cases h34 : c = 34
      · rw [if_pos h34] at h
        obtain ⟨u, h1, rfl⟩ := PR.map_ok h
        obtain ⟨g1, g2, g3, g4, g5⟩ := textP_good h1
        rw [tStr, weightT, weightL, weightM]
        show 1 + u.length + 0 + 0 + 0 + _ ≤ _
        omega
      rw [if_neg h34] at h
      by_cases h91 : c = 91
      · rw [if_pos h91] at h
        by_cases hdp : 64 ≤ deep
        · rw [if_pos hdp] at h; cases h
        rw [if_neg hdp] at h
        obtain ⟨l, h1, rfl⟩ := PR.map_ok h
        have hinv := openP_inv (I := fun s a _ => weightL s + 50 * p ≤ 50 * a) (fun s a a' n' h h' => by omega) (fun s k' n' s1 a1 m1 hk' hI hr => by
          obtain ⟨x, h2, rfl⟩ := PR.map_ok (f := fun t => s ++ [t]) hr
          obtain ⟨j1, j2, j3, j4⟩ := valueP_sane X f (deep + 1) k' n' x a1 m1 hk' h2
          refine ⟨?_, j4⟩
          rw [weightL_append, weightL, weightL]
          omega) hlt (by rw [weightL]; omega) h1
        obtain ⟨a', rfl, hinv⟩ := hinv
        rw [tArr, weightT, weightM]
        show 1 + 0 + 0 + weightL l + 0 + _ ≤ _
        omega
      rw [if_neg h91] at h
      by_cases h123 : c = 123
      · rw [if_pos h123] at h
        by_cases hdp : 64 ≤ deep
        · rw [if_pos hdp] at h; cases h
        rw [if_neg hdp] at h
        obtain ⟨l, h1, rfl⟩ := PR.map_ok h
        have hinv := openP_inv (I := fun s a _ => weightM s + 50 * p ≤ 50 * a) (fun s a a' n' h h' => by omega) (fun s k' n' s1 a1 m1 hk' hI hr => by
          unfold itemO at hr
          cases ht : textP X (whiteN X k') n' with
          | err e b => rw [ht] at hr; cases hr
          | ok key a2 n2 =>
            rw [ht] at hr
            simp only at hr
            obtain ⟨g1, g2, g3, g4, g5⟩ := textP_good ht
            have hw2 := whiteN_ge X a2 g4
            have hw3 := whiteN_ge X k' hk'
            split at hr
            · cases hr
            split at hr
            · rename_i h58
              obtain ⟨hl58, _⟩ := List.getElem?_eq_some_iff.1 h58
              obtain ⟨x, h2, rfl⟩ := PR.map_ok hr
              obtain ⟨j1, j2, j3, j4⟩ := valueP_sane X f (deep + 1) _ _ x a1 m1 (by omega) h2
              refine ⟨?_, j4⟩
              rw [weightM_append, weightM, weightM]
              omega
            · cases hr) hlt (by rw [weightM]; omega) h1
        obtain ⟨a', rfl, hinv⟩ := hinv
        rw [tObj, weightT, weightL]
        show 1 + 0 + 0 + 0 + weightM l + _ ≤ _
        omega
      rw [if_neg h123] at h
      have hpa : p < a := by
        obtain ⟨i1, i2, i3, i4, _⟩ := numP_agree (Z := X) (n' := 0) (Nat.le_of_lt hlt) h
        rcases Nat.lt_or_eq_of_le i1 with h' | h'
        · exact h'
        · exfalso
          unfold numP at h
          simp only at h
          split at h
          · rename_i hd
            simp only [PR.ok.injEq] at h
            obtain ⟨_, e, _⟩ := h
            rw [e, ← h', Nat.sub_self, List.take_zero] at hd
            exact absurd hd (by decide)
          · cases h
      unfold numP at h
      simp only at h
      split at h
      · rename_i hd
        simp only [PR.ok.injEq] at h
        obtain ⟨rfl, e2, rfl⟩ := h
        have h40 := sane_digits (decP_sane _ hd)
        rw [tNum, weightT, weightL, weightM]
        show 1 + 0 + _ + 0 + 0 + _ ≤ _
        omega
      · cases h
/-- by which byte a value begins, so is its kind -/
theorem valueP_kind {X : List UInt8} {f deep k n a m : Nat} {t : Tree} (h : valueP X f deep k n = .ok t a m) : t.kind = if peekP X (whiteN X k) = 116 ∨ peekP X (whiteN X k) = 102 then 1 else if peekP X (whiteN X k) = 110 then 0 else if peekP X (whiteN X k) = 34 then 3 else if peekP X (whiteN X k) = 91 then 4 else if peekP X (whiteN X k) = 123 then 5 else 2 := by
  cases f with
  | zero => rw [valueP] at h; cases h
  | succ f =>
    rw [valueP] at h
    split at h
    · cases h
    split at h
    · cases h
    generalize peekP X (whiteN X k) = c at *
    generalize whiteN X k = p at *
    have hword : ∀ s t', wordP X s t' p (n + 1) = .ok t a m → t = t' := fun s t' h => by
      unfold wordP at h
      split at h
      · simp only [PR.ok.injEq] at h; exact h.1.symm
      · cases h
    split at h
    · rename_i hc; rw [hword _ _ h, if_pos (.inl hc)]; rfl
    split at h
    · rename_i hc; rw [hword _ _ h, if_pos (.inr hc)]; rfl
    rename_i n1 n2
    rw [if_neg (fun h => h.elim n1 n2)]
    split at h
    · rename_i hc; rw [hword _ _ h, if_pos hc]; rfl
    rename_i n3
    rw [if_neg n3]
    split at h
    · rename_i hc; obtain ⟨u, _, rfl⟩ := PR.map_ok h; rw [if_pos hc]; rfl
    rename_i n4
    rw [if_neg n4]
    split at h
    · rename_i hc
      split at h
      · cases h
      · obtain ⟨u, _, rfl⟩ := PR.map_ok h; rw [if_pos hc]; rfl
    rename_i n5
    rw [if_neg n5]
    split at h
    · rename_i hc
      split at h
      · cases h
      · obtain ⟨u, _, rfl⟩ := PR.map_ok h; rw [if_pos hc]; rfl
    rename_i n6
    rw [if_neg n6]
    unfold numP at h
    simp only at h
    split at h
    · simp only [PR.ok.injEq] at h; rw [← h.1]; rfl
    · cases h
/-- the law, of the parser's function -/
theorem sane_law {b : List UInt8} {t : Tree} {a m : Nat} (hb : b.length ≤ 65536) (h : valueP b 65 0 0 0 = .ok t a m) : a ≤ b.length ∧ 1 ≤ a ∧ parseP (b.take a) = (t, 0, a) ∧ (t.kind = 2 ∨ (parseP (b.take (a - 1))).2.1 ≠ 0) ∧ (saneT 0 0 t).1 = 0 ∧ weightT t ≤ 50 * b.length := by
  have hz : ∀ x : List UInt8, oneP x 0 = valueP x 65 0 0 0 := fun x => by unfold oneP; rw [show clampN x.length 0 = 0 from by unfold clampN; omega]
  obtain ⟨j1, j2, j3, j4⟩ := valueP_sane b 65 0 0 0 t a m (Nat.zero_le _) h
  have hta : (b.take a).length = a := by rw [List.length_take]; omega
  refine ⟨j4, by omega, ?_, ?_, by rw [j1], by omega⟩
  · have hv : valueP (b.take a) 65 0 0 0 = .ok t a m := by
      have h1 := (valueP_agree (Z := b.take a) 65 0 0 0 t a m (Nat.zero_le _) h).2.2 (by rw [List.take_take, Nat.min_self]) (.inr (.inr fun c hc => by rw [List.getElem?_eq_none (by omega)] at hc; cases hc)) 65 0 0 (by omega) (by omega)
      have h2 := (valueP_agree (Z := b) 65 0 0 0 t a m (Nat.zero_le _) h).2.2 rfl (.inr (.inl rfl)) 65 0 0 (by omega) (by omega)
      cases hx : fitT 0 0 t with
      | error e => rw [hx] at h2; obtain ⟨p, h2⟩ := h2; rw [h] at h2; cases h2
      | ok m' =>
        rw [hx] at h1 h2
        have h1 : valueP (b.take a) 65 0 0 0 = .ok t a m' := h1
        have h2 : valueP b 65 0 0 0 = .ok t a m' := h2
        rw [h] at h2
        simp only [PR.ok.injEq, true_and] at h2
        rw [h1, h2]
    have hw : whiteN (b.take a) a = a := endQ_end hta.symm
    unfold parseP
    rw [if_neg (by omega), hz, hv]
    simp only
    rw [hw, if_neg (by omega)]
  · by_cases hk : t.kind = 2
    · exact .inl hk
    refine .inr fun he => ?_
    have hl1 : (b.take (a - 1)).length = a - 1 := by rw [List.length_take]; omega
    unfold parseP at he
    rw [if_neg (by omega), hz] at he
    have hf := valueP_fine 65 0 0 0 (Nat.zero_le (b.take (a - 1)).length)
    cases hop : valueP (b.take (a - 1)) 65 0 0 0 with
    | err e p => rw [hop] at he hf; exact hf.1 he
    | ok t2 a2 m2 =>
      obtain ⟨q1, q2, q3⟩ := valueP_agree (Z := b) 65 0 0 0 t2 a2 m2 (Nat.zero_le _) hop
      have hlt : whiteN (b.take (a - 1)) 0 < a - 1 := by
        have hb : peekP (b.take (a - 1)) (whiteN (b.take (a - 1)) 0) ≠ 0 := by
          intro h0
          rw [valueP, h0, if_pos (by simp)] at hop
          cases hop
        have := (peekP_some rfl hb).2
        omega
      have hz2 : b.take (a - 1) = (b.take (a - 1)).take (a - 1) := by rw [List.take_take, Nat.min_self]
      have hw2 : whiteN b 0 = whiteN (b.take (a - 1)) 0 := white_agree (X := b.take (a - 1)) (a := a - 1) (Nat.zero_le _) hz2 (by omega) hlt
      have hp2 : peekP b (whiteN (b.take (a - 1)) 0) = peekP (b.take (a - 1)) (whiteN (b.take (a - 1)) 0) := agree_peek (X := b.take (a - 1)) hz2 hlt
      have hk2 : t2.kind = t.kind := by rw [valueP_kind hop, valueP_kind h, hw2, hp2]
      have h5 := q3 (agree_mono hz2 (by omega)) (.inl (by rw [hk2]; exact hk)) 65 0 0 (by omega) (by omega)
      cases hx : fitT 0 0 t2 with
      | error e => rw [hx] at h5; obtain ⟨p, h5⟩ := h5; rw [h] at h5; cases h5
      | ok m' =>
        rw [hx] at h5
        have h5 : valueP b 65 0 0 0 = .ok t2 a2 m' := h5
        rw [h] at h5
        simp only [PR.ok.injEq] at h5
        omega
end Go.Proofs.YtckpndbmpigegaaDoor
end

section
/- the documents' parser: word, number, text. -/
set_option linter.unusedVariables false
set_option linter.unusedSimpArgs false
set_option maxRecDepth 100000
namespace Go.Proofs.YtckpndbmpigegaaDoor
open Go.RowKit Go.Mem Orange
theorem bytes_mid {w : World} {b o cap : Nat} {xs : List UInt8} (h : Bytes w (.slice (some ⟨b, o, none⟩) xs.length cap) xs) (a k : Nat) (hk : a + k ≤ xs.length) : Bytes w (.slice (some ⟨b, o + a, none⟩) k (cap - a)) ((xs.drop a).take k) := by
  obtain ⟨a', c', e, h1, h2, h3, h4⟩ := h
  simp only [Value.slice.injEq] at e
  obtain ⟨rfl, -, rfl⟩ := e
  have hl : ((xs.drop a).take k).length = k := by rw [List.length_take, List.length_drop]; omega
  exact ⟨_, _, by rw [hl], by omega, by omega, by omega, (h4.drop a).take k⟩
theorem bytes_from {w : World} {b o cap : Nat} {xs : List UInt8} (h : Bytes w (.slice (some ⟨b, o, none⟩) xs.length cap) xs) (a : Nat) (hk : a ≤ xs.length) : Bytes w (.slice (some ⟨b, o + a, none⟩) (xs.length - a) (cap - a)) (xs.drop a) := by
  have := bytes_mid h a (xs.length - a) (by omega)
  rwa [List.take_of_length_le (by rw [List.length_drop]; omega)] at this
set_option maxHeartbeats 3200000 in
theorem word_yes (p : Nat) (v : Value) (xs : List UInt8) (a n : Nat) (e : Int) (s : List UInt8) (w : World) (h : SS w p v xs a n e) (hs0 : 0 < s.length) (hs1 : s.length ≤ 100) (hw : (xs.drop a).take s.length = s) :
    Calls Tryd.prog 37 #[.pointer (some ⟨p, 0, none⟩), .string ⟨s.toArray⟩] w fun en w' => en = .returned (.bool true) ∧ SS w' p v xs (a + s.length) n e ∧ KeptP p w w' := by
  have HP := Lib.hid h
  have hl : a + s.length ≤ xs.length := by
    have := congrArg List.length hw
    rw [List.length_take, List.length_drop] at this
    omega
  have hx := h.2.1.len
  rcases h.2.1.split with ⟨rfl, a0, cap, rfl, hcap⟩ | ⟨h0, b, o, cap, rfl, hn, hm, hbp, hat⟩
  · rw [List.length_nil] at hl; omega
  have hsl := bytes_mid h.2.1.bytes a s.length hl
  have e1 : IntKind.i64.wrap ((xs.length : Int) - (a : Int)) = (xs.length : Int) - (a : Int) := IntWalk.i64_in _ (by omega)
  obtain ⟨m, hm2⟩ : ∃ m, a + s.length = m := ⟨_, rfl⟩
  rw [show s.length = m - a by omega] at hsl
  rw [show (xs.drop a).take (m - a) = s by rw [← hm2, Nat.add_sub_cancel_left]; exact hw] at hsl
  have HSL := Lib.hid hsl
  have e2 : IntKind.i64.wrap ((a : Int) + (s.length : Int)) = (m : Int) := by rw [IntWalk.i64_in _ (by omega)]; omega
  have hd : decide ((xs.length : Int) - (a : Int) < (s.length : Int)) = false := by simp; omega
  have hk1 : (a : Int) ≤ (m : Int) := by omega
  have hk2 : (m : Int) ≤ cap := by omega
  have hk3 : a ≤ m := by omega
  have hk4 : m ≤ cap := by omega
  have hca : ¬ cap = a := by omega
  have HL : Hid (m ≤ xs.length) := Lib.hid (by omega)
  rw [hm2]
  clear h hw hat hl hm2 hsl
  go_enter Tryd.func37, Tryd.ntmps37
  go_wp2_with fail
  refine Grow.wp_region_litW (G := Ext) (B := fun w' => Ext w w') (anc := fun _ => []) (I := fun j => if j = 30 then some (Grow.Spec.val Ext (.string ⟨(s).toArray⟩)) else none) (by kernel_rfl) (by kernel_rfl) (by kernel_rfl) ?_ ?_ ?_
  · exact fun w w' h hg => ext_trans h hg
  · exact (ext_refl _).drew
  repeat
    (refine Grow.Wk.step (fun K hK => ?_)
     first
     | (refine Grow.step_read (by rfl) (by rfl) ext_refl ?_
        apply Exists.intro
        refine ⟨fun w hB hF => ?_, ?_⟩
        · obtain ⟨c0, c1, c2, c3, f1, f2, f3, hpl⟩ := (HP.out.ext hB).1.cells
          go_simp
          try exact rfl
        go_simp
        refine hK _ _ ?_
        clear hK K)
     | (refine Grow.step_off (by rfl) ?_
        go_simp
        refine hK _ _ ?_
        clear hK K))
  refine Grow.Wk.step (fun K hK => ?_)
  refine Grow.step_rel (by rfl) (by rfl) (fun w' hB hF => ?_) (fun v hv => ?_)
  · have hrs := run_string_of_bytes w' (HSL.out.ext hB) 22 9 5 Tryd.underlying22 Tryd.underlying5 Tryd.underlying9
    go_simp
    exact ⟨ext_refl _, rfl, trivial⟩
  obtain rfl : v = _ := hv
  go_simp
  refine hK _ _ ?_
  clear hK K
  repeat
    (refine Grow.Wk.step (fun K hK => ?_)
     first
     | (refine Grow.step_read (by rfl) (by rfl) ext_refl ?_
        apply Exists.intro
        refine ⟨fun w hB hF => ?_, ?_⟩
        · obtain ⟨c0, c1, c2, c3, f1, f2, f3, hpl⟩ := (HP.out.ext hB).1.cells
          go_simp
          try exact rfl
        go_simp
        refine hK _ _ ?_
        clear hK K)
     | (refine Grow.step_off (by rfl) ?_
        go_simp
        refine hK _ _ ?_
        clear hK K))
  refine Grow.Wk.nil ?_
  intro w3 hB hF
  clear hF
  obtain ⟨c0, c1, c2, c3, f1, f2, f3, hpl⟩ := (HP.out.ext hB).1.cells
  go_wp2_with fail
  go_ret
  exact ⟨rfl, (HP.out.ext hB).setA m HL.out, (KeptP.ofExt hB).trans (KeptP.set _)⟩
set_option maxHeartbeats 3200000 in
theorem word_no (p : Nat) (v : Value) (xs : List UInt8) (a n : Nat) (e : Int) (s : List UInt8) (w : World) (h : SS w p v xs a n e) (hs0 : 0 < s.length) (hs1 : s.length ≤ 100) (hw : ¬ (xs.drop a).take s.length = s) :
    Calls Tryd.prog 37 #[.pointer (some ⟨p, 0, none⟩), .string ⟨s.toArray⟩] w fun en w' => en = .returned (.bool false) ∧ Ext w w' := by
  have HP := Lib.hid h
  have hx := h.2.1.len
  have hal := h.2.2
  have e1 : IntKind.i64.wrap ((xs.length : Int) - (a : Int)) = (xs.length : Int) - (a : Int) := IntWalk.i64_in _ (by omega)
  by_cases hl : a + s.length ≤ xs.length
  · rcases h.2.1.split with ⟨rfl, a0, cap, rfl, hcap⟩ | ⟨h0, b, o, cap, rfl, hn, hm, hbp, hat⟩
    · rw [List.length_nil] at hl; omega
    have hsl := bytes_mid h.2.1.bytes a s.length hl
    obtain ⟨m, hm2⟩ : ∃ m, a + s.length = m := ⟨_, rfl⟩
    obtain ⟨T, hT⟩ : ∃ T, (xs.drop a).take s.length = T := ⟨_, rfl⟩
    rw [hT] at hsl hw
    rw [show s.length = m - a by omega] at hsl
    have HSL := Lib.hid hsl
    have e2 : IntKind.i64.wrap ((a : Int) + (s.length : Int)) = (m : Int) := by rw [IntWalk.i64_in _ (by omega)]; omega
    have hd : decide ((xs.length : Int) - (a : Int) < (s.length : Int)) = false := by simp; omega
    have hk1 : (a : Int) ≤ (m : Int) := by omega
    have hk2 : (m : Int) ≤ cap := by omega
    have hk3 : a ≤ m := by omega
    have hk4 : m ≤ cap := by omega
    have hca : ¬ cap = a := by omega
    have hne : (T == s) = false := by simpa using hw
    clear h hw hat hl hm2 hsl hT
    go_enter Tryd.func37, Tryd.ntmps37
    go_wp2_with fail
    refine Grow.wp_region_litW (G := Ext) (B := fun w' => Ext w w') (anc := fun _ => []) (I := fun j => if j = 30 then some (Grow.Spec.val Ext (.string ⟨(T).toArray⟩)) else none) (by kernel_rfl) (by kernel_rfl) (by kernel_rfl) ?_ ?_ ?_
    · exact fun w w' h hg => ext_trans h hg
    · exact (ext_refl _).drew
    repeat
      (refine Grow.Wk.step (fun K hK => ?_)
       first
       | (refine Grow.step_read (by rfl) (by rfl) ext_refl ?_
          apply Exists.intro
          refine ⟨fun w hB hF => ?_, ?_⟩
          · obtain ⟨c0, c1, c2, c3, f1, f2, f3, hpl⟩ := (HP.out.ext hB).1.cells
            go_simp
            try exact rfl
          go_simp
          refine hK _ _ ?_
          clear hK K)
       | (refine Grow.step_off (by rfl) ?_
          go_simp
          refine hK _ _ ?_
          clear hK K))
    refine Grow.Wk.step (fun K hK => ?_)
    refine Grow.step_rel (by rfl) (by rfl) (fun w' hB hF => ?_) (fun v hv => ?_)
    · have hrs := run_string_of_bytes w' (HSL.out.ext hB) 22 9 5 Tryd.underlying22 Tryd.underlying5 Tryd.underlying9
      go_simp
      exact ⟨ext_refl _, rfl, trivial⟩
    obtain rfl : v = _ := hv
    go_simp
    refine hK _ _ ?_
    clear hK K
    repeat
      (refine Grow.Wk.step (fun K hK => ?_)
       first
       | (refine Grow.step_read (by rfl) (by rfl) ext_refl ?_
          apply Exists.intro
          refine ⟨fun w hB hF => ?_, ?_⟩
          · obtain ⟨c0, c1, c2, c3, f1, f2, f3, hpl⟩ := (HP.out.ext hB).1.cells
            go_simp
            try exact rfl
          go_simp
          refine hK _ _ ?_
          clear hK K)
       | (refine Grow.step_off (by rfl) ?_
          go_simp
          refine hK _ _ ?_
          clear hK K))
    refine Grow.Wk.nil ?_
    intro w3 hB hF
    clear hF
    go_wp2_with fail
    go_ret
    exact ⟨rfl, hB⟩
  · have hd : decide ((xs.length : Int) - (a : Int) < (s.length : Int)) = true := by simp; omega
    obtain ⟨va, vc, rfl, -⟩ := id h.2.1.bytes
    clear h hw
    go_enter Tryd.func37, Tryd.ntmps37
    go_wp2_with fail
    refine Grow.wp_region_litW (G := Ext) (B := fun w' => Ext w w') (anc := fun _ => []) (I := fun _ => none) (by kernel_rfl) (by kernel_rfl) (by kernel_rfl) ?_ ?_ ?_
    · exact fun w w' h hg => ext_trans h hg
    · exact (ext_refl _).drew
    repeat
      (refine Grow.Wk.step (fun K hK => ?_)
       first
       | (refine Grow.step_read (by rfl) (by rfl) ext_refl ?_
          apply Exists.intro
          refine ⟨fun w hB hF => ?_, ?_⟩
          · obtain ⟨c0, c1, c2, c3, f1, f2, f3, hpl⟩ := (HP.out.ext hB).1.cells
            go_simp
            try exact rfl
          go_simp
          refine hK _ _ ?_
          clear hK K)
       | (refine Grow.step_off (by rfl) ?_
          go_simp
          refine hK _ _ ?_
          clear hK K))
    refine Grow.Wk.nil ?_
    intro w3 hB hF
    clear hF
    go_wp2_with fail
    go_ret
    exact ⟨rfl, hB⟩
theorem fig_cases (c : UInt8) : isFig c = true ↔ (48 ≤ c.toNat ∧ c.toNat ≤ 57) ∨ c.toNat = 43 ∨ c.toNat = 45 ∨ c.toNat = 46 ∨ c.toNat = 101 ∨ c.toNat = 69 := by
  have : ∀ c : Fin 256, isFig (UInt8.ofFin c) = true ↔ ((48 ≤ (UInt8.ofFin c).toNat ∧ (UInt8.ofFin c).toNat ≤ 57) ∨ (UInt8.ofFin c).toNat = 43 ∨ (UInt8.ofFin c).toNat = 45 ∨ (UInt8.ofFin c).toNat = 46 ∨ (UInt8.ofFin c).toNat = 101 ∨ (UInt8.ofFin c).toNat = 69) := by decide +kernel
  exact this c.toFin
/-- what a call of the documents' parser that hands back a value comes to -/
def EndS (p : Nat) (v : Value) (xs : List UInt8) (w : World) (e : Ending) (w' : World) : PR Tree → Prop
  | .ok t a n => ∃ c, e = .returned (.agg c) ∧ TV w' (fun g => w.heap.size ≤ g) t c ∧ SS w' p v xs a n 0 ∧ KeptP p w w'
  | .err er a => ∃ c t n, e = .returned (.agg c) ∧ TV w' (fun g => w.heap.size ≤ g) t c ∧ SS w' p v xs a n er ∧ KeptP p w w'
-- the number's text is read: $1 where it ends
set_option maxHeartbeats 12800000 in
theorem rnumber_any (p : Nat) (v : Value) (xs : List UInt8) (a n : Nat) (w : World) (h : SS w p v xs a n 0) (hlt0 : a < xs.length) :
    Calls Tryd.prog 42 #[.pointer (some ⟨p, 0, none⟩)] w fun en w' => EndS p v xs w en w' (numP xs a n) := by
  have HP0 := Lib.hid h
  have hx := h.2.1.len
  obtain ⟨hE1, hE2⟩ := numEnd_bd xs a h.2.2
  have hpw : p < w.heap.size := h.1.cells.2.2.2.2.2.2.2
  rcases h.2.1.split with ⟨rfl, a0, cap, rfl, hcap⟩ | ⟨h0, b, o, cap, rfl, hn, hm, hbp, hat⟩
  · simp at hlt0
  obtain ⟨R, hR⟩ : ∃ R, numP xs a n = R := ⟨_, rfl⟩
  rw [hR]
  have HRR := Lib.hid hR
  obtain ⟨tE, htE⟩ : ∃ tE, numEnd xs a = tE := ⟨_, rfl⟩
  rw [htE] at hE1 hE2
  have HTE := Lib.hid htE
  have hv := VAt.new w zeroV
  have hx1 : Ext w (w.alloc (.cells zeroV 29)) := (ext_refl w).alloc (Nat.le_refl _) _
  have HP := Lib.hid (h.ext hx1)
  simp only [zeroV, cellsV, Num.zero, noL] at hv hx1 HP
  have hal : a ≤ xs.length := by omega
  have hca : ¬ cap = a := by omega
  clear h hat hR htE
  go_enter Tryd.func42, Tryd.ntmps42
  go_upto_region 1 with fail
  obtain ⟨S, hS⟩ : ∃ S, w.heap.size = S := ⟨_, rfl⟩
  rw [hS] at hv hpw ⊢
  generalize w.alloc (.cells #[.int .i64 0, .bool false, .bool false, .string ⟨#[]⟩, .int .i64 0, .string ⟨#[]⟩, .slice none 0 0, .slice none 0 0] 29) = w1 at *
  have HSS := Lib.hid hS
  have HV := Lib.hid hv
  have HE := Lib.hid hx1
  clear hv hx1 hS
  obtain ⟨c0, c1, c2, c3, f1, f2, f3, hpl⟩ := HP.out.1.cells
  go_wp2_with fail
  go_loopw [4] (fun tv wr => ∃ k : Nat, tv = .int .i64 k ∧ a ≤ k ∧ k ≤ xs.length ∧ numEnd xs k = tE ∧ w1 = wr) (fun tv _ => xs.length - (intOf tv).toNat)
  case atStart => exact ⟨a, rfl, by omega, by omega, HTE.out, rfl⟩
  case round =>
    obtain ⟨k, rfl, hka, hk, hw, rfl⟩ := hrel
    have HW := Lib.hid hw
    clear hw
    by_cases hlt : k < xs.length
    · have hlti : (k : Int) < xs.length := by omega
      have hk0' : (0 : Int) ≤ k := by omega
      obtain ⟨b', o', e', hcell⟩ := bytes_cell HP.out.2.1.bytes hlt
      simp only [Option.some.injEq, Addr.mk.injEq, and_true] at e'
      obtain ⟨rfl, rfl⟩ := e'
      have hc := hcell w1 (ext_refl w1)
      clear hcell
      cases hq : isFig xs[k] with
      | true =>
        have HN : Hid (numEnd xs (k + 1) = tE) := Lib.hid (by have := HW.out; rw [numEnd_endQ, endQ_step hlt hq] at this; exact this)
        have hcs := (fig_cases xs[k]).1 hq
        have e9 : IntKind.i64.wrap ((k : Int) + 1) = ((k + 1 : Nat) : Int) := by rw [IntWalk.i64_in _ (by omega)]; omega
        clear hq
        generalize xs[k] = x at *
        rcases hcs with ⟨h48, h57⟩ | h | h | h | h | h
        · have d1 : decide ((x.toNat : Int) < 48) = false := by simp; omega
          have d2 : decide (57 < (x.toNat : Int)) = false := by simp; omega
          go_wp2_with fail
          go_roundw
          case rel => exact ⟨k + 1, by go_num, by omega, by omega, HN.out, by first | rfl | trivial⟩
          case measure => simp [intOf]; omega
        · go_wp2_with fail
          go_roundw
          case rel => exact ⟨k + 1, by go_num, by omega, by omega, HN.out, by first | rfl | trivial⟩
          case measure => simp [intOf]; omega
        · go_wp2_with fail
          go_roundw
          case rel => exact ⟨k + 1, by go_num, by omega, by omega, HN.out, by first | rfl | trivial⟩
          case measure => simp [intOf]; omega
        · go_wp2_with fail
          go_roundw
          case rel => exact ⟨k + 1, by go_num, by omega, by omega, HN.out, by first | rfl | trivial⟩
          case measure => simp [intOf]; omega
        · go_wp2_with fail
          go_roundw
          case rel => exact ⟨k + 1, by go_num, by omega, by omega, HN.out, by first | rfl | trivial⟩
          case measure => simp [intOf]; omega
        · go_wp2_with fail
          go_roundw
          case rel => exact ⟨k + 1, by go_num, by omega, by omega, HN.out, by first | rfl | trivial⟩
          case measure => simp [intOf]; omega
      | false =>
        obtain rfl : k = tE := by have := HW.out; rw [numEnd_endQ, endQ_stop hlt hq] at this; exact this
        have hcs : ¬ ((48 ≤ xs[k].toNat ∧ xs[k].toNat ≤ 57) ∨ xs[k].toNat = 43 ∨ xs[k].toNat = 45 ∨ xs[k].toNat = 46 ∨ xs[k].toNat = 101 ∨ xs[k].toNat = 69) := fun h => by rw [(fig_cases xs[k]).2 h] at hq; cases hq
        clear hq
        generalize xs[k] = x at *
        have n1 : ((x.toNat : Int) != 43) = true := by simp; omega
        have n2 : ((x.toNat : Int) != 45) = true := by simp; omega
        have n3 : ((x.toNat : Int) != 46) = true := by simp; omega
        have n4 : ((x.toNat : Int) != 101) = true := by simp; omega
        have n5 : ((x.toNat : Int) != 69) = true := by simp; omega
        have hdn : x.toNat < 48 ∨ 57 < x.toNat := by omega
        clear hcs
        rcases hdn with hdn | hdn
        · have d1 : decide ((x.toNat : Int) < 48) = true := by simp; omega
          go_upto_region 7 with fail
          have hsl := bytes_mid HP.out.2.1.bytes a (k - a) (by omega)
          have hrr := HRR.out
          unfold numP at hrr
          simp only at hrr
          rw [HTE.out] at hrr
          obtain ⟨T, hT⟩ : ∃ T, (xs.drop a).take (k - a) = T := ⟨_, rfl⟩
          rw [hT] at hsl hrr
          have hTl : T.length ≤ 140737488355328 := by rw [← hT, List.length_take, List.length_drop]; omega
          have hs1 : (a : Int) ≤ (k : Nat) := by omega
          have hs2 : ((k : Nat) : Int) ≤ cap := by omega
          have hs3 : k ≤ cap := by omega
          have HSL := Lib.hid hsl
          have HKX : Hid (k ≤ xs.length) := Lib.hid (by omega)
          clear hT hsl
          obtain ⟨D, hD⟩ : ∃ D, decP T = D := ⟨_, rfl⟩
          rw [hD] at hrr
          have HD := Lib.hid hD
          replace HRR := Lib.hid hrr
          clear hrr hD
          obtain ⟨⟨dn, dl, dx⟩, de⟩ := D
          simp only at HRR
          go_wp2_with (first
            | (refine wpList_string_of_bytes w1 rfl 22 9 5 _ rfl _ T rfl HSL.out Tryd.underlying22 Tryd.underlying5 Tryd.underlying9 ?_)
            | fail)
          refine (r2parse_any T w1 hTl).mono ?_
          rintro e w2 ⟨rfl, hw2⟩
          rw [HD.out]
          simp only
          have hn0 := NumAt.new w2 ⟨dn, dl, dx⟩
          have hx2 : Ext w2 (w2.alloc (.cells #[.bool dn, .string ⟨dl.toArray⟩, .int .i64 dx] 25)) := (ext_refl w2).alloc (Nat.le_refl _) _
          simp only at hn0 hx2
          obtain ⟨q, hq⟩ : ∃ q, w2.heap.size = q := ⟨_, rfl⟩
          rw [hq] at hn0
          go_upto_region 8 with fail
          have hqS : S < q := by have := hw2.size; have := HV.out.lt; omega
          generalize w2.alloc (.cells #[.bool dn, .string ⟨dl.toArray⟩, .int .i64 dx] 25) = w3 at *
          replace HP := Lib.hid ((HP.out.ext hw2).ext hx2)
          replace HV := Lib.hid ((HV.out.ext hw2).ext hx2)
          replace HE := Lib.hid (ext_trans HE.out (ext_trans hw2 hx2))
          have HN := Lib.hid hn0
          clear hq hn0 hw2 hx2 c0 c1 c2 c3 f1 f2 f3 hs1 hs2 hs3 HSL
          by_cases hde : de = 0
          · subst hde
            have HRF : Hid (.ok (tNum ⟨dn, dl, dx⟩) k n = R) := Lib.hid (by rw [← HRR.out, if_pos rfl])
            obtain ⟨c0, c1, c2, c3, f1, f2, f3, hpl⟩ := HP.out.1.cells
            have HP4 := Lib.hid (HP.out.setA k HKX.out)
            have HK4 : Hid (KeptP p w (w3.setCell ⟨p, 2, none⟩ (.int .i64 (k : Nat)))) := Lib.hid ((KeptP.ofExt HE.out).trans (KeptP.set _))
            have hv4 := HV.out.oth (p := p) (i := 2) (u := .int .i64 (k : Nat)) (by omega)
            have hn4 : NumAt (w3.setCell ⟨p, 2, none⟩ (.int .i64 (k : Nat))) q ⟨dn, dl, dx⟩ := by
              unfold NumAt; rw [Below.heap_setCell _ _ _ _ (show q ≠ p by omega)]; exact HN.out
            go_upto_region 11 with fail
            clear c0 c1 c2 c3 f1 f2 f3
            generalize w3.setCell ⟨p, 2, none⟩ (.int .i64 (k : Nat)) = w4 at *
            have HV2 := Lib.hid hv4
            obtain ⟨d0, d1, d2, g8, g9, g10, hql⟩ := hn4.cells
            simp only at d0 d1 d2
            have y0 := HV2.out.cell 0; have y1 := HV2.out.cell 1; have y2 := HV2.out.cell 2; have y3 := HV2.out.cell 3; have y4 := HV2.out.cell 4; have y5 := HV2.out.cell 5; have y6 := HV2.out.cell 6; have y7 := HV2.out.cell 7
            have g0 := HV2.out.free 0; have g1 := HV2.out.free 1; have g2 := HV2.out.free 2; have g3 := HV2.out.free 3; have g4 := HV2.out.free 4; have g5 := HV2.out.free 5; have g6 := HV2.out.free 6; have g7 := HV2.out.free 7
            simp at y0 y1 y2 y3 y4 y5 y6 y7
            clear hv4 hn4
            go_wp2_with fail
            rw [← HRF.out]
            have hV := VAt.store8 HV2.out (.int .i64 2) (.bool false) (.bool dn) (.string ⟨dl.toArray⟩) (.int .i64 dx) (.string ⟨#[]⟩) (.slice none 0 0) (.slice none 0 0)
            have HV := Lib.hid hV
            have v0 := HV.out.cell 0; have v1 := HV.out.cell 1; have v2 := HV.out.cell 2; have v3 := HV.out.cell 3; have v4 := HV.out.cell 4; have v5 := HV.out.cell 5; have v6 := HV.out.cell 6; have v7 := HV.out.cell 7
            simp only [List.getElem?_toArray, List.getElem?_cons_zero, List.getElem?_cons_succ] at v0 v1 v2 v3 v4 v5 v6 v7
            refine bodyPost_ret (v := .agg #[.int .i64 2, .bool false, .bool dn, .string ⟨dl.toArray⟩, .int .i64 dx, .string ⟨#[]⟩, .slice none 0 0, .slice none 0 0]) (by simp [results, Tryd.results42, go_sem, v0, v1, v2, v3, v4, v5, v6, v7]) rfl ?_
            have hfin := HP0.out.fresh HP4.out HK4.out (below_store8 (p := S) (Below.refl _ w4) (by rw [HSS.out]; exact Nat.le_refl _) (.int .i64 2) (.bool false) (.bool dn) (.string ⟨dl.toArray⟩) (.int .i64 dx) (.string ⟨#[]⟩) (.slice none 0 0) (.slice none 0 0))
            exact ⟨_, rfl, TV.leaf _ _ 2 false ⟨dn, dl, dx⟩ [], hfin.1, hfin.2⟩
          · have HRF : Hid (.err de a = R) := Lib.hid (by rw [← HRR.out, if_neg hde])
            have hdn : (de != 0) = true := by simpa using hde
            clear hde
            go_wp2_with fail
            refine (fail_any p _ xs a n de a w3 HP.out hal).mono ?_
            rintro e w4 ⟨rfl, hs4, hk4⟩
            have hv4 := HV.out.kept hk4 (by omega)
            have HP4 := Lib.hid hs4
            have HK4 := Lib.hid ((KeptP.ofExt HE.out).trans hk4)
            have HV2 := Lib.hid hv4
            clear hs4 hk4 hv4
            simp only [zeroV, cellsV, Num.zero, noL]
            have y0 := HV2.out.cell 0; have y1 := HV2.out.cell 1; have y2 := HV2.out.cell 2; have y3 := HV2.out.cell 3; have y4 := HV2.out.cell 4; have y5 := HV2.out.cell 5; have y6 := HV2.out.cell 6; have y7 := HV2.out.cell 7
            have g0 := HV2.out.free 0; have g1 := HV2.out.free 1; have g2 := HV2.out.free 2; have g3 := HV2.out.free 3; have g4 := HV2.out.free 4; have g5 := HV2.out.free 5; have g6 := HV2.out.free 6; have g7 := HV2.out.free 7
            simp at y0 y1 y2 y3 y4 y5 y6 y7
            go_wp2_with fail
            rw [← HRF.out]
            have hV := VAt.store8 HV2.out (.int .i64 0) (.bool false) (.bool false) (.string ⟨#[]⟩) (.int .i64 0) (.string ⟨#[]⟩) (.slice none 0 0) (.slice none 0 0)
            have HV := Lib.hid hV
            have v0 := HV.out.cell 0; have v1 := HV.out.cell 1; have v2 := HV.out.cell 2; have v3 := HV.out.cell 3; have v4 := HV.out.cell 4; have v5 := HV.out.cell 5; have v6 := HV.out.cell 6; have v7 := HV.out.cell 7
            simp only [List.getElem?_toArray, List.getElem?_cons_zero, List.getElem?_cons_succ] at v0 v1 v2 v3 v4 v5 v6 v7
            refine bodyPost_ret (v := .agg #[.int .i64 0, .bool false, .bool false, .string ⟨#[]⟩, .int .i64 0, .string ⟨#[]⟩, .slice none 0 0, .slice none 0 0]) (by simp [results, Tryd.results42, go_sem, v0, v1, v2, v3, v4, v5, v6, v7]) rfl ?_
            have hfin := HP0.out.fresh HP4.out HK4.out (below_store8 (p := S) (Below.refl _ w4) (by rw [HSS.out]; exact Nat.le_refl _) (.int .i64 0) (.bool false) (.bool false) (.string ⟨#[]⟩) (.int .i64 0) (.string ⟨#[]⟩) (.slice none 0 0) (.slice none 0 0))
            exact ⟨_, _, _, rfl, TV.leaf _ _ 0 false Num.zero [], hfin.1, hfin.2⟩
        · have d1 : decide ((x.toNat : Int) < 48) = false := by simp; omega
          have d2 : decide (57 < (x.toNat : Int)) = true := by simp; omega
          go_upto_region 7 with fail
          have hsl := bytes_mid HP.out.2.1.bytes a (k - a) (by omega)
          have hrr := HRR.out
          unfold numP at hrr
          simp only at hrr
          rw [HTE.out] at hrr
          obtain ⟨T, hT⟩ : ∃ T, (xs.drop a).take (k - a) = T := ⟨_, rfl⟩
          rw [hT] at hsl hrr
          have hTl : T.length ≤ 140737488355328 := by rw [← hT, List.length_take, List.length_drop]; omega
          have hs1 : (a : Int) ≤ (k : Nat) := by omega
          have hs2 : ((k : Nat) : Int) ≤ cap := by omega
          have hs3 : k ≤ cap := by omega
          have HSL := Lib.hid hsl
          have HKX : Hid (k ≤ xs.length) := Lib.hid (by omega)
          clear hT hsl
          obtain ⟨D, hD⟩ : ∃ D, decP T = D := ⟨_, rfl⟩
          rw [hD] at hrr
          have HD := Lib.hid hD
          replace HRR := Lib.hid hrr
          clear hrr hD
          obtain ⟨⟨dn, dl, dx⟩, de⟩ := D
          simp only at HRR
          go_wp2_with (first
            | (refine wpList_string_of_bytes w1 rfl 22 9 5 _ rfl _ T rfl HSL.out Tryd.underlying22 Tryd.underlying5 Tryd.underlying9 ?_)
            | fail)
          refine (r2parse_any T w1 hTl).mono ?_
          rintro e w2 ⟨rfl, hw2⟩
          rw [HD.out]
          simp only
          have hn0 := NumAt.new w2 ⟨dn, dl, dx⟩
          have hx2 : Ext w2 (w2.alloc (.cells #[.bool dn, .string ⟨dl.toArray⟩, .int .i64 dx] 25)) := (ext_refl w2).alloc (Nat.le_refl _) _
          simp only at hn0 hx2
          obtain ⟨q, hq⟩ : ∃ q, w2.heap.size = q := ⟨_, rfl⟩
          rw [hq] at hn0
          go_upto_region 8 with fail
          have hqS : S < q := by have := hw2.size; have := HV.out.lt; omega
          generalize w2.alloc (.cells #[.bool dn, .string ⟨dl.toArray⟩, .int .i64 dx] 25) = w3 at *
          replace HP := Lib.hid ((HP.out.ext hw2).ext hx2)
          replace HV := Lib.hid ((HV.out.ext hw2).ext hx2)
          replace HE := Lib.hid (ext_trans HE.out (ext_trans hw2 hx2))
          have HN := Lib.hid hn0
          clear hq hn0 hw2 hx2 c0 c1 c2 c3 f1 f2 f3 hs1 hs2 hs3 HSL
          by_cases hde : de = 0
          · subst hde
            have HRF : Hid (.ok (tNum ⟨dn, dl, dx⟩) k n = R) := Lib.hid (by rw [← HRR.out, if_pos rfl])
            obtain ⟨c0, c1, c2, c3, f1, f2, f3, hpl⟩ := HP.out.1.cells
            have HP4 := Lib.hid (HP.out.setA k HKX.out)
            have HK4 : Hid (KeptP p w (w3.setCell ⟨p, 2, none⟩ (.int .i64 (k : Nat)))) := Lib.hid ((KeptP.ofExt HE.out).trans (KeptP.set _))
            have hv4 := HV.out.oth (p := p) (i := 2) (u := .int .i64 (k : Nat)) (by omega)
            have hn4 : NumAt (w3.setCell ⟨p, 2, none⟩ (.int .i64 (k : Nat))) q ⟨dn, dl, dx⟩ := by
              unfold NumAt; rw [Below.heap_setCell _ _ _ _ (show q ≠ p by omega)]; exact HN.out
            go_upto_region 11 with fail
            clear c0 c1 c2 c3 f1 f2 f3
            generalize w3.setCell ⟨p, 2, none⟩ (.int .i64 (k : Nat)) = w4 at *
            have HV2 := Lib.hid hv4
            obtain ⟨d0, d1, d2, g8, g9, g10, hql⟩ := hn4.cells
            simp only at d0 d1 d2
            have y0 := HV2.out.cell 0; have y1 := HV2.out.cell 1; have y2 := HV2.out.cell 2; have y3 := HV2.out.cell 3; have y4 := HV2.out.cell 4; have y5 := HV2.out.cell 5; have y6 := HV2.out.cell 6; have y7 := HV2.out.cell 7
            have g0 := HV2.out.free 0; have g1 := HV2.out.free 1; have g2 := HV2.out.free 2; have g3 := HV2.out.free 3; have g4 := HV2.out.free 4; have g5 := HV2.out.free 5; have g6 := HV2.out.free 6; have g7 := HV2.out.free 7
            simp at y0 y1 y2 y3 y4 y5 y6 y7
            clear hv4 hn4
            go_wp2_with fail
            rw [← HRF.out]
            have hV := VAt.store8 HV2.out (.int .i64 2) (.bool false) (.bool dn) (.string ⟨dl.toArray⟩) (.int .i64 dx) (.string ⟨#[]⟩) (.slice none 0 0) (.slice none 0 0)
            have HV := Lib.hid hV
            have v0 := HV.out.cell 0; have v1 := HV.out.cell 1; have v2 := HV.out.cell 2; have v3 := HV.out.cell 3; have v4 := HV.out.cell 4; have v5 := HV.out.cell 5; have v6 := HV.out.cell 6; have v7 := HV.out.cell 7
            simp only [List.getElem?_toArray, List.getElem?_cons_zero, List.getElem?_cons_succ] at v0 v1 v2 v3 v4 v5 v6 v7
            refine bodyPost_ret (v := .agg #[.int .i64 2, .bool false, .bool dn, .string ⟨dl.toArray⟩, .int .i64 dx, .string ⟨#[]⟩, .slice none 0 0, .slice none 0 0]) (by simp [results, Tryd.results42, go_sem, v0, v1, v2, v3, v4, v5, v6, v7]) rfl ?_
            have hfin := HP0.out.fresh HP4.out HK4.out (below_store8 (p := S) (Below.refl _ w4) (by rw [HSS.out]; exact Nat.le_refl _) (.int .i64 2) (.bool false) (.bool dn) (.string ⟨dl.toArray⟩) (.int .i64 dx) (.string ⟨#[]⟩) (.slice none 0 0) (.slice none 0 0))
            exact ⟨_, rfl, TV.leaf _ _ 2 false ⟨dn, dl, dx⟩ [], hfin.1, hfin.2⟩
          · have HRF : Hid (.err de a = R) := Lib.hid (by rw [← HRR.out, if_neg hde])
            have hdn : (de != 0) = true := by simpa using hde
            clear hde
            go_wp2_with fail
            refine (fail_any p _ xs a n de a w3 HP.out hal).mono ?_
            rintro e w4 ⟨rfl, hs4, hk4⟩
            have hv4 := HV.out.kept hk4 (by omega)
            have HP4 := Lib.hid hs4
            have HK4 := Lib.hid ((KeptP.ofExt HE.out).trans hk4)
            have HV2 := Lib.hid hv4
            clear hs4 hk4 hv4
            simp only [zeroV, cellsV, Num.zero, noL]
            have y0 := HV2.out.cell 0; have y1 := HV2.out.cell 1; have y2 := HV2.out.cell 2; have y3 := HV2.out.cell 3; have y4 := HV2.out.cell 4; have y5 := HV2.out.cell 5; have y6 := HV2.out.cell 6; have y7 := HV2.out.cell 7
            have g0 := HV2.out.free 0; have g1 := HV2.out.free 1; have g2 := HV2.out.free 2; have g3 := HV2.out.free 3; have g4 := HV2.out.free 4; have g5 := HV2.out.free 5; have g6 := HV2.out.free 6; have g7 := HV2.out.free 7
            simp at y0 y1 y2 y3 y4 y5 y6 y7
            go_wp2_with fail
            rw [← HRF.out]
            have hV := VAt.store8 HV2.out (.int .i64 0) (.bool false) (.bool false) (.string ⟨#[]⟩) (.int .i64 0) (.string ⟨#[]⟩) (.slice none 0 0) (.slice none 0 0)
            have HV := Lib.hid hV
            have v0 := HV.out.cell 0; have v1 := HV.out.cell 1; have v2 := HV.out.cell 2; have v3 := HV.out.cell 3; have v4 := HV.out.cell 4; have v5 := HV.out.cell 5; have v6 := HV.out.cell 6; have v7 := HV.out.cell 7
            simp only [List.getElem?_toArray, List.getElem?_cons_zero, List.getElem?_cons_succ] at v0 v1 v2 v3 v4 v5 v6 v7
            refine bodyPost_ret (v := .agg #[.int .i64 0, .bool false, .bool false, .string ⟨#[]⟩, .int .i64 0, .string ⟨#[]⟩, .slice none 0 0, .slice none 0 0]) (by simp [results, Tryd.results42, go_sem, v0, v1, v2, v3, v4, v5, v6, v7]) rfl ?_
            have hfin := HP0.out.fresh HP4.out HK4.out (below_store8 (p := S) (Below.refl _ w4) (by rw [HSS.out]; exact Nat.le_refl _) (.int .i64 0) (.bool false) (.bool false) (.string ⟨#[]⟩) (.int .i64 0) (.string ⟨#[]⟩) (.slice none 0 0) (.slice none 0 0))
            exact ⟨_, _, _, rfl, TV.leaf _ _ 0 false Num.zero [], hfin.1, hfin.2⟩
    · obtain rfl : k = xs.length := by omega
      have hnlt : ¬ ((xs.length : Int) < (xs.length : Int)) := by omega
      obtain rfl : xs.length = tE := by have := HW.out; rw [numEnd_endQ, endQ_end rfl] at this; exact this
      go_upto_region 7 with fail
      have hsl := bytes_mid HP.out.2.1.bytes a (xs.length - a) (by omega)
      have hrr := HRR.out
      unfold numP at hrr
      simp only at hrr
      rw [HTE.out] at hrr
      obtain ⟨T, hT⟩ : ∃ T, (xs.drop a).take (xs.length - a) = T := ⟨_, rfl⟩
      rw [hT] at hsl hrr
      have hTl : T.length ≤ 140737488355328 := by rw [← hT, List.length_take, List.length_drop]; omega
      have hs1 : (a : Int) ≤ (xs.length : Nat) := by omega
      have hs2 : ((xs.length : Nat) : Int) ≤ cap := by omega
      have hs3 : xs.length ≤ cap := by omega
      have HSL := Lib.hid hsl
      have HKX : Hid (xs.length ≤ xs.length) := Lib.hid (by omega)
      clear hT hsl
      obtain ⟨D, hD⟩ : ∃ D, decP T = D := ⟨_, rfl⟩
      rw [hD] at hrr
      have HD := Lib.hid hD
      replace HRR := Lib.hid hrr
      clear hrr hD
      obtain ⟨⟨dn, dl, dx⟩, de⟩ := D
      simp only at HRR
      go_wp2_with (first
        | (refine wpList_string_of_bytes w1 rfl 22 9 5 _ rfl _ T rfl HSL.out Tryd.underlying22 Tryd.underlying5 Tryd.underlying9 ?_)
        | fail)
      refine (r2parse_any T w1 hTl).mono ?_
      rintro e w2 ⟨rfl, hw2⟩
      rw [HD.out]
      simp only
      have hn0 := NumAt.new w2 ⟨dn, dl, dx⟩
      have hx2 : Ext w2 (w2.alloc (.cells #[.bool dn, .string ⟨dl.toArray⟩, .int .i64 dx] 25)) := (ext_refl w2).alloc (Nat.le_refl _) _
      simp only at hn0 hx2
      obtain ⟨q, hq⟩ : ∃ q, w2.heap.size = q := ⟨_, rfl⟩
      rw [hq] at hn0
      go_upto_region 8 with fail
      have hqS : S < q := by have := hw2.size; have := HV.out.lt; omega
      generalize w2.alloc (.cells #[.bool dn, .string ⟨dl.toArray⟩, .int .i64 dx] 25) = w3 at *
      replace HP := Lib.hid ((HP.out.ext hw2).ext hx2)
      replace HV := Lib.hid ((HV.out.ext hw2).ext hx2)
      replace HE := Lib.hid (ext_trans HE.out (ext_trans hw2 hx2))
      have HN := Lib.hid hn0
      clear hq hn0 hw2 hx2 c0 c1 c2 c3 f1 f2 f3 hs1 hs2 hs3 HSL
      by_cases hde : de = 0
      · subst hde
        have HRF : Hid (.ok (tNum ⟨dn, dl, dx⟩) xs.length n = R) := Lib.hid (by rw [← HRR.out, if_pos rfl])
        obtain ⟨c0, c1, c2, c3, f1, f2, f3, hpl⟩ := HP.out.1.cells
        have HP4 := Lib.hid (HP.out.setA xs.length HKX.out)
        have HK4 : Hid (KeptP p w (w3.setCell ⟨p, 2, none⟩ (.int .i64 (xs.length : Nat)))) := Lib.hid ((KeptP.ofExt HE.out).trans (KeptP.set _))
        have hv4 := HV.out.oth (p := p) (i := 2) (u := .int .i64 (xs.length : Nat)) (by omega)
        have hn4 : NumAt (w3.setCell ⟨p, 2, none⟩ (.int .i64 (xs.length : Nat))) q ⟨dn, dl, dx⟩ := by
          unfold NumAt; rw [Below.heap_setCell _ _ _ _ (show q ≠ p by omega)]; exact HN.out
        go_upto_region 11 with fail
        clear c0 c1 c2 c3 f1 f2 f3
        generalize w3.setCell ⟨p, 2, none⟩ (.int .i64 (xs.length : Nat)) = w4 at *
        have HV2 := Lib.hid hv4
        obtain ⟨d0, d1, d2, g8, g9, g10, hql⟩ := hn4.cells
        simp only at d0 d1 d2
        have y0 := HV2.out.cell 0; have y1 := HV2.out.cell 1; have y2 := HV2.out.cell 2; have y3 := HV2.out.cell 3; have y4 := HV2.out.cell 4; have y5 := HV2.out.cell 5; have y6 := HV2.out.cell 6; have y7 := HV2.out.cell 7
        have g0 := HV2.out.free 0; have g1 := HV2.out.free 1; have g2 := HV2.out.free 2; have g3 := HV2.out.free 3; have g4 := HV2.out.free 4; have g5 := HV2.out.free 5; have g6 := HV2.out.free 6; have g7 := HV2.out.free 7
        simp at y0 y1 y2 y3 y4 y5 y6 y7
        clear hv4 hn4
        go_wp2_with fail
        rw [← HRF.out]
        have hV := VAt.store8 HV2.out (.int .i64 2) (.bool false) (.bool dn) (.string ⟨dl.toArray⟩) (.int .i64 dx) (.string ⟨#[]⟩) (.slice none 0 0) (.slice none 0 0)
        have HV := Lib.hid hV
        have v0 := HV.out.cell 0; have v1 := HV.out.cell 1; have v2 := HV.out.cell 2; have v3 := HV.out.cell 3; have v4 := HV.out.cell 4; have v5 := HV.out.cell 5; have v6 := HV.out.cell 6; have v7 := HV.out.cell 7
        simp only [List.getElem?_toArray, List.getElem?_cons_zero, List.getElem?_cons_succ] at v0 v1 v2 v3 v4 v5 v6 v7
        refine bodyPost_ret (v := .agg #[.int .i64 2, .bool false, .bool dn, .string ⟨dl.toArray⟩, .int .i64 dx, .string ⟨#[]⟩, .slice none 0 0, .slice none 0 0]) (by simp [results, Tryd.results42, go_sem, v0, v1, v2, v3, v4, v5, v6, v7]) rfl ?_
        have hfin := HP0.out.fresh HP4.out HK4.out (below_store8 (p := S) (Below.refl _ w4) (by rw [HSS.out]; exact Nat.le_refl _) (.int .i64 2) (.bool false) (.bool dn) (.string ⟨dl.toArray⟩) (.int .i64 dx) (.string ⟨#[]⟩) (.slice none 0 0) (.slice none 0 0))
        exact ⟨_, rfl, TV.leaf _ _ 2 false ⟨dn, dl, dx⟩ [], hfin.1, hfin.2⟩
      · have HRF : Hid (.err de a = R) := Lib.hid (by rw [← HRR.out, if_neg hde])
        have hdn : (de != 0) = true := by simpa using hde
        clear hde
        go_wp2_with fail
        refine (fail_any p _ xs a n de a w3 HP.out hal).mono ?_
        rintro e w4 ⟨rfl, hs4, hk4⟩
        have hv4 := HV.out.kept hk4 (by omega)
        have HP4 := Lib.hid hs4
        have HK4 := Lib.hid ((KeptP.ofExt HE.out).trans hk4)
        have HV2 := Lib.hid hv4
        clear hs4 hk4 hv4
        simp only [zeroV, cellsV, Num.zero, noL]
        have y0 := HV2.out.cell 0; have y1 := HV2.out.cell 1; have y2 := HV2.out.cell 2; have y3 := HV2.out.cell 3; have y4 := HV2.out.cell 4; have y5 := HV2.out.cell 5; have y6 := HV2.out.cell 6; have y7 := HV2.out.cell 7
        have g0 := HV2.out.free 0; have g1 := HV2.out.free 1; have g2 := HV2.out.free 2; have g3 := HV2.out.free 3; have g4 := HV2.out.free 4; have g5 := HV2.out.free 5; have g6 := HV2.out.free 6; have g7 := HV2.out.free 7
        simp at y0 y1 y2 y3 y4 y5 y6 y7
        go_wp2_with fail
        rw [← HRF.out]
        have hV := VAt.store8 HV2.out (.int .i64 0) (.bool false) (.bool false) (.string ⟨#[]⟩) (.int .i64 0) (.string ⟨#[]⟩) (.slice none 0 0) (.slice none 0 0)
        have HV := Lib.hid hV
        have v0 := HV.out.cell 0; have v1 := HV.out.cell 1; have v2 := HV.out.cell 2; have v3 := HV.out.cell 3; have v4 := HV.out.cell 4; have v5 := HV.out.cell 5; have v6 := HV.out.cell 6; have v7 := HV.out.cell 7
        simp only [List.getElem?_toArray, List.getElem?_cons_zero, List.getElem?_cons_succ] at v0 v1 v2 v3 v4 v5 v6 v7
        refine bodyPost_ret (v := .agg #[.int .i64 0, .bool false, .bool false, .string ⟨#[]⟩, .int .i64 0, .string ⟨#[]⟩, .slice none 0 0, .slice none 0 0]) (by simp [results, Tryd.results42, go_sem, v0, v1, v2, v3, v4, v5, v6, v7]) rfl ?_
        have hfin := HP0.out.fresh HP4.out HK4.out (below_store8 (p := S) (Below.refl _ w4) (by rw [HSS.out]; exact Nat.le_refl _) (.int .i64 0) (.bool false) (.bool false) (.string ⟨#[]⟩) (.int .i64 0) (.string ⟨#[]⟩) (.slice none 0 0) (.slice none 0 0))
        exact ⟨_, _, _, rfl, TV.leaf _ _ 0 false Num.zero [], hfin.1, hfin.2⟩
end Go.Proofs.YtckpndbmpigegaaDoor
end

section
/- the documents' parser: text. -/
set_option linter.unusedVariables false
set_option linter.unusedSimpArgs false
set_option maxRecDepth 100000
namespace Go.Proofs.YtckpndbmpigegaaDoor
open Go.RowKit Go.Mem Orange
theorem escNamed_bd (c : UInt8) : 0 ≤ escNamed c ∧ escNamed c ≤ 13 := by
  unfold escNamed; split <;> omega
theorem escape_bd (xs : List UInt8) : -2147483648 ≤ (escape xs).1 ∧ (escape xs).1 ≤ 2147483647 := by
  cases xs with
  | nil => simp [escape]
  | cons c t =>
    have h8 : c.toNat < 256 := c.toNat_lt
    have h9 := escNamed_bd c
    simp only [escape]
    split
    · simp only; omega
    split
    · simp only; omega
    split
    · simp
    · rename_i v hv
      have hub := unit_bd hv
      split
      · simp only; omega
      split
      · rename_i r hr
        simp only
        cases hd : t.drop 4 with
        | nil => rw [hd] at hr; cases hr
        | cons y u =>
          rw [hd] at hr
          simp only [pair] at hr
          split at hr
          · cases hr
          · rename_i h
            have h5 : v ≤ 56319 := by simp at h; omega
            split at hr
            · rename_i z hz
              have := unit_bd hz
              split at hr
              · cases hr
              · simp only [Option.some.injEq] at hr; omega
            · cases hr
      · simp
/-- bytes do not lie in the state's block -/
theorem bytes_not_state {w : World} {p : Nat} {v : Value} {n a e : Int} {bk o len cap : Nat} {ys : List UInt8} (hs : SAt w p v n a e) (hv : ∃ a l c, v = .slice a l c) (h : Bytes w (.slice (some ⟨bk, o, none⟩) len cap) ys) (h0 : 0 < ys.length) : bk ≠ p := by
  obtain ⟨a', c', e', _, _, _, h4⟩ := h
  simp only [Value.slice.injEq] at e'
  obtain ⟨rfl, rfl, rfl⟩ := e'
  obtain ⟨b', o', e', hlt, hc⟩ := h4 h0
  simp only [Option.some.injEq, Addr.mk.injEq, and_true] at e'
  obtain ⟨rfl, rfl⟩ := e'
  intro hp
  subst hp
  have hc0 := hc 0 h0
  rw [cell_of_cells hs] at hc0
  obtain ⟨_, _, _, rfl⟩ := hv
  match o, hc0 with
  | 0, hc0 => simp at hc0
  | 1, hc0 => simp at hc0
  | 2, hc0 => simp at hc0
  | 3, hc0 => simp at hc0
  | o + 4, hc0 => simp at hc0
theorem bytes_keptS {w w' : World} {p : Nat} {v u : Value} {n a e : Int} {ys : List UInt8} (hs : SAt w p v n a e) (hv : ∃ a l c, v = .slice a l c) (h : Bytes w u ys) (hk : KeptP p w w') : Bytes w' u ys := by
  obtain ⟨a', c', rfl, h1, h2, h3, h4⟩ := id h
  refine ⟨a', c', rfl, h1, h2, h3, fun h0 => ?_⟩
  obtain ⟨bk, o, rfl, hlt, hc⟩ := h4 h0
  have hne := bytes_not_state hs hv h h0
  exact BytesAt.kept (fun _ => ⟨bk, o, rfl, hlt, hc⟩) hk hlt hne h0
theorem SS.slice {w : World} {p : Nat} {v : Value} {xs : List UInt8} {a n : Nat} {e : Int} (h : SS w p v xs a n e) : ∃ a l c, v = .slice a l c := by
  obtain ⟨a0, cap, rfl, _⟩ := h.2.1; exact ⟨_, _, _, rfl⟩
theorem SS.at {w : World} {p bk o a n : Nat} {e : Int} {cap : Nat} {xs : List UInt8} (h : SS w p (.slice (some ⟨bk, o, none⟩) xs.length cap) xs a n e) : BytesAt w (some ⟨bk, o, none⟩) xs := by
  obtain ⟨a8, c8, e8, _, _, _, h8⟩ := h.2.1.bytes
  simp only [Value.slice.injEq] at e8
  obtain ⟨rfl, _, rfl⟩ := e8
  exact h8
/-- what a text's end says -/
def EndR (p : Nat) (v : Value) (xs : List UInt8) (w : World) (en : Ending) (w' : World) : PR (List UInt8) → Prop
  | .ok s b n => en = .returned (.string ⟨s.toArray⟩) ∧ SS w' p v xs b n 0 ∧ KeptP p w w'
  | .err er b => ∃ n, en = .returned (.string ⟨#[]⟩) ∧ SS w' p v xs b n er ∧ KeptP p w w'
-- the end of a round: $1 the character, $2 the signs read, $3 the fact on T
-- an error: fail, and the empty text
set_option maxHeartbeats 6400000 in
theorem rtext_any (p : Nat) (v : Value) (xs : List UInt8) (a n : Nat) (w : World) (h : SS w p v xs a n 0) (hx0 : 0 < xs.length) :
    Calls Tryd.prog 38 #[.pointer (some ⟨p, 0, none⟩)] w fun e w' => EndR p v xs w e w' (textL xs n (xs.length + 1) a []) := by
  obtain ⟨T, HT⟩ : ∃ T, textL xs n (xs.length + 1) a [] = T := ⟨_, rfl⟩
  rw [HT]
  replace HT := Lib.hid HT
  have hx := h.2.1.len
  rcases h.2.1.split with ⟨rfl, a0, cap, rfl, hcap⟩ | ⟨h0, bk, o, cap, rfl, hn, hm, hbp, _⟩
  · simp at hx0
  have HP := Lib.hid h
  have hal := h.2.2
  have hp0 := h.1.cells.2.2.2.2.2.2.2
  clear h
  go_enter Tryd.func38, Tryd.ntmps38
  go_wp2_with fail
  go_loopg [3] (xs.length + 1) (fun g v3 wx => ∃ (b : Nat) (out : List UInt8) (a5 : Option Addr) (c5 : Nat), xs.length + 1 ≤ b + g ∧ b ≤ xs.length ∧ textL xs n g b out = T ∧ SS wx p (.slice (some ⟨bk, o, none⟩) xs.length cap) xs b n 0 ∧ KeptP p w wx ∧ v3 = .slice a5 out.length c5 ∧ Bytes wx (.slice a5 out.length c5) out ∧ out.length ≤ 4 * b)
  case atStart => exact ⟨a, [], none, 0, by omega, by omega, HT.out, HP.out, KeptP.refl _ _, rfl, Bytes.nil _ _ _ (by omega), by simp⟩
  case round =>
    obtain ⟨b, out, a5, c5, hbg, hbl, ht, hps, hkp, rfl, hby, hol⟩ := hrel
    cases gk with
    | zero => exact absurd hbg (by omega)
    | succ g =>
      have HT2 := Lib.hid ht
      have HPX := Lib.hid hps
      have HKX := Lib.hid hkp
      have HBY := Lib.hid hby
      clear ht hps hkp hby HP HT
      obtain ⟨c0, c1, c2, c3, f1, f2, f3, hpl⟩ := HPX.out.1.cells
      go_wp2_with fail
      clear c0 c1 c2 c3 f1 f2 f3 hpl
      by_cases hq : peekP xs b = 34
      · have hq2 := (peekP_some hq (by decide)).1
        have hbl2 := (peekP_some hq (by decide)).2
        have hres : Hid (T = .ok out (b + 1) n) := Lib.hid (by rw [← HT2.out, textL, if_pos hq])
        refine (is_yes p _ xs b n 0 34 _ HPX.out hq2).mono ?_
        rintro e w2 ⟨rfl, hs2, hk2⟩
        have hb6 := bytes_keptS HPX.out.1 HPX.out.slice HBY.out hk2
        have HS2 := Lib.hid hs2
        have HK2 := Lib.hid (HKX.out.trans hk2)
        clear hq hq2 hs2 hk2
        go_wp2_with (first | (refine wpList_string_of_bytes w2 rfl 22 9 5 _ rfl _ out rfl hb6 Tryd.underlying22 Tryd.underlying5 Tryd.underlying9 ?_) | fail)
        go_ret
        rw [hres.out]
        exact ⟨rfl, HS2.out, HK2.out⟩
      · have hq2 : ¬ xs[b]? = some 34 := fun h => hq (by rw [peekP, List.getD_eq_getElem?_getD, h]; rfl)
        refine (is_no p _ xs b n 0 34 _ HPX.out hq2).mono ?_
        rintro e w2 ⟨rfl, hw2⟩
        replace HPX := Lib.hid (HPX.out.ext hw2)
        replace HKX := Lib.hid (HKX.out.trans (KeptP.ofExt hw2))
        replace HBY := Lib.hid (HBY.out.ext hw2)
        have hT3 : T = if ¬(0 < (next (xs.drop b)).2 ∧ 32 ≤ (next (xs.drop b)).1) then .err 2 b else if (next (xs.drop b)).1 = 92 then (if ¬ 0 < (escape (xs.drop (b + 1))).2 then .err 2 b else textL xs n g (b + ((escape (xs.drop (b + 1))).2 + 1)) (out ++ encP (escape (xs.drop (b + 1))).1)) else textL xs n g (b + (next (xs.drop b)).2) (out ++ encP (next (xs.drop b)).1) := by
          rw [← HT2.out, textL, if_neg hq]
        have hnl := next_le (xs.drop b)
        have hnb := next_bd (xs.drop b)
        rw [List.length_drop] at hnl
        clear hq hq2 HT2 hw2
        obtain ⟨r, hr1⟩ : ∃ r, (next (xs.drop b)).1 = r := ⟨_, rfl⟩
        obtain ⟨m, hm1⟩ : ∃ m, (next (xs.drop b)).2 = m := ⟨_, rfl⟩
        rw [hr1, hm1] at hT3
        rw [hr1] at hnb
        rw [hm1] at hnl
        have HR1 := Lib.hid hr1
        have HM1 := Lib.hid hm1
        have HT3 := Lib.hid hT3
        have HAT : Hid (∀ w', Ext w2 w' → BytesAt w' (some ⟨bk, o, none⟩) xs) := Lib.hid (fun w' hw => HPX.out.at.ext hw)
        clear hr1 hm1 hT3
        go_upto_region 5 with fail
        refine Grow.wp_region_litW (G := Ext) (B := fun w' => Ext w2 w') (anc := fun j => if j = 9 then [8] else []) (I := fun j => if j = 8 then some (specB (xs.drop b)) else if j = 9 then some (Grow.Spec.val Ext (.tuple #[.int .i32 r, .int .i64 m])) else none) (by kernel_rfl) (by kernel_rfl) (by kernel_rfl) ?_ ?_ ?_
        · exact fun w w' h hg => ext_trans h hg
        · exact (ext_refl _).drew
        repeat
          (refine Grow.Wk.step (fun K hK => ?_)
           first
           | (refine Grow.step_read (by rfl) (by rfl) ext_refl ?_
              apply Exists.intro
              refine ⟨fun w hB hF => ?_, ?_⟩
              · obtain ⟨c0, c1, c2, c3, f1, f2, f3, hpl⟩ := (HPX.out.ext hB).1.cells
                go_simp
                try exact rfl
              go_simp
              refine hK _ _ ?_
              clear hK K)
           | (refine Grow.step_off (by rfl) ?_
              go_simp
              refine hK _ _ ?_
              clear hK K))
        refine Grow.Wk.step (fun K hK => ?_)
        refine Grow.step_rel (by rfl) (by rfl) (fun w' hB hF => ?_) (fun v hv => ?_)
        · have hsb := BytesAt.slice (HAT.out w' hB) hn hm hx (b) hbl
          go_simp
          try rw [if_pos (by omega)]
          exact Grow.relUpon_value (ext_refl _) ⟨_, _, by rw [List.length_drop]⟩ hsb
        obtain ⟨a', c', rfl⟩ := hv
        go_simp
        refine hK _ _ ?_
        clear hK K
        refine Grow.Wk.step (fun K hK => ?_)
        refine Grow.step_rel (by rfl) (by rfl) (fun w' hB hF => ?_) (fun v hv => ?_)
        · have hb2 : Bytes w' (.slice a' (xs.length - b) c') (xs.drop b) := hF 8 (by simp)
          go_simp
          refine Grow.relUpon_enter ((refnext_any _ (xs.drop b) w' hb2).mono ?_)
          rintro e w'' ⟨rfl, hw''⟩
          exact ⟨_, rfl, hw'', by rw [HR1.out, HM1.out]; rfl, trivial⟩
        obtain rfl : v = _ := hv
        go_simp
        refine hK _ _ ?_
        clear hK K
        repeat
          (refine Grow.Wk.step (fun K hK => ?_)
           first
           | (refine Grow.step_read (by rfl) (by rfl) ext_refl ?_
              apply Exists.intro
              refine ⟨fun w hB hF => ?_, ?_⟩
              · skip
                go_simp
                try exact rfl
              go_simp
              refine hK _ _ ?_
              clear hK K)
           | (refine Grow.step_off (by rfl) ?_
              go_simp
              refine hK _ _ ?_
              clear hK K))
        refine Grow.Wk.nil ?_
        intro w3 hB hF
        clear hF
        replace HPX := Lib.hid (HPX.out.ext hB)
        replace HKX := Lib.hid (HKX.out.trans (KeptP.ofExt hB))
        replace HBY := Lib.hid (HBY.out.ext hB)
        clear hB HAT
        obtain ⟨hm4, hmb⟩ := hnl
        obtain ⟨hr0, hrm⟩ := hnb
        obtain ⟨c0, c1, c2, c3, f1, f2, f3, hpl⟩ := HPX.out.1.cells
        by_cases hm0 : 0 < m
        · have hm0i : ((m : Int) == 0) = false := by simp; omega
          by_cases hr32 : 32 ≤ r
          · have hr32d : decide (r < 32) = false := by simp; omega
            by_cases h92 : r = 92
            · have HT4 : Hid (T = if ¬ 0 < (escape (xs.drop (b + 1))).2 then .err 2 b else textL xs n g (b + ((escape (xs.drop (b + 1))).2 + 1)) (out ++ encP (escape (xs.drop (b + 1))).1)) := Lib.hid (by rw [HT3.out, if_neg (by simp [hm0, hr32]), if_pos h92])
              subst h92
              clear HT3 HR1 HM1 c0 c1 c2 c3 f1 f2 f3 hpl
              go_upto_region 10 with fail
              obtain ⟨r2, hr2⟩ : ∃ r2, (escape (xs.drop (b + 1))).1 = r2 := ⟨_, rfl⟩
              obtain ⟨m2, hm2⟩ : ∃ m2, (escape (xs.drop (b + 1))).2 = m2 := ⟨_, rfl⟩
              have hmb2 := escape_le (xs.drop (b + 1))
              have hrb2 := escape_bd (xs.drop (b + 1))
              rw [List.length_drop, hm2] at hmb2
              rw [hr2] at hrb2
              have HR2 := Lib.hid hr2
              have HM2 := Lib.hid hm2
              have hT4 := HT4.out
              rw [hr2, hm2] at hT4
              replace HT4 := Lib.hid hT4
              clear hr2 hm2 hT4
              have HAT : Hid (∀ w', Ext w3 w' → BytesAt w' (some ⟨bk, o, none⟩) xs) := Lib.hid (fun w' hw => HPX.out.at.ext hw)
              have hb1 : b + 1 ≤ xs.length := by omega
              have e0 : IntKind.i64.wrap ((b : Int) + 1) = ((b + 1 : Nat) : Int) := by rw [IntWalk.i64_in _ (by omega)]; omega
              refine Grow.wp_region_litW (G := Ext) (B := fun w' => Ext w3 w') (anc := fun j => if j = 10 then [9] else []) (I := fun j => if j = 9 then some (specB (xs.drop (b + 1))) else if j = 10 then some (Grow.Spec.val Ext (.tuple #[.int .i32 r2, .int .i64 m2])) else none) (by kernel_rfl) (by kernel_rfl) (by kernel_rfl) ?_ ?_ ?_
              · exact fun w w' h hg => ext_trans h hg
              · exact (ext_refl _).drew
              repeat
                (refine Grow.Wk.step (fun K hK => ?_)
                 first
                 | (refine Grow.step_read (by rfl) (by rfl) ext_refl ?_
                    apply Exists.intro
                    refine ⟨fun w hB hF => ?_, ?_⟩
                    · obtain ⟨c0, c1, c2, c3, f1, f2, f3, hpl⟩ := (HPX.out.ext hB).1.cells
                      go_simp
                      try exact rfl
                    go_simp
                    refine hK _ _ ?_
                    clear hK K)
                 | (refine Grow.step_off (by rfl) ?_
                    go_simp
                    refine hK _ _ ?_
                    clear hK K))
              refine Grow.Wk.step (fun K hK => ?_)
              refine Grow.step_rel (by rfl) (by rfl) (fun w' hB hF => ?_) (fun v hv => ?_)
              · have hsb := BytesAt.slice (HAT.out w' hB) hn hm hx (b + 1) hb1
                go_simp
                try rw [if_pos (by omega)]
                exact Grow.relUpon_value (ext_refl _) ⟨_, _, by rw [List.length_drop]⟩ hsb
              obtain ⟨a', c', rfl⟩ := hv
              go_simp
              refine hK _ _ ?_
              clear hK K
              refine Grow.Wk.step (fun K hK => ?_)
              refine Grow.step_rel (by rfl) (by rfl) (fun w' hB hF => ?_) (fun v hv => ?_)
              · have hb2 : Bytes w' (.slice a' (xs.length - (b + 1)) c') (xs.drop (b + 1)) := hF 9 (by simp)
                go_simp
                refine Grow.relUpon_enter ((refescape_any _ (xs.drop (b + 1)) w' hb2).mono ?_)
                rintro e w'' ⟨rfl, hw''⟩
                exact ⟨_, rfl, hw'', by rw [HR2.out, HM2.out]; rfl, trivial⟩
              obtain rfl : v = _ := hv
              go_simp
              refine hK _ _ ?_
              clear hK K
              repeat
                (refine Grow.Wk.step (fun K hK => ?_)
                 first
                 | (refine Grow.step_read (by rfl) (by rfl) ext_refl ?_
                    apply Exists.intro
                    refine ⟨fun w hB hF => ?_, ?_⟩
                    · skip
                      go_simp
                      try exact rfl
                    go_simp
                    refine hK _ _ ?_
                    clear hK K)
                 | (refine Grow.step_off (by rfl) ?_
                    go_simp
                    refine hK _ _ ?_
                    clear hK K))
              refine Grow.Wk.nil ?_
              intro w4 hB hF
              clear hF
              replace HPX := Lib.hid (HPX.out.ext hB)
              replace HKX := Lib.hid (HKX.out.trans (KeptP.ofExt hB))
              replace HBY := Lib.hid (HBY.out.ext hB)
              clear hB HAT e0
              obtain ⟨c0, c1, c2, c3, f1, f2, f3, hpl⟩ := HPX.out.1.cells
              by_cases hm20 : 0 < m2
              · have hm20i : ((m2 : Int) == 0) = false := by simp; omega
                have HT5 : Hid (textL xs n g (b + (m2 + 1)) (out ++ encP r2) = T) := Lib.hid (by rw [HT4.out, if_neg (by simp [hm20])])
                have e2 : IntKind.i64.wrap ((m2 : Int) + 1) = ((m2 + 1 : Nat) : Int) := by rw [IntWalk.i64_in _ (by omega)]; omega
                clear c0 c1 c2 c3 f1 f2 f3 hpl
                go_wp2_with fail
                refine (refput_any _ out (r2) _ HBY.out (by omega) (by omega) (by omega)).mono ?_
                rintro e w9 ⟨v9, rfl, hown, hw9⟩
                obtain ⟨a6, c6, rfl, -⟩ := id hown
                replace HPX := Lib.hid (HPX.out.ext hw9)
                replace HKX := Lib.hid (HKX.out.trans (KeptP.ofExt hw9))
                have HBN := Lib.hid hown
                clear hown hw9 HBY
                obtain ⟨c0, c1, c2, c3, f1, f2, f3, hpl⟩ := HPX.out.1.cells
                have e1 : IntKind.i64.wrap ((b : Int) + (m2 + 1)) = ((b + (m2 + 1) : Nat) : Int) := by rw [IntWalk.i64_in _ (by omega)]; omega
                have hel := encP_le (r2)
                have HPE := Lib.hid (HPX.out.setA (b + (m2 + 1)) (by omega))
                have HLN : Hid ((out ++ encP (r2)).length ≤ 4 * (b + (m2 + 1))) := Lib.hid (by rw [List.length_append]; omega)
                have HBE := Lib.hid (bytes_keptS HPX.out.1 HPX.out.slice HBN.out (KeptP.set (o := 2) (.int .i64 (b + (m2 + 1) : Nat))))
                clear hel
                go_wp2_with fail
                go_roundg g
                case measure => omega
                case rel => exact ⟨b + (m2 + 1), out ++ encP (r2), a6, c6, by omega, by omega, HT5.out, HPE.out, HKX.out.trans (KeptP.set _), by first | rfl | rw [List.length_append], by first | exact HBE.out | (have := HBE.out; rwa [List.length_append] at this), HLN.out⟩
              · have hres : Hid (T = .err 2 b) := Lib.hid (by rw [HT4.out, if_pos hm20])
                obtain rfl : m2 = 0 := by omega
                clear HT4
                go_wp2_with fail
                refine (fail_any p _ xs b n 2 b _ HPX.out hbl).mono ?_
                rintro e w8 ⟨rfl, hs8, hk8⟩
                have HS8 := Lib.hid hs8
                have HK8 := Lib.hid (HKX.out.trans hk8)
                clear hs8 hk8 c0 c1 c2 c3 f1 f2 f3
                go_wp2_with fail
                go_ret
                rw [hres.out]
                exact ⟨_, rfl, HS8.out, HK8.out⟩
            · have hrb : (r == 92) = false := by simpa using h92
              have HT4 : Hid (textL xs n g (b + m) (out ++ encP r) = T) := Lib.hid (by rw [HT3.out, if_neg (by simp [hm0, hr32]), if_neg h92])
              clear HT3 HR1 HM1 c0 c1 c2 c3 f1 f2 f3 hpl
              go_wp2_with fail
              refine (refput_any _ out (r) _ HBY.out (by omega) (by omega) (by omega)).mono ?_
              rintro e w9 ⟨v9, rfl, hown, hw9⟩
              obtain ⟨a6, c6, rfl, -⟩ := id hown
              replace HPX := Lib.hid (HPX.out.ext hw9)
              replace HKX := Lib.hid (HKX.out.trans (KeptP.ofExt hw9))
              have HBN := Lib.hid hown
              clear hown hw9 HBY
              obtain ⟨c0, c1, c2, c3, f1, f2, f3, hpl⟩ := HPX.out.1.cells
              have e1 : IntKind.i64.wrap ((b : Int) + (m)) = ((b + (m) : Nat) : Int) := by rw [IntWalk.i64_in _ (by omega)]; omega
              have hel := encP_le (r)
              have HPE := Lib.hid (HPX.out.setA (b + (m)) (by omega))
              have HLN : Hid ((out ++ encP (r)).length ≤ 4 * (b + (m))) := Lib.hid (by rw [List.length_append]; omega)
              have HBE := Lib.hid (bytes_keptS HPX.out.1 HPX.out.slice HBN.out (KeptP.set (o := 2) (.int .i64 (b + (m) : Nat))))
              clear hel
              go_wp2_with fail
              go_roundg g
              case measure => omega
              case rel => exact ⟨b + (m), out ++ encP (r), a6, c6, by omega, by omega, HT4.out, HPE.out, HKX.out.trans (KeptP.set _), by first | rfl | rw [List.length_append], by first | exact HBE.out | (have := HBE.out; rwa [List.length_append] at this), HLN.out⟩
          · have hres : Hid (T = .err 2 b) := Lib.hid (by rw [HT3.out, if_pos (fun h => hr32 h.2)])
            have hr32d : decide (r < 32) = true := by simp; omega
            clear HT3
            go_wp2_with fail
            refine (fail_any p _ xs b n 2 b _ HPX.out hbl).mono ?_
            rintro e w8 ⟨rfl, hs8, hk8⟩
            have HS8 := Lib.hid hs8
            have HK8 := Lib.hid (HKX.out.trans hk8)
            clear hs8 hk8 c0 c1 c2 c3 f1 f2 f3
            go_wp2_with fail
            go_ret
            rw [hres.out]
            exact ⟨_, rfl, HS8.out, HK8.out⟩
        · have hres : Hid (T = .err 2 b) := Lib.hid (by rw [HT3.out, if_pos (fun h => hm0 h.1)])
          obtain rfl : m = 0 := by omega
          clear HT3
          go_wp2_with fail
          refine (fail_any p _ xs b n 2 b _ HPX.out hbl).mono ?_
          rintro e w8 ⟨rfl, hs8, hk8⟩
          have HS8 := Lib.hid hs8
          have HK8 := Lib.hid (HKX.out.trans hk8)
          clear hs8 hk8 c0 c1 c2 c3 f1 f2 f3
          go_wp2_with fail
          go_ret
          rw [hres.out]
          exact ⟨_, rfl, HS8.out, HK8.out⟩
end Go.Proofs.YtckpndbmpigegaaDoor
end

section
/- the documents' parser: lists that grow by what a call hands back. -/
set_option linter.unusedVariables false
set_option linter.unusedSimpArgs false
set_option maxRecDepth 100000
namespace Orange
/-- a result, whether it is a thing or an error -/
def PR.tp {α : Type} : PR α → α → Prop
  | .ok t _ _, u => u = t
  | .err _ _, _ => True
def PR.np {α : Type} : PR α → Nat → Prop
  | .ok _ _ m, n => n = m
  | .err _ _, _ => True
def PR.pl {α : Type} : PR α → Nat
  | .ok _ a _ => a
  | .err _ a => a
def PR.er {α : Type} : PR α → Int
  | .ok _ _ _ => 0
  | .err e _ => e
end Orange
namespace Go.Proofs.YtckpndbmpigegaaDoor
open Go.RowKit Go.Mem Orange
theorem EndS.all {p : Nat} {v : Value} {xs : List UInt8} {w w' : World} {e : Ending} {r : PR Tree} (h : EndS p v xs w e w' r) : ∃ c t n, e = .returned (.agg c) ∧ r.tp t ∧ r.np n ∧ TV w' (fun g => w.heap.size ≤ g) t c ∧ SS w' p v xs r.pl n r.er ∧ KeptP p w w' := by
  cases r with
  | ok t a n =>
    obtain ⟨c, h1, h2, h3, h4⟩ := h
    exact ⟨c, t, n, h1, rfl, rfl, h2, h3, h4⟩
  | err er a =>
    obtain ⟨c, t, n, h1, h2, h3, h4⟩ := h
    exact ⟨c, t, n, h1, trivial, trivial, h2, h3, h4⟩
theorem SS.through {w0 w3 W : World} {p : Nat} {v : Value} {xs : List UInt8} {a a0 n n0 : Nat} {e e0 : Int} (h0 : SS w0 p v xs a0 n0 e0) (h : SS w3 p v xs a n e) (hb : W.heap[p]? = w3.heap[p]?) (hk : Kept w0.heap.size p w0 W) : SS W p v xs a n e :=
  ⟨by have := h.1; unfold SAt at this ⊢; rw [hb]; exact this, h0.2.1.kept hk, h.2.2⟩
section
variable {G0 G1 : World → World → Prop} {sp p B : Nat}
/-- a value that came back, of which something is so, and lasts -/
def specTQ (h0 : ∀ w w', G0 w w' → KeptP p w w') (h1 : ∀ w w', G1 w w' → KeptP p w w') (hp : p < B) (Q : Tree → Prop) : GrowS.Spec (GrowS.gS sp G0 G1) :=
  ⟨fun v => ∃ k b d s a1 n1 c1 a2 n2 c2, v = .agg (cellsV k b d s (.slice a1 n1 c1) (.slice a2 n2 c2)), fun v w => ∃ t c, Q t ∧ v = .agg c ∧ TV w (fun g => B ≤ g) t c, ⟨_, 0, false, Num.zero, [], none, 0, 0, none, 0, 0, rfl⟩,
    fun i v w w' ⟨t, c, hq, e, h⟩ hg => ⟨t, c, hq, e, h.kept (by unfold GrowS.gS at hg; split at hg; exact h1 _ _ hg; exact h0 _ _ hg) hp⟩⟩
/-- a new slice of one value that came back -/
def specOneQ (h0 : ∀ w w', G0 w w' → KeptP p w w') (h1 : ∀ w w', G1 w w' → KeptP p w w') (hp : p < B) (Q : Tree → Prop) : GrowS.Spec (GrowS.gS sp G0 G1) :=
  ⟨fun v => ∃ g, v = .slice (some ⟨g, 0, none⟩) 1 1, fun v w => ∃ g t c, v = .slice (some ⟨g, 0, none⟩) 1 1 ∧ B ≤ g ∧ w.heap[g]? = some (.cells c 29 (0, 0)) ∧ Q t ∧ TV w (fun g => B ≤ g) t c, ⟨_, 0, rfl⟩,
    fun i v w w' ⟨g, t, c, e, hg, h, hq, htv⟩ hG => by
      have hk : KeptP p w w' := by unfold GrowS.gS at hG; split at hG; exact h1 _ _ hG; exact h0 _ _ hG
      exact ⟨g, t, c, e, hg, by rw [hk.block g (Array.getElem?_eq_some_iff.1 h).1 (by omega)]; exact h, hq, htv.kept hk hp⟩⟩
end
/-- the list with one more, that came whole -/
theorem StA.push1 {w w3 w4 : World} {p base q : Nat} {acc : List Tree} {cs : List Value} {t : Tree} {c : Array Value} {vL v' : Value} (hbs : base ≤ w.heap.size) (hk3 : KeptP p w w3) (hqb : q < base)
    (hlt : ∀ k, vL.ownBlock = some k → base ≤ k ∧ k < w.heap.size) (hv3 : VAt w3 q (cellsV 4 false Num.zero [] vL noL)) (htl : TL w3 (fun g => base ≤ g ∧ vL.ownBlock ≠ some g) acc cs) (htv : TV w3 (fun g => w.heap.size ≤ g) t c) (hgr : w3.grownBy w4 vL.ownBlock)
    (hown : w4.ownsRow base 29 8 v' (acc.length + 1) (cs ++ c.toList)) (hor : v'.ownBlock = vL.ownBlock ∨ v'.ownBlock = some w3.heap.size) : StA base q (acc ++ [t]) (w4.setCell ⟨q, 6, none⟩ v') := by
  have hs := hk3.size
  have hv4 : VAt w4 q (cellsV 4 false Num.zero [] vL noL) := by
    unfold VAt; rw [hgr.block q hv3.lt (fun e => by have := (hlt q e.symm).1; omega)]; exact hv3
  have hne : ∀ g, base ≤ g → (w4.setCell ⟨q, 6, none⟩ v').heap[g]? = w4.heap[g]? := fun g hg => Below.heap_setCell _ _ _ _ (show g ≠ q by omega)
  have hsz : w3.heap.size ≤ (w4.setCell ⟨q, 6, none⟩ v').heap.size := by have := hgr.size; simpa [World.setCell] using this
  have same : ∀ k, base ≤ k → vL.ownBlock ≠ some k → k < w3.heap.size → (w4.setCell ⟨q, 6, none⟩ v').heap[k]? = w3.heap[k]? := fun k hk hn hkl => by
    rw [hne k hk]; exact hgr.block k hkl (Ne.symm hn)
  have ok : ∀ k, vL.ownBlock ≠ some k → k < w3.heap.size → v'.ownBlock ≠ some k := fun k hn hkl => by
    rcases hor with h | h
    · rw [h]; exact hn
    · rw [h]; intro e; simp only [Option.some.injEq] at e; omega
  refine ⟨v', cs ++ c.toList, hv4.set1 6 v', ?_, ?_⟩
  · rw [List.length_append]
    obtain ⟨h1, h2⟩ := hown
    refine ⟨h1, ?_⟩
    rcases h2 with h2 | ⟨g, cap, cur, rfl, hbg, hg, r⟩
    · exact .inl h2
    · exact .inr ⟨g, cap, cur, rfl, hbg, by rw [hne g hbg]; exact hg, r⟩
  · refine TL.append (htl.keep hsz (fun k hk hkl => ⟨⟨hk.1, ok k hk.2 hkl⟩, same k hk.1 hk.2 hkl⟩)) (htv.keep hsz (fun k hk hkl => ?_))
    have hn : vL.ownBlock ≠ some k := fun e => by have := (hlt k e).2; omega
    exact ⟨⟨by omega, ok k hn hkl⟩, same k (by omega) hn hkl⟩
theorem StA.nil {w : World} {base q : Nat} (h : VAt w q (cellsV 4 false Num.zero [] noL noL)) : StA base q [] w := ⟨noL, [], h, World.ownsRow_nil w base 29 8, .nil⟩
theorem StA.tv {w : World} {base q : Nat} {acc : List Tree} (h : StA base q acc w) : ∃ vL, VAt w q (cellsV 4 false Num.zero [] vL noL) ∧ TV w (fun g => base ≤ g) (tArr acc) (cellsV 4 false Num.zero [] vL noL) := by
  obtain ⟨vL, cs, h1, h2, h3⟩ := h
  exact ⟨vL, h1, .mk (h3.keep (Nat.le_refl _) (fun g hg _ => ⟨hg.1, rfl⟩)) (RowAt.own h2 (by decide) (fun g _ hb _ => hb)) .nil (RowAt.nil w _ 9 none 0 (by omega))⟩
end Go.Proofs.YtckpndbmpigegaaDoor
end

section
/- the documents' parser: an object's members, so far. -/
set_option linter.unusedVariables false
set_option linter.unusedSimpArgs false
set_option maxRecDepth 100000
namespace Go.Proofs.YtckpndbmpigegaaDoor
open Go.RowKit Go.Mem Orange
/-- an object in the making in block q: its members lie from base on -/
def StM (base q : Nat) (acc : List (List UInt8 × Tree)) (w : World) : Prop :=
  ∃ vM cs, VAt w q (cellsV 5 false Num.zero [] noL vM) ∧ w.ownsRow base 41 9 vM acc.length cs ∧ TM w (fun g => base ≤ g ∧ vM.ownBlock ≠ some g) acc cs
theorem StM.kept {base q p : Nat} {acc : List (List UInt8 × Tree)} {w w' : World} (h : StM base q acc w) (hk : KeptP p w w') (hp : p < base) (hq : q ≠ p) : StM base q acc w' := by
  obtain ⟨vM, cs, h1, h2, h3⟩ := h
  exact ⟨vM, cs, h1.kept hk hq, ownsRow_kept h2 hk hp, h3.keep hk.size (fun g hg hlt => ⟨hg, hk.block g hlt (by have := hg.1; omega)⟩)⟩
/-- the members with one more, that came whole -/
theorem StM.push1 {w w3 w4 : World} {p base q : Nat} {acc : List (List UInt8 × Tree)} {cs : List Value} {key : List UInt8} {t : Tree} {c : Array Value} {vM v' : Value} (hbs : base ≤ w.heap.size) (hk3 : KeptP p w w3) (hqb : q < base)
    (hlt : ∀ k, vM.ownBlock = some k → base ≤ k ∧ k < w.heap.size) (hv3 : VAt w3 q (cellsV 5 false Num.zero [] noL vM)) (htl : TM w3 (fun g => base ≤ g ∧ vM.ownBlock ≠ some g) acc cs) (htv : TV w3 (fun g => w.heap.size ≤ g) t c) (hgr : w3.grownBy w4 vM.ownBlock)
    (hown : w4.ownsRow base 41 9 v' (acc.length + 1) (cs ++ .string ⟨key.toArray⟩ :: c.toList)) (hor : v'.ownBlock = vM.ownBlock ∨ v'.ownBlock = some w3.heap.size) : StM base q (acc ++ [(key, t)]) (w4.setCell ⟨q, 7, none⟩ v') := by
  have hs := hk3.size
  have hv4 : VAt w4 q (cellsV 5 false Num.zero [] noL vM) := by
    unfold VAt; rw [hgr.block q hv3.lt (fun e => by have := (hlt q e.symm).1; omega)]; exact hv3
  have hne : ∀ g, base ≤ g → (w4.setCell ⟨q, 7, none⟩ v').heap[g]? = w4.heap[g]? := fun g hg => Below.heap_setCell _ _ _ _ (show g ≠ q by omega)
  have hsz : w3.heap.size ≤ (w4.setCell ⟨q, 7, none⟩ v').heap.size := by have := hgr.size; simpa [World.setCell] using this
  have same : ∀ k, base ≤ k → vM.ownBlock ≠ some k → k < w3.heap.size → (w4.setCell ⟨q, 7, none⟩ v').heap[k]? = w3.heap[k]? := fun k hk hn hkl => by
    rw [hne k hk]; exact hgr.block k hkl (Ne.symm hn)
  have ok : ∀ k, vM.ownBlock ≠ some k → k < w3.heap.size → v'.ownBlock ≠ some k := fun k hn hkl => by
    rcases hor with h | h
    · rw [h]; exact hn
    · rw [h]; intro e; simp only [Option.some.injEq] at e; omega
  refine ⟨v', cs ++ .string ⟨key.toArray⟩ :: c.toList, hv4.set1 7 v', ?_, ?_⟩
  · rw [List.length_append]
    obtain ⟨h1, h2⟩ := hown
    refine ⟨h1, ?_⟩
    rcases h2 with h2 | ⟨g, cap, cur, rfl, hbg, hg, r⟩
    · exact .inl h2
    · exact .inr ⟨g, cap, cur, rfl, hbg, by rw [hne g hbg]; exact hg, r⟩
  · refine TM.append (htl.keep hsz (fun k hk hkl => ⟨⟨hk.1, ok k hk.2 hkl⟩, same k hk.1 hk.2 hkl⟩)) (htv.keep hsz (fun k hk hkl => ?_))
    have hn : vM.ownBlock ≠ some k := fun e => by have := (hlt k e).2; omega
    exact ⟨⟨by omega, ok k hn hkl⟩, same k (by omega) hn hkl⟩
theorem StM.nil {w : World} {base q : Nat} (h : VAt w q (cellsV 5 false Num.zero [] noL noL)) : StM base q [] w := ⟨noL, [], h, World.ownsRow_nil w base 41 9, .nil⟩
theorem StM.tv {w : World} {base q : Nat} {acc : List (List UInt8 × Tree)} (h : StM base q acc w) : ∃ vM, VAt w q (cellsV 5 false Num.zero [] noL vM) ∧ TV w (fun g => base ≤ g) (tObj acc) (cellsV 5 false Num.zero [] noL vM) := by
  obtain ⟨vM, cs, h1, h2, h3⟩ := h
  exact ⟨vM, h1, .mk .nil (RowAt.nil w _ 8 none 0 (by omega)) (h3.keep (Nat.le_refl _) (fun g hg _ => ⟨hg.1, rfl⟩)) (RowAt.own h2 (by decide) (fun g _ hb _ => hb))⟩
end Go.Proofs.YtckpndbmpigegaaDoor
end

section
/- the documents' parser: member. -/
set_option linter.unusedVariables false
set_option linter.unusedSimpArgs false
set_option maxRecDepth 100000
namespace Orange
/-- one member: its key and its value -/
def memP (xs : List UInt8) (val : Nat → Nat → PR Tree) (acc : List (List UInt8 × Tree)) (a n : Nat) : PR (List UInt8 × Tree) :=
  match textP xs (whiteN xs a) n with
  | .err e b => .err e b
  | .ok key a1 n1 =>
    if acc.any (fun x => x.1 == key) then .err 7 (whiteN xs a)
    else if xs[whiteN xs a1]? = some 58 then (val (whiteN xs a1 + 1) n1).map fun t => (key, t)
    else .err 2 (whiteN xs a1)
theorem itemO_eq (xs : List UInt8) (val : Nat → Nat → PR Tree) (acc : List (List UInt8 × Tree)) (a n : Nat) : itemO xs val acc a n = (memP xs val acc a n).map fun x => acc ++ [x] := by
  unfold itemO memP
  cases textP xs (whiteN xs a) n with
  | err e b => rfl
  | ok key a1 n1 =>
    simp only
    split
    · rfl
    · split
      · cases val (whiteN xs a1 + 1) n1 <;> rfl
      · rfl
end Orange
namespace Go.Proofs.YtckpndbmpigegaaDoor
open Go.RowKit Go.Mem Orange
theorem MAt.kept {w w' : World} {p q : Nat} {c : Array Value} (h : MAt w q c) (hb : KeptP p w w') (hq : q ≠ p) : MAt w' q c := by
  unfold MAt; rw [hb.block q h.lt hq]; exact h
theorem MAt.free {w : World} {q : Nat} {c : Array Value} (h : MAt w q c) (i : Nat) : w.frozen? ⟨q, i, none⟩ = false := free_of_cells h
theorem MAt.set1 {w : World} {q : Nat} {c : Array Value} (h : MAt w q c) (i : Nat) (u : Value) : MAt (w.setCell ⟨q, i, none⟩ u) q (c.setIfInBounds i u) := setCell_heap_self h
theorem MAt.oth {w : World} {q p i : Nat} {u : Value} {c : Array Value} (h : MAt w q c) (hq : q ≠ p) : MAt (w.setCell ⟨p, i, none⟩ u) q c := by
  unfold MAt; rw [Below.heap_setCell _ _ _ _ hq]; exact h
theorem MAt.store9 {w : World} {q : Nat} {x0 x1 x2 x3 x4 x5 x6 x7 x8 : Value} (h : MAt w q #[x0, x1, x2, x3, x4, x5, x6, x7, x8]) (a b c d e f g i j : Value) : MAt (((((((((w.setCell ⟨q, 0, none⟩ a).setCell ⟨q, 1, none⟩ b).setCell ⟨q, 2, none⟩ c).setCell ⟨q, 3, none⟩ d).setCell ⟨q, 4, none⟩ e).setCell ⟨q, 5, none⟩ f).setCell ⟨q, 6, none⟩ g).setCell ⟨q, 7, none⟩ i).setCell ⟨q, 8, none⟩ j) q #[a, b, c, d, e, f, g, i, j] := by
  unfold MAt at h ⊢
  simp [World.setCell, Array.getElem?_modify, h]
theorem below_store9 {B q : Nat} {w w' : World} (h : Below B w w') (hp : B ≤ q) (a b c d e f g i j : Value) : Below B w (((((((((w'.setCell ⟨q, 0, none⟩ a).setCell ⟨q, 1, none⟩ b).setCell ⟨q, 2, none⟩ c).setCell ⟨q, 3, none⟩ d).setCell ⟨q, 4, none⟩ e).setCell ⟨q, 5, none⟩ f).setCell ⟨q, 6, none⟩ g).setCell ⟨q, 7, none⟩ i).setCell ⟨q, 8, none⟩ j) :=
  ((((((((h.setCell hp a).setCell hp b).setCell hp c).setCell hp d).setCell hp e).setCell hp f).setCell hp g).setCell hp i).setCell hp j
theorem heap9 {w : World} {q k : Nat} {a b c d e f g i j : Value} (h : k ≠ q) : (((((((((w.setCell ⟨q, 0, none⟩ a).setCell ⟨q, 1, none⟩ b).setCell ⟨q, 2, none⟩ c).setCell ⟨q, 3, none⟩ d).setCell ⟨q, 4, none⟩ e).setCell ⟨q, 5, none⟩ f).setCell ⟨q, 6, none⟩ g).setCell ⟨q, 7, none⟩ i).setCell ⟨q, 8, none⟩ j).heap[k]? = w.heap[k]? := by
  rw [Below.heap_setCell _ _ _ _ h, Below.heap_setCell _ _ _ _ h, Below.heap_setCell _ _ _ _ h, Below.heap_setCell _ _ _ _ h, Below.heap_setCell _ _ _ _ h, Below.heap_setCell _ _ _ _ h, Below.heap_setCell _ _ _ _ h, Below.heap_setCell _ _ _ _ h, Below.heap_setCell _ _ _ _ h]
/-- what member's call comes to -/
def EndM (p : Nat) (v : Value) (xs : List UInt8) (w : World) (e : Ending) (w' : World) : PR (List UInt8 × Tree) → Prop
  | .ok x a n => ∃ c, e = .returned (.agg ⟨.string ⟨x.1.toArray⟩ :: c.toList⟩) ∧ TV w' (fun g => w.heap.size ≤ g) x.2 c ∧ SS w' p v xs a n 0 ∧ KeptP p w w'
  | .err er a => ∃ (s : List UInt8) (c : Array Value) (t : Tree) (n : Nat), e = .returned (.agg ⟨.string ⟨s.toArray⟩ :: c.toList⟩) ∧ TV w' (fun g => w.heap.size ≤ g) t c ∧ SS w' p v xs a n er ∧ KeptP p w w'
end Go.Proofs.YtckpndbmpigegaaDoor
end

section
/- the documents' parser: member. -/
set_option linter.unusedVariables false
set_option linter.unusedSimpArgs false
set_option maxRecDepth 100000
namespace Go.Proofs.YtckpndbmpigegaaDoor
open Go.RowKit Go.Mem Orange
theorem MAt.storeV {w : World} {q : Nat} {x0 x1 x2 x3 x4 x5 x6 x7 x8 : Value} (h : MAt w q #[x0, x1, x2, x3, x4, x5, x6, x7, x8]) (a b c d e f g i : Value) : MAt ((((((((w.setCell ⟨q, 1, none⟩ a).setCell ⟨q, 2, none⟩ b).setCell ⟨q, 3, none⟩ c).setCell ⟨q, 4, none⟩ d).setCell ⟨q, 5, none⟩ e).setCell ⟨q, 6, none⟩ f).setCell ⟨q, 7, none⟩ g).setCell ⟨q, 8, none⟩ i) q #[x0, a, b, c, d, e, f, g, i] := by
  unfold MAt at h ⊢
  simp [World.setCell, Array.getElem?_modify, h]
theorem below_storeV {B q : Nat} {w' w : World} (h : Below B w' w) (hp : B ≤ q) (a b c d e f g i : Value) : Below B w' ((((((((w.setCell ⟨q, 1, none⟩ a).setCell ⟨q, 2, none⟩ b).setCell ⟨q, 3, none⟩ c).setCell ⟨q, 4, none⟩ d).setCell ⟨q, 5, none⟩ e).setCell ⟨q, 6, none⟩ f).setCell ⟨q, 7, none⟩ g).setCell ⟨q, 8, none⟩ i) :=
  (((((((h.setCell hp a).setCell hp b).setCell hp c).setCell hp d).setCell hp e).setCell hp f).setCell hp g).setCell hp i
theorem heapV {w : World} {q k : Nat} {a b c d e f g i : Value} (h : k ≠ q) : ((((((((w.setCell ⟨q, 1, none⟩ a).setCell ⟨q, 2, none⟩ b).setCell ⟨q, 3, none⟩ c).setCell ⟨q, 4, none⟩ d).setCell ⟨q, 5, none⟩ e).setCell ⟨q, 6, none⟩ f).setCell ⟨q, 7, none⟩ g).setCell ⟨q, 8, none⟩ i).heap[k]? = w.heap[k]? := by
  rw [Below.heap_setCell _ _ _ _ h, Below.heap_setCell _ _ _ _ h, Below.heap_setCell _ _ _ _ h, Below.heap_setCell _ _ _ _ h, Below.heap_setCell _ _ _ _ h, Below.heap_setCell _ _ _ _ h, Below.heap_setCell _ _ _ _ h, Below.heap_setCell _ _ _ _ h]
theorem MAt.storeV_oth {w : World} {q k : Nat} {cs : Array Value} {a b c d e f g i : Value} (hm : MAt w k cs) (h : k ≠ q) : MAt ((((((((w.setCell ⟨q, 1, none⟩ a).setCell ⟨q, 2, none⟩ b).setCell ⟨q, 3, none⟩ c).setCell ⟨q, 4, none⟩ d).setCell ⟨q, 5, none⟩ e).setCell ⟨q, 6, none⟩ f).setCell ⟨q, 7, none⟩ g).setCell ⟨q, 8, none⟩ i) k cs := by
  unfold MAt; rw [heapV h]; exact hm
theorem endM_of {p : Nat} {v : Value} {xs : List UInt8} {w w' : World} {key : List UInt8} {r : PR Tree} {c : Array Value} {tv : Tree} {n' : Nat} (htp : r.tp tv) (hnp : r.np n') (htv : TV w' (fun g => w.heap.size ≤ g) tv c) (hs : SS w' p v xs r.pl n' r.er) (hk : KeptP p w w') : EndM p v xs w (.returned (.agg ⟨.string ⟨key.toArray⟩ :: c.toList⟩)) w' (r.map fun t => (key, t)) := by
  cases r with
  | ok t a m =>
    obtain rfl : tv = t := htp
    obtain rfl : n' = m := hnp
    exact ⟨c, rfl, htv, hs, hk⟩
  | err er a => exact ⟨key, c, tv, n', rfl, htv, hs, hk⟩
-- the nine cells of block S, read (HV2 : Hid (MAt w2 S ..)) and stored
set_option maxHeartbeats 12800000 in
theorem rmember_any (p : Nat) (v : Value) (xs : List UInt8) (f deep : Nat) (ih : ∀ a n w, SS w p v xs a n 0 → n ≤ 4096 → Calls Tryd.prog 22 #[.pointer (some ⟨p, 0, none⟩), .int .i64 (deep : Nat)] w (fun e w' => EndS p v xs w e w' (valueP xs f deep a n)))
    (acc : List (List UInt8 × Tree)) (vM : Value) (cs : List Value) (A : Nat → Prop) (hA : ∀ g, A g → g ≠ p) (a n : Nat) (w : World) (h : SS w p v xs a n 0) (hn4 : n ≤ 4096) (hrow : RowAt w A 9 vM acc.length cs) (htm : TM w A acc cs) :
    Calls Tryd.prog 41 #[.pointer (some ⟨p, 0, none⟩), vM, .int .i64 (deep : Nat)] w (fun e w' => EndM p v xs w e w' (memP xs (valueP xs f deep) acc a n)) := by
  obtain ⟨R, hR⟩ : ∃ R, memP xs (valueP xs f deep) acc a n = R := ⟨_, rfl⟩
  rw [hR]
  have IH := Lib.hid ih
  have HROW := Lib.hid hrow
  have HTM := Lib.hid htm
  have HP0 := Lib.hid h
  have hpw : p < w.heap.size := h.1.cells.2.2.2.2.2.2.2
  have hv := MAt.new w #[.string ⟨#[]⟩, .int .i64 0, .bool false, .bool false, .string ⟨#[]⟩, .int .i64 0, .string ⟨#[]⟩, .slice none 0 0, .slice none 0 0]
  have hx1 : Ext w (w.alloc (.cells #[.string ⟨#[]⟩, .int .i64 0, .bool false, .bool false, .string ⟨#[]⟩, .int .i64 0, .string ⟨#[]⟩, .slice none 0 0, .slice none 0 0] 41)) := (ext_refl w).alloc (Nat.le_refl _) _
  have HP := Lib.hid (h.ext hx1)
  have hql := whiteN_le xs a
  obtain ⟨q, hq⟩ : ∃ q, whiteN xs a = q := ⟨_, rfl⟩
  obtain ⟨va, vcap, rfl⟩ : ∃ a c, vM = .slice a acc.length c := by obtain ⟨_, a, c, e, _⟩ := hrow; exact ⟨a, c, e⟩
  have hacc : acc.length ≤ 9223372036854775807 := by obtain ⟨_, a, c, _, h1, h2, _⟩ := hrow; omega
  unfold memP at hR
  rw [hq] at hR hql
  have HRR := Lib.hid hR
  have HQ := Lib.hid hq
  clear h ih hR hq hrow htm
  go_enter Tryd.func41, Tryd.ntmps41
  go_upto_region 1 with fail
  obtain ⟨S, hS⟩ : ∃ S, w.heap.size = S := ⟨_, rfl⟩
  rw [hS] at hv hpw ⊢
  generalize w.alloc (.cells #[.string ⟨#[]⟩, .int .i64 0, .bool false, .bool false, .string ⟨#[]⟩, .int .i64 0, .string ⟨#[]⟩, .slice none 0 0, .slice none 0 0] 41) = w1 at *
  have HSS := Lib.hid hS
  have HV := Lib.hid hv
  have HE := Lib.hid hx1
  clear hv hx1 hS
  go_wp2_with fail
  refine (swhite_any p _ xs a n 0 w1 HP.out).mono ?_
  rintro e w2 ⟨rfl, hs2, hk2⟩
  rw [HQ.out] at hs2
  replace HP := Lib.hid hs2
  replace HV := Lib.hid (HV.out.kept hk2 (by omega))
  have HK := Lib.hid ((KeptP.ofExt HE.out).trans hk2)
  clear hs2 hk2 HE
  obtain ⟨c0, c1, c2, c3, f1, f2, f3, hpl⟩ := HP.out.1.cells
  go_wp2_with fail
  clear c0 c1 c2 c3 f1 f2 f3
  by_cases h34 : xs[q]? = some 34
  · have HX0 : Hid (0 < xs.length) := Lib.hid (by have := (List.getElem?_eq_some_iff.1 h34).1; omega)
    have HQ1 : Hid (q + 1 ≤ xs.length) := Lib.hid (by have := (List.getElem?_eq_some_iff.1 h34).1; omega)
    have hrr := HRR.out
    rw [textP, if_pos h34] at hrr
    replace HRR := Lib.hid hrr
    refine (is_yes p _ xs q n 0 34 w2 HP.out h34).mono ?_
    rintro e w3 ⟨rfl, hs3, hk3⟩
    replace HP := Lib.hid hs3
    replace HV := Lib.hid (HV.out.kept hk3 (by omega))
    replace HK := Lib.hid (HK.out.trans hk3)
    clear hs3 hk3 h34 hrr
    go_wp2_with fail
    refine (rtext_any p _ xs (q + 1) n w3 HP.out HX0.out).mono ?_
    intro e w4 hend
    cases hTc : textL xs n (xs.length + 1) (q + 1) [] with
    | err er b =>
      rw [hTc] at hend
      obtain ⟨n', rfl, hs4, hk4⟩ := hend
      have HRF : Hid (.err er b = R) := Lib.hid (by rw [← HRR.out, hTc])
      replace HP := Lib.hid hs4
      replace HV := Lib.hid (HV.out.kept hk4 (by omega))
      replace HK := Lib.hid (HK.out.trans hk4)
      have hfi := textL_fine xs n (xs.length + 1) (q + 1) [] HQ1.out
      rw [hTc] at hfi
      have her : (er == 0) = false := by simpa using hfi.1
      clear hs4 hk4 hTc hfi
      have hm := MAt.new w4 #[.string ⟨#[]⟩, .int .i64 0, .bool false, .bool false, .string ⟨#[]⟩, .int .i64 0, .string ⟨#[]⟩, .slice none 0 0, .slice none 0 0]
      have hx5 : Ext w4 (w4.alloc (.cells #[.string ⟨#[]⟩, .int .i64 0, .bool false, .bool false, .string ⟨#[]⟩, .int .i64 0, .string ⟨#[]⟩, .slice none 0 0, .slice none 0 0] 41)) := (ext_refl w4).alloc (Nat.le_refl _) _
      go_upto_region 7 with fail
      obtain ⟨M, hM⟩ : ∃ M, w4.heap.size = M := ⟨_, rfl⟩
      have hSM : S < M := by have := HV.out.lt; omega
      rw [hM] at hm ⊢
      generalize w4.alloc (.cells #[.string ⟨#[]⟩, .int .i64 0, .bool false, .bool false, .string ⟨#[]⟩, .int .i64 0, .string ⟨#[]⟩, .slice none 0 0, .slice none 0 0] 41) = w5 at *
      replace HP := Lib.hid (HP.out.ext hx5)
      replace HV := Lib.hid (HV.out.ext hx5)
      replace HK := Lib.hid (HK.out.toExt hx5)
      have HM := Lib.hid hm
      clear hm hx5 hM
      go_wp2_with fail
      go_loopw [9] (fun av wr => av = .int .i64 0 ∧ w5 = wr) (fun _ _ => 0)
      case atStart => exact ⟨rfl, rfl⟩
      case round =>
        obtain ⟨rfl, rfl⟩ := hrel
        obtain ⟨c0, c1, c2, c3, f1, f2, f3, hpl⟩ := HP.out.1.cells
        have b0 := HM.out.cell 0; have b1 := HM.out.cell 1; have b2 := HM.out.cell 2; have b3 := HM.out.cell 3; have b4 := HM.out.cell 4; have b5 := HM.out.cell 5; have b6 := HM.out.cell 6; have b7 := HM.out.cell 7; have b8 := HM.out.cell 8
        simp at b0 b1 b2 b3 b4 b5 b6 b7 b8
        have HV2 := HV
        have y0 := HV2.out.cell 0; have y1 := HV2.out.cell 1; have y2 := HV2.out.cell 2; have y3 := HV2.out.cell 3; have y4 := HV2.out.cell 4; have y5 := HV2.out.cell 5; have y6 := HV2.out.cell 6; have y7 := HV2.out.cell 7; have y8 := HV2.out.cell 8
        have g0 := HV2.out.free 0; have g1 := HV2.out.free 1; have g2 := HV2.out.free 2; have g3 := HV2.out.free 3; have g4 := HV2.out.free 4; have g5 := HV2.out.free 5; have g6 := HV2.out.free 6; have g7 := HV2.out.free 7; have g8 := HV2.out.free 8
        simp at y0 y1 y2 y3 y4 y5 y6 y7 y8
        by_cases hl0 : (0 : Int) < acc.length
        · go_wp2_with fail
          rw [← HRF.out]
          clear c0 c1 c2 c3 f1 f2 f3 hpl b0 b1 b2 b3 b4 b5 b6 b7 b8
          have hV := MAt.store9 HV2.out (.string ⟨#[]⟩) (.int .i64 0) (.bool false) (.bool false) (.string ⟨#[]⟩) (.int .i64 0) (.string ⟨#[]⟩) (.slice none 0 0) (.slice none 0 0)
          have HV := Lib.hid hV
          have v0 := HV.out.cell 0; have v1 := HV.out.cell 1; have v2 := HV.out.cell 2; have v3 := HV.out.cell 3; have v4 := HV.out.cell 4; have v5 := HV.out.cell 5; have v6 := HV.out.cell 6; have v7 := HV.out.cell 7; have v8 := HV.out.cell 8
          simp only [List.getElem?_toArray, List.getElem?_cons_zero, List.getElem?_cons_succ] at v0 v1 v2 v3 v4 v5 v6 v7 v8
          refine bodyPost_ret (v := .agg #[.string ⟨#[]⟩, .int .i64 0, .bool false, .bool false, .string ⟨#[]⟩, .int .i64 0, .string ⟨#[]⟩, .slice none 0 0, .slice none 0 0]) (by simp [results, Tryd.results41, go_sem, v0, v1, v2, v3, v4, v5, v6, v7, v8]) rfl ?_
          have hfin := HP0.out.fresh HP.out HK.out (below_store9 (q := S) (Below.refl _ w5) (by rw [HSS.out]; exact Nat.le_refl _) (.string ⟨#[]⟩) (.int .i64 0) (.bool false) (.bool false) (.string ⟨#[]⟩) (.int .i64 0) (.string ⟨#[]⟩) (.slice none 0 0) (.slice none 0 0))
          exact ⟨[], _, _, _, rfl, TV.leaf _ _ 0 false Num.zero [], hfin.1, hfin.2⟩
        · go_wp2_with fail
          rw [← HRF.out]
          clear c0 c1 c2 c3 f1 f2 f3 hpl b0 b1 b2 b3 b4 b5 b6 b7 b8
          have hV := MAt.store9 HV2.out (.string ⟨#[]⟩) (.int .i64 0) (.bool false) (.bool false) (.string ⟨#[]⟩) (.int .i64 0) (.string ⟨#[]⟩) (.slice none 0 0) (.slice none 0 0)
          have HV := Lib.hid hV
          have v0 := HV.out.cell 0; have v1 := HV.out.cell 1; have v2 := HV.out.cell 2; have v3 := HV.out.cell 3; have v4 := HV.out.cell 4; have v5 := HV.out.cell 5; have v6 := HV.out.cell 6; have v7 := HV.out.cell 7; have v8 := HV.out.cell 8
          simp only [List.getElem?_toArray, List.getElem?_cons_zero, List.getElem?_cons_succ] at v0 v1 v2 v3 v4 v5 v6 v7 v8
          refine bodyPost_ret (v := .agg #[.string ⟨#[]⟩, .int .i64 0, .bool false, .bool false, .string ⟨#[]⟩, .int .i64 0, .string ⟨#[]⟩, .slice none 0 0, .slice none 0 0]) (by simp [results, Tryd.results41, go_sem, v0, v1, v2, v3, v4, v5, v6, v7, v8]) rfl ?_
          have hfin := HP0.out.fresh HP.out HK.out (below_store9 (q := S) (Below.refl _ w5) (by rw [HSS.out]; exact Nat.le_refl _) (.string ⟨#[]⟩) (.int .i64 0) (.bool false) (.bool false) (.string ⟨#[]⟩) (.int .i64 0) (.string ⟨#[]⟩) (.slice none 0 0) (.slice none 0 0))
          exact ⟨[], _, _, _, rfl, TV.leaf _ _ 0 false Num.zero [], hfin.1, hfin.2⟩
    | ok key a1 n1 =>
      rw [hTc] at hend
      obtain ⟨rfl, hs4, hk4⟩ := hend
      obtain rfl : n1 = n := (textL_ok xs n _ _ _ _ _ _ hTc).2.1
      have hrr := HRR.out
      rw [hTc] at hrr
      replace HRR := Lib.hid hrr
      replace HP := Lib.hid hs4
      replace HV := Lib.hid (HV.out.kept hk4 (by omega))
      replace HK := Lib.hid (HK.out.trans hk4)
      clear hs4 hk4 hTc hrr
      have hm := MAt.new w4 #[.string ⟨key.toArray⟩, .int .i64 0, .bool false, .bool false, .string ⟨#[]⟩, .int .i64 0, .string ⟨#[]⟩, .slice none 0 0, .slice none 0 0]
      have hx5 : Ext w4 (w4.alloc (.cells #[.string ⟨key.toArray⟩, .int .i64 0, .bool false, .bool false, .string ⟨#[]⟩, .int .i64 0, .string ⟨#[]⟩, .slice none 0 0, .slice none 0 0] 41)) := (ext_refl w4).alloc (Nat.le_refl _) _
      go_upto_region 7 with fail
      obtain ⟨M, hM⟩ : ∃ M, w4.heap.size = M := ⟨_, rfl⟩
      have hSM : S < M := by have := HV.out.lt; omega
      rw [hM] at hm ⊢
      generalize w4.alloc (.cells #[.string ⟨key.toArray⟩, .int .i64 0, .bool false, .bool false, .string ⟨#[]⟩, .int .i64 0, .string ⟨#[]⟩, .slice none 0 0, .slice none 0 0] 41) = w5 at *
      replace HP := Lib.hid (HP.out.ext hx5)
      replace HV := Lib.hid (HV.out.ext hx5)
      replace HK := Lib.hid (HK.out.toExt hx5)
      have HM := Lib.hid hm
      clear hm hx5 hM
      go_wp2_with fail
      go_loopw [9] (fun av wr => ∃ (k b : Nat) (er : Int), av = .int .i64 k ∧ k ≤ acc.length ∧ SS wr p v xs b n1 er ∧ KeptP p w5 wr ∧ ((er = 0 ∧ b = a1 ∧ ∀ j, (hj : j < acc.length) → j < k → acc[j].1 ≠ key) ∨ (er = 7 ∧ b = q ∧ acc.any (fun x => x.1 == key) = true))) (fun av _ => acc.length - (intOf av).toNat)
      case atStart => exact ⟨0, a1, 0, rfl, Nat.zero_le _, HP.out, KeptP.refl _ _, .inl ⟨rfl, rfl, fun j _ h => absurd h (Nat.not_lt_zero j)⟩⟩
      case round =>
        obtain ⟨k, b, er, rfl, hkl, hss, hkp, hcase⟩ := hrel
        have HPX := Lib.hid hss
        have HKX := Lib.hid hkp
        clear hss hkp
        obtain ⟨c0, c1, c2, c3, f1, f2, f3, hpl⟩ := HPX.out.1.cells
        rcases hcase with ⟨rfl, rfl, hno⟩ | ⟨rfl, rfl, hany⟩
        · by_cases hlt : k < acc.length
          · have hrw := HROW.out.keep (w' := wr) (A' := A) (HK.out.trans HKX.out).size (fun g hg hl => ⟨hg, (HK.out.trans HKX.out).block g hl (hA g hg)⟩)
            obtain ⟨bg, bo, rfl, hbl, hcells⟩ := hrw.cells (by omega)
            obtain ⟨ck, -, hck, -⟩ := HTM.out.at k hlt
            have kc := hcells _ _ hck
            have HMX := Lib.hid (HM.out.kept HKX.out (by omega))
            have b0 := HMX.out.cell 0
            simp at b0
            have hki : (k : Int) < acc.length := by omega
            have hk0 : (0 : Int) ≤ k := by omega
            have e9 : IntKind.i64.wrap ((k : Int) + 1) = ((k + 1 : Nat) : Int) := by rw [IntWalk.i64_in _ (by omega)]; omega
            clear hcells hck hrw
            by_cases hkey : acc[k].1 = key
            · have hany : acc.any (fun x => x.1 == key) = true := List.any_eq_true.2 ⟨acc[k], List.getElem_mem _, by simpa using hkey⟩
              rw [hkey] at kc
              go_wp2_with fail
              go_quiet (fail)
              have hxq : Ext wr (wr.drewN nq) := below_drewN (ext_refl _) _
              generalize wr.drewN nq = wq at *
              have HPQ := Lib.hid (HPX.out.ext hxq)
              clear c0 c1 c2 c3 f1 f2 f3 hpl b0 kc
              go_wp2_with fail
              refine (fail_any p _ xs b n1 7 q wq HPQ.out hql).mono ?_
              rintro e w8 ⟨rfl, hs8, hk8⟩
              have HS8 := Lib.hid hs8
              have HK8 := Lib.hid ((HKX.out.toExt hxq).trans hk8)
              clear hs8 hk8
              go_wp2_with fail
              go_roundw
              case rel => exact ⟨k + 1, q, 7, by go_num, by omega, HS8.out, HK8.out, .inr ⟨rfl, rfl, hany⟩⟩
              case measure => simp [intOf]; omega
            · have hno2 : ∀ j, (hj : j < acc.length) → j < k + 1 → acc[j].1 ≠ key := fun j hj hjk => by
                rcases Nat.lt_or_ge j k with h | h
                · exact hno j hj h
                · obtain rfl : j = k := by omega
                  exact hkey
              have HNO := Lib.hid hno2
              generalize acc[k].1 = kk at *
              have hkb : (kk == key) = false := by simpa using hkey
              clear hno2 hno
              go_wp2_with fail
              go_quiet (fail)
              have hxq : Ext wr (wr.drewN nq) := below_drewN (ext_refl _) _
              generalize wr.drewN nq = wq at *
              have HPQ := Lib.hid (HPX.out.ext hxq)
              have HKQ := Lib.hid (HKX.out.toExt hxq)
              clear c0 c1 c2 c3 f1 f2 f3 hpl b0 kc
              go_wp2_with fail
              go_roundw
              case rel => exact ⟨k + 1, b, 0, by go_num, by omega, HPQ.out, HKQ.out, .inl ⟨rfl, rfl, HNO.out⟩⟩
              case measure => simp [intOf]; omega
          · obtain rfl : k = acc.length := by omega
            have hany : ¬ acc.any (fun x => x.1 == key) = true := fun h => by
              obtain ⟨x, hx, hk⟩ := List.any_eq_true.1 h
              obtain ⟨j, hj, rfl⟩ := List.mem_iff_getElem.1 hx
              exact hno j hj hj (by simpa using hk)
            have hrr := HRR.out
            rw [if_neg hany] at hrr
            replace HRR := Lib.hid hrr
            have hnl : ¬ ((acc.length : Int) < acc.length) := by omega
            have HV2 := Lib.hid (HV.out.kept HKX.out (by omega))
            have HMX := Lib.hid (HM.out.kept HKX.out (by omega))
            have HKY := Lib.hid (HK.out.trans HKX.out)
            clear hany hno hrr hlt
            go_wp2_with fail
            clear c0 c1 c2 c3 f1 f2 f3 hpl
            refine (swhite_any p _ xs b n1 0 wr HPX.out).mono ?_
            rintro e w6 ⟨rfl, hs6, hk6⟩
            obtain ⟨q3, hq3⟩ : ∃ q3, whiteN xs b = q3 := ⟨_, rfl⟩
            have hq3l := whiteN_le xs b
            have hrr := HRR.out
            rw [hq3] at hs6 hq3l hrr
            replace HRR := Lib.hid hrr
            have HP6 := Lib.hid hs6
            replace HV2 := Lib.hid (HV2.out.kept hk6 (by omega))
            replace HMX := Lib.hid (HMX.out.kept hk6 (by omega))
            replace HKY := Lib.hid (HKY.out.trans hk6)
            clear hs6 hk6 hrr hq3
            go_wp2_with fail
            by_cases h58 : xs[q3]? = some 58
            · have hq3s : q3 + 1 ≤ xs.length := by have := (List.getElem?_eq_some_iff.1 h58).1; omega
              have hrr := HRR.out
              rw [if_pos h58] at hrr
              replace HRR := Lib.hid hrr
              refine (is_yes p _ xs q3 n1 0 58 w6 HP6.out h58).mono ?_
              rintro e w7 ⟨rfl, hs7, hk7⟩
              have HP7 := Lib.hid hs7
              replace HV2 := Lib.hid (HV2.out.kept hk7 (by omega))
              replace HMX := Lib.hid (HMX.out.kept hk7 (by omega))
              replace HKY := Lib.hid (HKY.out.trans hk7)
              clear hs7 hk7 hrr h58
              go_wp2_with fail
              have hM7 := HMX.out.lt
              refine (IH.out (q3 + 1) n1 w7 HP7.out hn4).mono ?_
              intro e w8 hend
              obtain ⟨r, hr⟩ : ∃ r, valueP xs f deep (q3 + 1) n1 = r := ⟨_, rfl⟩
              have hrr := HRR.out
              rw [hr] at hend hrr
              obtain ⟨cv, tv, n', rfl, htp, hnp, htv, hs8, hk8⟩ := hend.all
              obtain ⟨yk, yb, yd, ys, ya1, yn1, yc1, ya2, yn2, yc2, rfl⟩ := htv.eight
              have HP8 := Lib.hid hs8
              replace HV2 := Lib.hid (HV2.out.kept hk8 (by omega))
              replace HMX := Lib.hid (HMX.out.kept hk8 (by omega))
              replace HKY := Lib.hid (HKY.out.trans hk8)
              have h8s := hk8.size
              clear hend hs8 hk8
              have g1 := HMX.out.free 1; have g2 := HMX.out.free 2; have g3 := HMX.out.free 3; have g4 := HMX.out.free 4; have g5 := HMX.out.free 5; have g6 := HMX.out.free 6; have g7 := HMX.out.free 7; have g8 := HMX.out.free 8
              have y1 := HMX.out.cell 1; have y2 := HMX.out.cell 2; have y3 := HMX.out.cell 3; have y4 := HMX.out.cell 4; have y5 := HMX.out.cell 5; have y6 := HMX.out.cell 6; have y7 := HMX.out.cell 7; have y8 := HMX.out.cell 8
              simp at y1 y2 y3 y4 y5 y6 y7 y8
              have hst9 := HP0.out.fresh HP8.out HKY.out (below_storeV (q := M) (Below.refl _ w8) (by rw [HSS.out]; omega) (.int .i64 yk) (.bool yb) (.bool yd.neg) (.string ⟨yd.digits.toArray⟩) (.int .i64 yd.exp) (.string ⟨ys.toArray⟩) (.slice ya1 yn1 yc1) (.slice ya2 yn2 yc2))
              have hmx9 := HMX.out.storeV (.int .i64 yk) (.bool yb) (.bool yd.neg) (.string ⟨yd.digits.toArray⟩) (.int .i64 yd.exp) (.string ⟨ys.toArray⟩) (.slice ya1 yn1 yc1) (.slice ya2 yn2 yc2)
              have hv9 := HV2.out.storeV_oth (q := M) (a := .int .i64 yk) (b := .bool yb) (c := .bool yd.neg) (d := .string ⟨yd.digits.toArray⟩) (e := .int .i64 yd.exp) (f := .string ⟨ys.toArray⟩) (g := .slice ya1 yn1 yc1) (i := .slice ya2 yn2 yc2) (by omega)
              have htv9 := htv.keep (w' := ((((((((w8.setCell ⟨M, 1, none⟩ (.int .i64 yk)).setCell ⟨M, 2, none⟩ (.bool yb)).setCell ⟨M, 3, none⟩ (.bool yd.neg)).setCell ⟨M, 4, none⟩ (.string ⟨yd.digits.toArray⟩)).setCell ⟨M, 5, none⟩ (.int .i64 yd.exp)).setCell ⟨M, 6, none⟩ (.string ⟨ys.toArray⟩)).setCell ⟨M, 7, none⟩ (.slice ya1 yn1 yc1)).setCell ⟨M, 8, none⟩ (.slice ya2 yn2 yc2))) (A' := fun g => w7.heap.size ≤ g) (by simp [World.setCell]) (fun g hg hlt => ⟨hg, heapV (by omega)⟩)
              have hw9 : w8.heap.size ≤ (((((((((w8.setCell ⟨M, 1, none⟩ (.int .i64 yk)).setCell ⟨M, 2, none⟩ (.bool yb)).setCell ⟨M, 3, none⟩ (.bool yd.neg)).setCell ⟨M, 4, none⟩ (.string ⟨yd.digits.toArray⟩)).setCell ⟨M, 5, none⟩ (.int .i64 yd.exp)).setCell ⟨M, 6, none⟩ (.string ⟨ys.toArray⟩)).setCell ⟨M, 7, none⟩ (.slice ya1 yn1 yc1)).setCell ⟨M, 8, none⟩ (.slice ya2 yn2 yc2))).heap.size := by simp [World.setCell]
              go_upto_region 19 with fail
              clear g1 g2 g3 g4 g5 g6 g7 g8 y1 y2 y3 y4 y5 y6 y7 y8
              generalize ((((((((w8.setCell ⟨M, 1, none⟩ (.int .i64 yk)).setCell ⟨M, 2, none⟩ (.bool yb)).setCell ⟨M, 3, none⟩ (.bool yd.neg)).setCell ⟨M, 4, none⟩ (.string ⟨yd.digits.toArray⟩)).setCell ⟨M, 5, none⟩ (.int .i64 yd.exp)).setCell ⟨M, 6, none⟩ (.string ⟨ys.toArray⟩)).setCell ⟨M, 7, none⟩ (.slice ya1 yn1 yc1)).setCell ⟨M, 8, none⟩ (.slice ya2 yn2 yc2)) = w9 at *
              have HP9 := Lib.hid hst9.1
              have HK9 := Lib.hid hst9.2
              replace HMX := Lib.hid hmx9
              replace HV2 := Lib.hid hv9
              have HTV := Lib.hid htv9
              have HRF := Lib.hid hrr
              have b0 := HMX.out.cell 0; have b1 := HMX.out.cell 1; have b2 := HMX.out.cell 2; have b3 := HMX.out.cell 3; have b4 := HMX.out.cell 4; have b5 := HMX.out.cell 5; have b6 := HMX.out.cell 6; have b7 := HMX.out.cell 7; have b8 := HMX.out.cell 8
              simp at b0 b1 b2 b3 b4 b5 b6 b7 b8
              clear hst9 hmx9 hv9 htv9 hrr htv hr
              have y0 := HV2.out.cell 0; have y1 := HV2.out.cell 1; have y2 := HV2.out.cell 2; have y3 := HV2.out.cell 3; have y4 := HV2.out.cell 4; have y5 := HV2.out.cell 5; have y6 := HV2.out.cell 6; have y7 := HV2.out.cell 7; have y8 := HV2.out.cell 8
              have g0 := HV2.out.free 0; have g1 := HV2.out.free 1; have g2 := HV2.out.free 2; have g3 := HV2.out.free 3; have g4 := HV2.out.free 4; have g5 := HV2.out.free 5; have g6 := HV2.out.free 6; have g7 := HV2.out.free 7; have g8 := HV2.out.free 8
              simp at y0 y1 y2 y3 y4 y5 y6 y7 y8
              go_wp2_with fail
              clear b0 b1 b2 b3 b4 b5 b6 b7 b8
              rw [← HRF.out]
              have hV := MAt.store9 HV2.out (.string ⟨key.toArray⟩) (.int .i64 yk) (.bool yb) (.bool yd.neg) (.string ⟨yd.digits.toArray⟩) (.int .i64 yd.exp) (.string ⟨ys.toArray⟩) (.slice ya1 yn1 yc1) (.slice ya2 yn2 yc2)
              have HV := Lib.hid hV
              have v0 := HV.out.cell 0; have v1 := HV.out.cell 1; have v2 := HV.out.cell 2; have v3 := HV.out.cell 3; have v4 := HV.out.cell 4; have v5 := HV.out.cell 5; have v6 := HV.out.cell 6; have v7 := HV.out.cell 7; have v8 := HV.out.cell 8
              simp only [List.getElem?_toArray, List.getElem?_cons_zero, List.getElem?_cons_succ] at v0 v1 v2 v3 v4 v5 v6 v7 v8
              refine bodyPost_ret (v := .agg #[.string ⟨key.toArray⟩, .int .i64 yk, .bool yb, .bool yd.neg, .string ⟨yd.digits.toArray⟩, .int .i64 yd.exp, .string ⟨ys.toArray⟩, .slice ya1 yn1 yc1, .slice ya2 yn2 yc2]) (by simp [results, Tryd.results41, go_sem, v0, v1, v2, v3, v4, v5, v6, v7, v8]) rfl ?_
              have hfin := HP0.out.fresh HP9.out HK9.out (below_store9 (q := S) (Below.refl _ w9) (by rw [HSS.out]; exact Nat.le_refl _) (.string ⟨key.toArray⟩) (.int .i64 yk) (.bool yb) (.bool yd.neg) (.string ⟨yd.digits.toArray⟩) (.int .i64 yd.exp) (.string ⟨ys.toArray⟩) (.slice ya1 yn1 yc1) (.slice ya2 yn2 yc2))
              exact endM_of (c := cellsV yk yb yd ys (.slice ya1 yn1 yc1) (.slice ya2 yn2 yc2)) htp hnp (HTV.out.keep (by simp [World.setCell]) (fun g hg hlt => ⟨by rw [HSS.out]; omega, heap9 (by omega)⟩)) hfin.1 hfin.2
            · have HRF : Hid (.err 2 q3 = R) := Lib.hid (by rw [← HRR.out, if_neg h58])
              refine (is_no p _ xs q3 n1 0 58 w6 HP6.out h58).mono ?_
              rintro e w7 ⟨rfl, hx7⟩
              have HP7 := Lib.hid (HP6.out.ext hx7)
              replace HV2 := Lib.hid (HV2.out.ext hx7)
              replace HMX := Lib.hid (HMX.out.ext hx7)
              replace HKY := Lib.hid (HKY.out.toExt hx7)
              clear hx7 h58
              obtain ⟨c0, c1, c2, c3, f1, f2, f3, hpl⟩ := HP7.out.1.cells
              go_wp2_with fail
              clear c0 c1 c2 c3 f1 f2 f3 hpl
              refine (fail_any p _ xs q3 n1 2 q3 w7 HP7.out hq3l).mono ?_
              rintro e w8 ⟨rfl, hs8, hk8⟩
              have HP8 := Lib.hid hs8
              replace HV2 := Lib.hid (HV2.out.kept hk8 (by omega))
              replace HMX := Lib.hid (HMX.out.kept hk8 (by omega))
              replace HKY := Lib.hid (HKY.out.trans hk8)
              clear hs8 hk8
              have b0 := HMX.out.cell 0; have b1 := HMX.out.cell 1; have b2 := HMX.out.cell 2; have b3 := HMX.out.cell 3; have b4 := HMX.out.cell 4; have b5 := HMX.out.cell 5; have b6 := HMX.out.cell 6; have b7 := HMX.out.cell 7; have b8 := HMX.out.cell 8
              simp at b0 b1 b2 b3 b4 b5 b6 b7 b8
              have y0 := HV2.out.cell 0; have y1 := HV2.out.cell 1; have y2 := HV2.out.cell 2; have y3 := HV2.out.cell 3; have y4 := HV2.out.cell 4; have y5 := HV2.out.cell 5; have y6 := HV2.out.cell 6; have y7 := HV2.out.cell 7; have y8 := HV2.out.cell 8
              have g0 := HV2.out.free 0; have g1 := HV2.out.free 1; have g2 := HV2.out.free 2; have g3 := HV2.out.free 3; have g4 := HV2.out.free 4; have g5 := HV2.out.free 5; have g6 := HV2.out.free 6; have g7 := HV2.out.free 7; have g8 := HV2.out.free 8
              simp at y0 y1 y2 y3 y4 y5 y6 y7 y8
              go_wp2_with fail
              rw [← HRF.out]
              clear b0 b1 b2 b3 b4 b5 b6 b7 b8
              have hV := MAt.store9 HV2.out (.string ⟨key.toArray⟩) (.int .i64 0) (.bool false) (.bool false) (.string ⟨#[]⟩) (.int .i64 0) (.string ⟨#[]⟩) (.slice none 0 0) (.slice none 0 0)
              have HV := Lib.hid hV
              have v0 := HV.out.cell 0; have v1 := HV.out.cell 1; have v2 := HV.out.cell 2; have v3 := HV.out.cell 3; have v4 := HV.out.cell 4; have v5 := HV.out.cell 5; have v6 := HV.out.cell 6; have v7 := HV.out.cell 7; have v8 := HV.out.cell 8
              simp only [List.getElem?_toArray, List.getElem?_cons_zero, List.getElem?_cons_succ] at v0 v1 v2 v3 v4 v5 v6 v7 v8
              refine bodyPost_ret (v := .agg #[.string ⟨key.toArray⟩, .int .i64 0, .bool false, .bool false, .string ⟨#[]⟩, .int .i64 0, .string ⟨#[]⟩, .slice none 0 0, .slice none 0 0]) (by simp [results, Tryd.results41, go_sem, v0, v1, v2, v3, v4, v5, v6, v7, v8]) rfl ?_
              have hfin := HP0.out.fresh HP8.out HKY.out (below_store9 (q := S) (Below.refl _ w8) (by rw [HSS.out]; exact Nat.le_refl _) (.string ⟨key.toArray⟩) (.int .i64 0) (.bool false) (.bool false) (.string ⟨#[]⟩) (.int .i64 0) (.string ⟨#[]⟩) (.slice none 0 0) (.slice none 0 0))
              exact ⟨key, _, _, _, rfl, TV.leaf _ _ 0 false Num.zero [], hfin.1, hfin.2⟩
        · have HRF : Hid (.err 7 b = R) := Lib.hid (by rw [← HRR.out]; exact (if_pos hany).symm)
          have HV2 := Lib.hid (HV.out.kept HKX.out (by omega))
          have HMX := Lib.hid (HM.out.kept HKX.out (by omega))
          have HKY := Lib.hid (HK.out.trans HKX.out)
          have b0 := HMX.out.cell 0; have b1 := HMX.out.cell 1; have b2 := HMX.out.cell 2; have b3 := HMX.out.cell 3; have b4 := HMX.out.cell 4; have b5 := HMX.out.cell 5; have b6 := HMX.out.cell 6; have b7 := HMX.out.cell 7; have b8 := HMX.out.cell 8
          simp at b0 b1 b2 b3 b4 b5 b6 b7 b8
          have y0 := HV2.out.cell 0; have y1 := HV2.out.cell 1; have y2 := HV2.out.cell 2; have y3 := HV2.out.cell 3; have y4 := HV2.out.cell 4; have y5 := HV2.out.cell 5; have y6 := HV2.out.cell 6; have y7 := HV2.out.cell 7; have y8 := HV2.out.cell 8
          have g0 := HV2.out.free 0; have g1 := HV2.out.free 1; have g2 := HV2.out.free 2; have g3 := HV2.out.free 3; have g4 := HV2.out.free 4; have g5 := HV2.out.free 5; have g6 := HV2.out.free 6; have g7 := HV2.out.free 7; have g8 := HV2.out.free 8
          simp at y0 y1 y2 y3 y4 y5 y6 y7 y8
          clear hany
          by_cases hl0 : (k : Int) < acc.length
          · go_wp2_with fail
            rw [← HRF.out]
            clear c0 c1 c2 c3 f1 f2 f3 hpl b0 b1 b2 b3 b4 b5 b6 b7 b8
            have hV := MAt.store9 HV2.out (.string ⟨key.toArray⟩) (.int .i64 0) (.bool false) (.bool false) (.string ⟨#[]⟩) (.int .i64 0) (.string ⟨#[]⟩) (.slice none 0 0) (.slice none 0 0)
            have HV := Lib.hid hV
            have v0 := HV.out.cell 0; have v1 := HV.out.cell 1; have v2 := HV.out.cell 2; have v3 := HV.out.cell 3; have v4 := HV.out.cell 4; have v5 := HV.out.cell 5; have v6 := HV.out.cell 6; have v7 := HV.out.cell 7; have v8 := HV.out.cell 8
            simp only [List.getElem?_toArray, List.getElem?_cons_zero, List.getElem?_cons_succ] at v0 v1 v2 v3 v4 v5 v6 v7 v8
            refine bodyPost_ret (v := .agg #[.string ⟨key.toArray⟩, .int .i64 0, .bool false, .bool false, .string ⟨#[]⟩, .int .i64 0, .string ⟨#[]⟩, .slice none 0 0, .slice none 0 0]) (by simp [results, Tryd.results41, go_sem, v0, v1, v2, v3, v4, v5, v6, v7, v8]) rfl ?_
            have hfin := HP0.out.fresh HPX.out HKY.out (below_store9 (q := S) (Below.refl _ wr) (by rw [HSS.out]; exact Nat.le_refl _) (.string ⟨key.toArray⟩) (.int .i64 0) (.bool false) (.bool false) (.string ⟨#[]⟩) (.int .i64 0) (.string ⟨#[]⟩) (.slice none 0 0) (.slice none 0 0))
            exact ⟨key, _, _, _, rfl, TV.leaf _ _ 0 false Num.zero [], hfin.1, hfin.2⟩
          · go_wp2_with fail
            rw [← HRF.out]
            clear c0 c1 c2 c3 f1 f2 f3 hpl b0 b1 b2 b3 b4 b5 b6 b7 b8
            have hV := MAt.store9 HV2.out (.string ⟨key.toArray⟩) (.int .i64 0) (.bool false) (.bool false) (.string ⟨#[]⟩) (.int .i64 0) (.string ⟨#[]⟩) (.slice none 0 0) (.slice none 0 0)
            have HV := Lib.hid hV
            have v0 := HV.out.cell 0; have v1 := HV.out.cell 1; have v2 := HV.out.cell 2; have v3 := HV.out.cell 3; have v4 := HV.out.cell 4; have v5 := HV.out.cell 5; have v6 := HV.out.cell 6; have v7 := HV.out.cell 7; have v8 := HV.out.cell 8
            simp only [List.getElem?_toArray, List.getElem?_cons_zero, List.getElem?_cons_succ] at v0 v1 v2 v3 v4 v5 v6 v7 v8
            refine bodyPost_ret (v := .agg #[.string ⟨key.toArray⟩, .int .i64 0, .bool false, .bool false, .string ⟨#[]⟩, .int .i64 0, .string ⟨#[]⟩, .slice none 0 0, .slice none 0 0]) (by simp [results, Tryd.results41, go_sem, v0, v1, v2, v3, v4, v5, v6, v7, v8]) rfl ?_
            have hfin := HP0.out.fresh HPX.out HKY.out (below_store9 (q := S) (Below.refl _ wr) (by rw [HSS.out]; exact Nat.le_refl _) (.string ⟨key.toArray⟩) (.int .i64 0) (.bool false) (.bool false) (.string ⟨#[]⟩) (.int .i64 0) (.string ⟨#[]⟩) (.slice none 0 0) (.slice none 0 0))
            exact ⟨key, _, _, _, rfl, TV.leaf _ _ 0 false Num.zero [], hfin.1, hfin.2⟩
  · have HRF : Hid (.err 2 q = R) := Lib.hid (by rw [← HRR.out, textP, if_neg h34])
    refine (is_no p _ xs q n 0 34 w2 HP.out h34).mono ?_
    rintro e w3 ⟨rfl, hx3⟩
    replace HP := Lib.hid (HP.out.ext hx3)
    replace HV := Lib.hid (HV.out.ext hx3)
    replace HK := Lib.hid (HK.out.toExt hx3)
    clear hx3 h34
    go_wp2_with fail
    refine (fail_any p _ xs q n 2 q _ HP.out hql).mono ?_
    rintro e w8 ⟨rfl, hs8, hk8⟩
    have HP8 := Lib.hid hs8
    have HK8 := Lib.hid (HK.out.trans hk8)
    have HV2 := Lib.hid (HV.out.kept hk8 (by omega))
    clear hs8 hk8
    have y0 := HV2.out.cell 0; have y1 := HV2.out.cell 1; have y2 := HV2.out.cell 2; have y3 := HV2.out.cell 3; have y4 := HV2.out.cell 4; have y5 := HV2.out.cell 5; have y6 := HV2.out.cell 6; have y7 := HV2.out.cell 7; have y8 := HV2.out.cell 8
    have g0 := HV2.out.free 0; have g1 := HV2.out.free 1; have g2 := HV2.out.free 2; have g3 := HV2.out.free 3; have g4 := HV2.out.free 4; have g5 := HV2.out.free 5; have g6 := HV2.out.free 6; have g7 := HV2.out.free 7; have g8 := HV2.out.free 8
    simp at y0 y1 y2 y3 y4 y5 y6 y7 y8
    go_wp2_with fail
    rw [← HRF.out]
    have hV := MAt.store9 HV2.out (.string ⟨#[]⟩) (.int .i64 0) (.bool false) (.bool false) (.string ⟨#[]⟩) (.int .i64 0) (.string ⟨#[]⟩) (.slice none 0 0) (.slice none 0 0)
    have HV := Lib.hid hV
    have v0 := HV.out.cell 0; have v1 := HV.out.cell 1; have v2 := HV.out.cell 2; have v3 := HV.out.cell 3; have v4 := HV.out.cell 4; have v5 := HV.out.cell 5; have v6 := HV.out.cell 6; have v7 := HV.out.cell 7; have v8 := HV.out.cell 8
    simp only [List.getElem?_toArray, List.getElem?_cons_zero, List.getElem?_cons_succ] at v0 v1 v2 v3 v4 v5 v6 v7 v8
    refine bodyPost_ret (v := .agg #[.string ⟨#[]⟩, .int .i64 0, .bool false, .bool false, .string ⟨#[]⟩, .int .i64 0, .string ⟨#[]⟩, .slice none 0 0, .slice none 0 0]) (by simp [results, Tryd.results41, go_sem, v0, v1, v2, v3, v4, v5, v6, v7, v8]) rfl ?_
    have hfin := HP0.out.fresh HP8.out HK8.out (below_store9 (q := S) (Below.refl _ w8) (by rw [HSS.out]; exact Nat.le_refl _) (.string ⟨#[]⟩) (.int .i64 0) (.bool false) (.bool false) (.string ⟨#[]⟩) (.int .i64 0) (.string ⟨#[]⟩) (.slice none 0 0) (.slice none 0 0))
    exact ⟨[], _, _, _, rfl, TV.leaf _ _ 0 false Num.zero [], hfin.1, hfin.2⟩
end Go.Proofs.YtckpndbmpigegaaDoor
end

section
/- regions that draw their order, whose rest waits for the first over a chain. -/
set_option linter.unusedVariables false
set_option linter.unusedSimpArgs false
set_option maxRecDepth 100000
namespace Go.GrowS
open Go.Mem Go.RowKit
section
variable {P : Program} {ops : Array Oper} {md : Region.Mode} {G : Nat → World → World → Prop} {E : List PanicEntry → World → Prop} {B : Nat → World → Prop} {anc : Nat → List Nat} {I : Nat → Act → Option (Spec G)}
theorem not_readyF {n i t : Nat} {listed : Array Bool} {wt : Nat → List Nat} (hW : ancOk md ops wt = true) (hwt : ∀ t i, n ≤ t → i < n → t < ops.size → i ∈ wt t) (hi : i < n) (hun : listed.getD i true = false) (ht : n ≤ t) (inv : Closed md ops listed) : t ∉ Region.ready md ops listed := by
  intro hr
  obtain ⟨hun', ot, hot, hall⟩ := mem_ready.1 hr
  have h1 := anc_listed hW inv t ot hot hall i (hwt t i ht hi (Array.getElem?_eq_some_iff.1 hot).1)
  rw [getD_both hun] at h1
  cases h1
theorem anyGL_firstF {n i : Nat} {oi : Oper} {u : Value → Prop} {f : Env → Value → Env} {L : Array Bool → Act → Env → Prop} (hk : Keeps ops I) (hA : ancOk md ops anc = true) (hi : ops[i]? = some oi) (hsel : ∀ (j : Nat) (o : Oper) cs b, ops[j]? = some o → o.op ≠ .select cs b)
    {wt : Nat → List Nat} (hW : ancOk md ops wt = true) (hwt : ∀ t i, n ≤ t → i < n → t < ops.size → i ∈ wt t) (hin : i < n)
    (hdone : ∀ listed a F, L listed a F → ∀ j ∈ Region.ready md ops listed, n ≤ j) :
    ∀ (fuel : Nat) (listed : Array Bool) (a : Act) (F : Env), Closed md ops listed →
      (∀ j oj, ops[j]? = some oj → j ≠ i → listed.getD j true = false → (∀ e ∈ oj.after, Region.binds md e = true → e.on ≠ i) → oi.apart ops oj = true) →
      i ∈ Region.ready md ops listed → Shows P ops G E B anc I i oi a F u f →
      (∀ v, u v → anyGL P md ops G E B anc I n L fuel (listed.setIfInBounds i true) (a.put oi.dst v) (f F v)) → anyGL P md ops G E B anc I n L (fuel + 1) listed a F := by
  intro fuel
  induction fuel with
  | zero =>
    intro listed a F inv _ hr hy H
    have hun := (mem_ready.1 hr).1
    refine ⟨fun h => (by rw [h] at hr; cases hr), fun j hj => ?_⟩
    have hjn : j < n := by
      rcases Nat.lt_or_ge j n with h | h
      · exact h
      · exact absurd hj (not_readyF hW hwt hin hun h inv)
    refine ⟨hjn, ?_⟩
    by_cases hji : j = i
    · subst hji; exact hy.opG hi H
    · obtain ⟨v, hv⟩ := hy.inh
      have := hdone _ _ _ (H v hv) j (ready_mono hj hji)
      omega
  | succ fuel ih =>
    intro listed a F inv hfree hr hy H
    have hun := (mem_ready.1 hr).1
    refine ⟨fun h => (by rw [h] at hr; cases hr), fun j hj => ?_⟩
    have hjn : j < n := by
      rcases Nat.lt_or_ge j n with h | h
      · exact h
      · exact absurd hj (not_readyF hW hwt hin hun h inv)
    refine ⟨hjn, ?_⟩
    by_cases hji : j = i
    · subst hji; exact hy.opG hi H
    · obtain ⟨hjun, oj, hoj, hall⟩ := mem_ready.1 hj
      have hnot : ∀ e ∈ oj.after, Region.binds md e = true → e.on ≠ i := fun e he hb heq => by
        have h1 := hall e he hb
        rw [heq, getD_both hun] at h1
        cases h1
      have h2 := opG_put hk hi (Ne.symm hji) hoj (hfree j oj hoj hji hjun hnot) (fun cs b => hsel i oi cs b hi) (fun cs b => hsel j oj cs b hoj) (anc_not hA inv hr hj) (anc_not hA inv hj hr) hy
        (fun v hv => ((H v hv).2 j (ready_mono hj hji)).2)
      have hfree' : ∀ k ok, ops[k]? = some ok → k ≠ i → (listed.setIfInBounds j true).getD k true = false →
          (∀ e ∈ ok.after, Region.binds md e = true → e.on ≠ i) → oi.apart ops ok = true := fun k ok hk hki hun hno => by
        refine hfree k ok hk hki ?_ hno
        by_cases hjk : j = k
        · subst hjk; exact hjun
        · rw [getD_set_ne true hjk] at hun; exact hun
      refine opG_mono (fun a' F' h3 => ih (listed.setIfInBounds j true) a' F' (inv.set hj) hfree' (ready_mono hr (Ne.symm hji)) h3.1 ?_) h2
      rw [Array.setIfInBounds_comm _ _ hji]
      exact h3.2

theorem anyGL_lexF {n : Nat} {target : Array Bool} {Lq : Act → Env → Prop} (hkk : Keeps ops I) (hA : ancOk md ops anc = true) (hsel : Region.noSelect ops = true) {wt : Nat → List Nat} (hW : ancOk md ops wt = true) (hwt : ∀ t i, n ≤ t → i < n → t < ops.size → i ∈ wt t) (hrd : ∀ j ∈ Region.ready md ops target, n ≤ j) :
    ∀ (l : List Oper) (k : Nat) (listed : Array Bool) (a : Act) (F : Env), (∀ j, j < l.length → l[j]? = ops[k + j]?) → k + l.length = n → Closed md ops listed →
    lexRest md ops target l.length k listed = true → walk P ops G E B anc I Lq l k a F →
    anyGL P md ops G E B anc I n (fun listed' a' F' => listed' = target ∧ Lq a' F') l.length listed a F
  | [], k, listed, a, F, _, hk, _, hB, h => by
    have : k = n := by simpa using hk
    subst this
    exact ⟨by simpa [lexRest] using hB, h⟩
  | o :: l, k, listed, a, F, hl, hk, inv, hB, h => by
    have h0 : ops[k]? = some o := by simpa using (hl 0 (by simp)).symm
    simp only [List.length_cons, lexRest, Bool.and_eq_true] at hB
    obtain ⟨⟨hr, hf⟩, hB'⟩ := hB
    have hkn : k < n := by simp only [List.length_cons] at hk; omega
    have hr' : k ∈ Region.ready md ops listed := by simpa using hr
    obtain ⟨u, f, hy, hK⟩ := shows_of (P := P) (ops := ops) (G := G) (B := B) (anc := anc) (I := I) (K := walk P ops G E B anc I Lq l (k + 1)) h
    exact anyGL_firstF hkk hA h0 (Region.noSelect_spec hsel) hW hwt hkn (fun listed' a' F' hL => (by rw [hL.1]; exact hrd)) l.length listed a F inv (Region.free_spec h0 hf) hr' hy
      (fun v hv => anyGL_lexF hkk hA hsel hW hwt hrd l (k + 1) _ _ _ (fun j hj => by have := hl (j + 1) (by simp; omega); simpa [Nat.add_assoc, Nat.add_comm 1 j] using this) (by simp only [List.length_cons] at hk; omega) (inv.set hr') hB' (hK v hv))

def restTB (md : Region.Mode) (ops : Array Oper) (n : Nat) (wt : Nat → List Nat) (target : Array Bool) : Bool :=
  Region.noSelect ops && decide (n ≤ ops.size) && ((List.range ops.size).all fun t => decide (t < n) || (List.range n).all fun i => (wt t).contains i) && ((Region.ready md ops target).all fun j => decide (n ≤ j)) && lexRest md ops target n 0 (Array.replicate ops.size false) && ancOk md ops wt
theorem wp_region_restTA {id : Nat} {Q : Exit → Act → World → Prop} {a : Act} {w : World} {l : List Oper} (n : Nat) (wt : Nat → List Nat) (target : Array Bool) (hkk : Keeps l.toArray I) (hm : P.follows .mixedOrders = true) (hB : restTB .any l.toArray n wt target = true) (hA : ancOk .any l.toArray anc = true)
    {Inv : Array Bool → World → Prop} (hI0 : InvOk .any l.toArray G B Inv) (hE : ∀ ch a' w, a'.defers = a.defers → E ch w → Q (.panic ch) a' w) (hw : Inv (Array.replicate l.length false) w.drew)
    (h : walk P l.toArray G E B anc I (fun a' F => ∀ w', Inv target w' → (∀ k, F k w') → wpAny P .any l.toArray Q (l.length - n) target a' w') (l.take n) 0 a (fun _ _ => True)) : (Code.region id l.toArray true).wp P Q a w := by
  simp only [restTB, Bool.and_eq_true, decide_eq_true_eq] at hB
  obtain ⟨⟨⟨⟨⟨hsel, hn⟩, hwt0⟩, hrd0⟩, hlex⟩, hW⟩ := hB
  have hn' : n ≤ l.length := by simpa using hn
  have htl : (l.take n).length = n := by simp; omega
  have hrd : ∀ j ∈ Region.ready .any l.toArray target, n ≤ j := fun j hj => by have := List.all_eq_true.1 hrd0 j hj; simpa using this
  have hwt : ∀ t i, n ≤ t → i < n → t < l.toArray.size → i ∈ wt t := fun t i ht hi hts => by
    have h1 := List.all_eq_true.1 hwt0 t (List.mem_range.2 hts)
    simp only [Bool.or_eq_true, decide_eq_true_eq] at h1
    rcases h1 with h1 | h1
    · omega
    · simpa using List.all_eq_true.1 h1 i (List.mem_range.2 hi)
  have inv0 : Closed .any l.toArray (Array.replicate l.toArray.size false) := fun j oj _ hl => (by rw [getD_replicate_false] at hl; cases hl)
  have H := anyGL_lexF (P := P) (G := G) (E := E) (B := B) (anc := anc) (I := I) (md := .any) (target := target) hkk hA hsel hW hwt hrd (l.take n) 0 _ a (fun _ _ => True) (fun j hj => by
    have hj' : j < n := by rw [htl] at hj; exact hj
    simp [hj']) (by simpa using htl) inv0 (by rw [htl]; exact hlex) h
  refine wp_region_any hm ?_
  have := wpAny_of_headG (Q' := Q) (g := l.toArray.size - n) hI0 hE (fun listed a' F' w' hb hf hL => by
    obtain ⟨rfl, h2⟩ := hL
    have := h2 w' hb hf
    simpa using this) _ _ _ (fun _ _ => True) _ rfl (by simpa using hw) (fun _ => trivial) (fun _ _ _ _ _ _ => trivial) H
  rw [htl, show n + (l.toArray.size - n) = l.toArray.size by omega] at this
  exact this
end
section
variable {P : Program} {G : Nat → World → World → Prop} {E : List PanicEntry → World → Prop} {B : Nat → World → Prop} {anc : Nat → List Nat}
/-- as wp_region_restS, but the rest waits for the first n over a chain (wt names them all) -/
theorem wp_region_restT {id : Nat} {Q : Exit → Act → World → Prop} {a : Act} {w : World} {l : List Oper} (sp : Nat) {B0 B1 : World → Prop} {G0 G1 : World → World → Prop} {I : Nat → Option (Spec (gS sp G0 G1))} (n : Nat) (wt : Nat → List Nat) (target : Array Bool) (hm : P.follows .mixedOrders = true) (hB : restTB .any l.toArray n wt target = true) (hA : ancOk .any l.toArray anc = true)
    (hg : unguardedB l.toArray sp = true) (hsp0 : (Array.replicate l.length false).getD sp true = false) (hsp1 : target.getD sp true = true)
    (h00 : ∀ w w', B0 w → G0 w w' → B0 w') (h11 : ∀ w w', B1 w → G0 w w' → B1 w') (h01 : ∀ w w', B0 w → G1 w w' → B1 w') (hE : ∀ ch a' w, a'.defers = a.defers → E ch w → Q (.panic ch) a' w) (hw : B0 w.drew)
    (h : Wk P l.toArray (gS sp G0 G1) E (atS sp B0 B1) anc (fun j _ => I j) (fun a' F => ∀ w', B1 w' → (∀ k, F k w') → wpAny P .any l.toArray Q (l.length - n) target a' w') (l.take n) 0 a (fun _ _ => True)) : (Code.region id l.toArray true).wp P Q a w := by
  refine wp_region_restTA (I := fun j _ => I j) (Inv := invS sp B0 B1) n wt target (fun _ _ _ _ _ _ _ => rfl) hm hB hA (invS_ok hg h00 h11 h01) hE ?_ ?_
  · unfold invS; rw [hsp0]; exact hw
  · have : invS sp B0 B1 target = B1 := by funext w; unfold invS; rw [hsp1]; rfl
    rw [this]; exact h.out
end
end Go.GrowS
end
