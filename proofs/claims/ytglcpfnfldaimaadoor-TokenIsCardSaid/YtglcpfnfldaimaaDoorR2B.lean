/- orangeryref02: what Parse does. -/
import Derived.Test.YtglcpfnfldaimaaDoorR2A
import Derived.Deep.DeepCutAuto
set_option linter.unusedVariables false
set_option linter.unusedSimpArgs false
set_option maxRecDepth 100000
namespace Go.Proofs.YtglcpfnfldaimaaDoor
open Go.RowKit Go.Mem Orange

def tailE (neg : Bool) (all : List UInt8) (exp : Int) (R : List UInt8) : Num × Int :=
  if !(expP R).2.2 || !(expP R).2.1.isEmpty then (Num.zero, 2) else formP neg all (exp + (expP R).1)
def midP (neg : Bool) (u : List UInt8) : Num × Int :=
  if u.takeWhile isDig = [] ∨ (1 < (u.takeWhile isDig).length ∧ u.head? = some 48) then (Num.zero, 2)
  else if (u.dropWhile isDig).head? = some 46 then
    (if (((u.dropWhile isDig).drop 1).takeWhile isDig) = [] then (Num.zero, 2)
     else tailE neg (u.takeWhile isDig ++ ((u.dropWhile isDig).drop 1).takeWhile isDig) (-((((u.dropWhile isDig).drop 1).takeWhile isDig).length : Int)) (((u.dropWhile isDig).drop 1).dropWhile isDig))
  else tailE neg (u.takeWhile isDig) 0 (u.dropWhile isDig)
theorem head_take (u : List UInt8) (h : u.takeWhile isDig ≠ []) : (u.takeWhile isDig).head? = u.head? := by
  cases u with
  | nil => rfl
  | cons c t =>
    rw [List.takeWhile_cons] at h ⊢
    split
    · rfl
    · rename_i h2; rw [if_neg h2] at h; exact absurd rfl h
theorem decP_mid (l : List UInt8) (h : l.length ≤ 1000) : decP l = midP (decide (l.head? = some 45)) (if l.head? = some 45 then l.drop 1 else l) := by
  unfold decP
  rw [if_neg (by omega)]
  simp only
  generalize (if l.head? = some 45 then l.drop 1 else l) = u
  generalize decide (l.head? = some 45) = neg
  by_cases hW : u.takeWhile isDig = []
  · have hm : midP neg u = (Num.zero, 2) := by unfold midP; rw [if_pos (.inl hW)]
    rw [hm, hW]; simp
  · have hh := head_take u hW
    have hW2 : (u.takeWhile isDig).isEmpty = false := by simpa using hW
    rw [hh, hW2]
    by_cases hz : 1 < (u.takeWhile isDig).length ∧ u.head? = some 48
    · have hm : midP neg u = (Num.zero, 2) := by unfold midP; rw [if_pos (.inr hz)]
      rw [hm]; simp [hz.1, hz.2]
    · have hz2 : (decide (1 < (u.takeWhile isDig).length) && decide (u.head? = some 48)) = false := by
        rw [Bool.eq_false_iff]; simpa using hz
      rw [hz2]
      unfold midP
      rw [if_neg (c := u.takeWhile isDig = [] ∨ _) (fun h => h.elim hW hz)]
      by_cases hp : (u.dropWhile isDig).head? = some 46
      · rw [if_pos hp]
        simp only [hp, decide_true, if_true, Bool.true_and]
        by_cases hq : ((u.dropWhile isDig).drop 1).takeWhile isDig = []
        · rw [if_pos hq, hq]; simp
        · have hq2 : (((u.dropWhile isDig).drop 1).takeWhile isDig).isEmpty = false := by simpa using hq
          rw [if_neg hq, hq2]
          simp only [Bool.or_false]
          unfold tailE
          split
          · rfl
          · congr 1; omega
      · rw [if_neg hp]
        simp only [hp, decide_false, if_false, Bool.false_and, Bool.or_false, Bool.false_eq_true]
        unfold tailE
        split
        · rfl
        · simp
theorem run_take (u : List UInt8) : u.take (u.takeWhile isDig).length = u.takeWhile isDig := by
  have h : u.takeWhile isDig ++ u.dropWhile isDig = u := List.takeWhile_append_dropWhile
  have h3 : (u.takeWhile isDig ++ u.dropWhile isDig).take (u.takeWhile isDig).length = u.takeWhile isDig := List.take_left
  rw [h] at h3; exact h3
theorem run_drop (u : List UInt8) : u.drop (u.takeWhile isDig).length = u.dropWhile isDig := by
  have h : u.takeWhile isDig ++ u.dropWhile isDig = u := List.takeWhile_append_dropWhile
  have h3 : (u.takeWhile isDig ++ u.dropWhile isDig).drop (u.takeWhile isDig).length = u.dropWhile isDig := List.drop_left
  rw [h] at h3; exact h3
theorem run_le (u : List UInt8) : (u.takeWhile isDig).length ≤ u.length := (List.takeWhile_sublist (p := isDig) (l := u)).length_le

theorem expP_not (R : List UInt8) (h : (R.head?.map isE).getD false = false) : expP R = (0, R, true) := by
  cases R with
  | nil => rfl
  | cons c t =>
    have h' : isE c = false := by simpa using h
    simp [expP, h']
theorem expP_yes (c : UInt8) (t v : List UInt8) (h : isE c = true) (hv : (if t.head? = some 45 ∨ t.head? = some 43 then t.drop 1 else t) = v) : expP (c :: t) = (if t.head? = some 45 then - small (v.takeWhile isDig) 0 else small (v.takeWhile isDig) 0, v.dropWhile isDig, !(v.takeWhile isDig).isEmpty) := by
  subst hv; simp only [expP, h, if_true]
theorem isE_nots (c : UInt8) (h : isE c = false) : ((c.toNat : Int) == 101) = false ∧ ((c.toNat : Int) == 69) = false := by
  unfold isE at h; simp at h ⊢; omega
theorem isE_split (c : UInt8) (h : isE c = true) : ((c.toNat : Int) == 101) = true ∨ (((c.toNat : Int) == 101) = false ∧ ((c.toNat : Int) == 69) = true) := by
  unfold isE at h; simp at h ⊢; omega
-- an early end: an error of the form
set_option maxHeartbeats 6400000 in
theorem r2parse_any (l : List UInt8) (w : World) (hl : l.length ≤ 140737488355328) :
    Calls Tryd.prog 27 #[.string ⟨l.toArray⟩] w fun e w' => e = .returned (.tuple #[.agg #[.bool (decP l).1.neg, .string ⟨(decP l).1.digits.toArray⟩, .int .i64 (decP l).1.exp], .int .i64 (decP l).2]) ∧ Ext w w' := by
  have hn0 := NumAt.new w Num.zero
  have hw0 : Ext w (w.alloc (.cells #[.bool false, .string ⟨#[]⟩, .int .i64 0] 28)) := (ext_refl w).alloc (Nat.le_refl _) _
  simp only [Num.zero] at hn0
  by_cases h1000 : 1000 < l.length
  · have hP : decP l = (Num.zero, 4) := by rw [decP, if_pos h1000]
    have HP := Lib.hid hP
    clear hP
    obtain ⟨c0, c1, c2, f0, f1, f2, hp⟩ := hn0.cells
    go_enter Tryd.func27, Tryd.ntmps27
    go_wp2_with fail
    exact bodyPost_ret (v := .tuple #[.agg #[.bool false, .string ⟨#[]⟩, .int .i64 0], .int .i64 4]) (by simp [results, Tryd.results27, go_sem, c0, c1, c2]) rfl ⟨by rw [HP.out]; rfl, hw0⟩
  · have hP := Lib.hid (decP_mid l (by omega))
    have hd1000 : decide (1000 < (l.length : Int)) = false := by simp; omega
    go_enter Tryd.func27, Tryd.ntmps27
    go_upto_region 3 with fail
    generalize w.alloc (.cells #[.bool false, .string ⟨#[]⟩, .int .i64 0] 28) = w1 at *
    have HN := Lib.hid hn0
    clear hn0
    -- s != "" && s[0] == 45 ( in words of bytes), s = l : into slot 4
    go_cut [4] (fun s4 wx => s4 = .bool (decide ((l).head? = some 45)) ∧ w1 = wx)
    case first =>
      clear hP
      cases l with
      | nil =>
        go_wp2_with fail
        go_meet
        exact ⟨rfl, rfl⟩
      | cons c t =>
        have h0 : ∀ h, (ByteArray.mk (c :: t).toArray)[0]'h = c := fun _ => rfl
        by_cases hc : c = 45
        · have hq := b_eq c 45 45 rfl hc
          have HC := Lib.hid hc
          clear hc
          go_wp2_with fail
          go_meet
          exact ⟨by rw [HC.out]; rfl, rfl⟩
        · have hq := b_ne c 45 45 rfl hc
          have HC := Lib.hid hc
          clear hc
          go_wp2_with fail
          go_meet
          exact ⟨by have : decide ((c :: t).head? = some 45) = false := by simpa using HC.out
                    rw [this], rfl⟩
    case rest =>
      obtain ⟨rfl, rfl⟩ := hcut
      go_upto_if 21 with fail
      have hul : (if l.head? = some 45 then l.drop 1 else l).length ≤ 1000 := by split <;> (try simp) <;> omega
      have hP1 := hP.out
      obtain ⟨neg, hneg⟩ : ∃ b, decide (l.head? = some 45) = b := ⟨_, rfl⟩
      rw [hneg] at hP1 ⊢
      have HNEG := Lib.hid hneg
      clear hP hneg
      go_cut [0] (fun s0 wx => s0 = .string ⟨(if l.head? = some 45 then l.drop 1 else l).toArray⟩ ∧ w1 = wx)
      case first =>
        clear hP1 hul
        cases neg with
        | true =>
          obtain ⟨u, rfl⟩ : ∃ u, l = 45 :: u := by
            have hm := HNEG.out
            cases l with | nil => simp at hm | cons x u => exact ⟨u, by simp at hm; rw [hm]⟩
          have hd := drop1 45 u (u.length + 1) rfl
          go_wp2_with fail
          go_meet
          exact ⟨rfl, rfl⟩
        | false =>
          go_wp2_with fail
          go_meet
          exact ⟨by rw [if_neg (by have := HNEG.out; simpa using this)], rfl⟩
      case rest =>
        obtain ⟨rfl, rfl⟩ := hcut
        clear HNEG
        generalize (if l.head? = some 45 then l.drop 1 else l) = u at *
        have HP := Lib.hid hP1
        clear hP1 h1000 hd1000
        go_wp2_with fail
        refine (r2run_any u _ (by omega)).mono ?_
        rintro e w2 ⟨rfl, hw2⟩
        have hE := ext_trans hw0 hw2
        have HN2 := Lib.hid (HN.out.ext hw2)
        clear hw2 hw0 HN
        obtain ⟨W, hW⟩ : ∃ s, u.takeWhile isDig = s := ⟨_, rfl⟩
        obtain ⟨R, hR⟩ : ∃ s, u.dropWhile isDig = s := ⟨_, rfl⟩
        have hWl := run_le u
        have hRl := drop_le u
        have hx1 := sx_take u (u.takeWhile isDig).length
        rw [run_take] at hx1
        have hx2 := sx_drop u (u.takeWhile isDig).length u.length (Nat.le_refl _)
        rw [run_drop] at hx2
        have hM : midP neg u = if W = [] ∨ (1 < W.length ∧ u.head? = some 48) then (Num.zero, 2)
          else if R.head? = some 46 then
            (if (R.drop 1).takeWhile isDig = [] then (Num.zero, 2)
             else tailE neg (W ++ (R.drop 1).takeWhile isDig) (-(((R.drop 1).takeWhile isDig).length : Int)) ((R.drop 1).dropWhile isDig))
          else tailE neg W 0 R := by rw [← hW, ← hR]; rfl
        rw [hW] at hWl hx1 hx2 ⊢
        rw [hR] at hRl hx2
        have hWd : ∀ c ∈ W, isDig c = true := by rw [← hW]; exact take_all u
        have HP2 := Lib.hid (HP.out.trans hM)
        have HWD := Lib.hid hWd
        clear hM hWd HP hW hR
        go_upto_region 7 with fail
        go_cut [36] (fun s36 wx => s36 = .bool (decide (W = [] ∨ (1 < W.length ∧ u.head? = some 48))) ∧ w2 = wx)
        case first =>
          clear HP2
          cases W with
          | nil =>
            go_wp2_with fail
            go_meet
            exact ⟨rfl, rfl⟩
          | cons a W =>
            cases u with
            | nil => simp at hWl
            | cons c t =>
              have h0 : ∀ h, (ByteArray.mk (c :: t).toArray)[0]'h = c := fun _ => rfl
              have hne : (((W.length : Int) + 1) == 0) = false := by simp; omega
              by_cases h1 : 0 < W.length
              · by_cases hc : c = 48
                · have hq := b_eq c 48 48 rfl hc
                  have HC := Lib.hid hc
                  clear hc
                  go_wp2_with fail
                  go_meet
                  exact ⟨by rw [HC.out]; simp [h1], rfl⟩
                · have hq := b_ne c 48 48 rfl hc
                  have HC := Lib.hid hc
                  clear hc
                  go_wp2_with fail
                  go_meet
                  exact ⟨by have := HC.out; simp [this], rfl⟩
              · have h2 : W.length = 0 := by omega
                go_wp2_with fail
                go_meet
                exact ⟨by simp [h1, h2], rfl⟩
        case rest =>
          obtain ⟨rfl, rfl⟩ := hcut
          by_cases hz : W = [] ∨ (1 < W.length ∧ u.head? = some 48)
          · have HF : Hid (decP l = (Num.zero, 2)) := Lib.hid (by rw [HP2.out, if_pos hz])
            have hz2 : decide (W = [] ∨ (1 < W.length ∧ u.head? = some 48)) = true := by simpa using hz
            rw [hz2]
            clear HP2 hz hz2
            obtain ⟨c0, c1, c2, f0, f1, f2, hp⟩ := HN2.out.cells
            go_wp2_with fail
            have hN := (HN2.out.store Num.zero).cells
            simp only [Num.zero] at hN
            obtain ⟨d0, d1, d2, _⟩ := hN
            exact bodyPost_ret (v := .tuple #[.agg #[.bool false, .string ⟨#[]⟩, .int .i64 0], .int .i64 2]) (by simp [results, Tryd.results27, go_sem, d0, d1, d2]) rfl ⟨by rw [HF.out]; rfl, below_store hE (Nat.le_refl _) _ _ _⟩
          · have hz2 : decide (W = [] ∨ (1 < W.length ∧ u.head? = some 48)) = false := by simpa using hz
            have HP3 := Lib.hid (HP2.out.trans (if_neg hz))
            have HW0 : Hid (W ≠ []) := Lib.hid (fun e => hz (.inl e))
            rw [hz2]
            clear HP2 hz hz2
            go_upto_region 12 with fail
            go_cut [50] (fun s50 wx => s50 = .bool (decide (R.head? = some 46)) ∧ w2 = wx)
            case first =>
              clear HP3
              cases R with
              | nil =>
                go_wp2_with fail
                go_meet
                exact ⟨rfl, rfl⟩
              | cons c t =>
                have h0 : ∀ h, (ByteArray.mk (c :: t).toArray)[0]'h = c := fun _ => rfl
                by_cases hc : c = 46
                · have hq := b_eq c 46 46 rfl hc
                  have HC := Lib.hid hc
                  clear hc
                  go_wp2_with fail
                  go_meet
                  exact ⟨by rw [HC.out]; rfl, rfl⟩
                · have hq := b_ne c 46 46 rfl hc
                  have HC := Lib.hid hc
                  clear hc
                  go_wp2_with fail
                  go_meet
                  exact ⟨by have : decide ((c :: t).head? = some 46) = false := by simpa using HC.out
                            rw [this], rfl⟩
            case rest =>
              obtain ⟨rfl, rfl⟩ := hcut
              go_upto_if 50 with fail
              obtain ⟨pt, hpt⟩ : ∃ b, decide (R.head? = some 46) = b := ⟨_, rfl⟩
              rw [hpt]
              have HPT := Lib.hid hpt
              clear hpt
              go_cut [0, 5, 6, 7] (fun s0 s5 s6 s7 wx => ∃ (R2 all : List UInt8) (x n : Int), s0 = .string ⟨R2.toArray⟩ ∧ s5 = .int .i64 n ∧ s6 = .string ⟨all.toArray⟩ ∧ s7 = .int .i64 x ∧ Ext w wx ∧ NumAt wx w.heap.size Num.zero ∧ R2.length ≤ 1000 ∧ all.length ≤ 2000 ∧ -1000 ≤ x ∧ x ≤ 0 ∧ decP l = tailE neg all x R2)
              case first =>
                cases pt with
                | false =>
                  have HP4 := HP3.out
                  rw [if_neg (by have := HPT.out; simpa using this)] at HP4
                  have HP5 := Lib.hid HP4
                  clear HP4 HP3 HPT
                  go_wp2_with fail
                  go_meet
                  exact ⟨R, W, 0, _, rfl, rfl, rfl, rfl, hE, HN2.out, by omega, by omega, by omega, by omega, HP5.out⟩
                | true =>
                  have HP4 := HP3.out
                  have hR46 : R.head? = some 46 := by have := HPT.out; simpa using this
                  rw [if_pos hR46] at HP4
                  obtain ⟨B, rfl⟩ : ∃ B, R = 46 :: B := by cases R with | nil => simp at hR46 | cons x B => exact ⟨B, by simp at hR46; rw [hR46]⟩
                  simp only [List.drop_succ_cons, List.drop_zero] at HP4
                  have hd := drop1 46 B (B.length + 1) rfl
                  have HP5 := Lib.hid HP4
                  have hBl : B.length < 1000 := by simp at hRl; omega
                  clear HP4 HP3 HPT hR46
                  go_wp2_with fail
                  refine (r2run_any B _ (by omega)).mono ?_
                  rintro e w3 ⟨rfl, hw3⟩
                  have hE3 := ext_trans hE hw3
                  have HN3 := Lib.hid (HN2.out.ext hw3)
                  clear hw3
                  have hPl := run_le B
                  have hSl := drop_le B
                  have hx3 : ByteArray.extract ⟨(46 :: B).toArray⟩ 1 (1 + (B.takeWhile isDig).length) = ⟨(B.takeWhile isDig).toArray⟩ := by
                    rw [Nat.add_comm, sx_mid, List.take_succ_cons, List.drop_succ_cons, List.drop_zero, run_take]
                  have hx4 : ByteArray.extract ⟨(46 :: B).toArray⟩ (1 + (B.takeWhile isDig).length) (B.length + 1) = ⟨(B.dropWhile isDig).toArray⟩ := by
                    rw [Nat.add_comm, sx_drop _ _ _ (by simp), List.drop_succ_cons, run_drop]
                  obtain ⟨P, hP⟩ : ∃ s, B.takeWhile isDig = s := ⟨_, rfl⟩
                  obtain ⟨S, hS⟩ : ∃ s, B.dropWhile isDig = s := ⟨_, rfl⟩
                  have HP6 := HP5.out
                  rw [hP, hS] at HP6
                  rw [hP] at hPl hx3 hx4 ⊢
                  rw [hS] at hSl hx4
                  clear hP hS HP5
                  by_cases hP0 : P = []
                  · rw [if_pos hP0] at HP6
                    have HF := Lib.hid HP6
                    subst hP0
                    clear HP6 hx3 hx4
                    obtain ⟨c0, c1, c2, f0, f1, f2, hp⟩ := HN3.out.cells
                    go_wp2_with fail
                    have hN := (HN3.out.store Num.zero).cells
                    simp only [Num.zero] at hN
                    obtain ⟨d0, d1, d2, _⟩ := hN
                    exact bodyPost_ret (v := .tuple #[.agg #[.bool false, .string ⟨#[]⟩, .int .i64 0], .int .i64 2]) (by simp [results, Tryd.results27, go_sem, d0, d1, d2]) rfl ⟨by rw [HF.out]; rfl, below_store hE3 (Nat.le_refl _) _ _ _⟩
                  · rw [if_neg hP0] at HP6
                    have HF := Lib.hid HP6
                    have hPz : ((P.length : Int) == 0) = false := by
                      have : P.length ≠ 0 := fun e => hP0 (List.eq_nil_of_length_eq_zero e)
                      simp; omega
                    have happ := sx_app W P
                    clear HP6 hP0
                    go_wp2_with fail
                    go_meet
                    exact ⟨S, W ++ P, -(P.length : Int), _, by rw [hx4], rfl, rfl, by go_num, hE3, HN3.out, by omega, by simp; omega, by omega, by omega, HF.out⟩
              case rest =>
                obtain ⟨R2, all, x, n, rfl, rfl, rfl, rfl, hE3, hn3, hR2, hall, hx1', hx2', hP4⟩ := hcut
                have HN3 := Lib.hid hn3
                have HP4 := Lib.hid hP4
                clear hn3 hP4 HPT HP3 hx1 hx2 HN2 hE hRl hWl hul HW0 HWD
                go_upto_region 19 with fail
                go_cut [80] (fun s80 wx => s80 = .bool ((R2.head?.map isE).getD false) ∧ wc = wx)
                case first =>
                  clear HP4
                  cases R2 with
                  | nil =>
                    go_wp2_with fail
                    go_meet
                    exact ⟨rfl, rfl⟩
                  | cons c t =>
                    have h0 : ∀ h, (ByteArray.mk (c :: t).toArray)[0]'h = c := fun _ => rfl
                    cases he : isE c with
                    | true =>
                      have HC := Lib.hid he
                      rcases isE_split c he with q1 | ⟨q1, q2⟩
                      · clear he
                        go_wp2_with fail
                        go_meet
                        exact ⟨by have := HC.out; simp [this], rfl⟩
                      · clear he
                        go_wp2_with fail
                        go_meet
                        exact ⟨by have := HC.out; simp [this], rfl⟩
                    | false =>
                      have HC := Lib.hid he
                      obtain ⟨q1, q2⟩ := isE_nots c he
                      clear he
                      go_wp2_with fail
                      go_meet
                      exact ⟨by have := HC.out; simp [this], rfl⟩
                case rest =>
                  obtain ⟨rfl, rfl⟩ := hcut
                  go_upto_if 80 with fail
                  obtain ⟨eb, heb⟩ : ∃ b, (R2.head?.map isE).getD false = b := ⟨_, rfl⟩
                  rw [heb]
                  have HEB := Lib.hid heb
                  clear heb
                  go_cut [0, 5, 7, 8, 9] (fun s0 s5 s7 s8 s9 wx => ∃ (R3 : List UInt8) (y : Int), s0 = .string ⟨R3.toArray⟩ ∧ s7 = .int .i64 y ∧ Ext w wx ∧ NumAt wx w.heap.size Num.zero ∧ -2000000 ≤ y ∧ y ≤ 2000000 ∧ decP l = if R3 = [] then formP neg all y else (Num.zero, 2))
                  case first =>
                    cases eb with
                    | false =>
                      have HP5 : Hid (decP l = if R2 = [] then formP neg all x else (Num.zero, 2)) := Lib.hid (by
                        rw [HP4.out, tailE, expP_not R2 HEB.out]
                        by_cases h : R2 = [] <;> simp [h])
                      clear HP4 HEB
                      go_wp2_with fail
                      go_meet
                      exact ⟨R2, x, rfl, rfl, hE3, HN3.out, by omega, by omega, HP5.out⟩
                    | true =>
                      obtain ⟨c, t, rfl, he⟩ : ∃ c t, R2 = c :: t ∧ isE c = true := by
                        have h := HEB.out
                        cases R2 with
                        | nil => simp at h
                        | cons c t => exact ⟨c, t, rfl, by simpa using h⟩
                      have HEC := Lib.hid he
                      have hd := drop1 c t (t.length + 1) rfl
                      have htl : t.length < 1000 := by simp at hR2; omega
                      clear he HEB
                      go_upto_region 21 with fail
                      go_cut [8] (fun s8 wx => s8 = .bool (decide (t.head? = some 45)) ∧ wc = wx)
                      case first =>
                        clear HP4 HEC
                        cases t with
                        | nil =>
                          go_wp2_with fail
                          go_meet
                          exact ⟨rfl, rfl⟩
                        | cons c t =>
                          have h0 : ∀ h, (ByteArray.mk (c :: t).toArray)[0]'h = c := fun _ => rfl
                          by_cases hc : c = 45
                          · have hq := b_eq c 45 45 rfl hc
                            have HC := Lib.hid hc
                            clear hc
                            go_wp2_with fail
                            go_meet
                            exact ⟨by rw [HC.out]; rfl, rfl⟩
                          · have hq := b_ne c 45 45 rfl hc
                            have HC := Lib.hid hc
                            clear hc
                            go_wp2_with fail
                            go_meet
                            exact ⟨by have : decide ((c :: t).head? = some 45) = false := by simpa using HC.out
                                      rw [this], rfl⟩
                      case rest =>
                        obtain ⟨rfl, rfl⟩ := hcut
                        go_upto_region 22 with fail
                        go_cut [101] (fun s101 wx => s101 = .bool (decide (t.head? = some 45 ∨ t.head? = some 43)) ∧ wc = wx)
                        case first =>
                          clear HP4 HEC
                          cases t with
                          | nil =>
                            go_wp2_with fail
                            go_meet
                            exact ⟨rfl, rfl⟩
                          | cons c t =>
                            have h0 : ∀ h, (ByteArray.mk (c :: t).toArray)[0]'h = c := fun _ => rfl
                            by_cases hc : c = 45
                            · have hq := b_eq c 45 45 rfl hc
                              have HC := Lib.hid hc
                              clear hc
                              go_wp2_with fail
                              go_meet
                              exact ⟨by have := HC.out; simp [this], rfl⟩
                            · have hq := b_ne c 45 45 rfl hc
                              have HC := Lib.hid hc
                              clear hc
                              by_cases hc : c = 43
                              · have hq := b_eq c 43 43 rfl hc
                                have HC2 := Lib.hid hc
                                clear hc
                                go_wp2_with fail
                                go_meet
                                exact ⟨by have := HC2.out; simp [this], rfl⟩
                              · have hq := b_ne c 43 43 rfl hc
                                have HC2 := Lib.hid hc
                                clear hc
                                go_wp2_with fail
                                go_meet
                                exact ⟨by have := HC.out; have := HC2.out; simp [*], rfl⟩
                        case rest =>
                          obtain ⟨rfl, rfl⟩ := hcut
                          go_upto_if 101 with fail
                          obtain ⟨sb, hsb⟩ : ∃ b, decide (t.head? = some 45 ∨ t.head? = some 43) = b := ⟨_, rfl⟩
                          obtain ⟨ls, hls⟩ : ∃ b, decide (t.head? = some 45) = b := ⟨_, rfl⟩
                          rw [hsb, hls]
                          have hPL : Hid (∀ v, (if t.head? = some 45 ∨ t.head? = some 43 then t.drop 1 else t) = v → decP l = if !(!(v.takeWhile isDig).isEmpty) || !(v.dropWhile isDig).isEmpty then (Num.zero, 2) else formP neg all (x + (if ls = true then - small (v.takeWhile isDig) 0 else small (v.takeWhile isDig) 0))) := Lib.hid (fun v hv => by
                            rw [HP4.out, tailE, expP_yes c t v HEC.out hv]
                            simp only
                            have e : (t.head? = some 45) = (ls = true) := by rw [← hls]; simp
                            simp only [e])
                          have HSB := Lib.hid hsb
                          clear HP4 HEC hsb hls
                          go_cut [0] (fun s0 wx => ∃ v : List UInt8, s0 = .string ⟨v.toArray⟩ ∧ v.length ≤ 1000 ∧ (if t.head? = some 45 ∨ t.head? = some 43 then t.drop 1 else t) = v ∧ wc = wx)
                          case first =>
                            clear hPL
                            cases sb with
                            | true =>
                              have h := HSB.out
                              cases t with
                              | nil => simp at h
                              | cons a v =>
                                have hd := drop1 a v (v.length + 1) rfl
                                have hq : (a :: v).head? = some 45 ∨ (a :: v).head? = some 43 := by simpa using h
                                have HQ := Lib.hid hq
                                clear h hq HSB
                                go_wp2_with fail
                                go_meet
                                exact ⟨v, rfl, by simp at htl; omega, by rw [if_pos HQ.out]; rfl, rfl⟩
                            | false =>
                              go_wp2_with fail
                              go_meet
                              exact ⟨t, rfl, by omega, by rw [if_neg (by have := HSB.out; simpa using this)], rfl⟩
                          case rest =>
                            obtain ⟨v, rfl, hvl, hv, rfl⟩ := hcut
                            have HP6 := Lib.hid (hPL.out v hv)
                            clear hPL HSB hv hd htl
                            go_wp2_with fail
                            refine (r2run_any v _ (by omega)).mono ?_
                            rintro e w5 ⟨rfl, hw5⟩
                            have hE5 := ext_trans hE3 hw5
                            have HN5 := Lib.hid (HN3.out.ext hw5)
                            clear hw5 HN3
                            have hPl := run_le v
                            have hSl := drop_le v
                            have hx1 := sx_take v (v.takeWhile isDig).length
                            rw [run_take] at hx1
                            have hx2 := sx_drop v (v.takeWhile isDig).length v.length (Nat.le_refl _)
                            rw [run_drop] at hx2
                            have hWd := take_all v
                            obtain ⟨P, hP⟩ : ∃ s, v.takeWhile isDig = s := ⟨_, rfl⟩
                            obtain ⟨S, hS⟩ : ∃ s, v.dropWhile isDig = s := ⟨_, rfl⟩
                            have HP7 := HP6.out
                            rw [hP, hS] at HP7
                            rw [hP] at hPl hx1 hx2 hWd ⊢
                            rw [hS] at hSl hx2
                            clear hP hS HP6
                            by_cases hP0 : P = []
                            · subst hP0
                              have HF : Hid (decP l = (Num.zero, 2)) := Lib.hid HP7
                              clear HP7 hx1 hx2 hWd
                              obtain ⟨c0, c1, c2, f0, f1, f2, hp⟩ := HN5.out.cells
                              go_wp2_with fail
                              have hN := (HN5.out.store Num.zero).cells
                              simp only [Num.zero] at hN
                              obtain ⟨d0, d1, d2, _⟩ := hN
                              exact bodyPost_ret (v := .tuple #[.agg #[.bool false, .string ⟨#[]⟩, .int .i64 0], .int .i64 2]) (by simp [results, Tryd.results27, go_sem, d0, d1, d2]) rfl ⟨by rw [HF.out]; rfl, below_store hE5 (Nat.le_refl _) _ _ _⟩
                            · have hPe : P.isEmpty = false := by simpa using hP0
                              rw [hPe] at HP7
                              have hPz : ((P.length : Int) == 0) = false := by
                                have : P.length ≠ 0 := fun e => hP0 (List.eq_nil_of_length_eq_zero e)
                                simp; omega
                              have HP8 : Hid (decP l = if S = [] then formP neg all (x + (if ls = true then - small P 0 else small P 0)) else (Num.zero, 2)) := Lib.hid (by
                                rw [HP7]; by_cases h : S = [] <;> simp [h])
                              have HWD := Lib.hid hWd
                              clear HP7 hP0 hPe hWd
                              go_wp2_with fail
                              refine (r2small_any P _ (by omega) HWD.out).mono ?_
                              rintro e w6 ⟨rfl, hw6⟩
                              obtain ⟨hb1, hb2⟩ := small_bd P 0 HWD.out (by omega) (by omega)
                              have hE6 := ext_trans hE5 hw6
                              have HN6 := Lib.hid (HN5.out.ext hw6)
                              generalize small P 0 = z at *
                              clear hw6 HN5 hE5
                              cases ls with
                              | true =>
                                go_wp2_with fail
                                go_meet
                                exact ⟨S, x + -z, by first | rfl | rw [hx2], by go_num, hE6, HN6.out, by omega, by omega, HP8.out⟩
                              | false =>
                                go_wp2_with fail
                                go_meet
                                exact ⟨S, x + z, by first | rfl | rw [hx2], by go_num, hE6, HN6.out, by omega, by omega, HP8.out⟩
                  case rest =>
                    obtain ⟨R3, y, rfl, rfl, hE4, hn4, hy1, hy2, hP5⟩ := hcut
                    have HN4 := Lib.hid hn4
                    have HP5 := Lib.hid hP5
                    clear hn4 hP5 HP4 HEB HN3 hE3
                    by_cases hR3 : R3 = []
                    · have HP6 : Hid (decP l = toldP (formR neg all y)) := Lib.hid (by rw [HP5.out, if_pos hR3, formP_told])
                      subst hR3
                      clear HP5
                      go_wp2_with fail
                      refine (r2form_any neg all y _ (by omega) (by omega) (by omega)).mono ?_
                      rintro e w7 ⟨rfl, hw7⟩
                      have hE7 := ext_trans hE4 hw7
                      have hn7 := HN4.out.ext hw7
                      have hfl : (formR neg all y).digits.length ≤ 2000 := by
                        unfold formR shortR
                        have h1 := trimL0_le all
                        have h2 := trimR0_le (trimL0 all)
                        split
                        · simp [Num.zero]
                        · simp only; omega
                      generalize formR neg all y = F at *
                      clear hw7 HN4 hE4
                      go_wp2_with fail
                      refine (r2told_any F _ (by omega)).mono ?_
                      rintro e w8 ⟨rfl, hw8⟩
                      have hE8 := ext_trans hE7 hw8
                      have HN8 := Lib.hid (hn7.ext hw8)
                      obtain ⟨c0, c1, c2, f0, f1, f2, hp⟩ := HN8.out.cells
                      obtain ⟨T, hT⟩ : ∃ T, toldP F = T := ⟨_, rfl⟩
                      rw [hT] at HP6 ⊢
                      obtain ⟨⟨tn, td, te⟩, er⟩ := T
                      clear hT hw8 hn7
                      go_wp2_with fail
                      have hN := (HN8.out.store ⟨tn, td, te⟩).cells
                      simp only at hN
                      obtain ⟨d0, d1, d2, _⟩ := hN
                      exact bodyPost_ret (v := .tuple #[.agg #[.bool tn, .string ⟨td.toArray⟩, .int .i64 te], .int .i64 er]) (by simp [results, Tryd.results27, go_sem, d0, d1, d2]) rfl ⟨by rw [HP6.out], below_store hE8 (Nat.le_refl _) _ _ _⟩
                    · have HF := Lib.hid (HP5.out.trans (if_neg hR3))
                      have hre : R3.isEmpty = false := by simpa using hR3
                      clear HP5 hR3
                      obtain ⟨c0, c1, c2, f0, f1, f2, hp⟩ := HN4.out.cells
                      go_wp2_with fail
                      have hN := (HN4.out.store Num.zero).cells
                      simp only [Num.zero] at hN
                      obtain ⟨d0, d1, d2, _⟩ := hN
                      exact bodyPost_ret (v := .tuple #[.agg #[.bool false, .string ⟨#[]⟩, .int .i64 0], .int .i64 2]) (by simp [results, Tryd.results27, go_sem, d0, d1, d2]) rfl ⟨by rw [HF.out]; rfl, below_store hE4 (Nat.le_refl _) _ _ _⟩
end Go.Proofs.YtglcpfnfldaimaaDoor
