/- TokenNumbers: digits, with a sign ahead or not, are a Number of them, whole; two points behind it are a Sign: whatever the input, the law returns true and the input reads as it did. No condition. -/
import Derived.Test.YtglcpfnfldaimaaDoorRows
import Derived.Test.YtglcpfnfldaimaaDoorCards
import Derived.Test.YtglcpfnfldaimaaDoorTie
import Derived.Test.YtglcpfnfldaimaaDoorTokW
import Derived.Test.YtglcpfnfldaimaaDoorTokN
import Derived.Test.YtglcpfnfldaimaaDoorFrame
import Derived.ProofKit
import Derived.SizedLaws
import Derived.OpenShut
import Derived.Lay
import Derived.LaidMore
import Derived.SevenTiedAt
import Derived.IntWalk
import Derived.Laws.BitsLemmas
set_option linter.unusedVariables false
set_option linter.unusedSimpArgs false
set_option maxRecDepth 100000
namespace Go.Proofs.YtglcpfnfldaimaaDoor.tokenNumbers
open Go.ChangeShapes Go.WideShapes Go.ChangeAt Go.RowKit Go.Mem Orange

theorem i64_and16 (n : Int) : bits .and .i64 n 65535 = n % 65536 := by
  have h127 : (BitVec.ofInt 64 65535).toNat = 2 ^ 16 - 1 := by decide
  have key : (BitVec.ofInt 64 n &&& BitVec.ofInt 64 65535).toNat = (n % ((2 ^ 64 : Nat) : Int)).toNat % 2 ^ 16 := by
    rw [BitVec.toNat_and, BitVec.toNat_ofInt, h127, Nat.and_two_pow_sub_one_eq_mod]
  show IntKind.i64.wrap ((BitVec.ofInt 64 n &&& BitVec.ofInt 64 65535).toNat : Nat) = n % 65536
  rw [key, IntKind.wrap_i64]
  omega
theorem pick (a : Int) : ∃ p : Nat, bits .and .i64 a 65535 = p ∧ p < 65536 := by
  exact ⟨(a % 65536).toNat, by rw [i64_and16]; omega, by omega⟩
theorem figs_cut (d : Nat) (h : d < 10) : ByteArray.extract ⟨#[48, 49, 50, 51, 52, 53, 54, 55, 56, 57]⟩ d (d + 1) = ⟨[UInt8.ofNat (48 + d)].toArray⟩ := by
  have : d = 0 ∨ d = 1 ∨ d = 2 ∨ d = 3 ∨ d = 4 ∨ d = 5 ∨ d = 6 ∨ d = 7 ∨ d = 8 ∨ d = 9 := by omega
  rcases this with rfl | rfl | rfl | rfl | rfl | rfl | rfl | rfl | rfl | rfl <;> rfl
theorem figs_dig (d : Nat) (h : d < 10) : isDig (UInt8.ofNat (48 + d)) = true := by
  have : ∀ d : Fin 10, isDig (UInt8.ofNat (48 + d.val)) = true := by decide
  exact this ⟨d, h⟩

def strLen (v : Value) : Nat := match v with | .string b => b.size | _ => 0
set_option maxHeartbeats 6400000 in
theorem walk (a : Int) (ha0 : -9223372036854775808 ≤ a) (ha1 : a ≤ 9223372036854775807) (neg : Bool) (w : World) :
    Calls Tryd.prog 5 #[.int .i64 a, .bool neg] w fun e w' => e = .returned (.bool true) ∧ Ext w w' := by
  go_enter Tryd.func5, Tryd.ntmps5
  go_wp2_with fail
  refine (tawake _).mono ?_
  rintro e w1 ⟨rfl, hw1⟩
  obtain ⟨p, hp, hpl⟩ := pick a
  go_wp2_with fail
  go_loopw [6, 7, 8] (fun sv kv iv wr => ∃ (i k n : Nat) (D : List UInt8), iv = .int .i64 i ∧ i ≤ 5 ∧ kv = .int .i64 k ∧ k < 65536 ∧ sv = .string ⟨D.toArray⟩ ∧ D.length = i ∧ D.all isDig = true ∧ wr = w1.drewN n) (fun _ _ iv _ => 5 - (intOf iv).toNat)
  case atStart => exact ⟨0, p, 0, [], rfl, by omega, rfl, hpl, rfl, rfl, rfl, rfl⟩
  case round =>
    obtain ⟨i, k, n, D, rfl, hi, rfl, hk, rfl, hDl, hDd, rfl⟩ := hrel
    by_cases hlt : i < 5
    · obtain ⟨d, hd⟩ : ∃ d, k % 10 = d := ⟨_, rfl⟩
      have hd10 : d < 10 := by omega
      have hm : (k : Int).tmod 10 = d := by rw [Int.tmod_eq_emod_of_nonneg (by omega)]; omega
      obtain ⟨q, hq⟩ : ∃ q, k / 10 = q := ⟨_, rfl⟩
      have hdv : (k : Int).tdiv 10 = q := by rw [Int.tdiv_eq_ediv_of_nonneg (by omega)]; omega
      have hcut := figs_cut d hd10
      have hdig := figs_dig d hd10
      generalize UInt8.ofNat (48 + d) = c at *
      have happ := ba_app [c] D
      have HD := Lib.hid hDd
      have HG := Lib.hid hdig
      clear hDd hdig
      go_wp2_with fail
      go_roundw
      case rel => exact ⟨i + 1, q, n, c :: D, by go_num, by omega, rfl, by omega, rfl, by simp [hDl], by simp only [List.all_cons, HG.out, HD.out]; rfl, rfl⟩
      case measure => simp [intOf]; omega
    · have hd5 : decide ((i : Int) < 5) = false := by simp; omega
      have hDl5 : D.length = 5 := by omega
      clear hp hpl hk hDl
      go_wp2_with fail
      clear hi hlt hd5
      go_loopw [6] (fun sv wr => ∃ (n : Nat) (D : List UInt8), sv = .string ⟨D.toArray⟩ ∧ 0 < D.length ∧ D.length ≤ 5 ∧ D.all isDig = true ∧ wr = w1.drewN n) (fun sv _ => strLen sv)
      case atStart => exact ⟨n, D, rfl, by omega, by omega, hDd, rfl⟩
      case round =>
        clear hDl5 hDd
        obtain ⟨n, D, rfl, hD0, hD5, hDd, rfl⟩ := hrel
        have HDD := Lib.hid hDd
        have hget := get_arr D 0 hD0
        obtain ⟨c, hc⟩ : ∃ c, D[0] = c := ⟨_, rfl⟩
        rw [hc] at hget
        have HC := Lib.hid hc
        clear hDd hc
        by_cases hd1 : D.length = 1
        · have HI0 : Hid (D.length = 1 ∨ D.head? ≠ some 48) := Lib.hid (.inl hd1)
          cases neg with
          | false =>
            have hI : IsNum [] D := ⟨.inl rfl, HDD.out, by omega, by omega, HI0.out⟩
            have hA := all_num [] D hI
            have hB := all_dots [] D hI
            have hZ := all_zero D hI
            simp only [List.nil_append] at hA hB
            obtain ⟨N, hN⟩ : ∃ N, numOf [] D = N := ⟨_, rfl⟩
            rw [hN] at hA hB
            clear hN hI
            obtain ⟨nn, nd, ne⟩ := N
            have HZ := Lib.hid hZ
            clear hZ
            have HA := Lib.hid hA
            have HB := Lib.hid hB
            clear hA hB
            go_wp2_with fail
            generalize D = S at *
            have hS6 : S.length ≤ 6 := by omega
            have b1 := ba_app S [46, 46]
            have b2 := ba_app (S ++ [46, 46]) S
            have b0 := ba_app [48] S
            refine (all_any S _ (by omega)).mono ?_
            rintro e w2 ⟨⟨v1, rfl, ht1⟩, hw2⟩
            rw [HA.out] at ht1 ⊢
            simp only at ht1 ⊢
            obtain ⟨va, ca, rfl, hca⟩ := ht1.shape
            obtain ⟨g1, rfl, hg1, hc1⟩ := ht1.at' (by simp)
            have k1 := hc1 0 (by simp)
            obtain ⟨p0, p1, p2, p3, p4, p5, p6⟩ := k1
            simp only [List.getElem_cons_zero, Nat.zero_mul, Nat.zero_add] at p0 p2 p3 p4 p6
            simp only [List.length_cons, List.length_nil, Nat.zero_add] at hca ⊢
            clear hc1 ht1 p1 p5
            go_wp2_with fail
            refine (all_any (S ++ 46 :: 46 :: S) _ (by simp; omega)).mono ?_
            rintro e w3 ⟨⟨v2, rfl, ht2⟩, hw3⟩
            rw [HB.out] at ht2 ⊢
            simp only at ht2 ⊢
            obtain ⟨vb, cb, rfl, hcb⟩ := ht2.shape
            obtain ⟨g2, rfl, hg2, hc2⟩ := ht2.at' (by simp)
            have k2 := hc2 0 (by simp)
            obtain ⟨_, _, q2, q3, q4, _, _⟩ := k2
            have k3 := hc2 1 (by simp)
            obtain ⟨_, r1, _, _, _, _, _⟩ := k3
            have k4 := hc2 2 (by simp)
            obtain ⟨_, _, s2, s3, s4, _, _⟩ := k4
            simp only [List.getElem_cons_zero, List.getElem_cons_succ, Nat.zero_mul, Nat.zero_add] at q2 q3 q4 r1 s2 s3 s4
            simp only [List.length_cons, List.length_nil, Nat.zero_add] at hcb ⊢
            clear hc2 ht2
            have p0 := (hw3.cell (p := ⟨g1, 0, none⟩) hg1).trans p0
            have p2 := (hw3.cell (p := ⟨g1, 2, none⟩) hg1).trans p2
            have p3 := (hw3.cell (p := ⟨g1, 3, none⟩) hg1).trans p3
            have p4 := (hw3.cell (p := ⟨g1, 4, none⟩) hg1).trans p4
            have p6 := (hw3.cell (p := ⟨g1, 6, none⟩) hg1).trans p6
            have hg1 : g1 < w3.heap.size := Nat.lt_of_lt_of_le hg1 hw3.size
            go_wp2_with fail
            refine (all_any (48 :: S) _ (by simp; omega)).mono ?_
            rintro e w4 ⟨⟨v3, rfl, ht3⟩, hw4⟩
            obtain ⟨vc, cc, rfl, _⟩ := ht3.shape
            clear ht3
            have p0 := (hw4.cell (p := ⟨g1, 0, none⟩) hg1).trans p0
            have p2 := (hw4.cell (p := ⟨g1, 2, none⟩) hg1).trans p2
            have p3 := (hw4.cell (p := ⟨g1, 3, none⟩) hg1).trans p3
            have p4 := (hw4.cell (p := ⟨g1, 4, none⟩) hg1).trans p4
            have p6 := (hw4.cell (p := ⟨g1, 6, none⟩) hg1).trans p6
            have q2 : w4.cell? ⟨g2, 2, none⟩ = some (.bool nn) := (hw4.cell (p := ⟨g2, 2, none⟩) hg2).trans q2
            have q3 : w4.cell? ⟨g2, 3, none⟩ = some (.string ⟨nd.toArray⟩) := (hw4.cell (p := ⟨g2, 3, none⟩) hg2).trans q3
            have q4 : w4.cell? ⟨g2, 4, none⟩ = some (.int .i64 ne) := (hw4.cell (p := ⟨g2, 4, none⟩) hg2).trans q4
            have r1 : w4.cell? ⟨g2, 8, none⟩ = some (.string ⟨#[46, 46]⟩) := (hw4.cell (p := ⟨g2, 8, none⟩) hg2).trans r1
            have s2 : w4.cell? ⟨g2, 16, none⟩ = some (.bool nn) := (hw4.cell (p := ⟨g2, 16, none⟩) hg2).trans s2
            have s3 : w4.cell? ⟨g2, 17, none⟩ = some (.string ⟨nd.toArray⟩) := (hw4.cell (p := ⟨g2, 17, none⟩) hg2).trans s3
            have s4 : w4.cell? ⟨g2, 18, none⟩ = some (.int .i64 ne) := (hw4.cell (p := ⟨g2, 18, none⟩) hg2).trans s4
            have hE : Ext w w4 := ext_trans hw1 (ext_trans (below_drewN (ext_refl w1) _) (ext_trans hw2 (ext_trans hw3 hw4)))
            rw [HZ.out]
            clear b0 b1 b2
            generalize (allP (48 :: S)).1 = Z at *
            go_wp2_with fail
            go_quiet (fail)
            go_wp2_with fail
            go_ret
            exact ⟨rfl, below_drewN hE _⟩
          | true =>
            have hI : IsNum [45] D := ⟨.inr rfl, HDD.out, by omega, by omega, HI0.out⟩
            have hA := all_num [45] D hI
            have hB := all_dots [45] D hI
            have happ := ba_app [45] D
            obtain ⟨S, hS⟩ : ∃ S, [45] ++ D = S := ⟨_, rfl⟩
            rw [hS] at hA hB happ
            have hS7 : S.length ≤ 6 := by rw [← hS]; simp; omega
            clear hS
            obtain ⟨N, hN⟩ : ∃ N, numOf [45] D = N := ⟨_, rfl⟩
            rw [hN] at hA hB
            clear hN hI
            obtain ⟨nn, nd, ne⟩ := N
            have HA := Lib.hid hA
            have HB := Lib.hid hB
            clear hA hB
            go_wp2_with fail
            have hS6 : S.length ≤ 6 := hS7
            clear happ HDD HI0
            have b1 := ba_app S [46, 46]
            have b2 := ba_app (S ++ [46, 46]) S
            have b0 := ba_app [48] S
            refine (all_any S _ (by omega)).mono ?_
            rintro e w2 ⟨⟨v1, rfl, ht1⟩, hw2⟩
            rw [HA.out] at ht1 ⊢
            simp only at ht1 ⊢
            obtain ⟨va, ca, rfl, hca⟩ := ht1.shape
            obtain ⟨g1, rfl, hg1, hc1⟩ := ht1.at' (by simp)
            have k1 := hc1 0 (by simp)
            obtain ⟨p0, p1, p2, p3, p4, p5, p6⟩ := k1
            simp only [List.getElem_cons_zero, Nat.zero_mul, Nat.zero_add] at p0 p2 p3 p4 p6
            simp only [List.length_cons, List.length_nil, Nat.zero_add] at hca ⊢
            clear hc1 ht1 p1 p5
            go_wp2_with fail
            refine (all_any (S ++ 46 :: 46 :: S) _ (by simp; omega)).mono ?_
            rintro e w3 ⟨⟨v2, rfl, ht2⟩, hw3⟩
            rw [HB.out] at ht2 ⊢
            simp only at ht2 ⊢
            obtain ⟨vb, cb, rfl, hcb⟩ := ht2.shape
            obtain ⟨g2, rfl, hg2, hc2⟩ := ht2.at' (by simp)
            have k2 := hc2 0 (by simp)
            obtain ⟨_, _, q2, q3, q4, _, _⟩ := k2
            have k3 := hc2 1 (by simp)
            obtain ⟨_, r1, _, _, _, _, _⟩ := k3
            have k4 := hc2 2 (by simp)
            obtain ⟨_, _, s2, s3, s4, _, _⟩ := k4
            simp only [List.getElem_cons_zero, List.getElem_cons_succ, Nat.zero_mul, Nat.zero_add] at q2 q3 q4 r1 s2 s3 s4
            simp only [List.length_cons, List.length_nil, Nat.zero_add] at hcb ⊢
            clear hc2 ht2
            have p0 := (hw3.cell (p := ⟨g1, 0, none⟩) hg1).trans p0
            have p2 := (hw3.cell (p := ⟨g1, 2, none⟩) hg1).trans p2
            have p3 := (hw3.cell (p := ⟨g1, 3, none⟩) hg1).trans p3
            have p4 := (hw3.cell (p := ⟨g1, 4, none⟩) hg1).trans p4
            have p6 := (hw3.cell (p := ⟨g1, 6, none⟩) hg1).trans p6
            have hg1 : g1 < w3.heap.size := Nat.lt_of_lt_of_le hg1 hw3.size
            go_wp2_with fail
            refine (all_any (48 :: S) _ (by simp; omega)).mono ?_
            rintro e w4 ⟨⟨v3, rfl, ht3⟩, hw4⟩
            obtain ⟨vc, cc, rfl, _⟩ := ht3.shape
            clear ht3
            have p0 := (hw4.cell (p := ⟨g1, 0, none⟩) hg1).trans p0
            have p2 := (hw4.cell (p := ⟨g1, 2, none⟩) hg1).trans p2
            have p3 := (hw4.cell (p := ⟨g1, 3, none⟩) hg1).trans p3
            have p4 := (hw4.cell (p := ⟨g1, 4, none⟩) hg1).trans p4
            have p6 := (hw4.cell (p := ⟨g1, 6, none⟩) hg1).trans p6
            have q2 : w4.cell? ⟨g2, 2, none⟩ = some (.bool nn) := (hw4.cell (p := ⟨g2, 2, none⟩) hg2).trans q2
            have q3 : w4.cell? ⟨g2, 3, none⟩ = some (.string ⟨nd.toArray⟩) := (hw4.cell (p := ⟨g2, 3, none⟩) hg2).trans q3
            have q4 : w4.cell? ⟨g2, 4, none⟩ = some (.int .i64 ne) := (hw4.cell (p := ⟨g2, 4, none⟩) hg2).trans q4
            have r1 : w4.cell? ⟨g2, 8, none⟩ = some (.string ⟨#[46, 46]⟩) := (hw4.cell (p := ⟨g2, 8, none⟩) hg2).trans r1
            have s2 : w4.cell? ⟨g2, 16, none⟩ = some (.bool nn) := (hw4.cell (p := ⟨g2, 16, none⟩) hg2).trans s2
            have s3 : w4.cell? ⟨g2, 17, none⟩ = some (.string ⟨nd.toArray⟩) := (hw4.cell (p := ⟨g2, 17, none⟩) hg2).trans s3
            have s4 : w4.cell? ⟨g2, 18, none⟩ = some (.int .i64 ne) := (hw4.cell (p := ⟨g2, 18, none⟩) hg2).trans s4
            have hE : Ext w w4 := ext_trans hw1 (ext_trans (below_drewN (ext_refl w1) _) (ext_trans hw2 (ext_trans hw3 hw4)))
            generalize (allP (48 :: S)).2 = z at *
            clear b0 b1 b2
            generalize (allP (48 :: S)).1 = Z at *
            go_wp2_with fail
            go_quiet (fail)
            go_wp2_with fail
            go_ret
            exact ⟨rfl, below_drewN hE _⟩
        · by_cases hc : c.toNat = 48
          · have hb : ((c.toNat : Int) == 48) = true := by rw [hc]; rfl
            have hd2 : 1 < D.length := by omega
            obtain ⟨t, ht⟩ : ∃ t, D.drop 1 = t := ⟨_, rfl⟩
            have hcut := drop_ext D 1 D.length rfl
            rw [ht] at hcut
            have htl : t.length + 1 = D.length := by rw [← ht]; simp; omega
            have HT : Hid (t.all isDig = true) := Lib.hid (by
              have := HDD.out
              rw [← List.take_append_drop 1 D, ht, List.all_append, Bool.and_eq_true] at this
              exact this.2)
            clear ht
            go_wp2_with fail
            go_roundw
            case rel => exact ⟨n, t, rfl, by omega, by omega, HT.out, rfl⟩
            case measure => show t.toArray.size < D.toArray.size; simp; omega
          · have hb : ((c.toNat : Int) == 48) = false := by simp; omega
            have hd2 : 1 < D.length := by omega
            have HI0 : Hid (D.length = 1 ∨ D.head? ≠ some 48) := Lib.hid (.inr (by
              rw [List.head?_eq_getElem?, List.getElem?_eq_getElem hD0, HC.out]
              intro e
              exact hc (by rw [Option.some.inj e]; rfl)))
            clear hc HC
            cases neg with
            | false =>
              have hI : IsNum [] D := ⟨.inl rfl, HDD.out, by omega, by omega, HI0.out⟩
              have hA := all_num [] D hI
              have hB := all_dots [] D hI
              have hZ := all_zero D hI
              simp only [List.nil_append] at hA hB
              obtain ⟨N, hN⟩ : ∃ N, numOf [] D = N := ⟨_, rfl⟩
              rw [hN] at hA hB
              clear hN hI
              obtain ⟨nn, nd, ne⟩ := N
              have HZ := Lib.hid hZ
              clear hZ
              have HA := Lib.hid hA
              have HB := Lib.hid hB
              clear hA hB
              go_wp2_with fail
              generalize D = S at *
              have hS6 : S.length ≤ 6 := by omega
              have b1 := ba_app S [46, 46]
              have b2 := ba_app (S ++ [46, 46]) S
              have b0 := ba_app [48] S
              refine (all_any S _ (by omega)).mono ?_
              rintro e w2 ⟨⟨v1, rfl, ht1⟩, hw2⟩
              rw [HA.out] at ht1 ⊢
              simp only at ht1 ⊢
              obtain ⟨va, ca, rfl, hca⟩ := ht1.shape
              obtain ⟨g1, rfl, hg1, hc1⟩ := ht1.at' (by simp)
              have k1 := hc1 0 (by simp)
              obtain ⟨p0, p1, p2, p3, p4, p5, p6⟩ := k1
              simp only [List.getElem_cons_zero, Nat.zero_mul, Nat.zero_add] at p0 p2 p3 p4 p6
              simp only [List.length_cons, List.length_nil, Nat.zero_add] at hca ⊢
              clear hc1 ht1 p1 p5
              go_wp2_with fail
              refine (all_any (S ++ 46 :: 46 :: S) _ (by simp; omega)).mono ?_
              rintro e w3 ⟨⟨v2, rfl, ht2⟩, hw3⟩
              rw [HB.out] at ht2 ⊢
              simp only at ht2 ⊢
              obtain ⟨vb, cb, rfl, hcb⟩ := ht2.shape
              obtain ⟨g2, rfl, hg2, hc2⟩ := ht2.at' (by simp)
              have k2 := hc2 0 (by simp)
              obtain ⟨_, _, q2, q3, q4, _, _⟩ := k2
              have k3 := hc2 1 (by simp)
              obtain ⟨_, r1, _, _, _, _, _⟩ := k3
              have k4 := hc2 2 (by simp)
              obtain ⟨_, _, s2, s3, s4, _, _⟩ := k4
              simp only [List.getElem_cons_zero, List.getElem_cons_succ, Nat.zero_mul, Nat.zero_add] at q2 q3 q4 r1 s2 s3 s4
              simp only [List.length_cons, List.length_nil, Nat.zero_add] at hcb ⊢
              clear hc2 ht2
              have p0 := (hw3.cell (p := ⟨g1, 0, none⟩) hg1).trans p0
              have p2 := (hw3.cell (p := ⟨g1, 2, none⟩) hg1).trans p2
              have p3 := (hw3.cell (p := ⟨g1, 3, none⟩) hg1).trans p3
              have p4 := (hw3.cell (p := ⟨g1, 4, none⟩) hg1).trans p4
              have p6 := (hw3.cell (p := ⟨g1, 6, none⟩) hg1).trans p6
              have hg1 : g1 < w3.heap.size := Nat.lt_of_lt_of_le hg1 hw3.size
              go_wp2_with fail
              refine (all_any (48 :: S) _ (by simp; omega)).mono ?_
              rintro e w4 ⟨⟨v3, rfl, ht3⟩, hw4⟩
              obtain ⟨vc, cc, rfl, _⟩ := ht3.shape
              clear ht3
              have p0 := (hw4.cell (p := ⟨g1, 0, none⟩) hg1).trans p0
              have p2 := (hw4.cell (p := ⟨g1, 2, none⟩) hg1).trans p2
              have p3 := (hw4.cell (p := ⟨g1, 3, none⟩) hg1).trans p3
              have p4 := (hw4.cell (p := ⟨g1, 4, none⟩) hg1).trans p4
              have p6 := (hw4.cell (p := ⟨g1, 6, none⟩) hg1).trans p6
              have q2 : w4.cell? ⟨g2, 2, none⟩ = some (.bool nn) := (hw4.cell (p := ⟨g2, 2, none⟩) hg2).trans q2
              have q3 : w4.cell? ⟨g2, 3, none⟩ = some (.string ⟨nd.toArray⟩) := (hw4.cell (p := ⟨g2, 3, none⟩) hg2).trans q3
              have q4 : w4.cell? ⟨g2, 4, none⟩ = some (.int .i64 ne) := (hw4.cell (p := ⟨g2, 4, none⟩) hg2).trans q4
              have r1 : w4.cell? ⟨g2, 8, none⟩ = some (.string ⟨#[46, 46]⟩) := (hw4.cell (p := ⟨g2, 8, none⟩) hg2).trans r1
              have s2 : w4.cell? ⟨g2, 16, none⟩ = some (.bool nn) := (hw4.cell (p := ⟨g2, 16, none⟩) hg2).trans s2
              have s3 : w4.cell? ⟨g2, 17, none⟩ = some (.string ⟨nd.toArray⟩) := (hw4.cell (p := ⟨g2, 17, none⟩) hg2).trans s3
              have s4 : w4.cell? ⟨g2, 18, none⟩ = some (.int .i64 ne) := (hw4.cell (p := ⟨g2, 18, none⟩) hg2).trans s4
              have hE : Ext w w4 := ext_trans hw1 (ext_trans (below_drewN (ext_refl w1) _) (ext_trans hw2 (ext_trans hw3 hw4)))
              rw [HZ.out]
              clear b0 b1 b2
              generalize (allP (48 :: S)).1 = Z at *
              go_wp2_with fail
              go_quiet (fail)
              go_wp2_with fail
              go_ret
              exact ⟨rfl, below_drewN hE _⟩
            | true =>
              have hI : IsNum [45] D := ⟨.inr rfl, HDD.out, by omega, by omega, HI0.out⟩
              have hA := all_num [45] D hI
              have hB := all_dots [45] D hI
              have happ := ba_app [45] D
              obtain ⟨S, hS⟩ : ∃ S, [45] ++ D = S := ⟨_, rfl⟩
              rw [hS] at hA hB happ
              have hS7 : S.length ≤ 6 := by rw [← hS]; simp; omega
              clear hS
              obtain ⟨N, hN⟩ : ∃ N, numOf [45] D = N := ⟨_, rfl⟩
              rw [hN] at hA hB
              clear hN hI
              obtain ⟨nn, nd, ne⟩ := N
              have HA := Lib.hid hA
              have HB := Lib.hid hB
              clear hA hB
              go_wp2_with fail
              have hS6 : S.length ≤ 6 := hS7
              clear happ HDD HI0
              have b1 := ba_app S [46, 46]
              have b2 := ba_app (S ++ [46, 46]) S
              have b0 := ba_app [48] S
              refine (all_any S _ (by omega)).mono ?_
              rintro e w2 ⟨⟨v1, rfl, ht1⟩, hw2⟩
              rw [HA.out] at ht1 ⊢
              simp only at ht1 ⊢
              obtain ⟨va, ca, rfl, hca⟩ := ht1.shape
              obtain ⟨g1, rfl, hg1, hc1⟩ := ht1.at' (by simp)
              have k1 := hc1 0 (by simp)
              obtain ⟨p0, p1, p2, p3, p4, p5, p6⟩ := k1
              simp only [List.getElem_cons_zero, Nat.zero_mul, Nat.zero_add] at p0 p2 p3 p4 p6
              simp only [List.length_cons, List.length_nil, Nat.zero_add] at hca ⊢
              clear hc1 ht1 p1 p5
              go_wp2_with fail
              refine (all_any (S ++ 46 :: 46 :: S) _ (by simp; omega)).mono ?_
              rintro e w3 ⟨⟨v2, rfl, ht2⟩, hw3⟩
              rw [HB.out] at ht2 ⊢
              simp only at ht2 ⊢
              obtain ⟨vb, cb, rfl, hcb⟩ := ht2.shape
              obtain ⟨g2, rfl, hg2, hc2⟩ := ht2.at' (by simp)
              have k2 := hc2 0 (by simp)
              obtain ⟨_, _, q2, q3, q4, _, _⟩ := k2
              have k3 := hc2 1 (by simp)
              obtain ⟨_, r1, _, _, _, _, _⟩ := k3
              have k4 := hc2 2 (by simp)
              obtain ⟨_, _, s2, s3, s4, _, _⟩ := k4
              simp only [List.getElem_cons_zero, List.getElem_cons_succ, Nat.zero_mul, Nat.zero_add] at q2 q3 q4 r1 s2 s3 s4
              simp only [List.length_cons, List.length_nil, Nat.zero_add] at hcb ⊢
              clear hc2 ht2
              have p0 := (hw3.cell (p := ⟨g1, 0, none⟩) hg1).trans p0
              have p2 := (hw3.cell (p := ⟨g1, 2, none⟩) hg1).trans p2
              have p3 := (hw3.cell (p := ⟨g1, 3, none⟩) hg1).trans p3
              have p4 := (hw3.cell (p := ⟨g1, 4, none⟩) hg1).trans p4
              have p6 := (hw3.cell (p := ⟨g1, 6, none⟩) hg1).trans p6
              have hg1 : g1 < w3.heap.size := Nat.lt_of_lt_of_le hg1 hw3.size
              go_wp2_with fail
              refine (all_any (48 :: S) _ (by simp; omega)).mono ?_
              rintro e w4 ⟨⟨v3, rfl, ht3⟩, hw4⟩
              obtain ⟨vc, cc, rfl, _⟩ := ht3.shape
              clear ht3
              have p0 := (hw4.cell (p := ⟨g1, 0, none⟩) hg1).trans p0
              have p2 := (hw4.cell (p := ⟨g1, 2, none⟩) hg1).trans p2
              have p3 := (hw4.cell (p := ⟨g1, 3, none⟩) hg1).trans p3
              have p4 := (hw4.cell (p := ⟨g1, 4, none⟩) hg1).trans p4
              have p6 := (hw4.cell (p := ⟨g1, 6, none⟩) hg1).trans p6
              have q2 : w4.cell? ⟨g2, 2, none⟩ = some (.bool nn) := (hw4.cell (p := ⟨g2, 2, none⟩) hg2).trans q2
              have q3 : w4.cell? ⟨g2, 3, none⟩ = some (.string ⟨nd.toArray⟩) := (hw4.cell (p := ⟨g2, 3, none⟩) hg2).trans q3
              have q4 : w4.cell? ⟨g2, 4, none⟩ = some (.int .i64 ne) := (hw4.cell (p := ⟨g2, 4, none⟩) hg2).trans q4
              have r1 : w4.cell? ⟨g2, 8, none⟩ = some (.string ⟨#[46, 46]⟩) := (hw4.cell (p := ⟨g2, 8, none⟩) hg2).trans r1
              have s2 : w4.cell? ⟨g2, 16, none⟩ = some (.bool nn) := (hw4.cell (p := ⟨g2, 16, none⟩) hg2).trans s2
              have s3 : w4.cell? ⟨g2, 17, none⟩ = some (.string ⟨nd.toArray⟩) := (hw4.cell (p := ⟨g2, 17, none⟩) hg2).trans s3
              have s4 : w4.cell? ⟨g2, 18, none⟩ = some (.int .i64 ne) := (hw4.cell (p := ⟨g2, 18, none⟩) hg2).trans s4
              have hE : Ext w w4 := ext_trans hw1 (ext_trans (below_drewN (ext_refl w1) _) (ext_trans hw2 (ext_trans hw3 hw4)))
              generalize (allP (48 :: S)).2 = z at *
              clear b0 b1 b2
              generalize (allP (48 :: S)).1 = Z at *
              go_wp2_with fail
              go_quiet (fail)
              go_wp2_with fail
              go_ret
              exact ⟨rfl, below_drewN hE _⟩
set_option linter.unusedSimpArgs false
theorem own : ownKnob Tryd.prog.godebug = none := by kernel_rfl
theorem laid : laidOutB Tryd.prog = true := by kernel_rfl
set_option maxHeartbeats 1600000 in
set_option maxRecDepth 100000 in
theorem lifted (os : Os) (started : os.Started) (H : Type) (enc : TypeId × Value → H) :
    ReturnsInHanded {} Tryd.checked os 5 .any (fun w args => (Rows.tokenNumbersSpec.pre enc Tryd.prog Tryd.f5 [] false w args ∧ laidMetH Tryd.prog Rows.tokenNumbersRow.laid w) ∧ sizedMet enc Tryd.prog Tryd.f5 (OpenSpec.ofChange Rows.tokenNumbersSpec) false w args) (Rows.tokenNumbersSpec.post enc Tryd.prog Tryd.f5 false true false false) := by
  refine returnsInHanded_of_change_and (C := Tryd.checked) (X := fun w _ => laidMetH Tryd.prog Rows.tokenNumbersRow.laid w) (fun _ _ _ hh h => h.of_heap hh) own started (by kernel_rfl) Tryd.func5
    (ChangeSpec.witness_shaped (enc := enc) (C := Tryd.checked) (os := os) (X := fun w _ => laidMetH Tryd.prog Rows.tokenNumbersRow.laid w) false (World.laidAll Tryd.prog os Rows.tokenNumbersRow.laid) #[.int .i64 0, .bool false] 8 (World.laidAll_os _ _ _)
      (World.shaped_of_ZipB (by kernel_rfl) (by kernel_rfl)) (by kernel_rfl) (by kernel_rfl) (by kernel_rfl)
      (by rw [MakeChecks.laidMetH_plain _ _ _ (by kernel_rfl)]; exact laidMet_laidAll _ (by kernel_rfl) (by kernel_rfl))) ?_
  intro W base args ds gs before hval0 hW _ hsz0 _ _
  have hsz : (DataW.weightsEach Tryd.prog (Tryd.f5.params.toList ++ Rows.tokenNumbersSpec.plain.varTypes Tryd.prog) (ds ++ gs)).all (· ≤ reachBytes) = true := hsz0
  clear hsz0
  have hval : ∀ (j : Nat) t v, Tryd.f5.params[j]? = some t → args[j]? = some v → Value.okWide Tryd.prog W .any base t v := hval0
  have hW' := hW
  obtain ⟨p, q, hA0, hV, rfl, _, _⟩ := hW
  have hA : DataW.TrodAll enc Tryd.prog W 0 (fun _ => true) true Tryd.f5.params.toList args.toList ds p := hA0
  rw [Tryd.params5] at hA hval hsz
  obtain ⟨v0, vs0, d0, ds0, p0, q0, ha0, rfl, rfl, h0, r0⟩ := trodAll_cons hA
  obtain ⟨v1, vs1, d1, ds1, p1, q1, ha1, rfl, rfl, h1, r1⟩ := trodAll_cons r0
  obtain ⟨hb2, rfl, rfl⟩ := trodAll_nil r1
  subst hb2
  subst ha1
  obtain rfl : args = #[v0, v1] := by cases args; simpa using ha0
  obtain ⟨rfl, rfl⟩ := trodVars_none hV
  have hk0 := h0
  obtain ⟨a0, rfl, rfl, rfl, wf0⟩ := open_int Tryd.underlying3 (hval 0 3 v0 rfl rfl) h0
  have hr0 : -9223372036854775808 ≤ a0 ∧ a0 ≤ 9223372036854775807 := by simpa [Lit.wf, IntKind.min, IntKind.max, IntKind.signed, IntKind.bits] using wf0
  have hk1 := h1
  obtain ⟨a1, rfl, rfl, rfl⟩ := open_bool Tryd.underlying4 (hval 1 4 v1 rfl rfl) h1
  have hlt := fun x hx => hW'.lt x hx
  simp only [List.append_nil, List.nil_append] at hW' hlt
  refine (walk a0 hr0.1 hr0.2 a1 W ).mono fun e W' ⟨he, hb⟩ => ?_
  subst he
  have hargs := (trodAll_cons_mk (Below.trod laid (by kernel_rfl) (of_decide_eq_true (by kernel_rfl)) hk0 hb (fun x hx => by first | exact hlt x hx | exact absurd hx (List.not_mem_nil) | exact hlt x (by simp [hx]))) (trodAll_cons_mk (Below.trod laid (by kernel_rfl) (of_decide_eq_true (by kernel_rfl)) hk1 hb (fun x hx => by first | exact hlt x hx | exact absurd hx (List.not_mem_nil) | exact hlt x (by simp [hx]))) trodAll_mk0))
  exact ⟨_, rfl, _, _, _, [], _, [], hW', trodAll_cons_mk (shut_bool Tryd.underlying4 _) trodAll_mk0, hargs, rfl, hb.frame _, fun h => by cases h⟩

theorem held : Rows.TokenNumbersSaid :=
  OpenClaim.holds_of_wide 5 Tryd.f5 rfl rfl rfl rfl rfl rfl rfl ⟨rfl, rfl, rfl, rfl, rfl⟩ rfl rfl rfl rfl rfl (by kernel_rfl) Tryd.func5 (by kernel_rfl)
    (of_decide_eq_true (by kernel_rfl)) (by unfold Func.isWrapper; first | (rw [if_pos (by decide +kernel)]; kernel_rfl) | (rw [if_neg (by decide +kernel)]; exact ⟨rfl, rfl⟩))
    (fun os started H enc _ => lifted os started H enc)

theorem proved : Rows.TokenNumbersCardSaid :=
  Claim7.holds_tied_plain_at .later [] Rows.tokenNumbersCard.laidKinds true Rows.tokenNumbersCard.stood.harness false held (fun _ h => by cases h) (by kernel_rfl) (fun _ h => by cases h) tokenNumbers_row_tie rfl ⟨rfl, rfl⟩ (by kernel_rfl) rfl
    (fun f fn hf hfn => by
      obtain rfl : f = 5 := Option.some.inj ((show Tryd.prog.funcNamed "orangery/orangerylaw15.TokenNumbers" = some 5 by kernel_rfl).symm.trans hf) |>.symm
      obtain rfl : fn = Tryd.f5 := (Option.some.inj (Tryd.func5.symm.trans hfn)).symm
      exact ⟨by kernel_rfl, fun j t ht => by
        rw [Tryd.params5] at ht
        have hm : t ∈ [3, 4] := by simpa using Array.mem_of_getElem? ht
        have hall : ([3, 4].all fun u => !Tryd.prog.wantsStandIn u) = true := by kernel_rfl
        exact (show Tryd.prog.wantsStandIn t = false by simpa using List.all_eq_true.1 hall t hm)⟩)
    (by kernel_rfl)
end Go.Proofs.YtglcpfnfldaimaaDoor.tokenNumbers
