/- dec: what the library's functions do that dec leans on. -/
import Derived.Test.YtpheohgceepboaaDoorDecA
import Derived.Test.YtpheohgceepboaaDoorDecC
import Derived.Test.YtpheohgceepboaaDoorDecX
import Derived.Test.YtpheohgceepboaaDoorStr
import Derived.Lib.AppendIntMem
set_option linter.unusedVariables false
set_option linter.unusedSimpArgs false
set_option maxRecDepth 100000
namespace Go.Proofs.YtpheohgceepboaaDoor
open Go.RowKit Go.Mem Orange

theorem cmpInt_any (x y : Int) (w : World) :
    Calls Tryd.prog 57 #[.int .i64 x, .int .i64 y] w fun e w' => e = .returned (.int .i64 (cmpZ x y)) ∧ Ext w w' := by
  refine (Tryd.cmp_Compare_int x y w).mono ?_
  rintro e w' ⟨rfl, rfl⟩
  exact ⟨rfl, ext_refl _⟩
theorem strCmp_any (a b : List UInt8) (w : World) :
    Calls Tryd.prog 58 #[.string ⟨a.toArray⟩, .string ⟨b.toArray⟩] w fun e w' => e = .returned (.int .i64 (Lib.compareBytes a b)) ∧ Ext w w' := by
  refine (Tryd.strings_Compare ⟨a.toArray⟩ ⟨b.toArray⟩ w).mono ?_
  rintro e w' ⟨rfl, rfl⟩
  exact ⟨rfl, ext_refl _⟩
/-- the table of the powers of ten stands -/
def Tab (w : World) : Prop := Lib.TabIs Tryd.prog w "internal/strconv.uint64pow10" .u64 Lib.pow10Tab
theorem Tab.ext {w w' : World} (h : Tab w) (hb : Ext w w') : Tab w' := by
  unfold Tab Lib.TabIs at h ⊢
  have hc : ∃ g, Tryd.prog.globalNamed "internal/strconv.uint64pow10" = some g ∧ g < w.heap.size := by
    cases hq : Tryd.prog.globalNamed "internal/strconv.uint64pow10" with
    | none => simp [World.var?, hq] at h
    | some g => exact ⟨g, rfl, World.block_lt_of_cell? w _ (Lib.TabIs.cell h hq 0 (by decide))⟩
  obtain ⟨g, hg, hlt⟩ := hc
  exact var?_below hb hg hlt h
theorem decDigits_eq : ∀ u, Lib.decDigits u = decD u := by
  intro u
  induction u using Nat.strongRecOn with
  | _ u ih =>
    rw [Lib.decDigits]
    split
    · rename_i h
      unfold decD
      split
      · rename_i h0; subst h0; rfl
      · rename_i h0
        rw [digs_pos h0, show u / 10 = 0 by omega, digs_zero, show u % 10 = u by omega]; rfl
    · rename_i h
      rw [ih (u / 10) (by omega)]
      unfold decD
      rw [if_neg (by omega), if_neg (by omega), digs_pos (N := u) (by omega)]; rfl
theorem itoa_eq (n : Int) : Lib.itoa n = itoaP n := by
  unfold Lib.itoa itoaP
  rw [decDigits_eq, decDigits_eq]
theorem itoa_any (n : Int) (w : World) (hT : Tab w) (h0 : -9223372036854775808 ≤ n) (h1 : n ≤ 9223372036854775807) :
    Calls Tryd.prog 36 #[.int .i64 n] w fun e w' => e = .returned (.string ⟨(itoaP n).toArray⟩) ∧ Ext w w' := by
  refine (Tryd.strconv_Itoa n h0 h1 w hT).mono ?_
  rintro e w' ⟨rfl, k, os, rfl⟩
  exact ⟨by rw [itoa_eq], Lib.below_grow _ w (Nat.le_refl _) k os⟩
theorem hasPrefix_n (l p : List UInt8) (w : World) :
    Calls Tryd.prog 48 #[.string ⟨l.toArray⟩, .string ⟨p.toArray⟩] w fun e w' => e = .returned (.bool (p.isPrefixOf l)) ∧ w = w' := by
  refine (Tryd.strings_HasPrefix ⟨l.toArray⟩ ⟨p.toArray⟩ w).mono ?_
  rintro e w' ⟨rfl, rfl⟩
  exact ⟨rfl, rfl⟩
set_option maxHeartbeats 1600000 in
theorem repeat_any (c : Nat) (hc : c ≤ 40) (w : World) :
    Calls Tryd.prog 45 #[.string ⟨#[48]⟩, .int .i64 c] w fun e w' => e = .returned (.string ⟨(zeros c).toArray⟩) ∧ Ext w w' := by
  by_cases h0 : c = 0
  · subst h0
    go_enter Tryd.func45, Tryd.ntmps45
    go_wp2_with fail
    go_ret
    exact ⟨rfl, ext_refl w⟩
  · by_cases h1 : c = 1
    · subst h1
      go_enter Tryd.func45, Tryd.ntmps45
      go_wp2_with fail
      go_ret
      exact ⟨rfl, ext_refl w⟩
    · have q0 : ((c : Int) == 0) = false := by simp; omega
      have q1 : ((c : Int) == 1) = false := by simp; omega
      have u1 : IntKind.u64.wrap (c : Int) = c := by simp [IntKind.wrap, IntKind.bits, IntKind.signed]; omega
      have u2 : IntKind.i64.wrap (c : Int) = c := IntWalk.i64_in _ (by omega)
      go_enter Tryd.func45, Tryd.ntmps45
      go_wp2_with fail
      have e1 : ((1 * c / 18446744073709551616 : Nat) : Int) = 0 := by omega
      have e2 : ((1 * c % 18446744073709551616 : Nat) : Int) = c := by omega
      refine (Tryd.bits_Mul 1 c (by decide) (by omega) w).mono ?_
      rintro e w1 ⟨rfl, rfl⟩
      rw [e1, e2]
      clear e1 e2
      go_wp2_with fail
      refine (hasPrefix_n _ [48] _).mono ?_
      rintro e w1 ⟨rfl, rfl⟩
      go_wp2_with fail
      refine (hasPrefix_n _ [48] _).mono ?_
      rintro e w1 ⟨rfl, rfl⟩
      go_wp2_with fail
      refine (hasPrefix_n _ [48] _).mono ?_
      rintro e w1 ⟨rfl, rfl⟩
      go_wp2_with fail
      go_ret
      refine ⟨?_, ext_refl _⟩
      have ez : (zeros 64).take c = zeros c := by unfold zeros; rw [List.take_replicate, show min c 64 = c by omega]
      show Ending.returned (.string (ByteArray.extract ⟨(zeros 64).toArray⟩ 0 c)) = _
      rw [sx_take, ez]
end Go.Proofs.YtpheohgceepboaaDoor
