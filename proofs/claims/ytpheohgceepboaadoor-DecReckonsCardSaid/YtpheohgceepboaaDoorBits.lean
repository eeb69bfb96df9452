/- The lowest bits of an int. -/
import Derived.Laws.BitsLemmas
namespace Go.Proofs.YtpheohgceepboaaDoor
open Go
theorem i64_low (k : Nat) (m : Int) (hm : (BitVec.ofInt 64 m).toNat = 2 ^ k - 1) (hk : k ≤ 40) (n : Int) : bits .and .i64 n m = n % ((2 ^ k : Nat) : Int) := by
  have key : (BitVec.ofInt 64 n &&& BitVec.ofInt 64 m).toNat = (n % ((2 ^ 64 : Nat) : Int)).toNat % 2 ^ k := by
    rw [BitVec.toNat_and, BitVec.toNat_ofInt, hm, Nat.and_two_pow_sub_one_eq_mod]
  have hp : (2 : Nat) ^ 64 = 2 ^ k * 2 ^ (64 - k) := by rw [← Nat.pow_add]; congr 1; omega
  have hb : (2 : Nat) ^ k ≤ 2 ^ 40 := Nat.pow_le_pow_right (by omega) hk
  have hb0 : 0 < (2 : Nat) ^ k := Nat.pow_pos (by omega)
  have e1 : (((n % ((2 ^ 64 : Nat) : Int)).toNat % 2 ^ k : Nat) : Int) = n % ((2 ^ k : Nat) : Int) := by
    have h0 : 0 ≤ n % ((2 ^ 64 : Nat) : Int) := Int.emod_nonneg _ (by decide)
    rw [Int.natCast_emod, Int.toNat_of_nonneg h0, hp, Int.natCast_mul, Int.emod_emod_of_dvd _ (Int.dvd_mul_right _ _)]
  show IntKind.i64.wrap ((BitVec.ofInt 64 n &&& BitVec.ofInt 64 m).toNat : Nat) = _
  rw [key, e1, IntKind.wrap_i64]
  have h1 := Int.emod_nonneg n (b := ((2 ^ k : Nat) : Int)) (by omega)
  have h2 := Int.emod_lt_of_pos n (b := ((2 ^ k : Nat) : Int)) (by omega)
  omega
theorem pick_low (k : Nat) (m : Int) (hm : (BitVec.ofInt 64 m).toNat = 2 ^ k - 1) (hk : k ≤ 40) (n : Int) : ∃ p : Nat, bits .and .i64 n m = (p : Int) ∧ p < 2 ^ k := by
  have hb0 : 0 < (2 : Nat) ^ k := Nat.pow_pos (by omega)
  have h1 := Int.emod_nonneg n (b := ((2 ^ k : Nat) : Int)) (by omega)
  have h2 := Int.emod_lt_of_pos n (b := ((2 ^ k : Nat) : Int)) (by omega)
  exact ⟨(n % ((2 ^ k : Nat) : Int)).toNat, by rw [i64_low k m hm hk]; omega, by omega⟩
end Go.Proofs.YtpheohgceepboaaDoor
