/- A text of this proof. -/
import Derived.Test.YtjapbjmeoaagmaaGreatDoorEPrintIsUtfGo
import Derived.Lib.Bytealg
set_option linter.unusedVariables false
set_option linter.unusedSimpArgs false
set_option maxRecDepth 100000
namespace Orange
open Go
def hexD (c : UInt8) : Int :=
 if 48 ≤ c.toNat ∧ c.toNat ≤ 57 then (c.toNat : Int) - 48
 else if 97 ≤ c.toNat ∧ c.toNat ≤ 102 then (c.toNat : Int) - 87
 else if 65 ≤ c.toNat ∧ c.toNat ≤ 70 then (c.toNat : Int) - 55
 else -1
def hexs : List UInt8 := [48, 49, 50, 51, 52, 53, 54, 55, 56, 57, 97, 98, 99, 100, 101, 102]
def hexDb (n : Nat) : Int :=
 if 48 ≤ n ∧ n ≤ 57 then (n : Int) - 48
 else if 97 ≤ n ∧ n ≤ 102 then (n : Int) - 87
 else if 65 ≤ n ∧ n ≤ 70 then (n : Int) - 55
 else -1
theorem hexD_idx (c : UInt8) (h : ¬ (65 ≤ c.toNat ∧ c.toNat ≤ 70)) : Lib.indexByte hexs c = hexD c := by
 have h1 := u8f (p := fun n => (decide (65 ≤ n ∧ n ≤ 70)) || (Lib.indexByte hexs (UInt8.ofNat n) == hexDb n)) (by decide +kernel) c; simp only [Bool.or_eq_true, decide_eq_true_eq, beq_iff_eq, h, false_or] at h1; rw [UInt8.ofNat_toNat] at h1; exact h1
theorem hexD_up (c : UInt8) (h : 65 ≤ c.toNat ∧ c.toNat ≤ 70) : ∃ d : UInt8, bits .or .u8 (c.toNat : Int) 32 = (d.toNat : Int) ∧ Lib.indexByte hexs d = hexD c := by
 refine ⟨UInt8.ofNat (c.toNat + 32), ?_, ?_⟩
 · have h1 := u8_or_nat c.toNat 32 c.toNat_lt (by decide); have h2 : c.toNat ||| 32 = c.toNat + 32 := by
    have := u8f (p := fun n => !(decide (65 ≤ n ∧ n ≤ 70)) || ((n ||| 32) == n + 32)) (by decide +kernel) c; simpa [h] using this
   rw [h2] at h1; have h3 : (UInt8.ofNat (c.toNat + 32)).toNat = c.toNat + 32 := by rw [UInt8.toNat_ofNat']; omega
   rw [h3]; exact h1
 · have h1 := u8f (p := fun n => !(decide (65 ≤ n ∧ n ≤ 70)) || (Lib.indexByte hexs (UInt8.ofNat (n + 32)) == hexDb n)) (by decide +kernel) c; simp only [Bool.or_eq_true, Bool.not_eq_true', decide_eq_false_iff_not, h, and_self, not_true_eq_false, false_or, beq_iff_eq] at h1; exact h1
theorem hexD_bd (c : UInt8) : -1 ≤ hexD c ∧ hexD c ≤ 15 := by
 unfold hexD; split
 · omega
 split
 · omega
 split <;> omega
def hexN : List UInt8 → Int → Option Int
 | [], v => some v
 | c :: t, v => if hexD c < 0 then none else hexN t (v * 16 + hexD c)
theorem hexN_at (xs : List UInt8) (k i : Nat) (v : Int) (h : i < k) (hit : i < xs.length) : hexN ((xs.take k).drop i) v = if hexD xs[i] < 0 then none else hexN ((xs.take k).drop (i + 1)) (v * 16 + hexD xs[i]) := by
 have hl : i < (xs.take k).length := by simp; omega
 rw [List.drop_eq_getElem_cons hl, hexN]; simp
theorem hexN_bd : ∀ (l : List UInt8) (v r : Int), 0 ≤ v → hexN l v = some r → 0 ≤ r ∧ r < (v + 1) * 16 ^ l.length
 | [], v, r, h0, h => by simp only [hexN, Option.some.injEq] at h; subst h; simp; omega
 | c :: t, v, r, h0, h => by
   simp only [hexN] at h; split at h
   · cases h
   · have hb := hexD_bd c; have := hexN_bd t _ r (by omega) h; refine ⟨this.1, Int.lt_of_lt_of_le this.2 ?_⟩; rw [List.length_cons, Int.pow_succ]; have h1 : v * 16 + hexD c + 1 ≤ (v + 1) * 16 := by omega
     calc (v * 16 + hexD c + 1) * 16 ^ t.length ≤ ((v + 1) * 16) * 16 ^ t.length := Int.mul_le_mul_of_nonneg_right h1 (Int.pow_nonneg (by decide))
      _ = (v + 1) * (16 ^ t.length * 16) := by rw [Int.mul_assoc, Int.mul_comm 16]
def unit : List UInt8 → Option Int
 | u :: t => if t.length < 4 || u != 117 then none else hexN (t.take 4) 0
 | [] => none
theorem unit_bd {b : List UInt8} {v : Int} (h : unit b = some v) : 0 ≤ v ∧ v ≤ 65535 := by
 cases b with
 | nil => cases h
 | cons u t =>
   simp only [unit] at h; split at h
   · cases h
   · rename_i hc
     have := hexN_bd _ _ _ (by decide) h; have hl : (t.take 4).length = 4 := by simp at hc ⊢; omega
     rw [hl] at this; omega
def pair (v : Int) : List UInt8 → Option Int
 | c :: t =>
   if 56319 < v || t.length < 5 || c != 92 then none
   else match unit t with
    | some w => if w < 56320 || 57343 < w then none else some (65536 + (v - 55296) * 1024 + w - 56320)
    | none => none
 | [] => none
def escNamed (c : UInt8) : Int := match c.toNat with | 98 => 8 | 116 => 9 | 110 => 10 | 102 => 12 | 114 => 13 | _ => 0
def escape : List UInt8 → Int × Nat
 | [] => (0, 0)
 | c :: t =>
   if c = 34 || c = 47 || c = 92 then (c.toNat, 1)
   else if c = 98 || c = 116 || c = 110 || c = 102 || c = 114 then (escNamed c, 1)
   else match unit (c :: t) with
    | none => (0, 0)
    | some v => if sound v then (v, 5) else match pair v (t.drop 4) with
      | some r => (r, 11)
      | none => (0, 0)
end Orange
