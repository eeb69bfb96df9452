/- parse: so many elements (plain). -/
import Derived.Test.YtckpndbmpigegaaDoorPaQ
set_option linter.unusedVariables false
set_option linter.unusedSimpArgs false
set_option maxRecDepth 100000
namespace Go.Proofs.YtckpndbmpigegaaDoor
open Go.RowKit Go.Mem Orange
def zTail (r : Nat) : List UInt8 := (List.replicate r [44, 48]).flatten ++ [93]
def zText (m : Nat) : List UInt8 := 91 :: 48 :: zTail (m - 1)
theorem zTail_succ (r : Nat) : zTail (r + 1) = 44 :: 48 :: zTail r := by simp [zTail, List.replicate_succ]
theorem zTail_len (r : Nat) : (zTail r).length = 2 * r + 1 := by
  induction r with
  | zero => rfl
  | succ r ih => rw [zTail_succ]; simp [ih]; omega
theorem zTail_head (r : Nat) : ∃ y u, zTail r = y :: u ∧ isFig y = false ∧ isWhite y = false := by
  cases r with
  | zero => exact ⟨93, [], rfl, by decide, by decide⟩
  | succ r => exact ⟨44, 48 :: zTail r, zTail_succ r, by decide, by decide⟩
theorem zero_one (y : UInt8) (u : List UInt8) (hy : isFig y = false) (f d n : Nat) : valueP (48 :: y :: u) (f + 1) d 0 n = if 4096 < n + 1 then .err 4 0 else .ok (tNum Num.zero) 1 (n + 1) := by
  have hw : whiteN (48 :: y :: u) 0 = 0 := by simp [whiteN, List.dropWhile, show isWhite 48 = false by decide]
  have hp : peekP (48 :: y :: u) 0 = 48 := rfl
  have he : numEnd (48 :: y :: u) 0 = 1 := by
    simp only [numEnd, List.drop_zero, List.dropWhile_cons, show isFig 48 = true by decide, hy, if_true, List.length_cons]
    simp
  rw [valueP, hw, hp, if_neg (by decide)]
  split
  · rfl
  rw [if_neg (by decide), if_neg (by decide), if_neg (by decide), if_neg (by decide), if_neg (by decide), if_neg (by decide), numP, he]
  have hd : decP (List.take (1 - 0) (List.drop 0 (48 :: y :: u))) = (Num.zero, 0) := by
    show decP [48] = _
    decide +kernel
  simp only [hd]
  rfl
theorem zeros (f d : Nat) : ∀ (r : Nat) (g : Nat) (acc : List Tree) (n : Nat), 2 * r + 2 < g → n ≤ 4096 →
    (n + r + 1 ≤ 4096 → listP (48 :: zTail r) 93 (itemA (valueP (48 :: zTail r) (f + 1) d)) g acc 0 n = .ok (acc ++ List.replicate (r + 1) (tNum Num.zero)) (2 * r + 2) (n + r + 1)) ∧
    (4096 < n + r + 1 → ∃ b, listP (48 :: zTail r) 93 (itemA (valueP (48 :: zTail r) (f + 1) d)) g acc 0 n = .err 4 b)
  | r, 0, _, _, h, _ => by omega
  | r, g + 1, acc, n, h, hn => by
    obtain ⟨y, u, hyu, hf, hw⟩ := zTail_head r
    have h1 : itemA (valueP (48 :: zTail r) (f + 1) d) acc 0 n = if 4096 < n + 1 then .err 4 0 else .ok (acc ++ [tNum Num.zero]) 1 (n + 1) := by
      unfold itemA
      rw [hyu, zero_one y u hf]
      split <;> rfl
    have hw1 : whiteN (48 :: zTail r) 1 = 1 := by
      rw [hyu]
      simp [whiteN, List.dropWhile, hw]
    rw [listP, h1]
    by_cases hn1 : 4096 < n + 1
    · rw [if_pos hn1]
      exact ⟨fun h => by omega, fun _ => ⟨0, rfl⟩⟩
    rw [if_neg hn1]
    simp only [hw1]
    cases r with
    | zero =>
      have hp : peekP (48 :: zTail 0) 1 = 93 := rfl
      rw [hp, if_neg (by decide), if_pos (by rfl)]
      exact ⟨fun _ => rfl, fun h => by omega⟩
    | succ r =>
      have hp : peekP (48 :: zTail (r + 1)) 1 = 44 := by rw [zTail_succ]; rfl
      rw [hp, if_pos rfl]
      have hd : (48 :: zTail (r + 1)).drop 2 = 48 :: zTail r := by rw [zTail_succ]; rfl
      have hl : 2 + 0 ≤ (48 :: zTail (r + 1)).length := by rw [List.length_cons, zTail_len]; omega
      have hsh := listP_at (xs := 48 :: zTail (r + 1)) (c := 93) (a := 2) (item := itemA (valueP (48 :: zTail (r + 1)) (f + 1) d)) (item' := itemA (valueP ((48 :: zTail (r + 1)).drop 2) (f + 1) d))
        (fun s k n h => by unfold itemA; rw [valueP_at _ 2 (f + 1) d k n h, shiftR_map]) (fun s k n h => itemA_fine (fun k n h => valueP_fine (f + 1) _ _ _ h) s k n (by rw [List.length_drop]; omega)) g (acc ++ [tNum Num.zero]) 0 (n + 1) hl
      rw [hd] at hsh
      rw [show 1 + 1 = 2 + 0 from rfl, hsh]
      obtain ⟨i1, i2⟩ := zeros f d r g (acc ++ [tNum Num.zero]) (n + 1) (by omega) (by omega)
      refine ⟨fun h9 => ?_, fun h9 => ?_⟩
      · rw [i1 (by omega)]
        simp only [shiftR, List.append_assoc, List.replicate_succ (n := r + 1), List.singleton_append]
        congr 1 <;> omega
      · obtain ⟨b, hb⟩ := i2 (by omega)
        exact ⟨2 + b, by rw [hb]; rfl⟩
theorem zText_parse (m : Nat) (hm : 1 ≤ m) (hm2 : m ≤ 4200) : (m ≤ 4095 → ∃ a n, oneP (zText m) 0 = .ok (tArr (List.replicate m (tNum Num.zero))) a n ∧ whiteN (zText m) a = (zText m).length) ∧ (4095 < m → ∃ b, oneP (zText m) 0 = .err 4 b) := by
  obtain ⟨r, rfl⟩ : ∃ r, m = r + 1 := ⟨m - 1, by omega⟩
  have hx : zText (r + 1) = 91 :: 48 :: zTail r := rfl
  have hlen : (zText (r + 1)).length = 2 * r + 3 := by rw [hx]; simp [zTail_len]
  have hw0 : whiteN (zText (r + 1)) 0 = 0 := by rw [hx]; simp [whiteN, List.dropWhile, show isWhite 91 = false by decide]
  have hw1 : whiteN (zText (r + 1)) 1 = 1 := by rw [hx]; simp [whiteN, List.dropWhile, show isWhite 48 = false by decide]
  have hp0 : peekP (zText (r + 1)) 0 = 91 := rfl
  have hp1 : peekP (zText (r + 1)) 1 = 48 := rfl
  have hd : (zText (r + 1)).drop 1 = 48 :: zTail r := rfl
  have hcl : clampN (zText (r + 1)).length 0 = 0 := clampN_nat _ 0 (Nat.zero_le _)
  have hsh := listP_at (xs := zText (r + 1)) (c := 93) (a := 1) (item := itemA (valueP (zText (r + 1)) 64 1)) (item' := itemA (valueP ((zText (r + 1)).drop 1) 64 1))
        (fun s k n h => by unfold itemA; rw [valueP_at _ 1 64 1 k n h, shiftR_map]) (fun s k n h => itemA_fine (fun k n h => valueP_fine 64 _ _ _ h) s k n (by rw [List.length_drop]; omega)) ((zText (r + 1)).length + 1) [] 0 1 (by rw [hlen]; omega)
  rw [hd] at hsh
  have hval : oneP (zText (r + 1)) 0 = (shiftR 1 (listP (48 :: zTail r) 93 (itemA (valueP (48 :: zTail r) 64 1)) ((zText (r + 1)).length + 1) [] 0 1)).map tArr := by
    unfold oneP
    rw [hcl, valueP, hw0, hp0, if_neg (by decide), if_neg (by omega), if_neg (by decide), if_neg (by decide), if_neg (by decide), if_neg (by decide), if_pos rfl, if_neg (by omega), openP, hw1, hp1, if_neg (by decide)]
    rw [show (1 : Nat) = 1 + 0 from rfl] at hsh ⊢
    rw [← hsh]
  obtain ⟨i1, i2⟩ := zeros 63 1 r ((zText (r + 1)).length + 1) [] 1 (by rw [hlen]; omega) (by omega)
  refine ⟨fun h => ?_, fun h => ?_⟩
  · rw [hval, i1 (by omega)]
    refine ⟨_, _, rfl, ?_⟩
    unfold whiteN
    rw [List.drop_of_length_le (by rw [hlen]; omega)]
    simp
  · obtain ⟨b, hb⟩ := i2 (by omega)
    exact ⟨1 + b, by rw [hval, hb]; rfl⟩
def cBase (j : Nat) : List UInt8 := [123, 34, 97, 34, 58, 49] ++ ((List.range j).map fun i => [44, 34, UInt8.ofNat (98 + i), 34, 58, 50]).flatten
theorem cBase_is : ∀ j : Fin 16, (parseP (cBase j ++ [44, 32, 34, 92, 117, 48, 48, 54, 49, 34, 58, 51, 125])).2.1 = 7 ∧ (parseP (cBase j ++ [44, 32, 34, 92, 117, 48, 48, 54, 49, 34, 58, 51, 125])).2.2 = (cBase j).length + 2 ∧ (parseP (cBase j ++ [125])).2.1 = 0 := by decide +kernel
end Go.Proofs.YtckpndbmpigegaaDoor
