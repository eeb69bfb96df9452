/- utf: what Quote does. -/
import Derived.Test.YtglcpfnfldaimaaDoorWBldS
import Derived.Test.YtglcpfnfldaimaaDoorWEscA
set_option linter.unusedVariables false
set_option maxRecDepth 100000
namespace Orange
def quoC (c : UInt8) : List UInt8 :=
  if c = 34 ∨ c = 92 then [92, c] else if c = 8 then [92, 98] else if c = 9 then [92, 116] else if c = 10 then [92, 110] else if c = 12 then [92, 102] else if c = 13 then [92, 114]
  else if c.toNat < 32 then [92, 117, 48, 48, hexs[c.toNat / 16]?.getD 0, hexs[c.toNat % 16]?.getD 0] else [c]
def quoL (l : List UInt8) : List UInt8 := l.flatMap quoC
def quote (l : List UInt8) : List UInt8 := 34 :: (quoL l ++ [34])
theorem quoC_len (c : UInt8) : (quoC c).length ≤ 6 := by
  unfold quoC
  repeat' split
  all_goals simp
theorem quoL_len (l : List UInt8) : (quoL l).length ≤ 6 * l.length := by
  induction l with
  | nil => simp [quoL]
  | cons c t ih => have := quoC_len c; simp only [quoL, List.flatMap_cons, List.length_append, List.length_cons] at *; omega
theorem take_snoc (s : ByteArray) (k : Nat) (h : k < s.size) : s.data.toList.take (k + 1) = s.data.toList.take k ++ [s[k]] := by
  rw [List.take_succ_eq_append_getElem (by simpa using h)]; rfl
theorem quoL_snoc (s : ByteArray) (k : Nat) (h : k < s.size) (c : UInt8) (hc : s[k] = c) : quoL (s.data.toList.take (k + 1)) = quoL (s.data.toList.take k) ++ quoC c := by
  rw [take_snoc s k h, hc]; simp [quoL]
end Orange
namespace Go.Proofs.YtglcpfnfldaimaaDoor
open Go.RowKit Go.Mem Orange

theorem idx_none (s : List UInt8) (c : UInt8) (h : ∀ x ∈ s, x ≠ c) : Lib.indexByte s c = -1 := by
  induction s with
  | nil => rfl
  | cons x t ih =>
    have h1 := ih (fun y hy => h y (List.mem_cons_of_mem _ hy))
    have h2 : (x == c) = false := by simpa using h x (List.mem_cons_self ..)
    simp [Lib.indexByte, h1, h2]
theorem hexget (n : Nat) (h : n < 16) : hexs[n]?.getD 0 = (ByteArray.mk #[48, 49, 50, 51, 52, 53, 54, 55, 56, 57, 97, 98, 99, 100, 101, 102])[n]'h := by
  have : n = 0 ∨ n = 1 ∨ n = 2 ∨ n = 3 ∨ n = 4 ∨ n = 5 ∨ n = 6 ∨ n = 7 ∨ n = 8 ∨ n = 9 ∨ n = 10 ∨ n = 11 ∨ n = 12 ∨ n = 13 ∨ n = 14 ∨ n = 15 := by omega
  rcases this with rfl | rfl | rfl | rfl | rfl | rfl | rfl | rfl | rfl | rfl | rfl | rfl | rfl | rfl | rfl | rfl <;> rfl
theorem wbyte (base b : Nat) (t : TypeId) (ex : List Value) (l : List UInt8) (n : Int) (c : UInt8) (w : World) (hn : (c.toNat : Int) = n) (ht : BldT t (ex.length + 2)) (h : Bld w base b t ex l) (hl : l.length + 1 ≤ 140737488355328) (hbase : base ≤ w.heap.size) :
    Calls Tryd.prog 30 #[.pointer (some ⟨b, 0, none⟩), .int .u8 n] w fun e w' => e = .returned .nilIface ∧ Bld w' base b t ex (l ++ [c]) ∧ Kept base b w w' ∧ w.heap.size ≤ w'.heap.size := by
  subst hn
  refine (writeByte_any base b t ex l c w ht h hl hbase).mono ?_
  rintro e w' ⟨rfl, h1, h2⟩
  exact ⟨rfl, h1, h2, h2.size⟩

set_option maxHeartbeats 3200000 in
theorem quote_any (s : ByteArray) (w : World) (hl : s.size ≤ 1000000000) :
    Calls Tryd.prog 32 #[.string s] w fun e w' => e = .returned (.string ⟨(quote s.data.toList).toArray⟩) ∧ Ext w w' := by
  have hT := bldT_plain
  go_enter Tryd.func32, Tryd.ntmps32
  go_wp2_with fail
  have hb0 : (w.alloc (.cells #[.pointer none, .slice none 0 0] 61)).heap[w.heap.size]? = some (.cells #[.pointer none, .slice none 0 0] 61 (0, 0)) := heap_alloc_new _ _
  have hB0 : Bld (w.alloc (.cells #[.pointer none, .slice none 0 0] 61)) (w.heap.size + 1) w.heap.size 61 [] [] := ⟨_, _, hb0, .inl rfl, by omega, OwnB.nil _ _ _⟩
  have hs0 : (w.alloc (.cells #[.pointer none, .slice none 0 0] 61)).heap.size = w.heap.size + 1 := by simp
  have hx0 : Ext w (w.alloc (.cells #[.pointer none, .slice none 0 0] 61)) := (ext_refl w).alloc (Nat.le_refl _) _
  refine (wbyte _ _ _ [] _ _ 34 _ rfl hT hB0 (by simp) (by omega)).mono ?_
  rintro e w1 ⟨rfl, hB1, hK1, hs1⟩
  simp only [List.nil_append] at hB1
  go_wp2_with fail
  have hx1 : Ext w w1 := hx0.trans ((hK1.mono (by omega : w.heap.size ≤ w.heap.size + 1)).below (Nat.le_refl _))
  go_loopw [10] (fun iv wr => ∃ k : Nat, k ≤ s.size ∧ iv = .int .i64 k ∧ Bld wr (w.heap.size + 1) w.heap.size 61 [] (34 :: quoL (s.data.toList.take k)) ∧ Kept (w.heap.size + 1) w.heap.size w1 wr ∧ w.heap.size + 1 ≤ wr.heap.size) (fun iv _ => s.size - (intOf iv).toNat)
  case atStart => exact ⟨0, by omega, rfl, hB1, Kept.refl _ _ _, by omega⟩
  case round =>
    obtain ⟨k, hk, rfl, hB1, hKr, hs1⟩ := hrel
    have hq := quoL_len (s.data.toList.take k)
    have hq2 : (s.data.toList.take k).length ≤ k := List.length_take_le _ _
    clear hB0 hb0 hs0 hx0 hK1
    by_cases hlt : k < s.size
    · obtain ⟨c, hc⟩ : ∃ c, s[k] = c := ⟨_, rfl⟩
      have hsn := quoL_snoc s k hlt c hc
      have hc8 := c.toNat_lt
      by_cases hA : c = 34 ∨ c = 92
      · have hqc : quoC c = [92, c] := by rw [quoC, if_pos hA]
        rw [hqc] at hsn
        have HQ := Lib.hid hsn
        have hix : Lib.indexByte [8, 9, 10, 12, 13] c = -1 := by rcases hA with rfl | rfl <;> decide
        clear hsn hqc
        rcases hA with rfl | rfl
        · go_wp2_with fail
          refine (idx_eq _ 34 _ _ hix).mono ?_
          rintro e w' ⟨rfl, rfl⟩
          go_wp2_with fail
          refine (wbyte _ _ _ [] _ _ 92 _ (rfl) hT hB1 (by simp; omega) (by omega)).mono ?_
          rintro e w2 ⟨rfl, hB2, hK2, hs2⟩
          go_wp2_with fail
          refine (wbyte _ _ _ [] _ _ 34 _ (rfl) hT hB2 (by simp; omega) (by omega)).mono ?_
          rintro e w3 ⟨rfl, hB3, hK3, hs3⟩
          go_wp2_with fail
          go_roundw
          case rel => exact ⟨k + 1, by omega, by go_num, by rw [HQ.out]; simpa using hB3, ((hKr).trans hK2).trans hK3, by omega⟩
          case measure => simp [intOf]; omega
        · go_wp2_with fail
          refine (idx_eq _ 92 _ _ hix).mono ?_
          rintro e w' ⟨rfl, rfl⟩
          go_wp2_with fail
          refine (wbyte _ _ _ [] _ _ 92 _ (rfl) hT hB1 (by simp; omega) (by omega)).mono ?_
          rintro e w2 ⟨rfl, hB2, hK2, hs2⟩
          go_wp2_with fail
          refine (wbyte _ _ _ [] _ _ 92 _ (rfl) hT hB2 (by simp; omega) (by omega)).mono ?_
          rintro e w3 ⟨rfl, hB3, hK3, hs3⟩
          go_wp2_with fail
          go_roundw
          case rel => exact ⟨k + 1, by omega, by go_num, by rw [HQ.out]; simpa using hB3, ((hKr).trans hK2).trans hK3, by omega⟩
          case measure => simp [intOf]; omega
      by_cases hN : c = 8 ∨ c = 9 ∨ c = 10 ∨ c = 12 ∨ c = 13
      · rcases hN with rfl | rfl | rfl | rfl | rfl
        · have hqc : quoC 8 = [92, 98] := by decide
          rw [hqc] at hsn
          have HQ := Lib.hid hsn
          have hix : Lib.indexByte [8, 9, 10, 12, 13] 8 = 0 := by decide
          clear hsn hqc hA
          go_wp2_with fail
          refine (idx_eq _ 8 _ _ hix).mono ?_
          rintro e w' ⟨rfl, rfl⟩
          go_wp2_with fail
          refine (wbyte _ _ _ [] _ _ 92 _ (rfl) hT hB1 (by simp; omega) (by omega)).mono ?_
          rintro e w2 ⟨rfl, hB2, hK2, hs2⟩
          go_wp2_with fail
          refine (wbyte _ _ _ [] _ _ 98 _ (rfl) hT hB2 (by simp; omega) (by omega)).mono ?_
          rintro e w3 ⟨rfl, hB3, hK3, hs3⟩
          go_wp2_with fail
          go_roundw
          case rel => exact ⟨k + 1, by omega, by go_num, by rw [HQ.out]; simpa using hB3, ((hKr).trans hK2).trans hK3, by omega⟩
          case measure => simp [intOf]; omega
        · have hqc : quoC 9 = [92, 116] := by decide
          rw [hqc] at hsn
          have HQ := Lib.hid hsn
          have hix : Lib.indexByte [8, 9, 10, 12, 13] 9 = 1 := by decide
          clear hsn hqc hA
          go_wp2_with fail
          refine (idx_eq _ 9 _ _ hix).mono ?_
          rintro e w' ⟨rfl, rfl⟩
          go_wp2_with fail
          refine (wbyte _ _ _ [] _ _ 92 _ (rfl) hT hB1 (by simp; omega) (by omega)).mono ?_
          rintro e w2 ⟨rfl, hB2, hK2, hs2⟩
          go_wp2_with fail
          refine (wbyte _ _ _ [] _ _ 116 _ (rfl) hT hB2 (by simp; omega) (by omega)).mono ?_
          rintro e w3 ⟨rfl, hB3, hK3, hs3⟩
          go_wp2_with fail
          go_roundw
          case rel => exact ⟨k + 1, by omega, by go_num, by rw [HQ.out]; simpa using hB3, ((hKr).trans hK2).trans hK3, by omega⟩
          case measure => simp [intOf]; omega
        · have hqc : quoC 10 = [92, 110] := by decide
          rw [hqc] at hsn
          have HQ := Lib.hid hsn
          have hix : Lib.indexByte [8, 9, 10, 12, 13] 10 = 2 := by decide
          clear hsn hqc hA
          go_wp2_with fail
          refine (idx_eq _ 10 _ _ hix).mono ?_
          rintro e w' ⟨rfl, rfl⟩
          go_wp2_with fail
          refine (wbyte _ _ _ [] _ _ 92 _ (rfl) hT hB1 (by simp; omega) (by omega)).mono ?_
          rintro e w2 ⟨rfl, hB2, hK2, hs2⟩
          go_wp2_with fail
          refine (wbyte _ _ _ [] _ _ 110 _ (rfl) hT hB2 (by simp; omega) (by omega)).mono ?_
          rintro e w3 ⟨rfl, hB3, hK3, hs3⟩
          go_wp2_with fail
          go_roundw
          case rel => exact ⟨k + 1, by omega, by go_num, by rw [HQ.out]; simpa using hB3, ((hKr).trans hK2).trans hK3, by omega⟩
          case measure => simp [intOf]; omega
        · have hqc : quoC 12 = [92, 102] := by decide
          rw [hqc] at hsn
          have HQ := Lib.hid hsn
          have hix : Lib.indexByte [8, 9, 10, 12, 13] 12 = 3 := by decide
          clear hsn hqc hA
          go_wp2_with fail
          refine (idx_eq _ 12 _ _ hix).mono ?_
          rintro e w' ⟨rfl, rfl⟩
          go_wp2_with fail
          refine (wbyte _ _ _ [] _ _ 92 _ (rfl) hT hB1 (by simp; omega) (by omega)).mono ?_
          rintro e w2 ⟨rfl, hB2, hK2, hs2⟩
          go_wp2_with fail
          refine (wbyte _ _ _ [] _ _ 102 _ (rfl) hT hB2 (by simp; omega) (by omega)).mono ?_
          rintro e w3 ⟨rfl, hB3, hK3, hs3⟩
          go_wp2_with fail
          go_roundw
          case rel => exact ⟨k + 1, by omega, by go_num, by rw [HQ.out]; simpa using hB3, ((hKr).trans hK2).trans hK3, by omega⟩
          case measure => simp [intOf]; omega
        · have hqc : quoC 13 = [92, 114] := by decide
          rw [hqc] at hsn
          have HQ := Lib.hid hsn
          have hix : Lib.indexByte [8, 9, 10, 12, 13] 13 = 4 := by decide
          clear hsn hqc hA
          go_wp2_with fail
          refine (idx_eq _ 13 _ _ hix).mono ?_
          rintro e w' ⟨rfl, rfl⟩
          go_wp2_with fail
          refine (wbyte _ _ _ [] _ _ 92 _ (rfl) hT hB1 (by simp; omega) (by omega)).mono ?_
          rintro e w2 ⟨rfl, hB2, hK2, hs2⟩
          go_wp2_with fail
          refine (wbyte _ _ _ [] _ _ 114 _ (rfl) hT hB2 (by simp; omega) (by omega)).mono ?_
          rintro e w3 ⟨rfl, hB3, hK3, hs3⟩
          go_wp2_with fail
          go_roundw
          case rel => exact ⟨k + 1, by omega, by go_num, by rw [HQ.out]; simpa using hB3, ((hKr).trans hK2).trans hK3, by omega⟩
          case measure => simp [intOf]; omega
      have hix : Lib.indexByte [8, 9, 10, 12, 13] c = -1 := idx_none _ _ (by
        intro y hy e
        simp only [List.mem_cons, List.not_mem_nil, or_false] at hy
        apply hN; rw [← e]; exact hy)
      have hd1 : (((c.toNat : Nat) : Int) == 34) = false := by
        simp only [beq_eq_false_iff_ne, ne_eq]; intro e; exact hA (.inl (UInt8.toNat.inj (by simpa using (by omega : c.toNat = 34))))
      have hd2 : (((c.toNat : Nat) : Int) == 92) = false := by
        simp only [beq_eq_false_iff_ne, ne_eq]; intro e; exact hA (.inr (UInt8.toNat.inj (by simpa using (by omega : c.toNat = 92))))
      have hq1 : quoC c = if c.toNat < 32 then [92, 117, 48, 48, hexs[c.toNat / 16]?.getD 0, hexs[c.toNat % 16]?.getD 0] else [c] := by
        simp only [not_or] at hN
        rw [quoC, if_neg hA, if_neg hN.1, if_neg hN.2.1, if_neg hN.2.2.1, if_neg hN.2.2.2.1, if_neg hN.2.2.2.2]
      clear hA hN
      by_cases h32 : c.toNat < 32
      · rw [hq1, if_pos h32] at hsn
        have HQ := Lib.hid hsn
        clear hsn hq1
        have hd3 : decide (((c.toNat : Nat) : Int) < 32) = true := by simp; omega
        go_wp2_with fail
        refine (idx_eq _ c _ _ hix).mono ?_
        rintro e w' ⟨rfl, rfl⟩
        go_wp2_with fail
        refine (writeString_any _ _ _ [] _ _ _ hT hB1 (by show (34 :: quoL (s.data.toList.take k)).length + 4 ≤ 140737488355328; simp; omega) (by omega)).mono ?_
        rintro e w2 ⟨rfl, hB2, hK2⟩
        have hs2 := hK2.size
        go_wp2_with fail
        refine (wbyte _ _ _ [] _ _ (hexs[c.toNat / 16]?.getD 0) _ (by rw [hexget _ (by omega)]) hT hB2 (by simp; omega) (by omega)).mono ?_
        rintro e w3 ⟨rfl, hB3, hK3, hs3⟩
        go_wp2_with fail
        refine (wbyte _ _ _ [] _ _ (hexs[c.toNat % 16]?.getD 0) _ (by rw [hexget _ (by omega)]) hT hB3 (by simp; omega) (by omega)).mono ?_
        rintro e w4 ⟨rfl, hB4, hK4, hs4⟩
        go_wp2_with fail
        go_roundw
        case rel => exact ⟨k + 1, by omega, by go_num, by rw [HQ.out]; simpa using hB4, (((hKr).trans hK2).trans hK3).trans hK4, by omega⟩
        case measure => simp [intOf]; omega
      · rw [hq1, if_neg h32] at hsn
        have HQ := Lib.hid hsn
        clear hsn hq1
        have hd3 : decide (((c.toNat : Nat) : Int) < 32) = false := by simp; omega
        go_wp2_with fail
        refine (idx_eq _ c _ _ hix).mono ?_
        rintro e w' ⟨rfl, rfl⟩
        go_wp2_with fail
        refine (wbyte _ _ _ [] _ _ c _ (rfl) hT hB1 (by simp; omega) (by omega)).mono ?_
        rintro e w2 ⟨rfl, hB2, hK2, hs2⟩
        go_wp2_with fail
        go_roundw
        case rel => exact ⟨k + 1, by omega, by go_num, by rw [HQ.out]; simpa using hB2, (hKr).trans hK2, by omega⟩
        case measure => simp [intOf]; omega
    · obtain rfl : k = s.size := by omega
      go_wp2_with fail
      refine (wbyte _ _ _ [] _ _ 34 _ rfl hT hB1 (by simp; omega) (by omega)).mono ?_
      rintro e w2 ⟨rfl, hB2, hK2, hs2⟩
      go_wp2_with fail
      refine (builderString_any _ _ _ [] _ _ hB2 (by simp; omega) (by simp)).mono ?_
      rintro e w3 ⟨rfl, hb3⟩
      go_wp2_with fail
      go_ret
      have hfull : s.data.toList.take s.size = s.data.toList := List.take_of_length_le (by rw [Array.length_toList]; exact Nat.le_refl _)
      refine ⟨?_, hx1.trans (((hKr.trans hK2).mono (by omega : w.heap.size ≤ w.heap.size + 1)).below (Nat.le_refl _) |>.trans ((hb3.mono (by omega : w.heap.size ≤ w.heap.size + 1))))⟩
      rw [hfull]; rfl
end Go.Proofs.YtglcpfnfldaimaaDoor
