/- token: what Quote and IsName do. -/
import Derived.Test.YtglcpfnfldaimaaDoorTokG
import Derived.Test.YtglcpfnfldaimaaDoorWQuote
import Derived.Test.YtglcpfnfldaimaaDoorRefE
set_option linter.unusedVariables false
set_option linter.unusedSimpArgs false
set_option maxRecDepth 100000
namespace Orange
def tquoC (c : UInt8) : List UInt8 := if c = 39 then [92, 39] else if c = 34 then [34] else quoC c
def tquoL (l : List UInt8) : List UInt8 := l.flatMap tquoC
def tquote (l : List UInt8) : List UInt8 := 39 :: (tquoL l ++ [39])
def isName (l : List UInt8) : Bool := !l.isEmpty && letterR ((l.headD 0).toNat : Int) && nameOk l && decide (nameLen l = l.length)
theorem tquoC_len (c : UInt8) : (tquoC c).length ≤ 6 := by
  unfold tquoC
  split
  · simp
  split
  · simp
  · exact quoC_len c
theorem tquoL_len (l : List UInt8) : (tquoL l).length ≤ 6 * l.length := by
  induction l with
  | nil => simp [tquoL]
  | cons c t ih => have := tquoC_len c; simp only [tquoL, List.flatMap_cons, List.length_append, List.length_cons] at *; omega
theorem tquoL_snoc (l : List UInt8) (k : Nat) (h : k < l.length) : tquoL (l.take (k + 1)) = tquoL (l.take k) ++ tquoC l[k] := by
  rw [List.take_succ_eq_append_getElem h]; simp only [tquoL, List.flatMap_append, List.flatMap_cons, List.flatMap_nil, List.append_nil]
end Orange
namespace Go.Proofs.YtglcpfnfldaimaaDoor
open Go.RowKit Go.Mem Orange

theorem Bld.ext {w w' : World} {base b : Nat} {t : TypeId} {ex : List Value} {l : List UInt8} (h : Bld w base b t ex l) (hb : Ext w w') : Bld w' base b t ex l := by
  obtain ⟨p, v, h1, h2, h3, h4⟩ := h
  exact ⟨p, v, by rw [hb.block _ (Array.getElem?_eq_some_iff.1 h1).1]; exact h1, h2, h3, h4.ext hb⟩
theorem mid_ext (c : List UInt8) : ByteArray.extract ⟨(34 :: (c ++ [34])).toArray⟩ 1 (c.length + 1) = ⟨c.toArray⟩ := by
  apply ByteArray.ext
  apply Array.toList_inj.1
  simp [ByteArray.data_extract, Array.toList_extract, List.extract_eq_take_drop]
theorem one_ext (l : List UInt8) (k : Nat) (h : k < l.length) : ByteArray.extract ⟨l.toArray⟩ k (k + 1) = ⟨[l[k]].toArray⟩ := by
  apply ByteArray.ext
  apply Array.toList_inj.1
  simp only [ByteArray.data_extract, Array.toList_extract, List.extract_eq_take_drop]
  have e : k + 1 - k = 1 := by omega
  rw [e, List.drop_eq_getElem_cons h]
  rfl

theorem isname_any (l : List UInt8) (w : World) (hl : l.length ≤ 1000000000) :
    Calls Tryd.prog 18 #[.string ⟨l.toArray⟩] w fun e w' => e = .returned (.bool (isName l)) ∧ Ext w w' := by
  cases l with
  | nil =>
    go_enter Tryd.func18, Tryd.ntmps18
    go_wp2_with fail
    go_ret
    exact ⟨rfl, ext_refl w⟩
  | cons c t =>
    have h0 := get0 c t
    have hN : isName (c :: t) = (letterR (c.toNat : Int) && nameOk (c :: t) && decide (nameLen (c :: t) = (c :: t).length)) := rfl
    have HN := Lib.hid hN
    have hc8 : c.toNat < 256 := c.toNat_lt
    clear hN
    go_enter Tryd.func18, Tryd.ntmps18
    go_wp2_with fail
    refine (letter_any _ _).mono ?_
    rintro e w1 ⟨rfl, rfl⟩
    cases hlt : letterR (c.toNat : Int) with
    | false =>
      have hN : Hid (isName (c :: t) = false) := Lib.hid (by rw [HN.out, hlt]; rfl)
      go_wp2_with fail
      go_ret
      exact ⟨ret_bool hN.out.symm, ext_refl _⟩
    | true =>
      go_wp2_with fail
      refine (name_any (c :: t) _ hl).mono ?_
      rintro e w2 ⟨rfl, hw2⟩
      cases hok : nameOk (c :: t) with
      | false =>
        have hN : Hid (isName (c :: t) = false) := Lib.hid (by rw [HN.out, hok]; simp)
        go_wp2_with fail
        go_ret
        exact ⟨ret_bool hN.out.symm, hw2⟩
      | true =>
        have hN : Hid (isName (c :: t) = decide (nameLen (c :: t) = (c :: t).length)) := Lib.hid (by rw [HN.out, hok, hlt]; simp)
        generalize nameLen (c :: t) = n at *
        go_wp2_with fail
        go_ret
        refine ⟨ret_bool ?_, hw2⟩
        rw [hN.out, Bool.eq_iff_iff]; simp; omega

set_option maxHeartbeats 3200000 in
theorem tquote_any (l : List UInt8) (w : World) (hl : l.length ≤ 1000000000) :
    Calls Tryd.prog 16 #[.string ⟨l.toArray⟩] w fun e w' => e = .returned (.string ⟨(tquote l).toArray⟩) ∧ Ext w w' := by
  have hT := bldT_plain
  go_enter Tryd.func16, Tryd.ntmps16
  go_wp2_with fail
  have hb0 : (w.alloc (.cells #[.pointer none, .slice none 0 0] 61)).heap[w.heap.size]? = some (.cells #[.pointer none, .slice none 0 0] 61 (0, 0)) := heap_alloc_new _ _
  have hB0 : Bld (w.alloc (.cells #[.pointer none, .slice none 0 0] 61)) (w.heap.size + 1) w.heap.size 61 [] [] := ⟨_, _, hb0, .inl rfl, by omega, OwnB.nil _ _ _⟩
  have hs0 : (w.alloc (.cells #[.pointer none, .slice none 0 0] 61)).heap.size = w.heap.size + 1 := by simp
  have hx0 : Ext w (w.alloc (.cells #[.pointer none, .slice none 0 0] 61)) := (ext_refl w).alloc (Nat.le_refl _) _
  refine (wbyte _ _ _ [] _ _ 39 _ rfl hT hB0 (by simp) (by omega)).mono ?_
  rintro e w1 ⟨rfl, hB1, hK1, hs1⟩
  simp only [List.nil_append] at hB1
  go_wp2_with fail
  have hx1 : Ext w w1 := hx0.trans ((hK1.mono (by omega : w.heap.size ≤ w.heap.size + 1)).below (Nat.le_refl _))
  go_loopw [10] (fun iv wr => ∃ k : Nat, k ≤ l.length ∧ iv = .int .i64 k ∧ Bld wr (w.heap.size + 1) w.heap.size 61 [] (39 :: tquoL (l.take k)) ∧ Kept (w.heap.size + 1) w.heap.size w1 wr ∧ w.heap.size + 1 ≤ wr.heap.size) (fun iv _ => l.length - (intOf iv).toNat)
  case atStart => exact ⟨0, by omega, rfl, hB1, Kept.refl _ _ _, by omega⟩
  case round =>
    obtain ⟨k, hk, rfl, hB1, hKr, hs1⟩ := hrel
    have hq := tquoL_len (l.take k)
    have hq2 : (l.take k).length ≤ k := List.length_take_le _ _
    clear hB0 hb0 hs0 hx0 hK1
    by_cases hlt : k < l.length
    · have hsn := tquoL_snoc l k hlt
      have hgk := get_arr l k hlt
      have hox := one_ext l k hlt
      have hc8 : l[k].toNat < 256 := l[k].toNat_lt
      generalize l[k] = c at *
      have HSN := Lib.hid hsn
      clear hsn
      by_cases h39 : c.toNat = 39
      · have hc : c = 39 := UInt8.toNat_inj.1 h39
        have HQ : Hid (tquoL (l.take (k + 1)) = tquoL (l.take k) ++ [92, 39]) := Lib.hid (by rw [HSN.out, hc]; rfl)
        clear hc
        go_wp2_with fail
        refine (writeString_any _ _ _ [] _ _ _ hT hB1 (by show (39 :: tquoL (l.take k)).length + 2 ≤ 140737488355328; simp; omega) (by omega)).mono ?_
        rintro e w2 ⟨rfl, hB2, hK2⟩
        have hs2 := hK2.size
        go_wp2_with fail
        go_roundw
        case rel => exact ⟨k + 1, by omega, by go_num, by rw [HQ.out]; simpa using hB2, hKr.trans hK2, by omega⟩
        case measure => simp [intOf]; omega
      · have hn39 : c ≠ 39 := fun e => h39 (by rw [e]; rfl)
        have q39 : ((c.toNat : Int) == 39) = false := by simp; omega
        by_cases h34 : c.toNat = 34
        · have hc : c = 34 := UInt8.toNat_inj.1 h34
          have HQ : Hid (tquoL (l.take (k + 1)) = tquoL (l.take k) ++ [34]) := Lib.hid (by rw [HSN.out, hc]; rfl)
          clear hc h39 hn39 q39
          go_wp2_with fail
          refine (wbyte _ _ _ [] _ _ 34 _ rfl hT hB1 (by simp; omega) (by omega)).mono ?_
          rintro e w2 ⟨rfl, hB2, hK2, hs2⟩
          go_wp2_with fail
          go_roundw
          case rel => exact ⟨k + 1, by omega, by go_num, by rw [HQ.out]; simpa using hB2, hKr.trans hK2, by omega⟩
          case measure => simp [intOf]; omega
        · have hn34 : c ≠ 34 := fun e => h34 (by rw [e]; rfl)
          have q34 : ((c.toNat : Int) == 34) = false := by simp; omega
          have HQ : Hid (tquoL (l.take (k + 1)) = tquoL (l.take k) ++ quoC c) := Lib.hid (by rw [HSN.out, tquoC, if_neg hn39, if_neg hn34])
          have hql := quoC_len c
          clear h39 h34 hn39 hn34
          go_wp2_with fail
          refine (quote_any ⟨[c].toArray⟩ _ (by show [c].toArray.size ≤ _; simp)).mono ?_
          rintro e w2 ⟨rfl, hw2⟩
          have e1 : quote (ByteArray.mk [c].toArray).data.toList = 34 :: (quoC c ++ [34]) := by simp [quote, quoL]
          rw [e1]
          have hmx := mid_ext (quoC c)
          have hB2 := hB1.ext hw2
          have hK2 : Kept (w.heap.size + 1) w.heap.size wr w2 := Kept.ofBelow (hw2.mono hs1)
          have hs2 : w.heap.size + 1 ≤ w2.heap.size := Nat.le_trans hs1 hw2.size
          generalize quoC c = X at *
          clear e1
          go_wp2_with fail
          refine (writeString_any _ _ _ [] _ _ _ hT hB2 (by show (39 :: tquoL (l.take k)).length + X.toArray.size ≤ 140737488355328; simp; omega) hs2).mono ?_
          rintro e w3 ⟨rfl, hB3, hK3⟩
          have hs3 := hK3.size
          go_wp2_with fail
          go_roundw
          case rel => exact ⟨k + 1, by omega, by go_num, by rw [HQ.out]; simpa using hB3, (hKr.trans hK2).trans hK3, by omega⟩
          case measure => simp [intOf]; omega
    · obtain rfl : k = l.length := by omega
      rw [List.take_length] at hB1 hq hq2
      go_wp2_with fail
      refine (wbyte _ _ _ [] _ _ 39 _ rfl hT hB1 (by simp; omega) (by omega)).mono ?_
      rintro e w2 ⟨rfl, hB2, hK2, hs2⟩
      go_wp2_with fail
      refine (builderString_any _ _ _ [] _ _ hB2 (by simp; omega) (by simp)).mono ?_
      rintro e w3 ⟨rfl, hb3⟩
      go_wp2_with fail
      go_ret
      refine ⟨?_, hx1.trans (((hKr.trans hK2).mono (by omega : w.heap.size ≤ w.heap.size + 1)).below (Nat.le_refl _) |>.trans ((hb3.mono (by omega : w.heap.size ≤ w.heap.size + 1))))⟩
      rfl
end Go.Proofs.YtglcpfnfldaimaaDoor
