/- Several texts of this proof in one. -/
import Derived.Test.YtckpndbmpigegaaDoorQParseIs2
import Derived.Test.YtckpndbmpigegaaDoorQParseIs1
section
/- the documents' parser: value. -/
set_option linter.unusedVariables false
set_option linter.unusedSimpArgs false
set_option maxRecDepth 100000
namespace Go.Proofs.YtckpndbmpigegaaDoor
open Go.RowKit Go.Mem Orange
theorem begs_cases (c : UInt8) : (c ≠ 0 ∧ begs.contains c = true) ↔ (c.toNat = 116 ∨ c.toNat = 102 ∨ c.toNat = 110 ∨ c.toNat = 45 ∨ (48 ≤ c.toNat ∧ c.toNat ≤ 57) ∨ c.toNat = 34 ∨ c.toNat = 91 ∨ c.toNat = 123) := by
  have : ∀ c : Fin 256, (UInt8.ofFin c ≠ 0 ∧ begs.contains (UInt8.ofFin c) = true) ↔ ((UInt8.ofFin c).toNat = 116 ∨ (UInt8.ofFin c).toNat = 102 ∨ (UInt8.ofFin c).toNat = 110 ∨ (UInt8.ofFin c).toNat = 45 ∨ (48 ≤ (UInt8.ofFin c).toNat ∧ (UInt8.ofFin c).toNat ≤ 57) ∨ (UInt8.ofFin c).toNat = 34 ∨ (UInt8.ofFin c).toNat = 91 ∨ (UInt8.ofFin c).toNat = 123) := by decide +kernel
  exact this c.toFin
theorem KeptQ.trans {base p q : Nat} {w w1 w2 : World} (h : KeptQ base p q w w1) (k : KeptQ base p q w1 w2) : KeptQ base p q w w2 :=
  ⟨k.os.trans h.os, k.tape.trans h.tape, k.output.trans h.output, Nat.le_trans h.size k.size, fun b hb hp hq => (k.block b hb hp hq).trans (h.block b hb hp hq)⟩
theorem u8_lit (c : UInt8) (k : UInt8) (h : c.toNat = k.toNat) : c = k := UInt8.toNat_inj.1 h
/-- a member's nine cells -/
def memCells (k : List UInt8) (c : Array Value) : Array Value := ⟨.string ⟨k.toArray⟩ :: c.toList⟩
abbrev mem9 (y : List UInt8) (k : Int) (b : Bool) (d : Num) (s : List UInt8) (vL vM : Value) : Array Value := #[.string ⟨y.toArray⟩, .int .i64 k, .bool b, .bool d.neg, .string ⟨d.digits.toArray⟩, .int .i64 d.exp, .string ⟨s.toArray⟩, vL, vM]
theorem memCells_inj {k k' : List UInt8} {c c' : Array Value} (h : Value.agg (memCells k c) = .agg (memCells k' c')) : k = k' ∧ c = c' := by
  simp only [memCells, Value.agg.injEq, Array.mk.injEq, List.cons.injEq, Value.string.injEq, ByteArray.mk.injEq] at h
  obtain ⟨h1, h2⟩ := h
  exact ⟨by simpa using h1, Array.toList_inj.1 h2⟩
theorem memCells_size {k : List UInt8} {c : Array Value} (h : c.size = 8) : (memCells k c).size = 9 := by
  simp [memCells, h]
theorem memCells_one {k : List UInt8} {c : Array Value} (h : ∀ u ∈ c.toList, u.oneCell' = true) : ∀ u ∈ (memCells k c).toList, u.oneCell' = true := by
  intro u hu
  rcases List.mem_cons.1 hu with rfl | h'
  · rfl
  · exact h u h'
theorem EndM.all {p : Nat} {v : Value} {xs : List UInt8} {w w' : World} {e : Ending} {r : PR (List UInt8 × Tree)} (h : EndM p v xs w e w' r) : ∃ (s : List UInt8) (c : Array Value) (t : Tree) (n : Nat), e = .returned (.agg (memCells s c)) ∧ r.tp (s, t) ∧ r.np n ∧ TV w' (fun g => w.heap.size ≤ g) t c ∧ SS w' p v xs r.pl n r.er ∧ KeptP p w w' := by
  cases r with
  | ok x a n =>
    obtain ⟨c, h1, h2, h3, h4⟩ := h
    exact ⟨x.1, c, x.2, n, h1, rfl, rfl, h2, h3, h4⟩
  | err er a =>
    obtain ⟨s, c, t, n, h1, h2, h3, h4⟩ := h
    exact ⟨s, c, t, n, h1, trivial, trivial, h2, h3, h4⟩
section
variable {G0 G1 : World → World → Prop} {sp p B : Nat}
/-- a member that came back -/
def specMQ (h0 : ∀ w w', G0 w w' → KeptP p w w') (h1 : ∀ w w', G1 w w' → KeptP p w w') (hp : p < B) (Q : List UInt8 × Tree → Prop) : GrowS.Spec (GrowS.gS sp G0 G1) :=
  ⟨fun v => ∃ y k b d s a1 n1 c1 a2 n2 c2, v = .agg (mem9 y k b d s (.slice a1 n1 c1) (.slice a2 n2 c2)), fun v w => ∃ y t c, Q (y, t) ∧ v = .agg (memCells y c) ∧ TV w (fun g => B ≤ g) t c, ⟨_, [], 0, false, Num.zero, [], none, 0, 0, none, 0, 0, rfl⟩,
    fun i v w w' ⟨y, t, c, hq, e, h⟩ hg => ⟨y, t, c, hq, e, h.kept (by unfold GrowS.gS at hg; split at hg; exact h1 _ _ hg; exact h0 _ _ hg) hp⟩⟩
/-- a new slice of one member that came back -/
def specOneM (h0 : ∀ w w', G0 w w' → KeptP p w w') (h1 : ∀ w w', G1 w w' → KeptP p w w') (hp : p < B) (Q : List UInt8 × Tree → Prop) : GrowS.Spec (GrowS.gS sp G0 G1) :=
  ⟨fun v => ∃ g, v = .slice (some ⟨g, 0, none⟩) 1 1, fun v w => ∃ g y t c, v = .slice (some ⟨g, 0, none⟩) 1 1 ∧ B ≤ g ∧ w.heap[g]? = some (.cells (memCells y c) 41 (0, 0)) ∧ Q (y, t) ∧ TV w (fun g => B ≤ g) t c, ⟨_, 0, rfl⟩,
    fun i v w w' ⟨g, y, t, c, e, hg, h, hq, htv⟩ hG => by
      have hk : KeptP p w w' := by unfold GrowS.gS at hG; split at hG; exact h1 _ _ hG; exact h0 _ _ hG
      exact ⟨g, y, t, c, e, hg, by rw [hk.block g (Array.getElem?_eq_some_iff.1 h).1 (by omega)]; exact h, hq, htv.kept hk hp⟩⟩
end
theorem memP_fine {xs : List UInt8} {f deep a n b : Nat} {e : Int} {acc : List (List UInt8 × Tree)} (h : a ≤ xs.length) (hm : memP xs (valueP xs f deep) acc a n = .err e b) : e ≠ 0 := by
  have h1 := itemO_fine (r := valueP xs f deep) (fun a n h => valueP_fine f deep a n h) acc a n h
  rw [itemO_eq, hm] at h1
  exact h1.1
theorem memP_ok {xs : List UInt8} {f deep a n a' n' : Nat} {x : List UInt8 × Tree} {acc : List (List UInt8 × Tree)} (h : a ≤ xs.length) (hm : memP xs (valueP xs f deep) acc a n = .ok x a' n') : a < a' ∧ n' ≤ 4096 := by
  unfold memP at hm
  have hw := whiteN_ge xs a h
  cases ht : textP xs (whiteN xs a) n with
  | err e b => rw [ht] at hm; cases hm
  | ok key a1 n1 =>
    rw [ht] at hm
    simp only at hm
    unfold textP at ht
    split at ht
    · next h34 =>
      have h1 := textL_ok xs n _ _ _ _ _ _ ht
      split at hm
      · cases hm
      · split at hm
        · next h58 =>
          have h2 := (List.getElem?_eq_some_iff.1 h58).1
          cases hv : valueP xs f deep (whiteN xs a1 + 1) n1 with
          | err e b => rw [hv] at hm; cases hm
          | ok t k m =>
            rw [hv] at hm
            cases hm
            have h3 := valueP_ok _ _ _ _ _ _ _ (by omega) hv
            have h4 := textL_fine xs n (xs.length + 1) (whiteN xs a + 1) [] (by have := (List.getElem?_eq_some_iff.1 h34).1; omega)
            rw [ht] at h4
            have h5 := whiteN_ge xs a1 h4
            omega
        · cases hm
    · cases ht
-- the end: a fail at place q ($1 the error): HRF : Hid (.err $1 q = R)
-- the end: a leaf laid into S ($1..$8 its cells, $9 the tree's TV.leaf) from world wz, HPZ : SS wz, HKZ, HVZ
-- more values than may be: error 4 at q; otherwise go on. $1: what simplifies HRR
-- a word: $1 its bytes, $2 its length, $3 its tree, $4 its kind, $5 its truth
-- a number
-- reads and idle operations of a region with one special operation
-- the array's loop, from world w8: HP8, HK8, HV8, HVV8; $1 at the start
set_option maxHeartbeats 25600000 in
theorem rvalue_step (p : Nat) (v : Value) (xs : List UInt8) (f deep : Nat) (hdp : deep ≤ 64) (ih : deep < 64 → ∀ a n w, SS w p v xs a n 0 → n ≤ 4096 → Calls Tryd.prog 22 #[.pointer (some ⟨p, 0, none⟩), .int .i64 (deep + 1 : Nat)] w (fun e w' => EndS p v xs w e w' (valueP xs f (deep + 1) a n)))
    (a n : Nat) (w : World) (h : SS w p v xs a n 0) (hn4 : n ≤ 4096) :
    Calls Tryd.prog 22 #[.pointer (some ⟨p, 0, none⟩), .int .i64 (deep : Nat)] w (fun e w' => EndS p v xs w e w' (valueP xs (f + 1) deep a n)) := by
  obtain ⟨R, hR⟩ : ∃ R, valueP xs (f + 1) deep a n = R := ⟨_, rfl⟩
  rw [hR]
  rw [valueP] at hR
  have IH := Lib.hid ih
  have HP0 := Lib.hid h
  have hx := h.2.1.len
  have hpw : p < w.heap.size := h.1.cells.2.2.2.2.2.2.2
  have hv := VAt.new w zeroV
  have hx1 : Ext w (w.alloc (.cells zeroV 29)) := (ext_refl w).alloc (Nat.le_refl _) _
  have HP := Lib.hid (h.ext hx1)
  have hql := whiteN_le xs a
  obtain ⟨q, hq⟩ : ∃ q, whiteN xs a = q := ⟨_, rfl⟩
  obtain ⟨n1, hn1⟩ : ∃ n1, n + 1 = n1 := ⟨_, rfl⟩
  rw [hq] at hR hql
  rw [hn1] at hR
  have HRR := Lib.hid hR
  have HQ := Lib.hid hq
  simp only [zeroV, cellsV, Num.zero, noL] at hv hx1 HP
  obtain ⟨va, vl, vc, hvs⟩ := h.slice
  have hvl : vl = xs.length := by obtain ⟨a0, c0, e0, _⟩ := h.2.1; rw [hvs] at e0; simp only [Value.slice.injEq] at e0; exact e0.2.1
  subst hvs hvl
  clear h ih hR hq
  go_enter Tryd.func22, Tryd.ntmps22
  go_upto_region 1 with fail
  obtain ⟨S, hS⟩ : ∃ S, w.heap.size = S := ⟨_, rfl⟩
  rw [hS] at hv hpw ⊢
  generalize w.alloc (.cells #[.int .i64 0, .bool false, .bool false, .string ⟨#[]⟩, .int .i64 0, .string ⟨#[]⟩, .slice none 0 0, .slice none 0 0] 29) = w1 at *
  have HSS := Lib.hid hS
  have HV := Lib.hid hv
  have HE := Lib.hid hx1
  clear hv hx1 hS
  go_wp2_with fail
  refine (swhite_any p _ xs a n 0 w1 HP.out).mono ?_
  rintro e w2 ⟨rfl, hs2, hk2⟩
  rw [HQ.out] at hs2
  replace HP := Lib.hid hs2
  replace HV := Lib.hid (HV.out.kept hk2 (by omega))
  have HK := Lib.hid ((KeptP.ofExt HE.out).trans hk2)
  clear hs2 hk2 HE
  obtain ⟨c0, c1, c2, c3, f1, f2, f3, hpl⟩ := HP.out.1.cells
  have e8 : IntKind.i64.wrap ((n : Int) + 1) = (n1 : Int) := by rw [IntWalk.i64_in _ (by omega)]; omega
  have HN1 := Lib.hid hn1
  clear hn1
  have hp3 := HP.out.setN n1
  have hk3 : KeptP p w2 (w2.setCell ⟨p, 1, none⟩ (.int .i64 (n1 : Nat))) := KeptP.set _
  have hv3 := HV.out.oth (p := p) (i := 1) (u := .int .i64 (n1 : Nat)) (by omega)
  go_upto_region 4 with fail
  clear c0 c1 c2 c3 f1 f2 f3
  generalize w2.setCell ⟨p, 1, none⟩ (.int .i64 (n1 : Nat)) = w3 at *
  have hv4 := VAt.new w3 #[.int .i64 0, .bool false, .bool false, .string ⟨#[]⟩, .int .i64 0, .string ⟨#[]⟩, .slice none 0 0, .slice none 0 0]
  have hx4 : Ext w3 (w3.alloc (.cells #[.int .i64 0, .bool false, .bool false, .string ⟨#[]⟩, .int .i64 0, .string ⟨#[]⟩, .slice none 0 0, .slice none 0 0] 29)) := (ext_refl w3).alloc (Nat.le_refl _) _
  obtain ⟨V, hV⟩ : ∃ V, w3.heap.size = V := ⟨_, rfl⟩
  have hSV : S < V := by have := hv3.lt; omega
  rw [hV] at hv4
  go_upto_region 5 with fail
  generalize w3.alloc (.cells #[.int .i64 0, .bool false, .bool false, .string ⟨#[]⟩, .int .i64 0, .string ⟨#[]⟩, .slice none 0 0, .slice none 0 0] 29) = w4 at *
  replace HK := Lib.hid ((HK.out.trans hk3).toExt hx4)
  replace HP := Lib.hid (hp3.ext hx4)
  replace HV := Lib.hid (hv3.ext hx4)
  have HVV := Lib.hid hv4
  clear hp3 hk3 hv3 hv4 hx4 hV
  have hrr := HRR.out
  obtain ⟨c0, c1, c2, c3, f1, f2, f3, hpl⟩ := HP.out.1.cells
  by_cases hqe : q = xs.length
  · subst hqe
    have HRF : Hid (.err 2 xs.length = R) := Lib.hid (by rw [← hrr, peekP_ge (by omega), if_pos (by simp)])
    have hee : ((xs.length : Int) == (xs.length : Int)) = true := by simp
    clear hrr
    go_wp2_with fail
    refine (fail_any p _ xs xs.length n1 2 xs.length _ HP.out hql).mono ?_
    rintro e w8 ⟨rfl, hs8, hk8⟩
    have HP8 := Lib.hid hs8
    have HK8 := Lib.hid (HK.out.trans hk8)
    have HV2 := Lib.hid (HV.out.kept hk8 (by omega))
    clear hs8 hk8 c0 c1 c2 c3 f1 f2 f3
    simp only [zeroV, cellsV, Num.zero, noL]
    have y0 := HV2.out.cell 0; have y1 := HV2.out.cell 1; have y2 := HV2.out.cell 2; have y3 := HV2.out.cell 3; have y4 := HV2.out.cell 4; have y5 := HV2.out.cell 5; have y6 := HV2.out.cell 6; have y7 := HV2.out.cell 7
    have g0 := HV2.out.free 0; have g1 := HV2.out.free 1; have g2 := HV2.out.free 2; have g3 := HV2.out.free 3; have g4 := HV2.out.free 4; have g5 := HV2.out.free 5; have g6 := HV2.out.free 6; have g7 := HV2.out.free 7
    simp at y0 y1 y2 y3 y4 y5 y6 y7
    go_wp2_with fail
    rw [← HRF.out]
    have hV := VAt.store8 HV2.out (.int .i64 0) (.bool false) (.bool false) (.string ⟨#[]⟩) (.int .i64 0) (.string ⟨#[]⟩) (.slice none 0 0) (.slice none 0 0)
    have HV := Lib.hid hV
    have v0 := HV.out.cell 0; have v1 := HV.out.cell 1; have v2 := HV.out.cell 2; have v3 := HV.out.cell 3; have v4 := HV.out.cell 4; have v5 := HV.out.cell 5; have v6 := HV.out.cell 6; have v7 := HV.out.cell 7
    simp only [List.getElem?_toArray, List.getElem?_cons_zero, List.getElem?_cons_succ] at v0 v1 v2 v3 v4 v5 v6 v7
    refine bodyPost_ret (v := .agg #[.int .i64 0, .bool false, .bool false, .string ⟨#[]⟩, .int .i64 0, .string ⟨#[]⟩, .slice none 0 0, .slice none 0 0]) (by simp [results, Tryd.results22, go_sem, v0, v1, v2, v3, v4, v5, v6, v7]) rfl ?_
    have hfin := HP0.out.fresh HP8.out HK8.out (below_store8 (p := S) (Below.refl _ w8) (by rw [HSS.out]; exact Nat.le_refl _) (.int .i64 0) (.bool false) (.bool false) (.string ⟨#[]⟩) (.int .i64 0) (.string ⟨#[]⟩) (.slice none 0 0) (.slice none 0 0))
    exact ⟨_, _, _, rfl, TV.leaf _ _ 0 false Num.zero [], hfin.1, hfin.2⟩
  have hlt : q < xs.length := by omega
  have hqi : ((q : Int) == (xs.length : Int)) = false := by simp; omega
  have hq0 : (0 : Int) ≤ q := by omega
  have hqlt : (q : Int) < xs.length := by omega
  obtain ⟨bk, o, rfl, hcell⟩ := bytes_cell HP.out.2.1.bytes hlt
  have hcc := hcell w4 (ext_refl _)
  rw [peekP_lt hlt] at hrr
  have hget : xs[q]? = some xs[q] := List.getElem?_eq_getElem hlt
  generalize xs[q] = c at *
  have HGET := Lib.hid hget
  have HX0 : Hid (0 < xs.length) := Lib.hid (by omega)
  replace HRR := Lib.hid hrr
  clear hrr hcell hget hqe
  by_cases hb : ¬ (c ≠ 0 ∧ begs.contains c = true)
  · have HRF : Hid (.err 2 q = R) := Lib.hid (by rw [← HRR.out, if_pos hb])
    have hcs : ¬ (c.toNat = 116 ∨ c.toNat = 102 ∨ c.toNat = 110 ∨ c.toNat = 45 ∨ (48 ≤ c.toNat ∧ c.toNat ≤ 57) ∨ c.toNat = 34 ∨ c.toNat = 91 ∨ c.toNat = 123) := fun h => hb ((begs_cases c).2 h)
    have n1' : ((c.toNat : Int) == 116) = false := by simp; omega
    have n2' : ((c.toNat : Int) == 102) = false := by simp; omega
    have n3' : ((c.toNat : Int) == 110) = false := by simp; omega
    have n4' : ((c.toNat : Int) == 45) = false := by simp; omega
    have n5' : ((c.toNat : Int) == 34) = false := by simp; omega
    have n6' : ((c.toNat : Int) == 91) = false := by simp; omega
    have n7' : ((c.toNat : Int) == 123) = false := by simp; omega
    have hdd : c.toNat < 48 ∨ 57 < c.toNat := by omega
    clear hb hcs
    rcases hdd with hdd | hdd
    · have d1 : decide ((c.toNat : Int) ≥ 48) = false := by simp; omega
      go_wp2_with fail
      refine (fail_any p _ xs q n1 2 q _ HP.out hql).mono ?_
      rintro e w8 ⟨rfl, hs8, hk8⟩
      have HP8 := Lib.hid hs8
      have HK8 := Lib.hid (HK.out.trans hk8)
      have HV2 := Lib.hid (HV.out.kept hk8 (by omega))
      clear hs8 hk8 c0 c1 c2 c3 f1 f2 f3
      simp only [zeroV, cellsV, Num.zero, noL]
      have y0 := HV2.out.cell 0; have y1 := HV2.out.cell 1; have y2 := HV2.out.cell 2; have y3 := HV2.out.cell 3; have y4 := HV2.out.cell 4; have y5 := HV2.out.cell 5; have y6 := HV2.out.cell 6; have y7 := HV2.out.cell 7
      have g0 := HV2.out.free 0; have g1 := HV2.out.free 1; have g2 := HV2.out.free 2; have g3 := HV2.out.free 3; have g4 := HV2.out.free 4; have g5 := HV2.out.free 5; have g6 := HV2.out.free 6; have g7 := HV2.out.free 7
      simp at y0 y1 y2 y3 y4 y5 y6 y7
      go_wp2_with fail
      rw [← HRF.out]
      have hV := VAt.store8 HV2.out (.int .i64 0) (.bool false) (.bool false) (.string ⟨#[]⟩) (.int .i64 0) (.string ⟨#[]⟩) (.slice none 0 0) (.slice none 0 0)
      have HV := Lib.hid hV
      have v0 := HV.out.cell 0; have v1 := HV.out.cell 1; have v2 := HV.out.cell 2; have v3 := HV.out.cell 3; have v4 := HV.out.cell 4; have v5 := HV.out.cell 5; have v6 := HV.out.cell 6; have v7 := HV.out.cell 7
      simp only [List.getElem?_toArray, List.getElem?_cons_zero, List.getElem?_cons_succ] at v0 v1 v2 v3 v4 v5 v6 v7
      refine bodyPost_ret (v := .agg #[.int .i64 0, .bool false, .bool false, .string ⟨#[]⟩, .int .i64 0, .string ⟨#[]⟩, .slice none 0 0, .slice none 0 0]) (by simp [results, Tryd.results22, go_sem, v0, v1, v2, v3, v4, v5, v6, v7]) rfl ?_
      have hfin := HP0.out.fresh HP8.out HK8.out (below_store8 (p := S) (Below.refl _ w8) (by rw [HSS.out]; exact Nat.le_refl _) (.int .i64 0) (.bool false) (.bool false) (.string ⟨#[]⟩) (.int .i64 0) (.string ⟨#[]⟩) (.slice none 0 0) (.slice none 0 0))
      exact ⟨_, _, _, rfl, TV.leaf _ _ 0 false Num.zero [], hfin.1, hfin.2⟩
    · have d1 : decide ((c.toNat : Int) ≥ 48) = true := by simp; omega
      have d2 : decide ((c.toNat : Int) ≤ 57) = false := by simp; omega
      go_wp2_with fail
      refine (fail_any p _ xs q n1 2 q _ HP.out hql).mono ?_
      rintro e w8 ⟨rfl, hs8, hk8⟩
      have HP8 := Lib.hid hs8
      have HK8 := Lib.hid (HK.out.trans hk8)
      have HV2 := Lib.hid (HV.out.kept hk8 (by omega))
      clear hs8 hk8 c0 c1 c2 c3 f1 f2 f3
      simp only [zeroV, cellsV, Num.zero, noL]
      have y0 := HV2.out.cell 0; have y1 := HV2.out.cell 1; have y2 := HV2.out.cell 2; have y3 := HV2.out.cell 3; have y4 := HV2.out.cell 4; have y5 := HV2.out.cell 5; have y6 := HV2.out.cell 6; have y7 := HV2.out.cell 7
      have g0 := HV2.out.free 0; have g1 := HV2.out.free 1; have g2 := HV2.out.free 2; have g3 := HV2.out.free 3; have g4 := HV2.out.free 4; have g5 := HV2.out.free 5; have g6 := HV2.out.free 6; have g7 := HV2.out.free 7
      simp at y0 y1 y2 y3 y4 y5 y6 y7
      go_wp2_with fail
      rw [← HRF.out]
      have hV := VAt.store8 HV2.out (.int .i64 0) (.bool false) (.bool false) (.string ⟨#[]⟩) (.int .i64 0) (.string ⟨#[]⟩) (.slice none 0 0) (.slice none 0 0)
      have HV := Lib.hid hV
      have v0 := HV.out.cell 0; have v1 := HV.out.cell 1; have v2 := HV.out.cell 2; have v3 := HV.out.cell 3; have v4 := HV.out.cell 4; have v5 := HV.out.cell 5; have v6 := HV.out.cell 6; have v7 := HV.out.cell 7
      simp only [List.getElem?_toArray, List.getElem?_cons_zero, List.getElem?_cons_succ] at v0 v1 v2 v3 v4 v5 v6 v7
      refine bodyPost_ret (v := .agg #[.int .i64 0, .bool false, .bool false, .string ⟨#[]⟩, .int .i64 0, .string ⟨#[]⟩, .slice none 0 0, .slice none 0 0]) (by simp [results, Tryd.results22, go_sem, v0, v1, v2, v3, v4, v5, v6, v7]) rfl ?_
      have hfin := HP0.out.fresh HP8.out HK8.out (below_store8 (p := S) (Below.refl _ w8) (by rw [HSS.out]; exact Nat.le_refl _) (.int .i64 0) (.bool false) (.bool false) (.string ⟨#[]⟩) (.int .i64 0) (.string ⟨#[]⟩) (.slice none 0 0) (.slice none 0 0))
      exact ⟨_, _, _, rfl, TV.leaf _ _ 0 false Num.zero [], hfin.1, hfin.2⟩
  have hrr := HRR.out
  rw [if_neg hb] at hrr
  replace HRR := Lib.hid hrr
  clear hrr
  replace hb := (begs_cases c).1 (Decidable.of_not_not hb)
  rcases hb with h | h | h | h | ⟨h48, h57⟩ | h | h | h
  · obtain rfl : c = 116 := u8_lit c 116 h
    clear h
    by_cases hlim : 4096 < n1
    · have HRF : Hid (.err 4 q = R) := Lib.hid (by rw [← HRR.out, if_pos hlim])
      have hli : (4096 : Int) < (n1 : Int) := by omega
      clear hlim
      go_wp2_with fail
      refine (fail_any p _ xs q n1 4 q _ HP.out hql).mono ?_
      rintro e w8 ⟨rfl, hs8, hk8⟩
      have HP8 := Lib.hid hs8
      have HK8 := Lib.hid (HK.out.trans hk8)
      have HV2 := Lib.hid (HV.out.kept hk8 (by omega))
      clear hs8 hk8 c0 c1 c2 c3 f1 f2 f3
      simp only [zeroV, cellsV, Num.zero, noL]
      have y0 := HV2.out.cell 0; have y1 := HV2.out.cell 1; have y2 := HV2.out.cell 2; have y3 := HV2.out.cell 3; have y4 := HV2.out.cell 4; have y5 := HV2.out.cell 5; have y6 := HV2.out.cell 6; have y7 := HV2.out.cell 7
      have g0 := HV2.out.free 0; have g1 := HV2.out.free 1; have g2 := HV2.out.free 2; have g3 := HV2.out.free 3; have g4 := HV2.out.free 4; have g5 := HV2.out.free 5; have g6 := HV2.out.free 6; have g7 := HV2.out.free 7
      simp at y0 y1 y2 y3 y4 y5 y6 y7
      go_wp2_with fail
      rw [← HRF.out]
      have hV := VAt.store8 HV2.out (.int .i64 0) (.bool false) (.bool false) (.string ⟨#[]⟩) (.int .i64 0) (.string ⟨#[]⟩) (.slice none 0 0) (.slice none 0 0)
      have HV := Lib.hid hV
      have v0 := HV.out.cell 0; have v1 := HV.out.cell 1; have v2 := HV.out.cell 2; have v3 := HV.out.cell 3; have v4 := HV.out.cell 4; have v5 := HV.out.cell 5; have v6 := HV.out.cell 6; have v7 := HV.out.cell 7
      simp only [List.getElem?_toArray, List.getElem?_cons_zero, List.getElem?_cons_succ] at v0 v1 v2 v3 v4 v5 v6 v7
      refine bodyPost_ret (v := .agg #[.int .i64 0, .bool false, .bool false, .string ⟨#[]⟩, .int .i64 0, .string ⟨#[]⟩, .slice none 0 0, .slice none 0 0]) (by simp [results, Tryd.results22, go_sem, v0, v1, v2, v3, v4, v5, v6, v7]) rfl ?_
      have hfin := HP0.out.fresh HP8.out HK8.out (below_store8 (p := S) (Below.refl _ w8) (by rw [HSS.out]; exact Nat.le_refl _) (.int .i64 0) (.bool false) (.bool false) (.string ⟨#[]⟩) (.int .i64 0) (.string ⟨#[]⟩) (.slice none 0 0) (.slice none 0 0))
      exact ⟨_, _, _, rfl, TV.leaf _ _ 0 false Num.zero [], hfin.1, hfin.2⟩
    have hrr := HRR.out
    rw [if_neg hlim] at hrr
    replace HRR := Lib.hid hrr
    have hli : ¬ (4096 : Int) < (n1 : Int) := by omega
    clear hrr hlim
    have hrr := HRR.out
    rw [if_pos rfl] at hrr
    replace HRR := Lib.hid hrr
    clear hrr
    by_cases hw : (xs.drop q).take 4 = [116, 114, 117, 101]
    · have HRF : Hid (.ok (tBool true) (q + 4) n1 = R) := Lib.hid (by rw [← HRR.out]; unfold wordP; exact (if_pos (c := (xs.drop q).take ([116, 114, 117, 101] : List UInt8).length = [116, 114, 117, 101]) hw).symm)
      have HW := Lib.hid hw
      clear hw
      go_wp2_with fail
      refine (word_yes p _ xs q n1 0 [116, 114, 117, 101] _ HP.out (by decide) (by decide) HW.out).mono ?_
      rintro e wz ⟨rfl, hsz, hkz⟩
      have HPZ := Lib.hid hsz
      have HKZ := Lib.hid (HK.out.trans hkz)
      have HVZ := Lib.hid (HV.out.kept hkz (by omega))
      have hvvz := HVV.out.kept hkz (by omega)
      have b0 := hvvz.cell 0; have b1 := hvvz.cell 1; have b2 := hvvz.cell 2; have b3 := hvvz.cell 3; have b4 := hvvz.cell 4; have b5 := hvvz.cell 5; have b6 := hvvz.cell 6; have b7 := hvvz.cell 7
      simp at b0 b1 b2 b3 b4 b5 b6 b7
      clear hsz hkz c0 c1 c2 c3 f1 f2 f3 hvvz hcc
      have HV2 := HVZ
      have y0 := HV2.out.cell 0; have y1 := HV2.out.cell 1; have y2 := HV2.out.cell 2; have y3 := HV2.out.cell 3; have y4 := HV2.out.cell 4; have y5 := HV2.out.cell 5; have y6 := HV2.out.cell 6; have y7 := HV2.out.cell 7
      have g0 := HV2.out.free 0; have g1 := HV2.out.free 1; have g2 := HV2.out.free 2; have g3 := HV2.out.free 3; have g4 := HV2.out.free 4; have g5 := HV2.out.free 5; have g6 := HV2.out.free 6; have g7 := HV2.out.free 7
      simp at y0 y1 y2 y3 y4 y5 y6 y7
      go_wp2_with fail
      rw [← HRF.out]
      have hV := VAt.store8 HV2.out (.int .i64 1) (.bool true) (.bool false) (.string ⟨#[]⟩) (.int .i64 0) (.string ⟨#[]⟩) (.slice none 0 0) (.slice none 0 0)
      have HV := Lib.hid hV
      have v0 := HV.out.cell 0; have v1 := HV.out.cell 1; have v2 := HV.out.cell 2; have v3 := HV.out.cell 3; have v4 := HV.out.cell 4; have v5 := HV.out.cell 5; have v6 := HV.out.cell 6; have v7 := HV.out.cell 7
      simp only [List.getElem?_toArray, List.getElem?_cons_zero, List.getElem?_cons_succ] at v0 v1 v2 v3 v4 v5 v6 v7
      refine bodyPost_ret (v := .agg #[.int .i64 1, .bool true, .bool false, .string ⟨#[]⟩, .int .i64 0, .string ⟨#[]⟩, .slice none 0 0, .slice none 0 0]) (by simp [results, Tryd.results22, go_sem, v0, v1, v2, v3, v4, v5, v6, v7]) rfl ?_
      have hfin := HP0.out.fresh HPZ.out HKZ.out (below_store8 (p := S) (Below.refl _ wz) (by rw [HSS.out]; exact Nat.le_refl _) (.int .i64 1) (.bool true) (.bool false) (.string ⟨#[]⟩) (.int .i64 0) (.string ⟨#[]⟩) (.slice none 0 0) (.slice none 0 0))
      exact ⟨_, rfl, TV.leaf _ _ 1 true Num.zero [], hfin.1, hfin.2⟩
    · have HRF : Hid (.err 2 q = R) := Lib.hid (by rw [← HRR.out]; unfold wordP; exact (if_neg (c := (xs.drop q).take ([116, 114, 117, 101] : List UInt8).length = [116, 114, 117, 101]) hw).symm)
      have HW := Lib.hid hw
      clear hw
      go_wp2_with fail
      refine (word_no p _ xs q n1 0 [116, 114, 117, 101] _ HP.out (by decide) (by decide) HW.out).mono ?_
      rintro e w9 ⟨rfl, hw9⟩
      replace HP := Lib.hid (HP.out.ext hw9)
      replace HK := Lib.hid (HK.out.toExt hw9)
      replace HV := Lib.hid (HV.out.ext hw9)
      clear hw9 c0 c1 c2 c3 f1 f2 f3 hcc
      obtain ⟨c0, c1, c2, c3, f1, f2, f3, hpl⟩ := HP.out.1.cells
      go_wp2_with fail
      refine (fail_any p _ xs q n1 2 q _ HP.out hql).mono ?_
      rintro e w8 ⟨rfl, hs8, hk8⟩
      have HP8 := Lib.hid hs8
      have HK8 := Lib.hid (HK.out.trans hk8)
      have HV2 := Lib.hid (HV.out.kept hk8 (by omega))
      clear hs8 hk8 c0 c1 c2 c3 f1 f2 f3
      simp only [zeroV, cellsV, Num.zero, noL]
      have y0 := HV2.out.cell 0; have y1 := HV2.out.cell 1; have y2 := HV2.out.cell 2; have y3 := HV2.out.cell 3; have y4 := HV2.out.cell 4; have y5 := HV2.out.cell 5; have y6 := HV2.out.cell 6; have y7 := HV2.out.cell 7
      have g0 := HV2.out.free 0; have g1 := HV2.out.free 1; have g2 := HV2.out.free 2; have g3 := HV2.out.free 3; have g4 := HV2.out.free 4; have g5 := HV2.out.free 5; have g6 := HV2.out.free 6; have g7 := HV2.out.free 7
      simp at y0 y1 y2 y3 y4 y5 y6 y7
      go_wp2_with fail
      rw [← HRF.out]
      have hV := VAt.store8 HV2.out (.int .i64 0) (.bool false) (.bool false) (.string ⟨#[]⟩) (.int .i64 0) (.string ⟨#[]⟩) (.slice none 0 0) (.slice none 0 0)
      have HV := Lib.hid hV
      have v0 := HV.out.cell 0; have v1 := HV.out.cell 1; have v2 := HV.out.cell 2; have v3 := HV.out.cell 3; have v4 := HV.out.cell 4; have v5 := HV.out.cell 5; have v6 := HV.out.cell 6; have v7 := HV.out.cell 7
      simp only [List.getElem?_toArray, List.getElem?_cons_zero, List.getElem?_cons_succ] at v0 v1 v2 v3 v4 v5 v6 v7
      refine bodyPost_ret (v := .agg #[.int .i64 0, .bool false, .bool false, .string ⟨#[]⟩, .int .i64 0, .string ⟨#[]⟩, .slice none 0 0, .slice none 0 0]) (by simp [results, Tryd.results22, go_sem, v0, v1, v2, v3, v4, v5, v6, v7]) rfl ?_
      have hfin := HP0.out.fresh HP8.out HK8.out (below_store8 (p := S) (Below.refl _ w8) (by rw [HSS.out]; exact Nat.le_refl _) (.int .i64 0) (.bool false) (.bool false) (.string ⟨#[]⟩) (.int .i64 0) (.string ⟨#[]⟩) (.slice none 0 0) (.slice none 0 0))
      exact ⟨_, _, _, rfl, TV.leaf _ _ 0 false Num.zero [], hfin.1, hfin.2⟩
  · obtain rfl : c = 102 := u8_lit c 102 h
    clear h
    by_cases hlim : 4096 < n1
    · have HRF : Hid (.err 4 q = R) := Lib.hid (by rw [← HRR.out, if_pos hlim])
      have hli : (4096 : Int) < (n1 : Int) := by omega
      clear hlim
      go_wp2_with fail
      refine (fail_any p _ xs q n1 4 q _ HP.out hql).mono ?_
      rintro e w8 ⟨rfl, hs8, hk8⟩
      have HP8 := Lib.hid hs8
      have HK8 := Lib.hid (HK.out.trans hk8)
      have HV2 := Lib.hid (HV.out.kept hk8 (by omega))
      clear hs8 hk8 c0 c1 c2 c3 f1 f2 f3
      simp only [zeroV, cellsV, Num.zero, noL]
      have y0 := HV2.out.cell 0; have y1 := HV2.out.cell 1; have y2 := HV2.out.cell 2; have y3 := HV2.out.cell 3; have y4 := HV2.out.cell 4; have y5 := HV2.out.cell 5; have y6 := HV2.out.cell 6; have y7 := HV2.out.cell 7
      have g0 := HV2.out.free 0; have g1 := HV2.out.free 1; have g2 := HV2.out.free 2; have g3 := HV2.out.free 3; have g4 := HV2.out.free 4; have g5 := HV2.out.free 5; have g6 := HV2.out.free 6; have g7 := HV2.out.free 7
      simp at y0 y1 y2 y3 y4 y5 y6 y7
      go_wp2_with fail
      rw [← HRF.out]
      have hV := VAt.store8 HV2.out (.int .i64 0) (.bool false) (.bool false) (.string ⟨#[]⟩) (.int .i64 0) (.string ⟨#[]⟩) (.slice none 0 0) (.slice none 0 0)
      have HV := Lib.hid hV
      have v0 := HV.out.cell 0; have v1 := HV.out.cell 1; have v2 := HV.out.cell 2; have v3 := HV.out.cell 3; have v4 := HV.out.cell 4; have v5 := HV.out.cell 5; have v6 := HV.out.cell 6; have v7 := HV.out.cell 7
      simp only [List.getElem?_toArray, List.getElem?_cons_zero, List.getElem?_cons_succ] at v0 v1 v2 v3 v4 v5 v6 v7
      refine bodyPost_ret (v := .agg #[.int .i64 0, .bool false, .bool false, .string ⟨#[]⟩, .int .i64 0, .string ⟨#[]⟩, .slice none 0 0, .slice none 0 0]) (by simp [results, Tryd.results22, go_sem, v0, v1, v2, v3, v4, v5, v6, v7]) rfl ?_
      have hfin := HP0.out.fresh HP8.out HK8.out (below_store8 (p := S) (Below.refl _ w8) (by rw [HSS.out]; exact Nat.le_refl _) (.int .i64 0) (.bool false) (.bool false) (.string ⟨#[]⟩) (.int .i64 0) (.string ⟨#[]⟩) (.slice none 0 0) (.slice none 0 0))
      exact ⟨_, _, _, rfl, TV.leaf _ _ 0 false Num.zero [], hfin.1, hfin.2⟩
    have hrr := HRR.out
    rw [if_neg hlim] at hrr
    replace HRR := Lib.hid hrr
    have hli : ¬ (4096 : Int) < (n1 : Int) := by omega
    clear hrr hlim
    have hrr := HRR.out
    rw [if_neg (by decide), if_pos rfl] at hrr
    replace HRR := Lib.hid hrr
    clear hrr
    by_cases hw : (xs.drop q).take 5 = [102, 97, 108, 115, 101]
    · have HRF : Hid (.ok (tBool false) (q + 5) n1 = R) := Lib.hid (by rw [← HRR.out]; unfold wordP; exact (if_pos (c := (xs.drop q).take ([102, 97, 108, 115, 101] : List UInt8).length = [102, 97, 108, 115, 101]) hw).symm)
      have HW := Lib.hid hw
      clear hw
      go_wp2_with fail
      refine (word_yes p _ xs q n1 0 [102, 97, 108, 115, 101] _ HP.out (by decide) (by decide) HW.out).mono ?_
      rintro e wz ⟨rfl, hsz, hkz⟩
      have HPZ := Lib.hid hsz
      have HKZ := Lib.hid (HK.out.trans hkz)
      have HVZ := Lib.hid (HV.out.kept hkz (by omega))
      have hvvz := HVV.out.kept hkz (by omega)
      have b0 := hvvz.cell 0; have b1 := hvvz.cell 1; have b2 := hvvz.cell 2; have b3 := hvvz.cell 3; have b4 := hvvz.cell 4; have b5 := hvvz.cell 5; have b6 := hvvz.cell 6; have b7 := hvvz.cell 7
      simp at b0 b1 b2 b3 b4 b5 b6 b7
      clear hsz hkz c0 c1 c2 c3 f1 f2 f3 hvvz hcc
      have HV2 := HVZ
      have y0 := HV2.out.cell 0; have y1 := HV2.out.cell 1; have y2 := HV2.out.cell 2; have y3 := HV2.out.cell 3; have y4 := HV2.out.cell 4; have y5 := HV2.out.cell 5; have y6 := HV2.out.cell 6; have y7 := HV2.out.cell 7
      have g0 := HV2.out.free 0; have g1 := HV2.out.free 1; have g2 := HV2.out.free 2; have g3 := HV2.out.free 3; have g4 := HV2.out.free 4; have g5 := HV2.out.free 5; have g6 := HV2.out.free 6; have g7 := HV2.out.free 7
      simp at y0 y1 y2 y3 y4 y5 y6 y7
      go_wp2_with fail
      rw [← HRF.out]
      have hV := VAt.store8 HV2.out (.int .i64 1) (.bool false) (.bool false) (.string ⟨#[]⟩) (.int .i64 0) (.string ⟨#[]⟩) (.slice none 0 0) (.slice none 0 0)
      have HV := Lib.hid hV
      have v0 := HV.out.cell 0; have v1 := HV.out.cell 1; have v2 := HV.out.cell 2; have v3 := HV.out.cell 3; have v4 := HV.out.cell 4; have v5 := HV.out.cell 5; have v6 := HV.out.cell 6; have v7 := HV.out.cell 7
      simp only [List.getElem?_toArray, List.getElem?_cons_zero, List.getElem?_cons_succ] at v0 v1 v2 v3 v4 v5 v6 v7
      refine bodyPost_ret (v := .agg #[.int .i64 1, .bool false, .bool false, .string ⟨#[]⟩, .int .i64 0, .string ⟨#[]⟩, .slice none 0 0, .slice none 0 0]) (by simp [results, Tryd.results22, go_sem, v0, v1, v2, v3, v4, v5, v6, v7]) rfl ?_
      have hfin := HP0.out.fresh HPZ.out HKZ.out (below_store8 (p := S) (Below.refl _ wz) (by rw [HSS.out]; exact Nat.le_refl _) (.int .i64 1) (.bool false) (.bool false) (.string ⟨#[]⟩) (.int .i64 0) (.string ⟨#[]⟩) (.slice none 0 0) (.slice none 0 0))
      exact ⟨_, rfl, TV.leaf _ _ 1 false Num.zero [], hfin.1, hfin.2⟩
    · have HRF : Hid (.err 2 q = R) := Lib.hid (by rw [← HRR.out]; unfold wordP; exact (if_neg (c := (xs.drop q).take ([102, 97, 108, 115, 101] : List UInt8).length = [102, 97, 108, 115, 101]) hw).symm)
      have HW := Lib.hid hw
      clear hw
      go_wp2_with fail
      refine (word_no p _ xs q n1 0 [102, 97, 108, 115, 101] _ HP.out (by decide) (by decide) HW.out).mono ?_
      rintro e w9 ⟨rfl, hw9⟩
      replace HP := Lib.hid (HP.out.ext hw9)
      replace HK := Lib.hid (HK.out.toExt hw9)
      replace HV := Lib.hid (HV.out.ext hw9)
      clear hw9 c0 c1 c2 c3 f1 f2 f3 hcc
      obtain ⟨c0, c1, c2, c3, f1, f2, f3, hpl⟩ := HP.out.1.cells
      go_wp2_with fail
      refine (fail_any p _ xs q n1 2 q _ HP.out hql).mono ?_
      rintro e w8 ⟨rfl, hs8, hk8⟩
      have HP8 := Lib.hid hs8
      have HK8 := Lib.hid (HK.out.trans hk8)
      have HV2 := Lib.hid (HV.out.kept hk8 (by omega))
      clear hs8 hk8 c0 c1 c2 c3 f1 f2 f3
      simp only [zeroV, cellsV, Num.zero, noL]
      have y0 := HV2.out.cell 0; have y1 := HV2.out.cell 1; have y2 := HV2.out.cell 2; have y3 := HV2.out.cell 3; have y4 := HV2.out.cell 4; have y5 := HV2.out.cell 5; have y6 := HV2.out.cell 6; have y7 := HV2.out.cell 7
      have g0 := HV2.out.free 0; have g1 := HV2.out.free 1; have g2 := HV2.out.free 2; have g3 := HV2.out.free 3; have g4 := HV2.out.free 4; have g5 := HV2.out.free 5; have g6 := HV2.out.free 6; have g7 := HV2.out.free 7
      simp at y0 y1 y2 y3 y4 y5 y6 y7
      go_wp2_with fail
      rw [← HRF.out]
      have hV := VAt.store8 HV2.out (.int .i64 0) (.bool false) (.bool false) (.string ⟨#[]⟩) (.int .i64 0) (.string ⟨#[]⟩) (.slice none 0 0) (.slice none 0 0)
      have HV := Lib.hid hV
      have v0 := HV.out.cell 0; have v1 := HV.out.cell 1; have v2 := HV.out.cell 2; have v3 := HV.out.cell 3; have v4 := HV.out.cell 4; have v5 := HV.out.cell 5; have v6 := HV.out.cell 6; have v7 := HV.out.cell 7
      simp only [List.getElem?_toArray, List.getElem?_cons_zero, List.getElem?_cons_succ] at v0 v1 v2 v3 v4 v5 v6 v7
      refine bodyPost_ret (v := .agg #[.int .i64 0, .bool false, .bool false, .string ⟨#[]⟩, .int .i64 0, .string ⟨#[]⟩, .slice none 0 0, .slice none 0 0]) (by simp [results, Tryd.results22, go_sem, v0, v1, v2, v3, v4, v5, v6, v7]) rfl ?_
      have hfin := HP0.out.fresh HP8.out HK8.out (below_store8 (p := S) (Below.refl _ w8) (by rw [HSS.out]; exact Nat.le_refl _) (.int .i64 0) (.bool false) (.bool false) (.string ⟨#[]⟩) (.int .i64 0) (.string ⟨#[]⟩) (.slice none 0 0) (.slice none 0 0))
      exact ⟨_, _, _, rfl, TV.leaf _ _ 0 false Num.zero [], hfin.1, hfin.2⟩
  · obtain rfl : c = 110 := u8_lit c 110 h
    clear h
    by_cases hlim : 4096 < n1
    · have HRF : Hid (.err 4 q = R) := Lib.hid (by rw [← HRR.out, if_pos hlim])
      have hli : (4096 : Int) < (n1 : Int) := by omega
      clear hlim
      go_wp2_with fail
      refine (fail_any p _ xs q n1 4 q _ HP.out hql).mono ?_
      rintro e w8 ⟨rfl, hs8, hk8⟩
      have HP8 := Lib.hid hs8
      have HK8 := Lib.hid (HK.out.trans hk8)
      have HV2 := Lib.hid (HV.out.kept hk8 (by omega))
      clear hs8 hk8 c0 c1 c2 c3 f1 f2 f3
      simp only [zeroV, cellsV, Num.zero, noL]
      have y0 := HV2.out.cell 0; have y1 := HV2.out.cell 1; have y2 := HV2.out.cell 2; have y3 := HV2.out.cell 3; have y4 := HV2.out.cell 4; have y5 := HV2.out.cell 5; have y6 := HV2.out.cell 6; have y7 := HV2.out.cell 7
      have g0 := HV2.out.free 0; have g1 := HV2.out.free 1; have g2 := HV2.out.free 2; have g3 := HV2.out.free 3; have g4 := HV2.out.free 4; have g5 := HV2.out.free 5; have g6 := HV2.out.free 6; have g7 := HV2.out.free 7
      simp at y0 y1 y2 y3 y4 y5 y6 y7
      go_wp2_with fail
      rw [← HRF.out]
      have hV := VAt.store8 HV2.out (.int .i64 0) (.bool false) (.bool false) (.string ⟨#[]⟩) (.int .i64 0) (.string ⟨#[]⟩) (.slice none 0 0) (.slice none 0 0)
      have HV := Lib.hid hV
      have v0 := HV.out.cell 0; have v1 := HV.out.cell 1; have v2 := HV.out.cell 2; have v3 := HV.out.cell 3; have v4 := HV.out.cell 4; have v5 := HV.out.cell 5; have v6 := HV.out.cell 6; have v7 := HV.out.cell 7
      simp only [List.getElem?_toArray, List.getElem?_cons_zero, List.getElem?_cons_succ] at v0 v1 v2 v3 v4 v5 v6 v7
      refine bodyPost_ret (v := .agg #[.int .i64 0, .bool false, .bool false, .string ⟨#[]⟩, .int .i64 0, .string ⟨#[]⟩, .slice none 0 0, .slice none 0 0]) (by simp [results, Tryd.results22, go_sem, v0, v1, v2, v3, v4, v5, v6, v7]) rfl ?_
      have hfin := HP0.out.fresh HP8.out HK8.out (below_store8 (p := S) (Below.refl _ w8) (by rw [HSS.out]; exact Nat.le_refl _) (.int .i64 0) (.bool false) (.bool false) (.string ⟨#[]⟩) (.int .i64 0) (.string ⟨#[]⟩) (.slice none 0 0) (.slice none 0 0))
      exact ⟨_, _, _, rfl, TV.leaf _ _ 0 false Num.zero [], hfin.1, hfin.2⟩
    have hrr := HRR.out
    rw [if_neg hlim] at hrr
    replace HRR := Lib.hid hrr
    have hli : ¬ (4096 : Int) < (n1 : Int) := by omega
    clear hrr hlim
    have hrr := HRR.out
    rw [if_neg (by decide), if_neg (by decide), if_pos rfl] at hrr
    replace HRR := Lib.hid hrr
    clear hrr
    by_cases hw : (xs.drop q).take 4 = [110, 117, 108, 108]
    · have HRF : Hid (.ok tNull (q + 4) n1 = R) := Lib.hid (by rw [← HRR.out]; unfold wordP; exact (if_pos (c := (xs.drop q).take ([110, 117, 108, 108] : List UInt8).length = [110, 117, 108, 108]) hw).symm)
      have HW := Lib.hid hw
      clear hw
      go_wp2_with fail
      refine (word_yes p _ xs q n1 0 [110, 117, 108, 108] _ HP.out (by decide) (by decide) HW.out).mono ?_
      rintro e wz ⟨rfl, hsz, hkz⟩
      have HPZ := Lib.hid hsz
      have HKZ := Lib.hid (HK.out.trans hkz)
      have HVZ := Lib.hid (HV.out.kept hkz (by omega))
      have hvvz := HVV.out.kept hkz (by omega)
      have b0 := hvvz.cell 0; have b1 := hvvz.cell 1; have b2 := hvvz.cell 2; have b3 := hvvz.cell 3; have b4 := hvvz.cell 4; have b5 := hvvz.cell 5; have b6 := hvvz.cell 6; have b7 := hvvz.cell 7
      simp at b0 b1 b2 b3 b4 b5 b6 b7
      clear hsz hkz c0 c1 c2 c3 f1 f2 f3 hvvz hcc
      have HV2 := HVZ
      have y0 := HV2.out.cell 0; have y1 := HV2.out.cell 1; have y2 := HV2.out.cell 2; have y3 := HV2.out.cell 3; have y4 := HV2.out.cell 4; have y5 := HV2.out.cell 5; have y6 := HV2.out.cell 6; have y7 := HV2.out.cell 7
      have g0 := HV2.out.free 0; have g1 := HV2.out.free 1; have g2 := HV2.out.free 2; have g3 := HV2.out.free 3; have g4 := HV2.out.free 4; have g5 := HV2.out.free 5; have g6 := HV2.out.free 6; have g7 := HV2.out.free 7
      simp at y0 y1 y2 y3 y4 y5 y6 y7
      go_wp2_with fail
      rw [← HRF.out]
      have hV := VAt.store8 HV2.out (.int .i64 0) (.bool false) (.bool false) (.string ⟨#[]⟩) (.int .i64 0) (.string ⟨#[]⟩) (.slice none 0 0) (.slice none 0 0)
      have HV := Lib.hid hV
      have v0 := HV.out.cell 0; have v1 := HV.out.cell 1; have v2 := HV.out.cell 2; have v3 := HV.out.cell 3; have v4 := HV.out.cell 4; have v5 := HV.out.cell 5; have v6 := HV.out.cell 6; have v7 := HV.out.cell 7
      simp only [List.getElem?_toArray, List.getElem?_cons_zero, List.getElem?_cons_succ] at v0 v1 v2 v3 v4 v5 v6 v7
      refine bodyPost_ret (v := .agg #[.int .i64 0, .bool false, .bool false, .string ⟨#[]⟩, .int .i64 0, .string ⟨#[]⟩, .slice none 0 0, .slice none 0 0]) (by simp [results, Tryd.results22, go_sem, v0, v1, v2, v3, v4, v5, v6, v7]) rfl ?_
      have hfin := HP0.out.fresh HPZ.out HKZ.out (below_store8 (p := S) (Below.refl _ wz) (by rw [HSS.out]; exact Nat.le_refl _) (.int .i64 0) (.bool false) (.bool false) (.string ⟨#[]⟩) (.int .i64 0) (.string ⟨#[]⟩) (.slice none 0 0) (.slice none 0 0))
      exact ⟨_, rfl, TV.leaf _ _ 0 false Num.zero [], hfin.1, hfin.2⟩
    · have HRF : Hid (.err 2 q = R) := Lib.hid (by rw [← HRR.out]; unfold wordP; exact (if_neg (c := (xs.drop q).take ([110, 117, 108, 108] : List UInt8).length = [110, 117, 108, 108]) hw).symm)
      have HW := Lib.hid hw
      clear hw
      go_wp2_with fail
      refine (word_no p _ xs q n1 0 [110, 117, 108, 108] _ HP.out (by decide) (by decide) HW.out).mono ?_
      rintro e w9 ⟨rfl, hw9⟩
      replace HP := Lib.hid (HP.out.ext hw9)
      replace HK := Lib.hid (HK.out.toExt hw9)
      replace HV := Lib.hid (HV.out.ext hw9)
      clear hw9 c0 c1 c2 c3 f1 f2 f3 hcc
      obtain ⟨c0, c1, c2, c3, f1, f2, f3, hpl⟩ := HP.out.1.cells
      go_wp2_with fail
      refine (fail_any p _ xs q n1 2 q _ HP.out hql).mono ?_
      rintro e w8 ⟨rfl, hs8, hk8⟩
      have HP8 := Lib.hid hs8
      have HK8 := Lib.hid (HK.out.trans hk8)
      have HV2 := Lib.hid (HV.out.kept hk8 (by omega))
      clear hs8 hk8 c0 c1 c2 c3 f1 f2 f3
      simp only [zeroV, cellsV, Num.zero, noL]
      have y0 := HV2.out.cell 0; have y1 := HV2.out.cell 1; have y2 := HV2.out.cell 2; have y3 := HV2.out.cell 3; have y4 := HV2.out.cell 4; have y5 := HV2.out.cell 5; have y6 := HV2.out.cell 6; have y7 := HV2.out.cell 7
      have g0 := HV2.out.free 0; have g1 := HV2.out.free 1; have g2 := HV2.out.free 2; have g3 := HV2.out.free 3; have g4 := HV2.out.free 4; have g5 := HV2.out.free 5; have g6 := HV2.out.free 6; have g7 := HV2.out.free 7
      simp at y0 y1 y2 y3 y4 y5 y6 y7
      go_wp2_with fail
      rw [← HRF.out]
      have hV := VAt.store8 HV2.out (.int .i64 0) (.bool false) (.bool false) (.string ⟨#[]⟩) (.int .i64 0) (.string ⟨#[]⟩) (.slice none 0 0) (.slice none 0 0)
      have HV := Lib.hid hV
      have v0 := HV.out.cell 0; have v1 := HV.out.cell 1; have v2 := HV.out.cell 2; have v3 := HV.out.cell 3; have v4 := HV.out.cell 4; have v5 := HV.out.cell 5; have v6 := HV.out.cell 6; have v7 := HV.out.cell 7
      simp only [List.getElem?_toArray, List.getElem?_cons_zero, List.getElem?_cons_succ] at v0 v1 v2 v3 v4 v5 v6 v7
      refine bodyPost_ret (v := .agg #[.int .i64 0, .bool false, .bool false, .string ⟨#[]⟩, .int .i64 0, .string ⟨#[]⟩, .slice none 0 0, .slice none 0 0]) (by simp [results, Tryd.results22, go_sem, v0, v1, v2, v3, v4, v5, v6, v7]) rfl ?_
      have hfin := HP0.out.fresh HP8.out HK8.out (below_store8 (p := S) (Below.refl _ w8) (by rw [HSS.out]; exact Nat.le_refl _) (.int .i64 0) (.bool false) (.bool false) (.string ⟨#[]⟩) (.int .i64 0) (.string ⟨#[]⟩) (.slice none 0 0) (.slice none 0 0))
      exact ⟨_, _, _, rfl, TV.leaf _ _ 0 false Num.zero [], hfin.1, hfin.2⟩
  · obtain rfl : c = 45 := u8_lit c 45 h
    clear h
    by_cases hlim : 4096 < n1
    · have HRF : Hid (.err 4 q = R) := Lib.hid (by rw [← HRR.out, if_pos hlim])
      have hli : (4096 : Int) < (n1 : Int) := by omega
      clear hlim
      go_wp2_with fail
      refine (fail_any p _ xs q n1 4 q _ HP.out hql).mono ?_
      rintro e w8 ⟨rfl, hs8, hk8⟩
      have HP8 := Lib.hid hs8
      have HK8 := Lib.hid (HK.out.trans hk8)
      have HV2 := Lib.hid (HV.out.kept hk8 (by omega))
      clear hs8 hk8 c0 c1 c2 c3 f1 f2 f3
      simp only [zeroV, cellsV, Num.zero, noL]
      have y0 := HV2.out.cell 0; have y1 := HV2.out.cell 1; have y2 := HV2.out.cell 2; have y3 := HV2.out.cell 3; have y4 := HV2.out.cell 4; have y5 := HV2.out.cell 5; have y6 := HV2.out.cell 6; have y7 := HV2.out.cell 7
      have g0 := HV2.out.free 0; have g1 := HV2.out.free 1; have g2 := HV2.out.free 2; have g3 := HV2.out.free 3; have g4 := HV2.out.free 4; have g5 := HV2.out.free 5; have g6 := HV2.out.free 6; have g7 := HV2.out.free 7
      simp at y0 y1 y2 y3 y4 y5 y6 y7
      go_wp2_with fail
      rw [← HRF.out]
      have hV := VAt.store8 HV2.out (.int .i64 0) (.bool false) (.bool false) (.string ⟨#[]⟩) (.int .i64 0) (.string ⟨#[]⟩) (.slice none 0 0) (.slice none 0 0)
      have HV := Lib.hid hV
      have v0 := HV.out.cell 0; have v1 := HV.out.cell 1; have v2 := HV.out.cell 2; have v3 := HV.out.cell 3; have v4 := HV.out.cell 4; have v5 := HV.out.cell 5; have v6 := HV.out.cell 6; have v7 := HV.out.cell 7
      simp only [List.getElem?_toArray, List.getElem?_cons_zero, List.getElem?_cons_succ] at v0 v1 v2 v3 v4 v5 v6 v7
      refine bodyPost_ret (v := .agg #[.int .i64 0, .bool false, .bool false, .string ⟨#[]⟩, .int .i64 0, .string ⟨#[]⟩, .slice none 0 0, .slice none 0 0]) (by simp [results, Tryd.results22, go_sem, v0, v1, v2, v3, v4, v5, v6, v7]) rfl ?_
      have hfin := HP0.out.fresh HP8.out HK8.out (below_store8 (p := S) (Below.refl _ w8) (by rw [HSS.out]; exact Nat.le_refl _) (.int .i64 0) (.bool false) (.bool false) (.string ⟨#[]⟩) (.int .i64 0) (.string ⟨#[]⟩) (.slice none 0 0) (.slice none 0 0))
      exact ⟨_, _, _, rfl, TV.leaf _ _ 0 false Num.zero [], hfin.1, hfin.2⟩
    have hrr := HRR.out
    rw [if_neg hlim] at hrr
    replace HRR := Lib.hid hrr
    have hli : ¬ (4096 : Int) < (n1 : Int) := by omega
    clear hrr hlim
    have hrr := HRR.out
    rw [if_neg (by decide), if_neg (by decide), if_neg (by decide), if_neg (by decide), if_neg (by decide), if_neg (by decide)] at hrr
    replace HRR := Lib.hid hrr
    clear hrr
    have HLT := Lib.hid hlt
    go_wp2_with fail
    refine (rnumber_any p _ xs q n1 w4 HP.out HLT.out).mono ?_
    intro e wz hend
    rw [HRR.out] at hend
    cases hRc : R with
    | ok t a' n' =>
      rw [hRc] at hend
      obtain ⟨cv, rfl, htv, hsz, hkz⟩ := hend
      obtain ⟨yk, yb, yd, ys, ya1, yn1, yc1, ya2, yn2, yc2, rfl⟩ := htv.eight
      have HPZ := Lib.hid hsz
      have HKZ := Lib.hid (HK.out.trans hkz)
      have HV2 := Lib.hid (HV.out.kept hkz (by omega))
      have HTV := Lib.hid (htv.keep (w' := wz) (A' := fun g => V + 1 ≤ g) (Nat.le_refl _) (fun g hg _ => ⟨Nat.le_trans (Nat.succ_le_of_lt HVV.out.lt) hg, rfl⟩))
      clear hsz hkz htv c0 c1 c2 c3 f1 f2 f3 hcc
      simp only [cellsV]
      have y0 := HV2.out.cell 0; have y1 := HV2.out.cell 1; have y2 := HV2.out.cell 2; have y3 := HV2.out.cell 3; have y4 := HV2.out.cell 4; have y5 := HV2.out.cell 5; have y6 := HV2.out.cell 6; have y7 := HV2.out.cell 7
      have g0 := HV2.out.free 0; have g1 := HV2.out.free 1; have g2 := HV2.out.free 2; have g3 := HV2.out.free 3; have g4 := HV2.out.free 4; have g5 := HV2.out.free 5; have g6 := HV2.out.free 6; have g7 := HV2.out.free 7
      simp at y0 y1 y2 y3 y4 y5 y6 y7
      go_wp2_with fail
      have hV := VAt.store8 HV2.out (.int .i64 yk) (.bool yb) (.bool yd.neg) (.string ⟨yd.digits.toArray⟩) (.int .i64 yd.exp) (.string ⟨ys.toArray⟩) (.slice ya1 yn1 yc1) (.slice ya2 yn2 yc2)
      have HV := Lib.hid hV
      have v0 := HV.out.cell 0; have v1 := HV.out.cell 1; have v2 := HV.out.cell 2; have v3 := HV.out.cell 3; have v4 := HV.out.cell 4; have v5 := HV.out.cell 5; have v6 := HV.out.cell 6; have v7 := HV.out.cell 7
      simp only [List.getElem?_toArray, List.getElem?_cons_zero, List.getElem?_cons_succ] at v0 v1 v2 v3 v4 v5 v6 v7
      refine bodyPost_ret (v := .agg #[.int .i64 yk, .bool yb, .bool yd.neg, .string ⟨yd.digits.toArray⟩, .int .i64 yd.exp, .string ⟨ys.toArray⟩, .slice ya1 yn1 yc1, .slice ya2 yn2 yc2]) (by simp [results, Tryd.results22, go_sem, v0, v1, v2, v3, v4, v5, v6, v7]) rfl ?_
      have hfin := HP0.out.fresh HPZ.out HKZ.out (below_store8 (p := S) (Below.refl _ wz) (by rw [HSS.out]; exact Nat.le_refl _) (.int .i64 yk) (.bool yb) (.bool yd.neg) (.string ⟨yd.digits.toArray⟩) (.int .i64 yd.exp) (.string ⟨ys.toArray⟩) (.slice ya1 yn1 yc1) (.slice ya2 yn2 yc2))
      rw [hRc]
      exact ⟨_, rfl, HTV.out.keep (by simp [World.setCell]) (fun g hg hlt => ⟨by rw [HSS.out]; omega, heap8 (by omega)⟩), hfin.1, hfin.2⟩
    | err er b =>
      rw [hRc] at hend
      obtain ⟨cv, t, n', rfl, htv, hsz, hkz⟩ := hend
      obtain ⟨yk, yb, yd, ys, ya1, yn1, yc1, ya2, yn2, yc2, rfl⟩ := htv.eight
      have HPZ := Lib.hid hsz
      have HKZ := Lib.hid (HK.out.trans hkz)
      have HV2 := Lib.hid (HV.out.kept hkz (by omega))
      have HTV := Lib.hid (htv.keep (w' := wz) (A' := fun g => V + 1 ≤ g) (Nat.le_refl _) (fun g hg _ => ⟨Nat.le_trans (Nat.succ_le_of_lt HVV.out.lt) hg, rfl⟩))
      clear hsz hkz htv c0 c1 c2 c3 f1 f2 f3 hcc
      simp only [cellsV]
      have y0 := HV2.out.cell 0; have y1 := HV2.out.cell 1; have y2 := HV2.out.cell 2; have y3 := HV2.out.cell 3; have y4 := HV2.out.cell 4; have y5 := HV2.out.cell 5; have y6 := HV2.out.cell 6; have y7 := HV2.out.cell 7
      have g0 := HV2.out.free 0; have g1 := HV2.out.free 1; have g2 := HV2.out.free 2; have g3 := HV2.out.free 3; have g4 := HV2.out.free 4; have g5 := HV2.out.free 5; have g6 := HV2.out.free 6; have g7 := HV2.out.free 7
      simp at y0 y1 y2 y3 y4 y5 y6 y7
      go_wp2_with fail
      have hV := VAt.store8 HV2.out (.int .i64 yk) (.bool yb) (.bool yd.neg) (.string ⟨yd.digits.toArray⟩) (.int .i64 yd.exp) (.string ⟨ys.toArray⟩) (.slice ya1 yn1 yc1) (.slice ya2 yn2 yc2)
      have HV := Lib.hid hV
      have v0 := HV.out.cell 0; have v1 := HV.out.cell 1; have v2 := HV.out.cell 2; have v3 := HV.out.cell 3; have v4 := HV.out.cell 4; have v5 := HV.out.cell 5; have v6 := HV.out.cell 6; have v7 := HV.out.cell 7
      simp only [List.getElem?_toArray, List.getElem?_cons_zero, List.getElem?_cons_succ] at v0 v1 v2 v3 v4 v5 v6 v7
      refine bodyPost_ret (v := .agg #[.int .i64 yk, .bool yb, .bool yd.neg, .string ⟨yd.digits.toArray⟩, .int .i64 yd.exp, .string ⟨ys.toArray⟩, .slice ya1 yn1 yc1, .slice ya2 yn2 yc2]) (by simp [results, Tryd.results22, go_sem, v0, v1, v2, v3, v4, v5, v6, v7]) rfl ?_
      have hfin := HP0.out.fresh HPZ.out HKZ.out (below_store8 (p := S) (Below.refl _ wz) (by rw [HSS.out]; exact Nat.le_refl _) (.int .i64 yk) (.bool yb) (.bool yd.neg) (.string ⟨yd.digits.toArray⟩) (.int .i64 yd.exp) (.string ⟨ys.toArray⟩) (.slice ya1 yn1 yc1) (.slice ya2 yn2 yc2))
      rw [hRc]
      exact ⟨_, _, _, rfl, HTV.out.keep (by simp [World.setCell]) (fun g hg hlt => ⟨by rw [HSS.out]; omega, heap8 (by omega)⟩), hfin.1, hfin.2⟩
  · have m1 : ((c.toNat : Int) == 116) = false := by simp; omega
    have m2 : ((c.toNat : Int) == 102) = false := by simp; omega
    have m3 : ((c.toNat : Int) == 110) = false := by simp; omega
    have m4 : ((c.toNat : Int) == 45) = false := by simp; omega
    have m5 : ((c.toNat : Int) == 34) = false := by simp; omega
    have m6 : ((c.toNat : Int) == 91) = false := by simp; omega
    have m7 : ((c.toNat : Int) == 123) = false := by simp; omega
    have d1 : decide ((c.toNat : Int) ≥ 48) = true := by simp; omega
    have d2 : decide ((c.toNat : Int) ≤ 57) = true := by simp; omega
    have hcn : ∀ k : UInt8, (k.toNat < 48 ∨ 57 < k.toNat) → c ≠ k := fun k hk e => by subst e; omega
    have HCN := Lib.hid hcn
    clear hcn
    by_cases hlim : 4096 < n1
    · have HRF : Hid (.err 4 q = R) := Lib.hid (by rw [← HRR.out, if_pos hlim])
      have hli : (4096 : Int) < (n1 : Int) := by omega
      clear hlim
      go_wp2_with fail
      refine (fail_any p _ xs q n1 4 q _ HP.out hql).mono ?_
      rintro e w8 ⟨rfl, hs8, hk8⟩
      have HP8 := Lib.hid hs8
      have HK8 := Lib.hid (HK.out.trans hk8)
      have HV2 := Lib.hid (HV.out.kept hk8 (by omega))
      clear hs8 hk8 c0 c1 c2 c3 f1 f2 f3
      simp only [zeroV, cellsV, Num.zero, noL]
      have y0 := HV2.out.cell 0; have y1 := HV2.out.cell 1; have y2 := HV2.out.cell 2; have y3 := HV2.out.cell 3; have y4 := HV2.out.cell 4; have y5 := HV2.out.cell 5; have y6 := HV2.out.cell 6; have y7 := HV2.out.cell 7
      have g0 := HV2.out.free 0; have g1 := HV2.out.free 1; have g2 := HV2.out.free 2; have g3 := HV2.out.free 3; have g4 := HV2.out.free 4; have g5 := HV2.out.free 5; have g6 := HV2.out.free 6; have g7 := HV2.out.free 7
      simp at y0 y1 y2 y3 y4 y5 y6 y7
      go_wp2_with fail
      rw [← HRF.out]
      have hV := VAt.store8 HV2.out (.int .i64 0) (.bool false) (.bool false) (.string ⟨#[]⟩) (.int .i64 0) (.string ⟨#[]⟩) (.slice none 0 0) (.slice none 0 0)
      have HV := Lib.hid hV
      have v0 := HV.out.cell 0; have v1 := HV.out.cell 1; have v2 := HV.out.cell 2; have v3 := HV.out.cell 3; have v4 := HV.out.cell 4; have v5 := HV.out.cell 5; have v6 := HV.out.cell 6; have v7 := HV.out.cell 7
      simp only [List.getElem?_toArray, List.getElem?_cons_zero, List.getElem?_cons_succ] at v0 v1 v2 v3 v4 v5 v6 v7
      refine bodyPost_ret (v := .agg #[.int .i64 0, .bool false, .bool false, .string ⟨#[]⟩, .int .i64 0, .string ⟨#[]⟩, .slice none 0 0, .slice none 0 0]) (by simp [results, Tryd.results22, go_sem, v0, v1, v2, v3, v4, v5, v6, v7]) rfl ?_
      have hfin := HP0.out.fresh HP8.out HK8.out (below_store8 (p := S) (Below.refl _ w8) (by rw [HSS.out]; exact Nat.le_refl _) (.int .i64 0) (.bool false) (.bool false) (.string ⟨#[]⟩) (.int .i64 0) (.string ⟨#[]⟩) (.slice none 0 0) (.slice none 0 0))
      exact ⟨_, _, _, rfl, TV.leaf _ _ 0 false Num.zero [], hfin.1, hfin.2⟩
    have hrr := HRR.out
    rw [if_neg hlim] at hrr
    replace HRR := Lib.hid hrr
    have hli : ¬ (4096 : Int) < (n1 : Int) := by omega
    clear hrr hlim
    have hrr := HRR.out
    rw [if_neg (HCN.out 116 (by decide)), if_neg (HCN.out 102 (by decide)), if_neg (HCN.out 110 (by decide)), if_neg (HCN.out 34 (by decide)), if_neg (HCN.out 91 (by decide)), if_neg (HCN.out 123 (by decide))] at hrr
    replace HRR := Lib.hid hrr
    clear hrr
    have HLT := Lib.hid hlt
    go_wp2_with fail
    refine (rnumber_any p _ xs q n1 w4 HP.out HLT.out).mono ?_
    intro e wz hend
    rw [HRR.out] at hend
    cases hRc : R with
    | ok t a' n' =>
      rw [hRc] at hend
      obtain ⟨cv, rfl, htv, hsz, hkz⟩ := hend
      obtain ⟨yk, yb, yd, ys, ya1, yn1, yc1, ya2, yn2, yc2, rfl⟩ := htv.eight
      have HPZ := Lib.hid hsz
      have HKZ := Lib.hid (HK.out.trans hkz)
      have HV2 := Lib.hid (HV.out.kept hkz (by omega))
      have HTV := Lib.hid (htv.keep (w' := wz) (A' := fun g => V + 1 ≤ g) (Nat.le_refl _) (fun g hg _ => ⟨Nat.le_trans (Nat.succ_le_of_lt HVV.out.lt) hg, rfl⟩))
      clear hsz hkz htv c0 c1 c2 c3 f1 f2 f3 hcc
      simp only [cellsV]
      have y0 := HV2.out.cell 0; have y1 := HV2.out.cell 1; have y2 := HV2.out.cell 2; have y3 := HV2.out.cell 3; have y4 := HV2.out.cell 4; have y5 := HV2.out.cell 5; have y6 := HV2.out.cell 6; have y7 := HV2.out.cell 7
      have g0 := HV2.out.free 0; have g1 := HV2.out.free 1; have g2 := HV2.out.free 2; have g3 := HV2.out.free 3; have g4 := HV2.out.free 4; have g5 := HV2.out.free 5; have g6 := HV2.out.free 6; have g7 := HV2.out.free 7
      simp at y0 y1 y2 y3 y4 y5 y6 y7
      go_wp2_with fail
      have hV := VAt.store8 HV2.out (.int .i64 yk) (.bool yb) (.bool yd.neg) (.string ⟨yd.digits.toArray⟩) (.int .i64 yd.exp) (.string ⟨ys.toArray⟩) (.slice ya1 yn1 yc1) (.slice ya2 yn2 yc2)
      have HV := Lib.hid hV
      have v0 := HV.out.cell 0; have v1 := HV.out.cell 1; have v2 := HV.out.cell 2; have v3 := HV.out.cell 3; have v4 := HV.out.cell 4; have v5 := HV.out.cell 5; have v6 := HV.out.cell 6; have v7 := HV.out.cell 7
      simp only [List.getElem?_toArray, List.getElem?_cons_zero, List.getElem?_cons_succ] at v0 v1 v2 v3 v4 v5 v6 v7
      refine bodyPost_ret (v := .agg #[.int .i64 yk, .bool yb, .bool yd.neg, .string ⟨yd.digits.toArray⟩, .int .i64 yd.exp, .string ⟨ys.toArray⟩, .slice ya1 yn1 yc1, .slice ya2 yn2 yc2]) (by simp [results, Tryd.results22, go_sem, v0, v1, v2, v3, v4, v5, v6, v7]) rfl ?_
      have hfin := HP0.out.fresh HPZ.out HKZ.out (below_store8 (p := S) (Below.refl _ wz) (by rw [HSS.out]; exact Nat.le_refl _) (.int .i64 yk) (.bool yb) (.bool yd.neg) (.string ⟨yd.digits.toArray⟩) (.int .i64 yd.exp) (.string ⟨ys.toArray⟩) (.slice ya1 yn1 yc1) (.slice ya2 yn2 yc2))
      rw [hRc]
      exact ⟨_, rfl, HTV.out.keep (by simp [World.setCell]) (fun g hg hlt => ⟨by rw [HSS.out]; omega, heap8 (by omega)⟩), hfin.1, hfin.2⟩
    | err er b =>
      rw [hRc] at hend
      obtain ⟨cv, t, n', rfl, htv, hsz, hkz⟩ := hend
      obtain ⟨yk, yb, yd, ys, ya1, yn1, yc1, ya2, yn2, yc2, rfl⟩ := htv.eight
      have HPZ := Lib.hid hsz
      have HKZ := Lib.hid (HK.out.trans hkz)
      have HV2 := Lib.hid (HV.out.kept hkz (by omega))
      have HTV := Lib.hid (htv.keep (w' := wz) (A' := fun g => V + 1 ≤ g) (Nat.le_refl _) (fun g hg _ => ⟨Nat.le_trans (Nat.succ_le_of_lt HVV.out.lt) hg, rfl⟩))
      clear hsz hkz htv c0 c1 c2 c3 f1 f2 f3 hcc
      simp only [cellsV]
      have y0 := HV2.out.cell 0; have y1 := HV2.out.cell 1; have y2 := HV2.out.cell 2; have y3 := HV2.out.cell 3; have y4 := HV2.out.cell 4; have y5 := HV2.out.cell 5; have y6 := HV2.out.cell 6; have y7 := HV2.out.cell 7
      have g0 := HV2.out.free 0; have g1 := HV2.out.free 1; have g2 := HV2.out.free 2; have g3 := HV2.out.free 3; have g4 := HV2.out.free 4; have g5 := HV2.out.free 5; have g6 := HV2.out.free 6; have g7 := HV2.out.free 7
      simp at y0 y1 y2 y3 y4 y5 y6 y7
      go_wp2_with fail
      have hV := VAt.store8 HV2.out (.int .i64 yk) (.bool yb) (.bool yd.neg) (.string ⟨yd.digits.toArray⟩) (.int .i64 yd.exp) (.string ⟨ys.toArray⟩) (.slice ya1 yn1 yc1) (.slice ya2 yn2 yc2)
      have HV := Lib.hid hV
      have v0 := HV.out.cell 0; have v1 := HV.out.cell 1; have v2 := HV.out.cell 2; have v3 := HV.out.cell 3; have v4 := HV.out.cell 4; have v5 := HV.out.cell 5; have v6 := HV.out.cell 6; have v7 := HV.out.cell 7
      simp only [List.getElem?_toArray, List.getElem?_cons_zero, List.getElem?_cons_succ] at v0 v1 v2 v3 v4 v5 v6 v7
      refine bodyPost_ret (v := .agg #[.int .i64 yk, .bool yb, .bool yd.neg, .string ⟨yd.digits.toArray⟩, .int .i64 yd.exp, .string ⟨ys.toArray⟩, .slice ya1 yn1 yc1, .slice ya2 yn2 yc2]) (by simp [results, Tryd.results22, go_sem, v0, v1, v2, v3, v4, v5, v6, v7]) rfl ?_
      have hfin := HP0.out.fresh HPZ.out HKZ.out (below_store8 (p := S) (Below.refl _ wz) (by rw [HSS.out]; exact Nat.le_refl _) (.int .i64 yk) (.bool yb) (.bool yd.neg) (.string ⟨yd.digits.toArray⟩) (.int .i64 yd.exp) (.string ⟨ys.toArray⟩) (.slice ya1 yn1 yc1) (.slice ya2 yn2 yc2))
      rw [hRc]
      exact ⟨_, _, _, rfl, HTV.out.keep (by simp [World.setCell]) (fun g hg hlt => ⟨by rw [HSS.out]; omega, heap8 (by omega)⟩), hfin.1, hfin.2⟩
  · obtain rfl : c = 34 := u8_lit c 34 h
    clear h
    by_cases hlim : 4096 < n1
    · have HRF : Hid (.err 4 q = R) := Lib.hid (by rw [← HRR.out, if_pos hlim])
      have hli : (4096 : Int) < (n1 : Int) := by omega
      clear hlim
      go_wp2_with fail
      refine (fail_any p _ xs q n1 4 q _ HP.out hql).mono ?_
      rintro e w8 ⟨rfl, hs8, hk8⟩
      have HP8 := Lib.hid hs8
      have HK8 := Lib.hid (HK.out.trans hk8)
      have HV2 := Lib.hid (HV.out.kept hk8 (by omega))
      clear hs8 hk8 c0 c1 c2 c3 f1 f2 f3
      simp only [zeroV, cellsV, Num.zero, noL]
      have y0 := HV2.out.cell 0; have y1 := HV2.out.cell 1; have y2 := HV2.out.cell 2; have y3 := HV2.out.cell 3; have y4 := HV2.out.cell 4; have y5 := HV2.out.cell 5; have y6 := HV2.out.cell 6; have y7 := HV2.out.cell 7
      have g0 := HV2.out.free 0; have g1 := HV2.out.free 1; have g2 := HV2.out.free 2; have g3 := HV2.out.free 3; have g4 := HV2.out.free 4; have g5 := HV2.out.free 5; have g6 := HV2.out.free 6; have g7 := HV2.out.free 7
      simp at y0 y1 y2 y3 y4 y5 y6 y7
      go_wp2_with fail
      rw [← HRF.out]
      have hV := VAt.store8 HV2.out (.int .i64 0) (.bool false) (.bool false) (.string ⟨#[]⟩) (.int .i64 0) (.string ⟨#[]⟩) (.slice none 0 0) (.slice none 0 0)
      have HV := Lib.hid hV
      have v0 := HV.out.cell 0; have v1 := HV.out.cell 1; have v2 := HV.out.cell 2; have v3 := HV.out.cell 3; have v4 := HV.out.cell 4; have v5 := HV.out.cell 5; have v6 := HV.out.cell 6; have v7 := HV.out.cell 7
      simp only [List.getElem?_toArray, List.getElem?_cons_zero, List.getElem?_cons_succ] at v0 v1 v2 v3 v4 v5 v6 v7
      refine bodyPost_ret (v := .agg #[.int .i64 0, .bool false, .bool false, .string ⟨#[]⟩, .int .i64 0, .string ⟨#[]⟩, .slice none 0 0, .slice none 0 0]) (by simp [results, Tryd.results22, go_sem, v0, v1, v2, v3, v4, v5, v6, v7]) rfl ?_
      have hfin := HP0.out.fresh HP8.out HK8.out (below_store8 (p := S) (Below.refl _ w8) (by rw [HSS.out]; exact Nat.le_refl _) (.int .i64 0) (.bool false) (.bool false) (.string ⟨#[]⟩) (.int .i64 0) (.string ⟨#[]⟩) (.slice none 0 0) (.slice none 0 0))
      exact ⟨_, _, _, rfl, TV.leaf _ _ 0 false Num.zero [], hfin.1, hfin.2⟩
    have hrr := HRR.out
    rw [if_neg hlim] at hrr
    replace HRR := Lib.hid hrr
    have hli : ¬ (4096 : Int) < (n1 : Int) := by omega
    clear hrr hlim
    have hrr := HRR.out
    rw [if_neg (by decide), if_neg (by decide), if_neg (by decide), if_pos rfl, textP, if_pos HGET.out] at hrr
    replace HRR := Lib.hid hrr
    clear hrr
    obtain ⟨q1, hq1⟩ : ∃ q1, q + 1 = q1 := ⟨_, rfl⟩
    have hrr := HRR.out
    rw [hq1] at hrr
    replace HRR := Lib.hid hrr
    have e9 : IntKind.i64.wrap ((q : Int) + 1) = (q1 : Int) := by rw [IntWalk.i64_in _ (by omega)]; omega
    have hp5 := HP.out.setA q1 (by omega)
    have hk5 : KeptP p w4 (w4.setCell ⟨p, 2, none⟩ (.int .i64 (q1 : Nat))) := KeptP.set _
    have hv5 := HV.out.oth (p := p) (i := 2) (u := .int .i64 (q1 : Nat)) (by omega)
    clear hrr hq1
    go_upto_region 30 with fail
    clear c0 c1 c2 c3 f1 f2 f3 hcc
    generalize w4.setCell ⟨p, 2, none⟩ (.int .i64 (q1 : Nat)) = w5 at *
    replace HP := Lib.hid hp5
    replace HK := Lib.hid (HK.out.trans hk5)
    replace HV := Lib.hid hv5
    clear hp5 hk5 hv5
    go_wp2_with fail
    refine (rtext_any p _ xs q1 n1 w5 HP.out HX0.out).mono ?_
    intro e wz hend
    cases hTc : textL xs n1 (xs.length + 1) q1 [] with
    | ok s a' n' =>
      rw [hTc] at hend
      obtain ⟨rfl, hsz, hkz⟩ := hend
      have HRF : Hid (.ok (tStr s) a' n' = R) := Lib.hid (by rw [← HRR.out, hTc]; rfl)
      have HPZ := Lib.hid hsz
      have HKZ := Lib.hid (HK.out.trans hkz)
      have HVZ := Lib.hid (HV.out.kept hkz (by omega))
      clear hsz hkz hTc
      have HV2 := HVZ
      have y0 := HV2.out.cell 0; have y1 := HV2.out.cell 1; have y2 := HV2.out.cell 2; have y3 := HV2.out.cell 3; have y4 := HV2.out.cell 4; have y5 := HV2.out.cell 5; have y6 := HV2.out.cell 6; have y7 := HV2.out.cell 7
      have g0 := HV2.out.free 0; have g1 := HV2.out.free 1; have g2 := HV2.out.free 2; have g3 := HV2.out.free 3; have g4 := HV2.out.free 4; have g5 := HV2.out.free 5; have g6 := HV2.out.free 6; have g7 := HV2.out.free 7
      simp at y0 y1 y2 y3 y4 y5 y6 y7
      go_wp2_with fail
      rw [← HRF.out]
      have hV := VAt.store8 HV2.out (.int .i64 3) (.bool false) (.bool false) (.string ⟨#[]⟩) (.int .i64 0) (.string ⟨s.toArray⟩) (.slice none 0 0) (.slice none 0 0)
      have HV := Lib.hid hV
      have v0 := HV.out.cell 0; have v1 := HV.out.cell 1; have v2 := HV.out.cell 2; have v3 := HV.out.cell 3; have v4 := HV.out.cell 4; have v5 := HV.out.cell 5; have v6 := HV.out.cell 6; have v7 := HV.out.cell 7
      simp only [List.getElem?_toArray, List.getElem?_cons_zero, List.getElem?_cons_succ] at v0 v1 v2 v3 v4 v5 v6 v7
      refine bodyPost_ret (v := .agg #[.int .i64 3, .bool false, .bool false, .string ⟨#[]⟩, .int .i64 0, .string ⟨s.toArray⟩, .slice none 0 0, .slice none 0 0]) (by simp [results, Tryd.results22, go_sem, v0, v1, v2, v3, v4, v5, v6, v7]) rfl ?_
      have hfin := HP0.out.fresh HPZ.out HKZ.out (below_store8 (p := S) (Below.refl _ wz) (by rw [HSS.out]; exact Nat.le_refl _) (.int .i64 3) (.bool false) (.bool false) (.string ⟨#[]⟩) (.int .i64 0) (.string ⟨s.toArray⟩) (.slice none 0 0) (.slice none 0 0))
      exact ⟨_, rfl, TV.leaf _ _ 3 false Num.zero s, hfin.1, hfin.2⟩
    | err er b =>
      rw [hTc] at hend
      obtain ⟨n', rfl, hsz, hkz⟩ := hend
      have HRF : Hid (.err er b = R) := Lib.hid (by rw [← HRR.out, hTc]; rfl)
      have HPZ := Lib.hid hsz
      have HKZ := Lib.hid (HK.out.trans hkz)
      have HV2 := Lib.hid (HV.out.kept hkz (by omega))
      clear hsz hkz hTc
      have y0 := HV2.out.cell 0; have y1 := HV2.out.cell 1; have y2 := HV2.out.cell 2; have y3 := HV2.out.cell 3; have y4 := HV2.out.cell 4; have y5 := HV2.out.cell 5; have y6 := HV2.out.cell 6; have y7 := HV2.out.cell 7
      have g0 := HV2.out.free 0; have g1 := HV2.out.free 1; have g2 := HV2.out.free 2; have g3 := HV2.out.free 3; have g4 := HV2.out.free 4; have g5 := HV2.out.free 5; have g6 := HV2.out.free 6; have g7 := HV2.out.free 7
      simp at y0 y1 y2 y3 y4 y5 y6 y7
      go_wp2_with fail
      rw [← HRF.out]
      have hV := VAt.store8 HV2.out (.int .i64 3) (.bool false) (.bool false) (.string ⟨#[]⟩) (.int .i64 0) (.string ⟨#[]⟩) (.slice none 0 0) (.slice none 0 0)
      have HV := Lib.hid hV
      have v0 := HV.out.cell 0; have v1 := HV.out.cell 1; have v2 := HV.out.cell 2; have v3 := HV.out.cell 3; have v4 := HV.out.cell 4; have v5 := HV.out.cell 5; have v6 := HV.out.cell 6; have v7 := HV.out.cell 7
      simp only [List.getElem?_toArray, List.getElem?_cons_zero, List.getElem?_cons_succ] at v0 v1 v2 v3 v4 v5 v6 v7
      refine bodyPost_ret (v := .agg #[.int .i64 3, .bool false, .bool false, .string ⟨#[]⟩, .int .i64 0, .string ⟨#[]⟩, .slice none 0 0, .slice none 0 0]) (by simp [results, Tryd.results22, go_sem, v0, v1, v2, v3, v4, v5, v6, v7]) rfl ?_
      have hfin := HP0.out.fresh HPZ.out HKZ.out (below_store8 (p := S) (Below.refl _ wz) (by rw [HSS.out]; exact Nat.le_refl _) (.int .i64 3) (.bool false) (.bool false) (.string ⟨#[]⟩) (.int .i64 0) (.string ⟨#[]⟩) (.slice none 0 0) (.slice none 0 0))
      exact ⟨_, _, _, rfl, TV.leaf _ _ 3 false Num.zero [], hfin.1, hfin.2⟩
  · obtain rfl : c = 91 := u8_lit c 91 h
    clear h
    by_cases hlim : 4096 < n1
    · have HRF : Hid (.err 4 q = R) := Lib.hid (by rw [← HRR.out, if_pos hlim])
      have hli : (4096 : Int) < (n1 : Int) := by omega
      clear hlim
      go_wp2_with fail
      refine (fail_any p _ xs q n1 4 q _ HP.out hql).mono ?_
      rintro e w8 ⟨rfl, hs8, hk8⟩
      have HP8 := Lib.hid hs8
      have HK8 := Lib.hid (HK.out.trans hk8)
      have HV2 := Lib.hid (HV.out.kept hk8 (by omega))
      clear hs8 hk8 c0 c1 c2 c3 f1 f2 f3
      simp only [zeroV, cellsV, Num.zero, noL]
      have y0 := HV2.out.cell 0; have y1 := HV2.out.cell 1; have y2 := HV2.out.cell 2; have y3 := HV2.out.cell 3; have y4 := HV2.out.cell 4; have y5 := HV2.out.cell 5; have y6 := HV2.out.cell 6; have y7 := HV2.out.cell 7
      have g0 := HV2.out.free 0; have g1 := HV2.out.free 1; have g2 := HV2.out.free 2; have g3 := HV2.out.free 3; have g4 := HV2.out.free 4; have g5 := HV2.out.free 5; have g6 := HV2.out.free 6; have g7 := HV2.out.free 7
      simp at y0 y1 y2 y3 y4 y5 y6 y7
      go_wp2_with fail
      rw [← HRF.out]
      have hV := VAt.store8 HV2.out (.int .i64 0) (.bool false) (.bool false) (.string ⟨#[]⟩) (.int .i64 0) (.string ⟨#[]⟩) (.slice none 0 0) (.slice none 0 0)
      have HV := Lib.hid hV
      have v0 := HV.out.cell 0; have v1 := HV.out.cell 1; have v2 := HV.out.cell 2; have v3 := HV.out.cell 3; have v4 := HV.out.cell 4; have v5 := HV.out.cell 5; have v6 := HV.out.cell 6; have v7 := HV.out.cell 7
      simp only [List.getElem?_toArray, List.getElem?_cons_zero, List.getElem?_cons_succ] at v0 v1 v2 v3 v4 v5 v6 v7
      refine bodyPost_ret (v := .agg #[.int .i64 0, .bool false, .bool false, .string ⟨#[]⟩, .int .i64 0, .string ⟨#[]⟩, .slice none 0 0, .slice none 0 0]) (by simp [results, Tryd.results22, go_sem, v0, v1, v2, v3, v4, v5, v6, v7]) rfl ?_
      have hfin := HP0.out.fresh HP8.out HK8.out (below_store8 (p := S) (Below.refl _ w8) (by rw [HSS.out]; exact Nat.le_refl _) (.int .i64 0) (.bool false) (.bool false) (.string ⟨#[]⟩) (.int .i64 0) (.string ⟨#[]⟩) (.slice none 0 0) (.slice none 0 0))
      exact ⟨_, _, _, rfl, TV.leaf _ _ 0 false Num.zero [], hfin.1, hfin.2⟩
    have hrr := HRR.out
    rw [if_neg hlim] at hrr
    replace HRR := Lib.hid hrr
    have hli : ¬ (4096 : Int) < (n1 : Int) := by omega
    clear hrr hlim
    have hrr := HRR.out
    rw [if_neg (by decide), if_neg (by decide), if_neg (by decide), if_neg (by decide), if_pos rfl] at hrr
    replace HRR := Lib.hid hrr
    clear hrr
    by_cases hdeep : 64 ≤ deep
    · have HRF : Hid (.err 3 q = R) := Lib.hid (by rw [← HRR.out, if_pos hdeep])
      have hdi : (64 : Int) ≤ (deep : Int) := by omega
      clear hdeep
      go_wp2_with fail
      refine (fail_any p _ xs q n1 3 q _ HP.out hql).mono ?_
      rintro e w8 ⟨rfl, hs8, hk8⟩
      have HP8 := Lib.hid hs8
      have HK8 := Lib.hid (HK.out.trans hk8)
      have HV2 := Lib.hid (HV.out.kept hk8 (by omega))
      clear hs8 hk8 c0 c1 c2 c3 f1 f2 f3
      simp only [zeroV, cellsV, Num.zero, noL]
      have y0 := HV2.out.cell 0; have y1 := HV2.out.cell 1; have y2 := HV2.out.cell 2; have y3 := HV2.out.cell 3; have y4 := HV2.out.cell 4; have y5 := HV2.out.cell 5; have y6 := HV2.out.cell 6; have y7 := HV2.out.cell 7
      have g0 := HV2.out.free 0; have g1 := HV2.out.free 1; have g2 := HV2.out.free 2; have g3 := HV2.out.free 3; have g4 := HV2.out.free 4; have g5 := HV2.out.free 5; have g6 := HV2.out.free 6; have g7 := HV2.out.free 7
      simp at y0 y1 y2 y3 y4 y5 y6 y7
      go_wp2_with fail
      rw [← HRF.out]
      have hV := VAt.store8 HV2.out (.int .i64 0) (.bool false) (.bool false) (.string ⟨#[]⟩) (.int .i64 0) (.string ⟨#[]⟩) (.slice none 0 0) (.slice none 0 0)
      have HV := Lib.hid hV
      have v0 := HV.out.cell 0; have v1 := HV.out.cell 1; have v2 := HV.out.cell 2; have v3 := HV.out.cell 3; have v4 := HV.out.cell 4; have v5 := HV.out.cell 5; have v6 := HV.out.cell 6; have v7 := HV.out.cell 7
      simp only [List.getElem?_toArray, List.getElem?_cons_zero, List.getElem?_cons_succ] at v0 v1 v2 v3 v4 v5 v6 v7
      refine bodyPost_ret (v := .agg #[.int .i64 0, .bool false, .bool false, .string ⟨#[]⟩, .int .i64 0, .string ⟨#[]⟩, .slice none 0 0, .slice none 0 0]) (by simp [results, Tryd.results22, go_sem, v0, v1, v2, v3, v4, v5, v6, v7]) rfl ?_
      have hfin := HP0.out.fresh HP8.out HK8.out (below_store8 (p := S) (Below.refl _ w8) (by rw [HSS.out]; exact Nat.le_refl _) (.int .i64 0) (.bool false) (.bool false) (.string ⟨#[]⟩) (.int .i64 0) (.string ⟨#[]⟩) (.slice none 0 0) (.slice none 0 0))
      exact ⟨_, _, _, rfl, TV.leaf _ _ 0 false Num.zero [], hfin.1, hfin.2⟩
    have hrr := HRR.out
    rw [if_neg hdeep] at hrr
    replace HRR := Lib.hid hrr
    have hdi : ¬ (64 : Int) ≤ (deep : Int) := by omega
    have HDP : Hid (deep < 64) := Lib.hid (by omega)
    clear hrr hdeep
    obtain ⟨q1, hq1⟩ : ∃ q1, q + 1 = q1 := ⟨_, rfl⟩
    have e9 : IntKind.i64.wrap ((q : Int) + 1) = (q1 : Int) := by rw [IntWalk.i64_in _ (by omega)]; omega
    have hrr := HRR.out
    rw [openP, hq1] at hrr
    replace HRR := Lib.hid hrr
    have hpV : p ≠ V := by omega
    have z0 := HVV.out.cell 0
    have zf := HVV.out.free 0
    simp at z0
    have hfr := HP0.out.fresh HP.out HK.out (((Below.refl w.heap.size w4)).setCell (p := ⟨V, 0, none⟩) (show w.heap.size ≤ V by rw [HSS.out]; omega) (.int .i64 4))
    have hvv5 := HVV.out.set1 0 (.int .i64 4)
    have hv5 := HV.out.oth (p := V) (i := 0) (u := .int .i64 4) (by omega)
    go_upto_region 33 with fail
    clear z0 zf c0 c1 c2 c3 f1 f2 f3 hcc
    generalize w4.setCell ⟨V, 0, none⟩ (.int .i64 4) = w5 at *
    obtain ⟨hp5, hk5⟩ := hfr
    replace HP := Lib.hid hp5
    replace HK := Lib.hid hk5
    replace HV := Lib.hid hv5
    replace HVV : Hid (VAt w5 V (cellsV 4 false Num.zero [] noL noL)) := Lib.hid hvv5
    clear hp5 hk5 hv5 hvv5 hrr
    obtain ⟨c0, c1, c2, c3, f1, f2, f3, hpl⟩ := HP.out.1.cells
    have hq1l : q1 ≤ xs.length := by omega
    have hp6 := HP.out.setA q1 hq1l
    have hk6 : KeptP p w5 (w5.setCell ⟨p, 2, none⟩ (.int .i64 (q1 : Nat))) := KeptP.set _
    have hv6 := HV.out.oth (p := p) (i := 2) (u := .int .i64 (q1 : Nat)) (by omega)
    have hvv6 := HVV.out.oth (p := p) (i := 2) (u := .int .i64 (q1 : Nat)) (Ne.symm hpV)
    go_upto_region 34 with fail
    clear c0 c1 c2 c3 f1 f2 f3
    generalize w5.setCell ⟨p, 2, none⟩ (.int .i64 (q1 : Nat)) = w6 at *
    replace HP := Lib.hid hp6
    replace HK := Lib.hid (HK.out.trans hk6)
    replace HV := Lib.hid hv6
    replace HVV := Lib.hid hvv6
    clear hp6 hk6 hv6 hvv6 hq1 e9
    go_wp2_with fail
    refine (swhite_any p _ xs q1 n1 0 w6 HP.out).mono ?_
    rintro e w7 ⟨rfl, hs7, hk7⟩
    replace HP := Lib.hid hs7
    replace HK := Lib.hid (HK.out.trans hk7)
    replace HV := Lib.hid (HV.out.kept hk7 (by omega))
    replace HVV := Lib.hid (HVV.out.kept hk7 (Ne.symm hpV))
    clear hs7 hk7
    obtain ⟨q2, hq2⟩ : ∃ q2, whiteN xs q1 = q2 := ⟨_, rfl⟩
    have hq2l := whiteN_le xs q1
    have hrr := HRR.out
    have hp7 := HP.out
    rw [hq2] at hrr hp7 hq2l
    replace HRR := Lib.hid hrr
    replace HP := Lib.hid hp7
    clear hrr hp7 hq2
    go_wp2_with fail
    -- the state ahead of the loop
    have HST : Hid (∃ (on : Bool) (k m : Nat), True) := Lib.hid ⟨true, 0, 0, trivial⟩
    by_cases h93 : xs[q2]? = some 93
    · refine (is_yes p _ xs q2 n1 0 93 w7 HP.out h93).mono ?_
      rintro e w8 ⟨rfl, hs8, hk8⟩
      have HP8 := Lib.hid hs8
      have HRF : Hid (.ok (tArr []) (q2 + 1) n1 = R) := Lib.hid (by rw [← HRR.out, if_pos (by rw [peekP, List.getD_eq_getElem?_getD, h93]; rfl)]; rfl)
      have HK8 := Lib.hid (HK.out.trans hk8)
      have HV2 := Lib.hid (HV.out.kept hk8 (by omega))
      have HVV8 := Lib.hid (HVV.out.kept hk8 (Ne.symm hpV))
      have HV8 := HV2
      clear hs8 hk8 h93 HP HK HV HVV HV2
      go_wp2_with fail
      have HSV := Lib.hid hSV
      go_loopg [9] (xs.length + 1) (fun g onv wx => ∃ (on : Bool) (acc : List Tree) (k m : Nat) (er : Int), onv = .bool on ∧ SS wx p (.slice (some ⟨bk, o, none⟩) xs.length vc) xs k m er ∧ StA (V + 1) V acc wx ∧ KeptQ (V + 1) p V w8 wx ∧ VAt wx S #[.int .i64 0, .bool false, .bool false, .string ⟨#[]⟩, .int .i64 0, .string ⟨#[]⟩, .slice none 0 0, .slice none 0 0] ∧
        ((on = true ∧ er = 0 ∧ xs.length + 1 ≤ k + g ∧ m ≤ 4096 ∧ acc.length ≤ k ∧ PR.map tArr (listP xs 93 (itemA (valueP xs f (deep + 1))) g acc k m) = R) ∨ (on = false ∧ ((er = 0 ∧ R = .ok (tArr acc) k m) ∨ (er ≠ 0 ∧ R = .err er k)))))
      case atStart => exact ⟨false, [], q2 + 1, n1, 0, rfl, HP8.out, StA.nil HVV8.out, ⟨rfl, rfl, rfl, Nat.le_refl _, fun _ _ _ _ => rfl⟩, HV8.out, .inr ⟨rfl, .inl ⟨rfl, HRF.out.symm⟩⟩⟩
      case round =>
        obtain ⟨on, acc, k, m, er, rfl, hss, hst, hkq, hvs, hcase⟩ := hrel
        have HPX := Lib.hid hss
        have HSX := Lib.hid hst
        have HKX := Lib.hid hkq
        have HVX := Lib.hid hvs
        clear hss hst hkq hvs
        rcases hcase with ⟨rfl, rfl, hfu, hm4, hal, hlist⟩ | ⟨rfl, hres⟩
        · have HL := Lib.hid hlist
          clear hlist
          obtain ⟨c0, c1, c2, c3, f1, f2, f3, hpl⟩ := HPX.out.1.cells
          go_upto_region 37 with fail
          clear c0 c1 c2 c3 f1 f2 f3
          obtain ⟨vL, cs, hvv, hown, htl⟩ := HSX.out
          obtain ⟨vA, vC, hvL⟩ : ∃ a c, vL = .slice a acc.length c := ownsRow_shape hown
          subst hvL
          have hsV := hvv.lt
          have hsz : V + 1 ≤ wr.heap.size := hsV
          have hpw9 : p < wr.heap.size := by have := HSV.out; omega
          have hltr : ∀ k, (Value.slice vA acc.length vC).ownBlock = some k → V + 1 ≤ k ∧ k < wr.heap.size := fun k hk => hown.lt k hk
          have HVW := Lib.hid hvv
          have HOW := Lib.hid hown
          have HTW := Lib.hid htl
          clear hvv hown htl HSX
          have e0 : IntKind.i64.wrap ((deep : Int) + 1) = ((deep + 1 : Nat) : Int) := by have := HDP.out; rw [IntWalk.i64_in _ (by omega)]; omega
          have HCALL := Lib.hid (IH.out HDP.out k m)
          obtain ⟨r, hr⟩ : ∃ r, valueP xs f (deep + 1) k m = r := ⟨_, rfl⟩
          have hcall := HCALL.out
          rw [hr] at hcall
          replace HCALL := Lib.hid hcall
          have HRV := Lib.hid hr
          clear hcall hr
          have h0 : ∀ w w', Ext w w' → KeptP p w w' := fun _ _ => KeptP.ofExt
          have h1 : ∀ w1 w', (KeptP p w1 w' ∧ ∃ n', r.np n' ∧ SS w' p (.slice (some ⟨bk, o, none⟩) xs.length vc) xs r.pl n' r.er) → KeptP p w1 w' := fun _ _ h => h.1
          refine GrowS.wp_region_restT (G0 := Ext) (G1 := fun w1 w' => KeptP p w1 w' ∧ ∃ n', r.np n' ∧ SS w' p (.slice (some ⟨bk, o, none⟩) xs.length vc) xs r.pl n' r.er) (B0 := fun w' => Ext wr w') (B1 := fun w' => KeptP p wr w' ∧ ∃ n', r.np n' ∧ SS w' p (.slice (some ⟨bk, o, none⟩) xs.length vc) xs r.pl n' r.er) (E := fun _ _ => False) (anc := fun j => if j = 6 then [5] else [])
            (I := fun j => if j = 5 then some (specTQ h0 h1 hpw9 r.tp) else if j = 6 then some (specOneQ h0 h1 hpw9 r.tp) else none) 5 7 (fun j => [[], [0], [], [], [3], [2, 3, 4], [2, 3, 4, 5], [0, 1, 2, 3, 4, 5, 6], [0, 1, 2, 3, 4, 5, 6, 7], [0, 1, 2, 3, 4, 5, 6, 7, 8]].getD j []) #[true, true, true, true, true, true, true, false, false, false]
            (by kernel_rfl) (by kernel_rfl) (by kernel_rfl) (by kernel_rfl) (by kernel_rfl) (by kernel_rfl) ?_ ?_ ?_ ?_ ?_ ?_
          · exact fun w w' h hg => ext_trans h hg
          · exact fun w1 w' h hg => ⟨h.1.trans (KeptP.ofExt hg), by obtain ⟨n', hn', hs'⟩ := h.2; exact ⟨n', hn', hs'.ext hg⟩⟩
          · exact fun w1 w' h hg => ⟨(KeptP.ofExt h).trans hg.1, hg.2⟩
          · exact fun _ _ _ _ h => h.elim
          · exact (ext_refl _).drew
          have HBK : Hid (∀ {k : Nat} w', GrowS.atS 5 (fun w' => Ext wr w') (fun w' => KeptP p wr w' ∧ ∃ n', r.np n' ∧ SS w' p (.slice (some ⟨bk, o, none⟩) xs.length vc) xs r.pl n' r.er) k w' → KeptP p wr w') := Lib.hid (fun w' h => by
            unfold GrowS.atS at h
            split at h
            · exact KeptP.ofExt h
            · rcases h with h | h
              · exact KeptP.ofExt h
              · exact h.1)
          simp only [List.take_succ_cons, List.take_zero, List.drop_succ_cons, List.drop_zero]
          repeat
            (refine GrowS.Wk.step (fun K hK => ?_)
             first
             | (refine GrowS.step_read (by rfl) (by rfl) (fun w => ext_refl w) ?_
                apply Exists.intro
                refine ⟨fun w hB hF => ?_, ?_⟩
                · replace hB := HBK.out w hB
                  have c0 := (HVW.out.kept hB (Ne.symm hpV)).cell 6; have f0 := (HVW.out.kept hB (Ne.symm hpV)).free 6; simp at c0
                  go_simp
                  try exact rfl
                go_simp
                refine hK _ _ ?_
                clear hK K)
             | (refine GrowS.step_off (by rfl) ?_
                go_simp
                refine hK _ _ ?_
                clear hK K))
          refine GrowS.Wk.step (fun K hK => ?_)
          refine GrowS.step_rel (by rfl) (by rfl) (fun w' hB hF => ?_) (fun v hv => ?_)
          · replace hB : Ext wr w' := hB
            go_simp
            refine GrowS.relUpon_enter ((HCALL.out w' (HPX.out.ext hB) hm4).mono ?_)
            intro e w'' hend
            obtain ⟨cv, tv, n', rfl, htp, hnp, htv, hss, hk⟩ := hend.all
            obtain ⟨yk, yb, yd, ys, ya1, yn1, yc1, ya2, yn2, yc2, rfl⟩ := htv.eight
            exact .inl ⟨_, rfl, ⟨hk, n', hnp, hss⟩, ⟨_, _, _, _, _, _, _, _, _, _, rfl⟩, tv, _, htp, rfl, htv.keep (Nat.le_refl _) (fun g hg _ => ⟨Nat.le_trans hB.size hg, rfl⟩)⟩
          obtain ⟨yk, yb, yd, ys, ya1, yn1, yc1, ya2, yn2, yc2, rfl⟩ := hv
          go_simp
          refine hK _ _ ?_
          clear hK K
          refine GrowS.Wk.step (fun K hK => ?_)
          refine GrowS.step_rel (by rfl) (by rfl) (fun w' hB hF => ?_) (fun v hv => ?_)
          · replace hB := HBK.out w' hB
            obtain ⟨tv, cv, htp, ecv, htv⟩ := hF 5 (by simp)
            simp only [Value.agg.injEq] at ecv
            subst ecv
            have hnew := heap_alloc_new w' (.cells (cellsV yk yb yd ys (.slice ya1 yn1 yc1) (.slice ya2 yn2 yc2)) 29)
            have htv2 := htv.keep (w' := w'.alloc (.cells (cellsV yk yb yd ys (.slice ya1 yn1 yc1) (.slice ya2 yn2 yc2)) 29)) (A' := fun g => wr.heap.size ≤ g) (by simp) (fun g hg hlt => ⟨hg, heap_alloc_old w' _ hlt⟩)
            have HNEW := Lib.hid hnew
            have HTV2 := Lib.hid htv2
            clear hnew htv2 hF
            go_simp
            exact GrowS.relUpon_value ((ext_refl w').alloc (Nat.le_refl _) _) ⟨_, rfl⟩ ⟨_, tv, _, rfl, hB.size, HNEW.out, htp, HTV2.out⟩
          obtain ⟨gn, rfl⟩ := hv
          go_simp
          refine hK _ _ ?_
          clear hK K
          refine GrowS.Wk.nil ?_
          intro w3' hB hF
          obtain ⟨gn', tv, cv, eg, hgn, hnew, htp, htv⟩ := hF 6
          simp only [Value.slice.injEq, Option.some.injEq, Addr.mk.injEq, and_true] at eg
          subst eg
          obtain ⟨hk3, n', hnp, hss3⟩ := hB
          clear hF HBK h0 h1
          have hown3 := ownsRow_kept HOW.out hk3 (show p < V + 1 by have := HSV.out; omega)
          have hv3' := HVW.out.kept hk3 (Ne.symm hpV)
          have hk3b : V + 1 ≤ w3'.heap.size := Nat.le_trans hsz hk3.size
          have HTVN := Lib.hid htv
          have hal65 : acc.length ≤ 65536 := by have := HPX.out.2.2; omega
          show wpAny _ _ _ _ (2 + 1) _ _ _
          refine wpAny_one 7 (by kernel_rfl) ?_
          refine wpOp_append rfl (by rfl) _ _ _ _ rfl (V + 1) 29 _ _ 8 112 (by kernel_rfl) (by rfl) (by rfl) (by rfl) (by kernel_rfl) (by rfl) (by decide) _ acc.length cs (by rfl) hown3 _ 1 cv.toList (by rfl) (src_one (e' := 29) (by kernel_rfl) hnew htv.size htv.one) (by simp only [maxLen]; omega) (by omega) hk3b ?_
          intro v' w4' hown4 hgr hor
          obtain ⟨va', vc', rfl⟩ := ownsRow_shape hown4
          have hv4' : VAt w4' V (cellsV 4 false Num.zero [] (.slice vA acc.length vC) noL) := by
            unfold VAt; rw [hgr.block V hv3'.lt (fun e => by have := (hltr V e.symm).1; omega)]; exact hv3'
          have c6 := hv4'.cell 6
          have f6 := hv4'.free 6
          simp at c6
          have htl3 := HTW.out.keep hk3.size (A' := fun g => V + 1 ≤ g ∧ (Value.slice vA acc.length vC).ownBlock ≠ some g) (fun g hg hlt => ⟨hg, hk3.block g hlt (by have := hg.1; have := HSV.out; omega)⟩)
          have hpush := StA.push1 (v' := .slice va' (acc.length + 1) vc') hsz hk3 (Nat.lt_succ_self V) hltr hv3' htl3 htv hgr hown4 hor
          have hpne : (Value.slice vA acc.length vC).ownBlock ≠ some p := fun e => by have := (hltr p e).1; have := HSV.out; omega
          have hpb : (w4'.setCell ⟨V, 6, none⟩ (.slice va' (acc.length + 1) vc')).heap[p]? = w3'.heap[p]? := by
            rw [Below.heap_setCell _ _ _ _ hpV, hgr.block p hss3.1.cells.2.2.2.2.2.2.2 (Ne.symm hpne)]
          have hkQ : KeptQ (V + 1) p V wr (w4'.setCell ⟨V, 6, none⟩ (.slice va' (acc.length + 1) vc')) := ⟨hgr.os.trans hk3.os, hgr.tape.trans hk3.tape, hgr.output.trans hk3.output, Nat.le_trans hk3.size (by have := hgr.size; simpa [World.setCell] using this), fun b hb hbp hbV => by
            rw [Below.heap_setCell _ _ _ _ hbV, hgr.block b (by omega) (fun e => by have := (hltr b e.symm).1; omega)]
            exact hk3.block b (by omega) hbp⟩
          have HPUSH := Lib.hid hpush
          have HKQ := Lib.hid hkQ
          have HPB := Lib.hid hpb
          have HS3 := Lib.hid hss3
          clear hpush hkQ hpb htl3 hv4' hv3' hown3 hown4 hgr hor hnew htv hk3 hss3
          refine wpAny_one 8 (by kernel_rfl) ?_
          refine wpOp_now rfl (by rfl) ?_
          unfold Oper.wp
          go_simp
          refine wpAny_one 9 (by kernel_rfl) ?_
          refine wpOp_now rfl (by rfl) ?_
          unfold Oper.wp
          go_simp
          refine ⟨by decide +kernel, ?_⟩
          clear c6 f6
          generalize w4'.setCell ⟨V, 6, none⟩ (.slice va' (acc.length + 1) vc') = wn at *
          have HSW := Lib.hid (show w.heap.size ≤ V by have := HSS.out; omega)
          have HSN := Lib.hid (SS.through HP0.out HS3.out HPB.out (Kept.trans (Kept.trans HK8.out (HKX.out.kept (Nat.le_succ_of_le HSW.out) HSW.out)) (HKQ.out.kept (Nat.le_succ_of_le HSW.out) HSW.out)))
          have HKN := Lib.hid (HKX.out.trans HKQ.out)
          have HVN := Lib.hid (HKQ.out.vat HVX.out (Nat.lt_succ_of_lt HSV.out) (by omega) (Nat.ne_of_lt HSV.out))
          have hkle := HPX.out.2.2
          clear HPX HS3 HPB HKX HKQ HVX HVW HOW HTW HTVN HCALL
          cases gk with
          | zero => exact absurd hfu (by omega)
          | succ g =>
          cases r with
          | err e1 b1 =>
            have hfi := valueP_fine (xs := xs) f (deep + 1) k m hkle
            rw [HRV.out] at hfi
            have he1 : (e1 == 0) = false := by simpa using hfi.1
            have HRX : Hid (R = .err e1 b1) := Lib.hid (by rw [← HL.out, listP, itemA, HRV.out]; rfl)
            have he10 := hfi.1
            replace HSN := Lib.hid (show SS wn p _ xs b1 n' e1 from HSN.out)
            obtain ⟨c0, c1, c2, c3, f1, f2, f3, hpl⟩ := HSN.out.1.cells
            clear hfi
            go_wp2_with fail
            clear c0 c1 c2 c3 f1 f2 f3 hpl
            go_roundg g
            case measure => omega
            case rel => exact ⟨false, acc ++ [tv], b1, n', e1, rfl, HSN.out, HPUSH.out, HKN.out, HVN.out, .inr ⟨rfl, .inr ⟨he10, HRX.out⟩⟩⟩
          | ok t1 k1 m1 =>
            obtain rfl : tv = t1 := htp
            obtain rfl : n' = m1 := hnp
            have hok := (valueP_ok _ _ _ _ _ _ _ hkle HRV.out).2
            have hkk := (valueP_agree (Z := xs) _ _ _ _ _ _ _ hkle HRV.out).1
            replace HSN := Lib.hid (show SS wn p _ xs k1 n' 0 from HSN.out)
            have HLN : Hid (PR.map tArr (if peekP xs (whiteN xs k1) = 44 then listP xs 93 (itemA (valueP xs f (deep + 1))) g (acc ++ [tv]) (whiteN xs k1 + 1) n' else if xs[whiteN xs k1]? = some 93 then .ok (acc ++ [tv]) (whiteN xs k1 + 1) n' else .err 2 (whiteN xs k1)) = R) := Lib.hid (by rw [← HL.out, listP, itemA, HRV.out]; rfl)
            have hwg := whiteN_ge xs k1 HSN.out.2.2
            obtain ⟨c0, c1, c2, c3, f1, f2, f3, hpl⟩ := HSN.out.1.cells
            clear HL HRV
            go_wp2_with fail
            clear c0 c1 c2 c3 f1 f2 f3 hpl
            by_cases h44 : xs[whiteN xs k1]? = some 44
            · refine (more_comma p _ xs k1 n' 93 wn HSN.out h44).mono ?_
              rintro e wm ⟨rfl, hsm, hkm⟩
              have HSM := Lib.hid hsm
              have HRX : Hid (PR.map tArr (listP xs 93 (itemA (valueP xs f (deep + 1))) g (acc ++ [tv]) (whiteN xs k1 + 1) n') = R) := Lib.hid (by rw [← HLN.out, if_pos (by rw [peekP, List.getD_eq_getElem?_getD, h44]; rfl)])
              have HKM := Lib.hid (HKN.out.trans (KeptQ.ofP hkm (by obtain ⟨_, _, hh, _⟩ := HPUSH.out; exact hh.lt)))
              have HVM := Lib.hid (HVN.out.kept hkm (by omega))
              have HPM := Lib.hid (HPUSH.out.kept hkm (by omega) (Ne.symm hpV))
              clear hsm hkm HLN HKN HVN HPUSH HSN
              go_wp2_with fail
              go_roundg g
              case measure => omega
              case rel => exact ⟨true, acc ++ [tv], _, n', 0, rfl, HSM.out, HPM.out, HKM.out, HVM.out, .inl ⟨rfl, rfl, by omega, hok, by simp; omega, HRX.out⟩⟩
            · have hp44 : ¬ peekP xs (whiteN xs k1) = 44 := fun h => h44 (peekP_some h (by decide)).1
              have hln := HLN.out
              rw [if_neg hp44] at hln
              by_cases h93 : xs[whiteN xs k1]? = some 93
              · refine (more_end p _ xs k1 n' 93 wn HSN.out h44 h93).mono ?_
                rintro e wm ⟨rfl, hsm, hkm⟩
                have HSM := Lib.hid hsm
                have HRX : Hid (R = .ok (tArr (acc ++ [tv])) (whiteN xs k1 + 1) n') := Lib.hid (by rw [← hln, if_pos h93]; rfl)
                have HKM := Lib.hid (HKN.out.trans (KeptQ.ofP hkm (by obtain ⟨_, _, hh, _⟩ := HPUSH.out; exact hh.lt)))
                have HVM := Lib.hid (HVN.out.kept hkm (by omega))
                have HPM := Lib.hid (HPUSH.out.kept hkm (by omega) (Ne.symm hpV))
                clear hsm hkm HLN HKN HVN HPUSH HSN hln
                go_wp2_with fail
                go_roundg g
                case measure => omega
                case rel => exact ⟨false, acc ++ [tv], _, n', 0, rfl, HSM.out, HPM.out, HKM.out, HVM.out, .inr ⟨rfl, .inl ⟨rfl, HRX.out⟩⟩⟩
              · refine (more_bad p _ xs k1 n' 93 wn HSN.out h44 h93).mono ?_
                rintro e wm ⟨rfl, hsm, hkm⟩
                have HSM := Lib.hid hsm
                have HRX : Hid (R = .err 2 (whiteN xs k1)) := Lib.hid (by rw [← hln, if_neg h93]; rfl)
                have HKM := Lib.hid (HKN.out.trans (KeptQ.ofP hkm (by obtain ⟨_, _, hh, _⟩ := HPUSH.out; exact hh.lt)))
                have HVM := Lib.hid (HVN.out.kept hkm (by omega))
                have HPM := Lib.hid (HPUSH.out.kept hkm (by omega) (Ne.symm hpV))
                clear hsm hkm HLN HKN HVN HPUSH HSN hln
                go_wp2_with fail
                go_roundg g
                case measure => omega
                case rel => exact ⟨false, acc ++ [tv], _, n', 2, rfl, HSM.out, HPM.out, HKM.out, HVM.out, .inr ⟨rfl, .inr ⟨by decide, HRX.out⟩⟩⟩
        · have HRES := Lib.hid hres
          clear hres
          obtain ⟨vL, hvv, htv⟩ := HSX.out.tv
          obtain ⟨la, lc, rfl⟩ : ∃ a c, vL = .slice a acc.length c := by
            obtain ⟨vL', cs, h1, h2, h3⟩ := HSX.out
            obtain ⟨a, c, rfl⟩ := ownsRow_shape h2
            have e := h1.cell 6
            rw [hvv.cell 6] at e
            exact ⟨a, c, by simpa using e⟩
          have HTV := Lib.hid htv
          have HKE := Lib.hid (Kept.trans HK8.out (HKX.out.kept (Nat.le_succ_of_le (by have := HSS.out; omega)) (by have := HSS.out; omega)))
          have b0 := hvv.cell 0; have b1 := hvv.cell 1; have b2 := hvv.cell 2; have b3 := hvv.cell 3; have b4 := hvv.cell 4; have b5 := hvv.cell 5; have b6 := hvv.cell 6; have b7 := hvv.cell 7
          simp at b0 b1 b2 b3 b4 b5 b6 b7
          simp only [Num.zero] at b2 b3 b4
          have HV2 := HVX
          have HVL := Lib.hid hvv.lt
          clear htv hvv
          have y0 := HV2.out.cell 0; have y1 := HV2.out.cell 1; have y2 := HV2.out.cell 2; have y3 := HV2.out.cell 3; have y4 := HV2.out.cell 4; have y5 := HV2.out.cell 5; have y6 := HV2.out.cell 6; have y7 := HV2.out.cell 7
          have g0 := HV2.out.free 0; have g1 := HV2.out.free 1; have g2 := HV2.out.free 2; have g3 := HV2.out.free 3; have g4 := HV2.out.free 4; have g5 := HV2.out.free 5; have g6 := HV2.out.free 6; have g7 := HV2.out.free 7
          simp at y0 y1 y2 y3 y4 y5 y6 y7
          obtain ⟨c0, c1, c2, c3, f1, f2, f3, hpl⟩ := HPX.out.1.cells
          go_wp2_with fail
          clear c0 c1 c2 c3 f1 f2 f3 hpl b0 b1 b2 b3 b4 b5 b6 b7
          have hV := VAt.store8 HV2.out (.int .i64 4) (.bool false) (.bool false) (.string ⟨#[]⟩) (.int .i64 0) (.string ⟨#[]⟩) (.slice la acc.length lc) (.slice none 0 0)
          have HV := Lib.hid hV
          have v0 := HV.out.cell 0; have v1 := HV.out.cell 1; have v2 := HV.out.cell 2; have v3 := HV.out.cell 3; have v4 := HV.out.cell 4; have v5 := HV.out.cell 5; have v6 := HV.out.cell 6; have v7 := HV.out.cell 7
          simp only [List.getElem?_toArray, List.getElem?_cons_zero, List.getElem?_cons_succ] at v0 v1 v2 v3 v4 v5 v6 v7
          refine bodyPost_ret (v := .agg #[.int .i64 4, .bool false, .bool false, .string ⟨#[]⟩, .int .i64 0, .string ⟨#[]⟩, .slice la acc.length lc, .slice none 0 0]) (by simp [results, Tryd.results22, go_sem, v0, v1, v2, v3, v4, v5, v6, v7]) rfl ?_
          have hfin := HP0.out.fresh HPX.out HKE.out (below_store8 (p := S) (Below.refl _ wr) (by rw [HSS.out]; exact Nat.le_refl _) (.int .i64 4) (.bool false) (.bool false) (.string ⟨#[]⟩) (.int .i64 0) (.string ⟨#[]⟩) (.slice la acc.length lc) (.slice none 0 0))
          have htv2 := HTV.out.keep (w' := (((((((wr.setCell ⟨S, 0, none⟩ (.int .i64 4)).setCell ⟨S, 1, none⟩ (.bool false)).setCell ⟨S, 2, none⟩ (.bool false)).setCell ⟨S, 3, none⟩ (.string ⟨#[]⟩)).setCell ⟨S, 4, none⟩ (.int .i64 0)).setCell ⟨S, 5, none⟩ (.string ⟨#[]⟩)).setCell ⟨S, 6, none⟩ (.slice la acc.length lc)).setCell ⟨S, 7, none⟩ (.slice none 0 0)) (A' := fun g => w.heap.size ≤ g) (by simp [World.setCell]) (fun g hg hlt => ⟨by rw [HSS.out]; omega, heap8 (by omega)⟩)
          rcases HRES.out with ⟨rfl, hr⟩ | ⟨her, hr⟩
          · rw [hr]
            exact ⟨_, rfl, htv2, hfin.1, hfin.2⟩
          · rw [hr]
            exact ⟨_, _, _, rfl, htv2, hfin.1, hfin.2⟩
    · refine (is_no p _ xs q2 n1 0 93 w7 HP.out h93).mono ?_
      rintro e w8 ⟨rfl, hx8⟩
      have HP8 := Lib.hid (HP.out.ext hx8)
      have HK8 := Lib.hid (HK.out.toExt hx8)
      have HV8 := Lib.hid (HV.out.ext hx8)
      have HVV8 := Lib.hid (HVV.out.ext hx8)
      have hpk : ¬ peekP xs q2 = 93 := fun h => h93 (peekP_some h (by decide)).1
      have hrr := HRR.out
      rw [if_neg hpk] at hrr
      have HRL := Lib.hid hrr
      clear hrr hpk h93 hx8 HP HK HV HVV
      go_wp2_with fail
      have HSV := Lib.hid hSV
      go_loopg [9] (xs.length + 1) (fun g onv wx => ∃ (on : Bool) (acc : List Tree) (k m : Nat) (er : Int), onv = .bool on ∧ SS wx p (.slice (some ⟨bk, o, none⟩) xs.length vc) xs k m er ∧ StA (V + 1) V acc wx ∧ KeptQ (V + 1) p V w8 wx ∧ VAt wx S #[.int .i64 0, .bool false, .bool false, .string ⟨#[]⟩, .int .i64 0, .string ⟨#[]⟩, .slice none 0 0, .slice none 0 0] ∧
        ((on = true ∧ er = 0 ∧ xs.length + 1 ≤ k + g ∧ m ≤ 4096 ∧ acc.length ≤ k ∧ PR.map tArr (listP xs 93 (itemA (valueP xs f (deep + 1))) g acc k m) = R) ∨ (on = false ∧ ((er = 0 ∧ R = .ok (tArr acc) k m) ∨ (er ≠ 0 ∧ R = .err er k)))))
      case atStart => exact ⟨true, [], q2, n1, 0, rfl, HP8.out, StA.nil HVV8.out, ⟨rfl, rfl, rfl, Nat.le_refl _, fun _ _ _ _ => rfl⟩, HV8.out, .inl ⟨rfl, rfl, by omega, by omega, by simp, HRL.out⟩⟩
      case round =>
        obtain ⟨on, acc, k, m, er, rfl, hss, hst, hkq, hvs, hcase⟩ := hrel
        have HPX := Lib.hid hss
        have HSX := Lib.hid hst
        have HKX := Lib.hid hkq
        have HVX := Lib.hid hvs
        clear hss hst hkq hvs
        rcases hcase with ⟨rfl, rfl, hfu, hm4, hal, hlist⟩ | ⟨rfl, hres⟩
        · have HL := Lib.hid hlist
          clear hlist
          obtain ⟨c0, c1, c2, c3, f1, f2, f3, hpl⟩ := HPX.out.1.cells
          go_upto_region 37 with fail
          clear c0 c1 c2 c3 f1 f2 f3
          obtain ⟨vL, cs, hvv, hown, htl⟩ := HSX.out
          obtain ⟨vA, vC, hvL⟩ : ∃ a c, vL = .slice a acc.length c := ownsRow_shape hown
          subst hvL
          have hsV := hvv.lt
          have hsz : V + 1 ≤ wr.heap.size := hsV
          have hpw9 : p < wr.heap.size := by have := HSV.out; omega
          have hltr : ∀ k, (Value.slice vA acc.length vC).ownBlock = some k → V + 1 ≤ k ∧ k < wr.heap.size := fun k hk => hown.lt k hk
          have HVW := Lib.hid hvv
          have HOW := Lib.hid hown
          have HTW := Lib.hid htl
          clear hvv hown htl HSX
          have e0 : IntKind.i64.wrap ((deep : Int) + 1) = ((deep + 1 : Nat) : Int) := by have := HDP.out; rw [IntWalk.i64_in _ (by omega)]; omega
          have HCALL := Lib.hid (IH.out HDP.out k m)
          obtain ⟨r, hr⟩ : ∃ r, valueP xs f (deep + 1) k m = r := ⟨_, rfl⟩
          have hcall := HCALL.out
          rw [hr] at hcall
          replace HCALL := Lib.hid hcall
          have HRV := Lib.hid hr
          clear hcall hr
          have h0 : ∀ w w', Ext w w' → KeptP p w w' := fun _ _ => KeptP.ofExt
          have h1 : ∀ w1 w', (KeptP p w1 w' ∧ ∃ n', r.np n' ∧ SS w' p (.slice (some ⟨bk, o, none⟩) xs.length vc) xs r.pl n' r.er) → KeptP p w1 w' := fun _ _ h => h.1
          refine GrowS.wp_region_restT (G0 := Ext) (G1 := fun w1 w' => KeptP p w1 w' ∧ ∃ n', r.np n' ∧ SS w' p (.slice (some ⟨bk, o, none⟩) xs.length vc) xs r.pl n' r.er) (B0 := fun w' => Ext wr w') (B1 := fun w' => KeptP p wr w' ∧ ∃ n', r.np n' ∧ SS w' p (.slice (some ⟨bk, o, none⟩) xs.length vc) xs r.pl n' r.er) (E := fun _ _ => False) (anc := fun j => if j = 6 then [5] else [])
            (I := fun j => if j = 5 then some (specTQ h0 h1 hpw9 r.tp) else if j = 6 then some (specOneQ h0 h1 hpw9 r.tp) else none) 5 7 (fun j => [[], [0], [], [], [3], [2, 3, 4], [2, 3, 4, 5], [0, 1, 2, 3, 4, 5, 6], [0, 1, 2, 3, 4, 5, 6, 7], [0, 1, 2, 3, 4, 5, 6, 7, 8]].getD j []) #[true, true, true, true, true, true, true, false, false, false]
            (by kernel_rfl) (by kernel_rfl) (by kernel_rfl) (by kernel_rfl) (by kernel_rfl) (by kernel_rfl) ?_ ?_ ?_ ?_ ?_ ?_
          · exact fun w w' h hg => ext_trans h hg
          · exact fun w1 w' h hg => ⟨h.1.trans (KeptP.ofExt hg), by obtain ⟨n', hn', hs'⟩ := h.2; exact ⟨n', hn', hs'.ext hg⟩⟩
          · exact fun w1 w' h hg => ⟨(KeptP.ofExt h).trans hg.1, hg.2⟩
          · exact fun _ _ _ _ h => h.elim
          · exact (ext_refl _).drew
          have HBK : Hid (∀ {k : Nat} w', GrowS.atS 5 (fun w' => Ext wr w') (fun w' => KeptP p wr w' ∧ ∃ n', r.np n' ∧ SS w' p (.slice (some ⟨bk, o, none⟩) xs.length vc) xs r.pl n' r.er) k w' → KeptP p wr w') := Lib.hid (fun w' h => by
            unfold GrowS.atS at h
            split at h
            · exact KeptP.ofExt h
            · rcases h with h | h
              · exact KeptP.ofExt h
              · exact h.1)
          simp only [List.take_succ_cons, List.take_zero, List.drop_succ_cons, List.drop_zero]
          repeat
            (refine GrowS.Wk.step (fun K hK => ?_)
             first
             | (refine GrowS.step_read (by rfl) (by rfl) (fun w => ext_refl w) ?_
                apply Exists.intro
                refine ⟨fun w hB hF => ?_, ?_⟩
                · replace hB := HBK.out w hB
                  have c0 := (HVW.out.kept hB (Ne.symm hpV)).cell 6; have f0 := (HVW.out.kept hB (Ne.symm hpV)).free 6; simp at c0
                  go_simp
                  try exact rfl
                go_simp
                refine hK _ _ ?_
                clear hK K)
             | (refine GrowS.step_off (by rfl) ?_
                go_simp
                refine hK _ _ ?_
                clear hK K))
          refine GrowS.Wk.step (fun K hK => ?_)
          refine GrowS.step_rel (by rfl) (by rfl) (fun w' hB hF => ?_) (fun v hv => ?_)
          · replace hB : Ext wr w' := hB
            go_simp
            refine GrowS.relUpon_enter ((HCALL.out w' (HPX.out.ext hB) hm4).mono ?_)
            intro e w'' hend
            obtain ⟨cv, tv, n', rfl, htp, hnp, htv, hss, hk⟩ := hend.all
            obtain ⟨yk, yb, yd, ys, ya1, yn1, yc1, ya2, yn2, yc2, rfl⟩ := htv.eight
            exact .inl ⟨_, rfl, ⟨hk, n', hnp, hss⟩, ⟨_, _, _, _, _, _, _, _, _, _, rfl⟩, tv, _, htp, rfl, htv.keep (Nat.le_refl _) (fun g hg _ => ⟨Nat.le_trans hB.size hg, rfl⟩)⟩
          obtain ⟨yk, yb, yd, ys, ya1, yn1, yc1, ya2, yn2, yc2, rfl⟩ := hv
          go_simp
          refine hK _ _ ?_
          clear hK K
          refine GrowS.Wk.step (fun K hK => ?_)
          refine GrowS.step_rel (by rfl) (by rfl) (fun w' hB hF => ?_) (fun v hv => ?_)
          · replace hB := HBK.out w' hB
            obtain ⟨tv, cv, htp, ecv, htv⟩ := hF 5 (by simp)
            simp only [Value.agg.injEq] at ecv
            subst ecv
            have hnew := heap_alloc_new w' (.cells (cellsV yk yb yd ys (.slice ya1 yn1 yc1) (.slice ya2 yn2 yc2)) 29)
            have htv2 := htv.keep (w' := w'.alloc (.cells (cellsV yk yb yd ys (.slice ya1 yn1 yc1) (.slice ya2 yn2 yc2)) 29)) (A' := fun g => wr.heap.size ≤ g) (by simp) (fun g hg hlt => ⟨hg, heap_alloc_old w' _ hlt⟩)
            have HNEW := Lib.hid hnew
            have HTV2 := Lib.hid htv2
            clear hnew htv2 hF
            go_simp
            exact GrowS.relUpon_value ((ext_refl w').alloc (Nat.le_refl _) _) ⟨_, rfl⟩ ⟨_, tv, _, rfl, hB.size, HNEW.out, htp, HTV2.out⟩
          obtain ⟨gn, rfl⟩ := hv
          go_simp
          refine hK _ _ ?_
          clear hK K
          refine GrowS.Wk.nil ?_
          intro w3' hB hF
          obtain ⟨gn', tv, cv, eg, hgn, hnew, htp, htv⟩ := hF 6
          simp only [Value.slice.injEq, Option.some.injEq, Addr.mk.injEq, and_true] at eg
          subst eg
          obtain ⟨hk3, n', hnp, hss3⟩ := hB
          clear hF HBK h0 h1
          have hown3 := ownsRow_kept HOW.out hk3 (show p < V + 1 by have := HSV.out; omega)
          have hv3' := HVW.out.kept hk3 (Ne.symm hpV)
          have hk3b : V + 1 ≤ w3'.heap.size := Nat.le_trans hsz hk3.size
          have HTVN := Lib.hid htv
          have hal65 : acc.length ≤ 65536 := by have := HPX.out.2.2; omega
          show wpAny _ _ _ _ (2 + 1) _ _ _
          refine wpAny_one 7 (by kernel_rfl) ?_
          refine wpOp_append rfl (by rfl) _ _ _ _ rfl (V + 1) 29 _ _ 8 112 (by kernel_rfl) (by rfl) (by rfl) (by rfl) (by kernel_rfl) (by rfl) (by decide) _ acc.length cs (by rfl) hown3 _ 1 cv.toList (by rfl) (src_one (e' := 29) (by kernel_rfl) hnew htv.size htv.one) (by simp only [maxLen]; omega) (by omega) hk3b ?_
          intro v' w4' hown4 hgr hor
          obtain ⟨va', vc', rfl⟩ := ownsRow_shape hown4
          have hv4' : VAt w4' V (cellsV 4 false Num.zero [] (.slice vA acc.length vC) noL) := by
            unfold VAt; rw [hgr.block V hv3'.lt (fun e => by have := (hltr V e.symm).1; omega)]; exact hv3'
          have c6 := hv4'.cell 6
          have f6 := hv4'.free 6
          simp at c6
          have htl3 := HTW.out.keep hk3.size (A' := fun g => V + 1 ≤ g ∧ (Value.slice vA acc.length vC).ownBlock ≠ some g) (fun g hg hlt => ⟨hg, hk3.block g hlt (by have := hg.1; have := HSV.out; omega)⟩)
          have hpush := StA.push1 (v' := .slice va' (acc.length + 1) vc') hsz hk3 (Nat.lt_succ_self V) hltr hv3' htl3 htv hgr hown4 hor
          have hpne : (Value.slice vA acc.length vC).ownBlock ≠ some p := fun e => by have := (hltr p e).1; have := HSV.out; omega
          have hpb : (w4'.setCell ⟨V, 6, none⟩ (.slice va' (acc.length + 1) vc')).heap[p]? = w3'.heap[p]? := by
            rw [Below.heap_setCell _ _ _ _ hpV, hgr.block p hss3.1.cells.2.2.2.2.2.2.2 (Ne.symm hpne)]
          have hkQ : KeptQ (V + 1) p V wr (w4'.setCell ⟨V, 6, none⟩ (.slice va' (acc.length + 1) vc')) := ⟨hgr.os.trans hk3.os, hgr.tape.trans hk3.tape, hgr.output.trans hk3.output, Nat.le_trans hk3.size (by have := hgr.size; simpa [World.setCell] using this), fun b hb hbp hbV => by
            rw [Below.heap_setCell _ _ _ _ hbV, hgr.block b (by omega) (fun e => by have := (hltr b e.symm).1; omega)]
            exact hk3.block b (by omega) hbp⟩
          have HPUSH := Lib.hid hpush
          have HKQ := Lib.hid hkQ
          have HPB := Lib.hid hpb
          have HS3 := Lib.hid hss3
          clear hpush hkQ hpb htl3 hv4' hv3' hown3 hown4 hgr hor hnew htv hk3 hss3
          refine wpAny_one 8 (by kernel_rfl) ?_
          refine wpOp_now rfl (by rfl) ?_
          unfold Oper.wp
          go_simp
          refine wpAny_one 9 (by kernel_rfl) ?_
          refine wpOp_now rfl (by rfl) ?_
          unfold Oper.wp
          go_simp
          refine ⟨by decide +kernel, ?_⟩
          clear c6 f6
          generalize w4'.setCell ⟨V, 6, none⟩ (.slice va' (acc.length + 1) vc') = wn at *
          have HSW := Lib.hid (show w.heap.size ≤ V by have := HSS.out; omega)
          have HSN := Lib.hid (SS.through HP0.out HS3.out HPB.out (Kept.trans (Kept.trans HK8.out (HKX.out.kept (Nat.le_succ_of_le HSW.out) HSW.out)) (HKQ.out.kept (Nat.le_succ_of_le HSW.out) HSW.out)))
          have HKN := Lib.hid (HKX.out.trans HKQ.out)
          have HVN := Lib.hid (HKQ.out.vat HVX.out (Nat.lt_succ_of_lt HSV.out) (by omega) (Nat.ne_of_lt HSV.out))
          have hkle := HPX.out.2.2
          clear HPX HS3 HPB HKX HKQ HVX HVW HOW HTW HTVN HCALL
          cases gk with
          | zero => exact absurd hfu (by omega)
          | succ g =>
          cases r with
          | err e1 b1 =>
            have hfi := valueP_fine (xs := xs) f (deep + 1) k m hkle
            rw [HRV.out] at hfi
            have he1 : (e1 == 0) = false := by simpa using hfi.1
            have HRX : Hid (R = .err e1 b1) := Lib.hid (by rw [← HL.out, listP, itemA, HRV.out]; rfl)
            have he10 := hfi.1
            replace HSN := Lib.hid (show SS wn p _ xs b1 n' e1 from HSN.out)
            obtain ⟨c0, c1, c2, c3, f1, f2, f3, hpl⟩ := HSN.out.1.cells
            clear hfi
            go_wp2_with fail
            clear c0 c1 c2 c3 f1 f2 f3 hpl
            go_roundg g
            case measure => omega
            case rel => exact ⟨false, acc ++ [tv], b1, n', e1, rfl, HSN.out, HPUSH.out, HKN.out, HVN.out, .inr ⟨rfl, .inr ⟨he10, HRX.out⟩⟩⟩
          | ok t1 k1 m1 =>
            obtain rfl : tv = t1 := htp
            obtain rfl : n' = m1 := hnp
            have hok := (valueP_ok _ _ _ _ _ _ _ hkle HRV.out).2
            have hkk := (valueP_agree (Z := xs) _ _ _ _ _ _ _ hkle HRV.out).1
            replace HSN := Lib.hid (show SS wn p _ xs k1 n' 0 from HSN.out)
            have HLN : Hid (PR.map tArr (if peekP xs (whiteN xs k1) = 44 then listP xs 93 (itemA (valueP xs f (deep + 1))) g (acc ++ [tv]) (whiteN xs k1 + 1) n' else if xs[whiteN xs k1]? = some 93 then .ok (acc ++ [tv]) (whiteN xs k1 + 1) n' else .err 2 (whiteN xs k1)) = R) := Lib.hid (by rw [← HL.out, listP, itemA, HRV.out]; rfl)
            have hwg := whiteN_ge xs k1 HSN.out.2.2
            obtain ⟨c0, c1, c2, c3, f1, f2, f3, hpl⟩ := HSN.out.1.cells
            clear HL HRV
            go_wp2_with fail
            clear c0 c1 c2 c3 f1 f2 f3 hpl
            by_cases h44 : xs[whiteN xs k1]? = some 44
            · refine (more_comma p _ xs k1 n' 93 wn HSN.out h44).mono ?_
              rintro e wm ⟨rfl, hsm, hkm⟩
              have HSM := Lib.hid hsm
              have HRX : Hid (PR.map tArr (listP xs 93 (itemA (valueP xs f (deep + 1))) g (acc ++ [tv]) (whiteN xs k1 + 1) n') = R) := Lib.hid (by rw [← HLN.out, if_pos (by rw [peekP, List.getD_eq_getElem?_getD, h44]; rfl)])
              have HKM := Lib.hid (HKN.out.trans (KeptQ.ofP hkm (by obtain ⟨_, _, hh, _⟩ := HPUSH.out; exact hh.lt)))
              have HVM := Lib.hid (HVN.out.kept hkm (by omega))
              have HPM := Lib.hid (HPUSH.out.kept hkm (by omega) (Ne.symm hpV))
              clear hsm hkm HLN HKN HVN HPUSH HSN
              go_wp2_with fail
              go_roundg g
              case measure => omega
              case rel => exact ⟨true, acc ++ [tv], _, n', 0, rfl, HSM.out, HPM.out, HKM.out, HVM.out, .inl ⟨rfl, rfl, by omega, hok, by simp; omega, HRX.out⟩⟩
            · have hp44 : ¬ peekP xs (whiteN xs k1) = 44 := fun h => h44 (peekP_some h (by decide)).1
              have hln := HLN.out
              rw [if_neg hp44] at hln
              by_cases h93 : xs[whiteN xs k1]? = some 93
              · refine (more_end p _ xs k1 n' 93 wn HSN.out h44 h93).mono ?_
                rintro e wm ⟨rfl, hsm, hkm⟩
                have HSM := Lib.hid hsm
                have HRX : Hid (R = .ok (tArr (acc ++ [tv])) (whiteN xs k1 + 1) n') := Lib.hid (by rw [← hln, if_pos h93]; rfl)
                have HKM := Lib.hid (HKN.out.trans (KeptQ.ofP hkm (by obtain ⟨_, _, hh, _⟩ := HPUSH.out; exact hh.lt)))
                have HVM := Lib.hid (HVN.out.kept hkm (by omega))
                have HPM := Lib.hid (HPUSH.out.kept hkm (by omega) (Ne.symm hpV))
                clear hsm hkm HLN HKN HVN HPUSH HSN hln
                go_wp2_with fail
                go_roundg g
                case measure => omega
                case rel => exact ⟨false, acc ++ [tv], _, n', 0, rfl, HSM.out, HPM.out, HKM.out, HVM.out, .inr ⟨rfl, .inl ⟨rfl, HRX.out⟩⟩⟩
              · refine (more_bad p _ xs k1 n' 93 wn HSN.out h44 h93).mono ?_
                rintro e wm ⟨rfl, hsm, hkm⟩
                have HSM := Lib.hid hsm
                have HRX : Hid (R = .err 2 (whiteN xs k1)) := Lib.hid (by rw [← hln, if_neg h93]; rfl)
                have HKM := Lib.hid (HKN.out.trans (KeptQ.ofP hkm (by obtain ⟨_, _, hh, _⟩ := HPUSH.out; exact hh.lt)))
                have HVM := Lib.hid (HVN.out.kept hkm (by omega))
                have HPM := Lib.hid (HPUSH.out.kept hkm (by omega) (Ne.symm hpV))
                clear hsm hkm HLN HKN HVN HPUSH HSN hln
                go_wp2_with fail
                go_roundg g
                case measure => omega
                case rel => exact ⟨false, acc ++ [tv], _, n', 2, rfl, HSM.out, HPM.out, HKM.out, HVM.out, .inr ⟨rfl, .inr ⟨by decide, HRX.out⟩⟩⟩
        · have HRES := Lib.hid hres
          clear hres
          obtain ⟨vL, hvv, htv⟩ := HSX.out.tv
          obtain ⟨la, lc, rfl⟩ : ∃ a c, vL = .slice a acc.length c := by
            obtain ⟨vL', cs, h1, h2, h3⟩ := HSX.out
            obtain ⟨a, c, rfl⟩ := ownsRow_shape h2
            have e := h1.cell 6
            rw [hvv.cell 6] at e
            exact ⟨a, c, by simpa using e⟩
          have HTV := Lib.hid htv
          have HKE := Lib.hid (Kept.trans HK8.out (HKX.out.kept (Nat.le_succ_of_le (by have := HSS.out; omega)) (by have := HSS.out; omega)))
          have b0 := hvv.cell 0; have b1 := hvv.cell 1; have b2 := hvv.cell 2; have b3 := hvv.cell 3; have b4 := hvv.cell 4; have b5 := hvv.cell 5; have b6 := hvv.cell 6; have b7 := hvv.cell 7
          simp at b0 b1 b2 b3 b4 b5 b6 b7
          simp only [Num.zero] at b2 b3 b4
          have HV2 := HVX
          have HVL := Lib.hid hvv.lt
          clear htv hvv
          have y0 := HV2.out.cell 0; have y1 := HV2.out.cell 1; have y2 := HV2.out.cell 2; have y3 := HV2.out.cell 3; have y4 := HV2.out.cell 4; have y5 := HV2.out.cell 5; have y6 := HV2.out.cell 6; have y7 := HV2.out.cell 7
          have g0 := HV2.out.free 0; have g1 := HV2.out.free 1; have g2 := HV2.out.free 2; have g3 := HV2.out.free 3; have g4 := HV2.out.free 4; have g5 := HV2.out.free 5; have g6 := HV2.out.free 6; have g7 := HV2.out.free 7
          simp at y0 y1 y2 y3 y4 y5 y6 y7
          obtain ⟨c0, c1, c2, c3, f1, f2, f3, hpl⟩ := HPX.out.1.cells
          go_wp2_with fail
          clear c0 c1 c2 c3 f1 f2 f3 hpl b0 b1 b2 b3 b4 b5 b6 b7
          have hV := VAt.store8 HV2.out (.int .i64 4) (.bool false) (.bool false) (.string ⟨#[]⟩) (.int .i64 0) (.string ⟨#[]⟩) (.slice la acc.length lc) (.slice none 0 0)
          have HV := Lib.hid hV
          have v0 := HV.out.cell 0; have v1 := HV.out.cell 1; have v2 := HV.out.cell 2; have v3 := HV.out.cell 3; have v4 := HV.out.cell 4; have v5 := HV.out.cell 5; have v6 := HV.out.cell 6; have v7 := HV.out.cell 7
          simp only [List.getElem?_toArray, List.getElem?_cons_zero, List.getElem?_cons_succ] at v0 v1 v2 v3 v4 v5 v6 v7
          refine bodyPost_ret (v := .agg #[.int .i64 4, .bool false, .bool false, .string ⟨#[]⟩, .int .i64 0, .string ⟨#[]⟩, .slice la acc.length lc, .slice none 0 0]) (by simp [results, Tryd.results22, go_sem, v0, v1, v2, v3, v4, v5, v6, v7]) rfl ?_
          have hfin := HP0.out.fresh HPX.out HKE.out (below_store8 (p := S) (Below.refl _ wr) (by rw [HSS.out]; exact Nat.le_refl _) (.int .i64 4) (.bool false) (.bool false) (.string ⟨#[]⟩) (.int .i64 0) (.string ⟨#[]⟩) (.slice la acc.length lc) (.slice none 0 0))
          have htv2 := HTV.out.keep (w' := (((((((wr.setCell ⟨S, 0, none⟩ (.int .i64 4)).setCell ⟨S, 1, none⟩ (.bool false)).setCell ⟨S, 2, none⟩ (.bool false)).setCell ⟨S, 3, none⟩ (.string ⟨#[]⟩)).setCell ⟨S, 4, none⟩ (.int .i64 0)).setCell ⟨S, 5, none⟩ (.string ⟨#[]⟩)).setCell ⟨S, 6, none⟩ (.slice la acc.length lc)).setCell ⟨S, 7, none⟩ (.slice none 0 0)) (A' := fun g => w.heap.size ≤ g) (by simp [World.setCell]) (fun g hg hlt => ⟨by rw [HSS.out]; omega, heap8 (by omega)⟩)
          rcases HRES.out with ⟨rfl, hr⟩ | ⟨her, hr⟩
          · rw [hr]
            exact ⟨_, rfl, htv2, hfin.1, hfin.2⟩
          · rw [hr]
            exact ⟨_, _, _, rfl, htv2, hfin.1, hfin.2⟩
  · obtain rfl : c = 123 := u8_lit c 123 h
    clear h
    by_cases hlim : 4096 < n1
    · have HRF : Hid (.err 4 q = R) := Lib.hid (by rw [← HRR.out, if_pos hlim])
      have hli : (4096 : Int) < (n1 : Int) := by omega
      clear hlim
      go_wp2_with fail
      refine (fail_any p _ xs q n1 4 q _ HP.out hql).mono ?_
      rintro e w8 ⟨rfl, hs8, hk8⟩
      have HP8 := Lib.hid hs8
      have HK8 := Lib.hid (HK.out.trans hk8)
      have HV2 := Lib.hid (HV.out.kept hk8 (by omega))
      clear hs8 hk8 c0 c1 c2 c3 f1 f2 f3
      simp only [zeroV, cellsV, Num.zero, noL]
      have y0 := HV2.out.cell 0; have y1 := HV2.out.cell 1; have y2 := HV2.out.cell 2; have y3 := HV2.out.cell 3; have y4 := HV2.out.cell 4; have y5 := HV2.out.cell 5; have y6 := HV2.out.cell 6; have y7 := HV2.out.cell 7
      have g0 := HV2.out.free 0; have g1 := HV2.out.free 1; have g2 := HV2.out.free 2; have g3 := HV2.out.free 3; have g4 := HV2.out.free 4; have g5 := HV2.out.free 5; have g6 := HV2.out.free 6; have g7 := HV2.out.free 7
      simp at y0 y1 y2 y3 y4 y5 y6 y7
      go_wp2_with fail
      rw [← HRF.out]
      have hV := VAt.store8 HV2.out (.int .i64 0) (.bool false) (.bool false) (.string ⟨#[]⟩) (.int .i64 0) (.string ⟨#[]⟩) (.slice none 0 0) (.slice none 0 0)
      have HV := Lib.hid hV
      have v0 := HV.out.cell 0; have v1 := HV.out.cell 1; have v2 := HV.out.cell 2; have v3 := HV.out.cell 3; have v4 := HV.out.cell 4; have v5 := HV.out.cell 5; have v6 := HV.out.cell 6; have v7 := HV.out.cell 7
      simp only [List.getElem?_toArray, List.getElem?_cons_zero, List.getElem?_cons_succ] at v0 v1 v2 v3 v4 v5 v6 v7
      refine bodyPost_ret (v := .agg #[.int .i64 0, .bool false, .bool false, .string ⟨#[]⟩, .int .i64 0, .string ⟨#[]⟩, .slice none 0 0, .slice none 0 0]) (by simp [results, Tryd.results22, go_sem, v0, v1, v2, v3, v4, v5, v6, v7]) rfl ?_
      have hfin := HP0.out.fresh HP8.out HK8.out (below_store8 (p := S) (Below.refl _ w8) (by rw [HSS.out]; exact Nat.le_refl _) (.int .i64 0) (.bool false) (.bool false) (.string ⟨#[]⟩) (.int .i64 0) (.string ⟨#[]⟩) (.slice none 0 0) (.slice none 0 0))
      exact ⟨_, _, _, rfl, TV.leaf _ _ 0 false Num.zero [], hfin.1, hfin.2⟩
    have hrr := HRR.out
    rw [if_neg hlim] at hrr
    replace HRR := Lib.hid hrr
    have hli : ¬ (4096 : Int) < (n1 : Int) := by omega
    clear hrr hlim
    have hrr := HRR.out
    rw [if_neg (by decide), if_neg (by decide), if_neg (by decide), if_neg (by decide), if_neg (by decide), if_pos rfl] at hrr
    replace HRR := Lib.hid hrr
    clear hrr
    by_cases hdeep : 64 ≤ deep
    · have HRF : Hid (.err 3 q = R) := Lib.hid (by rw [← HRR.out, if_pos hdeep])
      have hdi : (64 : Int) ≤ (deep : Int) := by omega
      clear hdeep
      go_wp2_with fail
      refine (fail_any p _ xs q n1 3 q _ HP.out hql).mono ?_
      rintro e w8 ⟨rfl, hs8, hk8⟩
      have HP8 := Lib.hid hs8
      have HK8 := Lib.hid (HK.out.trans hk8)
      have HV2 := Lib.hid (HV.out.kept hk8 (by omega))
      clear hs8 hk8 c0 c1 c2 c3 f1 f2 f3
      simp only [zeroV, cellsV, Num.zero, noL]
      have y0 := HV2.out.cell 0; have y1 := HV2.out.cell 1; have y2 := HV2.out.cell 2; have y3 := HV2.out.cell 3; have y4 := HV2.out.cell 4; have y5 := HV2.out.cell 5; have y6 := HV2.out.cell 6; have y7 := HV2.out.cell 7
      have g0 := HV2.out.free 0; have g1 := HV2.out.free 1; have g2 := HV2.out.free 2; have g3 := HV2.out.free 3; have g4 := HV2.out.free 4; have g5 := HV2.out.free 5; have g6 := HV2.out.free 6; have g7 := HV2.out.free 7
      simp at y0 y1 y2 y3 y4 y5 y6 y7
      go_wp2_with fail
      rw [← HRF.out]
      have hV := VAt.store8 HV2.out (.int .i64 0) (.bool false) (.bool false) (.string ⟨#[]⟩) (.int .i64 0) (.string ⟨#[]⟩) (.slice none 0 0) (.slice none 0 0)
      have HV := Lib.hid hV
      have v0 := HV.out.cell 0; have v1 := HV.out.cell 1; have v2 := HV.out.cell 2; have v3 := HV.out.cell 3; have v4 := HV.out.cell 4; have v5 := HV.out.cell 5; have v6 := HV.out.cell 6; have v7 := HV.out.cell 7
      simp only [List.getElem?_toArray, List.getElem?_cons_zero, List.getElem?_cons_succ] at v0 v1 v2 v3 v4 v5 v6 v7
      refine bodyPost_ret (v := .agg #[.int .i64 0, .bool false, .bool false, .string ⟨#[]⟩, .int .i64 0, .string ⟨#[]⟩, .slice none 0 0, .slice none 0 0]) (by simp [results, Tryd.results22, go_sem, v0, v1, v2, v3, v4, v5, v6, v7]) rfl ?_
      have hfin := HP0.out.fresh HP8.out HK8.out (below_store8 (p := S) (Below.refl _ w8) (by rw [HSS.out]; exact Nat.le_refl _) (.int .i64 0) (.bool false) (.bool false) (.string ⟨#[]⟩) (.int .i64 0) (.string ⟨#[]⟩) (.slice none 0 0) (.slice none 0 0))
      exact ⟨_, _, _, rfl, TV.leaf _ _ 0 false Num.zero [], hfin.1, hfin.2⟩
    have hrr := HRR.out
    rw [if_neg hdeep] at hrr
    replace HRR := Lib.hid hrr
    have hdi : ¬ (64 : Int) ≤ (deep : Int) := by omega
    have HDP : Hid (deep < 64) := Lib.hid (by omega)
    clear hrr hdeep
    obtain ⟨q1, hq1⟩ : ∃ q1, q + 1 = q1 := ⟨_, rfl⟩
    have e9 : IntKind.i64.wrap ((q : Int) + 1) = (q1 : Int) := by rw [IntWalk.i64_in _ (by omega)]; omega
    have hrr := HRR.out
    rw [openP, hq1] at hrr
    replace HRR := Lib.hid hrr
    have hpV : p ≠ V := by omega
    have z0 := HVV.out.cell 0
    have zf := HVV.out.free 0
    simp at z0
    have hfr := HP0.out.fresh HP.out HK.out (((Below.refl w.heap.size w4)).setCell (p := ⟨V, 0, none⟩) (show w.heap.size ≤ V by rw [HSS.out]; omega) (.int .i64 5))
    have hvv5 := HVV.out.set1 0 (.int .i64 5)
    have hv5 := HV.out.oth (p := V) (i := 0) (u := .int .i64 5) (by omega)
    go_upto_region 42 with fail
    clear z0 zf c0 c1 c2 c3 f1 f2 f3 hcc
    generalize w4.setCell ⟨V, 0, none⟩ (.int .i64 5) = w5 at *
    obtain ⟨hp5, hk5⟩ := hfr
    replace HP := Lib.hid hp5
    replace HK := Lib.hid hk5
    replace HV := Lib.hid hv5
    replace HVV : Hid (VAt w5 V (cellsV 5 false Num.zero [] noL noL)) := Lib.hid hvv5
    clear hp5 hk5 hv5 hvv5 hrr
    obtain ⟨c0, c1, c2, c3, f1, f2, f3, hpl⟩ := HP.out.1.cells
    have hq1l : q1 ≤ xs.length := by omega
    have hp6 := HP.out.setA q1 hq1l
    have hk6 : KeptP p w5 (w5.setCell ⟨p, 2, none⟩ (.int .i64 (q1 : Nat))) := KeptP.set _
    have hv6 := HV.out.oth (p := p) (i := 2) (u := .int .i64 (q1 : Nat)) (by omega)
    have hvv6 := HVV.out.oth (p := p) (i := 2) (u := .int .i64 (q1 : Nat)) (Ne.symm hpV)
    go_upto_region 43 with fail
    clear c0 c1 c2 c3 f1 f2 f3
    generalize w5.setCell ⟨p, 2, none⟩ (.int .i64 (q1 : Nat)) = w6 at *
    replace HP := Lib.hid hp6
    replace HK := Lib.hid (HK.out.trans hk6)
    replace HV := Lib.hid hv6
    replace HVV := Lib.hid hvv6
    clear hp6 hk6 hv6 hvv6 hq1 e9
    go_wp2_with fail
    refine (swhite_any p _ xs q1 n1 0 w6 HP.out).mono ?_
    rintro e w7 ⟨rfl, hs7, hk7⟩
    replace HP := Lib.hid hs7
    replace HK := Lib.hid (HK.out.trans hk7)
    replace HV := Lib.hid (HV.out.kept hk7 (by omega))
    replace HVV := Lib.hid (HVV.out.kept hk7 (Ne.symm hpV))
    clear hs7 hk7
    obtain ⟨q2, hq2⟩ : ∃ q2, whiteN xs q1 = q2 := ⟨_, rfl⟩
    have hq2l := whiteN_le xs q1
    have hrr := HRR.out
    have hp7 := HP.out
    rw [hq2] at hrr hp7 hq2l
    replace HRR := Lib.hid hrr
    replace HP := Lib.hid hp7
    clear hrr hp7 hq2
    go_wp2_with fail
    -- the state ahead of the loop
    have HST : Hid (∃ (on : Bool) (k m : Nat), True) := Lib.hid ⟨true, 0, 0, trivial⟩
    by_cases h125 : xs[q2]? = some 125
    · refine (is_yes p _ xs q2 n1 0 125 w7 HP.out h125).mono ?_
      rintro e w8 ⟨rfl, hs8, hk8⟩
      have HP8 := Lib.hid hs8
      have HRF : Hid (.ok (tObj []) (q2 + 1) n1 = R) := Lib.hid (by rw [← HRR.out, if_pos (by rw [peekP, List.getD_eq_getElem?_getD, h125]; rfl)]; rfl)
      have HK8 := Lib.hid (HK.out.trans hk8)
      have HV2 := Lib.hid (HV.out.kept hk8 (by omega))
      have HVV8 := Lib.hid (HVV.out.kept hk8 (Ne.symm hpV))
      have HV8 := HV2
      clear hs8 hk8 h125 HP HK HV HVV HV2
      go_wp2_with fail
      have HSV := Lib.hid hSV
      go_loopg [10] (xs.length + 1) (fun g onv wx => ∃ (on : Bool) (acc : List (List UInt8 × Tree)) (k m : Nat) (er : Int), onv = .bool on ∧ SS wx p (.slice (some ⟨bk, o, none⟩) xs.length vc) xs k m er ∧ StM (V + 1) V acc wx ∧ KeptQ (V + 1) p V w8 wx ∧ VAt wx S #[.int .i64 0, .bool false, .bool false, .string ⟨#[]⟩, .int .i64 0, .string ⟨#[]⟩, .slice none 0 0, .slice none 0 0] ∧
        ((on = true ∧ er = 0 ∧ xs.length + 1 ≤ k + g ∧ m ≤ 4096 ∧ acc.length ≤ k ∧ PR.map tObj (listP xs 125 (itemO xs (valueP xs f (deep + 1))) g acc k m) = R) ∨ (on = false ∧ ((er = 0 ∧ R = .ok (tObj acc) k m) ∨ (er ≠ 0 ∧ R = .err er k)))))
      case atStart => exact ⟨false, [], q2 + 1, n1, 0, rfl, HP8.out, StM.nil HVV8.out, ⟨rfl, rfl, rfl, Nat.le_refl _, fun _ _ _ _ => rfl⟩, HV8.out, .inr ⟨rfl, .inl ⟨rfl, HRF.out.symm⟩⟩⟩
      case round =>
        obtain ⟨on, acc, k, m, er, rfl, hss, hst, hkq, hvs, hcase⟩ := hrel
        have HPX := Lib.hid hss
        have HSX := Lib.hid hst
        have HKX := Lib.hid hkq
        have HVX := Lib.hid hvs
        clear hss hst hkq hvs
        rcases hcase with ⟨rfl, rfl, hfu, hm4, hal, hlist⟩ | ⟨rfl, hres⟩
        · have HL := Lib.hid hlist
          clear hlist
          obtain ⟨c0, c1, c2, c3, f1, f2, f3, hpl⟩ := HPX.out.1.cells
          go_upto_region 46 with fail
          clear c0 c1 c2 c3 f1 f2 f3
          obtain ⟨vL, cs, hvv, hown, htl⟩ := HSX.out
          have hrow := RowAt.own (A := fun g => V + 1 ≤ g) hown (by decide) (fun g _ hb _ => hb)
          have htmA := htl.keep (w' := wr) (A' := fun g => V + 1 ≤ g) (Nat.le_refl _) (fun g hg _ => ⟨hg.1, rfl⟩)
          obtain ⟨vA, vC, hvL⟩ : ∃ a c, vL = .slice a acc.length c := ownsRow_shape hown
          subst hvL
          have hsV := hvv.lt
          have hsz : V + 1 ≤ wr.heap.size := hsV
          have hpw9 : p < wr.heap.size := by have := HSV.out; omega
          have hltr : ∀ k, (Value.slice vA acc.length vC).ownBlock = some k → V + 1 ≤ k ∧ k < wr.heap.size := fun k hk => hown.lt k hk
          have HVW := Lib.hid hvv
          have HOW := Lib.hid hown
          have HTW := Lib.hid htl
          clear hvv hown htl HSX
          have e0 : IntKind.i64.wrap ((deep : Int) + 1) = ((deep + 1 : Nat) : Int) := by have := HDP.out; rw [IntWalk.i64_in _ (by omega)]; omega
          have HROW := Lib.hid hrow
          have HTMA := Lib.hid htmA
          clear hrow htmA
          obtain ⟨r, hr⟩ : ∃ r, memP xs (valueP xs f (deep + 1)) acc k m = r := ⟨_, rfl⟩
          have HRV := Lib.hid hr
          clear hr
          have h0 : ∀ w w', Ext w w' → KeptP p w w' := fun _ _ => KeptP.ofExt
          have h1 : ∀ w1 w', (KeptP p w1 w' ∧ ∃ n', r.np n' ∧ SS w' p (.slice (some ⟨bk, o, none⟩) xs.length vc) xs r.pl n' r.er) → KeptP p w1 w' := fun _ _ h => h.1
          refine GrowS.wp_region_restT (G0 := Ext) (G1 := fun w1 w' => KeptP p w1 w' ∧ ∃ n', r.np n' ∧ SS w' p (.slice (some ⟨bk, o, none⟩) xs.length vc) xs r.pl n' r.er) (B0 := fun w' => Ext wr w') (B1 := fun w' => KeptP p wr w' ∧ ∃ n', r.np n' ∧ SS w' p (.slice (some ⟨bk, o, none⟩) xs.length vc) xs r.pl n' r.er) (E := fun _ _ => False) (anc := fun j => if j = 8 then [7] else [])
            (I := fun j => if j = 7 then some (specMQ h0 h1 hpw9 r.tp) else if j = 8 then some (specOneM h0 h1 hpw9 r.tp) else none) 7 9 (fun j => [[], [0], [], [], [3], [], [5], [2, 3, 4, 5, 6], [2, 3, 4, 5, 6, 7], [0, 1, 2, 3, 4, 5, 6, 7, 8], [0, 1, 2, 3, 4, 5, 6, 7, 8, 9], [0, 1, 2, 3, 4, 5, 6, 7, 8, 9, 10]].getD j []) #[true, true, true, true, true, true, true, true, true, false, false, false]
            (by kernel_rfl) (by kernel_rfl) (by kernel_rfl) (by kernel_rfl) (by kernel_rfl) (by kernel_rfl) ?_ ?_ ?_ ?_ ?_ ?_
          · exact fun w w' h hg => ext_trans h hg
          · exact fun w1 w' h hg => ⟨h.1.trans (KeptP.ofExt hg), by obtain ⟨n', hn', hs'⟩ := h.2; exact ⟨n', hn', hs'.ext hg⟩⟩
          · exact fun w1 w' h hg => ⟨(KeptP.ofExt h).trans hg.1, hg.2⟩
          · exact fun _ _ _ _ h => h.elim
          · exact (ext_refl _).drew
          have HBK : Hid (∀ {k : Nat} w', GrowS.atS 7 (fun w' => Ext wr w') (fun w' => KeptP p wr w' ∧ ∃ n', r.np n' ∧ SS w' p (.slice (some ⟨bk, o, none⟩) xs.length vc) xs r.pl n' r.er) k w' → KeptP p wr w') := Lib.hid (fun w' h => by
            unfold GrowS.atS at h
            split at h
            · exact KeptP.ofExt h
            · rcases h with h | h
              · exact KeptP.ofExt h
              · exact h.1)
          simp only [List.take_succ_cons, List.take_zero, List.drop_succ_cons, List.drop_zero]
          repeat
            (refine GrowS.Wk.step (fun K hK => ?_)
             first
             | (refine GrowS.step_read (by rfl) (by rfl) (fun w => ext_refl w) ?_
                apply Exists.intro
                refine ⟨fun w hB hF => ?_, ?_⟩
                · replace hB := HBK.out w hB
                  have c0 := (HVW.out.kept hB (Ne.symm hpV)).cell 7; have f0 := (HVW.out.kept hB (Ne.symm hpV)).free 7; simp at c0
                  go_simp
                  try exact rfl
                go_simp
                refine hK _ _ ?_
                clear hK K)
             | (refine GrowS.step_off (by rfl) ?_
                go_simp
                refine hK _ _ ?_
                clear hK K))
          refine GrowS.Wk.step (fun K hK => ?_)
          refine GrowS.step_rel (by rfl) (by rfl) (fun w' hB hF => ?_) (fun v hv => ?_)
          · replace hB : Ext wr w' := hB
            go_simp
            refine GrowS.relUpon_enter ((rmember_any p _ xs f (deep + 1) (IH.out HDP.out) acc _ cs (fun g => V + 1 ≤ g) (fun g hg => by have := HSV.out; omega) k m w' (HPX.out.ext hB) hm4 (HROW.out.keep hB.size (fun g hg hlt => ⟨hg, hB.block g hlt⟩)) (HTMA.out.keep hB.size (fun g hg hlt => ⟨hg, hB.block g hlt⟩))).mono ?_)
            intro e w'' hend
            rw [HRV.out] at hend
            obtain ⟨ky, cv, tv, n', rfl, htp, hnp, htv, hss, hk⟩ := hend.all
            obtain ⟨yk, yb, yd, ys, ya1, yn1, yc1, ya2, yn2, yc2, rfl⟩ := htv.eight
            exact .inl ⟨_, rfl, ⟨hk, n', hnp, hss⟩, ⟨_, _, _, _, _, _, _, _, _, _, _, rfl⟩, ky, tv, _, htp, rfl, htv.keep (Nat.le_refl _) (fun g hg _ => ⟨Nat.le_trans hB.size hg, rfl⟩)⟩
          obtain ⟨yy, yk, yb, yd, ys, ya1, yn1, yc1, ya2, yn2, yc2, rfl⟩ := hv
          go_simp
          refine hK _ _ ?_
          clear hK K
          refine GrowS.Wk.step (fun K hK => ?_)
          refine GrowS.step_rel (by rfl) (by rfl) (fun w' hB hF => ?_) (fun v hv => ?_)
          · replace hB := HBK.out w' hB
            obtain ⟨ky, tv, cv, htp, ecv, htv⟩ := hF 7 (by simp)
            obtain ⟨eky, rfl⟩ := memCells_inj (k := yy) (c := cellsV yk yb yd ys (.slice ya1 yn1 yc1) (.slice ya2 yn2 yc2)) ecv
            clear ecv
            subst eky
            have hnew := heap_alloc_new w' (.cells (mem9 yy yk yb yd ys (.slice ya1 yn1 yc1) (.slice ya2 yn2 yc2)) 41)
            have htv2 := htv.keep (w' := w'.alloc (.cells (mem9 yy yk yb yd ys (.slice ya1 yn1 yc1) (.slice ya2 yn2 yc2)) 41)) (A' := fun g => wr.heap.size ≤ g) (by simp) (fun g hg hlt => ⟨hg, heap_alloc_old w' _ hlt⟩)
            have HNEW := Lib.hid hnew
            have HTV2 := Lib.hid htv2
            clear hnew htv2 hF
            go_simp
            exact GrowS.relUpon_value ((ext_refl w').alloc (Nat.le_refl _) _) ⟨_, rfl⟩ ⟨_, yy, tv, cellsV yk yb yd ys (.slice ya1 yn1 yc1) (.slice ya2 yn2 yc2), rfl, hB.size, HNEW.out, htp, HTV2.out⟩
          obtain ⟨gn, rfl⟩ := hv
          go_simp
          refine hK _ _ ?_
          clear hK K
          refine GrowS.Wk.nil ?_
          intro w3' hB hF
          obtain ⟨gn', ky, tv, cv, eg, hgn, hnew, htp, htv⟩ := hF 8
          simp only [Value.slice.injEq, Option.some.injEq, Addr.mk.injEq, and_true] at eg
          subst eg
          obtain ⟨hk3, n', hnp, hss3⟩ := hB
          clear hF HBK h0 h1
          have hown3 := ownsRow_kept HOW.out hk3 (show p < V + 1 by have := HSV.out; omega)
          have hv3' := HVW.out.kept hk3 (Ne.symm hpV)
          have hk3b : V + 1 ≤ w3'.heap.size := Nat.le_trans hsz hk3.size
          have HTVN := Lib.hid htv
          have hal65 : acc.length ≤ 65536 := by have := HPX.out.2.2; omega
          show wpAny _ _ _ _ (2 + 1) _ _ _
          refine wpAny_one 9 (by kernel_rfl) ?_
          refine wpOp_append rfl (by rfl) _ _ _ _ rfl (V + 1) 41 _ _ 9 128 (by kernel_rfl) (by rfl) (by rfl) (by rfl) (by kernel_rfl) (by rfl) (by decide) _ acc.length cs (by rfl) hown3 _ 1 (memCells ky cv).toList (by rfl) (src_one (e' := 41) (by kernel_rfl) hnew (memCells_size htv.size) (memCells_one htv.one)) (by simp only [maxLen]; omega) (by omega) hk3b ?_
          intro v' w4' hown4 hgr hor
          obtain ⟨va', vc', rfl⟩ := ownsRow_shape hown4
          have hv4' : VAt w4' V (cellsV 5 false Num.zero [] noL (.slice vA acc.length vC)) := by
            unfold VAt; rw [hgr.block V hv3'.lt (fun e => by have := (hltr V e.symm).1; omega)]; exact hv3'
          have c6 := hv4'.cell 7
          have f6 := hv4'.free 7
          simp at c6
          have htl3 := HTW.out.keep hk3.size (A' := fun g => V + 1 ≤ g ∧ (Value.slice vA acc.length vC).ownBlock ≠ some g) (fun g hg hlt => ⟨hg, hk3.block g hlt (by have := hg.1; have := HSV.out; omega)⟩)
          have hpush := StM.push1 (v' := .slice va' (acc.length + 1) vc') hsz hk3 (Nat.lt_succ_self V) hltr hv3' htl3 htv hgr hown4 hor
          have hpne : (Value.slice vA acc.length vC).ownBlock ≠ some p := fun e => by have := (hltr p e).1; have := HSV.out; omega
          have hpb : (w4'.setCell ⟨V, 7, none⟩ (.slice va' (acc.length + 1) vc')).heap[p]? = w3'.heap[p]? := by
            rw [Below.heap_setCell _ _ _ _ hpV, hgr.block p hss3.1.cells.2.2.2.2.2.2.2 (Ne.symm hpne)]
          have hkQ : KeptQ (V + 1) p V wr (w4'.setCell ⟨V, 7, none⟩ (.slice va' (acc.length + 1) vc')) := ⟨hgr.os.trans hk3.os, hgr.tape.trans hk3.tape, hgr.output.trans hk3.output, Nat.le_trans hk3.size (by have := hgr.size; simpa [World.setCell] using this), fun b hb hbp hbV => by
            rw [Below.heap_setCell _ _ _ _ hbV, hgr.block b (by omega) (fun e => by have := (hltr b e.symm).1; omega)]
            exact hk3.block b (by omega) hbp⟩
          have HPUSH := Lib.hid hpush
          have HKQ := Lib.hid hkQ
          have HPB := Lib.hid hpb
          have HS3 := Lib.hid hss3
          clear hpush hkQ hpb htl3 hv4' hv3' hown3 hown4 hgr hor hnew htv hk3 hss3
          refine wpAny_one 10 (by kernel_rfl) ?_
          refine wpOp_now rfl (by rfl) ?_
          unfold Oper.wp
          go_simp
          refine wpAny_one 11 (by kernel_rfl) ?_
          refine wpOp_now rfl (by rfl) ?_
          unfold Oper.wp
          go_simp
          refine ⟨by decide +kernel, ?_⟩
          clear c6 f6
          generalize w4'.setCell ⟨V, 7, none⟩ (.slice va' (acc.length + 1) vc') = wn at *
          have HSW := Lib.hid (show w.heap.size ≤ V by have := HSS.out; omega)
          have HSN := Lib.hid (SS.through HP0.out HS3.out HPB.out (Kept.trans (Kept.trans HK8.out (HKX.out.kept (Nat.le_succ_of_le HSW.out) HSW.out)) (HKQ.out.kept (Nat.le_succ_of_le HSW.out) HSW.out)))
          have HKN := Lib.hid (HKX.out.trans HKQ.out)
          have HVN := Lib.hid (HKQ.out.vat HVX.out (Nat.lt_succ_of_lt HSV.out) (by omega) (Nat.ne_of_lt HSV.out))
          have hkle := HPX.out.2.2
          clear HPX HS3 HPB HKX HKQ HVX HVW HOW HTW HTVN HROW HTMA
          cases gk with
          | zero => exact absurd hfu (by omega)
          | succ g =>
          cases r with
          | err e1 b1 =>
            have hfi := memP_fine hkle HRV.out
            have he1 : (e1 == 0) = false := by simpa using hfi
            have HRX : Hid (R = .err e1 b1) := Lib.hid (by rw [← HL.out, listP, itemO_eq, HRV.out]; rfl)
            have he10 := hfi
            replace HSN := Lib.hid (show SS wn p _ xs b1 n' e1 from HSN.out)
            obtain ⟨c0, c1, c2, c3, f1, f2, f3, hpl⟩ := HSN.out.1.cells
            clear hfi
            go_wp2_with fail
            clear c0 c1 c2 c3 f1 f2 f3 hpl
            go_roundg g
            case measure => omega
            case rel => exact ⟨false, acc ++ [(ky, tv)], b1, n', e1, rfl, HSN.out, HPUSH.out, HKN.out, HVN.out, .inr ⟨rfl, .inr ⟨he10, HRX.out⟩⟩⟩
          | ok t1 k1 m1 =>
            obtain rfl : (ky, tv) = t1 := htp
            obtain rfl : n' = m1 := hnp
            have hok := (memP_ok hkle HRV.out).2
            have hkk := (memP_ok hkle HRV.out).1
            replace HSN := Lib.hid (show SS wn p _ xs k1 n' 0 from HSN.out)
            have HLN : Hid (PR.map tObj (if peekP xs (whiteN xs k1) = 44 then listP xs 125 (itemO xs (valueP xs f (deep + 1))) g (acc ++ [(ky, tv)]) (whiteN xs k1 + 1) n' else if xs[whiteN xs k1]? = some 125 then .ok (acc ++ [(ky, tv)]) (whiteN xs k1 + 1) n' else .err 2 (whiteN xs k1)) = R) := Lib.hid (by rw [← HL.out, listP, itemO_eq, HRV.out]; rfl)
            have hwg := whiteN_ge xs k1 HSN.out.2.2
            obtain ⟨c0, c1, c2, c3, f1, f2, f3, hpl⟩ := HSN.out.1.cells
            clear HL HRV
            go_wp2_with fail
            clear c0 c1 c2 c3 f1 f2 f3 hpl
            by_cases h44 : xs[whiteN xs k1]? = some 44
            · refine (more_comma p _ xs k1 n' 125 wn HSN.out h44).mono ?_
              rintro e wm ⟨rfl, hsm, hkm⟩
              have HSM := Lib.hid hsm
              have HRX : Hid (PR.map tObj (listP xs 125 (itemO xs (valueP xs f (deep + 1))) g (acc ++ [(ky, tv)]) (whiteN xs k1 + 1) n') = R) := Lib.hid (by rw [← HLN.out, if_pos (by rw [peekP, List.getD_eq_getElem?_getD, h44]; rfl)])
              have HKM := Lib.hid (HKN.out.trans (KeptQ.ofP hkm (by obtain ⟨_, _, hh, _⟩ := HPUSH.out; exact hh.lt)))
              have HVM := Lib.hid (HVN.out.kept hkm (by omega))
              have HPM := Lib.hid (HPUSH.out.kept hkm (by omega) (Ne.symm hpV))
              clear hsm hkm HLN HKN HVN HPUSH HSN
              go_wp2_with fail
              go_roundg g
              case measure => omega
              case rel => exact ⟨true, acc ++ [(ky, tv)], _, n', 0, rfl, HSM.out, HPM.out, HKM.out, HVM.out, .inl ⟨rfl, rfl, by omega, hok, by simp; omega, HRX.out⟩⟩
            · have hp44 : ¬ peekP xs (whiteN xs k1) = 44 := fun h => h44 (peekP_some h (by decide)).1
              have hln := HLN.out
              rw [if_neg hp44] at hln
              by_cases h93 : xs[whiteN xs k1]? = some 125
              · refine (more_end p _ xs k1 n' 125 wn HSN.out h44 h93).mono ?_
                rintro e wm ⟨rfl, hsm, hkm⟩
                have HSM := Lib.hid hsm
                have HRX : Hid (R = .ok (tObj (acc ++ [(ky, tv)])) (whiteN xs k1 + 1) n') := Lib.hid (by rw [← hln, if_pos h93]; rfl)
                have HKM := Lib.hid (HKN.out.trans (KeptQ.ofP hkm (by obtain ⟨_, _, hh, _⟩ := HPUSH.out; exact hh.lt)))
                have HVM := Lib.hid (HVN.out.kept hkm (by omega))
                have HPM := Lib.hid (HPUSH.out.kept hkm (by omega) (Ne.symm hpV))
                clear hsm hkm HLN HKN HVN HPUSH HSN hln
                go_wp2_with fail
                go_roundg g
                case measure => omega
                case rel => exact ⟨false, acc ++ [(ky, tv)], _, n', 0, rfl, HSM.out, HPM.out, HKM.out, HVM.out, .inr ⟨rfl, .inl ⟨rfl, HRX.out⟩⟩⟩
              · refine (more_bad p _ xs k1 n' 125 wn HSN.out h44 h93).mono ?_
                rintro e wm ⟨rfl, hsm, hkm⟩
                have HSM := Lib.hid hsm
                have HRX : Hid (R = .err 2 (whiteN xs k1)) := Lib.hid (by rw [← hln, if_neg h93]; rfl)
                have HKM := Lib.hid (HKN.out.trans (KeptQ.ofP hkm (by obtain ⟨_, _, hh, _⟩ := HPUSH.out; exact hh.lt)))
                have HVM := Lib.hid (HVN.out.kept hkm (by omega))
                have HPM := Lib.hid (HPUSH.out.kept hkm (by omega) (Ne.symm hpV))
                clear hsm hkm HLN HKN HVN HPUSH HSN hln
                go_wp2_with fail
                go_roundg g
                case measure => omega
                case rel => exact ⟨false, acc ++ [(ky, tv)], _, n', 2, rfl, HSM.out, HPM.out, HKM.out, HVM.out, .inr ⟨rfl, .inr ⟨by decide, HRX.out⟩⟩⟩
        · have HRES := Lib.hid hres
          clear hres
          obtain ⟨vL, hvv, htv⟩ := HSX.out.tv
          obtain ⟨la, lc, rfl⟩ : ∃ a c, vL = .slice a acc.length c := by
            obtain ⟨vL', cs, h1, h2, h3⟩ := HSX.out
            obtain ⟨a, c, rfl⟩ := ownsRow_shape h2
            have e := h1.cell 7
            rw [hvv.cell 7] at e
            exact ⟨a, c, by simpa using e⟩
          have HTV := Lib.hid htv
          have HKE := Lib.hid (Kept.trans HK8.out (HKX.out.kept (Nat.le_succ_of_le (by have := HSS.out; omega)) (by have := HSS.out; omega)))
          have b0 := hvv.cell 0; have b1 := hvv.cell 1; have b2 := hvv.cell 2; have b3 := hvv.cell 3; have b4 := hvv.cell 4; have b5 := hvv.cell 5; have b6 := hvv.cell 6; have b7 := hvv.cell 7
          simp at b0 b1 b2 b3 b4 b5 b6 b7
          simp only [Num.zero] at b2 b3 b4
          have HV2 := HVX
          have HVL := Lib.hid hvv.lt
          clear htv hvv
          have y0 := HV2.out.cell 0; have y1 := HV2.out.cell 1; have y2 := HV2.out.cell 2; have y3 := HV2.out.cell 3; have y4 := HV2.out.cell 4; have y5 := HV2.out.cell 5; have y6 := HV2.out.cell 6; have y7 := HV2.out.cell 7
          have g0 := HV2.out.free 0; have g1 := HV2.out.free 1; have g2 := HV2.out.free 2; have g3 := HV2.out.free 3; have g4 := HV2.out.free 4; have g5 := HV2.out.free 5; have g6 := HV2.out.free 6; have g7 := HV2.out.free 7
          simp at y0 y1 y2 y3 y4 y5 y6 y7
          obtain ⟨c0, c1, c2, c3, f1, f2, f3, hpl⟩ := HPX.out.1.cells
          go_wp2_with fail
          clear c0 c1 c2 c3 f1 f2 f3 hpl b0 b1 b2 b3 b4 b5 b6 b7
          have hV := VAt.store8 HV2.out (.int .i64 5) (.bool false) (.bool false) (.string ⟨#[]⟩) (.int .i64 0) (.string ⟨#[]⟩) (.slice none 0 0) (.slice la acc.length lc)
          have HV := Lib.hid hV
          have v0 := HV.out.cell 0; have v1 := HV.out.cell 1; have v2 := HV.out.cell 2; have v3 := HV.out.cell 3; have v4 := HV.out.cell 4; have v5 := HV.out.cell 5; have v6 := HV.out.cell 6; have v7 := HV.out.cell 7
          simp only [List.getElem?_toArray, List.getElem?_cons_zero, List.getElem?_cons_succ] at v0 v1 v2 v3 v4 v5 v6 v7
          refine bodyPost_ret (v := .agg #[.int .i64 5, .bool false, .bool false, .string ⟨#[]⟩, .int .i64 0, .string ⟨#[]⟩, .slice none 0 0, .slice la acc.length lc]) (by simp [results, Tryd.results22, go_sem, v0, v1, v2, v3, v4, v5, v6, v7]) rfl ?_
          have hfin := HP0.out.fresh HPX.out HKE.out (below_store8 (p := S) (Below.refl _ wr) (by rw [HSS.out]; exact Nat.le_refl _) (.int .i64 5) (.bool false) (.bool false) (.string ⟨#[]⟩) (.int .i64 0) (.string ⟨#[]⟩) (.slice none 0 0) (.slice la acc.length lc))
          have htv2 := HTV.out.keep (w' := (((((((wr.setCell ⟨S, 0, none⟩ (.int .i64 5)).setCell ⟨S, 1, none⟩ (.bool false)).setCell ⟨S, 2, none⟩ (.bool false)).setCell ⟨S, 3, none⟩ (.string ⟨#[]⟩)).setCell ⟨S, 4, none⟩ (.int .i64 0)).setCell ⟨S, 5, none⟩ (.string ⟨#[]⟩)).setCell ⟨S, 6, none⟩ (.slice none 0 0)).setCell ⟨S, 7, none⟩ (.slice la acc.length lc)) (A' := fun g => w.heap.size ≤ g) (by simp [World.setCell]) (fun g hg hlt => ⟨by rw [HSS.out]; omega, heap8 (by omega)⟩)
          rcases HRES.out with ⟨rfl, hr⟩ | ⟨her, hr⟩
          · rw [hr]
            exact ⟨_, rfl, htv2, hfin.1, hfin.2⟩
          · rw [hr]
            exact ⟨_, _, _, rfl, htv2, hfin.1, hfin.2⟩
    · refine (is_no p _ xs q2 n1 0 125 w7 HP.out h125).mono ?_
      rintro e w8 ⟨rfl, hx8⟩
      have HP8 := Lib.hid (HP.out.ext hx8)
      have HK8 := Lib.hid (HK.out.toExt hx8)
      have HV8 := Lib.hid (HV.out.ext hx8)
      have HVV8 := Lib.hid (HVV.out.ext hx8)
      have hpk : ¬ peekP xs q2 = 125 := fun h => h125 (peekP_some h (by decide)).1
      have hrr := HRR.out
      rw [if_neg hpk] at hrr
      have HRL := Lib.hid hrr
      clear hrr hpk h125 hx8 HP HK HV HVV
      go_wp2_with fail
      have HSV := Lib.hid hSV
      go_loopg [10] (xs.length + 1) (fun g onv wx => ∃ (on : Bool) (acc : List (List UInt8 × Tree)) (k m : Nat) (er : Int), onv = .bool on ∧ SS wx p (.slice (some ⟨bk, o, none⟩) xs.length vc) xs k m er ∧ StM (V + 1) V acc wx ∧ KeptQ (V + 1) p V w8 wx ∧ VAt wx S #[.int .i64 0, .bool false, .bool false, .string ⟨#[]⟩, .int .i64 0, .string ⟨#[]⟩, .slice none 0 0, .slice none 0 0] ∧
        ((on = true ∧ er = 0 ∧ xs.length + 1 ≤ k + g ∧ m ≤ 4096 ∧ acc.length ≤ k ∧ PR.map tObj (listP xs 125 (itemO xs (valueP xs f (deep + 1))) g acc k m) = R) ∨ (on = false ∧ ((er = 0 ∧ R = .ok (tObj acc) k m) ∨ (er ≠ 0 ∧ R = .err er k)))))
      case atStart => exact ⟨true, [], q2, n1, 0, rfl, HP8.out, StM.nil HVV8.out, ⟨rfl, rfl, rfl, Nat.le_refl _, fun _ _ _ _ => rfl⟩, HV8.out, .inl ⟨rfl, rfl, by omega, by omega, by simp, HRL.out⟩⟩
      case round =>
        obtain ⟨on, acc, k, m, er, rfl, hss, hst, hkq, hvs, hcase⟩ := hrel
        have HPX := Lib.hid hss
        have HSX := Lib.hid hst
        have HKX := Lib.hid hkq
        have HVX := Lib.hid hvs
        clear hss hst hkq hvs
        rcases hcase with ⟨rfl, rfl, hfu, hm4, hal, hlist⟩ | ⟨rfl, hres⟩
        · have HL := Lib.hid hlist
          clear hlist
          obtain ⟨c0, c1, c2, c3, f1, f2, f3, hpl⟩ := HPX.out.1.cells
          go_upto_region 46 with fail
          clear c0 c1 c2 c3 f1 f2 f3
          obtain ⟨vL, cs, hvv, hown, htl⟩ := HSX.out
          have hrow := RowAt.own (A := fun g => V + 1 ≤ g) hown (by decide) (fun g _ hb _ => hb)
          have htmA := htl.keep (w' := wr) (A' := fun g => V + 1 ≤ g) (Nat.le_refl _) (fun g hg _ => ⟨hg.1, rfl⟩)
          obtain ⟨vA, vC, hvL⟩ : ∃ a c, vL = .slice a acc.length c := ownsRow_shape hown
          subst hvL
          have hsV := hvv.lt
          have hsz : V + 1 ≤ wr.heap.size := hsV
          have hpw9 : p < wr.heap.size := by have := HSV.out; omega
          have hltr : ∀ k, (Value.slice vA acc.length vC).ownBlock = some k → V + 1 ≤ k ∧ k < wr.heap.size := fun k hk => hown.lt k hk
          have HVW := Lib.hid hvv
          have HOW := Lib.hid hown
          have HTW := Lib.hid htl
          clear hvv hown htl HSX
          have e0 : IntKind.i64.wrap ((deep : Int) + 1) = ((deep + 1 : Nat) : Int) := by have := HDP.out; rw [IntWalk.i64_in _ (by omega)]; omega
          have HROW := Lib.hid hrow
          have HTMA := Lib.hid htmA
          clear hrow htmA
          obtain ⟨r, hr⟩ : ∃ r, memP xs (valueP xs f (deep + 1)) acc k m = r := ⟨_, rfl⟩
          have HRV := Lib.hid hr
          clear hr
          have h0 : ∀ w w', Ext w w' → KeptP p w w' := fun _ _ => KeptP.ofExt
          have h1 : ∀ w1 w', (KeptP p w1 w' ∧ ∃ n', r.np n' ∧ SS w' p (.slice (some ⟨bk, o, none⟩) xs.length vc) xs r.pl n' r.er) → KeptP p w1 w' := fun _ _ h => h.1
          refine GrowS.wp_region_restT (G0 := Ext) (G1 := fun w1 w' => KeptP p w1 w' ∧ ∃ n', r.np n' ∧ SS w' p (.slice (some ⟨bk, o, none⟩) xs.length vc) xs r.pl n' r.er) (B0 := fun w' => Ext wr w') (B1 := fun w' => KeptP p wr w' ∧ ∃ n', r.np n' ∧ SS w' p (.slice (some ⟨bk, o, none⟩) xs.length vc) xs r.pl n' r.er) (E := fun _ _ => False) (anc := fun j => if j = 8 then [7] else [])
            (I := fun j => if j = 7 then some (specMQ h0 h1 hpw9 r.tp) else if j = 8 then some (specOneM h0 h1 hpw9 r.tp) else none) 7 9 (fun j => [[], [0], [], [], [3], [], [5], [2, 3, 4, 5, 6], [2, 3, 4, 5, 6, 7], [0, 1, 2, 3, 4, 5, 6, 7, 8], [0, 1, 2, 3, 4, 5, 6, 7, 8, 9], [0, 1, 2, 3, 4, 5, 6, 7, 8, 9, 10]].getD j []) #[true, true, true, true, true, true, true, true, true, false, false, false]
            (by kernel_rfl) (by kernel_rfl) (by kernel_rfl) (by kernel_rfl) (by kernel_rfl) (by kernel_rfl) ?_ ?_ ?_ ?_ ?_ ?_
          · exact fun w w' h hg => ext_trans h hg
          · exact fun w1 w' h hg => ⟨h.1.trans (KeptP.ofExt hg), by obtain ⟨n', hn', hs'⟩ := h.2; exact ⟨n', hn', hs'.ext hg⟩⟩
          · exact fun w1 w' h hg => ⟨(KeptP.ofExt h).trans hg.1, hg.2⟩
          · exact fun _ _ _ _ h => h.elim
          · exact (ext_refl _).drew
          have HBK : Hid (∀ {k : Nat} w', GrowS.atS 7 (fun w' => Ext wr w') (fun w' => KeptP p wr w' ∧ ∃ n', r.np n' ∧ SS w' p (.slice (some ⟨bk, o, none⟩) xs.length vc) xs r.pl n' r.er) k w' → KeptP p wr w') := Lib.hid (fun w' h => by
            unfold GrowS.atS at h
            split at h
            · exact KeptP.ofExt h
            · rcases h with h | h
              · exact KeptP.ofExt h
              · exact h.1)
          simp only [List.take_succ_cons, List.take_zero, List.drop_succ_cons, List.drop_zero]
          repeat
            (refine GrowS.Wk.step (fun K hK => ?_)
             first
             | (refine GrowS.step_read (by rfl) (by rfl) (fun w => ext_refl w) ?_
                apply Exists.intro
                refine ⟨fun w hB hF => ?_, ?_⟩
                · replace hB := HBK.out w hB
                  have c0 := (HVW.out.kept hB (Ne.symm hpV)).cell 7; have f0 := (HVW.out.kept hB (Ne.symm hpV)).free 7; simp at c0
                  go_simp
                  try exact rfl
                go_simp
                refine hK _ _ ?_
                clear hK K)
             | (refine GrowS.step_off (by rfl) ?_
                go_simp
                refine hK _ _ ?_
                clear hK K))
          refine GrowS.Wk.step (fun K hK => ?_)
          refine GrowS.step_rel (by rfl) (by rfl) (fun w' hB hF => ?_) (fun v hv => ?_)
          · replace hB : Ext wr w' := hB
            go_simp
            refine GrowS.relUpon_enter ((rmember_any p _ xs f (deep + 1) (IH.out HDP.out) acc _ cs (fun g => V + 1 ≤ g) (fun g hg => by have := HSV.out; omega) k m w' (HPX.out.ext hB) hm4 (HROW.out.keep hB.size (fun g hg hlt => ⟨hg, hB.block g hlt⟩)) (HTMA.out.keep hB.size (fun g hg hlt => ⟨hg, hB.block g hlt⟩))).mono ?_)
            intro e w'' hend
            rw [HRV.out] at hend
            obtain ⟨ky, cv, tv, n', rfl, htp, hnp, htv, hss, hk⟩ := hend.all
            obtain ⟨yk, yb, yd, ys, ya1, yn1, yc1, ya2, yn2, yc2, rfl⟩ := htv.eight
            exact .inl ⟨_, rfl, ⟨hk, n', hnp, hss⟩, ⟨_, _, _, _, _, _, _, _, _, _, _, rfl⟩, ky, tv, _, htp, rfl, htv.keep (Nat.le_refl _) (fun g hg _ => ⟨Nat.le_trans hB.size hg, rfl⟩)⟩
          obtain ⟨yy, yk, yb, yd, ys, ya1, yn1, yc1, ya2, yn2, yc2, rfl⟩ := hv
          go_simp
          refine hK _ _ ?_
          clear hK K
          refine GrowS.Wk.step (fun K hK => ?_)
          refine GrowS.step_rel (by rfl) (by rfl) (fun w' hB hF => ?_) (fun v hv => ?_)
          · replace hB := HBK.out w' hB
            obtain ⟨ky, tv, cv, htp, ecv, htv⟩ := hF 7 (by simp)
            obtain ⟨eky, rfl⟩ := memCells_inj (k := yy) (c := cellsV yk yb yd ys (.slice ya1 yn1 yc1) (.slice ya2 yn2 yc2)) ecv
            clear ecv
            subst eky
            have hnew := heap_alloc_new w' (.cells (mem9 yy yk yb yd ys (.slice ya1 yn1 yc1) (.slice ya2 yn2 yc2)) 41)
            have htv2 := htv.keep (w' := w'.alloc (.cells (mem9 yy yk yb yd ys (.slice ya1 yn1 yc1) (.slice ya2 yn2 yc2)) 41)) (A' := fun g => wr.heap.size ≤ g) (by simp) (fun g hg hlt => ⟨hg, heap_alloc_old w' _ hlt⟩)
            have HNEW := Lib.hid hnew
            have HTV2 := Lib.hid htv2
            clear hnew htv2 hF
            go_simp
            exact GrowS.relUpon_value ((ext_refl w').alloc (Nat.le_refl _) _) ⟨_, rfl⟩ ⟨_, yy, tv, cellsV yk yb yd ys (.slice ya1 yn1 yc1) (.slice ya2 yn2 yc2), rfl, hB.size, HNEW.out, htp, HTV2.out⟩
          obtain ⟨gn, rfl⟩ := hv
          go_simp
          refine hK _ _ ?_
          clear hK K
          refine GrowS.Wk.nil ?_
          intro w3' hB hF
          obtain ⟨gn', ky, tv, cv, eg, hgn, hnew, htp, htv⟩ := hF 8
          simp only [Value.slice.injEq, Option.some.injEq, Addr.mk.injEq, and_true] at eg
          subst eg
          obtain ⟨hk3, n', hnp, hss3⟩ := hB
          clear hF HBK h0 h1
          have hown3 := ownsRow_kept HOW.out hk3 (show p < V + 1 by have := HSV.out; omega)
          have hv3' := HVW.out.kept hk3 (Ne.symm hpV)
          have hk3b : V + 1 ≤ w3'.heap.size := Nat.le_trans hsz hk3.size
          have HTVN := Lib.hid htv
          have hal65 : acc.length ≤ 65536 := by have := HPX.out.2.2; omega
          show wpAny _ _ _ _ (2 + 1) _ _ _
          refine wpAny_one 9 (by kernel_rfl) ?_
          refine wpOp_append rfl (by rfl) _ _ _ _ rfl (V + 1) 41 _ _ 9 128 (by kernel_rfl) (by rfl) (by rfl) (by rfl) (by kernel_rfl) (by rfl) (by decide) _ acc.length cs (by rfl) hown3 _ 1 (memCells ky cv).toList (by rfl) (src_one (e' := 41) (by kernel_rfl) hnew (memCells_size htv.size) (memCells_one htv.one)) (by simp only [maxLen]; omega) (by omega) hk3b ?_
          intro v' w4' hown4 hgr hor
          obtain ⟨va', vc', rfl⟩ := ownsRow_shape hown4
          have hv4' : VAt w4' V (cellsV 5 false Num.zero [] noL (.slice vA acc.length vC)) := by
            unfold VAt; rw [hgr.block V hv3'.lt (fun e => by have := (hltr V e.symm).1; omega)]; exact hv3'
          have c6 := hv4'.cell 7
          have f6 := hv4'.free 7
          simp at c6
          have htl3 := HTW.out.keep hk3.size (A' := fun g => V + 1 ≤ g ∧ (Value.slice vA acc.length vC).ownBlock ≠ some g) (fun g hg hlt => ⟨hg, hk3.block g hlt (by have := hg.1; have := HSV.out; omega)⟩)
          have hpush := StM.push1 (v' := .slice va' (acc.length + 1) vc') hsz hk3 (Nat.lt_succ_self V) hltr hv3' htl3 htv hgr hown4 hor
          have hpne : (Value.slice vA acc.length vC).ownBlock ≠ some p := fun e => by have := (hltr p e).1; have := HSV.out; omega
          have hpb : (w4'.setCell ⟨V, 7, none⟩ (.slice va' (acc.length + 1) vc')).heap[p]? = w3'.heap[p]? := by
            rw [Below.heap_setCell _ _ _ _ hpV, hgr.block p hss3.1.cells.2.2.2.2.2.2.2 (Ne.symm hpne)]
          have hkQ : KeptQ (V + 1) p V wr (w4'.setCell ⟨V, 7, none⟩ (.slice va' (acc.length + 1) vc')) := ⟨hgr.os.trans hk3.os, hgr.tape.trans hk3.tape, hgr.output.trans hk3.output, Nat.le_trans hk3.size (by have := hgr.size; simpa [World.setCell] using this), fun b hb hbp hbV => by
            rw [Below.heap_setCell _ _ _ _ hbV, hgr.block b (by omega) (fun e => by have := (hltr b e.symm).1; omega)]
            exact hk3.block b (by omega) hbp⟩
          have HPUSH := Lib.hid hpush
          have HKQ := Lib.hid hkQ
          have HPB := Lib.hid hpb
          have HS3 := Lib.hid hss3
          clear hpush hkQ hpb htl3 hv4' hv3' hown3 hown4 hgr hor hnew htv hk3 hss3
          refine wpAny_one 10 (by kernel_rfl) ?_
          refine wpOp_now rfl (by rfl) ?_
          unfold Oper.wp
          go_simp
          refine wpAny_one 11 (by kernel_rfl) ?_
          refine wpOp_now rfl (by rfl) ?_
          unfold Oper.wp
          go_simp
          refine ⟨by decide +kernel, ?_⟩
          clear c6 f6
          generalize w4'.setCell ⟨V, 7, none⟩ (.slice va' (acc.length + 1) vc') = wn at *
          have HSW := Lib.hid (show w.heap.size ≤ V by have := HSS.out; omega)
          have HSN := Lib.hid (SS.through HP0.out HS3.out HPB.out (Kept.trans (Kept.trans HK8.out (HKX.out.kept (Nat.le_succ_of_le HSW.out) HSW.out)) (HKQ.out.kept (Nat.le_succ_of_le HSW.out) HSW.out)))
          have HKN := Lib.hid (HKX.out.trans HKQ.out)
          have HVN := Lib.hid (HKQ.out.vat HVX.out (Nat.lt_succ_of_lt HSV.out) (by omega) (Nat.ne_of_lt HSV.out))
          have hkle := HPX.out.2.2
          clear HPX HS3 HPB HKX HKQ HVX HVW HOW HTW HTVN HROW HTMA
          cases gk with
          | zero => exact absurd hfu (by omega)
          | succ g =>
          cases r with
          | err e1 b1 =>
            have hfi := memP_fine hkle HRV.out
            have he1 : (e1 == 0) = false := by simpa using hfi
            have HRX : Hid (R = .err e1 b1) := Lib.hid (by rw [← HL.out, listP, itemO_eq, HRV.out]; rfl)
            have he10 := hfi
            replace HSN := Lib.hid (show SS wn p _ xs b1 n' e1 from HSN.out)
            obtain ⟨c0, c1, c2, c3, f1, f2, f3, hpl⟩ := HSN.out.1.cells
            clear hfi
            go_wp2_with fail
            clear c0 c1 c2 c3 f1 f2 f3 hpl
            go_roundg g
            case measure => omega
            case rel => exact ⟨false, acc ++ [(ky, tv)], b1, n', e1, rfl, HSN.out, HPUSH.out, HKN.out, HVN.out, .inr ⟨rfl, .inr ⟨he10, HRX.out⟩⟩⟩
          | ok t1 k1 m1 =>
            obtain rfl : (ky, tv) = t1 := htp
            obtain rfl : n' = m1 := hnp
            have hok := (memP_ok hkle HRV.out).2
            have hkk := (memP_ok hkle HRV.out).1
            replace HSN := Lib.hid (show SS wn p _ xs k1 n' 0 from HSN.out)
            have HLN : Hid (PR.map tObj (if peekP xs (whiteN xs k1) = 44 then listP xs 125 (itemO xs (valueP xs f (deep + 1))) g (acc ++ [(ky, tv)]) (whiteN xs k1 + 1) n' else if xs[whiteN xs k1]? = some 125 then .ok (acc ++ [(ky, tv)]) (whiteN xs k1 + 1) n' else .err 2 (whiteN xs k1)) = R) := Lib.hid (by rw [← HL.out, listP, itemO_eq, HRV.out]; rfl)
            have hwg := whiteN_ge xs k1 HSN.out.2.2
            obtain ⟨c0, c1, c2, c3, f1, f2, f3, hpl⟩ := HSN.out.1.cells
            clear HL HRV
            go_wp2_with fail
            clear c0 c1 c2 c3 f1 f2 f3 hpl
            by_cases h44 : xs[whiteN xs k1]? = some 44
            · refine (more_comma p _ xs k1 n' 125 wn HSN.out h44).mono ?_
              rintro e wm ⟨rfl, hsm, hkm⟩
              have HSM := Lib.hid hsm
              have HRX : Hid (PR.map tObj (listP xs 125 (itemO xs (valueP xs f (deep + 1))) g (acc ++ [(ky, tv)]) (whiteN xs k1 + 1) n') = R) := Lib.hid (by rw [← HLN.out, if_pos (by rw [peekP, List.getD_eq_getElem?_getD, h44]; rfl)])
              have HKM := Lib.hid (HKN.out.trans (KeptQ.ofP hkm (by obtain ⟨_, _, hh, _⟩ := HPUSH.out; exact hh.lt)))
              have HVM := Lib.hid (HVN.out.kept hkm (by omega))
              have HPM := Lib.hid (HPUSH.out.kept hkm (by omega) (Ne.symm hpV))
              clear hsm hkm HLN HKN HVN HPUSH HSN
              go_wp2_with fail
              go_roundg g
              case measure => omega
              case rel => exact ⟨true, acc ++ [(ky, tv)], _, n', 0, rfl, HSM.out, HPM.out, HKM.out, HVM.out, .inl ⟨rfl, rfl, by omega, hok, by simp; omega, HRX.out⟩⟩
            · have hp44 : ¬ peekP xs (whiteN xs k1) = 44 := fun h => h44 (peekP_some h (by decide)).1
              have hln := HLN.out
              rw [if_neg hp44] at hln
              by_cases h93 : xs[whiteN xs k1]? = some 125
              · refine (more_end p _ xs k1 n' 125 wn HSN.out h44 h93).mono ?_
                rintro e wm ⟨rfl, hsm, hkm⟩
                have HSM := Lib.hid hsm
                have HRX : Hid (R = .ok (tObj (acc ++ [(ky, tv)])) (whiteN xs k1 + 1) n') := Lib.hid (by rw [← hln, if_pos h93]; rfl)
                have HKM := Lib.hid (HKN.out.trans (KeptQ.ofP hkm (by obtain ⟨_, _, hh, _⟩ := HPUSH.out; exact hh.lt)))
                have HVM := Lib.hid (HVN.out.kept hkm (by omega))
                have HPM := Lib.hid (HPUSH.out.kept hkm (by omega) (Ne.symm hpV))
                clear hsm hkm HLN HKN HVN HPUSH HSN hln
                go_wp2_with fail
                go_roundg g
                case measure => omega
                case rel => exact ⟨false, acc ++ [(ky, tv)], _, n', 0, rfl, HSM.out, HPM.out, HKM.out, HVM.out, .inr ⟨rfl, .inl ⟨rfl, HRX.out⟩⟩⟩
              · refine (more_bad p _ xs k1 n' 125 wn HSN.out h44 h93).mono ?_
                rintro e wm ⟨rfl, hsm, hkm⟩
                have HSM := Lib.hid hsm
                have HRX : Hid (R = .err 2 (whiteN xs k1)) := Lib.hid (by rw [← hln, if_neg h93]; rfl)
                have HKM := Lib.hid (HKN.out.trans (KeptQ.ofP hkm (by obtain ⟨_, _, hh, _⟩ := HPUSH.out; exact hh.lt)))
                have HVM := Lib.hid (HVN.out.kept hkm (by omega))
                have HPM := Lib.hid (HPUSH.out.kept hkm (by omega) (Ne.symm hpV))
                clear hsm hkm HLN HKN HVN HPUSH HSN hln
                go_wp2_with fail
                go_roundg g
                case measure => omega
                case rel => exact ⟨false, acc ++ [(ky, tv)], _, n', 2, rfl, HSM.out, HPM.out, HKM.out, HVM.out, .inr ⟨rfl, .inr ⟨by decide, HRX.out⟩⟩⟩
        · have HRES := Lib.hid hres
          clear hres
          obtain ⟨vL, hvv, htv⟩ := HSX.out.tv
          obtain ⟨la, lc, rfl⟩ : ∃ a c, vL = .slice a acc.length c := by
            obtain ⟨vL', cs, h1, h2, h3⟩ := HSX.out
            obtain ⟨a, c, rfl⟩ := ownsRow_shape h2
            have e := h1.cell 7
            rw [hvv.cell 7] at e
            exact ⟨a, c, by simpa using e⟩
          have HTV := Lib.hid htv
          have HKE := Lib.hid (Kept.trans HK8.out (HKX.out.kept (Nat.le_succ_of_le (by have := HSS.out; omega)) (by have := HSS.out; omega)))
          have b0 := hvv.cell 0; have b1 := hvv.cell 1; have b2 := hvv.cell 2; have b3 := hvv.cell 3; have b4 := hvv.cell 4; have b5 := hvv.cell 5; have b6 := hvv.cell 6; have b7 := hvv.cell 7
          simp at b0 b1 b2 b3 b4 b5 b6 b7
          simp only [Num.zero] at b2 b3 b4
          have HV2 := HVX
          have HVL := Lib.hid hvv.lt
          clear htv hvv
          have y0 := HV2.out.cell 0; have y1 := HV2.out.cell 1; have y2 := HV2.out.cell 2; have y3 := HV2.out.cell 3; have y4 := HV2.out.cell 4; have y5 := HV2.out.cell 5; have y6 := HV2.out.cell 6; have y7 := HV2.out.cell 7
          have g0 := HV2.out.free 0; have g1 := HV2.out.free 1; have g2 := HV2.out.free 2; have g3 := HV2.out.free 3; have g4 := HV2.out.free 4; have g5 := HV2.out.free 5; have g6 := HV2.out.free 6; have g7 := HV2.out.free 7
          simp at y0 y1 y2 y3 y4 y5 y6 y7
          obtain ⟨c0, c1, c2, c3, f1, f2, f3, hpl⟩ := HPX.out.1.cells
          go_wp2_with fail
          clear c0 c1 c2 c3 f1 f2 f3 hpl b0 b1 b2 b3 b4 b5 b6 b7
          have hV := VAt.store8 HV2.out (.int .i64 5) (.bool false) (.bool false) (.string ⟨#[]⟩) (.int .i64 0) (.string ⟨#[]⟩) (.slice none 0 0) (.slice la acc.length lc)
          have HV := Lib.hid hV
          have v0 := HV.out.cell 0; have v1 := HV.out.cell 1; have v2 := HV.out.cell 2; have v3 := HV.out.cell 3; have v4 := HV.out.cell 4; have v5 := HV.out.cell 5; have v6 := HV.out.cell 6; have v7 := HV.out.cell 7
          simp only [List.getElem?_toArray, List.getElem?_cons_zero, List.getElem?_cons_succ] at v0 v1 v2 v3 v4 v5 v6 v7
          refine bodyPost_ret (v := .agg #[.int .i64 5, .bool false, .bool false, .string ⟨#[]⟩, .int .i64 0, .string ⟨#[]⟩, .slice none 0 0, .slice la acc.length lc]) (by simp [results, Tryd.results22, go_sem, v0, v1, v2, v3, v4, v5, v6, v7]) rfl ?_
          have hfin := HP0.out.fresh HPX.out HKE.out (below_store8 (p := S) (Below.refl _ wr) (by rw [HSS.out]; exact Nat.le_refl _) (.int .i64 5) (.bool false) (.bool false) (.string ⟨#[]⟩) (.int .i64 0) (.string ⟨#[]⟩) (.slice none 0 0) (.slice la acc.length lc))
          have htv2 := HTV.out.keep (w' := (((((((wr.setCell ⟨S, 0, none⟩ (.int .i64 5)).setCell ⟨S, 1, none⟩ (.bool false)).setCell ⟨S, 2, none⟩ (.bool false)).setCell ⟨S, 3, none⟩ (.string ⟨#[]⟩)).setCell ⟨S, 4, none⟩ (.int .i64 0)).setCell ⟨S, 5, none⟩ (.string ⟨#[]⟩)).setCell ⟨S, 6, none⟩ (.slice none 0 0)).setCell ⟨S, 7, none⟩ (.slice la acc.length lc)) (A' := fun g => w.heap.size ≤ g) (by simp [World.setCell]) (fun g hg hlt => ⟨by rw [HSS.out]; omega, heap8 (by omega)⟩)
          rcases HRES.out with ⟨rfl, hr⟩ | ⟨her, hr⟩
          · rw [hr]
            exact ⟨_, rfl, htv2, hfin.1, hfin.2⟩
          · rw [hr]
            exact ⟨_, _, _, rfl, htv2, hfin.1, hfin.2⟩
end Go.Proofs.YtckpndbmpigegaaDoor
end

section
/- the documents' parser: One. -/
set_option linter.unusedVariables false
set_option linter.unusedSimpArgs false
set_option maxRecDepth 100000
namespace Go.Proofs.YtckpndbmpigegaaDoor
open Go.RowKit Go.Mem Orange
theorem rvalue_any (p : Nat) (v : Value) (xs : List UInt8) : ∀ (f deep : Nat), deep ≤ 64 → 64 < f + deep → ∀ (a n : Nat) (w : World), SS w p v xs a n 0 → n ≤ 4096 →
    Calls Tryd.prog 22 #[.pointer (some ⟨p, 0, none⟩), .int .i64 (deep : Nat)] w (fun e w' => EndS p v xs w e w' (valueP xs f deep a n)) := by
  intro f
  induction f with
  | zero => intro deep h1 h2; omega
  | succ f ih =>
    intro deep h1 h2 a n w h hn
    exact rvalue_step p v xs f deep h1 (fun hd a n w h hn => ih (deep + 1) (by omega) (by omega) a n w h hn) a n w h hn
theorem KeptP.store8 {q : Nat} {w : World} (a b c d e f g i : Value) : KeptP q w ((((((((w.setCell ⟨q, 0, none⟩ a).setCell ⟨q, 1, none⟩ b).setCell ⟨q, 2, none⟩ c).setCell ⟨q, 3, none⟩ d).setCell ⟨q, 4, none⟩ e).setCell ⟨q, 5, none⟩ f).setCell ⟨q, 6, none⟩ g).setCell ⟨q, 7, none⟩ i) :=
  (((((((KeptP.set a).trans (KeptP.set b)).trans (KeptP.set c)).trans (KeptP.set d)).trans (KeptP.set e)).trans (KeptP.set f)).trans (KeptP.set g)).trans (KeptP.set i)
theorem SAt.kept {w w' : World} {p q : Nat} {v : Value} {n a e : Int} (h : SAt w q v n a e) (hb : KeptP p w w') (hq : q ≠ p) : SAt w' q v n a e := by
  unfold SAt; rw [hb.block q h.cells.2.2.2.2.2.2.2 hq]; exact h
-- a return of several results, in whatever order: $1 the operations, $2 the store's number, $3..$10 the cells
-- the store of the result
set_option maxHeartbeats 6400000 in
theorem rone_any (v : Value) (xs : List UInt8) (at0 : Int) (w : World) (hb : Bytes w v xs) (hl : xs.length ≤ 65536) :
    Calls Tryd.prog 14 #[v, .int .i64 at0] w (fun e w' => EndOne w e w' (oneP xs at0)) := by
  obtain ⟨T, hT⟩ : ∃ T, oneP xs at0 = T := ⟨_, rfl⟩
  rw [hT]
  replace hT := Lib.hid hT
  have hcl := clampN_eq xs.length at0
  obtain ⟨va, vc, rfl, hnc, hcm, _, _⟩ := id hb
  have HB := Lib.hid hb
  clear hb
  go_enter Tryd.func14, Tryd.ntmps14
  go_wp2_with fail
  obtain ⟨S, hS⟩ : ∃ S, w.heap.size = S := ⟨_, rfl⟩
  simp only [Nat.add_assoc, Nat.reduceAdd, hS]
  generalize hw1 : ((w.alloc (.cells #[.int .i64 0, .bool false, .bool false, .string ⟨#[]⟩, .int .i64 0, .string ⟨#[]⟩, .slice none 0 0, .slice none 0 0] 29)).alloc (.cells #[.slice va xs.length vc, .int .i64 0, .int .i64 (clampN xs.length at0 : Nat), .int .i64 0] 57)) = w1 at *
  have hE : Ext w w1 := by
    rw [← hw1]
    exact ((ext_refl w).alloc (by simp) _).alloc (by simp) _
  have hsz : w1.heap.size = S + 2 := by rw [← hw1]; simp [hS]
  have hv0 : VAt w1 S zeroV := by
    unfold VAt; rw [← hw1, ← hS, heap_alloc_old _ _ (by simp)]; exact heap_alloc_new _ _
  have hp1 : SAt w1 (S + 1) (.slice va xs.length vc) (0 : Nat) (clampN xs.length at0 : Nat) 0 := by
    unfold SAt; rw [← hw1, ← hS]
    have := heap_alloc_new (w.alloc (.cells zeroV 29)) (.cells #[.slice va xs.length vc, .int .i64 0, .int .i64 (clampN xs.length at0 : Nat), .int .i64 0] 57); rw [alloc_size1] at this; exact this
  clear hw1
  have hbn : BytesN (S + 1) w1 (.slice va xs.length vc) xs := by
    obtain ⟨a, cap, e, h1, h2, h3, h4⟩ := HB.out
    refine ⟨a, cap, e, h1, h2, hl, fun hn => ?_⟩
    obtain ⟨b, o, rfl, hlt, hc⟩ := h4 hn
    exact ⟨b, o, rfl, by omega, Nat.lt_of_lt_of_le hlt hE.size, BytesAt.ext (fun _ => ⟨b, o, rfl, hlt, hc⟩) hE⟩
  have hps : SS w1 (S + 1) (.slice va xs.length vc) xs (clampN xs.length at0) 0 0 := ⟨hp1, hbn, clampN_le _ _⟩
  have HR := Lib.hid hv0
  have HE := Lib.hid hE
  have HS := Lib.hid hS
  clear hv0 hE hS hp1 hbn
  refine (rvalue_any (S + 1) _ xs 65 0 (by omega) (by omega) (clampN xs.length at0) 0 _ hps (by omega)).mono ?_
  intro e w2 hend
  rw [show valueP xs 65 0 (clampN xs.length at0) 0 = T from hT.out] at hend
  have hf := oneP_fine xs at0
  rw [hT.out] at hf
  have HF := Lib.hid hf
  clear hT hps hf
  obtain ⟨cv, tv, n', rfl, htp, hnp, htv, hss, hk⟩ := hend.all
  obtain ⟨yk, yb, yd, ys, ya1, yn1, yc1, ya2, yn2, yc2, rfl⟩ := htv.eight
  clear hend
  have hS2 : S + 2 ≤ w2.heap.size := by have := hk.size; omega
  replace HR := Lib.hid (HR.out.kept hk (by omega))
  have hx2 : Ext w w2 := ⟨hk.os.trans HE.out.os, hk.tape.trans HE.out.tape, hk.output.trans HE.out.output, Nat.le_trans HE.out.size hk.size, fun b hb => by
    rw [hk.block b (Nat.lt_of_lt_of_le hb HE.out.size) (by have := HS.out; omega)]; exact HE.out.block b hb⟩
  have ht0 := VAt.new w2 (cellsV yk yb yd ys (.slice ya1 yn1 yc1) (.slice ya2 yn2 yc2))
  have hx3 : Ext w2 (w2.alloc (.cells (cellsV yk yb yd ys (.slice ya1 yn1 yc1) (.slice ya2 yn2 yc2)) 29)) := (ext_refl w2).alloc (Nat.le_refl _) _
  have hsp3 := (hss.ext hx3).1
  obtain ⟨c0, c1, c2, c3, f1, f2, f3, hpl⟩ := id hsp3.cells
  replace HR := Lib.hid (HR.out.ext hx3)
  have HX := Lib.hid (ext_trans hx2 hx3)
  have HTV := Lib.hid (TV.keep (A' := fun g => S + 1 ≤ g) hx3.size (fun g hg hlt => ⟨by omega, hx3.block g hlt⟩) htv)
  obtain ⟨V, hV⟩ : ∃ V, w2.heap.size = V := ⟨_, rfl⟩
  have hSV : S < V := by omega
  rw [hV] at ht0
  clear hss hk hx2 htv hx3 hS2
  simp only [zeroV, cellsV, Num.zero] at HR ht0 HX HTV ⊢
  go_upto_region 3 with fail
  clear hV
  generalize w2.alloc (.cells #[.int .i64 yk, .bool yb, .bool yd.neg, .string ⟨yd.digits.toArray⟩, .int .i64 yd.exp, .string ⟨ys.toArray⟩, .slice ya1 yn1 yc1, .slice ya2 yn2 yc2] 29) = w3 at *
  cases T with
  | err er b =>
    have her : ¬ er = 0 := HF.out.1
    simp only [PR.pl, PR.er] at c2 c3 hsp3
    clear HTV ht0
    go_upto_region 4 with fail
    have HB3 := Lib.hid (HR.out)
    refine GrowS.wp_region_restT (G0 := Ext) (G1 := fun w1 w' => KeptP S w1 w' ∧ (VAt w1 S zeroV → VAt w' S #[.int .i64 0, .bool false, .bool false, .string ⟨#[]⟩, .int .i64 0, .string ⟨#[]⟩, .slice none 0 0, .slice none 0 0])) (B0 := fun w' => Ext w3 w') (B1 := fun w' => KeptP S w3 w' ∧ VAt w' S #[.int .i64 0, .bool false, .bool false, .string ⟨#[]⟩, .int .i64 0, .string ⟨#[]⟩, .slice none 0 0, .slice none 0 0]) (E := fun _ _ => False) (anc := fun _ => [])
      (I := fun j => if j = 9 then some (GrowS.Spec.val _ undef) else none) 9 12 (fun _ => []) (Array.replicate 12 true)
      (by kernel_rfl) (by kernel_rfl) (by kernel_rfl) (by kernel_rfl) (by kernel_rfl) (by kernel_rfl) ?_ ?_ ?_ ?_ ?_ ?_
    · exact fun w w' h hg => ext_trans h hg
    · exact fun w1 w' h hg => ⟨h.1.trans (KeptP.ofExt hg), h.2.ext hg⟩
    · exact fun w1 w' h hg => ⟨(KeptP.ofExt h).trans hg.1, hg.2 (HB3.out.ext h)⟩
    · exact fun _ _ _ _ h => h.elim
    · exact (ext_refl _).drew
    have HBK : Hid (∀ {k : Nat} w', GrowS.atS 9 (fun w' => Ext w3 w') (fun w' => KeptP S w3 w' ∧ VAt w' S #[.int .i64 0, .bool false, .bool false, .string ⟨#[]⟩, .int .i64 0, .string ⟨#[]⟩, .slice none 0 0, .slice none 0 0]) k w' → KeptP S w3 w') := Lib.hid (fun w' h => by
      unfold GrowS.atS at h
      split at h
      · exact KeptP.ofExt h
      · rcases h with h | h
        · exact KeptP.ofExt h
        · exact h.1)
    simp only [List.take_succ_cons, List.take_zero, List.drop_succ_cons, List.drop_zero]
    have HSP := Lib.hid hsp3
    repeat
      (refine GrowS.Wk.step (fun K hK => ?_)
       first
       | (refine GrowS.step_read (by rfl) (by rfl) (fun w => ext_refl w) ?_
          apply Exists.intro
          refine ⟨fun w hB hF => ?_, ?_⟩
          · replace hB := HBK.out w hB
            obtain ⟨c0, c1, c2, c3, f1, f2, f3, hpl⟩ := (HSP.out.kept hB (by omega)).cells
            go_simp
            try exact rfl
          go_simp
          refine hK _ _ ?_
          clear hK K)
       | (refine GrowS.step_off (by rfl) ?_
          go_simp
          refine hK _ _ ?_
          clear hK K))
    refine GrowS.Wk.step (fun K hK => ?_)
    refine GrowS.step_rel (by rfl) (by rfl) (fun w' hB hF => ?_) (fun v hv => ?_)
    · replace hB : Ext w3 w' := hB
      have HR' := HB3.out.ext hB
      have s0 := HR'.free 0; have s1 := HR'.free 1; have s2 := HR'.free 2; have s3 := HR'.free 3; have s4 := HR'.free 4; have s5 := HR'.free 5; have s6 := HR'.free 6; have s7 := HR'.free 7
      have r0 := HR'.cell 0; have r1 := HR'.cell 1; have r2 := HR'.cell 2; have r3 := HR'.cell 3; have r4 := HR'.cell 4; have r5 := HR'.cell 5; have r6 := HR'.cell 6; have r7 := HR'.cell 7
      simp at r0 r1 r2 r3 r4 r5 r6 r7
      go_simp
      exact ⟨⟨KeptP.store8 _ _ _ _ _ _ _ _, fun h => VAt.store8 h _ _ _ _ _ _ _ _⟩, rfl, trivial⟩
    obtain rfl : v = undef := hv
    go_simp
    refine hK _ _ ?_
    clear hK K
    repeat
      (refine GrowS.Wk.step (fun K hK => ?_)
       first
       | (refine GrowS.step_read (by rfl) (by rfl) (fun w => ext_refl w) ?_
          apply Exists.intro
          refine ⟨fun w hB hF => ?_, ?_⟩
          · replace hB := HBK.out w hB
            obtain ⟨c0, c1, c2, c3, f1, f2, f3, hpl⟩ := (HSP.out.kept hB (by omega)).cells
            go_simp
            try exact rfl
          go_simp
          refine hK _ _ ?_
          clear hK K)
       | (refine GrowS.step_off (by rfl) ?_
          go_simp
          refine hK _ _ ?_
          clear hK K))
    refine GrowS.Wk.nil ?_
    intro w4 hB _
    show wpAny _ _ _ _ 0 _ _ _
    refine ⟨by decide +kernel, ?_⟩
    have HV := Lib.hid hB.2
    have HKV := Lib.hid hB.1
    clear hB HBK
    have v0 := HV.out.cell 0; have v1 := HV.out.cell 1; have v2 := HV.out.cell 2; have v3 := HV.out.cell 3; have v4 := HV.out.cell 4; have v5 := HV.out.cell 5; have v6 := HV.out.cell 6; have v7 := HV.out.cell 7
    simp only [List.getElem?_toArray, List.getElem?_cons_zero, List.getElem?_cons_succ] at v0 v1 v2 v3 v4 v5 v6 v7
    go_wp2_with fail
    refine bodyPost_ret (v := .tuple #[.agg #[.int .i64 0, .bool false, .bool false, .string ⟨#[]⟩, .int .i64 0, .string ⟨#[]⟩, .slice none 0 0, .slice none 0 0], .int .i64 b, .int .i64 er]) (by simp [results, Tryd.results14, go_sem, v0, v1, v2, v3, v4, v5, v6, v7]) rfl ?_
    have HXW : Ext w w4 := ⟨HKV.out.os.trans HX.out.os, HKV.out.tape.trans HX.out.tape, HKV.out.output.trans HX.out.output, Nat.le_trans HX.out.size HKV.out.size, fun b hb => by
      rw [HKV.out.block b (Nat.lt_of_lt_of_le hb HX.out.size) (by have := HS.out; omega)]; exact HX.out.block b hb⟩
    exact ⟨rfl, HXW⟩
  | ok t a n =>
    obtain rfl : tv = t := htp
    simp only [PR.pl, PR.er] at c2 c3 hsp3
    have HT0 := Lib.hid ht0
    clear ht0
    go_upto_region 5 with fail
    have HB3 := Lib.hid (HR.out)
    refine GrowS.wp_region_restT (G0 := Ext) (G1 := fun w1 w' => KeptP S w1 w' ∧ (VAt w1 S zeroV → VAt w' S #[.int .i64 yk, .bool yb, .bool yd.neg, .string ⟨yd.digits.toArray⟩, .int .i64 yd.exp, .string ⟨ys.toArray⟩, .slice ya1 yn1 yc1, .slice ya2 yn2 yc2])) (B0 := fun w' => Ext w3 w') (B1 := fun w' => KeptP S w3 w' ∧ VAt w' S #[.int .i64 yk, .bool yb, .bool yd.neg, .string ⟨yd.digits.toArray⟩, .int .i64 yd.exp, .string ⟨ys.toArray⟩, .slice ya1 yn1 yc1, .slice ya2 yn2 yc2]) (E := fun _ _ => False) (anc := fun _ => [])
      (I := fun j => if j = 5 then some (GrowS.Spec.val _ undef) else none) 5 8 (fun _ => []) (Array.replicate 8 true)
      (by kernel_rfl) (by kernel_rfl) (by kernel_rfl) (by kernel_rfl) (by kernel_rfl) (by kernel_rfl) ?_ ?_ ?_ ?_ ?_ ?_
    · exact fun w w' h hg => ext_trans h hg
    · exact fun w1 w' h hg => ⟨h.1.trans (KeptP.ofExt hg), h.2.ext hg⟩
    · exact fun w1 w' h hg => ⟨(KeptP.ofExt h).trans hg.1, hg.2 (HB3.out.ext h)⟩
    · exact fun _ _ _ _ h => h.elim
    · exact (ext_refl _).drew
    have HBK : Hid (∀ {k : Nat} w', GrowS.atS 5 (fun w' => Ext w3 w') (fun w' => KeptP S w3 w' ∧ VAt w' S #[.int .i64 yk, .bool yb, .bool yd.neg, .string ⟨yd.digits.toArray⟩, .int .i64 yd.exp, .string ⟨ys.toArray⟩, .slice ya1 yn1 yc1, .slice ya2 yn2 yc2]) k w' → KeptP S w3 w') := Lib.hid (fun w' h => by
      unfold GrowS.atS at h
      split at h
      · exact KeptP.ofExt h
      · rcases h with h | h
        · exact KeptP.ofExt h
        · exact h.1)
    simp only [List.take_succ_cons, List.take_zero, List.drop_succ_cons, List.drop_zero]
    have HSP := Lib.hid hsp3
    repeat
      (refine GrowS.Wk.step (fun K hK => ?_)
       first
       | (refine GrowS.step_read (by rfl) (by rfl) (fun w => ext_refl w) ?_
          apply Exists.intro
          refine ⟨fun w hB hF => ?_, ?_⟩
          · replace hB := HBK.out w hB
            obtain ⟨c0, c1, c2, c3, f1, f2, f3, hpl⟩ := (HSP.out.kept hB (by omega)).cells; have HT1 := HT0.out.kept hB (by omega); have t0 := HT1.cell 0; have t1 := HT1.cell 1; have t2 := HT1.cell 2; have t3 := HT1.cell 3; have t4 := HT1.cell 4; have t5 := HT1.cell 5; have t6 := HT1.cell 6; have t7 := HT1.cell 7; simp at t0 t1 t2 t3 t4 t5 t6 t7
            go_simp
            try exact rfl
          go_simp
          refine hK _ _ ?_
          clear hK K)
       | (refine GrowS.step_off (by rfl) ?_
          go_simp
          refine hK _ _ ?_
          clear hK K))
    refine GrowS.Wk.step (fun K hK => ?_)
    refine GrowS.step_rel (by rfl) (by rfl) (fun w' hB hF => ?_) (fun v hv => ?_)
    · replace hB : Ext w3 w' := hB
      have HR' := HB3.out.ext hB
      have s0 := HR'.free 0; have s1 := HR'.free 1; have s2 := HR'.free 2; have s3 := HR'.free 3; have s4 := HR'.free 4; have s5 := HR'.free 5; have s6 := HR'.free 6; have s7 := HR'.free 7
      have r0 := HR'.cell 0; have r1 := HR'.cell 1; have r2 := HR'.cell 2; have r3 := HR'.cell 3; have r4 := HR'.cell 4; have r5 := HR'.cell 5; have r6 := HR'.cell 6; have r7 := HR'.cell 7
      simp at r0 r1 r2 r3 r4 r5 r6 r7
      go_simp
      exact ⟨⟨KeptP.store8 _ _ _ _ _ _ _ _, fun h => VAt.store8 h _ _ _ _ _ _ _ _⟩, rfl, trivial⟩
    obtain rfl : v = undef := hv
    go_simp
    refine hK _ _ ?_
    clear hK K
    repeat
      (refine GrowS.Wk.step (fun K hK => ?_)
       first
       | (refine GrowS.step_read (by rfl) (by rfl) (fun w => ext_refl w) ?_
          apply Exists.intro
          refine ⟨fun w hB hF => ?_, ?_⟩
          · replace hB := HBK.out w hB
            obtain ⟨c0, c1, c2, c3, f1, f2, f3, hpl⟩ := (HSP.out.kept hB (by omega)).cells
            go_simp
            try exact rfl
          go_simp
          refine hK _ _ ?_
          clear hK K)
       | (refine GrowS.step_off (by rfl) ?_
          go_simp
          refine hK _ _ ?_
          clear hK K))
    refine GrowS.Wk.nil ?_
    intro w4 hB _
    show wpAny _ _ _ _ 0 _ _ _
    refine ⟨by decide +kernel, ?_⟩
    have HV := Lib.hid hB.2
    have HKV := Lib.hid hB.1
    clear hB HBK
    have v0 := HV.out.cell 0; have v1 := HV.out.cell 1; have v2 := HV.out.cell 2; have v3 := HV.out.cell 3; have v4 := HV.out.cell 4; have v5 := HV.out.cell 5; have v6 := HV.out.cell 6; have v7 := HV.out.cell 7
    simp only [List.getElem?_toArray, List.getElem?_cons_zero, List.getElem?_cons_succ] at v0 v1 v2 v3 v4 v5 v6 v7
    go_wp2_with fail
    refine bodyPost_ret (v := .tuple #[.agg #[.int .i64 yk, .bool yb, .bool yd.neg, .string ⟨yd.digits.toArray⟩, .int .i64 yd.exp, .string ⟨ys.toArray⟩, .slice ya1 yn1 yc1, .slice ya2 yn2 yc2], .int .i64 a, .int .i64 0]) (by simp [results, Tryd.results14, go_sem, v0, v1, v2, v3, v4, v5, v6, v7]) rfl ?_
    have HXW : Ext w w4 := ⟨HKV.out.os.trans HX.out.os, HKV.out.tape.trans HX.out.tape, HKV.out.output.trans HX.out.output, Nat.le_trans HX.out.size HKV.out.size, fun b hb => by
      rw [HKV.out.block b (Nat.lt_of_lt_of_le hb HX.out.size) (by have := HS.out; omega)]; exact HX.out.block b hb⟩
    exact ⟨_, rfl, HTV.out.keep HKV.out.size (fun g hg hlt => ⟨by rw [HS.out]; omega, HKV.out.block g hlt (by omega)⟩), HXW⟩
end Go.Proofs.YtckpndbmpigegaaDoor
end

section
/- the documents' parser: Value. -/
set_option linter.unusedVariables false
set_option linter.unusedSimpArgs false
set_option maxRecDepth 100000
namespace Go.Proofs.YtckpndbmpigegaaDoor
open Go.RowKit Go.Mem Orange
set_option maxHeartbeats 6400000 in
theorem rtop_any (v : Value) (xs : List UInt8) (w : World) (hb : Bytes w v xs) :
    Calls Tryd.prog 12 #[v] w (fun e w' => EndTop w e w' (parseP xs)) := by
  obtain ⟨T, hT⟩ : ∃ T, parseP xs = T := ⟨_, rfl⟩
  rw [hT]
  rw [parseP] at hT
  replace hT := Lib.hid hT
  obtain ⟨va, vc, rfl, hnc, hcm, hl47, _⟩ := id hb
  have HB := Lib.hid hb
  clear hb
  have hr := VAt.new w zeroV
  have hE : Ext w (w.alloc (.cells zeroV 29)) := (ext_refl w).alloc (Nat.le_refl _) _
  simp only [zeroV, cellsV, Num.zero] at hr hE
  go_enter Tryd.func12, Tryd.ntmps12
  by_cases hlen : 65536 < xs.length
  · have hd : decide (65536 < (xs.length : Int)) = true := by simp; omega
    have hres : Hid (T = (tNull, 4, 0)) := Lib.hid (by rw [← hT.out, if_pos hlen])
    go_wp2_with fail
    refine bodyPost_ret (v := .tuple #[.agg zeroV, .int .i64 4, .int .i64 (0 : Nat)]) (by simp [results, Tryd.results12, go_sem, Num.zero]) rfl ?_
    rw [hres.out]
    exact ⟨_, rfl, TV.leaf _ _ 0 false Num.zero [], hE⟩
  · have hd : decide (65536 < (xs.length : Int)) = false := by simp; omega
    have hT1 := hT.out
    rw [if_neg hlen] at hT1
    replace hT := Lib.hid hT1
    clear hT1
    go_wp2_with fail
    obtain ⟨S, hS⟩ : ∃ S, w.heap.size = S := ⟨_, rfl⟩
    rw [hS] at hr ⊢
    have hsz : (w.alloc (.cells #[.int .i64 0, .bool false, .bool false, .string ⟨#[]⟩, .int .i64 0, .string ⟨#[]⟩, .slice none 0 0, .slice none 0 0] 29)).heap.size = S + 1 := by rw [← hS]; simp
    generalize w.alloc (.cells #[.int .i64 0, .bool false, .bool false, .string ⟨#[]⟩, .int .i64 0, .string ⟨#[]⟩, .slice none 0 0, .slice none 0 0] 29) = w1 at *
    have HR := Lib.hid hr
    have HE := Lib.hid hE
    have HS := Lib.hid hS
    clear hr hE hS
    refine (rone_any _ xs 0 _ (HB.out.ext HE.out) (by omega)).mono ?_
    intro e w2 hend
    cases hop : oneP xs 0 with
    | err er b =>
      rw [hop] at hend
      obtain ⟨rfl, hw⟩ := hend
      have hres : Hid (T = (tNull, er, b)) := Lib.hid (by rw [← hT.out, hop])
      replace HR := Lib.hid (HR.out.ext hw)
      replace HE := Lib.hid (ext_trans HE.out hw)
      have hsz2 := hw.size
      clear hw hT
      have hf := oneP_fine xs 0
      rw [hop] at hf
      have her : (er != 0) = true := by simpa using hf.1
      have ht0 := VAt.new w2 zeroV
      have hx : Ext w2 (w2.alloc (.cells zeroV 29)) := (ext_refl w2).alloc (Nat.le_refl _) _
      clear hf hop
      simp only [zeroV, cellsV, Num.zero] at ht0 hx
      replace HR := Lib.hid (HR.out.ext hx)
      replace HE := Lib.hid (ext_trans HE.out hx)
      clear hx ht0
      simp only [zeroV, cellsV, Num.zero] at HR ⊢
      go_upto_region 4 with fail
      generalize w2.alloc (.cells #[.int .i64 0, .bool false, .bool false, .string ⟨#[]⟩, .int .i64 0, .string ⟨#[]⟩, .slice none 0 0, .slice none 0 0] 29) = w3 at *
      have r0 := HR.out.cell 0; have r1 := HR.out.cell 1; have r2 := HR.out.cell 2; have r3 := HR.out.cell 3; have r4 := HR.out.cell 4; have r5 := HR.out.cell 5; have r6 := HR.out.cell 6; have r7 := HR.out.cell 7
      have s0 := HR.out.free 0; have s1 := HR.out.free 1; have s2 := HR.out.free 2; have s3 := HR.out.free 3; have s4 := HR.out.free 4; have s5 := HR.out.free 5; have s6 := HR.out.free 6; have s7 := HR.out.free 7
      simp at r0 r1 r2 r3 r4 r5 r6 r7
      go_wp2_with fail
      have hV := VAt.store8 HR.out (.int .i64 0) (.bool false) (.bool false) (.string ⟨#[]⟩) (.int .i64 0) (.string ⟨#[]⟩) (.slice none 0 0) (.slice none 0 0)
      have HV := Lib.hid hV
      have v0 := HV.out.cell 0; have v1 := HV.out.cell 1; have v2 := HV.out.cell 2; have v3 := HV.out.cell 3; have v4 := HV.out.cell 4; have v5 := HV.out.cell 5; have v6 := HV.out.cell 6; have v7 := HV.out.cell 7
      simp only [List.getElem?_toArray, List.getElem?_cons_zero, List.getElem?_cons_succ] at v0 v1 v2 v3 v4 v5 v6 v7
      refine bodyPost_ret (v := .tuple #[.agg #[.int .i64 0, .bool false, .bool false, .string ⟨#[]⟩, .int .i64 0, .string ⟨#[]⟩, .slice none 0 0, .slice none 0 0], .int .i64 er, .int .i64 b]) (by simp [results, Tryd.results12, go_sem, v0, v1, v2, v3, v4, v5, v6, v7]) rfl ?_
      rw [hres.out]
      exact top_end HE.out (by rw [HS.out]; exact Nat.le_refl _) (TV.leaf _ _ 0 false Num.zero [])
    | ok t a n =>
      rw [hop] at hend
      obtain ⟨c, rfl, htv, hw⟩ := hend
      have hT1 : (if whiteN xs a < xs.length then (tNull, (2 : Int), whiteN xs a) else (t, 0, whiteN xs a)) = T := by rw [← hT.out, hop]
      replace hT := Lib.hid hT1
      have hf := oneP_fine xs 0
      rw [hop] at hf
      have hal : a ≤ xs.length := hf
      clear hT1 hf hop
      obtain ⟨k, b, d, s, la, ln, lc, ma, mn, mc, rfl⟩ := htv.eight
      have hsz2 := hw.size
      have ht0 := VAt.new w2 (cellsV k b d s (.slice la ln lc) (.slice ma mn mc))
      have hx : Ext w2 (w2.alloc (.cells (cellsV k b d s (.slice la ln lc) (.slice ma mn mc)) 29)) := (ext_refl w2).alloc (Nat.le_refl _) _
      have htv3 := TV.keep (A' := fun g => S + 1 ≤ g) hx.size (fun g hg hlt => ⟨by omega, hx.block g hlt⟩) htv
      replace HR := Lib.hid ((HR.out.ext hw).ext hx)
      replace HE := Lib.hid (ext_trans (ext_trans HE.out hw) hx)
      have hP2 : w2.heap.size ≠ S := by omega
      obtain ⟨P, hP⟩ : ∃ P, w2.heap.size = P := ⟨_, rfl⟩
      rw [hP] at ht0 hP2
      have HP2 := Lib.hid hP
      clear hx hw htv
      simp only [zeroV, cellsV, Num.zero] at HR ht0 HE htv3 ⊢
      go_upto_region 6 with fail
      clear hP
      generalize w2.alloc (.cells #[.int .i64 k, .bool b, .bool d.neg, .string ⟨d.digits.toArray⟩, .int .i64 d.exp, .string ⟨s.toArray⟩, .slice la ln lc, .slice ma mn mc] 29) = w3 at *
      have HT0 := Lib.hid ht0
      have HTV := Lib.hid htv3
      clear ht0 htv3
      go_wp2_with fail
      refine (rwhite_any _ xs a _ (HB.out.ext HE.out)).mono ?_
      rintro e w4 ⟨rfl, rfl⟩
      have hw := ext_refl w3
      rw [clampN_nat xs.length a hal]
      obtain ⟨m, hm⟩ : ∃ m, whiteN xs a = m := ⟨_, rfl⟩
      have hT1 := hT.out
      rw [hm] at hT1 ⊢
      replace hT := Lib.hid hT1
      have htv4 := TV.keep (A' := fun g => S + 1 ≤ g) hw.size (fun g hg hlt => ⟨hg, hw.block g hlt⟩) HTV.out
      replace HT0 := Lib.hid (HT0.out.ext hw)
      replace HR := Lib.hid (HR.out.ext hw)
      replace HE := Lib.hid (ext_trans HE.out hw)
      replace HTV := Lib.hid htv4
      clear hm hT1 htv4 hw
      have r0 := HR.out.cell 0; have r1 := HR.out.cell 1; have r2 := HR.out.cell 2; have r3 := HR.out.cell 3; have r4 := HR.out.cell 4; have r5 := HR.out.cell 5; have r6 := HR.out.cell 6; have r7 := HR.out.cell 7
      have s0 := HR.out.free 0; have s1 := HR.out.free 1; have s2 := HR.out.free 2; have s3 := HR.out.free 3; have s4 := HR.out.free 4; have s5 := HR.out.free 5; have s6 := HR.out.free 6; have s7 := HR.out.free 7
      simp at r0 r1 r2 r3 r4 r5 r6 r7
      have t0 := HT0.out.cell 0; have t1 := HT0.out.cell 1; have t2 := HT0.out.cell 2; have t3 := HT0.out.cell 3; have t4 := HT0.out.cell 4; have t5 := HT0.out.cell 5; have t6 := HT0.out.cell 6; have t7 := HT0.out.cell 7
      simp at t0 t1 t2 t3 t4 t5 t6 t7
      by_cases hml : m < xs.length
      · have hmi : (m : Int) < xs.length := by omega
        have hT1 := hT.out
        rw [if_pos hml] at hT1
        have hres := Lib.hid hT1.symm
        clear hT1 hT hml
        go_wp2_with fail
        have hV := VAt.store8 HR.out (.int .i64 0) (.bool false) (.bool false) (.string ⟨#[]⟩) (.int .i64 0) (.string ⟨#[]⟩) (.slice none 0 0) (.slice none 0 0)
        have HV := Lib.hid hV
        have v0 := HV.out.cell 0; have v1 := HV.out.cell 1; have v2 := HV.out.cell 2; have v3 := HV.out.cell 3; have v4 := HV.out.cell 4; have v5 := HV.out.cell 5; have v6 := HV.out.cell 6; have v7 := HV.out.cell 7
        simp only [List.getElem?_toArray, List.getElem?_cons_zero, List.getElem?_cons_succ] at v0 v1 v2 v3 v4 v5 v6 v7
        refine bodyPost_ret (v := .tuple #[.agg #[.int .i64 0, .bool false, .bool false, .string ⟨#[]⟩, .int .i64 0, .string ⟨#[]⟩, .slice none 0 0, .slice none 0 0], .int .i64 2, .int .i64 m]) (by simp [results, Tryd.results12, go_sem, v0, v1, v2, v3, v4, v5, v6, v7]) rfl ?_
        rw [hres.out]
        exact top_end HE.out (by rw [HS.out]; exact Nat.le_refl _) (TV.leaf _ _ 0 false Num.zero [])
      · have hmi : ¬ (m : Int) < xs.length := by omega
        have hT1 := hT.out
        rw [if_neg hml] at hT1
        have hres := Lib.hid hT1.symm
        clear hT1 hT hml
        go_wp2_with fail
        have hV := VAt.store8 HR.out (.int .i64 k) (.bool b) (.bool d.neg) (.string ⟨d.digits.toArray⟩) (.int .i64 d.exp) (.string ⟨s.toArray⟩) (.slice la ln lc) (.slice ma mn mc)
        have HV := Lib.hid hV
        have v0 := HV.out.cell 0; have v1 := HV.out.cell 1; have v2 := HV.out.cell 2; have v3 := HV.out.cell 3; have v4 := HV.out.cell 4; have v5 := HV.out.cell 5; have v6 := HV.out.cell 6; have v7 := HV.out.cell 7
        simp only [List.getElem?_toArray, List.getElem?_cons_zero, List.getElem?_cons_succ] at v0 v1 v2 v3 v4 v5 v6 v7
        refine bodyPost_ret (v := .tuple #[.agg #[.int .i64 k, .bool b, .bool d.neg, .string ⟨d.digits.toArray⟩, .int .i64 d.exp, .string ⟨s.toArray⟩, .slice la ln lc, .slice ma mn mc], .int .i64 0, .int .i64 m]) (by simp [results, Tryd.results12, go_sem, v0, v1, v2, v3, v4, v5, v6, v7]) rfl ?_
        rw [hres.out]
        exact top_end HE.out (by rw [HS.out]; exact Nat.le_refl _) HTV.out
end Go.Proofs.YtckpndbmpigegaaDoor
end
