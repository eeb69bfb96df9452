/- Several texts of this proof in one. -/
import Derived.Test.YtckpndbmpigegaaDoorExW
import Derived.Test.YtckpndbmpigegaaDoorPaAg
section
/- value: what stands in a value: inside, Clone. -/
set_option linter.unusedVariables false
set_option linter.unusedSimpArgs false
set_option maxRecDepth 100000
namespace Orange
/-- the values that stand in one -/
def Tree.ins (t : Tree) : List Tree := t.list ++ t.mems.map (·.2)
end Orange
namespace Go.Proofs.YtckpndbmpigegaaDoor
open Go.RowKit Go.Mem Orange
theorem tv_rows {w : World} {A : Nat → Prop} {t : Tree} {k : Int} {b : Bool} {d : Num} {s : List UInt8} {vL vM : Value} (h : TV w A t (cellsV k b d s vL vM)) : ∃ cl cm, TL w A t.list cl ∧ RowAt w A 8 vL t.list.length cl ∧ TM w A t.mems cm ∧ RowAt w A 9 vM t.mems.length cm ∧ k = t.kind ∧ b = t.bit ∧ d.neg = t.num.neg ∧ d.digits = t.num.digits ∧ d.exp = t.num.exp ∧ s = t.str := by
  generalize hc : cellsV k b d s vL vM = c at h
  cases h with
  | mk h1 h2 h3 h4 =>
    simp only [cellsV, Array.mk.injEq, List.cons.injEq, Value.int.injEq, Value.bool.injEq, Value.string.injEq, ByteArray.mk.injEq, and_true, true_and] at hc
    obtain ⟨rfl, rfl, h5, h6, h7, h8, rfl, rfl⟩ := hc
    exact ⟨_, _, h1, h2, h3, h4, rfl, rfl, h5, h6, h7, h8⟩
mutual
theorem TV.one {w : World} {A : Nat → Prop} : ∀ {t : Tree} {c : Array Value}, TV w A t c → ∀ u ∈ c.toList, u.oneCell' = true
  | _, _, .mk h1 h2 h3 h4 => by
    obtain ⟨_, a1, c1, rfl, _⟩ := h2
    obtain ⟨_, a2, c2, rfl, _⟩ := h4
    simp [cellsV, Value.oneCell']
theorem TL.one {w : World} {A : Nat → Prop} : ∀ {l : List Tree} {cs : List Value}, TL w A l cs → ∀ u ∈ cs, u.oneCell' = true
  | _, _, .nil => by simp
  | _, _, .cons h1 h2 => by
    intro u hu
    rcases List.mem_append.1 hu with h | h
    · exact TV.one h1 u h
    · exact TL.one h2 u h
end
/-- a row as what is appended -/
theorem RowAt.src {P : Program} {w : World} {A : Nat → Prop} {z n : Nat} {v : Value} {cs : List Value} (h : RowAt w A z v n cs) {tx e' : TypeId} (hk : P.underlying tx = some (.slice e')) (hz : 0 < z) (h1 : ∀ u ∈ cs, u.oneCell' = true) : Src P z tx v n cs w := by
  obtain ⟨h0, a, cap, rfl, h2, h3, h4⟩ := h
  by_cases hn : 0 < n
  · obtain ⟨g, o, rfl, _, hlt, hc⟩ := h4 hn
    refine Src.ofSlice w hk _ _ cap _ h0 (fun j u hu => ?_) h1
    obtain ⟨hj, rfl⟩ := List.getElem?_eq_some_iff.1 hu
    rw [show (⟨g, o, none⟩ : Addr).add j = ⟨g, o + j, none⟩ by simp only [Addr.add]; split <;> simp_all]
    exact hc j hj
  · obtain rfl : n = 0 := by omega
    obtain rfl : cs = [] := List.eq_nil_of_length_eq_zero (by simpa using h0)
    cases a with
    | none => 
      have := Src.ofNil w (P := P) (size := z) hk cap
      exact this
    | some a => exact Src.ofSlice w hk a 0 cap [] (by simp) (by simp) (by simp)
set_option maxHeartbeats 1600000 in
theorem clone_any (v : Value) (n : Nat) (cs : List Value) (A : Nat → Prop) (w : World) (h : RowAt w A 8 v n cs) (h1 : ∀ u ∈ cs, u.oneCell' = true) (hn : n ≤ 1000000) :
    Calls Tryd.prog 47 #[v] w (fun e w' => ∃ v', e = .returned v' ∧ w'.ownsRow w.heap.size 29 8 v' n cs ∧ Ext w w') := by
  have hq : ∀ (w : World) (a : Option Addr) (n c : Nat), (binOp .eql 26 (.slice a n c) (.slice none 0 0)).run Tryd.prog w = .ok (.bool a.isNone) w := fun w a n c => Lib.run_eql_slice_nil w _ _ a n c 0 0 Tryd.underlying26
  obtain ⟨h0, a, cap, rfl, h2, h3, h4⟩ := id h
  cases a with
  | none =>
    have hn0 : n = 0 := by
      rcases Nat.eq_zero_or_pos n with h' | h'
      · exact h'
      · obtain ⟨g, o, e, _⟩ := h4 h'; cases e
    subst hn0
    obtain rfl : cs = [] := List.eq_nil_of_length_eq_zero (by simpa using h0)
    clear h h4 h0 h1
    go_enter Tryd.func47, Tryd.ntmps47
    go_wp2_with fail
    go_ret
    exact ⟨_, rfl, World.ownsRow_nil _ _ _ _, ext_refl _⟩
  | some a =>
    have HR := Lib.hid h
    have HO := Lib.hid h1
    clear h h4 h0 h1
    go_enter Tryd.func47, Tryd.ntmps47
    have hx : Ext w (w.alloc (.cells #[] 29)) := (ext_refl w).alloc (Nat.le_refl _) _
    have hown : (w.alloc (.cells #[] 29)).ownsRow w.heap.size 29 8 (.slice (some ⟨w.heap.size, 0, none⟩) 0 0) 0 [] :=
      ⟨rfl, .inr ⟨w.heap.size, 0, #[], rfl, Nat.le_refl _, heap_alloc_new _ _, Nat.le_refl _, by simp only [maxLen]; omega, rfl, rfl⟩⟩
    have hsrc := (HR.out.keep (A' := fun _ => True) hx.size (fun g _ hlt => ⟨trivial, hx.block g hlt⟩)).src (P := Tryd.prog) (tx := 26) (e' := 29) (by kernel_rfl) (by decide) HO.out
    go_wp2_with (first
      | (at_builtin; refine wpList_append_src _ rfl _ _ 26 26 rfl w.heap.size 29 _ _ 8 112 (by kernel_rfl) (by rfl) (by rfl) (by rfl) (by kernel_rfl) (by rfl) (by decide) _ 0 [] rfl hown _ n cs rfl hsrc (by simp only [maxLen]; omega) (by omega) hx.size ?_; intro v' w' ho' hg)
      | fail)
    go_ret
    exact ⟨_, rfl, by simpa using ho', hx.trans (Below.ofGrown hg hown hx.size)⟩
/-- a member's nine cells -/
def MAt (w : World) (q : Nat) (c : Array Value) : Prop := w.heap[q]? = some (.cells c 41 (0, 0))
theorem MAt.new (w : World) (c : Array Value) : MAt (w.alloc (.cells c 41)) w.heap.size c := heap_alloc_new _ _
theorem MAt.lt {w : World} {q : Nat} {c : Array Value} (h : MAt w q c) : q < w.heap.size := (Array.getElem?_eq_some_iff.1 h).1
theorem MAt.ext {w w' : World} {q : Nat} {c : Array Value} (h : MAt w q c) (hb : Ext w w') : MAt w' q c := by
  unfold MAt; rw [hb.block _ h.lt]; exact h
theorem MAt.cell {w : World} {q : Nat} {c : Array Value} (h : MAt w q c) (i : Nat) : w.cell? ⟨q, i, none⟩ = c[i]? := cell_of_cells h
theorem TL.appendL {w : World} {A : Nat → Prop} : ∀ {l l' : List Tree} {cs cs' : List Value}, TL w A l cs → TL w A l' cs' → TL w A (l ++ l') (cs ++ cs')
  | _, _, _, _, .nil, h => h
  | _, _, _, _, .cons h1 h2, h => by have := TL.cons h1 (TL.appendL h2 h); simpa using this
theorem ownsRow_ext {w w' : World} {base : Nat} {e : TypeId} {z : Nat} {v : Value} {n : Nat} {cs : List Value} (h : w.ownsRow base e z v n cs) (hb : Ext w w') : w'.ownsRow base e z v n cs := by
  obtain ⟨h1, h2⟩ := h
  refine ⟨h1, ?_⟩
  rcases h2 with h2 | ⟨g, cap, cur, rfl, hbg, hg, r⟩
  · exact .inl h2
  · exact .inr ⟨g, cap, cur, rfl, hbg, by rw [hb.block g (Array.getElem?_eq_some_iff.1 hg).1]; exact hg, r⟩
set_option maxHeartbeats 6400000 in
theorem inside_any (t : Tree) (c : Array Value) (A : Nat → Prop) (w : World) (h : TV w A t c) (hn : t.list.length + t.mems.length ≤ 1000000) :
    Calls Tryd.prog 24 #[.agg c] w (fun e w' => ∃ v cs, e = .returned v ∧ w'.ownsRow w.heap.size 29 8 v t.ins.length cs ∧ TL w' (fun _ => True) t.ins cs ∧ Ext w w') := by
  obtain ⟨k, b, d, s, la, ln, lc, ma, mn, mc, rfl⟩ := h.eight
  obtain ⟨cl, cm, htl, hrl, htm, hrm, -⟩ := tv_rows h
  obtain ⟨tk, tb, tn, ts, L, M⟩ := t
  simp only [Tree.list, Tree.mems] at htl hrl htm hrm hn
  have hins : (Tree.mk tk tb tn ts L M).ins = L ++ M.map (·.2) := rfl
  rw [hins]
  have hlen : (L ++ M.map (·.2)).length = L.length + M.length := by simp
  rw [hlen]
  obtain ⟨_, a1, c1, ea, -⟩ := id hrl
  simp only [Value.slice.injEq] at ea
  obtain ⟨rfl, rfl, rfl⟩ := ea
  obtain ⟨_, a2, c2, ea, hm1, hm2, -⟩ := id hrm
  simp only [Value.slice.injEq] at ea
  obtain ⟨rfl, rfl, rfl⟩ := ea
  have hv := VAt.new w (cellsV k b d s (.slice la L.length lc) (.slice ma M.length mc))
  have hx : Ext w (w.alloc (.cells (cellsV k b d s (.slice la L.length lc) (.slice ma M.length mc)) 29)) := (ext_refl w).alloc (Nat.le_refl _) _
  simp only [cellsV] at hv hx ⊢
  clear hins hlen h
  go_enter Tryd.func24, Tryd.ntmps24
  go_upto_region 1 with fail
  generalize w.alloc (.cells #[.int .i64 k, .bool b, .bool d.neg, .string ⟨d.digits.toArray⟩, .int .i64 d.exp, .string ⟨s.toArray⟩, .slice la L.length lc, .slice ma M.length mc] 29) = w1 at *
  obtain ⟨S, hS⟩ : ∃ S, w.heap.size = S := ⟨_, rfl⟩
  have HTM := Lib.hid (htm.keep (w' := w1) (A' := fun g => g < S) hx.size (fun g _ hlt => ⟨by omega, hx.block g hlt⟩))
  have HRM := Lib.hid (hrm.keep (w' := w1) (A' := fun g => g < S) hx.size (fun g _ hlt => ⟨by omega, hx.block g hlt⟩))
  have HTL := Lib.hid (htl.keep (w' := w1) (A' := fun g => g < S) hx.size (fun g _ hlt => ⟨by omega, hx.block g hlt⟩))
  have HRL := Lib.hid (hrl.keep (w' := w1) (A' := fun g => g < S) hx.size (fun g _ hlt => ⟨by omega, hx.block g hlt⟩))
  have HE := Lib.hid hx
  rw [hS] at hv ⊢
  have HV := Lib.hid hv
  have HS := Lib.hid hS
  clear htm hrm htl hrl hx hS
  have c6 := HV.out.cell 6; have c7 := HV.out.cell 7
  simp at c6 c7
  clear hv
  go_wp2_with fail
  refine (clone_any _ L.length cl _ w1 HRL.out HTL.out.one (by omega)).mono ?_
  rintro e w2 ⟨v2, rfl, hown2, hw2⟩
  have hbase : S ≤ w1.heap.size := by rw [← HS.out]; exact HE.out.size
  have hown2' : w2.ownsRow S 29 8 v2 L.length cl := by
    obtain ⟨h1, h2⟩ := hown2
    refine ⟨h1, ?_⟩
    rcases h2 with h2 | ⟨g, cap, cur, e1, hbg, r⟩
    · exact .inl h2
    · exact .inr ⟨g, cap, cur, e1, Nat.le_trans hbase hbg, r⟩
  clear hown2 c6 c7
  replace HV := Lib.hid (HV.out.ext hw2)
  have c7 := HV.out.cell 7
  simp at c7
  go_wp2_with fail
  clear c7
  have hbel2 : Below S w1 w2 := hw2.mono hbase
  go_loopw [3, 12] (fun v iv wr => ∃ (i : Nat) (cs : List Value), iv = .int .i64 i ∧ i ≤ M.length ∧ wr.ownsRow S 29 8 v (L.length + i) cs ∧ TL wr (fun g => g < S) (L ++ (M.take i).map (·.2)) cs ∧ Below S w1 wr) (fun _ iv _ => 2000000 - (intOf iv).toNat)
  case atStart => exact ⟨0, cl, rfl, by omega, hown2', by simpa using HTL.out.keep (A' := fun g => g < S) hbel2.size (fun g hg hlt => ⟨hg, hbel2.block g hg⟩), hbel2⟩
  case round =>
    obtain ⟨i, cs, rfl, hi, hown, htl, hE⟩ := hrel
    rename_i vo _
    have HO := Lib.hid hown
    have HT := Lib.hid htl
    have HX := Lib.hid hE
    clear hown htl hE
    by_cases hlt : i < M.length
    · have hlti : (i : Int) < M.length := by omega
      have hi0 : (0 : Int) ≤ i := by omega
      obtain ⟨x, htx, hkx, hcx⟩ := HTM.out.at i hlt
      obtain ⟨_, a', c', e', _, _, hrow⟩ := HRM.out
      simp only [Value.slice.injEq] at e'
      obtain ⟨rfl, -, rfl⟩ := e'
      obtain ⟨g, o, rfl, hgS, hgl, hgc0⟩ := hrow (by omega)
      have hgc : ∀ j u, cm[j]? = some u → w1.cell? ⟨g, o + j, none⟩ = some u := fun j u hu => by
        obtain ⟨hj, rfl⟩ := List.getElem?_eq_some_iff.1 hu
        exact hgc0 j hj
      obtain ⟨xk, xb, xd, xs, xa1, xn1, xc1, xa2, xn2, xc2, rfl⟩ := htx.eight
      have h9 : wr.cell? ⟨g, o + i * 9, none⟩ = some (.string ⟨M[i].1.toArray⟩) ∧ ∀ j, j < 8 → wr.cell? ⟨g, o + i * 9 + (j + 1), none⟩ = (cellsV xk xb xd xs (.slice xa1 xn1 xc1) (.slice xa2 xn2 xc2))[j]? := by
        refine ⟨by rw [HX.out.cell (p := ⟨g, o + i * 9, none⟩) hgS]; exact hgc _ _ hkx, fun j hj => ?_⟩
        rw [Nat.add_assoc, HX.out.cell (p := ⟨g, o + (i * 9 + (j + 1)), none⟩) hgS]
        have h1 := hcx j hj
        rw [show i * 9 + 1 + j = i * 9 + (j + 1) by omega] at h1
        have h2 : (cellsV xk xb xd xs (.slice xa1 xn1 xc1) (.slice xa2 xn2 xc2))[j]? = some (cellsV xk xb xd xs (.slice xa1 xn1 xc1) (.slice xa2 xn2 xc2))[j] := by simp [cellsV, hj]
        rw [h2]
        exact hgc _ _ (h1.trans h2)
      obtain ⟨x0, hx8⟩ := h9
      have x1 := hx8 0 (by omega); have x2 := hx8 1 (by omega); have x3 := hx8 2 (by omega); have x4 := hx8 3 (by omega); have x5 := hx8 4 (by omega); have x6 := hx8 5 (by omega); have x7 := hx8 6 (by omega); have x8 := hx8 7 (by omega)
      simp [cellsV] at x1 x2 x3 x4 x5 x6 x7 x8
      clear hx8 hcx hkx hgc hgc0 hgl hgS hrow
      obtain ⟨ky, hky⟩ : ∃ ky, M[i].1 = ky := ⟨_, rfl⟩
      rw [hky] at x0
      have HTX := Lib.hid (htx.keep (w' := wr) (A' := fun g => g < S) HX.out.size (fun g hg hlt => ⟨hg, HX.out.block g hg⟩))
      clear htx hky
      have hm9 := MAt.new wr #[.string ⟨ky.toArray⟩, .int .i64 xk, .bool xb, .bool xd.neg, .string ⟨xd.digits.toArray⟩, .int .i64 xd.exp, .string ⟨xs.toArray⟩, .slice xa1 xn1 xc1, .slice xa2 xn2 xc2]
      have hx3 : Ext wr (wr.alloc (.cells #[.string ⟨ky.toArray⟩, .int .i64 xk, .bool xb, .bool xd.neg, .string ⟨xd.digits.toArray⟩, .int .i64 xd.exp, .string ⟨xs.toArray⟩, .slice xa1 xn1 xc1, .slice xa2 xn2 xc2] 41)) := (ext_refl wr).alloc (Nat.le_refl _) _
      obtain ⟨P, hP⟩ : ∃ P, wr.heap.size = P := ⟨_, rfl⟩
      rw [hP] at hm9
      go_upto_region 5 with fail
      clear x0 x1 x2 x3 x4 x5 x6 x7 x8 hP
      generalize wr.alloc (.cells #[.string ⟨ky.toArray⟩, .int .i64 xk, .bool xb, .bool xd.neg, .string ⟨xd.digits.toArray⟩, .int .i64 xd.exp, .string ⟨xs.toArray⟩, .slice xa1 xn1 xc1, .slice xa2 xn2 xc2] 41) = w3 at *
      have x1 := hm9.cell 1; have x2 := hm9.cell 2; have x3 := hm9.cell 3; have x4 := hm9.cell 4; have x5 := hm9.cell 5; have x6 := hm9.cell 6; have x7 := hm9.cell 7; have x8 := hm9.cell 8
      simp at x1 x2 x3 x4 x5 x6 x7 x8
      have hx4 : Ext w3 (w3.alloc (.cells #[.int .i64 xk, .bool xb, .bool xd.neg, .string ⟨xd.digits.toArray⟩, .int .i64 xd.exp, .string ⟨xs.toArray⟩, .slice xa1 xn1 xc1, .slice xa2 xn2 xc2] 29)) := (ext_refl w3).alloc (Nat.le_refl _) _
      have hown4 := ownsRow_ext HO.out (ext_trans hx3 hx4)
      have hsS : S ≤ wr.heap.size := Nat.le_trans hbase HX.out.size
      have hs4 : S ≤ (w3.alloc (.cells #[.int .i64 xk, .bool xb, .bool xd.neg, .string ⟨xd.digits.toArray⟩, .int .i64 xd.exp, .string ⟨xs.toArray⟩, .slice xa1 xn1 xc1, .slice xa2 xn2 xc2] 29)).heap.size := Nat.le_trans hsS (ext_trans hx3 hx4).size
      have hsrc := src_one (P := Tryd.prog) (tx := 26) (e' := 29) (by kernel_rfl) (heap_alloc_new w3 (.cells #[.int .i64 xk, .bool xb, .bool xd.neg, .string ⟨xd.digits.toArray⟩, .int .i64 xd.exp, .string ⟨xs.toArray⟩, .slice xa1 xn1 xc1, .slice xa2 xn2 xc2] 29)) rfl (by simp [Value.oneCell'])
      have hE4 := (ext_trans hx3 hx4).mono hsS
      go_wp2_with (first
        | (at_builtin; refine wpList_append_src _ rfl _ _ 26 26 rfl S 29 _ _ 8 112 (by kernel_rfl) (by rfl) (by rfl) (by rfl) (by kernel_rfl) (by rfl) (by decide) _ (L.length + i) cs rfl hown4 _ 1 _ rfl hsrc (by simp only [maxLen]; omega) (by omega) hs4 ?_; intro v' w' ho' hg; have hb5 := hE4.trans (Below.ofGrown hg hown4 hs4); clear x1 x2 x3 x4 x5 x6 x7 x8 hx3 hx4 hm9 hown4 hsrc hg)
        | fail)
      have e9 : IntKind.i64.wrap ((i : Int) + 1) = ((i + 1 : Nat) : Int) := by rw [IntWalk.i64_in _ (by omega)]; omega
      go_roundw
      case rel =>
        refine ⟨i + 1, _, by go_num, by omega, ho', ?_, HX.out.trans hb5⟩
        have h1 := (HT.out.keep (A' := fun g => g < S) hb5.size (fun g hg hlt => ⟨hg, hb5.block g hg⟩)).append (HTX.out.keep (A' := fun g => g < S) hb5.size (fun g hg hlt => ⟨hg, hb5.block g hg⟩))
        rw [show L ++ (M.take (i + 1)).map (·.2) = (L ++ (M.take i).map (·.2)) ++ [M[i].2] by rw [List.take_add_one, List.getElem?_eq_getElem hlt]; simp only [Option.toList_some, List.map_append, List.map_cons, List.map_nil, List.append_assoc]]
        exact h1
      case measure => simp [intOf]; omega
    · obtain rfl : i = M.length := by omega
      have hnlt : ¬ ((M.length : Int) < (M.length : Int)) := by omega
      go_wp2_with fail
      go_ret
      refine ⟨_, rfl, cs, by rw [HS.out]; exact HO.out, ?_, HE.out.trans (HX.out.mono (by rw [HS.out]; exact Nat.le_refl _))⟩
      have h1 := HT.out.keep (A' := fun _ => True) (Nat.le_refl _) (fun g hg hlt => ⟨trivial, rfl⟩)
      rwa [List.take_length] at h1
end Go.Proofs.YtckpndbmpigegaaDoor
end

section
/- value: how deep a value is. -/
set_option linter.unusedVariables false
set_option linter.unusedSimpArgs false
set_option maxRecDepth 100000
namespace Orange
mutual
def depthT : Tree → Nat
  | .mk _ _ _ _ l m => max (depthL l) (depthM m) + 1
def depthL : List Tree → Nat
  | [] => 0
  | t :: l => max (depthT t) (depthL l)
def depthM : List (List UInt8 × Tree) → Nat
  | [] => 0
  | (_, t) :: l => max (depthT t) (depthM l)
end
mutual
def countT : Tree → Nat
  | .mk _ _ _ _ l m => countL l + countM m + 1
def countL : List Tree → Nat
  | [] => 0
  | t :: l => countT t + countL l
def countM : List (List UInt8 × Tree) → Nat
  | [] => 0
  | (_, t) :: l => countT t + countM l
end
theorem depthL_append : ∀ (l l' : List Tree), depthL (l ++ l') = max (depthL l) (depthL l')
  | [], l' => by rw [List.nil_append, depthL]; omega
  | t :: l, l' => by rw [List.cons_append, depthL, depthL, depthL_append l l']; omega
theorem countL_append : ∀ (l l' : List Tree), countL (l ++ l') = countL l + countL l'
  | [], l' => by rw [List.nil_append, countL]; omega
  | t :: l, l' => by rw [List.cons_append, countL, countL, countL_append l l']; omega
theorem depthM_map : ∀ m : List (List UInt8 × Tree), depthM m = depthL (m.map (·.2))
  | [] => by rw [depthM, List.map_nil, depthL]
  | (k, t) :: m => by rw [depthM, List.map_cons, depthL, depthM_map m]
theorem countM_map : ∀ m : List (List UInt8 × Tree), countM m = countL (m.map (·.2))
  | [] => by rw [countM, List.map_nil, countL]
  | (k, t) :: m => by rw [countM, List.map_cons, countL, countM_map m]
theorem depthT_ins (t : Tree) : depthT t = depthL t.ins + 1 := by
  cases t with
  | mk k b d s l m => rw [depthT, depthM_map]; show _ = depthL (l ++ m.map (·.2)) + 1; rw [depthL_append]
theorem countT_ins (t : Tree) : countT t = countL t.ins + 1 := by
  cases t with
  | mk k b d s l m => rw [countT, countM_map]; show _ = countL (l ++ m.map (·.2)) + 1; rw [countL_append]
theorem countT_pos (t : Tree) : 1 ≤ countT t := by rw [countT_ins]; omega
theorem countL_len : ∀ l : List Tree, l.length ≤ countL l
  | [] => by simp
  | t :: l => by have := countL_len l; have := countT_pos t; rw [countL, List.length_cons]; omega
theorem countL_mem {l : List Tree} {i : Nat} (h : i < l.length) : countT l[i] ≤ countL l := by
  have := countL_append (l.take i) (l.drop i)
  rw [List.take_append_drop] at this
  rw [this, List.drop_eq_getElem_cons h, countL]
  omega
mutual
theorem depth_count : ∀ t : Tree, depthT t ≤ countT t
  | .mk k b d s l m => by rw [depthT, countT]; have := depthL_count l; have := depthM_count m; omega
theorem depthL_count : ∀ l : List Tree, depthL l ≤ countL l
  | [] => by rw [depthL, countL]; omega
  | t :: l => by rw [depthL, countL]; have := depth_count t; have := depthL_count l; omega
theorem depthM_count : ∀ l : List (List UInt8 × Tree), depthM l ≤ countM l
  | [] => by rw [depthM, countM]; omega
  | (_, t) :: l => by rw [depthM, countM]; have := depth_count t; have := depthM_count l; omega
end
theorem depthL_take (l : List Tree) (i : Nat) (h : i < l.length) : depthL (l.take (i + 1)) = max (depthL (l.take i)) (depthT l[i]) := by
  rw [List.take_add_one, List.getElem?_eq_getElem h, Option.toList_some, depthL_append, depthL, depthL]
  omega
theorem countL_take (l : List Tree) (i : Nat) (h : i < l.length) : countL (l.take (i + 1)) = countL (l.take i) + countT l[i] := by
  rw [List.take_add_one, List.getElem?_eq_getElem h, Option.toList_some, countL_append, countL, countL]
  omega
theorem countL_take_le (l : List Tree) (i : Nat) : countL (l.take i) ≤ countL l := by
  have := countL_append (l.take i) (l.drop i)
  rw [List.take_append_drop] at this
  omega
theorem ins_size {t x : Tree} (h : x ∈ t.ins) : SizeOf.sizeOf x < SizeOf.sizeOf t := by
  cases t with
  | mk k b d s l m =>
    have h : x ∈ l ++ m.map (·.2) := h
    rw [List.mem_append] at h
    simp only [Tree.mk.sizeOf_spec]
    rcases h with h | h
    · have := List.sizeOf_lt_of_mem h; omega
    · obtain ⟨p, hp, rfl⟩ := List.mem_map.1 h
      have h1 := List.sizeOf_lt_of_mem hp
      cases p
      simp only [Prod.mk.sizeOf_spec] at h1 ⊢
      omega
theorem ins_len (t : Tree) : t.ins.length = t.list.length + t.mems.length := by simp [Tree.ins]
end Orange
namespace Go.Proofs.YtckpndbmpigegaaDoor
open Go.RowKit Go.Mem Orange
/-- an element of a row of values, in any later world -/
theorem row_elem {w : World} {A : Nat → Prop} {a : Option Addr} {n m cap : Nat} {l : List Tree} {cs : List Value} (hr : RowAt w A 8 (.slice a m cap) n cs) (ht : TL w A l cs) (hl : n = l.length) (i : Nat) (hi : i < l.length) :
    ∃ g o k b d s a1 n1 c1 a2 n2 c2, a = some ⟨g, o, none⟩ ∧ TV w A l[i] (cellsV k b d s (.slice a1 n1 c1) (.slice a2 n2 c2)) ∧ ∀ w', Ext w w' →
      w'.cell? ⟨g, o + i * 8, none⟩ = some (.int .i64 k) ∧ w'.cell? ⟨g, o + i * 8 + 1, none⟩ = some (.bool b) ∧ w'.cell? ⟨g, o + i * 8 + 2, none⟩ = some (.bool d.neg) ∧ w'.cell? ⟨g, o + i * 8 + 3, none⟩ = some (.string ⟨d.digits.toArray⟩) ∧
      w'.cell? ⟨g, o + i * 8 + 4, none⟩ = some (.int .i64 d.exp) ∧ w'.cell? ⟨g, o + i * 8 + 5, none⟩ = some (.string ⟨s.toArray⟩) ∧ w'.cell? ⟨g, o + i * 8 + 6, none⟩ = some (.slice a1 n1 c1) ∧ w'.cell? ⟨g, o + i * 8 + 7, none⟩ = some (.slice a2 n2 c2) := by
  obtain ⟨c, h1, h2⟩ := ht.at i hi
  obtain ⟨g, o, rfl, hg, hc⟩ := hr.cells (by omega)
  obtain ⟨k, b, d, s, a1, n1, c1, a2, n2, c2, rfl⟩ := h1.eight
  have key : ∀ w', Ext w w' → ∀ j, j < 8 → ∀ u, (cellsV k b d s (.slice a1 n1 c1) (.slice a2 n2 c2))[j]? = some u → w'.cell? ⟨g, o + (i * 8 + j), none⟩ = some u := fun w' hw j hj u hu => by
    rw [hw.cell (p := ⟨g, o + (i * 8 + j), none⟩) hg]
    exact hc _ _ ((h2 j hj).trans hu)
  refine ⟨g, o, k, b, d, s, a1, n1, c1, a2, n2, c2, rfl, h1, fun w' hw => ?_⟩
  simp only [Nat.add_assoc]
  exact ⟨key w' hw 0 (by omega) _ rfl, key w' hw 1 (by omega) _ rfl, key w' hw 2 (by omega) _ rfl, key w' hw 3 (by omega) _ rfl, key w' hw 4 (by omega) _ rfl, key w' hw 5 (by omega) _ rfl, key w' hw 6 (by omega) _ rfl, key w' hw 7 (by omega) _ rfl⟩
theorem ownsRow_shape {w : World} {base : Nat} {e : TypeId} {z : Nat} {v : Value} {n : Nat} {cs : List Value} (h : w.ownsRow base e z v n cs) : ∃ a c, v = .slice a n c := by
  rcases h.2 with ⟨rfl, h0⟩ | ⟨g, cap, cur, rfl, _⟩
  · exact ⟨_, _, by rw [h0]⟩
  · exact ⟨_, _, rfl⟩
set_option maxHeartbeats 6400000 in
theorem depth_step (N : Nat) (ih : ∀ (t : Tree) (A : Nat → Prop) (c : Array Value) (w : World), SizeOf.sizeOf t < N → countT t ≤ 1000000 → TV w A t c →
    Calls Tryd.prog 18 #[.agg c] w (fun e w' => e = .returned (.int .i64 (depthT t : Nat)) ∧ Ext w w')) :
    ∀ (t : Tree) (A : Nat → Prop) (c : Array Value) (w : World), SizeOf.sizeOf t < N + 1 → countT t ≤ 1000000 → TV w A t c →
    Calls Tryd.prog 18 #[.agg c] w (fun e w' => e = .returned (.int .i64 (depthT t : Nat)) ∧ Ext w w') := by
  intro t A c w hN hct h
  have IH := Lib.hid ih
  clear ih
  obtain ⟨D, hD⟩ : ∃ D, depthT t = D := ⟨_, rfl⟩
  rw [hD]
  have HD0 := Lib.hid hD
  clear hD
  obtain ⟨k, b, d, s, la, ln, lc, ma, mn, mc, rfl⟩ := h.eight
  have hv := VAt.new w (cellsV k b d s (.slice la ln lc) (.slice ma mn mc))
  have hx : Ext w (w.alloc (.cells (cellsV k b d s (.slice la ln lc) (.slice ma mn mc)) 29)) := (ext_refl w).alloc (Nat.le_refl _) _
  simp only [cellsV] at hv hx ⊢
  go_enter Tryd.func18, Tryd.ntmps18
  go_upto_region 2 with fail
  generalize w.alloc (.cells #[.int .i64 k, .bool b, .bool d.neg, .string ⟨d.digits.toArray⟩, .int .i64 d.exp, .string ⟨s.toArray⟩, .slice la ln lc, .slice ma mn mc] 29) = w1 at *
  have HT := Lib.hid (h.keep (w' := w1) (A' := fun _ => True) hx.size (fun g _ hlt => ⟨trivial, hx.block g hlt⟩))
  obtain ⟨S, hS⟩ : ∃ S, w.heap.size = S := ⟨_, rfl⟩
  rw [hS] at hv ⊢
  have HE := Lib.hid hx
  have HCT := Lib.hid hct
  have hcl := countT_ins t
  have hll := countL_len t.ins
  have hil := ins_len t
  have hcb : t.list.length + t.mems.length ≤ 1000000 := by omega
  have HCB : Hid (t.ins.length ≤ 1000000) := Lib.hid (by omega)
  have c0 := hv.cell 0; have c1 := hv.cell 1; have c2 := hv.cell 2; have c3 := hv.cell 3; have c4 := hv.cell 4; have c5 := hv.cell 5; have c6 := hv.cell 6; have c7 := hv.cell 7
  simp at c0 c1 c2 c3 c4 c5 c6 c7
  clear h hx hS hv hct
  go_wp2_with fail
  refine (inside_any t _ _ w1 HT.out hcb).mono ?_
  rintro e w2 ⟨v2, cs, rfl, hown, htl, hw2⟩
  obtain ⟨a2, cc2, rfl⟩ := ownsRow_shape hown
  have HR := Lib.hid (RowAt.own hown (by decide) (A := fun _ => True) (fun _ _ _ _ => trivial))
  have HTL := Lib.hid htl
  have HL := HCB
  have HEW := Lib.hid (ext_trans HE.out hw2)
  have HN : Hid (∀ i (hi : i < t.ins.length), SizeOf.sizeOf t.ins[i] < N ∧ countT t.ins[i] ≤ 1000000) := Lib.hid (fun i hi => ⟨by have := ins_size (List.getElem_mem hi); omega, by have := countL_mem hi; have := HCT.out; omega⟩)
  have HD : Hid (D = depthL t.ins + 1 ∧ depthL t.ins ≤ 1000000) := Lib.hid ⟨by rw [← HD0.out]; exact depthT_ins t, by have := depthL_count t.ins; have := HCT.out; omega⟩
  clear hown htl hcl hll hil c0 c1 c2 c3 c4 c5 c6 c7 hN HCT HT HE hw2 hcb HD0 HCB
  generalize t.ins = l at *
  have HPOST := HD
  go_wp2_with fail
  go_loopw [3, 9] (fun nv iv wr => ∃ i : Nat, iv = .int .i64 i ∧ i ≤ l.length ∧ nv = .int .i64 (depthL (l.take i) : Nat) ∧ Ext w2 wr) (fun _ iv _ => 2000000 - (intOf iv).toNat)
  case atStart => exact ⟨0, rfl, by omega, by rw [List.take_zero, depthL]; rfl, ext_refl _⟩
  case round =>
    obtain ⟨i, rfl, hi, rfl, hE⟩ := hrel
    have HX := Lib.hid hE
    clear hE
    have hll := HL.out
    by_cases hlt : i < l.length
    · have hlti : (i : Int) < l.length := by omega
      have hi0 : (0 : Int) ≤ i := by omega
      obtain ⟨g, o, xk, xb, xd, xs, xa1, xn1, xc1, xa2, xn2, xc2, rfl, htx, hcell⟩ := row_elem HR.out HTL.out rfl i hlt
      obtain ⟨x0, x1, x2, x3, x4, x5, x6, x7⟩ := hcell wr HX.out
      have HTX := Lib.hid (htx.keep (w' := wr) (A' := fun _ => True) HX.out.size (fun g _ hlt => ⟨trivial, HX.out.block g hlt⟩))
      have HNI := Lib.hid (HN.out i hlt)
      have HTK := Lib.hid (depthL_take l i hlt)
      have HDB : Hid (depthL (l.take i) ≤ 1000000 ∧ depthT l[i] ≤ 1000000) := Lib.hid (by
        have h1 := HD.out.2
        have h2 := depthL_append (l.take i) (l.drop i)
        rw [List.take_append_drop, List.drop_eq_getElem_cons hlt, depthL] at h2
        omega)
      clear htx hcell
      generalize l[i] = x at *
      have hv3 := VAt.new wr #[.int .i64 xk, .bool xb, .bool xd.neg, .string ⟨xd.digits.toArray⟩, .int .i64 xd.exp, .string ⟨xs.toArray⟩, .slice xa1 xn1 xc1, .slice xa2 xn2 xc2]
      have hx3 : Ext wr (wr.alloc (.cells #[.int .i64 xk, .bool xb, .bool xd.neg, .string ⟨xd.digits.toArray⟩, .int .i64 xd.exp, .string ⟨xs.toArray⟩, .slice xa1 xn1 xc1, .slice xa2 xn2 xc2] 29)) := (ext_refl wr).alloc (Nat.le_refl _) _
      obtain ⟨P, hP⟩ : ∃ P, wr.heap.size = P := ⟨_, rfl⟩
      rw [hP] at hv3
      go_upto_region 5 with fail
      clear x0 x1 x2 x3 x4 x5 x6 x7 hP
      generalize wr.alloc (.cells #[.int .i64 xk, .bool xb, .bool xd.neg, .string ⟨xd.digits.toArray⟩, .int .i64 xd.exp, .string ⟨xs.toArray⟩, .slice xa1 xn1 xc1, .slice xa2 xn2 xc2] 29) = w3 at *
      have c0 := hv3.cell 0; have c1 := hv3.cell 1; have c2 := hv3.cell 2; have c3 := hv3.cell 3; have c4 := hv3.cell 4; have c5 := hv3.cell 5; have c6 := hv3.cell 6; have c7 := hv3.cell 7
      simp at c0 c1 c2 c3 c4 c5 c6 c7
      clear hv3
      have HX3 := Lib.hid hx3
      clear hx3
      have hdb1 := HDB.out.1
      have hdb2 := HDB.out.2
      have e9 : IntKind.i64.wrap ((i : Int) + 1) = ((i + 1 : Nat) : Int) := by rw [IntWalk.i64_in _ (by omega)]; omega
      go_wp2_with fail
      refine (IH.out x _ _ w3 HNI.out.1 HNI.out.2 (HTX.out.keep (A' := fun _ => True) HX3.out.size (fun g _ hlt => ⟨trivial, HX3.out.block g hlt⟩))).mono ?_
      rintro e w4 ⟨rfl, hw4⟩
      have HE4 := Lib.hid (ext_trans HX.out (ext_trans HX3.out hw4))
      clear hw4 c0 c1 c2 c3 c4 c5 c6 c7
      go_wp2_with fail
      go_roundw
      case rel => exact ⟨i + 1, by go_num, by omega, by rw [HTK.out]; first | rfl | (congr 1; omega), HE4.out⟩
      case measure => simp [intOf]; omega
    · obtain rfl : i = l.length := by omega
      have hnlt : ¬ ((l.length : Int) < (l.length : Int)) := by omega
      have hdb := HD.out.2
      rw [List.take_length]
      have e9 : IntKind.i64.wrap ((depthL l : Int) + 1) = ((depthL l + 1 : Nat) : Int) := by rw [IntWalk.i64_in _ (by omega)]; omega
      go_wp2_with fail
      go_ret
      exact ⟨ret_int (by rw [HPOST.out.1]; omega), ext_trans HEW.out HX.out⟩
theorem depth_any (t : Tree) (A : Nat → Prop) (c : Array Value) (w : World) (hct : countT t ≤ 1000000) (h : TV w A t c) :
    Calls Tryd.prog 18 #[.agg c] w (fun e w' => e = .returned (.int .i64 (depthT t : Nat)) ∧ Ext w w') := by
  have key : ∀ N : Nat, ∀ (t : Tree) (A : Nat → Prop) (c : Array Value) (w : World), SizeOf.sizeOf t < N → countT t ≤ 1000000 → TV w A t c →
      Calls Tryd.prog 18 #[.agg c] w (fun e w' => e = .returned (.int .i64 (depthT t : Nat)) ∧ Ext w w') := by
    intro N
    induction N with
    | zero => intro t A c w h; omega
    | succ N ih => exact depth_step N ih
  exact key _ t A c w (Nat.lt_succ_self _) hct h
end Go.Proofs.YtckpndbmpigegaaDoor
end

section
/- parse: two values' texts in brackets (plain). -/
set_option linter.unusedVariables false
set_option linter.unusedSimpArgs false
set_option maxRecDepth 100000
namespace Go.Proofs.YtckpndbmpigegaaDoor
open Go.RowKit Go.Mem Orange
theorem foldE_err {ι : Type} {g : Nat → ι → Except Int Nat} (hg : ∀ n x e, g n x = .error e → e = 3 ∨ e = 4) : ∀ (l : List ι) (n : Nat) (e : Int), foldE g n l = .error e → e = 3 ∨ e = 4
  | [], n, e, h => by rw [foldE] at h; cases h
  | x :: l, n, e, h => by
    rw [foldE] at h
    cases hx : g n x with
    | error e' => rw [hx] at h; cases h; exact hg n x e hx
    | ok n' => rw [hx] at h; exact foldE_err hg l n' e h
mutual
theorem fitT_err : ∀ (t : Tree) (deep n : Nat) (e : Int), fitT deep n t = .error e → e = 3 ∨ e = 4
  | .mk k b d s l m, deep, n, e, h => by
    rw [fitT] at h
    split at h
    · cases h; exact .inr rfl
    split at h
    · cases h; exact .inl rfl
    · cases hl : fitL (deep + 1) (n + 1) l with
      | error e' => rw [hl] at h; cases h; exact fitL_err l _ _ _ hl
      | ok n' => rw [hl] at h; exact fitM_err m _ _ _ h
theorem fitL_err : ∀ (l : List Tree) (deep n : Nat) (e : Int), fitL deep n l = .error e → e = 3 ∨ e = 4
  | [], deep, n, e, h => by rw [fitL] at h; cases h
  | t :: l, deep, n, e, h => by
    rw [fitL] at h
    cases hl : fitT deep n t with
    | error e' => rw [hl] at h; cases h; exact fitT_err t _ _ _ hl
    | ok n' => rw [hl] at h; exact fitL_err l _ _ _ h
theorem fitM_err : ∀ (l : List (List UInt8 × Tree)) (deep n : Nat) (e : Int), fitM deep n l = .error e → e = 3 ∨ e = 4
  | [], deep, n, e, h => by rw [fitM] at h; cases h
  | (k, t) :: l, deep, n, e, h => by
    rw [fitM] at h
    cases hl : fitT deep n t with
    | error e' => rw [hl] at h; cases h; exact fitT_err t _ _ _ hl
    | ok n' => rw [hl] at h; exact fitM_err l _ _ _ h
end
theorem valueP_from {X : List UInt8} {k k' : Nat} (h : whiteN X k = whiteN X k') : ∀ (f deep n : Nat), (f = 0 → k = k') → valueP X f deep k n = valueP X f deep k' n
  | 0, deep, n, h0 => by rw [h0 rfl]
  | f + 1, deep, n, _ => by rw [valueP, valueP, h]
theorem text_one {X Y : List UInt8} {k n : Nat} {c : UInt8} (hk : k ≤ X.length) (h : X.drop k = 34 :: c :: 34 :: Y) (h1 : 32 ≤ c.toNat) (h2 : c.toNat < 128) (h3 : c ≠ 34) (h4 : c.toNat ≠ 92) : textP X k n = .ok [c] (k + 3) n := by
  have hat := textP_at X k 0 n hk
  rw [Nat.add_zero] at hat
  rw [hat, h, textP, if_pos (show (34 :: c :: 34 :: Y)[0]? = some 34 from rfl)]
  have hn : next (c :: 34 :: Y) = ((c.toNat : Int), 1) := by simp only [next]; rw [if_pos h2]
  have he : encP (c.toNat : Int) = [c] := by
    unfold encP enc
    rw [if_pos (by rw [sound_iff]; omega), if_pos (by omega), byte_of (c := c) rfl]
  rw [textL]
  have hp : peekP (34 :: c :: 34 :: Y) (0 + 1) = c := rfl
  have hd : (34 :: c :: 34 :: Y).drop (0 + 1) = c :: 34 :: Y := rfl
  rw [hp, if_neg h3, hd, hn, if_neg (fun h => h ⟨Nat.zero_lt_one, by show (32 : Int) ≤ c.toNat; omega⟩), if_neg (by show ¬ (c.toNat : Int) = 92; omega), he]
  rw [show (34 :: c :: 34 :: Y).length = Y.length + 2 + 1 by simp, textL, if_pos (show peekP (34 :: c :: 34 :: Y) (0 + 1 + 1) = 34 from rfl)]
  rfl
theorem itemO_one {X Y : List UInt8} {val : Nat → Nat → PR Tree} {acc : List (List UInt8 × Tree)} {k n : Nat} {c : UInt8} (hk : k ≤ X.length) (h : X.drop k = 34 :: c :: 34 :: 58 :: Y) (h1 : 32 ≤ c.toNat) (h2 : c.toNat < 128) (h3 : c ≠ 34) (h4 : c.toNat ≠ 92)
    (hacc : acc.any (fun x => x.1 == [c]) = false) : itemO X val acc k n = (val (k + 4) n).map fun t => acc ++ [([c], t)] := by
  have hl : k + 3 < X.length := by
    have := congrArg List.length h
    simp at this
    omega
  have g0 : X[k]? = some 34 := by have := get_at X k 0; rw [h] at this; exact this
  have g3 : X[k + 3]? = some 58 := by have := get_at X k 3; rw [h] at this; exact this
  have w0 : whiteN X k = k := endQ_unique 0 k k rfl hk (fun i h1 h2 => by omega) (fun d hd => by rw [g0] at hd; cases hd; decide)
  have w3 : whiteN X (k + 3) = k + 3 := endQ_unique 0 _ _ rfl (by omega) (fun i h1 h2 => by omega) (fun d hd => by rw [g3] at hd; cases hd; decide)
  unfold itemO
  rw [w0, text_one hk h h1 h2 h3 h4]
  simp only
  rw [hacc, w3, if_neg (by simp), if_pos g3]
/-- a whole text, at a place of another one, with a sign behind it -/
theorem item_run {P a R : List UInt8} {c : UInt8} {t : Tree} {pa ma : Nat} (hw : isWhite c = false) (hf : isFig c = false) (hop : valueP a 65 0 0 0 = .ok t pa ma) (hwh : whiteN a pa = a.length) :
    (∀ n, SameR (valueP (P ++ (a ++ c :: R)) 64 1 P.length n) (fitT 1 n t) t (P.length + pa)) ∧ whiteN (P ++ (a ++ c :: R)) (P.length + pa) = P.length + a.length ∧ pa ≤ a.length ∧ (∀ d, isWhite d = false → (∀ x ∈ begs, x ≠ d) → peekP (P ++ (a ++ c :: R)) (whiteN (P ++ (a ++ c :: R)) P.length) ≠ d) := by
  obtain ⟨j1, j2, j3⟩ := valueP_agree (Z := a ++ c :: R) 65 0 0 0 t pa ma (Nat.zero_le _) hop
  refine ⟨fun n => ?_, ?_, j2, fun d hd1 hd2 => ?_⟩
  · have h1 := j3 (by rw [List.take_append_of_le_length j2]) (by
      rcases Nat.lt_or_eq_of_le j2 with h' | h'
      · exact .inr (.inl (List.getElem?_append_left h'))
      · refine .inr (.inr fun d hd => ?_)
        rw [h', List.getElem?_append_right (Nat.le_refl _), Nat.sub_self] at hd
        cases hd
        exact hf) 64 1 n (by omega) (by omega)
    rw [valueP_drop _ _ _ _ _ (by simp), List.drop_left]
    cases hx : fitT 1 n t with
    | error e => rw [hx] at h1; obtain ⟨p, h1⟩ := h1; rw [h1]; exact ⟨_, rfl⟩
    | ok m => rw [hx] at h1; have h1 : valueP (a ++ c :: R) 64 1 0 n = .ok t pa m := h1; rw [h1]; exact rfl
  · obtain ⟨w1, w2, w3, w4⟩ := endQ_spec isWhite a _ pa rfl j2
    have hwe : endQ isWhite a pa = a.length := hwh
    rw [hwe] at w3
    refine endQ_unique (a.length - pa) _ _ (by omega) (by simp) (fun i h1 h2 => ?_) (fun d hd => ?_)
    · rw [List.getElem?_append_right (by omega), List.getElem?_append_left (by omega)]
      exact w3 _ (by omega) (by omega)
    · rw [List.getElem?_append_right (by omega), List.getElem?_append_right (by omega), show P.length + a.length - P.length - a.length = 0 by omega] at hd
      cases hd
      exact hw
  · have hb : peekP a (whiteN a 0) ≠ 0 ∧ begs.contains (peekP a (whiteN a 0)) = true := by
      rw [valueP] at hop
      by_cases hb : peekP a (whiteN a 0) ≠ 0 ∧ begs.contains (peekP a (whiteN a 0)) = true
      · exact hb
      · rw [if_pos hb] at hop; cases hop
    have hlt : whiteN a 0 < a.length := (peekP_some rfl hb.1).2
    have hwz : whiteN (a ++ c :: R) 0 = whiteN a 0 := white_agree (Nat.zero_le _) (by rw [List.take_append_of_le_length (Nat.le_refl _)]) (Nat.le_refl _) hlt
    have hwp := whiteN_at (P ++ (a ++ c :: R)) P.length 0 (by simp)
    rw [List.drop_left, hwz, Nat.add_zero] at hwp
    rw [hwp, peekP_at, List.drop_left, agree_peek (X := a) (a := a.length) (by rw [List.take_append_of_le_length (Nat.le_refl _)]) hlt]
    exact hd2 _ (by simpa using hb.2)
def lText (a b : List UInt8) : List UInt8 := [91] ++ (a ++ 44 :: (b ++ [93]))
def oText (a b : List UInt8) : List UInt8 := [123, 34, 121, 34, 58] ++ (a ++ 44 :: (34 :: 120 :: 34 :: 58 :: (b ++ [125])))
set_option maxHeartbeats 3200000 in
/-- the two ends of a text of two -/
theorem list_law {a b : List UInt8} {ta tb : Tree} {pa ma pb mb : Nat} (ha : valueP a 65 0 0 0 = .ok ta pa ma) (hwa : whiteN a pa = a.length) (hb : valueP b 65 0 0 0 = .ok tb pb mb) (hwb : whiteN b pb = b.length) :
    match fitT 1 1 ta with
    | .error e => (∃ p, valueP (lText a b) 65 0 0 0 = .err e p) ∧ (∃ p, valueP (oText a b) 65 0 0 0 = .err e p)
    | .ok m => match fitT 1 m tb with
      | .error e => (∃ p, valueP (lText a b) 65 0 0 0 = .err e p) ∧ (∃ p, valueP (oText a b) 65 0 0 0 = .err e p)
      | .ok m2 => valueP (lText a b) 65 0 0 0 = .ok (tArr [ta, tb]) (lText a b).length m2 ∧ valueP (oText a b) 65 0 0 0 = .ok (tObj [([121], ta), ([120], tb)]) (oText a b).length m2 := by
  -- the list
  obtain ⟨p1, p2, p3, p4⟩ := item_run (P := [91]) (R := b ++ [93]) (c := 44) (by decide) (by decide) ha hwa
  have hl2 : lText a b = ([91] ++ (a ++ [44])) ++ (b ++ 93 :: []) := by simp [lText]
  obtain ⟨q1, q2, q3, q4⟩ := item_run (P := [91] ++ (a ++ [44])) (R := []) (c := 93) (by decide) (by decide) hb hwb
  rw [← hl2] at q1 q2 q4
  have hl1 : lText a b = [91] ++ (a ++ 44 :: (b ++ [93])) := rfl
  rw [← hl1] at p1 p2 p4
  have hL : (lText a b).length = a.length + b.length + 3 := by simp [lText]; omega
  have hlen1 : ([91] ++ (a ++ [44]) : List UInt8).length = a.length + 2 := by simp
  rw [hlen1] at q1 q2 q4
  simp only [List.length_singleton] at p1 p2 p4
  have g44 : peekP (lText a b) (1 + a.length) = 44 := by
    rw [lText, show (1 + a.length) = [(91 : UInt8)].length + a.length from rfl, peekP_at, List.drop_left]
    unfold peekP; simp
  have g93 : (lText a b)[a.length + 2 + b.length]? = some 93 := by
    rw [hl2, List.getElem?_append_right (by rw [hlen1]; omega), hlen1, List.getElem?_append_right (by omega)]
    simp
  have hop : valueP (lText a b) 65 0 0 0 = (listP (lText a b) 93 (itemA (valueP (lText a b) 64 1)) ((lText a b).length + 1) [] 1 1).map tArr := by
    have hw0 : whiteN (lText a b) 0 = 0 := endQ_unique 0 0 0 rfl (Nat.zero_le _) (fun i h1 h2 => by omega) (fun d hd => by cases hd; decide)
    have hp0 : peekP (lText a b) 0 = 91 := rfl
    rw [valueP, hw0, hp0, if_neg (by decide), if_neg (by decide), if_neg (by decide), if_neg (by decide), if_neg (by decide), if_neg (by decide), if_pos rfl, if_neg (by decide), openP, if_neg (p4 93 (by decide) (by decide))]
    congr 1
    -- white ahead of the first one says nothing
    rw [listP, listP]
    unfold itemA
    rw [valueP_from (k := whiteN (lText a b) (0 + 1)) (k' := 1) ?_ 64 1 (0 + 1) (fun h => by omega)]
    have hw1 := whiteN_ge (lText a b) 1 (by omega)
    obtain ⟨w1, w2, w3, w4⟩ := endQ_spec isWhite (lText a b) _ 1 rfl (by omega)
    exact endQ_unique 0 (endQ isWhite (lText a b) 1) _ rfl w2 (fun i h1 h2 => absurd h2 (Nat.not_lt.2 h1)) w4
  -- the object
  obtain ⟨r1, r2, r3, r4⟩ := item_run (P := [123, 34, 121, 34, 58]) (R := 34 :: 120 :: 34 :: 58 :: (b ++ [125])) (c := 44) (by decide) (by decide) ha hwa
  have ho1 : oText a b = [123, 34, 121, 34, 58] ++ (a ++ 44 :: (34 :: 120 :: 34 :: 58 :: (b ++ [125]))) := rfl
  rw [← ho1] at r1 r2 r4
  have ho2 : oText a b = ([123, 34, 121, 34, 58] ++ (a ++ [44, 34, 120, 34, 58])) ++ (b ++ 125 :: []) := by simp [oText]
  obtain ⟨s1, s2, s3, s4⟩ := item_run (P := [123, 34, 121, 34, 58] ++ (a ++ [44, 34, 120, 34, 58])) (R := []) (c := 125) (by decide) (by decide) hb hwb
  rw [← ho2] at s1 s2 s4
  have hlen2 : ([123, 34, 121, 34, 58] ++ (a ++ [44, 34, 120, 34, 58]) : List UInt8).length = a.length + 10 := by simp
  rw [hlen2] at s1 s2 s4
  have hlen3 : ([123, 34, 121, 34, 58] : List UInt8).length = 5 := rfl
  rw [hlen3] at r1 r2 r4
  have hO : (oText a b).length = a.length + b.length + 11 := by simp [oText]; omega
  have o44 : peekP (oText a b) (5 + a.length) = 44 := by
    rw [oText, show (5 + a.length) = [(123 : UInt8), 34, 121, 34, 58].length + a.length from rfl, peekP_at, List.drop_left]
    unfold peekP; simp
  have o125 : (oText a b)[a.length + 10 + b.length]? = some 125 := by
    rw [ho2, List.getElem?_append_right (by rw [hlen2]; omega), hlen2, List.getElem?_append_right (by omega)]
    simp
  have hoo : valueP (oText a b) 65 0 0 0 = (listP (oText a b) 125 (itemO (oText a b) (valueP (oText a b) 64 1)) ((oText a b).length + 1) [] 1 1).map tObj := by
    have hw0 : whiteN (oText a b) 0 = 0 := endQ_unique 0 0 0 rfl (Nat.zero_le _) (fun i h1 h2 => by omega) (fun d hd => by cases hd; decide)
    have hw1 : whiteN (oText a b) 1 = 1 := endQ_unique 0 1 1 rfl (by omega) (fun i h1 h2 => by omega) (fun d hd => by cases hd; decide)
    have hp0 : peekP (oText a b) 0 = 123 := rfl
    have hp1 : peekP (oText a b) 1 = 34 := rfl
    rw [valueP, hw0, hp0, if_neg (by decide), if_neg (by decide), if_neg (by decide), if_neg (by decide), if_neg (by decide), if_neg (by decide), if_neg (by decide), if_pos rfl, if_neg (by decide), openP, hw1, hp1, if_neg (by decide)]
  have i1 : ∀ acc n, acc.any (fun x => x.1 == [121]) = false → itemO (oText a b) (valueP (oText a b) 64 1) acc 1 n = (valueP (oText a b) 64 1 5 n).map fun t => acc ++ [([121], t)] := fun acc n h =>
    itemO_one (by omega) (Y := a ++ 44 :: (34 :: 120 :: 34 :: 58 :: (b ++ [125]))) (by simp [oText]) (by decide) (by decide) (by decide) (by decide) h
  have i2 : ∀ acc n, acc.any (fun x => x.1 == [120]) = false → itemO (oText a b) (valueP (oText a b) 64 1) acc (5 + a.length + 1) n = (valueP (oText a b) 64 1 (a.length + 10) n).map fun t => acc ++ [([120], t)] := fun acc n h => by
    rw [itemO_one (k := 5 + a.length + 1) (by omega) (Y := b ++ [125]) (by
      rw [show oText a b = ([123, 34, 121, 34, 58] ++ (a ++ [44])) ++ (34 :: 120 :: 34 :: 58 :: (b ++ [125])) by simp [oText], show 5 + a.length + 1 = ([123, 34, 121, 34, 58] ++ (a ++ [44]) : List UInt8).length by simp; omega, List.drop_left]) (by decide) (by decide) (by decide) (by decide) h]
    rw [show 5 + a.length + 1 + 4 = a.length + 10 by omega]
  rw [hop, hoo, hL, hO]
  have hp1 := p1 1
  have hr1 := r1 1
  rw [listP, listP]
  unfold itemA
  rw [i1 [] 1 rfl]
  cases hx : fitT 1 1 ta with
  | error e =>
    rw [hx] at hp1 hr1
    obtain ⟨x, hp1⟩ := hp1
    obtain ⟨y, hr1⟩ := hr1
    simp only
    rw [hp1, hr1]
    exact ⟨⟨_, rfl⟩, ⟨_, rfl⟩⟩
  | ok m =>
    rw [hx] at hp1 hr1
    have hp1 : valueP (lText a b) 64 1 1 1 = .ok ta (1 + pa) m := hp1
    have hr1 : valueP (oText a b) 64 1 5 1 = .ok ta (5 + pa) m := hr1
    simp only
    rw [hp1, hr1]
    simp only [PR.map]
    rw [p2, if_pos g44, r2, if_pos o44]
    have hq := q1 m
    have hs := s1 m
    rw [listP, listP, i2 _ m (by rfl), show 1 + a.length + 1 = a.length + 2 by omega]
    cases hy : fitT 1 m tb with
    | error e =>
      rw [hy] at hq hs
      obtain ⟨x, hq⟩ := hq
      obtain ⟨y, hs⟩ := hs
      simp only
      rw [hq, hs]
      exact ⟨⟨_, rfl⟩, ⟨_, rfl⟩⟩
    | ok m2 =>
      rw [hy] at hq hs
      have hq : valueP (lText a b) 64 1 (a.length + 2) m = .ok tb (a.length + 2 + pb) m2 := hq
      have hs : valueP (oText a b) 64 1 (a.length + 10) m = .ok tb (a.length + 10 + pb) m2 := hs
      simp only
      rw [hq, hs]
      simp only [PR.map]
      rw [q2, s2, if_neg (by rw [peekP, List.getD_eq_getElem?_getD, g93]; decide), if_pos g93, if_neg (by rw [peekP, List.getD_eq_getElem?_getD, o125]; decide), if_pos o125]
      simp only [List.nil_append, List.cons_append]
      exact ⟨by congr 1; omega, by congr 1; omega⟩
/-- the law, of the parser's function -/
theorem lists_law (a b : List UInt8) (hl : a.length + b.length ≤ 1000) (ha : (parseP a).2.1 = 0) (hb : (parseP b).2.1 = 0) :
    (∃ e, (e = 3 ∨ e = 4) ∧ (parseP (lText a b)).2.1 = e ∧ (parseP (oText a b)).2.1 = e ∧ (parseP (lText a b)).1 = tNull ∧ (parseP (oText a b)).1 = tNull) ∨
    (parseP (lText a b) = (tArr [(parseP a).1, (parseP b).1], 0, (lText a b).length) ∧ parseP (oText a b) = (tObj [([121], (parseP a).1), ([120], (parseP b).1)], 0, (oText a b).length)) := by
  have one : ∀ x : List UInt8, x.length ≤ 1000 → (parseP x).2.1 = 0 → ∃ t p m, valueP x 65 0 0 0 = .ok t p m ∧ whiteN x p = x.length ∧ (parseP x).1 = t := fun x hx h => by
    have hz : oneP x 0 = valueP x 65 0 0 0 := by unfold oneP; rw [show clampN x.length 0 = 0 from by unfold clampN; omega]
    unfold parseP at h ⊢
    rw [if_neg (by omega), hz] at h
    rw [if_neg (by omega), hz]
    have hf := valueP_fine 65 0 0 0 (Nat.zero_le x.length)
    cases hv : valueP x 65 0 0 0 with
    | err e p => rw [hv] at h hf; exact absurd h hf.1
    | ok t p m =>
      rw [hv] at h
      simp only at h ⊢
      by_cases hw : whiteN x p < x.length
      · rw [if_pos hw] at h; exact absurd (show (2 : Int) = 0 from h) (by decide)
      · refine ⟨t, p, m, rfl, by have := whiteN_le x p; omega, by rw [if_neg hw]⟩
  obtain ⟨ta, pa, ma, h1, h2, h3⟩ := one a (by omega) ha
  obtain ⟨tb, pb, mb, h4, h5, h6⟩ := one b (by omega) hb
  rw [h3, h6]
  have hlaw := list_law h1 h2 h4 h5
  have hL : (lText a b).length = a.length + b.length + 3 := by simp [lText]; omega
  have hO : (oText a b).length = a.length + b.length + 11 := by simp [oText]; omega
  have bad : ∀ (x : List UInt8) (e : Int) (p : Nat), x.length ≤ 65536 → valueP x 65 0 0 0 = .err e p → (parseP x).2.1 = e ∧ (parseP x).1 = tNull := fun x e p hx h => by
    have hz : oneP x 0 = valueP x 65 0 0 0 := by unfold oneP; rw [show clampN x.length 0 = 0 from by unfold clampN; omega]
    unfold parseP
    rw [if_neg (by omega), hz, h]
    exact ⟨rfl, rfl⟩
  have good : ∀ (x : List UInt8) (t : Tree) (m : Nat), x.length ≤ 65536 → valueP x 65 0 0 0 = .ok t x.length m → parseP x = (t, 0, x.length) := fun x t m hx h => by
    have hz : oneP x 0 = valueP x 65 0 0 0 := by unfold oneP; rw [show clampN x.length 0 = 0 from by unfold clampN; omega]
    have hw : whiteN x x.length = x.length := endQ_end rfl
    unfold parseP
    rw [if_neg (by omega), hz, h]
    simp only
    rw [hw, if_neg (by omega)]
  cases hx : fitT 1 1 ta with
  | error e =>
    rw [hx] at hlaw
    obtain ⟨⟨p, h7⟩, ⟨q, h8⟩⟩ := hlaw
    have h9 := bad _ _ _ (by omega) h7
    have h10 := bad _ _ _ (by omega) h8
    exact .inl ⟨e, fitT_err _ _ _ _ hx, h9.1, h10.1, h9.2, h10.2⟩
  | ok m =>
    rw [hx] at hlaw
    simp only at hlaw
    cases hy : fitT 1 m tb with
    | error e =>
      rw [hy] at hlaw
      obtain ⟨⟨p, h7⟩, ⟨q, h8⟩⟩ := hlaw
      have h9 := bad _ _ _ (by omega) h7
      have h10 := bad _ _ _ (by omega) h8
      exact .inl ⟨e, fitT_err _ _ _ _ hy, h9.1, h10.1, h9.2, h10.2⟩
    | ok m2 =>
      rw [hy] at hlaw
      exact .inr ⟨good _ _ _ (by omega) hlaw.1, good _ _ _ (by omega) hlaw.2⟩
end Go.Proofs.YtckpndbmpigegaaDoor
end

section
/- parse: arrays, or objects, in one another (plain). -/
set_option linter.unusedVariables false
set_option linter.unusedSimpArgs false
set_option maxRecDepth 100000
namespace Go.Proofs.YtckpndbmpigegaaDoor
open Go.RowKit Go.Mem Orange
def dHead (o : Bool) : List UInt8 := if o then [123, 34, 97, 34, 58] else [91]
def dEnd (o : Bool) : UInt8 := if o then 125 else 93
def dText (o : Bool) : Nat → List UInt8
  | 0 => [55]
  | k + 1 => dHead o ++ (dText o k ++ [dEnd o])
def dNum : Tree := tNum (decP [55]).1
def dTree (o : Bool) : Nat → Tree
  | 0 => dNum
  | k + 1 => if o then tObj [([97], dTree o k)] else tArr [dTree o k]
theorem dTree_depth (o : Bool) : ∀ k, depthT (dTree o k) = k + 1
  | 0 => rfl
  | k + 1 => by
    have ih := dTree_depth o k
    cases o with
    | true => show depthT (tObj [([97], dTree true k)]) = _; rw [tObj, depthT, depthL, depthM, depthM, ih]; try omega
    | false => show depthT (tArr [dTree false k]) = _; rw [tArr, depthT, depthL, depthL, depthM, ih]; try omega
theorem dTree_count (o : Bool) : ∀ k, countT (dTree o k) = k + 1
  | 0 => rfl
  | k + 1 => by
    have ih := dTree_count o k
    cases o with
    | true => show countT (tObj [([97], dTree true k)]) = _; rw [tObj, countT, countL, countM, countM, ih]; try omega
    | false => show countT (tArr [dTree false k]) = _; rw [tArr, countT, countL, countL, countM, ih]; try omega
theorem dText_head (o : Bool) : ∀ k, ∃ c t, dText o k = c :: t ∧ (c = 55 ∨ c = 91 ∨ c = 123)
  | 0 => ⟨55, [], rfl, .inl rfl⟩
  | k + 1 => by
    cases o with
    | true => exact ⟨123, _, rfl, .inr (.inr rfl)⟩
    | false => exact ⟨91, _, rfl, .inr (.inl rfl)⟩
theorem dText_len (o : Bool) : ∀ k, (dText o k).length = (dHead o).length * k + k + 1
  | 0 => by cases o <;> rfl
  | k + 1 => by
    rw [dText, List.length_append, List.length_append, dText_len o k, Nat.mul_add]
    show _ + (_ + 1) = _
    omega
theorem numP_seven {R : List UInt8} {n : Nat} (hR : ∀ c, R.head? = some c → isFig c = false) : numP (55 :: R) 0 n = .ok dNum 1 n := by
  have he : numEnd (55 :: R) 0 = 1 := by
    refine endQ_unique 1 0 1 rfl (by simp) (fun i h1 h2 => ?_) (fun c hc => hR c ?_)
    · obtain rfl : i = 0 := by omega
      exact ⟨55, rfl, by decide⟩
    · rw [List.head?_eq_getElem?]; simpa using hc
  unfold numP
  simp only [he]
  have ht : ((55 :: R).drop 0).take (1 - 0) = [55] := by simp
  rw [ht, if_pos (by decide)]
  rfl
theorem deep_law (o : Bool) : ∀ (k deep n f : Nat) (R : List UInt8), 65 ≤ f + deep → deep ≤ 64 → n + k + 1 ≤ 4096 → (∀ c, R.head? = some c → isFig c = false ∧ isWhite c = false) →
    valueP (dText o k ++ R) f deep 0 n = if k + deep ≤ 64 then .ok (dTree o k) (dText o k).length (n + k + 1) else .err 3 ((64 - deep) * (dHead o).length)
  | 0, deep, n, f, R, hf, hd, hn, hR => by
    obtain ⟨j, rfl⟩ : ∃ j, f = j + 1 := ⟨f - 1, by omega⟩
    have hX : dText o 0 ++ R = 55 :: R := rfl
    have hw0 : whiteN (55 :: R) 0 = 0 := endQ_unique 0 0 0 rfl (Nat.zero_le _) (fun i h1 h2 => by omega) (fun d hd => by cases hd; decide)
    have hp0 : peekP (55 :: R) 0 = 55 := rfl
    rw [hX, if_pos (by omega), valueP, hw0, hp0, if_neg (by decide), if_neg (by omega), if_neg (by decide), if_neg (by decide), if_neg (by decide), if_neg (by decide), if_neg (by decide), if_neg (by decide), numP_seven (fun c hc => (hR c hc).1)]
    rfl
  | k + 1, deep, n, f, R, hf, hd, hn, hR => by
    obtain ⟨j, rfl⟩ : ∃ j, f = j + 1 := ⟨f - 1, by omega⟩
    obtain ⟨c, t, hc, hcc⟩ := dText_head o k
    have hcw : isWhite c = false := by rcases hcc with rfl | rfl | rfl <;> decide
    have ih : ∀ n, n + k + 1 ≤ 4096 → deep + 1 ≤ 64 → valueP (dText o k ++ dEnd o :: R) j (deep + 1) 0 n = if k + (deep + 1) ≤ 64 then .ok (dTree o k) (dText o k).length (n + k + 1) else .err 3 ((64 - (deep + 1)) * (dHead o).length) := fun n hn hd1 =>
      deep_law o k (deep + 1) n j (dEnd o :: R) (by omega) hd1 hn (fun c hc => by cases hc; cases o <;> exact ⟨by decide, by decide⟩)
    have hX : dText o (k + 1) ++ R = dHead o ++ (dText o k ++ dEnd o :: R) := by simp [dText]
    rw [hX]
    have hL : (dText o (k + 1)).length = (dHead o).length + ((dText o k).length + 1) := by simp [dText]
    have hend : ∀ p, p = (dHead o).length + (dText o k).length → (dHead o ++ (dText o k ++ dEnd o :: R))[p]? = some (dEnd o) := fun p hp => by
      rw [List.getElem?_append_right (by omega), List.getElem?_append_right (by omega), show p - (dHead o).length - (dText o k).length = 0 by omega]; rfl
    have hwend : ∀ p, p = (dHead o).length + (dText o k).length → whiteN (dHead o ++ (dText o k ++ dEnd o :: R)) p = p := fun p hp =>
      endQ_unique 0 p p rfl (by simp; omega) (fun i h1 h2 => by omega) (fun d hd => by rw [hend p hp] at hd; cases hd; cases o <;> decide)
    have hval : ∀ n, n + k + 1 ≤ 4096 → deep + 1 ≤ 64 → valueP (dHead o ++ (dText o k ++ dEnd o :: R)) j (deep + 1) (dHead o).length n = if k + 1 + deep ≤ 64 then .ok (dTree o k) ((dHead o).length + (dText o k).length) (n + k + 1) else .err 3 ((64 - deep) * (dHead o).length) := fun n hn hd1 => by
      rw [valueP_drop _ _ _ _ _ (by simp), List.drop_left, ih n hn hd1]
      by_cases h64 : k + 1 + deep ≤ 64
      · rw [if_pos h64, if_pos (by omega)]; rfl
      · rw [if_neg h64, if_neg (by omega)]
        show PR.err 3 _ = _
        congr 1
        rw [show 64 - deep = (64 - (deep + 1)) + 1 by omega, Nat.add_mul]
        omega
    have hpe : peekP (dHead o ++ (dText o k ++ dEnd o :: R)) ((dHead o).length + (dText o k).length) = dEnd o := by
      rw [peekP, List.getD_eq_getElem?_getD, hend _ rfl]; rfl
    generalize hXX : dHead o ++ (dText o k ++ dEnd o :: R) = X at *
    cases o with
    | false =>
      have hw0 : whiteN X 0 = 0 := endQ_unique 0 0 0 rfl (Nat.zero_le _) (fun i h1 h2 => by omega) (fun d hd => by rw [← hXX] at hd; cases hd; decide)
      have hp0 : peekP X 0 = 91 := by rw [← hXX]; rfl
      have g1 : X[1]? = some c := by rw [← hXX, hc]; rfl
      have hxl : 1 ≤ X.length := by rw [← hXX]; simp [dHead]
      have hw1 : whiteN X (0 + 1) = 1 := endQ_unique 0 1 1 rfl hxl (fun i h1 h2 => by omega) (fun d hd => by rw [g1] at hd; cases hd; exact hcw)
      have hp1 : peekP X 1 ≠ 93 := by rw [peekP, List.getD_eq_getElem?_getD, g1]; rcases hcc with rfl | rfl | rfl <;> decide
      rw [valueP, hw0, hp0, if_neg (by decide), if_neg (by omega), if_neg (by decide), if_neg (by decide), if_neg (by decide), if_neg (by decide), if_pos rfl]
      by_cases h64 : 64 ≤ deep
      · obtain rfl : deep = 64 := by omega
        rw [if_pos h64, if_neg (by omega)]
        rfl
      · rw [if_neg h64, openP, hw1, if_neg hp1, listP]
        unfold itemA
        have hv := hval (n + 1) (by omega) (by omega)
        rw [show (dHead false).length = 1 from rfl] at hv hwend hend hpe hL ⊢
        rw [hv]
        by_cases h65 : k + 1 + deep ≤ 64
        · rw [if_pos h65, if_pos h65]
          simp only [PR.map]
          rw [hwend _ rfl, if_neg (by rw [hpe]; decide), if_pos (show X[1 + (dText false k).length]? = some 93 from hend _ rfl)]
          simp only [List.nil_append]
          rw [hL]
          show PR.ok (tArr [dTree false k]) _ _ = PR.ok (tArr [dTree false k]) _ _
          congr 1 <;> omega
        · rw [if_neg h65, if_neg h65]; rfl
    | true =>
      have hw0 : whiteN X 0 = 0 := endQ_unique 0 0 0 rfl (Nat.zero_le _) (fun i h1 h2 => by omega) (fun d hd => by rw [← hXX] at hd; cases hd; decide)
      have hp0 : peekP X 0 = 123 := by rw [← hXX]; rfl
      have g1 : X[1]? = some 34 := by rw [← hXX]; rfl
      have hxl : 1 ≤ X.length := by rw [← hXX]; simp [dHead]
      have hw1 : whiteN X (0 + 1) = 1 := endQ_unique 0 1 1 rfl hxl (fun i h1 h2 => by omega) (fun d hd => by rw [g1] at hd; cases hd; decide)
      have hp1 : peekP X 1 ≠ 125 := by rw [peekP, List.getD_eq_getElem?_getD, g1]; decide
      rw [valueP, hw0, hp0, if_neg (by decide), if_neg (by omega), if_neg (by decide), if_neg (by decide), if_neg (by decide), if_neg (by decide), if_neg (by decide), if_pos rfl]
      by_cases h64 : 64 ≤ deep
      · obtain rfl : deep = 64 := by omega
        rw [if_pos h64, if_neg (by omega)]
        rfl
      · have hit := itemO_one (X := X) (val := valueP X j (deep + 1)) (acc := []) (k := 1) (n := n + 1) (c := 97) (Y := dText true k ++ dEnd true :: R) hxl (by rw [← hXX]; rfl) (by decide) (by decide) (by decide) (by decide) rfl
        rw [if_neg h64, openP, hw1, if_neg hp1, listP, hit]
        have hv := hval (n + 1) (by omega) (by omega)
        rw [show (dHead true).length = 5 from rfl] at hv hwend hend hpe hL ⊢
        rw [show 1 + 4 = 5 from rfl, hv]
        by_cases h65 : k + 1 + deep ≤ 64
        · rw [if_pos h65, if_pos h65]
          simp only [PR.map]
          rw [hwend _ rfl, if_neg (by rw [hpe]; decide), if_pos (show X[5 + (dText true k).length]? = some 125 from hend _ rfl)]
          simp only [List.nil_append]
          rw [hL]
          show PR.ok (tObj [([97], dTree true k)]) _ _ = PR.ok (tObj [([97], dTree true k)]) _ _
          congr 1 <;> omega
        · rw [if_neg h65, if_neg h65]; rfl
/-- the law, of the parser's function -/
theorem deeps_law (o : Bool) (k : Nat) (hk : k ≤ 127) : parseP (dText o k) = if k ≤ 64 then (dTree o k, 0, (dText o k).length) else (tNull, 3, 64 * (dHead o).length) := by
  have hl := dText_len o k
  have h5 : (dHead o).length ≤ 5 := by cases o <;> decide
  have hl2 : (dText o k).length ≤ 1000 := by
    rw [hl]
    have : (dHead o).length * k ≤ 5 * k := Nat.mul_le_mul_right _ h5
    omega
  have h := deep_law o k 0 0 65 [] (by omega) (by omega) (by omega) (fun c hc => by cases hc)
  rw [List.append_nil] at h
  have hz : oneP (dText o k) 0 = valueP (dText o k) 65 0 0 0 := by unfold oneP; rw [show clampN (dText o k).length 0 = 0 from by unfold clampN; omega]
  have hw : whiteN (dText o k) (dText o k).length = (dText o k).length := endQ_end rfl
  unfold parseP
  rw [if_neg (by omega), hz, h]
  by_cases h64 : k ≤ 64
  · rw [if_pos (by omega), if_pos h64]
    simp only
    rw [hw, if_neg (by omega)]
  · rw [if_neg (by omega), if_neg h64]
end Go.Proofs.YtckpndbmpigegaaDoor
end
