/- Several texts of this proof in one. -/
import Derived.Test.YtckpndbmpigegaaDoorExW
import Derived.Test.YtckpndbmpigegaaDoorPaS
import Derived.Test.YtckpndbmpigegaaDoorPaZ
import Derived.Test.YtckpndbmpigegaaDoorPaQ
import Derived.Test.YtckpndbmpigegaaDoorUtfO
section
/- value: what stands in a value: inside, Clone. -/
set_option linter.unusedVariables false
set_option linter.unusedSimpArgs false
set_option maxRecDepth 100000
namespace Orange
/-- the values that stand in one -/
def Tree.ins (t : Tree) : List Tree := t.list ++ t.mems.map (·.2)
end Orange
namespace Go.Proofs.YtckpndbmpigegaaDoor
open Go.RowKit Go.Mem Orange
theorem tv_rows {w : World} {A : Nat → Prop} {t : Tree} {k : Int} {b : Bool} {d : Num} {s : List UInt8} {vL vM : Value} (h : TV w A t (cellsV k b d s vL vM)) : ∃ cl cm, TL w A t.list cl ∧ RowAt w A 8 vL t.list.length cl ∧ TM w A t.mems cm ∧ RowAt w A 9 vM t.mems.length cm ∧ k = t.kind ∧ b = t.bit ∧ d.neg = t.num.neg ∧ d.digits = t.num.digits ∧ d.exp = t.num.exp ∧ s = t.str := by
  generalize hc : cellsV k b d s vL vM = c at h
  cases h with
  | mk h1 h2 h3 h4 =>
    simp only [cellsV, Array.mk.injEq, List.cons.injEq, Value.int.injEq, Value.bool.injEq, Value.string.injEq, ByteArray.mk.injEq, and_true, true_and] at hc
    obtain ⟨rfl, rfl, h5, h6, h7, h8, rfl, rfl⟩ := hc
    exact ⟨_, _, h1, h2, h3, h4, rfl, rfl, h5, h6, h7, h8⟩
mutual
theorem TV.one {w : World} {A : Nat → Prop} : ∀ {t : Tree} {c : Array Value}, TV w A t c → ∀ u ∈ c.toList, u.oneCell' = true
  | _, _, .mk h1 h2 h3 h4 => by
    obtain ⟨_, a1, c1, rfl, _⟩ := h2
    obtain ⟨_, a2, c2, rfl, _⟩ := h4
    simp [cellsV, Value.oneCell']
theorem TL.one {w : World} {A : Nat → Prop} : ∀ {l : List Tree} {cs : List Value}, TL w A l cs → ∀ u ∈ cs, u.oneCell' = true
  | _, _, .nil => by simp
  | _, _, .cons h1 h2 => by
    intro u hu
    rcases List.mem_append.1 hu with h | h
    · exact TV.one h1 u h
    · exact TL.one h2 u h
end
/-- a row as what is appended -/
theorem RowAt.src {P : Program} {w : World} {A : Nat → Prop} {z n : Nat} {v : Value} {cs : List Value} (h : RowAt w A z v n cs) {tx e' : TypeId} (hk : P.underlying tx = some (.slice e')) (hz : 0 < z) (h1 : ∀ u ∈ cs, u.oneCell' = true) : Src P z tx v n cs w := by
  obtain ⟨h0, a, cap, rfl, h2, h3, h4⟩ := h
  by_cases hn : 0 < n
  · obtain ⟨g, o, rfl, _, hlt, hc⟩ := h4 hn
    refine Src.ofSlice w hk _ _ cap _ h0 (fun j u hu => ?_) h1
    obtain ⟨hj, rfl⟩ := List.getElem?_eq_some_iff.1 hu
    rw [show (⟨g, o, none⟩ : Addr).add j = ⟨g, o + j, none⟩ by simp only [Addr.add]; split <;> simp_all]
    exact hc j hj
  · obtain rfl : n = 0 := by omega
    obtain rfl : cs = [] := List.eq_nil_of_length_eq_zero (by simpa using h0)
    cases a with
    | none => 
      have := Src.ofNil w (P := P) (size := z) hk cap
      exact this
    | some a => exact Src.ofSlice w hk a 0 cap [] (by simp) (by simp) (by simp)
set_option maxHeartbeats 1600000 in
theorem clone_any (v : Value) (n : Nat) (cs : List Value) (A : Nat → Prop) (w : World) (h : RowAt w A 8 v n cs) (h1 : ∀ u ∈ cs, u.oneCell' = true) (hn : n ≤ 1000000) :
    Calls Tryd.prog 47 #[v] w (fun e w' => ∃ v', e = .returned v' ∧ w'.ownsRow w.heap.size 29 8 v' n cs ∧ Ext w w') := by
  have hq : ∀ (w : World) (a : Option Addr) (n c : Nat), (binOp .eql 26 (.slice a n c) (.slice none 0 0)).run Tryd.prog w = .ok (.bool a.isNone) w := fun w a n c => Lib.run_eql_slice_nil w _ _ a n c 0 0 Tryd.underlying26
  obtain ⟨h0, a, cap, rfl, h2, h3, h4⟩ := id h
  cases a with
  | none =>
    have hn0 : n = 0 := by
      rcases Nat.eq_zero_or_pos n with h' | h'
      · exact h'
      · obtain ⟨g, o, e, _⟩ := h4 h'; cases e
    subst hn0
    obtain rfl : cs = [] := List.eq_nil_of_length_eq_zero (by simpa using h0)
    clear h h4 h0 h1
    go_enter Tryd.func47, Tryd.ntmps47
    go_wp2_with fail
    go_ret
    exact ⟨_, rfl, World.ownsRow_nil _ _ _ _, ext_refl _⟩
  | some a =>
    have HR := Lib.hid h
    have HO := Lib.hid h1
    clear h h4 h0 h1
    go_enter Tryd.func47, Tryd.ntmps47
    have hx : Ext w (w.alloc (.cells #[] 29)) := (ext_refl w).alloc (Nat.le_refl _) _
    have hown : (w.alloc (.cells #[] 29)).ownsRow w.heap.size 29 8 (.slice (some ⟨w.heap.size, 0, none⟩) 0 0) 0 [] :=
      ⟨rfl, .inr ⟨w.heap.size, 0, #[], rfl, Nat.le_refl _, heap_alloc_new _ _, Nat.le_refl _, by simp only [maxLen]; omega, rfl, rfl⟩⟩
    have hsrc := (HR.out.keep (A' := fun _ => True) hx.size (fun g _ hlt => ⟨trivial, hx.block g hlt⟩)).src (P := Tryd.prog) (tx := 26) (e' := 29) (by kernel_rfl) (by decide) HO.out
    go_wp2_with (first
      | (at_builtin; refine wpList_append_src _ rfl _ _ 26 26 rfl w.heap.size 29 _ _ 8 112 (by kernel_rfl) (by rfl) (by rfl) (by rfl) (by kernel_rfl) (by rfl) (by decide) _ 0 [] rfl hown _ n cs rfl hsrc (by simp only [maxLen]; omega) (by omega) hx.size ?_; intro v' w' ho' hg)
      | fail)
    go_ret
    exact ⟨_, rfl, by simpa using ho', hx.trans (Below.ofGrown hg hown hx.size)⟩
/-- a member's nine cells -/
def MAt (w : World) (q : Nat) (c : Array Value) : Prop := w.heap[q]? = some (.cells c 41 (0, 0))
theorem MAt.new (w : World) (c : Array Value) : MAt (w.alloc (.cells c 41)) w.heap.size c := heap_alloc_new _ _
theorem MAt.lt {w : World} {q : Nat} {c : Array Value} (h : MAt w q c) : q < w.heap.size := (Array.getElem?_eq_some_iff.1 h).1
theorem MAt.ext {w w' : World} {q : Nat} {c : Array Value} (h : MAt w q c) (hb : Ext w w') : MAt w' q c := by
  unfold MAt; rw [hb.block _ h.lt]; exact h
theorem MAt.cell {w : World} {q : Nat} {c : Array Value} (h : MAt w q c) (i : Nat) : w.cell? ⟨q, i, none⟩ = c[i]? := cell_of_cells h
theorem TL.appendL {w : World} {A : Nat → Prop} : ∀ {l l' : List Tree} {cs cs' : List Value}, TL w A l cs → TL w A l' cs' → TL w A (l ++ l') (cs ++ cs')
  | _, _, _, _, .nil, h => h
  | _, _, _, _, .cons h1 h2, h => by have := TL.cons h1 (TL.appendL h2 h); simpa using this
theorem ownsRow_ext {w w' : World} {base : Nat} {e : TypeId} {z : Nat} {v : Value} {n : Nat} {cs : List Value} (h : w.ownsRow base e z v n cs) (hb : Ext w w') : w'.ownsRow base e z v n cs := by
  obtain ⟨h1, h2⟩ := h
  refine ⟨h1, ?_⟩
  rcases h2 with h2 | ⟨g, cap, cur, rfl, hbg, hg, r⟩
  · exact .inl h2
  · exact .inr ⟨g, cap, cur, rfl, hbg, by rw [hb.block g (Array.getElem?_eq_some_iff.1 hg).1]; exact hg, r⟩
set_option maxHeartbeats 6400000 in
theorem inside_any (t : Tree) (c : Array Value) (A : Nat → Prop) (w : World) (h : TV w A t c) (hn : t.list.length + t.mems.length ≤ 1000000) :
    Calls Tryd.prog 24 #[.agg c] w (fun e w' => ∃ v cs, e = .returned v ∧ w'.ownsRow w.heap.size 29 8 v t.ins.length cs ∧ TL w' A t.ins cs ∧ Ext w w') := by
  obtain ⟨k, b, d, s, la, ln, lc, ma, mn, mc, rfl⟩ := h.eight
  obtain ⟨cl, cm, htl, hrl, htm, hrm, -⟩ := tv_rows h
  obtain ⟨tk, tb, tn, ts, L, M⟩ := t
  simp only [Tree.list, Tree.mems] at htl hrl htm hrm hn
  have hins : (Tree.mk tk tb tn ts L M).ins = L ++ M.map (·.2) := rfl
  rw [hins]
  have hlen : (L ++ M.map (·.2)).length = L.length + M.length := by simp
  rw [hlen]
  obtain ⟨_, a1, c1, ea, -⟩ := id hrl
  simp only [Value.slice.injEq] at ea
  obtain ⟨rfl, rfl, rfl⟩ := ea
  obtain ⟨_, a2, c2, ea, hm1, hm2, -⟩ := id hrm
  simp only [Value.slice.injEq] at ea
  obtain ⟨rfl, rfl, rfl⟩ := ea
  have hv := VAt.new w (cellsV k b d s (.slice la L.length lc) (.slice ma M.length mc))
  have hx : Ext w (w.alloc (.cells (cellsV k b d s (.slice la L.length lc) (.slice ma M.length mc)) 29)) := (ext_refl w).alloc (Nat.le_refl _) _
  simp only [cellsV] at hv hx ⊢
  clear hins hlen h
  go_enter Tryd.func24, Tryd.ntmps24
  go_upto_region 1 with fail
  generalize w.alloc (.cells #[.int .i64 k, .bool b, .bool d.neg, .string ⟨d.digits.toArray⟩, .int .i64 d.exp, .string ⟨s.toArray⟩, .slice la L.length lc, .slice ma M.length mc] 29) = w1 at *
  obtain ⟨S, hS⟩ : ∃ S, w.heap.size = S := ⟨_, rfl⟩
  have HTM := Lib.hid (htm.keep (w' := w1) (A' := fun g => A g ∧ g < S) hx.size (fun g hg hlt => ⟨⟨hg, by omega⟩, hx.block g hlt⟩))
  have HRM := Lib.hid (hrm.keep (w' := w1) (A' := fun g => A g ∧ g < S) hx.size (fun g hg hlt => ⟨⟨hg, by omega⟩, hx.block g hlt⟩))
  have HTL := Lib.hid (htl.keep (w' := w1) (A' := fun g => A g ∧ g < S) hx.size (fun g hg hlt => ⟨⟨hg, by omega⟩, hx.block g hlt⟩))
  have HRL := Lib.hid (hrl.keep (w' := w1) (A' := fun g => A g ∧ g < S) hx.size (fun g hg hlt => ⟨⟨hg, by omega⟩, hx.block g hlt⟩))
  have HE := Lib.hid hx
  rw [hS] at hv ⊢
  have HV := Lib.hid hv
  have HS := Lib.hid hS
  clear htm hrm htl hrl hx hS
  have c6 := HV.out.cell 6; have c7 := HV.out.cell 7
  simp at c6 c7
  clear hv
  go_wp2_with fail
  refine (clone_any _ L.length cl _ w1 HRL.out HTL.out.one (by omega)).mono ?_
  rintro e w2 ⟨v2, rfl, hown2, hw2⟩
  have hbase : S ≤ w1.heap.size := by rw [← HS.out]; exact HE.out.size
  have hown2' : w2.ownsRow S 29 8 v2 L.length cl := by
    obtain ⟨h1, h2⟩ := hown2
    refine ⟨h1, ?_⟩
    rcases h2 with h2 | ⟨g, cap, cur, e1, hbg, r⟩
    · exact .inl h2
    · exact .inr ⟨g, cap, cur, e1, Nat.le_trans hbase hbg, r⟩
  clear hown2 c6 c7
  replace HV := Lib.hid (HV.out.ext hw2)
  have c7 := HV.out.cell 7
  simp at c7
  go_wp2_with fail
  clear c7
  have hbel2 : Below S w1 w2 := hw2.mono hbase
  go_loopw [3, 12] (fun v iv wr => ∃ (i : Nat) (cs : List Value), iv = .int .i64 i ∧ i ≤ M.length ∧ wr.ownsRow S 29 8 v (L.length + i) cs ∧ TL wr (fun g => A g ∧ g < S) (L ++ (M.take i).map (·.2)) cs ∧ Below S w1 wr) (fun _ iv _ => 2000000 - (intOf iv).toNat)
  case atStart => exact ⟨0, cl, rfl, by omega, hown2', by simpa using HTL.out.keep (A' := fun g => A g ∧ g < S) hbel2.size (fun g hg hlt => ⟨hg, hbel2.block g hg.2⟩), hbel2⟩
  case round =>
    obtain ⟨i, cs, rfl, hi, hown, htl, hE⟩ := hrel
    rename_i vo _
    have HO := Lib.hid hown
    have HT := Lib.hid htl
    have HX := Lib.hid hE
    clear hown htl hE
    by_cases hlt : i < M.length
    · have hlti : (i : Int) < M.length := by omega
      have hi0 : (0 : Int) ≤ i := by omega
      obtain ⟨x, htx, hkx, hcx⟩ := HTM.out.at i hlt
      obtain ⟨_, a', c', e', _, _, hrow⟩ := HRM.out
      simp only [Value.slice.injEq] at e'
      obtain ⟨rfl, -, rfl⟩ := e'
      obtain ⟨g, o, rfl, hgS, hgl, hgc0⟩ := hrow (by omega)
      have hgc : ∀ j u, cm[j]? = some u → w1.cell? ⟨g, o + j, none⟩ = some u := fun j u hu => by
        obtain ⟨hj, rfl⟩ := List.getElem?_eq_some_iff.1 hu
        exact hgc0 j hj
      obtain ⟨xk, xb, xd, xs, xa1, xn1, xc1, xa2, xn2, xc2, rfl⟩ := htx.eight
      have h9 : wr.cell? ⟨g, o + i * 9, none⟩ = some (.string ⟨M[i].1.toArray⟩) ∧ ∀ j, j < 8 → wr.cell? ⟨g, o + i * 9 + (j + 1), none⟩ = (cellsV xk xb xd xs (.slice xa1 xn1 xc1) (.slice xa2 xn2 xc2))[j]? := by
        refine ⟨by rw [HX.out.cell (p := ⟨g, o + i * 9, none⟩) hgS.2]; exact hgc _ _ hkx, fun j hj => ?_⟩
        rw [Nat.add_assoc, HX.out.cell (p := ⟨g, o + (i * 9 + (j + 1)), none⟩) hgS.2]
        have h1 := hcx j hj
        rw [show i * 9 + 1 + j = i * 9 + (j + 1) by omega] at h1
        have h2 : (cellsV xk xb xd xs (.slice xa1 xn1 xc1) (.slice xa2 xn2 xc2))[j]? = some (cellsV xk xb xd xs (.slice xa1 xn1 xc1) (.slice xa2 xn2 xc2))[j] := by simp [cellsV, hj]
        rw [h2]
        exact hgc _ _ (h1.trans h2)
      obtain ⟨x0, hx8⟩ := h9
      have x1 := hx8 0 (by omega); have x2 := hx8 1 (by omega); have x3 := hx8 2 (by omega); have x4 := hx8 3 (by omega); have x5 := hx8 4 (by omega); have x6 := hx8 5 (by omega); have x7 := hx8 6 (by omega); have x8 := hx8 7 (by omega)
      simp [cellsV] at x1 x2 x3 x4 x5 x6 x7 x8
      clear hx8 hcx hkx hgc hgc0 hgl hgS hrow
      obtain ⟨ky, hky⟩ : ∃ ky, M[i].1 = ky := ⟨_, rfl⟩
      rw [hky] at x0
      have HTX := Lib.hid (htx.keep (w' := wr) (A' := fun g => A g ∧ g < S) HX.out.size (fun g hg hlt => ⟨hg, HX.out.block g hg.2⟩))
      clear htx hky
      have hm9 := MAt.new wr #[.string ⟨ky.toArray⟩, .int .i64 xk, .bool xb, .bool xd.neg, .string ⟨xd.digits.toArray⟩, .int .i64 xd.exp, .string ⟨xs.toArray⟩, .slice xa1 xn1 xc1, .slice xa2 xn2 xc2]
      have hx3 : Ext wr (wr.alloc (.cells #[.string ⟨ky.toArray⟩, .int .i64 xk, .bool xb, .bool xd.neg, .string ⟨xd.digits.toArray⟩, .int .i64 xd.exp, .string ⟨xs.toArray⟩, .slice xa1 xn1 xc1, .slice xa2 xn2 xc2] 41)) := (ext_refl wr).alloc (Nat.le_refl _) _
      obtain ⟨P, hP⟩ : ∃ P, wr.heap.size = P := ⟨_, rfl⟩
      rw [hP] at hm9
      go_upto_region 5 with fail
      clear x0 x1 x2 x3 x4 x5 x6 x7 x8 hP
      generalize wr.alloc (.cells #[.string ⟨ky.toArray⟩, .int .i64 xk, .bool xb, .bool xd.neg, .string ⟨xd.digits.toArray⟩, .int .i64 xd.exp, .string ⟨xs.toArray⟩, .slice xa1 xn1 xc1, .slice xa2 xn2 xc2] 41) = w3 at *
      have x1 := hm9.cell 1; have x2 := hm9.cell 2; have x3 := hm9.cell 3; have x4 := hm9.cell 4; have x5 := hm9.cell 5; have x6 := hm9.cell 6; have x7 := hm9.cell 7; have x8 := hm9.cell 8
      simp at x1 x2 x3 x4 x5 x6 x7 x8
      have hx4 : Ext w3 (w3.alloc (.cells #[.int .i64 xk, .bool xb, .bool xd.neg, .string ⟨xd.digits.toArray⟩, .int .i64 xd.exp, .string ⟨xs.toArray⟩, .slice xa1 xn1 xc1, .slice xa2 xn2 xc2] 29)) := (ext_refl w3).alloc (Nat.le_refl _) _
      have hown4 := ownsRow_ext HO.out (ext_trans hx3 hx4)
      have hsS : S ≤ wr.heap.size := Nat.le_trans hbase HX.out.size
      have hs4 : S ≤ (w3.alloc (.cells #[.int .i64 xk, .bool xb, .bool xd.neg, .string ⟨xd.digits.toArray⟩, .int .i64 xd.exp, .string ⟨xs.toArray⟩, .slice xa1 xn1 xc1, .slice xa2 xn2 xc2] 29)).heap.size := Nat.le_trans hsS (ext_trans hx3 hx4).size
      have hsrc := src_one (P := Tryd.prog) (tx := 26) (e' := 29) (by kernel_rfl) (heap_alloc_new w3 (.cells #[.int .i64 xk, .bool xb, .bool xd.neg, .string ⟨xd.digits.toArray⟩, .int .i64 xd.exp, .string ⟨xs.toArray⟩, .slice xa1 xn1 xc1, .slice xa2 xn2 xc2] 29)) rfl (by simp [Value.oneCell'])
      have hE4 := (ext_trans hx3 hx4).mono hsS
      go_wp2_with (first
        | (at_builtin; refine wpList_append_src _ rfl _ _ 26 26 rfl S 29 _ _ 8 112 (by kernel_rfl) (by rfl) (by rfl) (by rfl) (by kernel_rfl) (by rfl) (by decide) _ (L.length + i) cs rfl hown4 _ 1 _ rfl hsrc (by simp only [maxLen]; omega) (by omega) hs4 ?_; intro v' w' ho' hg; have hb5 := hE4.trans (Below.ofGrown hg hown4 hs4); clear x1 x2 x3 x4 x5 x6 x7 x8 hx3 hx4 hm9 hown4 hsrc hg)
        | fail)
      have e9 : IntKind.i64.wrap ((i : Int) + 1) = ((i + 1 : Nat) : Int) := by rw [IntWalk.i64_in _ (by omega)]; omega
      go_roundw
      case rel =>
        refine ⟨i + 1, _, by go_num, by omega, ho', ?_, HX.out.trans hb5⟩
        have h1 := (HT.out.keep (A' := fun g => A g ∧ g < S) hb5.size (fun g hg hlt => ⟨hg, hb5.block g hg.2⟩)).append (HTX.out.keep (A' := fun g => A g ∧ g < S) hb5.size (fun g hg hlt => ⟨hg, hb5.block g hg.2⟩))
        rw [show L ++ (M.take (i + 1)).map (·.2) = (L ++ (M.take i).map (·.2)) ++ [M[i].2] by rw [List.take_add_one, List.getElem?_eq_getElem hlt]; simp only [Option.toList_some, List.map_append, List.map_cons, List.map_nil, List.append_assoc]]
        exact h1
      case measure => simp [intOf]; omega
    · obtain rfl : i = M.length := by omega
      have hnlt : ¬ ((M.length : Int) < (M.length : Int)) := by omega
      go_wp2_with fail
      go_ret
      refine ⟨_, rfl, cs, by rw [HS.out]; exact HO.out, ?_, HE.out.trans (HX.out.mono (by rw [HS.out]; exact Nat.le_refl _))⟩
      have h1 := HT.out.keep (A' := A) (Nat.le_refl _) (fun g hg hlt => ⟨hg.1, rfl⟩)
      rwa [List.take_length] at h1
end Go.Proofs.YtckpndbmpigegaaDoor
end

section
/- value: how deep a value is. -/
set_option linter.unusedVariables false
set_option linter.unusedSimpArgs false
set_option maxRecDepth 100000
namespace Orange
mutual
def depthT : Tree → Nat
  | .mk _ _ _ _ l m => max (depthL l) (depthM m) + 1
def depthL : List Tree → Nat
  | [] => 0
  | t :: l => max (depthT t) (depthL l)
def depthM : List (List UInt8 × Tree) → Nat
  | [] => 0
  | (_, t) :: l => max (depthT t) (depthM l)
end
mutual
def countT : Tree → Nat
  | .mk _ _ _ _ l m => countL l + countM m + 1
def countL : List Tree → Nat
  | [] => 0
  | t :: l => countT t + countL l
def countM : List (List UInt8 × Tree) → Nat
  | [] => 0
  | (_, t) :: l => countT t + countM l
end
theorem depthL_append : ∀ (l l' : List Tree), depthL (l ++ l') = max (depthL l) (depthL l')
  | [], l' => by rw [List.nil_append, depthL]; omega
  | t :: l, l' => by rw [List.cons_append, depthL, depthL, depthL_append l l']; omega
theorem countL_append : ∀ (l l' : List Tree), countL (l ++ l') = countL l + countL l'
  | [], l' => by rw [List.nil_append, countL]; omega
  | t :: l, l' => by rw [List.cons_append, countL, countL, countL_append l l']; omega
theorem depthM_map : ∀ m : List (List UInt8 × Tree), depthM m = depthL (m.map (·.2))
  | [] => by rw [depthM, List.map_nil, depthL]
  | (k, t) :: m => by rw [depthM, List.map_cons, depthL, depthM_map m]
theorem countM_map : ∀ m : List (List UInt8 × Tree), countM m = countL (m.map (·.2))
  | [] => by rw [countM, List.map_nil, countL]
  | (k, t) :: m => by rw [countM, List.map_cons, countL, countM_map m]
theorem depthT_ins (t : Tree) : depthT t = depthL t.ins + 1 := by
  cases t with
  | mk k b d s l m => rw [depthT, depthM_map]; show _ = depthL (l ++ m.map (·.2)) + 1; rw [depthL_append]
theorem countT_ins (t : Tree) : countT t = countL t.ins + 1 := by
  cases t with
  | mk k b d s l m => rw [countT, countM_map]; show _ = countL (l ++ m.map (·.2)) + 1; rw [countL_append]
theorem countT_pos (t : Tree) : 1 ≤ countT t := by rw [countT_ins]; omega
theorem countL_len : ∀ l : List Tree, l.length ≤ countL l
  | [] => by simp
  | t :: l => by have := countL_len l; have := countT_pos t; rw [countL, List.length_cons]; omega
theorem countL_mem {l : List Tree} {i : Nat} (h : i < l.length) : countT l[i] ≤ countL l := by
  have := countL_append (l.take i) (l.drop i)
  rw [List.take_append_drop] at this
  rw [this, List.drop_eq_getElem_cons h, countL]
  omega
mutual
theorem depth_count : ∀ t : Tree, depthT t ≤ countT t
  | .mk k b d s l m => by rw [depthT, countT]; have := depthL_count l; have := depthM_count m; omega
theorem depthL_count : ∀ l : List Tree, depthL l ≤ countL l
  | [] => by rw [depthL, countL]; omega
  | t :: l => by rw [depthL, countL]; have := depth_count t; have := depthL_count l; omega
theorem depthM_count : ∀ l : List (List UInt8 × Tree), depthM l ≤ countM l
  | [] => by rw [depthM, countM]; omega
  | (_, t) :: l => by rw [depthM, countM]; have := depth_count t; have := depthM_count l; omega
end
theorem depthL_take (l : List Tree) (i : Nat) (h : i < l.length) : depthL (l.take (i + 1)) = max (depthL (l.take i)) (depthT l[i]) := by
  rw [List.take_add_one, List.getElem?_eq_getElem h, Option.toList_some, depthL_append, depthL, depthL]
  omega
theorem countL_take (l : List Tree) (i : Nat) (h : i < l.length) : countL (l.take (i + 1)) = countL (l.take i) + countT l[i] := by
  rw [List.take_add_one, List.getElem?_eq_getElem h, Option.toList_some, countL_append, countL, countL]
  omega
theorem countL_take_le (l : List Tree) (i : Nat) : countL (l.take i) ≤ countL l := by
  have := countL_append (l.take i) (l.drop i)
  rw [List.take_append_drop] at this
  omega
theorem ins_size {t x : Tree} (h : x ∈ t.ins) : SizeOf.sizeOf x < SizeOf.sizeOf t := by
  cases t with
  | mk k b d s l m =>
    have h : x ∈ l ++ m.map (·.2) := h
    rw [List.mem_append] at h
    simp only [Tree.mk.sizeOf_spec]
    rcases h with h | h
    · have := List.sizeOf_lt_of_mem h; omega
    · obtain ⟨p, hp, rfl⟩ := List.mem_map.1 h
      have h1 := List.sizeOf_lt_of_mem hp
      cases p
      simp only [Prod.mk.sizeOf_spec] at h1 ⊢
      omega
theorem ins_len (t : Tree) : t.ins.length = t.list.length + t.mems.length := by simp [Tree.ins]
end Orange
namespace Go.Proofs.YtckpndbmpigegaaDoor
open Go.RowKit Go.Mem Orange
/-- an element of a row of values, in any world in which its block is as it was -/
theorem row_elem {w : World} {A : Nat → Prop} {a : Option Addr} {n m cap : Nat} {l : List Tree} {cs : List Value} (hr : RowAt w A 8 (.slice a m cap) n cs) (ht : TL w A l cs) (hl : n = l.length) (i : Nat) (hi : i < l.length) :
    ∃ g o k b d s a1 n1 c1 a2 n2 c2, a = some ⟨g, o, none⟩ ∧ TV w A l[i] (cellsV k b d s (.slice a1 n1 c1) (.slice a2 n2 c2)) ∧ ∀ w' : World, (∀ g, A g → g < w.heap.size → w'.heap[g]? = w.heap[g]?) →
      w'.cell? ⟨g, o + i * 8, none⟩ = some (.int .i64 k) ∧ w'.cell? ⟨g, o + i * 8 + 1, none⟩ = some (.bool b) ∧ w'.cell? ⟨g, o + i * 8 + 2, none⟩ = some (.bool d.neg) ∧ w'.cell? ⟨g, o + i * 8 + 3, none⟩ = some (.string ⟨d.digits.toArray⟩) ∧
      w'.cell? ⟨g, o + i * 8 + 4, none⟩ = some (.int .i64 d.exp) ∧ w'.cell? ⟨g, o + i * 8 + 5, none⟩ = some (.string ⟨s.toArray⟩) ∧ w'.cell? ⟨g, o + i * 8 + 6, none⟩ = some (.slice a1 n1 c1) ∧ w'.cell? ⟨g, o + i * 8 + 7, none⟩ = some (.slice a2 n2 c2) := by
  obtain ⟨c, h1, h2⟩ := ht.at i hi
  obtain ⟨h0, a', c', e, _, _, hrow⟩ := hr
  simp only [Value.slice.injEq] at e
  obtain ⟨rfl, -, rfl⟩ := e
  obtain ⟨g, o, rfl, hA, hg, hc0⟩ := hrow (by omega)
  obtain ⟨k, b, d, s, a1, n1, c1, a2, n2, c2, rfl⟩ := h1.eight
  have key : ∀ w' : World, (∀ g, A g → g < w.heap.size → w'.heap[g]? = w.heap[g]?) → ∀ j, j < 8 → ∀ u, (cellsV k b d s (.slice a1 n1 c1) (.slice a2 n2 c2))[j]? = some u → w'.cell? ⟨g, o + (i * 8 + j), none⟩ = some u := fun w' hw j hj u hu => by
    rw [World.cell?_of_block (w := w) (a := ⟨g, o + (i * 8 + j), none⟩) (hw g hA hg)]
    obtain ⟨hj2, e2⟩ := List.getElem?_eq_some_iff.1 ((h2 j hj).trans hu)
    rw [← e2]
    exact hc0 _ hj2
  refine ⟨g, o, k, b, d, s, a1, n1, c1, a2, n2, c2, rfl, h1, fun w' hw => ?_⟩
  simp only [Nat.add_assoc]
  exact ⟨key w' hw 0 (by omega) _ rfl, key w' hw 1 (by omega) _ rfl, key w' hw 2 (by omega) _ rfl, key w' hw 3 (by omega) _ rfl, key w' hw 4 (by omega) _ rfl, key w' hw 5 (by omega) _ rfl, key w' hw 6 (by omega) _ rfl, key w' hw 7 (by omega) _ rfl⟩
theorem ownsRow_shape {w : World} {base : Nat} {e : TypeId} {z : Nat} {v : Value} {n : Nat} {cs : List Value} (h : w.ownsRow base e z v n cs) : ∃ a c, v = .slice a n c := by
  rcases h.2 with ⟨rfl, h0⟩ | ⟨g, cap, cur, rfl, _⟩
  · exact ⟨_, _, by rw [h0]⟩
  · exact ⟨_, _, rfl⟩
set_option maxHeartbeats 6400000 in
theorem depth_step (N : Nat) (ih : ∀ (t : Tree) (A : Nat → Prop) (c : Array Value) (w : World), SizeOf.sizeOf t < N → countT t ≤ 1000000 → TV w A t c →
    Calls Tryd.prog 18 #[.agg c] w (fun e w' => e = .returned (.int .i64 (depthT t : Nat)) ∧ Ext w w')) :
    ∀ (t : Tree) (A : Nat → Prop) (c : Array Value) (w : World), SizeOf.sizeOf t < N + 1 → countT t ≤ 1000000 → TV w A t c →
    Calls Tryd.prog 18 #[.agg c] w (fun e w' => e = .returned (.int .i64 (depthT t : Nat)) ∧ Ext w w') := by
  intro t A c w hN hct h
  have IH := Lib.hid ih
  clear ih
  obtain ⟨D, hD⟩ : ∃ D, depthT t = D := ⟨_, rfl⟩
  rw [hD]
  have HD0 := Lib.hid hD
  clear hD
  obtain ⟨k, b, d, s, la, ln, lc, ma, mn, mc, rfl⟩ := h.eight
  have hv := VAt.new w (cellsV k b d s (.slice la ln lc) (.slice ma mn mc))
  have hx : Ext w (w.alloc (.cells (cellsV k b d s (.slice la ln lc) (.slice ma mn mc)) 29)) := (ext_refl w).alloc (Nat.le_refl _) _
  simp only [cellsV] at hv hx ⊢
  go_enter Tryd.func18, Tryd.ntmps18
  go_upto_region 2 with fail
  generalize w.alloc (.cells #[.int .i64 k, .bool b, .bool d.neg, .string ⟨d.digits.toArray⟩, .int .i64 d.exp, .string ⟨s.toArray⟩, .slice la ln lc, .slice ma mn mc] 29) = w1 at *
  have HT := Lib.hid (h.keep (w' := w1) (A' := fun _ => True) hx.size (fun g _ hlt => ⟨trivial, hx.block g hlt⟩))
  obtain ⟨S, hS⟩ : ∃ S, w.heap.size = S := ⟨_, rfl⟩
  rw [hS] at hv ⊢
  have HE := Lib.hid hx
  have HCT := Lib.hid hct
  have hcl := countT_ins t
  have hll := countL_len t.ins
  have hil := ins_len t
  have hcb : t.list.length + t.mems.length ≤ 1000000 := by omega
  have HCB : Hid (t.ins.length ≤ 1000000) := Lib.hid (by omega)
  have c0 := hv.cell 0; have c1 := hv.cell 1; have c2 := hv.cell 2; have c3 := hv.cell 3; have c4 := hv.cell 4; have c5 := hv.cell 5; have c6 := hv.cell 6; have c7 := hv.cell 7
  simp at c0 c1 c2 c3 c4 c5 c6 c7
  clear h hx hS hv hct
  go_wp2_with fail
  refine (inside_any t _ _ w1 HT.out hcb).mono ?_
  rintro e w2 ⟨v2, cs, rfl, hown, htl, hw2⟩
  obtain ⟨a2, cc2, rfl⟩ := ownsRow_shape hown
  have HR := Lib.hid (RowAt.own hown (by decide) (A := fun _ => True) (fun _ _ _ _ => trivial))
  have HTL := Lib.hid htl
  have HL := HCB
  have HEW := Lib.hid (ext_trans HE.out hw2)
  have HN : Hid (∀ i (hi : i < t.ins.length), SizeOf.sizeOf t.ins[i] < N ∧ countT t.ins[i] ≤ 1000000) := Lib.hid (fun i hi => ⟨by have := ins_size (List.getElem_mem hi); omega, by have := countL_mem hi; have := HCT.out; omega⟩)
  have HD : Hid (D = depthL t.ins + 1 ∧ depthL t.ins ≤ 1000000) := Lib.hid ⟨by rw [← HD0.out]; exact depthT_ins t, by have := depthL_count t.ins; have := HCT.out; omega⟩
  clear hown htl hcl hll hil c0 c1 c2 c3 c4 c5 c6 c7 hN HCT HT HE hw2 hcb HD0 HCB
  generalize t.ins = l at *
  have HPOST := HD
  go_wp2_with fail
  go_loopw [3, 9] (fun nv iv wr => ∃ i : Nat, iv = .int .i64 i ∧ i ≤ l.length ∧ nv = .int .i64 (depthL (l.take i) : Nat) ∧ Ext w2 wr) (fun _ iv _ => 2000000 - (intOf iv).toNat)
  case atStart => exact ⟨0, rfl, by omega, by rw [List.take_zero, depthL]; rfl, ext_refl _⟩
  case round =>
    obtain ⟨i, rfl, hi, rfl, hE⟩ := hrel
    have HX := Lib.hid hE
    clear hE
    have hll := HL.out
    by_cases hlt : i < l.length
    · have hlti : (i : Int) < l.length := by omega
      have hi0 : (0 : Int) ≤ i := by omega
      obtain ⟨g, o, xk, xb, xd, xs, xa1, xn1, xc1, xa2, xn2, xc2, rfl, htx, hcell⟩ := row_elem HR.out HTL.out rfl i hlt
      obtain ⟨x0, x1, x2, x3, x4, x5, x6, x7⟩ := hcell wr (fun g _ hg => HX.out.block g hg)
      have HTX := Lib.hid (htx.keep (w' := wr) (A' := fun _ => True) HX.out.size (fun g _ hlt => ⟨trivial, HX.out.block g hlt⟩))
      have HNI := Lib.hid (HN.out i hlt)
      have HTK := Lib.hid (depthL_take l i hlt)
      have HDB : Hid (depthL (l.take i) ≤ 1000000 ∧ depthT l[i] ≤ 1000000) := Lib.hid (by
        have h1 := HD.out.2
        have h2 := depthL_append (l.take i) (l.drop i)
        rw [List.take_append_drop, List.drop_eq_getElem_cons hlt, depthL] at h2
        omega)
      clear htx hcell
      generalize l[i] = x at *
      have hv3 := VAt.new wr #[.int .i64 xk, .bool xb, .bool xd.neg, .string ⟨xd.digits.toArray⟩, .int .i64 xd.exp, .string ⟨xs.toArray⟩, .slice xa1 xn1 xc1, .slice xa2 xn2 xc2]
      have hx3 : Ext wr (wr.alloc (.cells #[.int .i64 xk, .bool xb, .bool xd.neg, .string ⟨xd.digits.toArray⟩, .int .i64 xd.exp, .string ⟨xs.toArray⟩, .slice xa1 xn1 xc1, .slice xa2 xn2 xc2] 29)) := (ext_refl wr).alloc (Nat.le_refl _) _
      obtain ⟨P, hP⟩ : ∃ P, wr.heap.size = P := ⟨_, rfl⟩
      rw [hP] at hv3
      go_upto_region 5 with fail
      clear x0 x1 x2 x3 x4 x5 x6 x7 hP
      generalize wr.alloc (.cells #[.int .i64 xk, .bool xb, .bool xd.neg, .string ⟨xd.digits.toArray⟩, .int .i64 xd.exp, .string ⟨xs.toArray⟩, .slice xa1 xn1 xc1, .slice xa2 xn2 xc2] 29) = w3 at *
      have c0 := hv3.cell 0; have c1 := hv3.cell 1; have c2 := hv3.cell 2; have c3 := hv3.cell 3; have c4 := hv3.cell 4; have c5 := hv3.cell 5; have c6 := hv3.cell 6; have c7 := hv3.cell 7
      simp at c0 c1 c2 c3 c4 c5 c6 c7
      clear hv3
      have HX3 := Lib.hid hx3
      clear hx3
      have hdb1 := HDB.out.1
      have hdb2 := HDB.out.2
      have e9 : IntKind.i64.wrap ((i : Int) + 1) = ((i + 1 : Nat) : Int) := by rw [IntWalk.i64_in _ (by omega)]; omega
      go_wp2_with fail
      refine (IH.out x _ _ w3 HNI.out.1 HNI.out.2 (HTX.out.keep (A' := fun _ => True) HX3.out.size (fun g _ hlt => ⟨trivial, HX3.out.block g hlt⟩))).mono ?_
      rintro e w4 ⟨rfl, hw4⟩
      have HE4 := Lib.hid (ext_trans HX.out (ext_trans HX3.out hw4))
      clear hw4 c0 c1 c2 c3 c4 c5 c6 c7
      go_wp2_with fail
      go_roundw
      case rel => exact ⟨i + 1, by go_num, by omega, by rw [HTK.out]; first | rfl | (congr 1; omega), HE4.out⟩
      case measure => simp [intOf]; omega
    · obtain rfl : i = l.length := by omega
      have hnlt : ¬ ((l.length : Int) < (l.length : Int)) := by omega
      have hdb := HD.out.2
      rw [List.take_length]
      have e9 : IntKind.i64.wrap ((depthL l : Int) + 1) = ((depthL l + 1 : Nat) : Int) := by rw [IntWalk.i64_in _ (by omega)]; omega
      go_wp2_with fail
      go_ret
      exact ⟨ret_int (by rw [HPOST.out.1]; omega), ext_trans HEW.out HX.out⟩
theorem depth_any (t : Tree) (A : Nat → Prop) (c : Array Value) (w : World) (hct : countT t ≤ 1000000) (h : TV w A t c) :
    Calls Tryd.prog 18 #[.agg c] w (fun e w' => e = .returned (.int .i64 (depthT t : Nat)) ∧ Ext w w') := by
  have key : ∀ N : Nat, ∀ (t : Tree) (A : Nat → Prop) (c : Array Value) (w : World), SizeOf.sizeOf t < N → countT t ≤ 1000000 → TV w A t c →
      Calls Tryd.prog 18 #[.agg c] w (fun e w' => e = .returned (.int .i64 (depthT t : Nat)) ∧ Ext w w') := by
    intro N
    induction N with
    | zero => intro t A c w h; omega
    | succ N ih => exact depth_step N ih
  exact key _ t A c w (Nat.lt_succ_self _) hct h
end Go.Proofs.YtckpndbmpigegaaDoor
end

section
/- value: which values may be: the parts (fields, twice). -/
set_option linter.unusedVariables false
set_option linter.unusedSimpArgs false
set_option maxRecDepth 100000
namespace Orange
/-- the place of the first one for which something is so -/
def fIdx {α : Type} (p : α → Bool) (l : List α) : Int := match l.findIdx? p with | some i => i | none => -1
theorem fIdx_hit {α : Type} {p : α → Bool} {l : List α} {i : Nat} (hi : i < l.length) (h1 : ∀ j (hj : j < i), p (l[j]'(by omega)) = false) (h2 : p l[i] = true) : fIdx p l = i := by
  unfold fIdx
  have : l.findIdx? p = some i := by
    rw [List.findIdx?_eq_some_iff_getElem]
    exact ⟨hi, h2, fun j hj => by simpa using h1 j hj⟩
  rw [this]
theorem fIdx_none {α : Type} {p : α → Bool} {l : List α} (h : ∀ j (hj : j < l.length), p l[j] = false) : fIdx p l = -1 := by
  unfold fIdx
  have : l.findIdx? p = none := by
    rw [List.findIdx?_eq_none_iff]
    intro x hx
    obtain ⟨j, hj, rfl⟩ := List.mem_iff_getElem.1 hx
    exact h j hj
  rw [this]
theorem fIdx_any {α : Type} (p : α → Bool) (l : List α) : decide (fIdx p l ≥ 0) = l.any p := by
  unfold fIdx
  cases h : l.findIdx? p with
  | none =>
    rw [List.findIdx?_eq_none_iff] at h
    have : l.any p = false := by rw [List.any_eq_false]; intro x hx; simp [h x hx]
    rw [this]; decide
  | some i =>
    rw [List.findIdx?_eq_some_iff_getElem] at h
    obtain ⟨hi, h2, _⟩ := h
    have : l.any p = true := List.any_eq_true.2 ⟨_, List.getElem_mem hi, h2⟩
    rw [this]; simp
mutual
/-- how much a value holds -/
def weightT : Tree → Nat
  | .mk _ _ d s l m => 1 + s.length + d.digits.length + weightL l + weightM m
def weightL : List Tree → Nat
  | [] => 0
  | t :: l => weightT t + weightL l
def weightM : List (List UInt8 × Tree) → Nat
  | [] => 0
  | (k, t) :: l => k.length + weightT t + weightM l
end
mutual
theorem count_weight : ∀ t : Tree, countT t ≤ weightT t
  | .mk k b d s l m => by rw [countT, weightT]; have := countL_weight l; have := countM_weight m; omega
theorem countL_weight : ∀ l : List Tree, countL l ≤ weightL l
  | [] => by rw [countL, weightL]; omega
  | t :: l => by rw [countL, weightL]; have := count_weight t; have := countL_weight l; omega
theorem countM_weight : ∀ l : List (List UInt8 × Tree), countM l ≤ weightM l
  | [] => by rw [countM, weightM]; omega
  | (_, t) :: l => by rw [countM, weightM]; have := count_weight t; have := countM_weight l; omega
end
theorem weightM_mem {l : List (List UInt8 × Tree)} {i : Nat} (h : i < l.length) : l[i].1.length ≤ weightM l ∧ weightT l[i].2 ≤ weightM l := by
  have : ∀ (l : List (List UInt8 × Tree)) (p : List UInt8 × Tree), p ∈ l → p.1.length ≤ weightM l ∧ weightT p.2 ≤ weightM l := by
    intro l
    induction l with
    | nil => intro p hp; cases hp
    | cons a l ih =>
      intro p hp
      obtain ⟨k, t⟩ := a
      rw [weightM]
      rcases List.mem_cons.1 hp with rfl | hp
      · exact ⟨by simp; omega, by simp; omega⟩
      · have := ih p hp; omega
  exact this l _ (List.getElem_mem h)
theorem weightL_mem {l : List Tree} {i : Nat} (h : i < l.length) : weightT l[i] ≤ weightL l := by
  have : ∀ (l : List Tree) (p : Tree), p ∈ l → weightT p ≤ weightL l := by
    intro l
    induction l with
    | nil => intro p hp; cases hp
    | cons a l ih =>
      intro p hp
      rw [weightL]
      rcases List.mem_cons.1 hp with rfl | hp
      · omega
      · have := ih p hp; omega
  exact this l _ (List.getElem_mem h)
theorem weight_ins {t : Tree} {i : Nat} (h : i < t.ins.length) : weightT t.ins[i] ≤ weightT t := by
  cases t with
  | mk k b d s l m =>
    have hm : (Tree.mk k b d s l m).ins[i] ∈ l ++ m.map (·.2) := List.getElem_mem h
    generalize (Tree.mk k b d s l m).ins[i] = x at hm
    rw [weightT]
    rcases List.mem_append.1 hm with hm | hm
    · obtain ⟨j, hj, rfl⟩ := List.mem_iff_getElem.1 hm
      have := weightL_mem hj; omega
    · obtain ⟨p, hp, rfl⟩ := List.mem_map.1 hm
      obtain ⟨j, hj, rfl⟩ := List.mem_iff_getElem.1 hp
      have := weightM_mem hj; omega
theorem countM_len (l : List (List UInt8 × Tree)) : l.length ≤ countM l := by
  rw [countM_map]; have := countL_len (l.map (·.2)); simpa using this
end Orange
namespace Go.Proofs.YtckpndbmpigegaaDoor
open Go.RowKit Go.Mem Orange
/-- an element of a row of members, in any world in which its block is as it was -/
theorem mem_elem {w : World} {A : Nat → Prop} {a : Option Addr} {n m cap : Nat} {l : List (List UInt8 × Tree)} {cs : List Value} (hr : RowAt w A 9 (.slice a m cap) n cs) (ht : TM w A l cs) (hl : n = l.length) (i : Nat) (hi : i < l.length) :
    ∃ g o k b d s a1 n1 c1 a2 n2 c2, a = some ⟨g, o, none⟩ ∧ TV w A l[i].2 (cellsV k b d s (.slice a1 n1 c1) (.slice a2 n2 c2)) ∧ ∀ w' : World, (∀ g, A g → g < w.heap.size → w'.heap[g]? = w.heap[g]?) →
      w'.cell? ⟨g, o + i * 9, none⟩ = some (.string ⟨l[i].1.toArray⟩) ∧ w'.cell? ⟨g, o + i * 9 + 1, none⟩ = some (.int .i64 k) ∧ w'.cell? ⟨g, o + i * 9 + 2, none⟩ = some (.bool b) ∧ w'.cell? ⟨g, o + i * 9 + 3, none⟩ = some (.bool d.neg) ∧ w'.cell? ⟨g, o + i * 9 + 4, none⟩ = some (.string ⟨d.digits.toArray⟩) ∧
      w'.cell? ⟨g, o + i * 9 + 5, none⟩ = some (.int .i64 d.exp) ∧ w'.cell? ⟨g, o + i * 9 + 6, none⟩ = some (.string ⟨s.toArray⟩) ∧ w'.cell? ⟨g, o + i * 9 + 7, none⟩ = some (.slice a1 n1 c1) ∧ w'.cell? ⟨g, o + i * 9 + 8, none⟩ = some (.slice a2 n2 c2) := by
  obtain ⟨c, h1, hk, h2⟩ := ht.at i hi
  obtain ⟨h0, a', c', e, _, _, hrow⟩ := hr
  simp only [Value.slice.injEq] at e
  obtain ⟨rfl, -, rfl⟩ := e
  obtain ⟨g, o, rfl, hA, hg, hc0⟩ := hrow (by omega)
  have hc : ∀ j u, cs[j]? = some u → w.cell? ⟨g, o + j, none⟩ = some u := fun j u hu => by
    obtain ⟨hj, rfl⟩ := List.getElem?_eq_some_iff.1 hu
    exact hc0 j hj
  obtain ⟨k, b, d, s, a1, n1, c1, a2, n2, c2, rfl⟩ := h1.eight
  have key : ∀ w' : World, (∀ g, A g → g < w.heap.size → w'.heap[g]? = w.heap[g]?) → ∀ j, j < 8 → ∀ u, (cellsV k b d s (.slice a1 n1 c1) (.slice a2 n2 c2))[j]? = some u → w'.cell? ⟨g, o + (i * 9 + (1 + j)), none⟩ = some u := fun w' hw j hj u hu => by
    rw [World.cell?_of_block (w := w) (a := ⟨g, o + (i * 9 + (1 + j)), none⟩) (hw g hA hg), show i * 9 + (1 + j) = i * 9 + 1 + j by omega]
    exact hc _ _ ((h2 j hj).trans hu)
  refine ⟨g, o, k, b, d, s, a1, n1, c1, a2, n2, c2, rfl, h1, fun w' hw => ?_⟩
  simp only [Nat.add_assoc]
  exact ⟨by rw [World.cell?_of_block (w := w) (a := ⟨g, o + i * 9, none⟩) (hw g hA hg)]; exact hc _ _ hk, key w' hw 0 (by omega) _ rfl, key w' hw 1 (by omega) _ rfl, key w' hw 2 (by omega) _ rfl, key w' hw 3 (by omega) _ rfl, key w' hw 4 (by omega) _ rfl, key w' hw 5 (by omega) _ rfl, key w' hw 6 (by omega) _ rfl, key w' hw 7 (by omega) _ rfl⟩
set_option maxHeartbeats 1600000 in
theorem keybad_any (k : List UInt8) (x1 x2 x3 x4 x5 x6 x7 x8 : Value) (w : World) (hk : k.length ≤ 1000000) :
    Calls Tryd.prog 70 #[.agg #[.string ⟨k.toArray⟩, x1, x2, x3, x4, x5, x6, x7, x8]] w (fun e w' => e = .returned (.bool (decide (0 ≤ check k))) ∧ Ext w w') := by
  have hm := MAt.new w #[.string ⟨k.toArray⟩, x1, x2, x3, x4, x5, x6, x7, x8]
  have hx : Ext w (w.alloc (.cells #[.string ⟨k.toArray⟩, x1, x2, x3, x4, x5, x6, x7, x8] 41)) := (ext_refl w).alloc (Nat.le_refl _) _
  obtain ⟨K, hK⟩ : ∃ K, check k = K := ⟨_, rfl⟩
  rw [hK]
  have HK := Lib.hid hK
  clear hK
  go_enter Tryd.func70, Tryd.ntmps70
  go_upto_region 1 with fail
  generalize w.alloc (.cells #[.string ⟨k.toArray⟩, x1, x2, x3, x4, x5, x6, x7, x8] 41) = w1 at *
  have x0 := hm.cell 0
  simp at x0
  have hs : (ByteArray.mk k.toArray).size ≤ 140737488355328 := by show k.toArray.size ≤ _; simp; omega
  have hsz : (ByteArray.mk k.toArray).size = k.length := by show k.toArray.size = _; simp
  obtain ⟨S, hS⟩ : ∃ S, w.heap.size = S := ⟨_, rfl⟩
  rw [hS] at x0 ⊢
  clear hm hS
  have HSZ := Lib.hid hsz
  clear hsz
  go_wp2_with (first
    | (refine wpList_bytes_of_string w1 rfl 9 22 5 _ rfl ⟨k.toArray⟩ rfl Tryd.underlying9 Tryd.underlying22 Tryd.underlying5 hs ?_; intro capA wA hEA hcapA hcmA hszA hatA; rw [HSZ.out] at hcapA)
    | fail)
  refine (check_any _ k _ (Bytes.mk hatA (by first | rfl | exact HSZ.out) (by simpa using hcapA) hcmA (by omega))).mono ?_
  rintro e w3 ⟨rfl, hw3⟩
  rw [HK.out]
  have HE := Lib.hid (ext_trans hx (ext_trans hEA hw3))
  clear hx hEA hw3 hatA x0
  go_wp2_with fail
  go_ret
  exact ⟨ret_bool (by first | rfl | (congr 1; done) | simp), HE.out⟩
def badKey (p : List UInt8 × Tree) : Bool := decide (0 ≤ check p.1)
set_option maxHeartbeats 1600000 in
theorem index_bad (v : Value) (m : List (List UInt8 × Tree)) (cs : List Value) (A : Nat → Prop) (w : World) (hr : RowAt w A 9 v m.length cs) (ht : TM w A m cs) (hm : m.length ≤ 1000000) (hk : ∀ p ∈ m, p.1.length ≤ 1000000) :
    Calls Tryd.prog 92 #[v, .func (.func 70) #[] #[]] w (fun e w' => e = .returned (.int .i64 (fIdx badKey m)) ∧ Ext w w') := by
  obtain ⟨_, a, cap, rfl, hcap, hcm, -⟩ := id hr
  have HR := Lib.hid hr
  have HT := Lib.hid ht
  have HK := Lib.hid hk
  clear hr ht hk
  obtain ⟨R, hR⟩ : ∃ R, fIdx badKey m = R := ⟨_, rfl⟩
  rw [hR]
  have HRR := Lib.hid hR
  clear hR
  go_enter Tryd.func92, Tryd.ntmps92
  go_wp2_with fail
  go_loopw [8] (fun iv wr => ∃ i : Nat, iv = .int .i64 i ∧ i ≤ m.length ∧ (∀ j (hj : j < m.length), j < i → badKey m[j] = false) ∧ Ext w wr) (fun iv _ => 2000000 - (intOf iv).toNat)
  case atStart => exact ⟨0, rfl, by omega, fun j _ h => by omega, ext_refl _⟩
  case round =>
    obtain ⟨i, rfl, hi, hall, hE⟩ := hrel
    have HA := Lib.hid hall
    have HX := Lib.hid hE
    clear hall hE
    by_cases hlt : i < m.length
    · have hlti : (i : Int) < m.length := by omega
      have hi0 : (0 : Int) ≤ i := by omega
      obtain ⟨g, o, xk, xb, xd, xs, xa1, xn1, xc1, xa2, xn2, xc2, rfl, htx, hcell⟩ := mem_elem HR.out HT.out rfl i hlt
      obtain ⟨x0, x1, x2, x3, x4, x5, x6, x7, x8⟩ := hcell wr (fun g _ hg => HX.out.block g hg)
      have HKI := Lib.hid (HK.out m[i] (List.getElem_mem hlt))
      have HHIT : Hid (badKey m[i] = true → R = i) := Lib.hid (fun h => by rw [← HRR.out]; exact fIdx_hit hlt (fun j hj => HA.out j (by omega) hj) h)
      have HMISS : Hid (badKey m[i] = false → ∀ j (hj : j < m.length), j < i + 1 → badKey m[j] = false) := Lib.hid (fun h j hj hji => by
        by_cases e : j = i
        · subst e; exact h
        · exact HA.out j hj (by omega))
      obtain ⟨B, hB⟩ : ∃ B, badKey m[i] = B := ⟨_, rfl⟩
      rw [hB] at HHIT HMISS
      have HB := Lib.hid hB
      obtain ⟨ky, hky⟩ : ∃ ky, m[i].1 = ky := ⟨_, rfl⟩
      rw [hky] at x0 HKI
      have HKY := Lib.hid hky
      clear htx hcell hB hky
      have e9 : IntKind.i64.wrap ((i : Int) + 1) = ((i + 1 : Nat) : Int) := by rw [IntWalk.i64_in _ (by omega)]; omega
      go_wp2_with fail
      refine (keybad_any ky _ _ _ _ _ _ _ _ wr HKI.out).mono ?_
      rintro e w4 ⟨rfl, hw4⟩
      rw [show decide (0 ≤ check ky) = B from by rw [← HB.out, ← HKY.out]; rfl]
      have HE4 := Lib.hid (ext_trans HX.out hw4)
      clear hw4 x0 x1 x2 x3 x4 x5 x6 x7 x8
      cases B with
      | true =>
        go_wp2_with fail
        go_ret
        exact ⟨ret_int (HHIT.out (by first | rfl | trivial)).symm, HE4.out⟩
      | false =>
        go_wp2_with fail
        go_roundw
        case rel => exact ⟨i + 1, by go_num, by omega, HMISS.out (by first | rfl | trivial), HE4.out⟩
        case measure => simp [intOf]; omega
    · obtain rfl : i = m.length := by omega
      have hnlt : ¬ ((m.length : Int) < (m.length : Int)) := by omega
      have HF : Hid (R = -1) := Lib.hid (by rw [← HRR.out]; exact fIdx_none (fun j hj => HA.out j hj hj))
      go_wp2_with fail
      go_ret
      exact ⟨ret_int HF.out.symm, HX.out⟩
set_option maxHeartbeats 1600000 in
theorem contains_bad (v : Value) (m : List (List UInt8 × Tree)) (cs : List Value) (A : Nat → Prop) (w : World) (hr : RowAt w A 9 v m.length cs) (ht : TM w A m cs) (hm : m.length ≤ 1000000) (hk : ∀ p ∈ m, p.1.length ≤ 1000000) :
    Calls Tryd.prog 69 #[v, .func (.func 70) #[] #[]] w (fun e w' => e = .returned (.bool (m.any badKey)) ∧ Ext w w') := by
  have hany := fIdx_any badKey m
  have HC := Lib.hid (index_bad v m cs A w hr ht hm hk)
  obtain ⟨_, a, cap, rfl, hcap, hcm, -⟩ := id hr
  obtain ⟨R, hR⟩ : ∃ R, fIdx badKey m = R := ⟨_, rfl⟩
  obtain ⟨B, hB⟩ : ∃ B, m.any badKey = B := ⟨_, rfl⟩
  have hc := HC.out
  rw [hR] at hany hc
  rw [hB] at hany ⊢
  replace HC := Lib.hid hc
  have HANY := Lib.hid hany
  clear hr ht hk hc hR hB hany
  go_enter Tryd.func69, Tryd.ntmps69
  go_wp2_with fail
  refine (HC.out).mono ?_
  rintro e w2 ⟨rfl, hw2⟩
  go_wp2_with fail
  go_ret
  exact ⟨ret_bool (by rw [← HANY.out]), hw2⟩
/-- have two one key? -/
def twiceK : List (List UInt8) → Bool
  | [] => false
  | k :: l => l.contains k || twiceK l
def twiceP : List (List UInt8) → List (List UInt8) → Bool
  | _, [] => false
  | met, k :: l => met.contains k || twiceP (k :: met) l
set_option maxHeartbeats 6400000 in
theorem twice_any (v : Value) (m : List (List UInt8 × Tree)) (cs : List Value) (A : Nat → Prop) (w : World) (hr : RowAt w A 9 v m.length cs) (ht : TM w A m cs) (hm : m.length ≤ 1000000) (hk : ∀ p ∈ m, p.1.length ≤ 1000000) :
    Calls Tryd.prog 49 #[v] w (fun e w' => e = .returned (.bool (twiceP [] (m.map (·.1)))) ∧ Ext w w') := by
  obtain ⟨_, a, cap, rfl, hcap, hcm, -⟩ := id hr
  have hmm := @run_makeMap Tryd.prog
  have hx : Ext w (w.alloc (.map #[] 0)) := (ext_refl w).alloc (Nat.le_refl _) _
  obtain ⟨S, hS⟩ : ∃ S, w.heap.size = S := ⟨_, rfl⟩
  have HS := Lib.hid hS
  have HR := Lib.hid (hr.keep (w' := w.alloc (.map #[] 0)) (A' := fun g => g < S) hx.size (fun g _ hlt => ⟨by omega, hx.block g hlt⟩))
  have HT := Lib.hid (ht.keep (w' := w.alloc (.map #[] 0)) (A' := fun g => g < S) hx.size (fun g _ hlt => ⟨by omega, hx.block g hlt⟩))
  have HK := Lib.hid hk
  clear hr ht hk hS
  obtain ⟨R, hR⟩ : ∃ R, twiceP [] (m.map (·.1)) = R := ⟨_, rfl⟩
  rw [hR]
  have HRR := Lib.hid hR
  clear hR
  have hs0 := SetAt.new w
  rw [HS.out] at hs0
  go_enter Tryd.func49, Tryd.ntmps49
  go_upto_region 2 with fail
  rw [HS.out]
  generalize w.alloc (.map #[] 0) = w1 at *
  have HSA := Lib.hid hs0
  have HE := Lib.hid hx
  clear hs0 hx hmm
  go_wp2_with fail
  go_loopw [9] (fun iv wr => ∃ (i : Nat) (ks : List (List UInt8)), iv = .int .i64 i ∧ i ≤ m.length ∧ ks.length ≤ i ∧ SetAt wr S ks ∧ twiceP ks ((m.drop i).map (·.1)) = R ∧ Below S w1 wr) (fun iv _ => 2000000 - (intOf iv).toNat)
  case atStart => exact ⟨0, [], rfl, by omega, by simp, HSA.out, by rw [List.drop_zero]; exact HRR.out, Below.refl _ _⟩
  case round =>
    obtain ⟨i, ks, rfl, hi, hkl, hset, htw, hE⟩ := hrel
    have HX := Lib.hid hE
    have HSE := Lib.hid hset
    have HTW := Lib.hid htw
    clear hE hset htw
    by_cases hlt : i < m.length
    · have hlti : (i : Int) < m.length := by omega
      have hi0 : (0 : Int) ≤ i := by omega
      obtain ⟨g, o, xk, xb, xd, xs, xa1, xn1, xc1, xa2, xn2, xc2, rfl, htx, hcell⟩ := mem_elem HR.out HT.out rfl i hlt
      obtain ⟨x0, x1, x2, x3, x4, x5, x6, x7, x8⟩ := hcell wr (fun g hg _ => HX.out.block g hg)
      have hki := HK.out m[i] (List.getElem_mem hlt)
      have htw := HTW.out
      rw [List.drop_eq_getElem_cons hlt, List.map_cons, twiceP] at htw
      obtain ⟨ky, hky⟩ : ∃ ky, m[i].1 = ky := ⟨_, rfl⟩
      rw [hky] at x0 hki htw
      replace HTW := Lib.hid htw
      clear htx hcell hky htw
      have hm9 := MAt.new wr #[.string ⟨ky.toArray⟩, .int .i64 xk, .bool xb, .bool xd.neg, .string ⟨xd.digits.toArray⟩, .int .i64 xd.exp, .string ⟨xs.toArray⟩, .slice xa1 xn1 xc1, .slice xa2 xn2 xc2]
      have hx3 : Ext wr (wr.alloc (.cells #[.string ⟨ky.toArray⟩, .int .i64 xk, .bool xb, .bool xd.neg, .string ⟨xd.digits.toArray⟩, .int .i64 xd.exp, .string ⟨xs.toArray⟩, .slice xa1 xn1 xc1, .slice xa2 xn2 xc2] 41)) := (ext_refl wr).alloc (Nat.le_refl _) _
      obtain ⟨P, hP⟩ : ∃ P, wr.heap.size = P := ⟨_, rfl⟩
      have hSP : S < P := by rw [← hP]; exact HSE.out.lt
      rw [hP] at hm9
      go_upto_region 5 with fail
      clear x0 x1 x2 x3 x4 x5 x6 x7 x8 hP
      generalize wr.alloc (.cells #[.string ⟨ky.toArray⟩, .int .i64 xk, .bool xb, .bool xd.neg, .string ⟨xd.digits.toArray⟩, .int .i64 xd.exp, .string ⟨xs.toArray⟩, .slice xa1 xn1 xc1, .slice xa2 xn2 xc2] 41) = w3 at *
      have hs3 := HSE.out.same (w' := w3) (hx3.block _ HSE.out.lt)
      have x0 := hm9.cell 0
      simp at x0
      have hkm : ky.length ≤ maxLen := by simp only [maxLen]; omega
      have hlk := hs3.look ky hkm
      have hb3 : Below S w1 w3 := HX.out.trans (hx3.mono (by have := HSE.out.lt; omega))
      by_cases hc : ks.contains ky = true
      · rw [hc] at hlk
        have HF : Hid (R = true) := Lib.hid (by rw [← HTW.out, hc]; rfl)
        have HB3 := Lib.hid hb3
        clear hb3 hx3 hm9 hs3
        go_wp2_with fail
        go_ret
        exact ⟨ret_bool HF.out.symm, HE.out.trans (HB3.out.mono (by rw [HS.out]; exact Nat.le_refl _))⟩
      · have hcf : ks.contains ky = false := by simpa using hc
        rw [hcf] at hlk
        obtain ⟨w4, hup, hs4, hg4⟩ := hs3.put ky hkm (by simp only [maxLen]; omega)
        have HF : Hid (twiceP (ky :: ks) ((m.drop (i + 1)).map (·.1)) = R) := Lib.hid (by rw [← HTW.out, hcf, Bool.false_or])
        have hb4 : Below S w3 w4 := ⟨hg4.1, hg4.2, hg4.3, hg4.4, fun k hk => hg4.5 k (Nat.lt_of_lt_of_le hk (by have := hs3.lt; omega)) (by simp; omega)⟩
        have HB4 := Lib.hid (hb3.trans hb4)
        have HS4 := Lib.hid hs4
        have e9 : IntKind.i64.wrap ((i : Int) + 1) = ((i + 1 : Nat) : Int) := by rw [IntWalk.i64_in _ (by omega)]; omega
        clear hc hb4 hb3 hx3 hm9 hs3 hs4 hg4
        go_wp2_with fail
        go_roundw
        case rel => exact ⟨i + 1, ky :: ks, by go_num, by omega, by simp; omega, HS4.out, HF.out, HB4.out⟩
        case measure => simp [intOf]; omega
    · obtain rfl : i = m.length := by omega
      have hnlt : ¬ ((m.length : Int) < (m.length : Int)) := by omega
      have HF : Hid (R = false) := Lib.hid (by rw [← HTW.out, List.drop_length]; rfl)
      go_wp2_with fail
      go_ret
      exact ⟨ret_bool HF.out.symm, HE.out.trans (HX.out.mono (by rw [HS.out]; exact Nat.le_refl _))⟩
/-- has a value its own kind's fields alone, and may they be? -/
def fieldsT (t : Tree) : Bool :=
  match t with
  | .mk k b d s l m =>
    (if k = 0 then true else if k = 1 then true else if k = 2 then sane d else if k = 3 then decide (check s < 0) else if k = 4 then true else if k = 5 then !(m.any badKey) else false) &&
    (decide (k = 1) || !b) && (decide (k = 2) || decide (d = Num.zero)) && (decide (k = 3) || s.isEmpty) && ((decide (k = 4) || l.isEmpty) && (decide (k = 5) || m.isEmpty))
theorem eql_num (a b : Num) (w : World) : (binOp .eql 25 (.agg #[.bool a.neg, .string ⟨a.digits.toArray⟩, .int .i64 a.exp]) (.agg #[.bool b.neg, .string ⟨b.digits.toArray⟩, .int .i64 b.exp])).run Tryd.prog w = .ok (.bool (decide (a = b))) w := by
  obtain ⟨a3, a4, a5⟩ := a
  obtain ⟨b3, b4, b5⟩ := b
  simp only [Num.mk.injEq]
  by_cases h3 : a3 = b3
  · by_cases h4 : a4 = b4
    · by_cases h5 : a5 = b5
      · subst h3; subst h4; subst h5
        go_simp
      · have q5 : (a5 == b5) = false := by simpa using h5
        subst h3; subst h4
        go_simp
    · have q4 : (a4 == b4) = false := by simpa using h4
      subst h3
      go_simp
  · have q3 : (a3 == b3) = false := by simpa using h3
    go_simp
theorem VAt.set1 {w : World} {q : Nat} {c : Array Value} (h : VAt w q c) (i : Nat) (u : Value) : VAt (w.setCell ⟨q, i, none⟩ u) q (c.setIfInBounds i u) := setCell_heap_self h
theorem VAt.oth {w : World} {q p i : Nat} {u : Value} {c : Array Value} (h : VAt w q c) (hq : q ≠ p) : VAt (w.setCell ⟨p, i, none⟩ u) q c := by
  unfold VAt; rw [Below.heap_setCell _ _ _ _ hq]; exact h
theorem two_zero {α β : Type} [DecidableEq α] [DecidableEq β] (L : List α) (M : List β) : (((L.length : Int) + (M.length : Int)) == 0) = (L.isEmpty && M.isEmpty) := by
  cases L <;> cases M <;> simp <;> omega
set_option maxHeartbeats 6400000 in
theorem fields_any (t : Tree) (c : Array Value) (A : Nat → Prop) (w : World) (h : TV w A t c) (hw : weightT t ≤ 1000000) :
    Calls Tryd.prog 48 #[.agg c] w (fun e w' => e = .returned (.bool (fieldsT t)) ∧ Ext w w') := by
  obtain ⟨k, b, d, s, la, ln, lc, ma, mn, mc, rfl⟩ := h.eight
  obtain ⟨cl, cm, -, hrl, htm, hrm, hk, hb, hd1, hd2, hd3, hs⟩ := tv_rows h
  obtain ⟨tk, tb, tn, ts, L, M⟩ := t
  obtain ⟨tn1, tn2, tn3⟩ := tn
  obtain ⟨dn1, dn2, dn3⟩ := d
  simp only [Tree.kind, Tree.bit, Tree.num, Tree.str, Tree.list, Tree.mems] at hk hb hd1 hd2 hd3 hs hrl htm hrm
  subst hk hb hd1 hd2 hd3 hs
  obtain ⟨_, a1, c1, ea, -⟩ := id hrl
  simp only [Value.slice.injEq] at ea
  obtain ⟨rfl, rfl, rfl⟩ := ea
  obtain ⟨_, a2, c2, ea, -⟩ := id hrm
  simp only [Value.slice.injEq] at ea
  obtain ⟨rfl, rfl, rfl⟩ := ea
  rw [weightT] at hw
  have hcm := countM_len M
  have hcw := countM_weight M
  have hlw := countL_weight L
  have hll := countL_len L
  have hMl : M.length ≤ 1000000 := by omega
  have hLl : L.length ≤ 1000000 := by omega
  have hsl : s.length ≤ 1000000 := by omega
  have hdl : dn2.length ≤ 1000000 := by simp at hw; omega
  have HKS : Hid (∀ p ∈ M, p.1.length ≤ 1000000) := Lib.hid (fun p hp => by obtain ⟨j, hj, rfl⟩ := List.mem_iff_getElem.1 hp; have := weightM_mem hj; omega)
  clear hw hcm hcw hlw hll h
  obtain ⟨R, hR⟩ : ∃ R, fieldsT (.mk k b ⟨dn1, dn2, dn3⟩ s L M) = R := ⟨_, rfl⟩
  rw [hR]
  rw [fieldsT] at hR
  have HRR := Lib.hid hR
  clear hR
  have hq := fun (w : World) => eql_num ⟨dn1, dn2, dn3⟩ Num.zero w
  obtain ⟨Z, hZ⟩ : ∃ Z, decide ((⟨dn1, dn2, dn3⟩ : Num) = Num.zero) = Z := ⟨_, rfl⟩
  have hrr := HRR.out
  rw [hZ] at hrr
  simp only [hZ] at hq
  replace HRR := Lib.hid hrr
  clear hrr hZ
  simp only [Num.zero] at hq
  have hv := VAt.new w (cellsV k b ⟨dn1, dn2, dn3⟩ s (.slice la L.length lc) (.slice ma M.length mc))
  have hx : Ext w (w.alloc (.cells (cellsV k b ⟨dn1, dn2, dn3⟩ s (.slice la L.length lc) (.slice ma M.length mc)) 29)) := (ext_refl w).alloc (Nat.le_refl _) _
  simp only [cellsV] at hv hx ⊢
  go_enter Tryd.func48, Tryd.ntmps48
  go_upto_region 1 with fail
  obtain ⟨S, hS⟩ : ∃ S, w.heap.size = S := ⟨_, rfl⟩
  rw [hS] at hv ⊢
  have hsz : (w.alloc (.cells #[.int .i64 k, .bool b, .bool dn1, .string ⟨dn2.toArray⟩, .int .i64 dn3, .string ⟨s.toArray⟩, .slice la L.length lc, .slice ma M.length mc] 29)).heap.size = S + 1 := by rw [← hS]; simp
  generalize w.alloc (.cells #[.int .i64 k, .bool b, .bool dn1, .string ⟨dn2.toArray⟩, .int .i64 dn3, .string ⟨s.toArray⟩, .slice la L.length lc, .slice ma M.length mc] 29) = w1 at *
  have c0 := hv.cell 0; have c1 := hv.cell 1; have c2 := hv.cell 2; have c3 := hv.cell 3; have c4 := hv.cell 4; have c5 := hv.cell 5; have c6 := hv.cell 6; have c7 := hv.cell 7
  simp at c0 c1 c2 c3 c4 c5 c6 c7
  have hv2 := VAt.new w1 #[.int .i64 k, .bool b, .bool dn1, .string ⟨dn2.toArray⟩, .int .i64 dn3, .string ⟨s.toArray⟩, .slice la L.length lc, .slice ma M.length mc]
  have hx2 : Ext w1 (w1.alloc (.cells #[.int .i64 k, .bool b, .bool dn1, .string ⟨dn2.toArray⟩, .int .i64 dn3, .string ⟨s.toArray⟩, .slice la L.length lc, .slice ma M.length mc] 29)) := (ext_refl w1).alloc (Nat.le_refl _) _
  rw [hsz] at hv2
  have hv1 := hv.ext hx2
  go_upto_region 2 with fail
  generalize w1.alloc (.cells #[.int .i64 k, .bool b, .bool dn1, .string ⟨dn2.toArray⟩, .int .i64 dn3, .string ⟨s.toArray⟩, .slice la L.length lc, .slice ma M.length mc] 29) = w2 at *
  have HE := Lib.hid (ext_trans hx hx2)
  have HTM := Lib.hid (htm.keep (w' := w2) (A' := fun g => g < S) HE.out.size (fun g _ hlt => ⟨by omega, HE.out.block g hlt⟩))
  have HRM := Lib.hid (hrm.keep (w' := w2) (A' := fun g => g < S) HE.out.size (fun g _ hlt => ⟨by omega, HE.out.block g hlt⟩))
  have HV1 := Lib.hid hv1
  have HV2 := Lib.hid hv2
  have HS := Lib.hid hS
  clear hv hv1 hv2 hx hx2 hrl htm hrm hsz hS c0 c1 c2 c3 c4 c5 c6 c7
  have e6 : IntKind.i64.wrap ((L.length : Int) + (M.length : Int)) = ((L.length + M.length : Nat) : Int) := by rw [IntWalk.i64_in _ (by omega)]; omega
  have hem : (((L.length : Int) + (M.length : Int)) == 0) = (L.isEmpty && M.isEmpty) := by cases L <;> cases M <;> simp <;> omega
  by_cases h0 : k = 0
  · subst h0
    have HR0 : Hid (R = (!b && Z && s.isEmpty && (L.isEmpty && M.isEmpty))) := Lib.hid (by rw [← HRR.out]; simp)
    have c0 := HV1.out.cell 0
    simp at c0
    have c1 := HV2.out.cell 1; have c2 := HV2.out.cell 2; have c3 := HV2.out.cell 3; have c4 := HV2.out.cell 4; have c5 := HV2.out.cell 5; have c6 := HV2.out.cell 6; have c7 := HV2.out.cell 7
    simp at c1 c2 c3 c4 c5 c6 c7
    cases b with
    | true =>
      have HF : Hid (R = false) := Lib.hid (by rw [HR0.out]; simp)
      go_wp2_with fail
      go_ret
      exact ⟨ret_bool HF.out.symm, HE.out⟩
    | false =>
      cases Z with
      | false =>
        have HF : Hid (R = false) := Lib.hid (by rw [HR0.out]; simp)
        go_wp2_with fail
        go_ret
        exact ⟨ret_bool HF.out.symm, HE.out⟩
      | true =>
        cases s with
        | cons x s =>
          have HF : Hid (R = false) := Lib.hid (by rw [HR0.out]; simp)
          go_wp2_with fail
          go_ret
          exact ⟨ret_bool HF.out.symm, HE.out⟩
        | nil =>
          go_wp2_with fail
          go_ret
          exact ⟨ret_bool (by rw [HR0.out]; simp), HE.out⟩
  by_cases h1 : k = 1
  · subst h1
    have HR0 : Hid (R = (Z && s.isEmpty && (L.isEmpty && M.isEmpty))) := Lib.hid (by rw [← HRR.out]; simp)
    have c0 := HV1.out.cell 0
    simp at c0
    have f1 := HV2.out.free 1
    have c1 := HV2.out.cell 1
    simp at c1
    go_upto_region 19 with fail
    replace HE := Lib.hid (HE.out.setCell (p := ⟨S + 1, 1, none⟩) (show w.heap.size ≤ S + 1 by rw [HS.out]; omega) (.bool false))
    have hv2 := HV2.out.set1 1 (.bool false)
    clear c0 c1 f1 HV1 HTM HRM HV2
    generalize w2.setCell ⟨S + 1, 1, none⟩ (.bool false) = w3 at *
    have HV2 : Hid (VAt w3 (S + 1) #[.int .i64 1, .bool false, .bool dn1, .string ⟨dn2.toArray⟩, .int .i64 dn3, .string ⟨s.toArray⟩, .slice la L.length lc, .slice ma M.length mc]) := Lib.hid hv2
    clear hv2
    have c1 := HV2.out.cell 1; have c2 := HV2.out.cell 2; have c3 := HV2.out.cell 3; have c4 := HV2.out.cell 4; have c5 := HV2.out.cell 5; have c6 := HV2.out.cell 6; have c7 := HV2.out.cell 7
    simp at c1 c2 c3 c4 c5 c6 c7
    cases Z with
    | false =>
      have HF : Hid (R = false) := Lib.hid (by rw [HR0.out]; simp)
      go_wp2_with fail
      go_ret
      exact ⟨ret_bool HF.out.symm, HE.out⟩
    | true =>
      cases s with
      | cons x s =>
        have HF : Hid (R = false) := Lib.hid (by rw [HR0.out]; simp)
        go_wp2_with fail
        go_ret
        exact ⟨ret_bool HF.out.symm, HE.out⟩
      | nil =>
        go_wp2_with fail
        go_ret
        exact ⟨ret_bool (by rw [HR0.out]; simp), HE.out⟩
  by_cases h2 : k = 2
  · subst h2
    have HR0 : Hid (R = (sane ⟨dn1, dn2, dn3⟩ && !b && s.isEmpty && (L.isEmpty && M.isEmpty))) := Lib.hid (by rw [← HRR.out]; simp)
    have c0 := HV1.out.cell 0
    simp at c0
    have f2 := HV2.out.free 2; have f3 := HV2.out.free 3; have f4 := HV2.out.free 4
    have c2 := HV2.out.cell 2; have c3 := HV2.out.cell 3; have c4 := HV2.out.cell 4
    simp at c2 c3 c4
    go_upto_region 10 with fail
    replace HE := Lib.hid (((HE.out.setCell (p := ⟨S + 1, 2, none⟩) (show w.heap.size ≤ S + 1 by rw [HS.out]; omega) (.bool false)).setCell (p := ⟨S + 1, 3, none⟩) (show w.heap.size ≤ S + 1 by rw [HS.out]; omega) (.string ⟨#[]⟩)).setCell (p := ⟨S + 1, 4, none⟩) (show w.heap.size ≤ S + 1 by rw [HS.out]; omega) (.int .i64 0))
    have hv2 := ((HV2.out.set1 2 (.bool false)).set1 3 (.string ⟨#[]⟩)).set1 4 (.int .i64 0)
    have hv1 := ((HV1.out.oth (p := S + 1) (i := 2) (u := .bool false) (by omega)).oth (p := S + 1) (i := 3) (u := .string ⟨#[]⟩) (by omega)).oth (p := S + 1) (i := 4) (u := .int .i64 0) (by omega)
    clear c0 c2 c3 c4 f2 f3 f4 HV1 HTM HRM HV2
    generalize ((w2.setCell ⟨S + 1, 2, none⟩ (.bool false)).setCell ⟨S + 1, 3, none⟩ (.string ⟨#[]⟩)).setCell ⟨S + 1, 4, none⟩ (.int .i64 0) = w3 at *
    have HV2 : Hid (VAt w3 (S + 1) #[.int .i64 2, .bool b, .bool false, .string ⟨#[]⟩, .int .i64 0, .string ⟨s.toArray⟩, .slice la L.length lc, .slice ma M.length mc]) := Lib.hid hv2
    have d2 := hv1.cell 2; have d3 := hv1.cell 3; have d4 := hv1.cell 4
    simp at d2 d3 d4
    clear hv1 hv2
    go_wp2_with fail
    refine (sane_any ⟨dn1, dn2, dn3⟩ w3 (by simp; omega)).mono ?_
    rintro e w4 ⟨rfl, hw4⟩
    obtain ⟨B, hB⟩ : ∃ B, sane ⟨dn1, dn2, dn3⟩ = B := ⟨_, rfl⟩
    have hr0 := HR0.out
    rw [hB] at hr0 ⊢
    replace HR0 := Lib.hid hr0
    replace HV2 := Lib.hid (HV2.out.ext hw4)
    replace HE := Lib.hid (ext_trans HE.out hw4)
    clear hr0 hB d2 d3 d4 hw4
    cases B with
    | false =>
      have HF : Hid (R = false) := Lib.hid (by rw [HR0.out]; simp)
      go_wp2_with fail
      go_ret
      exact ⟨ret_bool HF.out.symm, HE.out⟩
    | true =>
      have c1 := HV2.out.cell 1; have c2 := HV2.out.cell 2; have c3 := HV2.out.cell 3; have c4 := HV2.out.cell 4; have c5 := HV2.out.cell 5; have c6 := HV2.out.cell 6; have c7 := HV2.out.cell 7
      simp at c1 c2 c3 c4 c5 c6 c7
      cases b with
      | true =>
        have HF : Hid (R = false) := Lib.hid (by rw [HR0.out]; simp)
        go_wp2_with fail
        go_ret
        exact ⟨ret_bool HF.out.symm, HE.out⟩
      | false =>
        cases s with
        | cons x s =>
          have HF : Hid (R = false) := Lib.hid (by rw [HR0.out]; simp)
          go_wp2_with fail
          go_ret
          exact ⟨ret_bool HF.out.symm, HE.out⟩
        | nil =>
          go_wp2_with fail
          go_ret
          exact ⟨ret_bool (by rw [HR0.out]; simp), HE.out⟩
  by_cases h3 : k = 3
  · subst h3
    have HR0 : Hid (R = (decide (check s < 0) && !b && Z && (L.isEmpty && M.isEmpty))) := Lib.hid (by rw [← HRR.out]; simp)
    have c0 := HV1.out.cell 0
    simp at c0
    have f5 := HV2.out.free 5
    have c5 := HV2.out.cell 5
    simp at c5
    go_upto_region 13 with fail
    replace HE := Lib.hid (HE.out.setCell (p := ⟨S + 1, 5, none⟩) (show w.heap.size ≤ S + 1 by rw [HS.out]; omega) (.string ⟨#[]⟩))
    have hv2 := HV2.out.set1 5 (.string ⟨#[]⟩)
    have hv1 := HV1.out.oth (p := S + 1) (i := 5) (u := .string ⟨#[]⟩) (by omega)
    clear c0 c5 f5 HV1 HTM HRM HV2
    generalize w2.setCell ⟨S + 1, 5, none⟩ (.string ⟨#[]⟩) = w3 at *
    have HV2 : Hid (VAt w3 (S + 1) #[.int .i64 3, .bool b, .bool dn1, .string ⟨dn2.toArray⟩, .int .i64 dn3, .string ⟨#[]⟩, .slice la L.length lc, .slice ma M.length mc]) := Lib.hid hv2
    have d5 := hv1.cell 5
    simp at d5
    clear hv1 hv2
    have hss : (ByteArray.mk s.toArray).size ≤ 140737488355328 := by show s.toArray.size ≤ _; simp; omega
    have hsz : (ByteArray.mk s.toArray).size = s.length := by show s.toArray.size = _; simp
    have HSZ := Lib.hid hsz
    clear hsz
    go_wp2_with (first
      | (refine wpList_bytes_of_string w3 rfl 9 22 5 _ rfl ⟨s.toArray⟩ rfl Tryd.underlying9 Tryd.underlying22 Tryd.underlying5 hss ?_; intro capA wA hEA hcapA hcmA hszA hatA; rw [HSZ.out] at hcapA)
      | fail)
    refine (check_any _ s _ (Bytes.mk hatA (by first | rfl | exact HSZ.out) (by simpa using hcapA) hcmA (by omega))).mono ?_
    rintro e w4 ⟨rfl, hw4⟩
    obtain ⟨C, hC⟩ : ∃ C, check s = C := ⟨_, rfl⟩
    have hr0 := HR0.out
    rw [hC] at hr0 ⊢
    replace HR0 := Lib.hid hr0
    replace HV2 := Lib.hid (HV2.out.ext (ext_trans hEA hw4))
    replace HE := Lib.hid (ext_trans HE.out (ext_trans hEA hw4))
    clear hr0 hC d5 hw4 hEA hatA
    by_cases hc0 : C < 0
    · have hdc : decide (C < 0) = true := by simpa using hc0
      have c1 := HV2.out.cell 1; have c2 := HV2.out.cell 2; have c3 := HV2.out.cell 3; have c4 := HV2.out.cell 4; have c5 := HV2.out.cell 5; have c6 := HV2.out.cell 6; have c7 := HV2.out.cell 7
      simp at c1 c2 c3 c4 c5 c6 c7
      cases b with
      | true =>
        have HF : Hid (R = false) := Lib.hid (by rw [HR0.out]; simp)
        go_wp2_with fail
        go_ret
        exact ⟨ret_bool HF.out.symm, HE.out⟩
      | false =>
        cases Z with
        | false =>
          have HF : Hid (R = false) := Lib.hid (by rw [HR0.out]; simp)
          go_wp2_with fail
          go_ret
          exact ⟨ret_bool HF.out.symm, HE.out⟩
        | true =>
          go_wp2_with fail
          go_ret
          exact ⟨ret_bool (by rw [HR0.out, hdc]; simp), HE.out⟩
    · have hdc : decide (C < 0) = false := by simpa using hc0
      have HDC := Lib.hid hdc
      have HF : Hid (R = false) := Lib.hid (by rw [HR0.out]; rw [HDC.out]; simp)
      go_wp2_with fail
      go_ret
      exact ⟨ret_bool HF.out.symm, HE.out⟩
  by_cases h4 : k = 4
  · subst h4
    have HR0 : Hid (R = (!b && Z && s.isEmpty && M.isEmpty)) := Lib.hid (by rw [← HRR.out]; simp)
    have c0 := HV1.out.cell 0
    simp at c0
    have f6 := HV2.out.free 6
    have c6 := HV2.out.cell 6
    simp at c6
    go_upto_region 19 with fail
    replace HE := Lib.hid (HE.out.setCell (p := ⟨S + 1, 6, none⟩) (show w.heap.size ≤ S + 1 by rw [HS.out]; omega) (.slice none 0 0))
    have hv2 := HV2.out.set1 6 (.slice none 0 0)
    clear c0 c6 f6 HV1 HTM HRM HV2
    generalize w2.setCell ⟨S + 1, 6, none⟩ (.slice none 0 0) = w3 at *
    have HV2 : Hid (VAt w3 (S + 1) #[.int .i64 4, .bool b, .bool dn1, .string ⟨dn2.toArray⟩, .int .i64 dn3, .string ⟨s.toArray⟩, .slice none 0 0, .slice ma M.length mc]) := Lib.hid hv2
    clear hv2
    have hem2 : ((M.length : Int) == 0) = M.isEmpty := by cases M <;> simp <;> omega
    have c1 := HV2.out.cell 1; have c2 := HV2.out.cell 2; have c3 := HV2.out.cell 3; have c4 := HV2.out.cell 4; have c5 := HV2.out.cell 5; have c6 := HV2.out.cell 6; have c7 := HV2.out.cell 7
    simp at c1 c2 c3 c4 c5 c6 c7
    cases b with
    | true =>
      have HF : Hid (R = false) := Lib.hid (by rw [HR0.out]; simp)
      go_wp2_with fail
      go_ret
      exact ⟨ret_bool HF.out.symm, HE.out⟩
    | false =>
      cases Z with
      | false =>
        have HF : Hid (R = false) := Lib.hid (by rw [HR0.out]; simp)
        go_wp2_with fail
        go_ret
        exact ⟨ret_bool HF.out.symm, HE.out⟩
      | true =>
        cases s with
        | cons x s =>
          have HF : Hid (R = false) := Lib.hid (by rw [HR0.out]; simp)
          go_wp2_with fail
          go_ret
          exact ⟨ret_bool HF.out.symm, HE.out⟩
        | nil =>
          go_wp2_with fail
          go_ret
          exact ⟨ret_bool (by rw [HR0.out]; simp), HE.out⟩
  by_cases h5 : k = 5
  · subst h5
    have HR0 : Hid (R = (!(M.any badKey) && !b && Z && s.isEmpty && L.isEmpty)) := Lib.hid (by rw [← HRR.out]; simp)
    have c0 := HV1.out.cell 0
    simp at c0
    have f7 := HV2.out.free 7
    have c7 := HV2.out.cell 7
    simp at c7
    go_upto_region 18 with fail
    replace HE := Lib.hid (HE.out.setCell (p := ⟨S + 1, 7, none⟩) (show w.heap.size ≤ S + 1 by rw [HS.out]; omega) (.slice none 0 0))
    have hv2 := HV2.out.set1 7 (.slice none 0 0)
    have hv1 := HV1.out.oth (p := S + 1) (i := 7) (u := .slice none 0 0) (by omega)
    have htm := HTM.out.keep (w' := w2.setCell ⟨S + 1, 7, none⟩ (.slice none 0 0)) (A' := fun _ => True) (by simp [World.setCell]) (fun g hg _ => ⟨trivial, Below.heap_setCell _ _ _ _ (show g ≠ S + 1 by omega)⟩)
    have hrm := HRM.out.keep (w' := w2.setCell ⟨S + 1, 7, none⟩ (.slice none 0 0)) (A' := fun _ => True) (by simp [World.setCell]) (fun g hg _ => ⟨trivial, Below.heap_setCell _ _ _ _ (show g ≠ S + 1 by omega)⟩)
    clear c0 c7 f7 HV1 HTM HRM HV2
    generalize w2.setCell ⟨S + 1, 7, none⟩ (.slice none 0 0) = w3 at *
    have HV2 : Hid (VAt w3 (S + 1) #[.int .i64 5, .bool b, .bool dn1, .string ⟨dn2.toArray⟩, .int .i64 dn3, .string ⟨s.toArray⟩, .slice la L.length lc, .slice none 0 0]) := Lib.hid hv2
    have HC := Lib.hid (contains_bad _ M cm _ w3 hrm htm hMl HKS.out)
    have d7 := hv1.cell 7
    simp at d7
    clear hv1 hv2 htm hrm
    go_wp2_with fail
    refine (HC.out).mono ?_
    rintro e w4 ⟨rfl, hw4⟩
    obtain ⟨C, hC⟩ : ∃ C, M.any badKey = C := ⟨_, rfl⟩
    have hr0 := HR0.out
    rw [hC] at hr0 ⊢
    replace HR0 := Lib.hid hr0
    replace HV2 := Lib.hid (HV2.out.ext hw4)
    replace HE := Lib.hid (ext_trans HE.out hw4)
    clear hr0 hC d7 hw4
    have hem2 : ((L.length : Int) == 0) = L.isEmpty := by cases L <;> simp <;> omega
    cases C with
    | true =>
      have HF : Hid (R = false) := Lib.hid (by rw [HR0.out]; simp)
      go_wp2_with fail
      go_ret
      exact ⟨ret_bool HF.out.symm, HE.out⟩
    | false =>
      have c1 := HV2.out.cell 1; have c2 := HV2.out.cell 2; have c3 := HV2.out.cell 3; have c4 := HV2.out.cell 4; have c5 := HV2.out.cell 5; have c6 := HV2.out.cell 6; have c7 := HV2.out.cell 7
      simp at c1 c2 c3 c4 c5 c6 c7
      cases b with
      | true =>
        have HF : Hid (R = false) := Lib.hid (by rw [HR0.out]; simp)
        go_wp2_with fail
        go_ret
        exact ⟨ret_bool HF.out.symm, HE.out⟩
      | false =>
        cases Z with
        | false =>
          have HF : Hid (R = false) := Lib.hid (by rw [HR0.out]; simp)
          go_wp2_with fail
          go_ret
          exact ⟨ret_bool HF.out.symm, HE.out⟩
        | true =>
          cases s with
          | cons x s =>
            have HF : Hid (R = false) := Lib.hid (by rw [HR0.out]; simp)
            go_wp2_with fail
            go_ret
            exact ⟨ret_bool HF.out.symm, HE.out⟩
          | nil =>
            go_wp2_with fail
            go_ret
            exact ⟨ret_bool (by rw [HR0.out]; simp), HE.out⟩
  · have HF : Hid (R = false) := Lib.hid (by rw [← HRR.out]; simp [h0, h1, h2, h3, h4, h5])
    have q0 : (k == 0) = false := by simpa using h0
    have q1 : (k == 1) = false := by simpa using h1
    have q2 : (k == 2) = false := by simpa using h2
    have q3 : (k == 3) = false := by simpa using h3
    have q4 : (k == 4) = false := by simpa using h4
    have q5 : (k == 5) = false := by simpa using h5
    have c0 := HV1.out.cell 0
    simp at c0
    go_wp2_with fail
    go_ret
    exact ⟨ret_bool HF.out.symm, HE.out⟩
end Go.Proofs.YtckpndbmpigegaaDoor
end

section
/- value: which values may be: Sane. -/
set_option linter.unusedVariables false
set_option linter.unusedSimpArgs false
set_option maxRecDepth 100000
namespace Go.Proofs.YtckpndbmpigegaaDoor
open Go.RowKit Go.Mem Orange
mutual
/-- why may a value, so many deep, behind so many, not be; and how many were counted -/
def saneT : Nat → Nat → Tree → Int × Nat
  | deep, n, .mk k b d s l m =>
    if fieldsT (.mk k b d s l m) = false then (1, n + 1)
    else if twiceP [] (m.map (·.1)) = true then (7, n + 1)
    else if 4 ≤ k ∧ 64 ≤ deep then (3, n + 1)
    else if 4096 < n + 1 then (4, n + 1)
    else match saneL (deep + 1) (n + 1) l with
      | (e, n') => if e = 0 then saneM (deep + 1) n' m else (e, n')
def saneL : Nat → Nat → List Tree → Int × Nat
  | _, n, [] => (0, n)
  | deep, n, t :: l => match saneT deep n t with
    | (e, n') => if e = 0 then saneL deep n' l else (e, n')
def saneM : Nat → Nat → List (List UInt8 × Tree) → Int × Nat
  | _, n, [] => (0, n)
  | deep, n, (_, t) :: l => match saneT deep n t with
    | (e, n') => if e = 0 then saneM deep n' l else (e, n')
end
theorem saneM_map (deep : Nat) : ∀ (m : List (List UInt8 × Tree)) (n : Nat), saneM deep n m = saneL deep n (m.map (·.2))
  | [], n => by rw [saneM, List.map_nil, saneL]
  | (k, t) :: m, n => by
    rw [saneM, List.map_cons, saneL]
    cases saneT deep n t with
    | mk e n' => simp only [saneM_map deep m n']
theorem saneL_append (deep : Nat) : ∀ (l l' : List Tree) (n : Nat), saneL deep n (l ++ l') = (if (saneL deep n l).1 = 0 then saneL deep (saneL deep n l).2 l' else saneL deep n l)
  | [], l', n => by rw [List.nil_append, saneL, if_pos rfl]
  | t :: l, l', n => by
    rw [List.cons_append, saneL, saneL]
    cases saneT deep n t with
    | mk e n' =>
      simp only
      by_cases he : e = 0
      · rw [if_pos he, if_pos he, saneL_append deep l l' n']
      · rw [if_neg he, if_neg he, if_neg he]
theorem saneT_ins (deep n : Nat) (t : Tree) : saneT deep n t = if fieldsT t = false then (1, n + 1) else if twiceP [] (t.mems.map (·.1)) = true then (7, n + 1) else if 4 ≤ t.kind ∧ 64 ≤ deep then (3, n + 1) else if 4096 < n + 1 then (4, n + 1) else saneL (deep + 1) (n + 1) t.ins := by
  cases t with
  | mk k b d s l m =>
    rw [saneT]
    show _ = (if fieldsT (.mk k b d s l m) = false then (1, n + 1) else if twiceP [] (m.map (·.1)) = true then (7, n + 1) else if 4 ≤ k ∧ 64 ≤ deep then (3, n + 1) else if 4096 < n + 1 then (4, n + 1) else saneL (deep + 1) (n + 1) (l ++ m.map (·.2)))
    rw [saneL_append]
    simp only [saneM_map]
theorem saneL_at (deep n : Nat) {l : List Tree} {i : Nat} (h : i < l.length) (h0 : (saneL deep n (l.take i)).1 = 0) : saneL deep n l = if (saneT deep (saneL deep n (l.take i)).2 l[i]).1 = 0 then saneL deep (saneT deep (saneL deep n (l.take i)).2 l[i]).2 (l.drop (i + 1)) else saneT deep (saneL deep n (l.take i)).2 l[i] := by
  conv => lhs; rw [← List.take_append_drop i l, saneL_append, if_pos h0, List.drop_eq_getElem_cons h, saneL]
theorem saneL_take (deep n : Nat) {l : List Tree} {i : Nat} (h : i < l.length) (h0 : (saneL deep n (l.take i)).1 = 0) : saneL deep n (l.take (i + 1)) = saneT deep (saneL deep n (l.take i)).2 l[i] := by
  rw [List.take_add_one, List.getElem?_eq_getElem h, Option.toList_some, saneL_append, if_pos h0, saneL]
  cases saneT deep (saneL deep n (l.take i)).2 l[i] with
  | mk e n' =>
    simp only
    by_cases he : e = 0
    · rw [if_pos he, saneL, he]
    · rw [if_neg he]
mutual
theorem saneT_bd : ∀ (t : Tree) (deep n : Nat), (saneT deep n t).2 ≤ n + countT t
  | .mk k b d s l m, deep, n => by
    rw [saneT, countT]
    split
    · show n + 1 ≤ _; omega
    split
    · show n + 1 ≤ _; omega
    split
    · show n + 1 ≤ _; omega
    split
    · show n + 1 ≤ _; omega
    · have h1 := saneL_bd l (deep + 1) (n + 1)
      cases hl : saneL (deep + 1) (n + 1) l with
      | mk e n' =>
        rw [hl] at h1
        simp only at h1 ⊢
        split
        · have := saneM_bd m (deep + 1) n'; omega
        · simp only; omega
theorem saneL_bd : ∀ (l : List Tree) (deep n : Nat), (saneL deep n l).2 ≤ n + countL l
  | [], deep, n => by rw [saneL, countL]; simp
  | t :: l, deep, n => by
    rw [saneL, countL]
    have h1 := saneT_bd t deep n
    cases hl : saneT deep n t with
    | mk e n' =>
      rw [hl] at h1
      simp only at h1 ⊢
      split
      · have := saneL_bd l deep n'; omega
      · simp only; omega
theorem saneM_bd : ∀ (l : List (List UInt8 × Tree)) (deep n : Nat), (saneM deep n l).2 ≤ n + countM l
  | [], deep, n => by rw [saneM, countM]; simp
  | (_, t) :: l, deep, n => by
    rw [saneM, countM]
    have h1 := saneT_bd t deep n
    cases hl : saneT deep n t with
    | mk e n' =>
      rw [hl] at h1
      simp only at h1 ⊢
      split
      · have := saneM_bd l deep n'; omega
      · simp only; omega
end
/-- the counter -/
def NAt (w : World) (p n : Nat) : Prop := w.heap[p]? = some (.cells #[.int .i64 (n : Nat)] 62 (0, 0))
theorem NAt.lt {w : World} {p n : Nat} (h : NAt w p n) : p < w.heap.size := (Array.getElem?_eq_some_iff.1 h).1
theorem NAt.ext {w w' : World} {p n : Nat} (h : NAt w p n) (hb : Ext w w') : NAt w' p n := by
  unfold NAt; rw [hb.block _ h.lt]; exact h
theorem NAt.cell {w : World} {p n : Nat} (h : NAt w p n) : w.cell? ⟨p, 0, none⟩ = some (.int .i64 (n : Nat)) ∧ w.frozen? ⟨p, 0, none⟩ = false := ⟨by rw [cell_of_cells h]; rfl, free_of_cells h⟩
theorem NAt.set {w : World} {p n : Nat} (h : NAt w p n) (m : Nat) : NAt (w.setCell ⟨p, 0, none⟩ (.int .i64 (m : Nat))) p m := setCell_heap_self h
/-- blocks that are not p stay as they were: what a value's lists lie in -/
theorem keptp {w w' : World} {p : Nat} (h : Kept w.heap.size p w w') (g : Nat) (hg : g ≠ p) (hlt : g < w.heap.size) : g ≠ p ∧ w'.heap[g]? = w.heap[g]? := ⟨hg, h.block g hlt hg⟩
set_option maxHeartbeats 6400000 in
theorem sane_step (N : Nat) (ih : ∀ (t : Tree) (c : Array Value) (deep n p : Nat) (w : World), SizeOf.sizeOf t < N → weightT t ≤ 1000000 → deep + countT t ≤ 1000000000 → n + countT t ≤ 1000000000 → TV w (fun g => g ≠ p) t c → NAt w p n →
    Calls Tryd.prog 25 #[.pointer (some ⟨p, 0, none⟩), .agg c, .int .i64 (deep : Nat)] w (fun e w' => e = .returned (.int .i64 (saneT deep n t).1) ∧ NAt w' p (saneT deep n t).2 ∧ Kept w.heap.size p w w')) :
    ∀ (t : Tree) (c : Array Value) (deep n p : Nat) (w : World), SizeOf.sizeOf t < N + 1 → weightT t ≤ 1000000 → deep + countT t ≤ 1000000000 → n + countT t ≤ 1000000000 → TV w (fun g => g ≠ p) t c → NAt w p n →
    Calls Tryd.prog 25 #[.pointer (some ⟨p, 0, none⟩), .agg c, .int .i64 (deep : Nat)] w (fun e w' => e = .returned (.int .i64 (saneT deep n t).1) ∧ NAt w' p (saneT deep n t).2 ∧ Kept w.heap.size p w w') := by
  intro t c deep n p w hN hwt hdp hnn h hc
  have IH := Lib.hid ih
  clear ih
  obtain ⟨R, hR⟩ : ∃ R, saneT deep n t = R := ⟨_, rfl⟩
  rw [hR]
  rw [saneT_ins] at hR
  have HRR := Lib.hid hR
  clear hR
  obtain ⟨k, b, d, s, la, ln, lc, ma, mn, mc, rfl⟩ := h.eight
  have hplt := hc.lt
  have hpos := countT_pos t
  have hv := VAt.new w (cellsV k b d s (.slice la ln lc) (.slice ma mn mc))
  have hx : Ext w (w.alloc (.cells (cellsV k b d s (.slice la ln lc) (.slice ma mn mc)) 29)) := (ext_refl w).alloc (Nat.le_refl _) _
  simp only [cellsV] at hv hx ⊢
  go_enter Tryd.func25, Tryd.ntmps25
  go_upto_region 1 with fail
  obtain ⟨S, hS⟩ : ∃ S, w.heap.size = S := ⟨_, rfl⟩
  rw [hS] at hv hplt ⊢
  generalize w.alloc (.cells #[.int .i64 k, .bool b, .bool d.neg, .string ⟨d.digits.toArray⟩, .int .i64 d.exp, .string ⟨s.toArray⟩, .slice la ln lc, .slice ma mn mc] 29) = w1 at *
  have HS := Lib.hid hS
  have hc1 := hc.ext hx
  obtain ⟨r0, f0⟩ := hc1.cell
  have e8 : IntKind.i64.wrap ((n : Int) + 1) = ((n + 1 : Nat) : Int) := by rw [IntWalk.i64_in _ (by omega)]; omega
  have hc2 : NAt (w1.setCell ⟨p, 0, none⟩ (.int .i64 ((n : Int) + 1))) p (n + 1) := by rw [show ((n : Int) + 1) = ((n + 1 : Nat) : Int) by omega]; exact hc1.set (n + 1)
  have hv2 := hv.oth (p := p) (i := 0) (u := .int .i64 ((n : Int) + 1)) (by omega)
  have hk2 : Kept w.heap.size p w (w1.setCell ⟨p, 0, none⟩ (.int .i64 ((n : Int) + 1))) := (Kept.ofBelow hx).trans (Kept.setCell _)
  go_upto_region 2 with fail
  clear r0 f0 hc1
  generalize w1.setCell ⟨p, 0, none⟩ (.int .i64 ((n : Int) + 1)) = w2 at *
  have HT := Lib.hid (h.keep (w' := w2) (A' := fun g => g ≠ p) hk2.size (fun g hg hlt => keptp hk2 g hg hlt))
  have HC := Lib.hid hc2
  have HV := Lib.hid hv2
  have HK := Lib.hid hk2
  have HWT := Lib.hid hwt
  have HB : Hid (deep + countT t ≤ 1000000000 ∧ n + countT t ≤ 1000000000 ∧ SizeOf.sizeOf t < N + 1) := Lib.hid ⟨hdp, hnn, hN⟩
  clear h hc hv hx hS hc2 hv2 hk2 hN
  have c0 := HV.out.cell 0; have c1 := HV.out.cell 1; have c2 := HV.out.cell 2; have c3 := HV.out.cell 3; have c4 := HV.out.cell 4; have c5 := HV.out.cell 5; have c6 := HV.out.cell 6; have c7 := HV.out.cell 7
  simp at c0 c1 c2 c3 c4 c5 c6 c7
  go_wp2_with fail
  refine (fields_any t _ _ w2 HT.out HWT.out).mono ?_
  rintro e w3 ⟨rfl, hw3⟩
  clear c0 c1 c2 c3 c4 c5 c6 c7
  replace HT := Lib.hid (HT.out.keep (w' := w3) (A' := fun g => g ≠ p) hw3.size (fun g hg hlt => ⟨hg, hw3.block g hlt⟩))
  replace HC := Lib.hid (HC.out.ext hw3)
  replace HV := Lib.hid (HV.out.ext hw3)
  replace HK := Lib.hid (HK.out.trans (Kept.ofBelow (hw3.mono HK.out.size)))
  clear hw3
  have hrr := HRR.out
  obtain ⟨B, hB⟩ : ∃ B, fieldsT t = B := ⟨_, rfl⟩
  rw [hB] at hrr ⊢
  clear hB
  cases B with
  | false =>
    have HF : Hid (R = (1, n + 1)) := Lib.hid (by rw [← hrr, if_pos rfl])
    clear hrr
    go_wp2_with fail
    go_ret
    rw [HF.out]
    exact ⟨rfl, HC.out, HK.out⟩
  | true =>
  rw [if_neg (by decide)] at hrr
  replace HRR := Lib.hid hrr
  clear hrr
  obtain ⟨cl, cm, htl, hrl, htm, hrm, hk, -⟩ := tv_rows HT.out
  obtain ⟨_, a2, c2, ea, -⟩ := id hrm
  simp only [Value.slice.injEq] at ea
  obtain ⟨rfl, rfl, rfl⟩ := ea
  have hcl := countT_ins t
  have hll := countL_len t.ins
  have hil := ins_len t
  have hcw := count_weight t
  have hMl : t.mems.length ≤ 1000000 := by omega
  have hcb : t.list.length + t.mems.length ≤ 1000000 := by omega
  have hks : ∀ q ∈ t.mems, q.1.length ≤ 1000000 := fun q hq => by
    obtain ⟨j, hj, rfl⟩ := List.mem_iff_getElem.1 hq
    have h1 := weightM_mem hj
    have h2 := HWT.out
    cases t with
    | mk k0 b0 d0 s0 l0 m0 => rw [weightT] at h2; have h1 : (m0[j]'hj).1.length ≤ weightM m0 := h1.1; show (m0[j]'hj).1.length ≤ _; omega
  have HTW := Lib.hid (twice_any _ t.mems cm _ w3 hrm htm hMl hks)
  have HKK := Lib.hid hk
  have HCB := Lib.hid hcb
  clear hcl hll hil hcw hMl hks htl hrl htm hrm hcb hk
  have c7 := HV.out.cell 7
  simp at c7
  go_wp2_with fail
  refine (HTW.out).mono ?_
  rintro e w4 ⟨rfl, hw4⟩
  clear c7 HTW
  replace HT := Lib.hid (HT.out.keep (w' := w4) (A' := fun g => g ≠ p) hw4.size (fun g hg hlt => ⟨hg, hw4.block g hlt⟩))
  replace HC := Lib.hid (HC.out.ext hw4)
  replace HV := Lib.hid (HV.out.ext hw4)
  replace HK := Lib.hid (HK.out.trans (Kept.ofBelow (hw4.mono HK.out.size)))
  clear hw4
  have hrr := HRR.out
  obtain ⟨B, hB⟩ : ∃ B, twiceP [] (t.mems.map (·.1)) = B := ⟨_, rfl⟩
  rw [hB] at hrr ⊢
  clear hB
  cases B with
  | true =>
    have HF : Hid (R = (7, n + 1)) := Lib.hid (by rw [← hrr, if_pos rfl])
    clear hrr
    go_wp2_with fail
    go_ret
    rw [HF.out]
    exact ⟨rfl, HC.out, HK.out⟩
  | false =>
  rw [if_neg (by decide), ← HKK.out] at hrr
  replace HRR := Lib.hid hrr
  clear hrr
  have c0 := HV.out.cell 0
  simp at c0
  by_cases hkd : 4 ≤ k ∧ 64 ≤ deep
  · have HF : Hid (R = (3, n + 1)) := Lib.hid (by rw [← HRR.out, if_pos hkd])
    obtain ⟨hk4, hd64⟩ := hkd
    have hdi : (64 : Int) ≤ deep := by omega
    go_wp2_with fail
    go_ret
    rw [HF.out]
    exact ⟨rfl, HC.out, HK.out⟩
  have hrr := HRR.out
  rw [if_neg hkd] at hrr
  replace HRR := Lib.hid hrr
  clear hrr
  obtain ⟨r0, f0⟩ := HC.out.cell
  by_cases hn4 : 4096 < n + 1
  · have HF : Hid (R = (4, n + 1)) := Lib.hid (by rw [← HRR.out, if_pos hn4])
    have hni : (4096 : Int) < (n + 1 : Nat) := by omega
    by_cases hk4 : 4 ≤ k
    · have hd64 : ¬ (64 : Int) ≤ deep := by omega
      go_wp2_with fail
      go_ret
      rw [HF.out]
      exact ⟨rfl, HC.out, HK.out⟩
    · go_wp2_with fail
      go_ret
      rw [HF.out]
      exact ⟨rfl, HC.out, HK.out⟩
  have hrr := HRR.out
  rw [if_neg hn4] at hrr
  replace HRR := Lib.hid hrr
  clear hrr
  have hni : ¬ (4096 : Int) < (n + 1 : Nat) := by omega
  -- the loop over what stands in the value
  have HRR3 := HRR
  have c1 := HV.out.cell 1; have c2 := HV.out.cell 2; have c3 := HV.out.cell 3; have c4 := HV.out.cell 4; have c5 := HV.out.cell 5; have c6 := HV.out.cell 6; have c7 := HV.out.cell 7
  simp at c1 c2 c3 c4 c5 c6 c7
  have HN4 := Lib.hid hn4
  have HIN : Hid (∀ w', Below w4.heap.size w4 w' → Calls Tryd.prog 24 #[.agg (cellsV k b d s (.slice la ln lc) (.slice ma t.mems.length mc))] w' (fun e w'' => ∃ v cs, e = .returned v ∧ w''.ownsRow w'.heap.size 29 8 v t.ins.length cs ∧ TL w'' (fun g => g ≠ p) t.ins cs ∧ Ext w' w'')) := Lib.hid (fun w' hw => inside_any t _ _ w' (HT.out.keep (w' := w') (A' := fun g => g ≠ p) hw.size (fun g hg hlt => ⟨hg, hw.block g hlt⟩)) HCB.out)
  have hin := HIN.out w4 (Below.refl _ _)
  simp only [cellsV] at hin
  replace HIN := Lib.hid hin
  have HNS : Hid (∀ i (hi : i < t.ins.length), SizeOf.sizeOf t.ins[i] < N ∧ weightT t.ins[i] ≤ 1000000 ∧ deep + 1 + countT t.ins[i] ≤ 1000000000 ∧ n + 1 + countL (t.ins.take i) + countT t.ins[i] ≤ 1000000000) := Lib.hid (fun i hi => by
    have h1 := ins_size (List.getElem_mem hi)
    have h2 := HB.out
    have h3 := weight_ins hi
    have h4 := HWT.out
    have h5 := countL_mem hi
    have h6 := countT_ins t
    have h7 := countL_take t.ins i hi
    have h8 := countL_take_le t.ins (i + 1)
    exact ⟨by omega, by omega, by omega, by omega⟩)
  have HLEN : Hid (t.ins.length ≤ 1000000) := Lib.hid (by
    have h1 := countL_len t.ins
    have h2 := countT_ins t
    have h3 := count_weight t
    have h4 := HWT.out
    omega)
  have HSB : Hid (∀ i, (saneL (deep + 1) (n + 1) (t.ins.take i)).2 ≤ n + 1 + countL (t.ins.take i)) := Lib.hid (fun i => saneL_bd _ _ _)
  have hdd : deep ≤ 1000000000 := by have := HB.out; omega
  have HPS : Hid (p < S) := Lib.hid hplt
  have HKD : Hid (¬ (4 ≤ k ∧ 64 ≤ deep)) := Lib.hid hkd
  clear hin hn4 hkd hwt hplt
  generalize t.ins = l at *
  have LOOP : True := trivial
  by_cases hk4 : 4 ≤ k
  · have hd64 : ¬ (64 : Int) ≤ deep := by have := HKD.out; omega
    go_wp2_with fail
    refine (HIN.out).mono ?_
    rintro e w5 ⟨v5, cs, rfl, hown, htl, hw5⟩
    obtain ⟨a5, cc5, rfl⟩ := ownsRow_shape hown
    have hs4 : S ≤ w4.heap.size := by have := HK.out.size; have := HS.out; omega
    have HR := Lib.hid (RowAt.own hown (by decide) (A := fun g => g ≠ p) (fun g _ hb _ => by have := HPS.out; omega))
    have HTL := Lib.hid htl
    have HC5 := Lib.hid (HC.out.ext hw5)
    have HK5 := Lib.hid (HK.out.trans (Kept.ofBelow (hw5.mono HK.out.size)))
    clear hown htl hw5 c0 c1 c2 c3 c4 c5 c6 c7 r0 f0 hni
    go_wp2_with fail
    go_loopw [42] (fun iv wr => ∃ i : Nat, iv = .int .i64 i ∧ i ≤ l.length ∧ (saneL (deep + 1) (n + 1) (l.take i)).1 = 0 ∧ NAt wr p (saneL (deep + 1) (n + 1) (l.take i)).2 ∧ Kept w5.heap.size p w5 wr) (fun iv _ => 2000000 - (intOf iv).toNat)
    case atStart => exact ⟨0, rfl, by omega, by rw [List.take_zero, saneL], by rw [List.take_zero, saneL]; exact HC5.out, Kept.refl _ _ _⟩
    case round =>
      obtain ⟨i, rfl, hi, hz, hc, hE⟩ := hrel
      have HX := Lib.hid hE
      have HCR := Lib.hid hc
      have HZ := Lib.hid hz
      clear hE hc hz
      have hll := HLEN.out
      by_cases hlt : i < l.length
      · have hlti : (i : Int) < l.length := by omega
        have hi0 : (0 : Int) ≤ i := by omega
        obtain ⟨g, o, xk, xb, xd, xs, xa1, xn1, xc1, xa2, xn2, xc2, rfl, htx, hcell⟩ := row_elem HR.out HTL.out rfl i hlt
        obtain ⟨x0, x1, x2, x3, x4, x5, x6, x7⟩ := hcell wr (fun g hg hlt => HX.out.block g hlt hg)
        have HTX := Lib.hid (htx.keep (w' := wr) (A' := fun g => g ≠ p) HX.out.size (fun g hg hlt => ⟨hg, HX.out.block g hlt hg⟩))
        have HNI := Lib.hid (HNS.out i hlt)
        have HSI := Lib.hid (HSB.out i)
        have HTK := Lib.hid (saneL_take (deep + 1) (n + 1) hlt HZ.out)
        have HAT := Lib.hid (saneL_at (deep + 1) (n + 1) hlt HZ.out)
        clear htx hcell
        generalize l[i] = x at *
        obtain ⟨ni, hni⟩ : ∃ ni, (saneL (deep + 1) (n + 1) (l.take i)).2 = ni := ⟨_, rfl⟩
        have hcr := HCR.out
        have hsi := HSI.out
        have htk := HTK.out
        have hat := HAT.out
        rw [hni] at hcr hsi htk hat
        replace HCR := Lib.hid hcr
        replace HSI := Lib.hid hsi
        replace HTK := Lib.hid htk
        replace HAT := Lib.hid hat
        clear hni hcr hsi htk hat
        have hv3 := VAt.new wr #[.int .i64 xk, .bool xb, .bool xd.neg, .string ⟨xd.digits.toArray⟩, .int .i64 xd.exp, .string ⟨xs.toArray⟩, .slice xa1 xn1 xc1, .slice xa2 xn2 xc2]
        have hx3 : Ext wr (wr.alloc (.cells #[.int .i64 xk, .bool xb, .bool xd.neg, .string ⟨xd.digits.toArray⟩, .int .i64 xd.exp, .string ⟨xs.toArray⟩, .slice xa1 xn1 xc1, .slice xa2 xn2 xc2] 29)) := (ext_refl wr).alloc (Nat.le_refl _) _
        obtain ⟨P, hP⟩ : ∃ P, wr.heap.size = P := ⟨_, rfl⟩
        rw [hP] at hv3
        go_upto_region 13 with fail
        clear x0 x1 x2 x3 x4 x5 x6 x7 hP
        generalize wr.alloc (.cells #[.int .i64 xk, .bool xb, .bool xd.neg, .string ⟨xd.digits.toArray⟩, .int .i64 xd.exp, .string ⟨xs.toArray⟩, .slice xa1 xn1 xc1, .slice xa2 xn2 xc2] 29) = w6 at *
        have c0 := hv3.cell 0; have c1 := hv3.cell 1; have c2 := hv3.cell 2; have c3 := hv3.cell 3; have c4 := hv3.cell 4; have c5 := hv3.cell 5; have c6 := hv3.cell 6; have c7 := hv3.cell 7
        simp at c0 c1 c2 c3 c4 c5 c6 c7
        clear hv3
        have HX6 := Lib.hid hx3
        clear hx3
        have HCALL := Lib.hid (IH.out x _ (deep + 1) ni p w6 HNI.out.1 HNI.out.2.1 (by have := HNI.out; omega) (by have := HNI.out; have := HSI.out; omega) (HTX.out.keep (A' := fun g => g ≠ p) HX6.out.size (fun g hg hlt => ⟨hg, HX6.out.block g hlt⟩)) (HCR.out.ext HX6.out))
        have hcall := HCALL.out
        simp only [cellsV] at hcall
        rw [show ((deep + 1 : Nat) : Int) = (deep : Int) + 1 by omega] at hcall
        replace HCALL := Lib.hid hcall
        clear hcall
        have e9 : IntKind.i64.wrap ((i : Int) + 1) = ((i + 1 : Nat) : Int) := by rw [IntWalk.i64_in _ (by omega)]; omega
        go_wp2_with fail
        refine (HCALL.out).mono ?_
        rintro e w7 ⟨rfl, hc7, hk7⟩
        have HK7 := Lib.hid (HX.out.trans ((Kept.ofBelow (HX6.out.mono HX.out.size)).trans (hk7.mono (Nat.le_trans HX.out.size HX6.out.size))))
        have HC7 := Lib.hid hc7
        clear hc7 hk7 c0 c1 c2 c3 c4 c5 c6 c7
        obtain ⟨Q, hQ⟩ : ∃ Q, saneT (deep + 1) ni x = Q := ⟨_, rfl⟩
        have hc7 := HC7.out
        have htk := HTK.out
        have hat := HAT.out
        rw [hQ] at hc7 htk hat ⊢
        replace HC7 := Lib.hid hc7
        replace HTK := Lib.hid htk
        replace HAT := Lib.hid hat
        clear hQ hc7 htk hat
        obtain ⟨er, n2⟩ := Q
        simp only at HC7 HAT HTK ⊢
        by_cases her : er = 0
        · subst her
          go_wp2_with fail
          go_roundw
          case rel => exact ⟨i + 1, by go_num, by omega, by rw [HTK.out], by rw [HTK.out]; exact HC7.out, HK7.out⟩
          case measure => simp [intOf]; omega
        · have hern : (er != 0) = true := by simpa using her
          have HF : Hid (R = (er, n2)) := Lib.hid (by rw [← HRR3.out, HAT.out, if_neg her])
          go_wp2_with fail
          go_ret
          rw [HF.out]
          exact ⟨rfl, HC7.out, HK5.out.trans (HK7.out.mono HK5.out.size)⟩
      · obtain rfl : i = l.length := by omega
        have hnlt : ¬ ((l.length : Int) < (l.length : Int)) := by omega
        have HF : Hid (R.1 = 0 ∧ NAt wr p R.2) := Lib.hid (by
          have h1 := HZ.out
          have h2 := HCR.out
          rw [List.take_length] at h1 h2
          rw [← HRR3.out]
          exact ⟨h1, h2⟩)
        go_wp2_with fail
        go_ret
        exact ⟨ret_int HF.out.1.symm, HF.out.2, HK5.out.trans (HX.out.mono HK5.out.size)⟩
  · go_wp2_with fail
    refine (HIN.out).mono ?_
    rintro e w5 ⟨v5, cs, rfl, hown, htl, hw5⟩
    obtain ⟨a5, cc5, rfl⟩ := ownsRow_shape hown
    have hs4 : S ≤ w4.heap.size := by have := HK.out.size; have := HS.out; omega
    have HR := Lib.hid (RowAt.own hown (by decide) (A := fun g => g ≠ p) (fun g _ hb _ => by have := HPS.out; omega))
    have HTL := Lib.hid htl
    have HC5 := Lib.hid (HC.out.ext hw5)
    have HK5 := Lib.hid (HK.out.trans (Kept.ofBelow (hw5.mono HK.out.size)))
    clear hown htl hw5 c0 c1 c2 c3 c4 c5 c6 c7 r0 f0 hni
    go_wp2_with fail
    go_loopw [42] (fun iv wr => ∃ i : Nat, iv = .int .i64 i ∧ i ≤ l.length ∧ (saneL (deep + 1) (n + 1) (l.take i)).1 = 0 ∧ NAt wr p (saneL (deep + 1) (n + 1) (l.take i)).2 ∧ Kept w5.heap.size p w5 wr) (fun iv _ => 2000000 - (intOf iv).toNat)
    case atStart => exact ⟨0, rfl, by omega, by rw [List.take_zero, saneL], by rw [List.take_zero, saneL]; exact HC5.out, Kept.refl _ _ _⟩
    case round =>
      obtain ⟨i, rfl, hi, hz, hc, hE⟩ := hrel
      have HX := Lib.hid hE
      have HCR := Lib.hid hc
      have HZ := Lib.hid hz
      clear hE hc hz
      have hll := HLEN.out
      by_cases hlt : i < l.length
      · have hlti : (i : Int) < l.length := by omega
        have hi0 : (0 : Int) ≤ i := by omega
        obtain ⟨g, o, xk, xb, xd, xs, xa1, xn1, xc1, xa2, xn2, xc2, rfl, htx, hcell⟩ := row_elem HR.out HTL.out rfl i hlt
        obtain ⟨x0, x1, x2, x3, x4, x5, x6, x7⟩ := hcell wr (fun g hg hlt => HX.out.block g hlt hg)
        have HTX := Lib.hid (htx.keep (w' := wr) (A' := fun g => g ≠ p) HX.out.size (fun g hg hlt => ⟨hg, HX.out.block g hlt hg⟩))
        have HNI := Lib.hid (HNS.out i hlt)
        have HSI := Lib.hid (HSB.out i)
        have HTK := Lib.hid (saneL_take (deep + 1) (n + 1) hlt HZ.out)
        have HAT := Lib.hid (saneL_at (deep + 1) (n + 1) hlt HZ.out)
        clear htx hcell
        generalize l[i] = x at *
        obtain ⟨ni, hni⟩ : ∃ ni, (saneL (deep + 1) (n + 1) (l.take i)).2 = ni := ⟨_, rfl⟩
        have hcr := HCR.out
        have hsi := HSI.out
        have htk := HTK.out
        have hat := HAT.out
        rw [hni] at hcr hsi htk hat
        replace HCR := Lib.hid hcr
        replace HSI := Lib.hid hsi
        replace HTK := Lib.hid htk
        replace HAT := Lib.hid hat
        clear hni hcr hsi htk hat
        have hv3 := VAt.new wr #[.int .i64 xk, .bool xb, .bool xd.neg, .string ⟨xd.digits.toArray⟩, .int .i64 xd.exp, .string ⟨xs.toArray⟩, .slice xa1 xn1 xc1, .slice xa2 xn2 xc2]
        have hx3 : Ext wr (wr.alloc (.cells #[.int .i64 xk, .bool xb, .bool xd.neg, .string ⟨xd.digits.toArray⟩, .int .i64 xd.exp, .string ⟨xs.toArray⟩, .slice xa1 xn1 xc1, .slice xa2 xn2 xc2] 29)) := (ext_refl wr).alloc (Nat.le_refl _) _
        obtain ⟨P, hP⟩ : ∃ P, wr.heap.size = P := ⟨_, rfl⟩
        rw [hP] at hv3
        go_upto_region 13 with fail
        clear x0 x1 x2 x3 x4 x5 x6 x7 hP
        generalize wr.alloc (.cells #[.int .i64 xk, .bool xb, .bool xd.neg, .string ⟨xd.digits.toArray⟩, .int .i64 xd.exp, .string ⟨xs.toArray⟩, .slice xa1 xn1 xc1, .slice xa2 xn2 xc2] 29) = w6 at *
        have c0 := hv3.cell 0; have c1 := hv3.cell 1; have c2 := hv3.cell 2; have c3 := hv3.cell 3; have c4 := hv3.cell 4; have c5 := hv3.cell 5; have c6 := hv3.cell 6; have c7 := hv3.cell 7
        simp at c0 c1 c2 c3 c4 c5 c6 c7
        clear hv3
        have HX6 := Lib.hid hx3
        clear hx3
        have HCALL := Lib.hid (IH.out x _ (deep + 1) ni p w6 HNI.out.1 HNI.out.2.1 (by have := HNI.out; omega) (by have := HNI.out; have := HSI.out; omega) (HTX.out.keep (A' := fun g => g ≠ p) HX6.out.size (fun g hg hlt => ⟨hg, HX6.out.block g hlt⟩)) (HCR.out.ext HX6.out))
        have hcall := HCALL.out
        simp only [cellsV] at hcall
        rw [show ((deep + 1 : Nat) : Int) = (deep : Int) + 1 by omega] at hcall
        replace HCALL := Lib.hid hcall
        clear hcall
        have e9 : IntKind.i64.wrap ((i : Int) + 1) = ((i + 1 : Nat) : Int) := by rw [IntWalk.i64_in _ (by omega)]; omega
        go_wp2_with fail
        refine (HCALL.out).mono ?_
        rintro e w7 ⟨rfl, hc7, hk7⟩
        have HK7 := Lib.hid (HX.out.trans ((Kept.ofBelow (HX6.out.mono HX.out.size)).trans (hk7.mono (Nat.le_trans HX.out.size HX6.out.size))))
        have HC7 := Lib.hid hc7
        clear hc7 hk7 c0 c1 c2 c3 c4 c5 c6 c7
        obtain ⟨Q, hQ⟩ : ∃ Q, saneT (deep + 1) ni x = Q := ⟨_, rfl⟩
        have hc7 := HC7.out
        have htk := HTK.out
        have hat := HAT.out
        rw [hQ] at hc7 htk hat ⊢
        replace HC7 := Lib.hid hc7
        replace HTK := Lib.hid htk
        replace HAT := Lib.hid hat
        clear hQ hc7 htk hat
        obtain ⟨er, n2⟩ := Q
        simp only at HC7 HAT HTK ⊢
        by_cases her : er = 0
        · subst her
          go_wp2_with fail
          go_roundw
          case rel => exact ⟨i + 1, by go_num, by omega, by rw [HTK.out], by rw [HTK.out]; exact HC7.out, HK7.out⟩
          case measure => simp [intOf]; omega
        · have hern : (er != 0) = true := by simpa using her
          have HF : Hid (R = (er, n2)) := Lib.hid (by rw [← HRR3.out, HAT.out, if_neg her])
          go_wp2_with fail
          go_ret
          rw [HF.out]
          exact ⟨rfl, HC7.out, HK5.out.trans (HK7.out.mono HK5.out.size)⟩
      · obtain rfl : i = l.length := by omega
        have hnlt : ¬ ((l.length : Int) < (l.length : Int)) := by omega
        have HF : Hid (R.1 = 0 ∧ NAt wr p R.2) := Lib.hid (by
          have h1 := HZ.out
          have h2 := HCR.out
          rw [List.take_length] at h1 h2
          rw [← HRR3.out]
          exact ⟨h1, h2⟩)
        go_wp2_with fail
        go_ret
        exact ⟨ret_int HF.out.1.symm, HF.out.2, HK5.out.trans (HX.out.mono HK5.out.size)⟩
theorem Sane_any (t : Tree) (c : Array Value) (A : Nat → Prop) (w : World) (hw : weightT t ≤ 1000000) (h : TV w A t c) :
    Calls Tryd.prog 19 #[.agg c] w (fun e w' => e = .returned (.int .i64 (saneT 0 0 t).1) ∧ Ext w w') := by
  have key : ∀ N : Nat, ∀ (t : Tree) (c : Array Value) (deep n p : Nat) (w : World), SizeOf.sizeOf t < N → weightT t ≤ 1000000 → deep + countT t ≤ 1000000000 → n + countT t ≤ 1000000000 → TV w (fun g => g ≠ p) t c → NAt w p n →
      Calls Tryd.prog 25 #[.pointer (some ⟨p, 0, none⟩), .agg c, .int .i64 (deep : Nat)] w (fun e w' => e = .returned (.int .i64 (saneT deep n t).1) ∧ NAt w' p (saneT deep n t).2 ∧ Kept w.heap.size p w w') := by
    intro N
    induction N with
    | zero => intro t c deep n p w h; omega
    | succ N ih => exact sane_step N ih
  have hcw := count_weight t
  obtain ⟨k, b, d, s, la, ln, lc, ma, mn, mc, rfl⟩ := h.eight
  have HKEY : Hid (∀ (p : Nat) (w' : World), TV w' (fun g => g ≠ p) t (cellsV k b d s (.slice la ln lc) (.slice ma mn mc)) → NAt w' p 0 → Calls Tryd.prog 25 #[.pointer (some ⟨p, 0, none⟩), .agg (cellsV k b d s (.slice la ln lc) (.slice ma mn mc)), .int .i64 (0 : Nat)] w' (fun e w'' => e = .returned (.int .i64 (saneT 0 0 t).1) ∧ NAt w'' p (saneT 0 0 t).2 ∧ Kept w'.heap.size p w' w'')) := Lib.hid (fun p w' h1 h2 => key _ t _ 0 0 p w' (Nat.lt_succ_self _) hw (by omega) (by omega) h1 h2)
  clear key hcw hw
  obtain ⟨R, hR⟩ : ∃ R, saneT 0 0 t = R := ⟨_, rfl⟩
  rw [hR] at HKEY ⊢
  clear hR
  have hv := VAt.new w (cellsV k b d s (.slice la ln lc) (.slice ma mn mc))
  have hx : Ext w (w.alloc (.cells (cellsV k b d s (.slice la ln lc) (.slice ma mn mc)) 29)) := (ext_refl w).alloc (Nat.le_refl _) _
  simp only [cellsV] at hv hx HKEY ⊢
  go_enter Tryd.func19, Tryd.ntmps19
  go_upto_region 1 with fail
  obtain ⟨S, hS⟩ : ∃ S, w.heap.size = S := ⟨_, rfl⟩
  have hsz : (w.alloc (.cells #[.int .i64 k, .bool b, .bool d.neg, .string ⟨d.digits.toArray⟩, .int .i64 d.exp, .string ⟨s.toArray⟩, .slice la ln lc, .slice ma mn mc] 29)).heap.size = S + 1 := by rw [← hS]; simp
  rw [hS] at hv ⊢
  generalize w.alloc (.cells #[.int .i64 k, .bool b, .bool d.neg, .string ⟨d.digits.toArray⟩, .int .i64 d.exp, .string ⟨s.toArray⟩, .slice la ln lc, .slice ma mn mc] 29) = w1 at *
  have hn : NAt (w1.alloc (.cells #[.int .i64 0] 62)) (S + 1) 0 := by have := heap_alloc_new w1 (.cells #[.int .i64 0] 62); rw [hsz] at this; exact this
  have hx2 : Ext w1 (w1.alloc (.cells #[.int .i64 0] 62)) := (ext_refl w1).alloc (Nat.le_refl _) _
  have hv2 := hv.ext hx2
  go_upto_region 2 with fail
  generalize w1.alloc (.cells #[.int .i64 0] 62) = w2 at *
  have hE := ext_trans hx hx2
  have hcall := HKEY.out (S + 1) w2 (h.keep (w' := w2) (A' := fun g => g ≠ S + 1) hE.size (fun g _ hlt => ⟨by omega, hE.block g hlt⟩)) hn
  have HCALL := Lib.hid hcall
  have HE := Lib.hid hE
  have HS := Lib.hid hS
  have c0 := hv2.cell 0; have c1 := hv2.cell 1; have c2 := hv2.cell 2; have c3 := hv2.cell 3; have c4 := hv2.cell 4; have c5 := hv2.cell 5; have c6 := hv2.cell 6; have c7 := hv2.cell 7
  simp at c0 c1 c2 c3 c4 c5 c6 c7
  clear hcall hE hx hx2 hv hv2 hn hsz h HKEY hS
  go_wp2_with fail
  refine (HCALL.out).mono ?_
  rintro e w3 ⟨rfl, _, hk⟩
  have HK := Lib.hid hk
  clear hk
  go_wp2_with fail
  go_ret
  exact ⟨rfl, HE.out.trans ((HK.out.mono HE.out.size).below (by rw [HS.out]; omega))⟩
end Go.Proofs.YtckpndbmpigegaaDoor
end

section
/- parse: a text that agrees with another one as far as a value goes has this value (plain). -/
set_option linter.unusedVariables false
set_option linter.unusedSimpArgs false
set_option maxRecDepth 100000
namespace Go.Proofs.YtckpndbmpigegaaDoor
open Go.RowKit Go.Mem Orange
/-! ### the end of a run of bytes -/
def endQ (q : UInt8 → Bool) (X : List UInt8) (k : Nat) : Nat := X.length - ((X.drop k).dropWhile q).length
theorem endQ_step {q : UInt8 → Bool} {X : List UInt8} {k : Nat} (h : k < X.length) (hq : q X[k] = true) : endQ q X k = endQ q X (k + 1) := by
  unfold endQ
  rw [List.drop_eq_getElem_cons h, List.dropWhile_cons, if_pos hq]
theorem endQ_stop {q : UInt8 → Bool} {X : List UInt8} {k : Nat} (h : k < X.length) (hq : q X[k] = false) : endQ q X k = k := by
  unfold endQ
  rw [List.drop_eq_getElem_cons h, List.dropWhile_cons, hq]
  simp
  omega
theorem endQ_end {q : UInt8 → Bool} {X : List UInt8} {k : Nat} (h : k = X.length) : endQ q X k = k := by
  unfold endQ
  rw [List.drop_of_length_le (by omega)]
  simp [h]
theorem endQ_spec (q : UInt8 → Bool) (X : List UInt8) : ∀ (j k : Nat), j = X.length - k → k ≤ X.length → k ≤ endQ q X k ∧ endQ q X k ≤ X.length ∧ (∀ i, k ≤ i → i < endQ q X k → ∃ c, X[i]? = some c ∧ q c = true) ∧ (∀ c, X[endQ q X k]? = some c → q c = false)
  | 0, k, hj, hk => by
    rw [endQ_end (by omega)]
    refine ⟨by omega, hk, fun i h1 h2 => by omega, fun c h => ?_⟩
    rw [List.getElem?_eq_none (by omega)] at h
    cases h
  | j + 1, k, hj, hk => by
    have hlt : k < X.length := by omega
    cases hq : q X[k] with
    | true =>
      obtain ⟨h1, h2, h3, h4⟩ := endQ_spec q X j (k + 1) (by omega) (by omega)
      rw [endQ_step hlt hq]
      refine ⟨by omega, h2, fun i h5 h6 => ?_, h4⟩
      by_cases hi : i = k
      · subst hi; exact ⟨X[i], by simp [hlt], hq⟩
      · exact h3 i (by omega) h6
    | false =>
      rw [endQ_stop hlt hq]
      refine ⟨by omega, hk, fun i h1 h2 => by omega, fun c h => ?_⟩
      rw [List.getElem?_eq_getElem hlt, Option.some.injEq] at h
      rw [← h]; exact hq
theorem endQ_unique {q : UInt8 → Bool} {Z : List UInt8} : ∀ (j k p : Nat), p = k + j → p ≤ Z.length → (∀ i, k ≤ i → i < p → ∃ c, Z[i]? = some c ∧ q c = true) → (∀ c, Z[p]? = some c → q c = false) → endQ q Z k = p
  | 0, k, p, hj, hp, _, h2 => by
    obtain rfl : p = k := by omega
    rcases Nat.lt_or_ge p Z.length with h | h
    · exact endQ_stop h (h2 _ (by simp [h]))
    · exact endQ_end (by omega)
  | j + 1, k, p, hj, hp, h1, h2 => by
    have hlt : k < Z.length := by omega
    obtain ⟨c, h3, h4⟩ := h1 k (by omega) (by omega)
    rw [List.getElem?_eq_getElem hlt, Option.some.injEq] at h3
    subst h3
    rw [endQ_step hlt h4]
    exact endQ_unique j (k + 1) p (by omega) hp (fun i h5 h6 => h1 i (by omega) h6) h2
theorem whiteN_endQ (X : List UInt8) (k : Nat) : whiteN X k = endQ isWhite X k := rfl
theorem numEnd_endQ (X : List UInt8) (k : Nat) : numEnd X k = endQ isFig X k := rfl
/-- bytes that agree -/
theorem agree_get {X Z : List UInt8} {a i : Nat} (h : Z.take a = X.take a) (hi : i < a) : Z[i]? = X[i]? := by
  have := congrArg (fun l => l[i]?) h
  simpa [List.getElem?_take, hi] using this
theorem agree_len {X Z : List UInt8} {a : Nat} (h : Z.take a = X.take a) (ha : a ≤ X.length) : a ≤ Z.length := by
  have := congrArg List.length h
  simp at this
  omega
theorem agree_mono {X Z : List UInt8} {a b : Nat} (h : Z.take a = X.take a) (hb : b ≤ a) : Z.take b = X.take b := by
  have := congrArg (List.take b) h
  simpa [List.take_take, Nat.min_eq_left hb] using this
theorem agree_drop {X Z : List UInt8} {a k : Nat} (h : Z.take (k + a) = X.take (k + a)) : (Z.drop k).take a = (X.drop k).take a := by
  rw [List.take_drop, List.take_drop, h]
theorem agree_peek {X Z : List UInt8} {a i : Nat} (h : Z.take a = X.take a) (hi : i < a) : peekP Z i = peekP X i := by
  unfold peekP
  rw [List.getD_eq_getElem?_getD, List.getD_eq_getElem?_getD, agree_get h hi]
theorem endQ_agree {q : UInt8 → Bool} {X Z : List UInt8} {k a : Nat} (hk : k ≤ X.length) (hZ : Z.take a = X.take a) (ha : a ≤ X.length) (hp : endQ q X k ≤ a) (hend : endQ q X k < a ∨ ∀ c, Z[endQ q X k]? = some c → q c = false) : endQ q Z k = endQ q X k := by
  obtain ⟨h1, h2, h3, h4⟩ := endQ_spec q X _ k rfl hk
  have hl := agree_len hZ ha
  refine endQ_unique (endQ q X k - k) k _ (by omega) (by omega) (fun i h5 h6 => ?_) ?_
  · rw [agree_get hZ (by omega)]; exact h3 i h5 h6
  · rcases hend with h | h
    · rw [agree_get hZ h]; exact h4
    · exact h
theorem white_agree {X Z : List UInt8} {k a : Nat} (hk : k ≤ X.length) (hZ : Z.take a = X.take a) (ha : a ≤ X.length) (hp : whiteN X k < a) : whiteN Z k = whiteN X k :=
  endQ_agree hk hZ ha (Nat.le_of_lt hp) (.inl hp)
/-! ### characters -/
theorem next_agree {X Z : List UInt8} (h : 0 < (next X).2) (hZ : Z.take (next X).2 = X.take (next X).2) : next Z = next X := by
  rcases next_spec X with h0 | ⟨hs, hn, t, ht⟩
  · rw [h0] at h; exact absurd h (by decide)
  · generalize hP : next X = P at *
    obtain ⟨r, n⟩ := P
    simp only at hs hn ht hZ h ⊢
    subst hn
    rw [ht, List.take_left] at hZ
    have hz : Z = enc r ++ Z.drop (enc r).length := by
      conv => lhs; rw [← List.take_append_drop (enc r).length Z, hZ]
    rw [hz, next_enc hs]
theorem unit_agree {X Z : List UInt8} {v : Int} (h : unit X = some v) (hZ : Z.take 5 = X.take 5) : unit Z = some v := by
  cases X with
  | nil => cases h
  | cons u t =>
    cases Z with
    | nil =>
      simp only [unit] at h
      split at h
      · cases h
      · simp at hZ
    | cons z s =>
      simp only [List.take_succ_cons, List.cons.injEq] at hZ
      obtain ⟨rfl, h4⟩ := hZ
      simp only [unit] at h ⊢
      have hl := congrArg List.length h4
      simp only [List.length_take] at hl
      split at h
      · cases h
      · rename_i hc
        rw [if_neg (by simp only [Bool.or_eq_true, decide_eq_true_eq, not_or] at hc ⊢; exact ⟨by omega, hc.2⟩), h4]
        exact h
theorem pair_agree {X Z : List UInt8} {v r : Int} (h : pair v X = some r) (hZ : Z.take 6 = X.take 6) : pair v Z = some r := by
  cases X with
  | nil => cases h
  | cons u t =>
    cases Z with
    | nil => simp at hZ
    | cons z s =>
      simp only [List.take_succ_cons, List.cons.injEq] at hZ
      obtain ⟨rfl, h4⟩ := hZ
      simp only [pair] at h ⊢
      have hl := congrArg List.length h4
      simp only [List.length_take] at hl
      split at h
      · cases h
      · rename_i hc
        rw [if_neg (by simp only [Bool.or_eq_true, decide_eq_true_eq, not_or] at hc ⊢; exact ⟨⟨hc.1.1, by omega⟩, hc.2⟩)]
        cases hu : unit t with
        | none => rw [hu] at h; cases h
        | some x => rw [hu] at h; rw [unit_agree hu h4]; exact h
theorem escape_agree {X Z : List UInt8} (h : 0 < (escape X).2) (hZ : Z.take (escape X).2 = X.take (escape X).2) : escape Z = escape X := by
  cases X with
  | nil => exact absurd h (by decide)
  | cons c t =>
    have hz : ∃ s, Z = c :: s ∧ s.take ((escape (c :: t)).2 - 1) = t.take ((escape (c :: t)).2 - 1) := by
      obtain ⟨n, hn⟩ : ∃ n, (escape (c :: t)).2 = n + 1 := ⟨(escape (c :: t)).2 - 1, by omega⟩
      rw [hn] at hZ ⊢
      cases Z with
      | nil => simp at hZ
      | cons z s =>
        simp only [List.take_succ_cons, List.cons.injEq] at hZ
        obtain ⟨rfl, h4⟩ := hZ
        exact ⟨s, rfl, by simpa using h4⟩
    obtain ⟨s, rfl, h4⟩ := hz
    clear hZ
    simp only [escape] at h h4 ⊢
    split
    · rfl
    split
    · rfl
    rename_i h1 h2
    rw [if_neg h1, if_neg h2] at h h4
    cases hu : unit (c :: t) with
    | none => rw [hu] at h; exact absurd h (Nat.lt_irrefl 0)
    | some v =>
      rw [hu] at h h4
      simp only at h h4 ⊢
      by_cases hs : sound v = true
      · rw [if_pos hs] at h4 ⊢
        rw [unit_agree hu (by simp only [List.take_succ_cons]; rw [show (4 : Nat) = 5 - 1 from rfl, h4])]
        simp [hs]
      · rw [if_neg hs] at h h4 ⊢
        cases hp : pair v (t.drop 4) with
        | none => rw [hp] at h; exact absurd h (Nat.lt_irrefl 0)
        | some r =>
          rw [hp] at h4
          have h4 : s.take 10 = t.take 10 := h4
          rw [unit_agree hu (by simp only [List.take_succ_cons]; rw [agree_mono h4 (by omega)])]
          simp only
          rw [if_neg hs, pair_agree hp (agree_drop (k := 4) h4)]
/-! ### how deep and how many: what a value meets at any depth -/
def foldE {ι : Type} (g : Nat → ι → Except Int Nat) : Nat → List ι → Except Int Nat
  | n, [] => .ok n
  | n, x :: l => match g n x with | .error e => .error e | .ok n' => foldE g n' l
mutual
def fitT : Nat → Nat → Tree → Except Int Nat
  | deep, n, .mk k _ _ _ l m => if 4096 < n + 1 then .error 4 else if 4 ≤ k ∧ 64 ≤ deep then .error 3 else match fitL (deep + 1) (n + 1) l with | .error e => .error e | .ok n' => fitM (deep + 1) n' m
def fitL : Nat → Nat → List Tree → Except Int Nat
  | _, n, [] => .ok n
  | deep, n, t :: l => match fitT deep n t with | .error e => .error e | .ok n' => fitL deep n' l
def fitM : Nat → Nat → List (List UInt8 × Tree) → Except Int Nat
  | _, n, [] => .ok n
  | deep, n, (_, t) :: l => match fitT deep n t with | .error e => .error e | .ok n' => fitM deep n' l
end
theorem fitL_fold (deep : Nat) : ∀ (l : List Tree) (n : Nat), fitL deep n l = foldE (fun n t => fitT deep n t) n l
  | [], n => by rw [fitL, foldE]
  | t :: l, n => by
    rw [fitL, foldE]
    cases fitT deep n t with
    | error e => rfl
    | ok n' => exact fitL_fold deep l n'
theorem fitM_fold (deep : Nat) : ∀ (l : List (List UInt8 × Tree)) (n : Nat), fitM deep n l = foldE (fun n p => fitT deep n p.2) n l
  | [], n => by rw [fitM, foldE]
  | (k, t) :: l, n => by
    rw [fitM, foldE]
    cases fitT deep n t with
    | error e => rfl
    | ok n' => exact fitM_fold deep l n'
/-- the same thing, or an error -/
def SameR {α : Type} (r : PR α) (x : Except Int Nat) (v : α) (a : Nat) : Prop :=
  match x with
  | .ok m => r = .ok v a m
  | .error e => ∃ p, r = .err e p
theorem SameR.map {α β : Type} {f : α → β} {r : PR α} {x : Except Int Nat} {v : α} {a : Nat} (h : SameR r x v a) : SameR (r.map f) x (f v) a := by
  cases x with
  | ok m => have h : r = .ok v a m := h; rw [h]; exact rfl
  | error e => obtain ⟨p, h⟩ := h; rw [h]; exact ⟨p, rfl⟩
/-! ### the parser's parts -/
theorem textL_agree {X Z : List UInt8} (n n' : Nat) : ∀ (f k : Nat) (out v : List UInt8) (a m : Nat), k ≤ X.length → textL X n f k out = .ok v a m → k < a ∧ a ≤ X.length ∧ m = n ∧ (Z.take a = X.take a → ∀ f', Z.length < k + f' → textL Z n' f' k out = .ok v a n')
  | 0, k, out, v, a, m, hk, h => by rw [textL] at h; cases h
  | f + 1, k, out, v, a, m, hk, h => by
    rw [textL] at h
    by_cases h34 : peekP X k = 34
    · rw [if_pos h34] at h
      simp only [PR.ok.injEq] at h
      obtain ⟨rfl, rfl, rfl⟩ := h
      have hlt := (peekP_some h34 (by decide)).2
      refine ⟨by omega, by omega, rfl, fun hZ f' hf => ?_⟩
      have hl := agree_len hZ (by omega)
      obtain ⟨g, rfl⟩ : ∃ g, f' = g + 1 := ⟨f' - 1, by omega⟩
      rw [textL, if_pos (by rw [agree_peek hZ (by omega)]; exact h34)]
    · rw [if_neg h34] at h
      by_cases hne : 0 < (next (X.drop k)).2 ∧ 32 ≤ (next (X.drop k)).1
      · rw [if_neg (fun h => h hne)] at h
        have hnl := (next_le (X.drop k)).2
        rw [List.length_drop] at hnl
        by_cases h92 : (next (X.drop k)).1 = 92
        · rw [if_pos h92] at h
          by_cases hes : 0 < (escape (X.drop (k + 1))).2
          · rw [if_neg (fun h => h hes)] at h
            have hel := escape_le (X.drop (k + 1))
            rw [List.length_drop] at hel
            obtain ⟨i1, i2, i3, i4⟩ := textL_agree (Z := Z) n n' f _ _ _ _ _ (by omega) h
            refine ⟨by omega, i2, i3, fun hZ f' hf => ?_⟩
            obtain ⟨g, rfl⟩ : ∃ g, f' = g + 1 := ⟨f' - 1, by have := agree_len hZ i2; omega⟩
            have hn1 : (next (X.drop k)).2 = 1 := by
              rcases next_spec (X.drop k) with h0 | ⟨_, hn, _⟩
              · rw [h0] at h92; exact absurd h92 (by decide)
              · rw [hn, h92]; rfl
            have hn := next_agree (Z := Z.drop k) hne.1 (by rw [hn1]; exact agree_drop (agree_mono hZ (by omega)))
            have he := escape_agree (Z := Z.drop (k + 1)) hes (agree_drop (agree_mono hZ (by omega)))
            rw [textL, if_neg (by rw [agree_peek hZ (by omega)]; exact h34), hn, if_neg (fun h => h hne), if_pos h92, he, if_neg (fun h => h hes)]
            exact i4 hZ g (by omega)
          · rw [if_pos hes] at h; cases h
        · rw [if_neg h92] at h
          obtain ⟨i1, i2, i3, i4⟩ := textL_agree (Z := Z) n n' f _ _ _ _ _ (by omega) h
          refine ⟨by omega, i2, i3, fun hZ f' hf => ?_⟩
          obtain ⟨g, rfl⟩ : ∃ g, f' = g + 1 := ⟨f' - 1, by have := agree_len hZ i2; omega⟩
          have hn := next_agree (Z := Z.drop k) hne.1 (agree_drop (agree_mono hZ (by omega)))
          rw [textL, if_neg (by rw [agree_peek hZ (by omega)]; exact h34), hn, if_neg (fun h => h hne), if_neg h92]
          exact i4 hZ g (by omega)
      · rw [if_pos hne] at h; cases h
theorem textP_agree {X Z : List UInt8} {k n n' a m : Nat} {v : List UInt8} (h : textP X k n = .ok v a m) : k < a ∧ a ≤ X.length ∧ m = n ∧ (Z.take a = X.take a → textP Z k n' = .ok v a n') := by
  rw [textP] at h
  split at h
  · rename_i h34
    obtain ⟨hl, _⟩ := List.getElem?_eq_some_iff.1 h34
    obtain ⟨i1, i2, i3, i4⟩ := textL_agree (Z := Z) n n' _ _ _ _ _ _ (by omega) h
    refine ⟨by omega, i2, i3, fun hZ => ?_⟩
    rw [textP, if_pos (by rw [agree_get hZ (by omega)]; exact h34)]
    exact i4 hZ _ (by omega)
  · cases h
/-- an item's law: it lies ahead, and a text that agrees has it -/
def ItemOk {ι : Type} (X Z : List UInt8) (it it' : List ι → Nat → Nat → PR (List ι)) (g : Nat → ι → Except Int Nat) : Prop :=
  ∀ s k n s1 a1 m1, k ≤ X.length → it s k n = .ok s1 a1 m1 → ∃ x, s1 = s ++ [x] ∧ k ≤ a1 ∧ a1 ≤ X.length ∧ (Z.take a1 = X.take a1 → Z[a1]? = X[a1]? → ∀ n', SameR (it' s k n') (g n' x) (s ++ [x]) a1)
theorem listP_agree {ι : Type} {X Z : List UInt8} {close : UInt8} {it it' : List ι → Nat → Nat → PR (List ι)} {g : Nat → ι → Except Int Nat} (hi : ItemOk X Z it it' g) (hc : close ≠ 0) : ∀ (f : Nat) (s : List ι) (k n : Nat) (s' : List ι) (a m : Nat), k ≤ X.length → listP X close it f s k n = .ok s' a m →
    k < a ∧ a ≤ X.length ∧ ∃ l, s' = s ++ l ∧ (Z.take a = X.take a → ∀ f' n', Z.length < k + f' → SameR (listP Z close it' f' s k n') (foldE g n' l) s' a)
  | 0, s, k, n, s', a, m, hk, h => by rw [listP] at h; cases h
  | f + 1, s, k, n, s', a, m, hk, h => by
    rw [listP] at h
    cases hr : it s k n with
    | err e b => rw [hr] at h; cases h
    | ok s1 a1 m1 =>
      rw [hr] at h
      simp only at h
      obtain ⟨x, rfl, h1, h2, h3⟩ := hi _ _ _ _ _ _ hk hr
      have hw1 := whiteN_ge X a1 h2
      by_cases h44 : peekP X (whiteN X a1) = 44
      · rw [if_pos h44] at h
        have hlt := (peekP_some h44 (by decide)).2
        obtain ⟨i1, i2, l, rfl, i4⟩ := listP_agree hi hc f _ _ _ _ _ _ (by omega) h
        refine ⟨by omega, i2, x :: l, by simp, fun hZ f' n' hf => ?_⟩
        have hl := agree_len hZ i2
        obtain ⟨j, rfl⟩ : ∃ j, f' = j + 1 := ⟨f' - 1, by omega⟩
        have h5 := h3 (agree_mono hZ (by omega)) (agree_get hZ (by omega)) n'
        rw [listP, foldE]
        cases hg : g n' x with
        | error e => rw [hg] at h5; obtain ⟨p, h5⟩ := h5; rw [h5]; exact ⟨p, rfl⟩
        | ok n2 =>
          rw [hg] at h5
          have h5 : it' s k n' = .ok (s ++ [x]) a1 n2 := h5
          rw [h5]
          simp only
          rw [white_agree h2 hZ i2 (by omega), if_pos (by rw [agree_peek hZ (by omega)]; exact h44)]
          exact i4 hZ j n2 (by omega)
      · rw [if_neg h44] at h
        by_cases hcl : X[whiteN X a1]? = some close
        · rw [if_pos hcl] at h
          simp only [PR.ok.injEq] at h
          obtain ⟨rfl, rfl, rfl⟩ := h
          obtain ⟨hlt, _⟩ := List.getElem?_eq_some_iff.1 hcl
          refine ⟨by omega, by omega, [x], rfl, fun hZ f' n' hf => ?_⟩
          have hl := agree_len hZ (by omega)
          obtain ⟨j, rfl⟩ : ∃ j, f' = j + 1 := ⟨f' - 1, by omega⟩
          have h5 := h3 (agree_mono hZ (by omega)) (agree_get hZ (by omega)) n'
          rw [listP, foldE]
          cases hg : g n' x with
          | error e => rw [hg] at h5; obtain ⟨p, h5⟩ := h5; rw [h5]; exact ⟨p, rfl⟩
          | ok n2 =>
            rw [hg] at h5
            have h5 : it' s k n' = .ok (s ++ [x]) a1 n2 := h5
            rw [h5]
            simp only
            rw [white_agree h2 hZ (by omega) (by omega), if_neg (by rw [agree_peek hZ (by omega)]; exact h44), if_pos (by rw [agree_get hZ (by omega)]; exact hcl)]
            rw [foldE]
            exact rfl
        · rw [if_neg hcl] at h; cases h
theorem openP_agree {ι : Type} {X Z : List UInt8} {close : UInt8} {it it' : List ι → Nat → Nat → PR (List ι)} {g : Nat → ι → Except Int Nat} (hi : ItemOk X Z it it' g) (hc : close ≠ 0) {k n a m : Nat} {s' : List ι} (hk : k < X.length) (h : openP X close it [] k n = .ok s' a m) :
    k < a ∧ a ≤ X.length ∧ (Z.take a = X.take a → ∀ n', SameR (openP Z close it' [] k n') (foldE g n' s') s' a) := by
  rw [openP] at h
  have hk1 : k + 1 ≤ X.length := hk
  have hw1 := whiteN_ge X (k + 1) hk1
  by_cases hcl : peekP X (whiteN X (k + 1)) = close
  · rw [if_pos hcl] at h
    simp only [PR.ok.injEq] at h
    obtain ⟨rfl, rfl, rfl⟩ := h
    have hlt := (peekP_some hcl hc).2
    refine ⟨by omega, by omega, fun hZ n' => ?_⟩
    rw [openP, white_agree hk1 hZ (by omega) (by omega), if_pos (by rw [agree_peek hZ (by omega)]; exact hcl), foldE]
    exact rfl
  · rw [if_neg hcl] at h
    obtain ⟨i1, i2, l, h3, i4⟩ := listP_agree hi hc _ _ _ _ _ _ _ (whiteN_le X (k + 1)) h
    simp only [List.nil_append] at h3
    subst h3
    refine ⟨by omega, i2, fun hZ n' => ?_⟩
    rw [openP, white_agree hk1 hZ i2 (by omega), if_neg (by rw [agree_peek hZ (by omega)]; exact hcl)]
    exact i4 hZ _ n' (by omega)
theorem fitT_leaf {deep n : Nat} {k : Int} {b : Bool} {d : Num} {s : List UInt8} (hk : k < 4) : fitT deep n (.mk k b d s [] []) = if 4096 < n + 1 then .error 4 else .ok (n + 1) := by
  rw [fitT, fitL]
  show (if 4096 < n + 1 then Except.error 4 else if 4 ≤ k ∧ 64 ≤ deep then .error 3 else fitM (deep + 1) (n + 1) []) = _
  rw [fitM, if_neg (c := 4 ≤ k ∧ 64 ≤ deep) (fun h => by omega)]
theorem fitT_arr {deep n : Nat} (l : List Tree) : fitT deep n (tArr l) = if 4096 < n + 1 then .error 4 else if 64 ≤ deep then .error 3 else foldE (fun n t => fitT (deep + 1) n t) (n + 1) l := by
  rw [tArr, fitT, ← fitL_fold]
  congr 1
  simp only [show (4 : Int) ≤ 4 from by decide, true_and]
  congr 1
  cases fitL (deep + 1) (n + 1) l with
  | error e => rfl
  | ok n' => show fitM (deep + 1) n' [] = _; rw [fitM]
theorem fitT_obj {deep n : Nat} (l : List (List UInt8 × Tree)) : fitT deep n (tObj l) = if 4096 < n + 1 then .error 4 else if 64 ≤ deep then .error 3 else foldE (fun n p => fitT (deep + 1) n p.2) (n + 1) l := by
  rw [tObj, fitT, ← fitM_fold, fitL]
  simp only [show (4 : Int) ≤ 5 from by decide, true_and]
/-- how a value ends is said by the text there -/
def Cut (X Z : List UInt8) (a : Nat) (t : Tree) : Prop := t.kind ≠ 2 ∨ Z[a]? = X[a]? ∨ ∀ c, Z[a]? = some c → isFig c = false
theorem numP_agree {X Z : List UInt8} {k n n' a m : Nat} {t : Tree} (hk : k ≤ X.length) (h : numP X k n = .ok t a m) : k ≤ a ∧ a ≤ X.length ∧ t.kind = 2 ∧ m = n ∧ (Z.take a = X.take a → Cut X Z a t → numP Z k n' = .ok t a n') := by
  unfold numP at h
  simp only at h
  have hb := numEnd_bd X k hk
  split at h
  · rename_i hd
    simp only [PR.ok.injEq] at h
    obtain ⟨rfl, rfl, rfl⟩ := h
    refine ⟨hb.1, hb.2, rfl, rfl, fun hZ hcut => ?_⟩
    have he : numEnd Z k = numEnd X k := by
      refine endQ_agree hk hZ hb.2 (Nat.le_refl _) (.inr ?_)
      rcases hcut with h1 | h1 | h1
      · exact absurd rfl h1
      · have := (endQ_spec isFig X _ k rfl hk).2.2.2
        show ∀ c, Z[numEnd X k]? = some c → isFig c = false
        rw [h1]; exact this
      · exact h1
    unfold numP
    simp only
    rw [he, agree_drop (X := X) (Z := Z) (k := k) (a := numEnd X k - k) (by rw [show k + (numEnd X k - k) = numEnd X k by omega]; exact hZ), if_pos hd]
  · cases h
theorem wordP_agree {X Z s : List UInt8} {t t' : Tree} {k n n' a m : Nat} (hk : k ≤ X.length) (h : wordP X s t' k n = .ok t a m) : a = k + s.length ∧ a ≤ X.length ∧ t = t' ∧ m = n ∧ (Z.take a = X.take a → wordP Z s t' k n' = .ok t a n') := by
  unfold wordP at h
  split at h
  · rename_i hs
    simp only [PR.ok.injEq] at h
    obtain ⟨rfl, rfl, rfl⟩ := h
    have hl := congrArg List.length hs
    simp only [List.length_take, List.length_drop] at hl
    refine ⟨rfl, by omega, rfl, rfl, fun hZ => ?_⟩
    unfold wordP
    rw [agree_drop hZ, if_pos hs]
  · cases h
theorem valueP_agree {X Z : List UInt8} : ∀ (f deep k n : Nat) (t : Tree) (a m : Nat), k ≤ X.length → valueP X f deep k n = .ok t a m →
    k < a ∧ a ≤ X.length ∧ (Z.take a = X.take a → Cut X Z a t → ∀ f' deep' n', 65 ≤ f' + deep' → deep' ≤ 64 → SameR (valueP Z f' deep' k n') (fitT deep' n' t) t a)
  | 0, deep, k, n, t, a, m, hk, h => by rw [valueP] at h; cases h
  | f + 1, deep, k, n, t, a, m, hk, h => by
    rw [valueP] at h
    have hw1 := whiteN_ge X k hk
    by_cases hb : peekP X (whiteN X k) ≠ 0 ∧ begs.contains (peekP X (whiteN X k)) = true
    case neg => rw [if_pos hb] at h; cases h
    rw [if_neg (by simpa using hb)] at h
    by_cases hn : 4096 < n + 1
    case pos => rw [if_pos hn] at h; cases h
    rw [if_neg hn] at h
    have hlt : whiteN X k < X.length := (peekP_some rfl hb.1).2
    -- what Z does, as soon as it agrees behind white
    have hpz : whiteN X k < a → a ≤ X.length → Z.take a = X.take a → whiteN Z k = whiteN X k ∧ peekP Z (whiteN X k) = peekP X (whiteN X k) := fun h1 h2 hZ => ⟨white_agree hk hZ h2 h1, agree_peek hZ h1⟩
    generalize hp : whiteN X k = p at *
    generalize hc : peekP X p = c at *
    -- a leaf that ends at a: what its parse says of any text that agrees
    have hleaf : ∀ (r : List UInt8 → Nat → PR Tree), p < a → a ≤ X.length → (∀ (f' deep' n' : Nat), ¬ 4096 < n' + 1 → (whiteN Z k = p ∧ peekP Z p = c) → valueP Z (f' + 1) deep' k n' = r Z (n' + 1)) → (∃ kk b d s, t = .mk kk b d s [] [] ∧ kk < 4) → (Z.take a = X.take a → Cut X Z a t → ∀ n', r Z n' = .ok t a n') →
        (Z.take a = X.take a → Cut X Z a t → ∀ f' deep' n', 65 ≤ f' + deep' → deep' ≤ 64 → SameR (valueP Z f' deep' k n') (fitT deep' n' t) t a) := fun r h1 h2 h3 ht h4 hZ hcut f' deep' n' hf hd => by
      obtain ⟨j, rfl⟩ : ∃ j, f' = j + 1 := ⟨f' - 1, by omega⟩
      obtain ⟨kk, b, d, s, rfl, hkk⟩ := ht
      have hz := hpz h1 h2 hZ
      rw [fitT_leaf hkk]
      by_cases hn' : 4096 < n' + 1
      · rw [if_pos hn', valueP, hz.1, hz.2, if_neg (by simpa using hb), if_pos hn']
        exact ⟨_, rfl⟩
      · rw [if_neg hn', h3 j deep' n' hn' hz, h4 hZ hcut]
        exact rfl
    by_cases h116 : c = 116
    · rw [if_pos h116] at h
      obtain ⟨i1, i2, i3, i4, i5⟩ := wordP_agree (Z := Z) (n' := 0) (Nat.le_of_lt hlt) h
      refine ⟨by simp at i1; omega, i2, hleaf (fun Z n' => wordP Z [116, 114, 117, 101] (tBool true) p n') (by simp at i1; omega) i2 (fun f' deep' n' hn' hz => ?_) ⟨1, true, Num.zero, [], i3, by decide⟩ (fun hZ _ n' => (wordP_agree (Z := Z) (n' := n') (Nat.le_of_lt hlt) h).2.2.2.2 hZ)⟩
      rw [valueP, hz.1, hz.2, if_neg (by simpa using hb), if_neg hn', if_pos h116]
    rw [if_neg h116] at h
    by_cases h102 : c = 102
    · rw [if_pos h102] at h
      obtain ⟨i1, i2, i3, i4, i5⟩ := wordP_agree (Z := Z) (n' := 0) (Nat.le_of_lt hlt) h
      refine ⟨by simp at i1; omega, i2, hleaf (fun Z n' => wordP Z [102, 97, 108, 115, 101] (tBool false) p n') (by simp at i1; omega) i2 (fun f' deep' n' hn' hz => ?_) ⟨1, false, Num.zero, [], i3, by decide⟩ (fun hZ _ n' => (wordP_agree (Z := Z) (n' := n') (Nat.le_of_lt hlt) h).2.2.2.2 hZ)⟩
      rw [valueP, hz.1, hz.2, if_neg (by simpa using hb), if_neg hn', if_neg h116, if_pos h102]
    rw [if_neg h102] at h
    by_cases h110 : c = 110
    · rw [if_pos h110] at h
      obtain ⟨i1, i2, i3, i4, i5⟩ := wordP_agree (Z := Z) (n' := 0) (Nat.le_of_lt hlt) h
      refine ⟨by simp at i1; omega, i2, hleaf (fun Z n' => wordP Z [110, 117, 108, 108] tNull p n') (by simp at i1; omega) i2 (fun f' deep' n' hn' hz => ?_) ⟨0, false, Num.zero, [], i3, by decide⟩ (fun hZ _ n' => (wordP_agree (Z := Z) (n' := n') (Nat.le_of_lt hlt) h).2.2.2.2 hZ)⟩
      rw [valueP, hz.1, hz.2, if_neg (by simpa using hb), if_neg hn', if_neg h116, if_neg h102, if_pos h110]
    rw [if_neg h110] at h
    by_cases h34 : c = 34
    · rw [if_pos h34] at h
      obtain ⟨u, h1, rfl⟩ := PR.map_ok h
      obtain ⟨i1, i2, i3, i4⟩ := textP_agree (Z := Z) (n' := 0) h1
      refine ⟨by omega, i2, hleaf (fun Z n' => (textP Z p n').map tStr) i1 i2 (fun f' deep' n' hn' hz => ?_) ⟨3, false, Num.zero, u, rfl, by decide⟩ (fun hZ _ n' => by rw [(textP_agree (Z := Z) (n' := n') h1).2.2.2 hZ]; rfl)⟩
      rw [valueP, hz.1, hz.2, if_neg (by simpa using hb), if_neg hn', if_neg h116, if_neg h102, if_neg h110, if_pos h34]
    rw [if_neg h34] at h
    by_cases h91 : c = 91
    · rw [if_pos h91] at h
      by_cases hdp : 64 ≤ deep
      · rw [if_pos hdp] at h; cases h
      rw [if_neg hdp] at h
      obtain ⟨u, h1, rfl⟩ := PR.map_ok h
      have hit : ∀ f' deep', 65 ≤ f' + deep' → deep' ≤ 64 → ItemOk X Z (itemA (valueP X f (deep + 1))) (itemA (valueP Z f' deep')) (fun n t => fitT deep' n t) := fun f' deep' hf hd s k n s1 a1 m1 hk hr => by
        unfold itemA at hr
        obtain ⟨x, h2, rfl⟩ := PR.map_ok hr
        obtain ⟨j1, j2, j3⟩ := valueP_agree (Z := Z) f _ _ _ _ _ _ hk h2
        exact ⟨x, rfl, Nat.le_of_lt j1, j2, fun hZ hg n' => (j3 hZ (.inr (.inl hg)) f' deep' n' hf hd).map⟩
      obtain ⟨i1, i2, _⟩ := openP_agree (hit 65 0 (by omega) (by omega)) (by decide) hlt h1
      refine ⟨by omega, i2, fun hZ hcut f' deep' n' hf hd => ?_⟩
      obtain ⟨j, rfl⟩ : ∃ j, f' = j + 1 := ⟨f' - 1, by omega⟩
      have hz := hpz i1 i2 hZ
      rw [valueP, hz.1, hz.2, if_neg (by simpa using hb), fitT_arr]
      by_cases hn' : 4096 < n' + 1
      · rw [if_pos hn', if_pos hn']; exact ⟨_, rfl⟩
      rw [if_neg hn', if_neg hn', if_neg h116, if_neg h102, if_neg h110, if_neg h34, if_pos h91]
      by_cases hd' : 64 ≤ deep'
      · rw [if_pos hd', if_pos hd']; exact ⟨_, rfl⟩
      rw [if_neg hd', if_neg hd']
      exact ((openP_agree (hit j (deep' + 1) (by omega) (by omega)) (by decide) hlt h1).2.2 hZ (n' + 1)).map
    rw [if_neg h91] at h
    by_cases h123 : c = 123
    · rw [if_pos h123] at h
      by_cases hdp : 64 ≤ deep
      · rw [if_pos hdp] at h; cases h
      rw [if_neg hdp] at h
      obtain ⟨u, h1, rfl⟩ := PR.map_ok h
      have hit : ∀ f' deep', 65 ≤ f' + deep' → deep' ≤ 64 → ItemOk X Z (itemO X (valueP X f (deep + 1))) (itemO Z (valueP Z f' deep')) (fun n p => fitT deep' n p.2) := fun f' deep' hf hd s k n s1 a1 m1 hk hr => by
        unfold itemO at hr
        cases ht : textP X (whiteN X k) n with
        | err e b => rw [ht] at hr; cases hr
        | ok key a2 n2 =>
          rw [ht] at hr
          simp only at hr
          obtain ⟨q1, q2, q3, _⟩ := textP_agree (Z := Z) (n' := 0) ht
          have hwk := whiteN_ge X k hk
          have hw2 := whiteN_ge X a2 q2
          split at hr
          · cases hr
          rename_i hany
          split at hr
          · rename_i h58
            obtain ⟨hl58, _⟩ := List.getElem?_eq_some_iff.1 h58
            obtain ⟨x, h2, rfl⟩ := PR.map_ok hr
            obtain ⟨j1, j2, j3⟩ := valueP_agree (Z := Z) f _ _ _ _ _ _ (by omega) h2
            refine ⟨(key, x), rfl, by omega, j2, fun hZ hg n' => ?_⟩
            unfold itemO
            rw [white_agree hk hZ j2 (by omega), (textP_agree (Z := Z) (n' := n') ht).2.2.2 (agree_mono hZ (by omega))]
            simp only
            rw [if_neg hany, white_agree q2 hZ j2 (by omega), if_pos (by rw [agree_get hZ (by omega)]; exact h58)]
            exact (j3 hZ (.inr (.inl hg)) f' deep' n' hf hd).map
          · cases hr
      obtain ⟨i1, i2, _⟩ := openP_agree (hit 65 0 (by omega) (by omega)) (by decide) hlt h1
      refine ⟨by omega, i2, fun hZ hcut f' deep' n' hf hd => ?_⟩
      obtain ⟨j, rfl⟩ : ∃ j, f' = j + 1 := ⟨f' - 1, by omega⟩
      have hz := hpz i1 i2 hZ
      rw [valueP, hz.1, hz.2, if_neg (by simpa using hb), fitT_obj]
      by_cases hn' : 4096 < n' + 1
      · rw [if_pos hn', if_pos hn']; exact ⟨_, rfl⟩
      rw [if_neg hn', if_neg hn', if_neg h116, if_neg h102, if_neg h110, if_neg h34, if_neg h91, if_pos h123]
      by_cases hd' : 64 ≤ deep'
      · rw [if_pos hd', if_pos hd']; exact ⟨_, rfl⟩
      rw [if_neg hd', if_neg hd']
      exact ((openP_agree (hit j (deep' + 1) (by omega) (by omega)) (by decide) hlt h1).2.2 hZ (n' + 1)).map
    rw [if_neg h123] at h
    · obtain ⟨i1, i2, i3, i4, _⟩ := numP_agree (Z := Z) (n' := 0) (Nat.le_of_lt hlt) h
      have hpa : p < a := by
        rcases Nat.lt_or_eq_of_le i1 with h' | h'
        · exact h'
        · exfalso
          -- a number's text is not empty
          unfold numP at h
          simp only at h
          split at h
          · rename_i hd
            simp only [PR.ok.injEq] at h
            obtain ⟨_, e, _⟩ := h
            rw [e, ← h', Nat.sub_self, List.take_zero] at hd
            exact absurd hd (by decide)
          · cases h
      refine ⟨by omega, i2, hleaf (fun Z n' => numP Z p n') hpa i2 (fun f' deep' n' hn' hz => ?_) ?_ (fun hZ hcut n' => (numP_agree (Z := Z) (n' := n') (Nat.le_of_lt hlt) h).2.2.2.2 hZ hcut)⟩
      · rw [valueP, hz.1, hz.2, if_neg (by simpa using hb), if_neg hn', if_neg h116, if_neg h102, if_neg h110, if_neg h34, if_neg h91, if_neg h123]
      · unfold numP at h
        simp only at h
        split at h
        · simp only [PR.ok.injEq] at h
          exact ⟨2, false, _, [], h.1.symm, by decide⟩
        · cases h
end Go.Proofs.YtckpndbmpigegaaDoor
end

section
/- parse: what is parsed may be (plain). -/
set_option linter.unusedVariables false
set_option linter.unusedSimpArgs false
set_option maxRecDepth 100000
namespace Go.Proofs.YtckpndbmpigegaaDoor
open Go.RowKit Go.Mem Orange
theorem formP_sane (neg : Bool) (l : List UInt8) (x : Int) (h : (formP neg l x).2 = 0) : sane (formP neg l x).1 = true := by
  unfold formP at h ⊢
  simp only at h ⊢
  split
  · rfl
  rename_i h1
  rw [if_neg h1] at h
  split
  · rename_i h2; exact h2
  · rename_i h2; rw [if_neg h2] at h; exact absurd (show (4 : Int) = 0 from h) (by decide)
theorem ite_formP {c : Bool} {neg : Bool} {l : List UInt8} {x : Int} (h : (if c = true then (Num.zero, (2 : Int)) else formP neg l x).2 = 0) : sane (if c = true then (Num.zero, (2 : Int)) else formP neg l x).1 = true := by
  cases c with
  | true => exact absurd (show (2 : Int) = 0 from h) (by decide)
  | false => exact formP_sane _ _ _ h
theorem decP_sane (l : List UInt8) (h : (decP l).2 = 0) : sane (decP l).1 = true := by
  unfold decP at h ⊢
  by_cases h1 : 1000 < l.length
  · rw [if_pos h1] at h; exact absurd (show (4 : Int) = 0 from h) (by decide)
  rw [if_neg h1] at h
  rw [if_neg h1]
  exact ite_formP h
theorem sane_digits {d : Num} (h : sane d = true) : d.digits.length ≤ 40 := by
  unfold sane at h
  split at h
  · omega
  split at h
  · cases h
  · rename_i h1
    simp only [Bool.or_eq_true, decide_eq_true_eq, not_or] at h1
    omega
/-- bytes that are characters -/
def Good (out : List UInt8) : Prop := ∃ l : List Int, (∀ r ∈ l, sound r = true) ∧ out = encs l
theorem Good.nil : Good [] := ⟨[], by simp, rfl⟩
theorem Good.put {out : List UInt8} (h : Good out) (r : Int) : Good (out ++ encP r) := by
  obtain ⟨l, hl, rfl⟩ := h
  obtain ⟨s, hs, he⟩ : ∃ s, sound s = true ∧ encP r = enc s := by
    unfold encP
    by_cases hr : sound r = true
    · exact ⟨r, hr, by rw [if_pos hr]⟩
    · exact ⟨65533, by decide, by rw [if_neg hr]⟩
  refine ⟨l ++ [s], fun x hx => ?_, by rw [he]; simp [encs]⟩
  rcases List.mem_append.1 hx with hx | hx
  · exact hl x hx
  · rw [List.mem_singleton.1 hx]; exact hs
theorem Good.check {out : List UInt8} (h : Good out) : check out < 0 := by
  obtain ⟨l, hl, rfl⟩ := h
  have := checkL_encs l hl [] 0
  rw [List.append_nil, checkL_nil] at this
  unfold Orange.check
  rw [this]; decide
theorem textL_good (X : List UInt8) (n : Nat) : ∀ (f k : Nat) (out v : List UInt8) (a m : Nat), k ≤ X.length → Good out → textL X n f k out = .ok v a m → Good v ∧ v.length + 4 * k ≤ out.length + 4 * a ∧ k < a ∧ a ≤ X.length ∧ m = n
  | 0, k, out, v, a, m, hk, hg, h => by rw [textL] at h; cases h
  | f + 1, k, out, v, a, m, hk, hg, h => by
    rw [textL] at h
    by_cases h34 : peekP X k = 34
    · rw [if_pos h34] at h
      simp only [PR.ok.injEq] at h
      obtain ⟨rfl, rfl, rfl⟩ := h
      have := (peekP_some h34 (by decide)).2
      exact ⟨hg, by omega, by omega, by omega, rfl⟩
    rw [if_neg h34] at h
    by_cases hne : 0 < (next (X.drop k)).2 ∧ 32 ≤ (next (X.drop k)).1
    · rw [if_neg (fun h => h hne)] at h
      have hnl := (next_le (X.drop k)).2
      rw [List.length_drop] at hnl
      by_cases h92 : (next (X.drop k)).1 = 92
      · rw [if_pos h92] at h
        by_cases hes : 0 < (escape (X.drop (k + 1))).2
        · rw [if_neg (fun h => h hes)] at h
          have hel := escape_le (X.drop (k + 1))
          rw [List.length_drop] at hel
          obtain ⟨i1, i2, i3, i4, i5⟩ := textL_good X n f _ _ _ _ _ (by omega) (hg.put _) h
          have h4 := encP_le (escape (X.drop (k + 1))).1
          rw [List.length_append] at i2
          exact ⟨i1, by omega, by omega, i4, i5⟩
        · rw [if_pos hes] at h; cases h
      · rw [if_neg h92] at h
        obtain ⟨i1, i2, i3, i4, i5⟩ := textL_good X n f _ _ _ _ _ (by omega) (hg.put _) h
        have h4 := encP_le (next (X.drop k)).1
        rw [List.length_append] at i2
        exact ⟨i1, by omega, by omega, i4, i5⟩
    · rw [if_pos hne] at h; cases h
theorem textP_good {X : List UInt8} {k n a m : Nat} {v : List UInt8} (h : textP X k n = .ok v a m) : Good v ∧ v.length + 4 * k ≤ 4 * a ∧ k + 1 < a ∧ a ≤ X.length ∧ m = n := by
  rw [textP] at h
  split at h
  · rename_i h34
    obtain ⟨hl, _⟩ := List.getElem?_eq_some_iff.1 h34
    obtain ⟨i1, i2, i3, i4, i5⟩ := textL_good X n _ _ _ _ _ _ (by omega) Good.nil h
    simp only [List.length_nil] at i2
    exact ⟨i1, by omega, by omega, i4, i5⟩
  · cases h
theorem listP_inv {ι : Type} {X : List UInt8} {close : UInt8} {it : List ι → Nat → Nat → PR (List ι)} {I : List ι → Nat → Nat → Prop} (hm : ∀ s a a' n, I s a n → a ≤ a' → I s a' n)
    (hi : ∀ s k n s1 a1 m1, k ≤ X.length → I s k n → it s k n = .ok s1 a1 m1 → I s1 a1 m1 ∧ a1 ≤ X.length) : ∀ (f : Nat) (s : List ι) (k n : Nat) (s' : List ι) (a m : Nat), k ≤ X.length → I s k n → listP X close it f s k n = .ok s' a m → ∃ a', a' + 1 = a ∧ I s' a' m
  | 0, s, k, n, s', a, m, hk, hI, h => by rw [listP] at h; cases h
  | f + 1, s, k, n, s', a, m, hk, hI, h => by
    rw [listP] at h
    cases hr : it s k n with
    | err e b => rw [hr] at h; cases h
    | ok s1 a1 m1 =>
      rw [hr] at h
      simp only at h
      obtain ⟨h1, h2⟩ := hi _ _ _ _ _ _ hk hI hr
      have hw := whiteN_ge X a1 h2
      by_cases h44 : peekP X (whiteN X a1) = 44
      · rw [if_pos h44] at h
        have hlt := (peekP_some h44 (by decide)).2
        exact listP_inv hm hi f _ _ _ _ _ _ hlt (hm _ _ _ _ h1 (by omega)) h
      · rw [if_neg h44] at h
        by_cases hcl : X[whiteN X a1]? = some close
        · rw [if_pos hcl] at h
          simp only [PR.ok.injEq] at h
          obtain ⟨rfl, rfl, rfl⟩ := h
          exact ⟨_, rfl, hm _ _ _ _ h1 hw⟩
        · rw [if_neg hcl] at h; cases h
theorem openP_inv {ι : Type} {X : List UInt8} {close : UInt8} {it : List ι → Nat → Nat → PR (List ι)} {I : List ι → Nat → Nat → Prop} (hm : ∀ s a a' n, I s a n → a ≤ a' → I s a' n)
    (hi : ∀ s k n s1 a1 m1, k ≤ X.length → I s k n → it s k n = .ok s1 a1 m1 → I s1 a1 m1 ∧ a1 ≤ X.length) {k n : Nat} {s' : List ι} {a m : Nat} (hk : k < X.length) (hI : I [] k n) (h : openP X close it [] k n = .ok s' a m) : ∃ a', a' + 1 = a ∧ I s' a' m := by
  rw [openP] at h
  have hw : k + 1 ≤ whiteN X (k + 1) := whiteN_ge X (k + 1) hk
  split at h
  · simp only [PR.ok.injEq] at h
    obtain ⟨rfl, rfl, rfl⟩ := h
    exact ⟨_, rfl, hm _ _ _ _ hI (by omega)⟩
  · exact listP_inv hm hi _ _ _ _ _ _ _ (whiteN_le _ _) (hm _ _ _ _ hI (by omega)) h
theorem weightL_append : ∀ (l l' : List Tree), weightL (l ++ l') = weightL l + weightL l'
  | [], l' => by rw [List.nil_append, weightL]; omega
  | t :: l, l' => by rw [List.cons_append, weightL, weightL, weightL_append l l']; omega
theorem weightM_append : ∀ (l l' : List (List UInt8 × Tree)), weightM (l ++ l') = weightM l + weightM l'
  | [], l' => by rw [List.nil_append, weightM]; omega
  | (k, t) :: l, l' => by rw [List.cons_append, weightM, weightM, weightM_append l l']; omega
theorem twiceP_append : ∀ (l met : List (List UInt8)) (k : List UInt8), twiceP met (l ++ [k]) = (twiceP met l || met.contains k || l.contains k)
  | [], met, k => by simp [twiceP]
  | x :: l, met, k => by
    rw [List.cons_append, twiceP, twiceP, twiceP_append l (x :: met) k]
    simp only [List.contains_cons]
    cases (k == x) <;> cases met.contains k <;> cases met.contains x <;> cases twiceP (x :: met) l <;> cases l.contains k <;> rfl
theorem leaf_sane {kk : Int} {b : Bool} {d : Num} {s : List UInt8} {deep n : Nat} (hk : kk < 4) (hf : fieldsT (.mk kk b d s [] []) = true) (hn : ¬ 4096 < n + 1) : saneT deep n (.mk kk b d s [] []) = (0, n + 1) := by
  rw [saneT, hf, if_neg (by decide), if_neg (by decide), if_neg (fun h => by omega), if_neg hn]
  simp only [saneL, saneM, if_true]
/-- what is parsed may be, is counted as the parser counts, and holds no more than so much -/
theorem valueP_sane (X : List UInt8) : ∀ (f deep k n : Nat) (t : Tree) (a m : Nat), k ≤ X.length → valueP X f deep k n = .ok t a m → saneT deep n t = (0, m) ∧ weightT t + 50 * k ≤ 50 * a ∧ k < a ∧ a ≤ X.length
  | 0, deep, k, n, t, a, m, hk, h => by rw [valueP] at h; cases h
  | f + 1, deep, k, n, t, a, m, hk, h => by
    have hag := valueP_agree (Z := X) (f + 1) deep k n t a m hk h
    rw [valueP] at h
    have hw1 := whiteN_ge X k hk
    by_cases hb : peekP X (whiteN X k) ≠ 0 ∧ begs.contains (peekP X (whiteN X k)) = true
    case neg => rw [if_pos hb] at h; cases h
    rw [if_neg (fun h => h hb)] at h
    by_cases hn : 4096 < n + 1
    case pos => rw [if_pos hn] at h; cases h
    rw [if_neg hn] at h
    have hlt : whiteN X k < X.length := (peekP_some rfl hb.1).2
    refine ⟨?_, ?_, hag.1, hag.2.1⟩ <;> generalize whiteN X k = p at * <;> generalize peekP X p = c at *
    all_goals
      have hag1 := hag.1
      have hag2 := hag.2.1
      clear hag
    · by_cases h116 : c = 116
      · rw [if_pos h116] at h
        obtain ⟨i1, i2, i3, i4, i5⟩ := wordP_agree (Z := X) (n' := 0) (Nat.le_of_lt hlt) h
        subst i3 i4; exact leaf_sane (by decide) (by decide) hn
      rw [if_neg h116] at h
      by_cases h102 : c = 102
      · rw [if_pos h102] at h
        obtain ⟨i1, i2, i3, i4, i5⟩ := wordP_agree (Z := X) (n' := 0) (Nat.le_of_lt hlt) h
        subst i3 i4; exact leaf_sane (by decide) (by decide) hn
      rw [if_neg h102] at h
      by_cases h110 : c = 110
      · rw [if_pos h110] at h
        obtain ⟨i1, i2, i3, i4, i5⟩ := wordP_agree (Z := X) (n' := 0) (Nat.le_of_lt hlt) h
        subst i3 i4; exact leaf_sane (by decide) (by decide) hn
      rw [if_neg h110] at h
      by_cases h34 : c = 34
      · rw [if_pos h34] at h
        obtain ⟨u, h1, rfl⟩ := PR.map_ok h
        obtain ⟨g1, g2, g3, g4, rfl⟩ := textP_good h1
        exact leaf_sane (by decide) (by simp [fieldsT, tStr, g1.check]) hn
      rw [if_neg h34] at h
      by_cases h91 : c = 91
      · rw [if_pos h91] at h
        by_cases hdp : 64 ≤ deep
        · rw [if_pos hdp] at h; cases h
        rw [if_neg hdp] at h
        obtain ⟨l, h1, rfl⟩ := PR.map_ok h
        have hinv := openP_inv (I := fun s a n' => saneL (deep + 1) (n + 1) s = (0, n')) (fun s a a' n' h _ => h) (fun s k' n' s1 a1 m1 hk' hI hr => by
          obtain ⟨x, h2, rfl⟩ := PR.map_ok (f := fun t => s ++ [t]) hr
          obtain ⟨j1, j2, j3, j4⟩ := valueP_sane X f (deep + 1) k' n' x a1 m1 hk' h2
          refine ⟨?_, j4⟩
          show saneL (deep + 1) (n + 1) (s ++ [x]) = (0, m1)
          have hI : saneL (deep + 1) (n + 1) s = (0, n') := hI
          rw [saneL_append, hI, if_pos rfl, saneL, j1]; simp only [if_true]; rw [saneL]) hlt (by rw [saneL]) h1
        obtain ⟨_, _, hinv⟩ := hinv
        have hinv : saneL (deep + 1) (n + 1) l = (0, m) := hinv
        rw [tArr, saneT, if_neg (by simp [fieldsT]), if_neg (by simp [twiceP]), if_neg (fun h => hdp h.2), if_neg hn, hinv]
        simp only [saneM, if_true]
      rw [if_neg h91] at h
      by_cases h123 : c = 123
      · rw [if_pos h123] at h
        by_cases hdp : 64 ≤ deep
        · rw [if_pos hdp] at h; cases h
        rw [if_neg hdp] at h
        obtain ⟨l, h1, rfl⟩ := PR.map_ok h
        have hinv := openP_inv (I := fun s a n' => saneM (deep + 1) (n + 1) s = (0, n') ∧ s.any badKey = false ∧ twiceP [] (s.map (·.1)) = false) (fun s a a' n' h _ => h) (fun s k' n' s1 a1 m1 hk' hI hr => by
          unfold itemO at hr
          cases ht : textP X (whiteN X k') n' with
          | err e b => rw [ht] at hr; cases hr
          | ok key a2 n2 =>
            rw [ht] at hr
            simp only at hr
            obtain ⟨g1, g2, g3, g4, rfl⟩ := textP_good ht
            have hw2 := whiteN_ge X a2 g4
            split at hr
            · cases hr
            rename_i hany
            split at hr
            · rename_i h58
              obtain ⟨hl58, _⟩ := List.getElem?_eq_some_iff.1 h58
              obtain ⟨x, h2, rfl⟩ := PR.map_ok hr
              obtain ⟨j1, j2, j3, j4⟩ := valueP_sane X f (deep + 1) _ _ x a1 m1 (by omega) h2
              obtain ⟨hI1, hI2, hI3⟩ := hI
              refine ⟨⟨?_, ?_, ?_⟩, j4⟩
              · rw [saneM_map] at hI1 ⊢
                rw [List.map_append, saneL_append, hI1, if_pos rfl, List.map_cons, List.map_nil, saneL, j1]; simp only [if_true]; rw [saneL]
              · rw [List.any_append, hI2]
                have hc := g1.check
                simp [badKey]; exact hc
              · rw [List.map_append, List.map_cons, List.map_nil, twiceP_append, hI3]
                have hne : (s.map (·.1)).contains key = false := by
                  cases hcc : (s.map (·.1)).contains key with
                  | false => rfl
                  | true =>
                    exfalso; apply hany
                    rw [List.contains_iff_mem] at hcc
                    obtain ⟨q, hq, he⟩ := List.mem_map.1 hcc
                    exact List.any_eq_true.2 ⟨q, hq, by rw [he]; simp⟩
                rw [hne]; rfl
            · cases hr) hlt ⟨by rw [saneM], rfl, rfl⟩ h1
        obtain ⟨_, _, v1, v2, v3⟩ := hinv
        rw [tObj, saneT, if_neg (by simp [fieldsT, v2]), if_neg (by rw [v3]; decide), if_neg (fun h => hdp h.2), if_neg hn, saneL]
        simp only [if_true]
        exact v1
      rw [if_neg h123] at h
      unfold numP at h
      simp only at h
      split at h
      · rename_i hd
        simp only [PR.ok.injEq] at h
        obtain ⟨rfl, rfl, rfl⟩ := h
        exact leaf_sane (by decide) (by simp [fieldsT, decP_sane _ hd]) hn
      · cases h
    · by_cases h116 : c = 116
      · rw [if_pos h116] at h
        obtain ⟨i1, i2, i3, i4, i5⟩ := wordP_agree (Z := X) (n' := 0) (Nat.le_of_lt hlt) h
        subst i3; show 1 + 50 * k ≤ _; omega
      rw [if_neg h116] at h
      by_cases h102 : c = 102
      · rw [if_pos h102] at h
        obtain ⟨i1, i2, i3, i4, i5⟩ := wordP_agree (Z := X) (n' := 0) (Nat.le_of_lt hlt) h
        subst i3; show 1 + 50 * k ≤ _; omega
      rw [if_neg h102] at h
      by_cases h110 : c = 110
      · rw [if_pos h110] at h
        obtain ⟨i1, i2, i3, i4, i5⟩ := wordP_agree (Z := X) (n' := 0) (Nat.le_of_lt hlt) h
        subst i3; show 1 + 50 * k ≤ _; omega
      rw [if_neg h110] at h
      by_cases h34 : c = 34
      · rw [if_pos h34] at h
        obtain ⟨u, h1, rfl⟩ := PR.map_ok h
        obtain ⟨g1, g2, g3, g4, g5⟩ := textP_good h1
        rw [tStr, weightT, weightL, weightM]
        show 1 + u.length + 0 + 0 + 0 + _ ≤ _
        omega
      rw [if_neg h34] at h
      by_cases h91 : c = 91
      · rw [if_pos h91] at h
        by_cases hdp : 64 ≤ deep
        · rw [if_pos hdp] at h; cases h
        rw [if_neg hdp] at h
        obtain ⟨l, h1, rfl⟩ := PR.map_ok h
        have hinv := openP_inv (I := fun s a _ => weightL s + 50 * p ≤ 50 * a) (fun s a a' n' h h' => by omega) (fun s k' n' s1 a1 m1 hk' hI hr => by
          obtain ⟨x, h2, rfl⟩ := PR.map_ok (f := fun t => s ++ [t]) hr
          obtain ⟨j1, j2, j3, j4⟩ := valueP_sane X f (deep + 1) k' n' x a1 m1 hk' h2
          refine ⟨?_, j4⟩
          rw [weightL_append, weightL, weightL]
          omega) hlt (by rw [weightL]; omega) h1
        obtain ⟨a', rfl, hinv⟩ := hinv
        rw [tArr, weightT, weightM]
        show 1 + 0 + 0 + weightL l + 0 + _ ≤ _
        omega
      rw [if_neg h91] at h
      by_cases h123 : c = 123
      · rw [if_pos h123] at h
        by_cases hdp : 64 ≤ deep
        · rw [if_pos hdp] at h; cases h
        rw [if_neg hdp] at h
        obtain ⟨l, h1, rfl⟩ := PR.map_ok h
        have hinv := openP_inv (I := fun s a _ => weightM s + 50 * p ≤ 50 * a) (fun s a a' n' h h' => by omega) (fun s k' n' s1 a1 m1 hk' hI hr => by
          unfold itemO at hr
          cases ht : textP X (whiteN X k') n' with
          | err e b => rw [ht] at hr; cases hr
          | ok key a2 n2 =>
            rw [ht] at hr
            simp only at hr
            obtain ⟨g1, g2, g3, g4, g5⟩ := textP_good ht
            have hw2 := whiteN_ge X a2 g4
            have hw3 := whiteN_ge X k' hk'
            split at hr
            · cases hr
            split at hr
            · rename_i h58
              obtain ⟨hl58, _⟩ := List.getElem?_eq_some_iff.1 h58
              obtain ⟨x, h2, rfl⟩ := PR.map_ok hr
              obtain ⟨j1, j2, j3, j4⟩ := valueP_sane X f (deep + 1) _ _ x a1 m1 (by omega) h2
              refine ⟨?_, j4⟩
              rw [weightM_append, weightM, weightM]
              omega
            · cases hr) hlt (by rw [weightM]; omega) h1
        obtain ⟨a', rfl, hinv⟩ := hinv
        rw [tObj, weightT, weightL]
        show 1 + 0 + 0 + 0 + weightM l + _ ≤ _
        omega
      rw [if_neg h123] at h
      have hpa : p < a := by
        obtain ⟨i1, i2, i3, i4, _⟩ := numP_agree (Z := X) (n' := 0) (Nat.le_of_lt hlt) h
        rcases Nat.lt_or_eq_of_le i1 with h' | h'
        · exact h'
        · exfalso
          unfold numP at h
          simp only at h
          split at h
          · rename_i hd
            simp only [PR.ok.injEq] at h
            obtain ⟨_, e, _⟩ := h
            rw [e, ← h', Nat.sub_self, List.take_zero] at hd
            exact absurd hd (by decide)
          · cases h
      unfold numP at h
      simp only at h
      split at h
      · rename_i hd
        simp only [PR.ok.injEq] at h
        obtain ⟨rfl, e2, rfl⟩ := h
        have h40 := sane_digits (decP_sane _ hd)
        rw [tNum, weightT, weightL, weightM]
        show 1 + 0 + _ + 0 + 0 + _ ≤ _
        omega
      · cases h
/-- by which byte a value begins, so is its kind -/
theorem valueP_kind {X : List UInt8} {f deep k n a m : Nat} {t : Tree} (h : valueP X f deep k n = .ok t a m) : t.kind = if peekP X (whiteN X k) = 116 ∨ peekP X (whiteN X k) = 102 then 1 else if peekP X (whiteN X k) = 110 then 0 else if peekP X (whiteN X k) = 34 then 3 else if peekP X (whiteN X k) = 91 then 4 else if peekP X (whiteN X k) = 123 then 5 else 2 := by
  cases f with
  | zero => rw [valueP] at h; cases h
  | succ f =>
    rw [valueP] at h
    split at h
    · cases h
    split at h
    · cases h
    generalize peekP X (whiteN X k) = c at *
    generalize whiteN X k = p at *
    have hword : ∀ s t', wordP X s t' p (n + 1) = .ok t a m → t = t' := fun s t' h => by
      unfold wordP at h
      split at h
      · simp only [PR.ok.injEq] at h; exact h.1.symm
      · cases h
    split at h
    · rename_i hc; rw [hword _ _ h, if_pos (.inl hc)]; rfl
    split at h
    · rename_i hc; rw [hword _ _ h, if_pos (.inr hc)]; rfl
    rename_i n1 n2
    rw [if_neg (fun h => h.elim n1 n2)]
    split at h
    · rename_i hc; rw [hword _ _ h, if_pos hc]; rfl
    rename_i n3
    rw [if_neg n3]
    split at h
    · rename_i hc; obtain ⟨u, _, rfl⟩ := PR.map_ok h; rw [if_pos hc]; rfl
    rename_i n4
    rw [if_neg n4]
    split at h
    · rename_i hc
      split at h
      · cases h
      · obtain ⟨u, _, rfl⟩ := PR.map_ok h; rw [if_pos hc]; rfl
    rename_i n5
    rw [if_neg n5]
    split at h
    · rename_i hc
      split at h
      · cases h
      · obtain ⟨u, _, rfl⟩ := PR.map_ok h; rw [if_pos hc]; rfl
    rename_i n6
    rw [if_neg n6]
    unfold numP at h
    simp only at h
    split at h
    · simp only [PR.ok.injEq] at h; rw [← h.1]; rfl
    · cases h
/-- the law, of the parser's function -/
theorem sane_law {b : List UInt8} {t : Tree} {a m : Nat} (hb : b.length ≤ 65536) (h : valueP b 65 0 0 0 = .ok t a m) : a ≤ b.length ∧ 1 ≤ a ∧ parseP (b.take a) = (t, 0, a) ∧ (t.kind = 2 ∨ (parseP (b.take (a - 1))).2.1 ≠ 0) ∧ (saneT 0 0 t).1 = 0 ∧ weightT t ≤ 50 * b.length := by
  have hz : ∀ x : List UInt8, oneP x 0 = valueP x 65 0 0 0 := fun x => by unfold oneP; rw [show clampN x.length 0 = 0 from by unfold clampN; omega]
  obtain ⟨j1, j2, j3, j4⟩ := valueP_sane b 65 0 0 0 t a m (Nat.zero_le _) h
  have hta : (b.take a).length = a := by rw [List.length_take]; omega
  refine ⟨j4, by omega, ?_, ?_, by rw [j1], by omega⟩
  · have hv : valueP (b.take a) 65 0 0 0 = .ok t a m := by
      have h1 := (valueP_agree (Z := b.take a) 65 0 0 0 t a m (Nat.zero_le _) h).2.2 (by rw [List.take_take, Nat.min_self]) (.inr (.inr fun c hc => by rw [List.getElem?_eq_none (by omega)] at hc; cases hc)) 65 0 0 (by omega) (by omega)
      have h2 := (valueP_agree (Z := b) 65 0 0 0 t a m (Nat.zero_le _) h).2.2 rfl (.inr (.inl rfl)) 65 0 0 (by omega) (by omega)
      cases hx : fitT 0 0 t with
      | error e => rw [hx] at h2; obtain ⟨p, h2⟩ := h2; rw [h] at h2; cases h2
      | ok m' =>
        rw [hx] at h1 h2
        have h1 : valueP (b.take a) 65 0 0 0 = .ok t a m' := h1
        have h2 : valueP b 65 0 0 0 = .ok t a m' := h2
        rw [h] at h2
        simp only [PR.ok.injEq, true_and] at h2
        rw [h1, h2]
    have hw : whiteN (b.take a) a = a := endQ_end hta.symm
    unfold parseP
    rw [if_neg (by omega), hz, hv]
    simp only
    rw [hw, if_neg (by omega)]
  · by_cases hk : t.kind = 2
    · exact .inl hk
    refine .inr fun he => ?_
    have hl1 : (b.take (a - 1)).length = a - 1 := by rw [List.length_take]; omega
    unfold parseP at he
    rw [if_neg (by omega), hz] at he
    have hf := valueP_fine 65 0 0 0 (Nat.zero_le (b.take (a - 1)).length)
    cases hop : valueP (b.take (a - 1)) 65 0 0 0 with
    | err e p => rw [hop] at he hf; exact hf.1 he
    | ok t2 a2 m2 =>
      obtain ⟨q1, q2, q3⟩ := valueP_agree (Z := b) 65 0 0 0 t2 a2 m2 (Nat.zero_le _) hop
      have hlt : whiteN (b.take (a - 1)) 0 < a - 1 := by
        have hb : peekP (b.take (a - 1)) (whiteN (b.take (a - 1)) 0) ≠ 0 := by
          intro h0
          rw [valueP, h0, if_pos (by simp)] at hop
          cases hop
        have := (peekP_some rfl hb).2
        omega
      have hz2 : b.take (a - 1) = (b.take (a - 1)).take (a - 1) := by rw [List.take_take, Nat.min_self]
      have hw2 : whiteN b 0 = whiteN (b.take (a - 1)) 0 := white_agree (X := b.take (a - 1)) (a := a - 1) (Nat.zero_le _) hz2 (by omega) hlt
      have hp2 : peekP b (whiteN (b.take (a - 1)) 0) = peekP (b.take (a - 1)) (whiteN (b.take (a - 1)) 0) := agree_peek (X := b.take (a - 1)) hz2 hlt
      have hk2 : t2.kind = t.kind := by rw [valueP_kind hop, valueP_kind h, hw2, hp2]
      have h5 := q3 (agree_mono hz2 (by omega)) (.inl (by rw [hk2]; exact hk)) 65 0 0 (by omega) (by omega)
      cases hx : fitT 0 0 t2 with
      | error e => rw [hx] at h5; obtain ⟨p, h5⟩ := h5; rw [h] at h5; cases h5
      | ok m' =>
        rw [hx] at h5
        have h5 : valueP b 65 0 0 0 = .ok t2 a2 m' := h5
        rw [h] at h5
        simp only [PR.ok.injEq] at h5
        omega
end Go.Proofs.YtckpndbmpigegaaDoor
end
