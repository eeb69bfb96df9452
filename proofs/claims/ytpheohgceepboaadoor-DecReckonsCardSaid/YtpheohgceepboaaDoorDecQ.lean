/- dec: what Mul's two closures do. -/
import Derived.Test.YtpheohgceepboaaDoorDecN
import Derived.OneCell
set_option linter.unusedVariables false
set_option linter.unusedSimpArgs false
set_option maxRecDepth 100000
namespace Go.Proofs.YtpheohgceepboaaDoor
open Go.RowKit Go.Mem Orange

/-- a variable in a box -/
def Box (w : World) (p : Nat) (v : Value) (t : TypeId) : Prop := w.heap[p]? = some (.cells #[v] t (0, 0))
theorem Box.lt {w : World} {p : Nat} {v : Value} {t : TypeId} (h : Box w p v t) : p < w.heap.size := lt_of_block h
theorem Box.ext {w w' : World} {p : Nat} {v : Value} {t : TypeId} (h : Box w p v t) (hb : Ext w w') : Box w' p v t := by
  have := hb.block p h.lt
  unfold Box at h ⊢; rw [this]; exact h
theorem Box.cell {w : World} {p : Nat} {v : Value} {t : TypeId} (h : Box w p v t) : w.cell? ⟨p, 0, none⟩ = some v := cell_of_one h
theorem Box.free {w : World} {p : Nat} {v : Value} {t : TypeId} (h : Box w p v t) : w.frozen? ⟨p, 0, none⟩ = false := free_of_one h
theorem Box.new (w : World) (v : Value) (t : TypeId) : Box (w.alloc (.cells #[v] t)) w.heap.size v t := heap_alloc_new _ _
theorem Box.setOther {w : World} {p q i : Nat} {v : Value} {t : TypeId} (h : Box w p v t) (hq : p ≠ q) (u : Value) : Box (w.setCell ⟨q, i, none⟩ u) p v t := by
  unfold Box at h ⊢; rw [Below.heap_setCell _ _ _ _ hq]; exact h
abbrev rowV (b n : Nat) : Value := .slice (some ⟨b, 0, none⟩) n n
set_option maxHeartbeats 3200000 in
theorem tell_any (pl px py bl bx c nl nx ny i k : Nat) (L X Y : Nat → Int) (w : World) (hpl : Box w pl (rowV bl nl) 52) (hpx : Box w px (rowV bx nx) 52) (hpy : Box w py (rowV c ny) 52)
    (hL : Ints w bl nl L) (hX : Ints w bx nx X) (hY : Ints w c ny Y) (hi : i < nx) (hk : k < ny) (hj : i + k < nl) (hn : nl ≤ 1000000) (hnx : nx ≤ 1000000) (hny : ny ≤ 1000000)
    (hLb : 0 ≤ L (i + k) ∧ L (i + k) ≤ 1000000) (hXb : 0 ≤ X i ∧ X i ≤ 9) (hYb : 0 ≤ Y k ∧ Y k ≤ 9) :
    Calls Tryd.prog 35 #[.int .i64 i, .int .i64 k, .pointer (some ⟨pl, 0, none⟩), .pointer (some ⟨px, 0, none⟩), .pointer (some ⟨py, 0, none⟩)] w
      fun e w' => e = .returned (.tuple #[]) ∧ ∃ w3, Ext w w3 ∧ w' = w3.setCell ⟨bl, i + k, none⟩ (.int .i64 (L (i + k) + X i * Y k)) := by
  have HPL := Lib.hid hpl
  have HPX := Lib.hid hpx
  have HPY := Lib.hid hpy
  have HL := Lib.hid hL
  have HX := Lib.hid hX
  have HY := Lib.hid hY
  have hm := mul9 hXb.1 hXb.2 hYb.1 hYb.2
  clear hpl hpx hpy hL hX hY
  obtain ⟨J, hJ⟩ : ∃ J, i + k = J := ⟨_, rfl⟩
  rw [hJ] at hj hLb ⊢
  obtain ⟨P, hP⟩ : ∃ P, X i * Y k = P := ⟨_, rfl⟩
  rw [hP] at hm ⊢
  have e1 : IntKind.i64.wrap ((i : Int) + k) = (J : Int) := by rw [IntWalk.i64_in _ (by omega)]; omega
  have e2 : IntKind.i64.wrap (X i * Y k) = P := by rw [hP]; exact IntWalk.i64_in _ (by omega)
  have e3 : IntKind.i64.wrap (L J + P) = L J + P := IntWalk.i64_in _ (by omega)
  have e4 : IntKind.i64.wrap ((J : Nat) : Int) = J := IntWalk.i64_in _ (by omega)
  have b1 : (J : Int) < nl := by omega
  have b2 : (0 : Int) ≤ J := by omega
  have b3 : (i : Int) < nx := by omega
  have b4 : (k : Int) < ny := by omega
  have b5 : (0 : Int) ≤ i := by omega
  have b6 : (0 : Int) ≤ k := by omega
  have HXI : Hid (∀ w', Ext w w' → w'.cell? ⟨bx, i, none⟩ = some (.int .i64 (X i))) := Lib.hid (fun w' h => (HX.out.ext h).cell hi)
  have HYI : Hid (∀ w', Ext w w' → w'.cell? ⟨c, k, none⟩ = some (.int .i64 (Y k))) := Lib.hid (fun w' h => (HY.out.ext h).cell hk)
  have HLI : Hid (∀ w', Ext w w' → w'.cell? ⟨bl, J, none⟩ = some (.int .i64 (L J)) ∧ w'.frozen? ⟨bl, J, none⟩ = false) := Lib.hid (fun w' h => ⟨(HL.out.ext h).cell hj, World.rowIs.frozen (HL.out.ext h) J⟩)
  generalize X i = x at *
  generalize Y k = y at *
  generalize L J = v at *
  clear hP hJ HX HY HL
  go_enter Tryd.func35, Tryd.ntmps35
  go_wp2_with fail
  refine Grow.wp_region_tail (G := Ext) (B := fun w' => Ext w w') (anc := fun _ => []) (I := fun j => none) 17 (by kernel_rfl) (by kernel_rfl) (by kernel_rfl) ?_ ?_ ?_
  · exact fun w w' h hg => ext_trans h hg
  · exact (ext_refl _).drew
  · simp only [List.take_succ_cons, List.take_zero, List.drop_succ_cons, List.drop_zero]
    repeat
      (refine Grow.walk_step (fun K hK => ?_)
       first
       | (refine Grow.step_read (by rfl) (by rfl) ext_refl ?_
          apply Exists.intro
          refine ⟨fun w hB hF => ?_, ?_⟩
          · have c1 := (HPL.out.ext hB).cell; have c2 := (HPX.out.ext hB).cell; have c3 := (HPY.out.ext hB).cell; have c4 := HXI.out _ hB; have c5 := HYI.out _ hB; have c6 := (HLI.out _ hB).1; simp only [rowV] at c1 c2 c3
            go_simp
            try exact rfl
          go_simp
          refine hK _ _ ?_
          clear hK K)
       | (refine Grow.step_off (by rfl) ?_
          go_simp
          refine hK _ _ ?_
          clear hK K))
    refine Grow.walk_nil ?_
    intro w3 hB hF
    clear hF
    obtain ⟨s1, s2⟩ := HLI.out _ hB
    go_wp2_with fail
    go_end0
    exact ⟨rfl, w3, hB, rfl⟩
structure MulInv (B : Nat) (w0 : World) (pl px py bl bx c nl nx ny : Nat) (X Y F : Nat → Int) (w : World) : Prop where
  l : Box w pl (rowV bl nl) 52
  x : Box w px (rowV bx nx) 52
  y : Box w py (rowV c ny) 52
  L : Ints w bl nl F
  X : Ints w bx nx X
  Y : Ints w c ny Y
  b : Below B w0 w
structure MulNum (B : Nat) (pl px py bl bx c nl nx ny : Nat) (X Y : Nat → Int) : Prop where
  n0 : bl ≠ pl
  n1 : bl ≠ px
  n2 : bl ≠ py
  n3 : bl ≠ bx
  n4 : bl ≠ c
  nB : B ≤ bl
  hl : nl = nx + ny + 1
  hx : nx ≤ 1000
  hy : ny ≤ 1000
  X9 : ∀ i, 0 ≤ X i ∧ X i ≤ 9
  Y9 : ∀ i, 0 ≤ Y i ∧ Y i ≤ 9
theorem MulInv.step {B : Nat} {w0 w w3 : World} {pl px py bl bx c nl nx ny : Nat} {X Y F G : Nat → Int} (hN : MulNum B pl px py bl bx c nl nx ny X Y) (h : MulInv B w0 pl px py bl bx c nl nx ny X Y F w) (hE : Ext w w3) (hB : B ≤ w.heap.size) (J : Nat) (v : Int) (hG : ∀ j, j < nl → G j = if j = J then v else F j) :
    MulInv B w0 pl px py bl bx c nl nx ny X Y G (w3.setCell ⟨bl, J, none⟩ (.int .i64 v)) :=
  ⟨(h.l.ext hE).setOther (Ne.symm hN.n0) _, (h.x.ext hE).setOther (Ne.symm hN.n1) _, (h.y.ext hE).setOther (Ne.symm hN.n2) _, (h.L.ext hE).set J v hG, World.rowIs.setOther (h.X.ext hE) (Ne.symm hN.n3) _, World.rowIs.setOther (h.Y.ext hE) (Ne.symm hN.n4) _, (h.b.trans (hE.mono hB)).setCell hN.nB _⟩
theorem MulInv.congr {B : Nat} {w0 w : World} {pl px py bl bx c nl nx ny : Nat} {X Y F G : Nat → Int} (h : MulInv B w0 pl px py bl bx c nl nx ny X Y F w) (hG : ∀ j, j < nl → F j = G j) : MulInv B w0 pl px py bl bx c nl nx ny X Y G w :=
  { h with L := World.rowIs.congr h.L (fun i hi => by rw [hG i hi]) }
set_option maxHeartbeats 6400000 in
theorem each_any (B : Nat) (w0 : World) (pl px py bl bx c nl nx ny : Nat) (X Y : Nat → Int) (w : World) (hB : B ≤ w0.heap.size) (hN : MulNum B pl px py bl bx c nl nx ny X Y) (hI : MulInv B w0 pl px py bl bx c nl nx ny X Y (prodF X Y ny 0) w) :
    Calls Tryd.prog 34 #[.func (.func 35) #[] #[.pointer (some ⟨pl, 0, none⟩), .pointer (some ⟨px, 0, none⟩), .pointer (some ⟨py, 0, none⟩)], .pointer (some ⟨px, 0, none⟩), .pointer (some ⟨py, 0, none⟩)] w
      fun e w' => e = .returned (.tuple #[]) ∧ MulInv B w0 pl px py bl bx c nl nx ny X Y (prodF X Y ny nx) w' := by
  have c1 := hI.x.cell
  simp only [rowV] at c1
  have HN := Lib.hid hN
  have HI := Lib.hid hI
  have hx1 := hN.hx
  have hy1 := hN.hy
  clear hI hN
  go_enter Tryd.func34, Tryd.ntmps34
  go_wp2_with fail
  clear c1
  go_loopw [4, 8] (fun _ kv wr => ∃ i : Nat, kv = .int .i64 i ∧ i ≤ nx ∧ MulInv B w0 pl px py bl bx c nl nx ny X Y (prodF X Y ny i) wr) (fun _ kv _ => nx - (intOf kv).toNat)
  case atStart => exact ⟨0, rfl, by omega, HI.out⟩
  case round =>
    obtain ⟨i, rfl, hi, hint⟩ := hrel
    have HINT := Lib.hid hint
    clear hint
    by_cases hlt : i < nx
    · have c2 := HINT.out.y.cell
      simp only [rowV] at c2
      go_wp2_with fail
      clear c2
      go_loopw [5, 13] (fun _ kv ws => ∃ k : Nat, kv = .int .i64 k ∧ k ≤ ny ∧ MulInv B w0 pl px py bl bx c nl nx ny X Y (addRow (prodF X Y ny i) i X Y k) ws) (fun _ kv _ => ny - (intOf kv).toNat)
      case atStart => exact ⟨0, rfl, by omega, by rw [addRow_zero]; exact HINT.out⟩
      case round =>
        obtain ⟨k, rfl, hk, hint2⟩ := hrel
        have HIN2 := Lib.hid hint2
        clear hint2
        by_cases hlt2 : k < ny
        · have hj : i + k < nl := by have := HN.out.hl; omega
          have hbd := addRow_bd i k HN.out.X9 HN.out.Y9 (prodF_bd ny HN.out.X9 HN.out.Y9 i) (i + k)
          have HBD : Hid (0 ≤ addRow (prodF X Y ny i) i X Y k (i + k) ∧ addRow (prodF X Y ny i) i X Y k (i + k) ≤ 1000000) := Lib.hid (by omega)
          clear hbd
          go_wp2_with fail
          refine (tell_any pl px py bl bx c nl nx ny i k (addRow (prodF X Y ny i) i X Y k) X Y _ HIN2.out.l HIN2.out.x HIN2.out.y HIN2.out.L HIN2.out.X HIN2.out.Y hlt hlt2 hj (by have := HN.out.hl; omega) (by omega) (by omega) HBD.out (HN.out.X9 i) (HN.out.Y9 k)).mono ?_
          rintro e w9 ⟨rfl, w3, hw3, hw9⟩
          have HS : Hid (MulInv B w0 pl px py bl bx c nl nx ny X Y (addRow (prodF X Y ny i) i X Y (k + 1)) w9) := Lib.hid (by
            rw [hw9]
            exact HIN2.out.step HN.out hw3 (Nat.le_trans hB HIN2.out.b.size) (i + k) _ (fun j _ => by
              rw [addRow_step]
              by_cases q : j = i + k
              · subst q; rw [if_pos rfl]
              · rw [if_neg q, if_neg q]))
          clear hw9 hw3
          go_wp2_with fail
          go_roundw
          case rel => exact ⟨k + 1, by go_num, by omega, HS.out⟩
          case measure => simp [intOf]; omega
        · obtain rfl : k = ny := by omega
          go_wp2_with fail
          go_roundw
          case rel => exact ⟨i + 1, by go_num, by omega, HIN2.out⟩
          case measure => simp [intOf]; omega
    · obtain rfl : i = nx := by omega
      go_wp2_with fail
      go_end0
      exact ⟨rfl, HINT.out⟩
end Go.Proofs.YtpheohgceepboaaDoor
