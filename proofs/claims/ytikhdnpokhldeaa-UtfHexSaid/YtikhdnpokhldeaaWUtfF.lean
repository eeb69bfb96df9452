/- utf: what Less does. -/
import Derived.Test.YtikhdnpokhldeaaWUtfE
set_option linter.unusedVariables false
namespace Go.Proofs.Ytikhdnpokhldeaa
open Go.RowKit Go.Mem Orange

theorem marks_len : ∀ (b : List UInt8), (marks b).length ≤ b.length := by
  have h : ∀ (n : Nat) (b : List UInt8), b.length ≤ n → (marks b).length ≤ b.length := by
    intro n
    induction n with
    | zero => intro b hb; cases b with
      | nil => simp [marks_nil]
      | cons x t => simp at hb
    | succ n ih =>
      intro b hb
      cases b with
      | nil => simp [marks_nil]
      | cons x t =>
        rw [marks_cons, List.length_cons]
        have ha := adv_pos (x :: t)
        have := ih ((x :: t).drop (adv (x :: t))) (by simp at hb ⊢; omega)
        simp at this ⊢; omega
  exact fun b => h b.length b (Nat.le_refl _)
def cells32 (xs : List Int) : List Value := xs.map fun r => Value.int .i32 r
theorem info32 : (Try.prog.info? 21).map (fun i => (i.zero, i.size, i.bytes)) = some (some (.int .i32 0), 1, 4) := by kernel_rfl
/-- what has been gathered -/
def Gath (base p : Nat) (done : List Int) (w : World) : Prop :=
  ∃ v, w.heap[p]? = some (.cells #[v] 47 (0, 0)) ∧ w.ownsRow base 21 1 v done.length (cells32 done)
theorem Gath.ext {base p : Nat} {done : List Int} {w w' : World} (h : Gath base p done w) (hb : Ext w w') : Gath base p done w' := by
  obtain ⟨v, h1, h2⟩ := h
  refine ⟨v, by rw [hb.block _ (lt_of_block h1)]; exact h1, h2.1, ?_⟩
  rcases h2.2 with h | ⟨g, cap, cur, e, hb', hg, rest⟩
  · exact .inl h
  · exact .inr ⟨g, cap, cur, e, hb', by rw [hb.block g (Array.getElem?_eq_some_iff.1 hg).1]; exact hg, rest⟩
theorem Gath.kept {base p B q : Nat} {done : List Int} {w w' : World} (h : Gath base p done w) (hk : Kept B q w w') (hB : w.heap.size ≤ B) (hpq : p ≠ q) (hq : q < base) : Gath base p done w' := by
  obtain ⟨v, h1, h2⟩ := h
  have hp := lt_of_block h1
  refine ⟨v, by rw [hk.block _ (by omega) hpq]; exact h1, h2.1, ?_⟩
  rcases h2.2 with h | ⟨g, cap, cur, e, hb', hg, rest⟩
  · exact .inl h
  · have hgl := (Array.getElem?_eq_some_iff.1 hg).1
    exact .inr ⟨g, cap, cur, e, hb', by rw [hk.block g (by omega) (by omega)]; exact hg, rest⟩

theorem own_shape {w : World} {base : Nat} {e : TypeId} {size : Nat} {v : Value} {n : Nat} {xs : List Value} (h : w.ownsRow base e size v n xs) : ∃ a c, v = .slice a n c := by
  rcases h.2 with ⟨rfl, rfl⟩ | ⟨g, cap, cur, rfl, _⟩
  · exact ⟨_, _, rfl⟩
  · exact ⟨_, _, rfl⟩
theorem one_grown {w w' : World} {o : Obj} {base p : Nat} {v u : Value} {t : TypeId} {e : TypeId} {size n : Nat} {xs : List Value} (h : w.heap[p]? = some (.cells #[u] t (0, 0))) (hown : (w.alloc o).ownsRow base e size v n xs) (hg : (w.alloc o).grownBy w' v.ownBlock) (hp : p < base) : w'.heap[p]? = some (.cells #[u] t (0, 0)) := by
  have hl := lt_of_block h
  rw [hg.block p (by simp; omega) (fun e => by have := (hown.lt p e.symm).1; omega), Below.heap_alloc _ _ _ hl]
  exact h

set_option maxHeartbeats 800000 in
theorem lessFn (f : Nat) (hf : f = 30 ∨ f = 31) (r : Int) (base p : Nat) (done : List Int) (w : World) (h : Gath base p done w) (hp : p < base) (hbase : base ≤ w.heap.size) (hn : done.length + 1 ≤ 35184372088832) :
    Calls Try.prog f #[.int .i32 r, .pointer (some ⟨p, 0, none⟩)] w fun e w' => e = .returned (.tuple #[]) ∧ Gath base p (done ++ [r]) w' ∧ Kept base p w w' := by
  obtain ⟨v, h1, h2⟩ := h
  have hc := cell_of_one h1
  have hf0 := free_of_one h1
  have hpl := lt_of_block h1
  rcases hf with rfl | rfl
  · obtain ⟨i0, hi, hz0, hz1, hz2⟩ := info_parts info32
    have hown' : (w.alloc (.cells #[.int .i32 r] 21)).ownsRow base 21 1 v done.length (cells32 done) := h2.alloc _
    have hbs : base ≤ (w.alloc (.cells #[.int .i32 r] 21)).heap.size := by simp; omega
    have H1 := Lib.hid h1
    clear h1
    go_enter Try.func30, Try.ntmps30
    go_wp2_with (at_builtin; refine wpList_append_src _ rfl _ _ 47 47 rfl base 21 i0 (.int .i32 0) 1 4 Try.underlying47 hi hz0 hz1 hz2 rfl (by decide) v _ _ rfl hown' _ 1 [.int .i32 r] rfl (Src.ofSlice _ Try.underlying47 ⟨w.heap.size, 0, none⟩ 1 1 _ rfl (cell_of_block1 (heap_alloc_new _ _)) (one_of1 rfl)) (by simp only [maxLen]; omega) (by omega) hbs ?_; intro v5 w5 hown5 hgr5; obtain ⟨a5, c5, rfl⟩ := own_shape hown5; have h5 := one_grown H1.out hown' hgr5 hp; have hc5 := cell_of_one h5; have hf5 := free_of_one h5; have H5 := Lib.hid h5; clear h5)
    go_end0
    have hk1 : Kept base p w (w.alloc (.cells #[.int .i32 r] 21)) := Kept.ofBelow ((Below.refl base w).alloc hbase _)
    have hk2 : Kept base p (w.alloc (.cells #[.int .i32 r] 21)) w5 := Kept.ofBelow (Below.ofGrown hgr5 hown' hbs)
    refine ⟨rfl, ⟨_, one_setCell H5.out, ?_⟩, (hk1.trans hk2).trans (Kept.setCell _)⟩
    have e : cells32 (done ++ [r]) = cells32 done ++ [.int .i32 r] := by simp [cells32]
    rw [e, List.length_append]
    exact ownsRow_setCell_below hown5 hp _
  · obtain ⟨i0, hi, hz0, hz1, hz2⟩ := info_parts info32
    have hown' : (w.alloc (.cells #[.int .i32 r] 21)).ownsRow base 21 1 v done.length (cells32 done) := h2.alloc _
    have hbs : base ≤ (w.alloc (.cells #[.int .i32 r] 21)).heap.size := by simp; omega
    have H1 := Lib.hid h1
    clear h1
    go_enter Try.func31, Try.ntmps31
    go_wp2_with (at_builtin; refine wpList_append_src _ rfl _ _ 47 47 rfl base 21 i0 (.int .i32 0) 1 4 Try.underlying47 hi hz0 hz1 hz2 rfl (by decide) v _ _ rfl hown' _ 1 [.int .i32 r] rfl (Src.ofSlice _ Try.underlying47 ⟨w.heap.size, 0, none⟩ 1 1 _ rfl (cell_of_block1 (heap_alloc_new _ _)) (one_of1 rfl)) (by simp only [maxLen]; omega) (by omega) hbs ?_; intro v5 w5 hown5 hgr5; obtain ⟨a5, c5, rfl⟩ := own_shape hown5; have h5 := one_grown H1.out hown' hgr5 hp; have hc5 := cell_of_one h5; have hf5 := free_of_one h5; have H5 := Lib.hid h5; clear h5)
    go_end0
    have hk1 : Kept base p w (w.alloc (.cells #[.int .i32 r] 21)) := Kept.ofBelow ((Below.refl base w).alloc hbase _)
    have hk2 : Kept base p (w.alloc (.cells #[.int .i32 r] 21)) w5 := Kept.ofBelow (Below.ofGrown hgr5 hown' hbs)
    refine ⟨rfl, ⟨_, one_setCell H5.out, ?_⟩, (hk1.trans hk2).trans (Kept.setCell _)⟩
    have e : cells32 (done ++ [r]) = cells32 done ++ [.int .i32 r] := by simp [cells32]
    rw [e, List.length_append]
    exact ownsRow_setCell_below hown5 hp _

/-- what was gathered, to be read -/
theorem Gath.read {base p : Nat} {done : List Int} {w : World} (h : Gath base p done w) : ∃ a c, w.cell? ⟨p, 0, none⟩ = some (.slice a done.length c) ∧
    (0 < done.length → ∃ g, a = some ⟨g, 0, none⟩ ∧ ∀ i, (h : i < done.length) → w.cell? ⟨g, i, none⟩ = some (.int .i32 done[i])) := by
  obtain ⟨v, h1, h2⟩ := h
  obtain ⟨a, c, rfl⟩ := own_shape h2
  refine ⟨a, c, cell_of_one h1, fun hn => ?_⟩
  rcases h2.2 with ⟨h, h0⟩ | ⟨g, cap, cur, e, hb, hg, hnc, hcm, hcs, ht⟩
  · omega
  · simp only [Value.slice.injEq] at e
    obtain ⟨rfl, _, rfl⟩ := e
    refine ⟨g, rfl, fun i hi => ?_⟩
    have hc : (cells32 done)[i]? = some (.int .i32 done[i]) := by simp [cells32, hi]
    rw [← ht, Nat.mul_one, List.getElem?_take] at hc
    simp only [hi, if_true, Array.getElem?_toList] at hc
    simp [World.cell?, hg, hc]
end Go.Proofs.Ytikhdnpokhldeaa
