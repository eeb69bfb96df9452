/- Several texts of this proof in one. -/
import Derived.Test.YtjapbjmeoaagmaaGreatDoorQValueAt2
import Derived.Deep.DeepAppendRoom
import Derived.Laws.IdiomCopy
import Derived.Test.YtjapbjmeoaagmaaGreatDoorQValueAt1
import Derived.Test.YtjapbjmeoaagmaaGreatDoorEValueAtSh
import Derived.Test.YtjapbjmeoaagmaaGreatDoorEValueAtSi
set_option linter.unusedVariables false
set_option linter.unusedSimpArgs false
set_option maxRecDepth 100000
section
set_option maxRecDepth 100000
namespace Go.Proofs.YtjapbjmeoaagmaaGreatDoor
open Go.RowKit Go.Mem Orange
theorem zeroCells_one (z : Array Value) : (Builtin.zeroCells z 1).toList = z.toList := by
 unfold Builtin.zeroCells; apply List.ext_getElem
 · simp
 · intro i h1 h2; have h3 : i < z.size := by simpa using h2
   simp [Nat.mod_eq_of_lt h3, h3]
theorem ownsRow_pre {w : World} {base g n k cap z : Nat} {e : TypeId} {cs : List Value} (h : w.ownsRow base e z (.slice (some ⟨g, 0, none⟩) n cap) n cs) (hk : k ≤ n) : w.ownsRow base e z (.slice (some ⟨g, 0, none⟩) k cap) k (cs.take (k * z)) := by
 obtain ⟨h1, h2⟩ := h; obtain ⟨g', cap', cur, e0, hbg, hg, hnc, hcm, hcs, htk⟩ := h2.resolve_left (fun h => by cases h.1); simp only [Value.slice.injEq, Option.some.injEq, Addr.mk.injEq, and_true, true_and] at e0; obtain ⟨rfl, rfl⟩ := e0; have hm : k * z ≤ n * z := Nat.mul_le_mul_right z hk; refine ⟨by rw [List.length_take]; omega, .inr ⟨g, cap, cur, rfl, hbg, hg, by omega, hcm, hcs, ?_⟩⟩
 rw [← htk, List.take_take, Nat.min_eq_left hm]
theorem KeptP.setCells {g : Nat} : ∀ (vs : List Value) (o : Nat) (w : World), KeptP g w (w.setCells g o vs)
 | [], _, w => KeptP.refl _ _
 | v :: vs, o, w => (KeptP.set v).trans (KeptP.setCells vs (o + 1) (w.setCell ⟨g, o, none⟩ v))
theorem KeptP.ofGrown {g : Nat} {w w' : World} (h : w.grownBy w' (some g)) : KeptP g w w' := ⟨h.os, h.tape, h.output, h.size, fun b hb hne => h.block b hb (fun e => hne (by simpa [eq_comm] using e))⟩
theorem delM_clear (w : World) (ty : TypeId) (b o c : Nat) (hc : ∀ j, j < 9 → (w.cell? ⟨b, o + j, none⟩).isSome = true) (hf : ∀ j, j < 9 → w.frozen? ⟨b, o + j, none⟩ = false) :
 (Builtin.clear_ #[25] ty #[.slice (some ⟨b, o, none⟩) 1 c]).run Tryz.prog w = .ok (.tuple #[]) (w.setCells b o [.string ⟨#[]⟩, .int .i64 0, .bool false, .bool false, .string ⟨#[]⟩, .int .i64 0, .string ⟨#[]⟩, .slice none 0 0, .slice none 0 0]) := by
 have hv : ∀ w, (zeroValue 43).run Tryz.prog w = .ok (.agg #[.string ⟨#[]⟩, .int .i64 0, .bool false, .bool false, .string ⟨#[]⟩, .int .i64 0, .string ⟨#[]⟩, .slice none 0 0, .slice none 0 0]) w := fun w => by kernel_rfl
 have hzc : (Builtin.zeroCells (Value.agg #[.string ⟨#[]⟩, .int .i64 0, .bool false, .bool false, .string ⟨#[]⟩, .int .i64 0, .string ⟨#[]⟩, .slice none 0 0, .slice none 0 0]).cells 1).toList = [.string ⟨#[]⟩, .int .i64 0, .bool false, .bool false, .string ⟨#[]⟩, .int .i64 0, .string ⟨#[]⟩, .slice none 0 0, .slice none 0 0] := by rw [zeroCells_one]; kernel_rfl
 have hst := run_storeCells_cells (P := Tryz.prog) b o [.string ⟨#[]⟩, .int .i64 0, .bool false, .bool false, .string ⟨#[]⟩, .int .i64 0, .string ⟨#[]⟩, .slice none 0 0, .slice none 0 0] 0 w (by simpa using hc) (by simpa using hf) (by intro u hu; simp at hu; rcases hu with rfl | rfl | rfl | rfl | rfl | rfl | rfl | rfl | rfl <;> rfl); simp only [Nat.add_zero] at hst
 simp [Builtin.clear_, run_underlying Tryz.underlying25, hv, hzc, hst]
set_option maxHeartbeats 3200000 in
theorem delM_any (base g cap n i : Nat) (cs : List Value) (w : World) (hown : w.ownsRow base 43 9 (.slice (some ⟨g, 0, none⟩) n cap) n cs) (h1 : ∀ u ∈ cs, u.oneCell' = true) (hi : i < n) (hn : n ≤ 1000000) :
 Calls Tryz.prog 59 #[.slice (some ⟨g, 0, none⟩) n cap, .int .i64 i, .int .i64 (i + 1 : Nat)] w (fun e w' => e = .returned (.slice (some ⟨g, 0, none⟩) (n - 1) cap) ∧ RowAt w' (fun b => b = g) 9 (.slice (some ⟨g, 0, none⟩) (n - 1) cap) (n - 1) (cs.take (i * 9) ++ cs.drop ((i + 1) * 9)) ∧ KeptP g w w') := by
 have HO := Hd hown; have H1 := Hd h1; obtain ⟨hcl, hblk⟩ := hown; obtain ⟨g', cap', cur, e0, hbg, hg, hnc, hcm, hcs, htk⟩ := hblk.resolve_left (fun h => by cases h.1); simp only [Value.slice.injEq, Option.some.injEq, Addr.mk.injEq, and_true, true_and] at e0; obtain ⟨rfl, rfl⟩ := e0; have HCUR := Hd hg; have HTK := Hd htk; have hgl := (Array.getElem?_eq_some_iff.1 hg).1; have HGL := Hd hgl
 have HBG := Hd hbg; have HCS := Hd hcs; have HCL := Hd hcl; clear hg htk hgl hbg hcs hcl hblk h1; obtain ⟨m, hm⟩ : ∃ m, n = i + 1 + m := ⟨n - (i + 1), by omega⟩
 have q0 : (0 : Int) ≤ (i : Int) := by omega
 have q1 : (i : Int) ≤ (i : Int) + 1 := by omega
 have q2 : (i : Int) + 1 ≤ (n : Int) := by omega
 have q3 : (n : Int) ≤ (cap : Int) := by omega
 have q4 : (i : Int) ≤ (cap : Int) := by omega
 have q5 : ((i : Int) == (i : Int) + 1) = false := by simp; omega
 have HM := Hd hm; clear hm; go_enter Tryz.func59, Tryz.ntmps59
 go_upto_region 5 with fail; have HNW : Hid (∀ w', Ext w w' → ∀ (a : Addr), (i + 1 < n → a = ⟨g, (i + 1) * 9, none⟩) → ∀ j u, (cs.drop ((i + 1) * 9))[j]? = some u → w'.cell? (a.add j) = some u) := Hd (fun w' hw a ha j u hu => by
  have hj : (i + 1) * 9 + j < cs.length := by
   rw [List.getElem?_drop] at hu; exact (List.getElem?_eq_some_iff.1 hu).1
  have hcl := HCL.out; rw [ha (by omega)]; rw [List.getElem?_drop, ← HTK.out, List.getElem?_take] at hu; split at hu
  · rw [show (⟨g, (i + 1) * 9, none⟩ : Addr).add j = ⟨g, (i + 1) * 9 + j, none⟩ by simp only [Addr.add]; split <;> simp_all]; rw [World.cell?_of_block (w := w) (a := ⟨g, (i + 1) * 9 + j, none⟩) (hw.block g HGL.out), cell_of_cells HCUR.out]; simpa using hu
  · cases hu)
 have HDL : Hid ((cs.drop ((i + 1) * 9)).length = m * 9) := Hd (by rw [List.length_drop, HCL.out, HM.out]; omega); by_cases hc : cap = i + 1
 · subst hc; obtain rfl : n = i + 1 := by omega
   obtain rfl : m = 0 := by have := HM.out; omega
   refine GrowS.wp_region_restTA (G := fun _ => Ext) (B := fun _ w' => Ext w w') (E := fun _ _ => False) (anc := fun _ => []) (Inv := fun _ w' => Ext w w') (I := fun j _ => none)
    6 (fun j => ([[], [], [0, 1], [], [], [3, 4], [0, 1, 2, 3, 4, 5], [0, 1, 2, 3, 4, 5]] : List (List Nat)).getD j []) #[true, true, true, true, true, true, false, false] (fun _ _ _ _ _ _ _ _ _ _ => rfl) (by kernel_rfl) (by kernel_rfl) (by kernel_rfl) (GrowS.inv_const fun _ _ h hg => ext_trans h hg) ?_ ?_ ?_
   · exact fun _ _ _ _ h => h.elim
   · exact (ext_refl _).drew
   refine GrowS.Wk.out ?_; simp only [List.take_succ_cons, List.take_zero, List.drop_succ_cons, List.drop_zero]; repeat
    (refine GrowS.Wk.step (fun K hK => ?_)
     first
     | (refine GrowS.step_read (by rfl) (by rfl) (fun w => ext_refl w) ?_
        apply Exists.intro; refine ⟨fun w hB hF => ?_, ?_⟩
        · skip
          go_simp; try exact rfl
        go_simp; refine hK _ _ ?_; clear hK K)
     | (refine GrowS.step_off (by rfl) ?_
        go_simp; refine hK _ _ ?_; clear hK K))
   refine GrowS.Wk.nil ?_; intro w3 hB hF; replace hB : Ext w w3 := hB; clear hF; show wpAny _ _ _ _ (1 + 1) _ _ _; refine wpAny_one 6 (by kernel_rfl) ?_; refine wpOp_now rfl (by rfl) ?_
   refine wp_append_own_spare w3 _ _ _ rfl base 43 _ 9 (by kernel_rfl) (by rfl) (by rfl) g i (i + 1) (cs.take (i * 9)) rfl (ownsRow_pre (ownsRow_ext HO.out hB) (Nat.le_of_lt hi)) ⟨g, 0, none⟩ 0 (i + 1 - (i + 1)) (cs.drop ((i + 1) * 9)) ?_ HDL.out (HNW.out w3 hB ⟨g, 0, none⟩ (fun h => absurd h (by omega))) (fun u hu => H1.out u (List.mem_of_mem_drop hu)) (by have := HM.out; omega) ?_
   · go_simp; try (have := HM.out; omega)
   intro w4 ho4 hg4; have hnim : (i + 1) - (i) = 1 := by have := HM.out; omega
   have hnec : ¬ i + 1 = i := by have := HM.out; omega
   have r1 : ((i : Nat) : Int) ≤ (((i + 1) : Nat) : Int) := by have := HM.out; omega
   have r2 : (0 : Int) ≤ ((i : Nat) : Int) := by omega
   have HO4 := Hd ho4; have HK4 := Hd ((KeptP.ofExt hB).trans (KeptP.ofGrown hg4)); have HG4 := Hd (Nat.lt_of_lt_of_le HGL.out (Nat.le_trans hB.size hg4.size)); have HCC : Hid (∀ j, j < 9 → (w4.cell? ⟨g, (i) * 9 + j, none⟩).isSome = true ∧ w4.frozen? ⟨g, (i) * 9 + j, none⟩ = false) := Hd (fun j hj => by
    obtain ⟨g', cap', cur4, e0, -, hg, -, -, hcs, -⟩ := ho4.2.resolve_left (fun h => by cases h.1); simp only [Value.slice.injEq, Option.some.injEq, Addr.mk.injEq, and_true, true_and] at e0; obtain ⟨rfl, rfl⟩ := e0; have hm := HM.out; refine ⟨?_, free_of_cells hg⟩; rw [cell_of_cells hg]; have : (i) * 9 + j < cur4.size := by rw [hcs]; omega
    simp [this])
   have HCLR := Hd (fun ty => delM_clear w4 ty g ((i) * 9) (1) (fun j hj => (HCC.out j hj).1) (fun j hj => (HCC.out j hj).2)); clear ho4 hg4 hB; refine wpAny_one 7 (by kernel_rfl) ?_; refine wpOp_now rfl (by rfl) ?_; unfold Oper.wp; go_simp; show wpAny _ _ _ _ 0 _ _ _; refine ⟨by decide +kernel, ?_⟩; have hclr := HCLR.out; go_wp2_with fail; go_ret
   have hnm : (i + 1) - 1 = i := by have := HM.out; omega
   try rw [hnm]
   have HR4 : Hid (RowAt w4 (fun b => b = g) 9 (.slice (some ⟨g, 0, none⟩) (i) (i + 1)) (i) (cs.take (i * 9) ++ cs.drop ((i + 1) * 9))) := Hd (RowAt.own HO4.out (by decide) (fun b e _ _ => by simpa [Value.ownBlock, eq_comm] using e)); refine ⟨rfl, ?_, HK4.out.trans (KeptP.setCells _ _ _)⟩; obtain ⟨h0, a', c', e1, h2, h3, h4⟩ := HR4.out; refine ⟨h0, a', c', e1, h2, h3, fun hp => ?_⟩
   obtain ⟨g2, o2, e2, hA, hlt, hc2⟩ := h4 hp; simp only [Value.slice.injEq] at e1; obtain ⟨rfl, -, rfl⟩ := e1; simp only [Option.some.injEq, Addr.mk.injEq, and_true] at e2; obtain ⟨rfl, rfl⟩ := e2; refine ⟨g, 0, rfl, rfl, Nat.lt_of_lt_of_le hlt (KeptP.setCells (g := g) _ _ w4).size, fun j hj => ?_⟩; rw [World.cell?_setCells_out g _ _ w4 _ (fun _ _ => .inl (by simp only; have := h0; omega))]
   exact hc2 j hj
 · refine GrowS.wp_region_restTA (G := fun _ => Ext) (B := fun _ w' => Ext w w') (E := fun _ _ => False) (anc := fun _ => []) (Inv := fun _ w' => Ext w w') (I := fun j _ => none)
    6 (fun j => ([[], [], [0, 1], [], [], [3, 4], [0, 1, 2, 3, 4, 5], [0, 1, 2, 3, 4, 5]] : List (List Nat)).getD j []) #[true, true, true, true, true, true, false, false] (fun _ _ _ _ _ _ _ _ _ _ => rfl) (by kernel_rfl) (by kernel_rfl) (by kernel_rfl) (GrowS.inv_const fun _ _ h hg => ext_trans h hg) ?_ ?_ ?_
   · exact fun _ _ _ _ h => h.elim
   · exact (ext_refl _).drew
   refine GrowS.Wk.out ?_; simp only [List.take_succ_cons, List.take_zero, List.drop_succ_cons, List.drop_zero]; repeat
    (refine GrowS.Wk.step (fun K hK => ?_)
     first
     | (refine GrowS.step_read (by rfl) (by rfl) (fun w => ext_refl w) ?_
        apply Exists.intro; refine ⟨fun w hB hF => ?_, ?_⟩
        · skip
          go_simp; try exact rfl
        go_simp; refine hK _ _ ?_; clear hK K)
     | (refine GrowS.step_off (by rfl) ?_
        go_simp; refine hK _ _ ?_; clear hK K))
   refine GrowS.Wk.nil ?_; intro w3 hB hF; replace hB : Ext w w3 := hB; clear hF; show wpAny _ _ _ _ (1 + 1) _ _ _; refine wpAny_one 6 (by kernel_rfl) ?_; refine wpOp_now rfl (by rfl) ?_
   refine wp_append_own_spare w3 _ _ _ rfl base 43 _ 9 (by kernel_rfl) (by rfl) (by rfl) g i (cap) (cs.take (i * 9)) rfl (ownsRow_pre (ownsRow_ext HO.out hB) (Nat.le_of_lt hi)) ⟨g, (i + 1) * 9, none⟩ m (cap - (i + 1)) (cs.drop ((i + 1) * 9)) ?_ HDL.out (HNW.out w3 hB ⟨g, (i + 1) * 9, none⟩ (fun _ => rfl)) (fun u hu => H1.out u (List.mem_of_mem_drop hu)) (by have := HM.out; omega) ?_
   · go_simp; try (have := HM.out; omega)
   intro w4 ho4 hg4; have hnim : n - (i + m) = 1 := by have := HM.out; omega
   have hnec : ¬ cap = i + m := by have := HM.out; omega
   have r1 : ((i + m : Nat) : Int) ≤ ((n : Nat) : Int) := by have := HM.out; omega
   have r2 : (0 : Int) ≤ ((i + m : Nat) : Int) := by omega
   have HO4 := Hd ho4; have HK4 := Hd ((KeptP.ofExt hB).trans (KeptP.ofGrown hg4)); have HG4 := Hd (Nat.lt_of_lt_of_le HGL.out (Nat.le_trans hB.size hg4.size)); have HCC : Hid (∀ j, j < 9 → (w4.cell? ⟨g, (i + m) * 9 + j, none⟩).isSome = true ∧ w4.frozen? ⟨g, (i + m) * 9 + j, none⟩ = false) := Hd (fun j hj => by
    obtain ⟨g', cap', cur4, e0, -, hg, -, -, hcs, -⟩ := ho4.2.resolve_left (fun h => by cases h.1); simp only [Value.slice.injEq, Option.some.injEq, Addr.mk.injEq, and_true, true_and] at e0; obtain ⟨rfl, rfl⟩ := e0; have hm := HM.out; refine ⟨?_, free_of_cells hg⟩; rw [cell_of_cells hg]; have : (i + m) * 9 + j < cur4.size := by rw [hcs]; omega
    simp [this])
   have HCLR := Hd (fun ty => delM_clear w4 ty g ((i + m) * 9) (cap - (i + m)) (fun j hj => (HCC.out j hj).1) (fun j hj => (HCC.out j hj).2)); clear ho4 hg4 hB; refine wpAny_one 7 (by kernel_rfl) ?_; refine wpOp_now rfl (by rfl) ?_; unfold Oper.wp; go_simp; show wpAny _ _ _ _ 0 _ _ _; refine ⟨by decide +kernel, ?_⟩; have hclr := HCLR.out; go_wp2_with fail; go_ret
   have hnm : n - 1 = i + m := by have := HM.out; omega
   try rw [hnm]
   have HR4 : Hid (RowAt w4 (fun b => b = g) 9 (.slice (some ⟨g, 0, none⟩) (i + m) (cap)) (i + m) (cs.take (i * 9) ++ cs.drop ((i + 1) * 9))) := Hd (RowAt.own HO4.out (by decide) (fun b e _ _ => by simpa [Value.ownBlock, eq_comm] using e)); refine ⟨rfl, ?_, HK4.out.trans (KeptP.setCells _ _ _)⟩; obtain ⟨h0, a', c', e1, h2, h3, h4⟩ := HR4.out; refine ⟨h0, a', c', e1, h2, h3, fun hp => ?_⟩
   obtain ⟨g2, o2, e2, hA, hlt, hc2⟩ := h4 hp; simp only [Value.slice.injEq] at e1; obtain ⟨rfl, -, rfl⟩ := e1; simp only [Option.some.injEq, Addr.mk.injEq, and_true] at e2; obtain ⟨rfl, rfl⟩ := e2; refine ⟨g, 0, rfl, rfl, Nat.lt_of_lt_of_le hlt (KeptP.setCells (g := g) _ _ w4).size, fun j hj => ?_⟩; rw [World.cell?_setCells_out g _ _ w4 _ (fun _ _ => .inl (by simp only; have := h0; omega))]
   exact hc2 j hj
theorem delL_clear (w : World) (ty : TypeId) (b o c : Nat) (hc : ∀ j, j < 8 → (w.cell? ⟨b, o + j, none⟩).isSome = true) (hf : ∀ j, j < 8 → w.frozen? ⟨b, o + j, none⟩ = false) :
 (Builtin.clear_ #[24] ty #[.slice (some ⟨b, o, none⟩) 1 c]).run Tryz.prog w = .ok (.tuple #[]) (w.setCells b o [.int .i64 0, .bool false, .bool false, .string ⟨#[]⟩, .int .i64 0, .string ⟨#[]⟩, .slice none 0 0, .slice none 0 0]) := by
 have hv : ∀ w, (zeroValue 27).run Tryz.prog w = .ok (.agg #[.int .i64 0, .bool false, .bool false, .string ⟨#[]⟩, .int .i64 0, .string ⟨#[]⟩, .slice none 0 0, .slice none 0 0]) w := fun w => by kernel_rfl
 have hzc : (Builtin.zeroCells (Value.agg #[.int .i64 0, .bool false, .bool false, .string ⟨#[]⟩, .int .i64 0, .string ⟨#[]⟩, .slice none 0 0, .slice none 0 0]).cells 1).toList = [.int .i64 0, .bool false, .bool false, .string ⟨#[]⟩, .int .i64 0, .string ⟨#[]⟩, .slice none 0 0, .slice none 0 0] := by rw [zeroCells_one]; kernel_rfl
 have hst := run_storeCells_cells (P := Tryz.prog) b o [.int .i64 0, .bool false, .bool false, .string ⟨#[]⟩, .int .i64 0, .string ⟨#[]⟩, .slice none 0 0, .slice none 0 0] 0 w (by simpa using hc) (by simpa using hf) (by intro u hu; simp at hu; rcases hu with rfl | rfl | rfl | rfl | rfl | rfl | rfl | rfl <;> rfl); simp only [Nat.add_zero] at hst
 simp [Builtin.clear_, run_underlying Tryz.underlying24, hv, hzc, hst]
set_option maxHeartbeats 3200000 in
theorem delL_any (base g cap n i : Nat) (cs : List Value) (w : World) (hown : w.ownsRow base 27 8 (.slice (some ⟨g, 0, none⟩) n cap) n cs) (h1 : ∀ u ∈ cs, u.oneCell' = true) (hi : i < n) (hn : n ≤ 1000000) :
 Calls Tryz.prog 60 #[.slice (some ⟨g, 0, none⟩) n cap, .int .i64 i, .int .i64 (i + 1 : Nat)] w (fun e w' => e = .returned (.slice (some ⟨g, 0, none⟩) (n - 1) cap) ∧ RowAt w' (fun b => b = g) 8 (.slice (some ⟨g, 0, none⟩) (n - 1) cap) (n - 1) (cs.take (i * 8) ++ cs.drop ((i + 1) * 8)) ∧ KeptP g w w') := by
 have HO := Hd hown; have H1 := Hd h1; obtain ⟨hcl, hblk⟩ := hown; obtain ⟨g', cap', cur, e0, hbg, hg, hnc, hcm, hcs, htk⟩ := hblk.resolve_left (fun h => by cases h.1); simp only [Value.slice.injEq, Option.some.injEq, Addr.mk.injEq, and_true, true_and] at e0; obtain ⟨rfl, rfl⟩ := e0; have HCUR := Hd hg; have HTK := Hd htk; have hgl := (Array.getElem?_eq_some_iff.1 hg).1; have HGL := Hd hgl
 have HBG := Hd hbg; have HCS := Hd hcs; have HCL := Hd hcl; clear hg htk hgl hbg hcs hcl hblk h1; obtain ⟨m, hm⟩ : ∃ m, n = i + 1 + m := ⟨n - (i + 1), by omega⟩
 have q0 : (0 : Int) ≤ (i : Int) := by omega
 have q1 : (i : Int) ≤ (i : Int) + 1 := by omega
 have q2 : (i : Int) + 1 ≤ (n : Int) := by omega
 have q3 : (n : Int) ≤ (cap : Int) := by omega
 have q4 : (i : Int) ≤ (cap : Int) := by omega
 have q5 : ((i : Int) == (i : Int) + 1) = false := by simp; omega
 have HM := Hd hm; clear hm; go_enter Tryz.func60, Tryz.ntmps60
 go_upto_region 5 with fail; have HNW : Hid (∀ w', Ext w w' → ∀ (a : Addr), (i + 1 < n → a = ⟨g, (i + 1) * 8, none⟩) → ∀ j u, (cs.drop ((i + 1) * 8))[j]? = some u → w'.cell? (a.add j) = some u) := Hd (fun w' hw a ha j u hu => by
  have hj : (i + 1) * 8 + j < cs.length := by
   rw [List.getElem?_drop] at hu; exact (List.getElem?_eq_some_iff.1 hu).1
  have hcl := HCL.out; rw [ha (by omega)]; rw [List.getElem?_drop, ← HTK.out, List.getElem?_take] at hu; split at hu
  · rw [show (⟨g, (i + 1) * 8, none⟩ : Addr).add j = ⟨g, (i + 1) * 8 + j, none⟩ by simp only [Addr.add]; split <;> simp_all]; rw [World.cell?_of_block (w := w) (a := ⟨g, (i + 1) * 8 + j, none⟩) (hw.block g HGL.out), cell_of_cells HCUR.out]; simpa using hu
  · cases hu)
 have HDL : Hid ((cs.drop ((i + 1) * 8)).length = m * 8) := Hd (by rw [List.length_drop, HCL.out, HM.out]; omega); by_cases hc : cap = i + 1
 · subst hc; obtain rfl : n = i + 1 := by omega
   obtain rfl : m = 0 := by have := HM.out; omega
   refine GrowS.wp_region_restTA (G := fun _ => Ext) (B := fun _ w' => Ext w w') (E := fun _ _ => False) (anc := fun _ => []) (Inv := fun _ w' => Ext w w') (I := fun j _ => none)
    6 (fun j => ([[], [], [0, 1], [], [], [3, 4], [0, 1, 2, 3, 4, 5], [0, 1, 2, 3, 4, 5]] : List (List Nat)).getD j []) #[true, true, true, true, true, true, false, false] (fun _ _ _ _ _ _ _ _ _ _ => rfl) (by kernel_rfl) (by kernel_rfl) (by kernel_rfl) (GrowS.inv_const fun _ _ h hg => ext_trans h hg) ?_ ?_ ?_
   · exact fun _ _ _ _ h => h.elim
   · exact (ext_refl _).drew
   refine GrowS.Wk.out ?_; simp only [List.take_succ_cons, List.take_zero, List.drop_succ_cons, List.drop_zero]; repeat
    (refine GrowS.Wk.step (fun K hK => ?_)
     first
     | (refine GrowS.step_read (by rfl) (by rfl) (fun w => ext_refl w) ?_
        apply Exists.intro; refine ⟨fun w hB hF => ?_, ?_⟩
        · skip
          go_simp; try exact rfl
        go_simp; refine hK _ _ ?_; clear hK K)
     | (refine GrowS.step_off (by rfl) ?_
        go_simp; refine hK _ _ ?_; clear hK K))
   refine GrowS.Wk.nil ?_; intro w3 hB hF; replace hB : Ext w w3 := hB; clear hF; show wpAny _ _ _ _ (1 + 1) _ _ _; refine wpAny_one 6 (by kernel_rfl) ?_; refine wpOp_now rfl (by rfl) ?_
   refine wp_append_own_spare w3 _ _ _ rfl base 27 _ 8 (by kernel_rfl) (by rfl) (by rfl) g i (i + 1) (cs.take (i * 8)) rfl (ownsRow_pre (ownsRow_ext HO.out hB) (Nat.le_of_lt hi)) ⟨g, 0, none⟩ 0 (i + 1 - (i + 1)) (cs.drop ((i + 1) * 8)) ?_ HDL.out (HNW.out w3 hB ⟨g, 0, none⟩ (fun h => absurd h (by omega))) (fun u hu => H1.out u (List.mem_of_mem_drop hu)) (by have := HM.out; omega) ?_
   · go_simp; try (have := HM.out; omega)
   intro w4 ho4 hg4; have hnim : (i + 1) - (i) = 1 := by have := HM.out; omega
   have hnec : ¬ i + 1 = i := by have := HM.out; omega
   have r1 : ((i : Nat) : Int) ≤ (((i + 1) : Nat) : Int) := by have := HM.out; omega
   have r2 : (0 : Int) ≤ ((i : Nat) : Int) := by omega
   have HO4 := Hd ho4; have HK4 := Hd ((KeptP.ofExt hB).trans (KeptP.ofGrown hg4)); have HG4 := Hd (Nat.lt_of_lt_of_le HGL.out (Nat.le_trans hB.size hg4.size)); have HCC : Hid (∀ j, j < 8 → (w4.cell? ⟨g, (i) * 8 + j, none⟩).isSome = true ∧ w4.frozen? ⟨g, (i) * 8 + j, none⟩ = false) := Hd (fun j hj => by
    obtain ⟨g', cap', cur4, e0, -, hg, -, -, hcs, -⟩ := ho4.2.resolve_left (fun h => by cases h.1); simp only [Value.slice.injEq, Option.some.injEq, Addr.mk.injEq, and_true, true_and] at e0; obtain ⟨rfl, rfl⟩ := e0; have hm := HM.out; refine ⟨?_, free_of_cells hg⟩; rw [cell_of_cells hg]; have : (i) * 8 + j < cur4.size := by rw [hcs]; omega
    simp [this])
   have HCLR := Hd (fun ty => delL_clear w4 ty g ((i) * 8) (1) (fun j hj => (HCC.out j hj).1) (fun j hj => (HCC.out j hj).2)); clear ho4 hg4 hB; refine wpAny_one 7 (by kernel_rfl) ?_; refine wpOp_now rfl (by rfl) ?_; unfold Oper.wp; go_simp; show wpAny _ _ _ _ 0 _ _ _; refine ⟨by decide +kernel, ?_⟩; have hclr := HCLR.out; go_wp2_with fail; go_ret
   have hnm : (i + 1) - 1 = i := by have := HM.out; omega
   try rw [hnm]
   have HR4 : Hid (RowAt w4 (fun b => b = g) 8 (.slice (some ⟨g, 0, none⟩) (i) (i + 1)) (i) (cs.take (i * 8) ++ cs.drop ((i + 1) * 8))) := Hd (RowAt.own HO4.out (by decide) (fun b e _ _ => by simpa [Value.ownBlock, eq_comm] using e)); refine ⟨rfl, ?_, HK4.out.trans (KeptP.setCells _ _ _)⟩; obtain ⟨h0, a', c', e1, h2, h3, h4⟩ := HR4.out; refine ⟨h0, a', c', e1, h2, h3, fun hp => ?_⟩
   obtain ⟨g2, o2, e2, hA, hlt, hc2⟩ := h4 hp; simp only [Value.slice.injEq] at e1; obtain ⟨rfl, -, rfl⟩ := e1; simp only [Option.some.injEq, Addr.mk.injEq, and_true] at e2; obtain ⟨rfl, rfl⟩ := e2; refine ⟨g, 0, rfl, rfl, Nat.lt_of_lt_of_le hlt (KeptP.setCells (g := g) _ _ w4).size, fun j hj => ?_⟩; rw [World.cell?_setCells_out g _ _ w4 _ (fun _ _ => .inl (by simp only; have := h0; omega))]
   exact hc2 j hj
 · refine GrowS.wp_region_restTA (G := fun _ => Ext) (B := fun _ w' => Ext w w') (E := fun _ _ => False) (anc := fun _ => []) (Inv := fun _ w' => Ext w w') (I := fun j _ => none)
    6 (fun j => ([[], [], [0, 1], [], [], [3, 4], [0, 1, 2, 3, 4, 5], [0, 1, 2, 3, 4, 5]] : List (List Nat)).getD j []) #[true, true, true, true, true, true, false, false] (fun _ _ _ _ _ _ _ _ _ _ => rfl) (by kernel_rfl) (by kernel_rfl) (by kernel_rfl) (GrowS.inv_const fun _ _ h hg => ext_trans h hg) ?_ ?_ ?_
   · exact fun _ _ _ _ h => h.elim
   · exact (ext_refl _).drew
   refine GrowS.Wk.out ?_; simp only [List.take_succ_cons, List.take_zero, List.drop_succ_cons, List.drop_zero]; repeat
    (refine GrowS.Wk.step (fun K hK => ?_)
     first
     | (refine GrowS.step_read (by rfl) (by rfl) (fun w => ext_refl w) ?_
        apply Exists.intro; refine ⟨fun w hB hF => ?_, ?_⟩
        · skip
          go_simp; try exact rfl
        go_simp; refine hK _ _ ?_; clear hK K)
     | (refine GrowS.step_off (by rfl) ?_
        go_simp; refine hK _ _ ?_; clear hK K))
   refine GrowS.Wk.nil ?_; intro w3 hB hF; replace hB : Ext w w3 := hB; clear hF; show wpAny _ _ _ _ (1 + 1) _ _ _; refine wpAny_one 6 (by kernel_rfl) ?_; refine wpOp_now rfl (by rfl) ?_
   refine wp_append_own_spare w3 _ _ _ rfl base 27 _ 8 (by kernel_rfl) (by rfl) (by rfl) g i (cap) (cs.take (i * 8)) rfl (ownsRow_pre (ownsRow_ext HO.out hB) (Nat.le_of_lt hi)) ⟨g, (i + 1) * 8, none⟩ m (cap - (i + 1)) (cs.drop ((i + 1) * 8)) ?_ HDL.out (HNW.out w3 hB ⟨g, (i + 1) * 8, none⟩ (fun _ => rfl)) (fun u hu => H1.out u (List.mem_of_mem_drop hu)) (by have := HM.out; omega) ?_
   · go_simp; try (have := HM.out; omega)
   intro w4 ho4 hg4; have hnim : n - (i + m) = 1 := by have := HM.out; omega
   have hnec : ¬ cap = i + m := by have := HM.out; omega
   have r1 : ((i + m : Nat) : Int) ≤ ((n : Nat) : Int) := by have := HM.out; omega
   have r2 : (0 : Int) ≤ ((i + m : Nat) : Int) := by omega
   have HO4 := Hd ho4; have HK4 := Hd ((KeptP.ofExt hB).trans (KeptP.ofGrown hg4)); have HG4 := Hd (Nat.lt_of_lt_of_le HGL.out (Nat.le_trans hB.size hg4.size)); have HCC : Hid (∀ j, j < 8 → (w4.cell? ⟨g, (i + m) * 8 + j, none⟩).isSome = true ∧ w4.frozen? ⟨g, (i + m) * 8 + j, none⟩ = false) := Hd (fun j hj => by
    obtain ⟨g', cap', cur4, e0, -, hg, -, -, hcs, -⟩ := ho4.2.resolve_left (fun h => by cases h.1); simp only [Value.slice.injEq, Option.some.injEq, Addr.mk.injEq, and_true, true_and] at e0; obtain ⟨rfl, rfl⟩ := e0; have hm := HM.out; refine ⟨?_, free_of_cells hg⟩; rw [cell_of_cells hg]; have : (i + m) * 8 + j < cur4.size := by rw [hcs]; omega
    simp [this])
   have HCLR := Hd (fun ty => delL_clear w4 ty g ((i + m) * 8) (cap - (i + m)) (fun j hj => (HCC.out j hj).1) (fun j hj => (HCC.out j hj).2)); clear ho4 hg4 hB; refine wpAny_one 7 (by kernel_rfl) ?_; refine wpOp_now rfl (by rfl) ?_; unfold Oper.wp; go_simp; show wpAny _ _ _ _ 0 _ _ _; refine ⟨by decide +kernel, ?_⟩; have hclr := HCLR.out; go_wp2_with fail; go_ret
   have hnm : n - 1 = i + m := by have := HM.out; omega
   try rw [hnm]
   have HR4 : Hid (RowAt w4 (fun b => b = g) 8 (.slice (some ⟨g, 0, none⟩) (i + m) (cap)) (i + m) (cs.take (i * 8) ++ cs.drop ((i + 1) * 8))) := Hd (RowAt.own HO4.out (by decide) (fun b e _ _ => by simpa [Value.ownBlock, eq_comm] using e)); refine ⟨rfl, ?_, HK4.out.trans (KeptP.setCells _ _ _)⟩; obtain ⟨h0, a', c', e1, h2, h3, h4⟩ := HR4.out; refine ⟨h0, a', c', e1, h2, h3, fun hp => ?_⟩
   obtain ⟨g2, o2, e2, hA, hlt, hc2⟩ := h4 hp; simp only [Value.slice.injEq] at e1; obtain ⟨rfl, -, rfl⟩ := e1; simp only [Option.some.injEq, Addr.mk.injEq, and_true] at e2; obtain ⟨rfl, rfl⟩ := e2; refine ⟨g, 0, rfl, rfl, Nat.lt_of_lt_of_le hlt (KeptP.setCells (g := g) _ _ w4).size, fun j hj => ?_⟩; rw [World.cell?_setCells_out g _ _ w4 _ (fun _ _ => .inl (by simp only; have := h0; omega))]
   exact hc2 j hj
theorem flat_len {z : Nat} : ∀ {ms : List (List Value)}, (∀ c ∈ ms, c.length = z) → ms.flatten.length = ms.length * z
 | [], _ => by simp
 | c :: ms, h => by
   rw [List.flatten_cons, List.length_append, h c List.mem_cons_self, flat_len (fun x hx => h x (List.mem_cons_of_mem _ hx)), List.length_cons, Nat.add_mul]; omega
theorem flat_cut {z : Nat} {ms : List (List Value)} (h : ∀ c ∈ ms, c.length = z) {k : Nat} (hk : k ≤ ms.length) : (ms.take k).flatten = ms.flatten.take (k * z) ∧ (ms.drop k).flatten = ms.flatten.drop (k * z) := by
 have h1 : (ms.take k).flatten.length = k * z := by
  rw [flat_len (fun c hc => h c (List.mem_of_mem_take hc)), List.length_take]; congr 1; omega
 have h2 : ms.flatten = (ms.take k).flatten ++ (ms.drop k).flatten := by rw [← List.flatten_append, List.take_append_drop]
 rw [h2]; exact ⟨by rw [← h1, List.take_left], by rw [← h1, List.drop_left]⟩
theorem RowAt.take {w : World} {A : Nat → Prop} {z n k cap : Nat} {a : Option Addr} {cs : List Value} (h : RowAt w A z (.slice a n cap) n cs) (hk : k ≤ n) : RowAt w A z (.slice a k cap) k (cs.take (k * z)) := by
 obtain ⟨h0, a', c', e, h1, h2, h3⟩ := h; simp only [Value.slice.injEq] at e; obtain ⟨rfl, -, rfl⟩ := e; have hm : k * z ≤ n * z := Nat.mul_le_mul_right z hk; refine ⟨by rw [List.length_take]; omega, _, _, rfl, by omega, h2, fun hp => ?_⟩; obtain ⟨g, o, e, hA, hg, hc⟩ := h3 (by omega); exact ⟨g, o, e, hA, hg, fun i hi => by rw [List.length_take] at hi; rw [List.getElem_take]; exact hc i (by omega)⟩
theorem RowAt.drop {w : World} {A : Nat → Prop} {z n k cap : Nat} {a a' : Option Addr} {cs : List Value} (h : RowAt w A z (.slice a n cap) n cs) (hk : k ≤ n) (ha : ∀ g o, a = some ⟨g, o, none⟩ → k < n → a' = some ⟨g, o + k * z, none⟩) : RowAt w A z (.slice a' (n - k) (cap - k)) (n - k) (cs.drop (k * z)) := by
 obtain ⟨h0, a1, c', e, h1, h2, h3⟩ := h; simp only [Value.slice.injEq] at e; obtain ⟨rfl, -, rfl⟩ := e; have hm : k * z ≤ n * z := Nat.mul_le_mul_right z hk; refine ⟨by rw [List.length_drop, Nat.sub_mul]; omega, _, _, rfl, by omega, by omega, fun hp => ?_⟩; obtain ⟨g, o, e, hA, hg, hc⟩ := h3 (by omega); refine ⟨g, o + k * z, ha g o e (by omega), hA, hg, fun i hi => ?_⟩; rw [List.length_drop] at hi
 rw [List.getElem_drop, Nat.add_assoc]; exact hc (k * z + i) (by omega)
theorem TMc.take {w : World} {A : Nat → Prop} {l : List Mem1} {ms : List (List Value)} (h : TMc w A l ms) (k : Nat) : TMc w A (l.take k) (ms.take k) :=
 ⟨by rw [List.length_take, List.length_take, h.1], fun i hi hi' => by
   rw [List.getElem_take, List.getElem_take]; rw [List.length_take] at hi hi'; exact h.2 i (by omega) (by omega)⟩
theorem TMc.drop {w : World} {A : Nat → Prop} {l : List Mem1} {ms : List (List Value)} (h : TMc w A l ms) (k : Nat) : TMc w A (l.drop k) (ms.drop k) :=
 ⟨by rw [List.length_drop, List.length_drop, h.1], fun i hi hi' => by
   rw [List.getElem_drop, List.getElem_drop]; rw [List.length_drop] at hi hi'; exact h.2 (k + i) (by omega) (by omega)⟩
theorem TMc.app {w : World} {A : Nat → Prop} {l l' : List Mem1} {ms ms' : List (List Value)} (h : TMc w A l ms) (h' : TMc w A l' ms') : TMc w A (l ++ l') (ms ++ ms') :=
 ⟨by rw [List.length_append, List.length_append, h.1, h'.1], fun i hi hi' => by
   by_cases hl : i < l.length
   · rw [List.getElem_append_left hl, List.getElem_append_left (by rw [← h.1]; exact hl)]; exact h.2 i hl _
   · have e := h.1; rw [List.getElem_append_right (by omega), List.getElem_append_right (by omega)]; rw [List.length_append] at hi hi'; simp only [← e]; exact h'.2 (i - l.length) (by omega) (by omega)⟩
theorem TMc.one {w : World} {A : Nat → Prop} {k : List UInt8} {x : Tree} {c : Array Value} (h : TV w A x c) : TMc w A [(k, x)] [.string ⟨k.toArray⟩ :: c.toList] :=
 ⟨rfl, fun i hi hi' => by
   obtain rfl : i = 0 := by simpa using hi
   exact ⟨c, h, rfl⟩⟩
theorem flat_erase {z : Nat} {ms : List (List Value)} (h : ∀ c ∈ ms, c.length = z) {i : Nat} (hi : i < ms.length) : (ms.eraseIdx i).flatten = ms.flatten.take (i * z) ++ ms.flatten.drop ((i + 1) * z) := by
 rw [List.eraseIdx_eq_take_drop_succ, List.flatten_append, (flat_cut h (Nat.le_of_lt hi)).1, (flat_cut h (k := i + 1) hi).2]
theorem TMc.erase {w : World} {A : Nat → Prop} {l : List Mem1} {ms : List (List Value)} (h : TMc w A l ms) {i : Nat} : TMc w A (l.eraseIdx i) (ms.eraseIdx i) :=
 ⟨by rw [List.length_eraseIdx, List.length_eraseIdx, h.1], fun j hj hj' => by
   rw [List.getElem_eraseIdx, List.getElem_eraseIdx]; have h1 := List.length_eraseIdx (l := l) (i := i); have h2 := h.1; by_cases hji : j < i
   · simp only [hji, dif_pos]; exact h.2 j (by split at h1 <;> omega) (by split at h1 <;> omega)
   · simp only [hji, dif_neg, not_false_eq_true]; exact h.2 (j + 1) (by split at h1 <;> omega) (by split at h1 <;> omega)⟩
theorem TLc.erase {w : World} {A : Nat → Prop} {l : List Tree} {ms : List (List Value)} (h : TLc w A l ms) {i : Nat} : TLc w A (l.eraseIdx i) (ms.eraseIdx i) :=
 ⟨by rw [List.length_eraseIdx, List.length_eraseIdx, h.1], fun j hj hj' => by
   rw [List.getElem_eraseIdx, List.getElem_eraseIdx]; have h1 := List.length_eraseIdx (l := l) (i := i); have h2 := h.1; by_cases hji : j < i
   · simp only [hji, dif_pos]; exact h.2 j (by split at h1 <;> omega) (by split at h1 <;> omega)
   · simp only [hji, dif_neg, not_false_eq_true]; exact h.2 (j + 1) (by split at h1 <;> omega) (by split at h1 <;> omega)⟩
set_option maxHeartbeats 12800000 in
theorem drop1_does (w0 : World) : DoesF dropF 58 #[] (fun _ => False) w0 := by
 intro A t c s w hw0 h hwt hpos hkS; obtain ⟨R, hR⟩ := Ex (dropF t s (Orange.stepT t s).isSome); rw [hR]; have HR := Hd hR; clear hR; obtain ⟨k, b, d, ss, la, ln, lc, ma, mn, mc, rfl⟩ := h.eight; obtain ⟨cl, cm, htl, hrl, htm, hrm, hk, hb, hd1, hd2, hd3, hss⟩ := tv_rows h; obtain ⟨_, a1, c1, ea, hl1, hl2, -⟩ := id hrl; simp only [Value.slice.injEq] at ea; obtain ⟨rfl, eln, rfl⟩ := ea; subst eln
 obtain ⟨_, a2, c2, ea, hm1, hm2, -⟩ := id hrm; simp only [Value.slice.injEq] at ea; obtain ⟨rfl, emn, rfl⟩ := ea; subst emn; obtain ⟨wA, ewA⟩ : ∃ W, w.alloc (.cells (cellsV k b d ss (.slice la t.list.length lc) (.slice ma t.mems.length mc)) 27) = W := ⟨_, rfl⟩
 have nwA : wA.heap[w.heap.size]? = some (.cells (cellsV k b d ss (.slice la t.list.length lc) (.slice ma t.mems.length mc)) 27) := by rw [← ewA]; exact heap_alloc_new _ _
 have xwA : Ext w wA := by rw [← ewA]; exact (ext_refl _).alloc (Nat.le_refl _) _
 have swA : wA.heap.size = w.heap.size + 1 := by rw [← ewA]; simp
 obtain ⟨wB, ewB⟩ : ∃ W, wA.alloc (.cells (cellsS s) 46) = W := ⟨_, rfl⟩
 have nwB : wB.heap[wA.heap.size]? = some (.cells (cellsS s) 46) := by rw [← ewB]; exact heap_alloc_new _ _
 have xwB : Ext wA wB := by rw [← ewB]; exact (ext_refl _).alloc (Nat.le_refl _) _
 have swB : wB.heap.size = wA.heap.size + 1 := by rw [← ewB]; simp
 obtain ⟨wr, ewr⟩ : ∃ W, wB.alloc (.cells zeroV 27) = W := ⟨_, rfl⟩
 have nwr : wr.heap[wB.heap.size]? = some (.cells zeroV 27) := by rw [← ewr]; exact heap_alloc_new _ _
 have xwr : Ext wB wr := by rw [← ewr]; exact (ext_refl _).alloc (Nat.le_refl _) _
 have swr : wr.heap.size = wB.heap.size + 1 := by rw [← ewr]; simp
 have hE := ext_trans (ext_trans xwA xwB) xwr; have HTL := Hd (htl.keep (w' := wr) (A' := fun g => A g ∧ g < w.heap.size) hE.size (fun g hg hlt => ⟨⟨hg, hlt⟩, hE.block g hlt⟩)); have HRL := Hd (hrl.keep (w' := wr) (A' := fun g => A g ∧ g < w.heap.size) hE.size (fun g hg hlt => ⟨⟨hg, hlt⟩, hE.block g hlt⟩))
 have HTM := Hd (htm.keep (w' := wr) (A' := fun g => A g ∧ g < w.heap.size) hE.size (fun g hg hlt => ⟨⟨hg, hlt⟩, hE.block g hlt⟩)); have HRM := Hd (hrm.keep (w' := wr) (A' := fun g => A g ∧ g < w.heap.size) hE.size (fun g hg hlt => ⟨⟨hg, hlt⟩, hE.block g hlt⟩)); rw [swA] at nwB; rw [swB, swA] at nwr
 have HC : Hid (VAt wr w.heap.size (cellsV k b d ss (.slice la t.list.length lc) (.slice ma t.mems.length mc))) := Hd (VAt.ext (VAt.ext nwA xwB) xwr); have HSP : Hid (SpAt wr (w.heap.size + 1) s) := Hd (SpAt.ext nwB xwr); have HV2 : Hid (VAt wr (w.heap.size + 1 + 1) zeroV) := Hd nwr; have HE := Hd hE
 have HTK : Hid (k = t.kind ∧ b = t.bit ∧ d.neg = t.num.neg ∧ d.digits = t.num.digits ∧ d.exp = t.num.exp ∧ ss = t.str) := Hd ⟨hk, hb, hd1, hd2, hd3, hss⟩; have HKS := Hd hkS; have EA := Hd ewA; have EB := Hd ewB; have EC := Hd ewr; have hlen : t.list.length ≤ 1000000 ∧ t.mems.length ≤ 1000000 := by
  have h1 := countT_ins t; have h2 := countL_len t.ins; have h3 := ins_len t; have h4 := count_weight t; exact ⟨by omega, by omega⟩
 obtain ⟨hll, hml⟩ := hlen; clear hk hb hd1 hd2 hd3 hss htl hrl htm hrm h hE nwA nwB nwr xwA xwB xwr swA swB swr ewA ewB ewr hw0 hkS hwt; obtain ⟨L, hL⟩ := Ex t.list; obtain ⟨M, hM⟩ := Ex t.mems; rw [hL] at HTL HRL HC EA hl1 hll ⊢; rw [hM] at HTM HRM HC EA hm1 hml ⊢; have HLe := Hd hL; have HMe := Hd hM; clear hL hM; simp only [cellsV, zeroV, noL, Num.zero, cellsS] at HC HV2 HSP EA EB EC ⊢
 obtain ⟨OK, hOK⟩ := Ex ((Orange.stepT t s).isSome); have hr := HR.out; rw [hOK] at hr ⊢; replace HR := Hd hr; have HOK := Hd hOK; clear hr hOK; go_enter Tryz.func58, Tryz.ntmps58
 go_upto_region 2 with fail; rw [EA.out, EB.out, EC.out]; obtain ⟨S, hS⟩ := Ex w.heap.size; rw [hS] at HC HV2 HSP HTL HRL HTM HRM ⊢; have HS := Hd hS; clear hS EA EB EC; obtain ⟨P0, hP⟩ := Ex wr.heap.size; have hP0 : S + 2 < P0 := by rw [← hP]; exact HV2.out.lt
 have HP0 := Hd hP; clear hP; cases OK with
 | false =>
   replace HR : Hid (R = (tNull, 6)) := Hd (by rw [← HR.out]; unfold dropF; rw [if_pos rfl]); obtain ⟨y0, y1, y2, y3, y4, y5, y6, y7⟩ := HV2.out.c8; obtain ⟨z0, z1, z2, z3, z4, z5, z6, z7⟩ := HV2.out.f8; go_wp2_with fail; have hV := VAt.store8 HV2.out (.int .i64 0) (.bool false) (.bool false) (.string ⟨#[]⟩) (.int .i64 0) (.string ⟨#[]⟩) (.slice none 0 0) (.slice none 0 0); have HV := Hd hV
   obtain ⟨v0, v1, v2, v3, v4, v5, v6, v7⟩ := HV.out.c8; refine bodyPost_ret (v := .tuple #[.agg #[.int .i64 0, .bool false, .bool false, .string ⟨#[]⟩, .int .i64 0, .string ⟨#[]⟩, .slice none 0 0, .slice none 0 0], .int .i64 6]) (by simp [results, Tryz.results58, go_sem, v0, v1, v2, v3, v4, v5, v6, v7]) rfl ?_; rw [HR.out]
   exact ⟨_, rfl, TV.leaf _ _ 0 false Num.zero [], ext_set8 HE.out (by rw [HS.out]; omega)⟩
 | true =>
   obtain ⟨s0, s1, s2⟩ := HSP.out.cell; cases hn : s.named with
   | true =>
     obtain ⟨i, hix, HI⟩ : ∃ i, ∃ h : i < M.length, Hid (fIdx (hasKey s.name) M = i ∧ dropM s.name M = M.eraseIdx i) := by
      have h1 := HOK.out; unfold Orange.stepT getT at h1; rw [if_pos hn, HMe.out] at h1; rcases find_idx s.name M with ⟨hf, hi⟩ | ⟨i, hlt, hi, hk, hf, hse, hdr⟩
      · rw [hf] at h1; split at h1 <;> simp at h1
      · exact ⟨i, hlt, Hd ⟨hi, hdr⟩⟩
     replace HR : Hid (R = (t.withM (M.eraseIdx i), 0)) := Hd (by rw [← HR.out]; unfold dropF; rw [if_neg (by decide), if_pos hn, HMe.out, HI.out.2]); rw [hn] at s2; clear hn; have HPL := Hd (place_any s.name (.slice ma M.length mc) M cm (fun _ => True) wr (HRM.out.keep (Nat.le_refl _) (fun g _ _ => ⟨trivial, rfl⟩)) (HTM.out.keep (A' := fun _ => True) (Nat.le_refl _) (fun g _ _ => ⟨trivial, rfl⟩)))
     rw [HI.out.1] at HPL; have c7 := HC.out.cell 7; simp at c7; go_wp2_with fail; refine (HPL.out).mono ?_; rintro e w3 ⟨rfl, hw3⟩; have HCM := Hd (cloneM_any (.slice ma M.length mc) M.length cm (fun _ => True) w3 (HRM.out.keep hw3.size (fun g _ hlt => ⟨trivial, hw3.block g hlt⟩)) (TM.one HTM.out) hml); clear c7 s0 s1 s2 HPL; have c7 := (HC.out.ext hw3).cell 7; simp at c7; go_wp2_with fail
     refine (HCM.out).mono ?_; rintro e w4 ⟨v', rfl, hown, hw4'⟩; have hw4 := ext_trans hw3 hw4'; obtain ⟨hl0, hblk⟩ := id hown; obtain ⟨g, oc, cur, rfl, hbg, -⟩ := hblk.resolve_left (fun h => by have := h.2; omega); have hg0 : P0 ≤ g := by have := HP0.out; have := hw3.size; omega
     have HDL := Hd (delM_any w3.heap.size g oc M.length i cm w4 hown (TM.one HTM.out) hix hml); obtain ⟨ms, rfl, hmc⟩ := TMc.of HTM.out; have HMC := Hd hmc; have e8 : IntKind.i64.wrap ((i : Int) + 1) = ((i + 1 : Nat) : Int) := by rw [IntWalk.i64_in _ (by omega)]; omega
     clear hmc c7 HCM hown hl0 hblk; go_wp2_with fail; refine (HDL.out).mono ?_; rintro e w5 ⟨rfl, hrow5, hk5⟩; have HKW : Hid (KeptP g wr w5) := Hd ((KeptP.ofExt hw4).trans hk5); have hkq : ∀ q, (A q ∧ q < S) → q < wr.heap.size → ((A q ∧ q < S) ∨ P0 ≤ q) ∧ w5.heap[q]? = wr.heap[q]? := fun q hq hlt => ⟨.inl hq, HKW.out.block q hlt (by have := hq.2; omega)⟩
     have HTN : Hid (TV w5 (fun q => (A q ∧ q < S) ∨ P0 ≤ q) (t.withM (M.eraseIdx i)) (cellsV k b d ss (.slice la L.length lc) (.slice (some ⟨g, 0, none⟩) (M.length - 1) oc))) := Hd (by
      refine tv_withM HTK.out HLe.out (HTL.out.keep HKW.out.size hkq) (HRL.out.keep HKW.out.size hkq) (TMc.tm (HMC.out.keep HKW.out.size hkq).erase) ?_; rw [List.length_eraseIdx, if_pos hix, flat_erase HMC.out.nine (by rw [← HMC.out.1]; exact hix)]; exact hrow5.keep (Nat.le_refl _) (fun q hq _ => ⟨.inr (by rw [hq]; exact hg0), rfl⟩))
     have HV5 := Hd (VAt.kept HC.out HKW.out (by omega)); have HV9 := Hd ((VAt.kept HV2.out HKW.out (by omega)).oth (p := S) (i := 7) (u := .slice (some ⟨g, 0, none⟩) (M.length - 1) oc) (by omega))
     have HVN : Hid (VAt (w5.setCell ⟨S, 7, none⟩ (.slice (some ⟨g, 0, none⟩) (M.length - 1) oc)) S #[.int .i64 k, .bool b, .bool d.neg, .string ⟨d.digits.toArray⟩, .int .i64 d.exp, .string ⟨ss.toArray⟩, .slice la L.length lc, .slice (some ⟨g, 0, none⟩) (M.length - 1) oc]) := Hd (HV5.out.set1 7 (.slice (some ⟨g, 0, none⟩) (M.length - 1) oc))
     have HE9 : Hid (Ext w (w5.setCell ⟨S, 7, none⟩ (.slice (some ⟨g, 0, none⟩) (M.length - 1) oc))) := Hd (ext_keptP (ext_keptP HE.out HKW.out (by have := HS.out; omega)) (KeptP.set _) (by rw [HS.out]; exact Nat.le_refl _)); have f7 := HV5.out.free 7; have q7 := HV5.out.cell 7; simp at q7; clear hkq hrow5 hk5 hw4; go_upto_region 7 with fail; clear q7 f7
     generalize hw6 : w5.setCell ⟨S, 7, none⟩ (.slice (some ⟨g, 0, none⟩) (M.length - 1) oc) = w6 at *; have HTF : Hid (TV w6 (fun q => (A q ∧ q < S) ∨ P0 ≤ q) (t.withM (M.eraseIdx i)) (cellsV k b d ss (.slice la L.length lc) (.slice (some ⟨g, 0, none⟩) (M.length - 1) oc))) := Hd (by
      rw [← hw6]; exact HTN.out.keep (by simp [World.setCell]) (fun q hq hlt => ⟨hq, Below.heap_setCell _ _ _ _ (show q ≠ S by rcases hq with hq | hq; have := hq.2; omega; omega)⟩))
     clear hw6 HTN; obtain ⟨c0, c1, c2, c3, c4, c5, c6, c7⟩ := HVN.out.c8; obtain ⟨y0, y1, y2, y3, y4, y5, y6, y7⟩ := HV9.out.c8; obtain ⟨z0, z1, z2, z3, z4, z5, z6, z7⟩ := HV9.out.f8; go_wp2_with fail
     have hV := VAt.store8 HV9.out (.int .i64 k) (.bool b) (.bool d.neg) (.string ⟨d.digits.toArray⟩) (.int .i64 d.exp) (.string ⟨ss.toArray⟩) (.slice la L.length lc) (.slice (some ⟨g, 0, none⟩) (M.length - 1) oc); have HV := Hd hV; obtain ⟨v0, v1, v2, v3, v4, v5, v6, v7⟩ := HV.out.c8
     refine bodyPost_ret (v := .tuple #[.agg #[.int .i64 k, .bool b, .bool d.neg, .string ⟨d.digits.toArray⟩, .int .i64 d.exp, .string ⟨ss.toArray⟩, .slice la L.length lc, .slice (some ⟨g, 0, none⟩) (M.length - 1) oc], .int .i64 0]) (by simp [results, Tryz.results58, go_sem, v0, v1, v2, v3, v4, v5, v6, v7]) rfl ?_; rw [HR.out]
     exact ⟨_, rfl, HTF.out.keep (by simp [World.setCell]) (fun q hq hlt => ⟨by rcases hq with hq | hq; exact .inl hq.1; exact .inr (.inr (by have := HP0.out; have := HE.out.size; omega)), heap8 (by rcases hq with hq | hq; have := hq.2; omega; omega)⟩), ext_set8 HE9.out (by rw [HS.out]; omega)⟩
   | false =>
     obtain ⟨i, hix, hpi⟩ : ∃ i : Nat, ∃ h : i < L.length, s.pos = i := by
      have h1 := HOK.out; unfold Orange.stepT at h1; rw [if_neg (by rw [hn]; decide), HLe.out] at h1; split at h1
      · next h2 => exact ⟨s.pos.toNat, by omega, by omega⟩
      · simp at h1
     replace HR : Hid (R = (t.withL (L.eraseIdx i), 0)) := Hd (by rw [← HR.out]; unfold dropF; rw [if_neg (by decide), if_neg (by rw [hn]; decide), HLe.out, hpi]; rfl); rw [hn] at s2; rw [hpi] at s1; have HCL : Hid (∀ w', Ext wr w' → Calls Tryz.prog 48 #[.slice la L.length lc] w' (fun e w'' => ∃ v', e = .returned v' ∧ w''.ownsRow w'.heap.size 27 8 v' L.length cl ∧ Ext w' w'')) := Hd (fun w' hw =>
      clone_any _ L.length cl (fun _ => True) w' (HRL.out.keep hw.size (fun g _ hlt => ⟨trivial, hw.block g hlt⟩)) (TL.one HTL.out) hll)
     have HSQ : Hid (∀ w', Ext wr w' → w'.cell? ⟨S + 1, 1, none⟩ = some (.int .i64 i)) := Hd (fun w' hw => by rw [← hpi]; exact ((HSP.out.ext hw).cell).2.1); clear hn hpi; have hih : (i : Int) + 1 ≤ 1000000 := by omega
     have hi0 : (0 : Int) ≤ i := by omega
     go_upto_region 1 with fail; clear s0 s1 s2; refine GrowS.wp_region_restTA (G := fun _ => Ext) (B := fun _ w' => Ext wr w') (E := fun _ _ => False) (anc := fun _ => []) (Inv := fun _ w' => Ext wr w')
      (I := fun j _ => if j = 2 then some (specRow 27 8 L.length cl P0) else none)
      8 (fun j => ([[], [0], [0, 1], [], [3], [], [5], [5, 6], [0, 1, 2, 3, 4, 5, 6, 7], [0, 1, 2, 3, 4, 5, 6, 7], [0, 1, 2, 3, 4, 5, 6, 7]] : List (List Nat)).getD j []) #[true, true, true, true, true, true, true, true, false, false, false] (fun _ _ _ _ _ _ _ _ _ _ => rfl) (by kernel_rfl) (by kernel_rfl) (by kernel_rfl) (GrowS.inv_const fun _ _ h hg => ext_trans h hg) ?_ ?_ ?_
     · exact fun _ _ _ _ h => h.elim
     · exact (ext_refl _).drew
     refine GrowS.Wk.out ?_; simp only [List.take_succ_cons, List.take_zero, List.drop_succ_cons, List.drop_zero]; repeat
      (refine GrowS.Wk.step (fun K hK => ?_)
       first
       | (refine GrowS.step_read (by rfl) (by rfl) (fun w => ext_refl w) ?_
          apply Exists.intro; refine ⟨fun w hB hF => ?_, ?_⟩
          · replace hB : Ext wr w := hB; have HCW := HC.out.ext hB; have c6 := HCW.cell 6; simp at c6; have s1 := HSQ.out w hB; go_simp; try exact rfl
          go_simp; refine hK _ _ ?_; clear hK K)
       | (refine GrowS.step_off (by rfl) ?_
          go_simp; refine hK _ _ ?_; clear hK K))
     refine GrowS.Wk.step (fun K hK => ?_); refine GrowS.step_rel (by rfl) (by rfl) (fun w' hB hF => ?_) (fun v hv => ?_)
     · replace hB : Ext wr w' := hB; go_simp; refine GrowS.relUpon_enter ((HCL.out w' hB).mono ?_); rintro e w'' ⟨v', rfl, hown, hw''⟩; obtain ⟨ov, oc, rfl⟩ := ownsRow_shape hown; exact .inl ⟨_, rfl, hw'', ⟨_, _, rfl⟩, ownsRow_low hown (by have := hB.size; have := HP0.out; omega)⟩
     obtain ⟨ov, oc, rfl⟩ := hv; go_simp; refine hK _ _ ?_; clear hK K; repeat
      (refine GrowS.Wk.step (fun K hK => ?_)
       first
       | (refine GrowS.step_read (by rfl) (by rfl) (fun w => ext_refl w) ?_
          apply Exists.intro; refine ⟨fun w hB hF => ?_, ?_⟩
          · replace hB : Ext wr w := hB; have HCW := HC.out.ext hB; have c6 := HCW.cell 6; simp at c6; have s1 := HSQ.out w hB; go_simp; try exact rfl
          go_simp; refine hK _ _ ?_; clear hK K)
       | (refine GrowS.step_off (by rfl) ?_
          go_simp; refine hK _ _ ?_; clear hK K))
     refine GrowS.Wk.nil ?_; intro w4 hB hF; replace hB : Ext wr w4 := hB; have hown : w4.ownsRow P0 27 8 (.slice ov L.length oc) L.length cl := hF 2; have hw4 := hB; obtain ⟨hl0, hblk⟩ := id hown; obtain ⟨g, oc', cur, ev, hbg, -⟩ := hblk.resolve_left (fun h => by have := h.2; omega); simp only [Value.slice.injEq] at ev; obtain ⟨rfl, -, rfl⟩ := ev; have hg0 : P0 ≤ g := hbg
     have HDL := Hd (delL_any P0 g oc L.length i cl w4 hown (TL.one HTL.out) hix hll); obtain ⟨ms, rfl, hmc⟩ := TLc.of HTL.out; have HMC := Hd hmc; have e8 : IntKind.i64.wrap ((i : Int) + 1) = ((i + 1 : Nat) : Int) := by rw [IntWalk.i64_in _ (by omega)]; omega
     clear hmc hown hl0 hblk hF hB hbg; show wpAny _ _ _ _ (2 + 1) _ _ _; refine wpAny_one 8 (by kernel_rfl) ?_; refine wpOp_now rfl (by rfl) ?_; unfold Oper.wp; go_simp; refine (HDL.out).mono ?_; rintro e w5 ⟨rfl, hrow5, hk5⟩; have HKW : Hid (KeptP g wr w5) := Hd ((KeptP.ofExt hw4).trans hk5)
     have hkq : ∀ q, (A q ∧ q < S) → q < wr.heap.size → ((A q ∧ q < S) ∨ P0 ≤ q) ∧ w5.heap[q]? = wr.heap[q]? := fun q hq hlt => ⟨.inl hq, HKW.out.block q hlt (by have := hq.2; omega)⟩; have HTN : Hid (TV w5 (fun q => (A q ∧ q < S) ∨ P0 ≤ q) (t.withL (L.eraseIdx i)) (cellsV k b d ss (.slice (some ⟨g, 0, none⟩) (L.length - 1) oc) (.slice ma M.length mc))) := Hd (by
      refine tv_withL HTK.out HMe.out (TLc.tl (HMC.out.keep HKW.out.size hkq).erase) ?_ (HTM.out.keep HKW.out.size hkq) (HRM.out.keep HKW.out.size hkq); rw [List.length_eraseIdx, if_pos hix, flat_erase HMC.out.eight (by rw [← HMC.out.1]; exact hix)]; exact hrow5.keep (Nat.le_refl _) (fun q hq _ => ⟨.inr (by rw [hq]; exact hg0), rfl⟩))
     have HV5 := Hd (VAt.kept HC.out HKW.out (by omega)); have HV9 := Hd ((VAt.kept HV2.out HKW.out (by omega)).oth (p := S) (i := 6) (u := .slice (some ⟨g, 0, none⟩) (L.length - 1) oc) (by omega))
     have HVN : Hid (VAt (w5.setCell ⟨S, 6, none⟩ (.slice (some ⟨g, 0, none⟩) (L.length - 1) oc)) S #[.int .i64 k, .bool b, .bool d.neg, .string ⟨d.digits.toArray⟩, .int .i64 d.exp, .string ⟨ss.toArray⟩, .slice (some ⟨g, 0, none⟩) (L.length - 1) oc, .slice ma M.length mc]) := Hd (HV5.out.set1 6 (.slice (some ⟨g, 0, none⟩) (L.length - 1) oc))
     have HE9 : Hid (Ext w (w5.setCell ⟨S, 6, none⟩ (.slice (some ⟨g, 0, none⟩) (L.length - 1) oc))) := Hd (ext_keptP (ext_keptP HE.out HKW.out (by have := HS.out; omega)) (KeptP.set _) (by rw [HS.out]; exact Nat.le_refl _)); have f6 := HV5.out.free 6; have q6 := HV5.out.cell 6; simp at q6; clear hkq hrow5 hk5 hw4; refine wpAny_one 9 (by kernel_rfl) ?_; refine wpOp_now rfl (by rfl) ?_; unfold Oper.wp
     go_simp; refine wpAny_one 10 (by kernel_rfl) ?_; refine wpOp_now rfl (by rfl) ?_; unfold Oper.wp; go_simp; show wpAny _ _ _ _ 0 _ _ _; refine ⟨by decide +kernel, ?_⟩; go_upto_region 7 with fail; clear q6 f6; generalize hw6 : w5.setCell ⟨S, 6, none⟩ (.slice (some ⟨g, 0, none⟩) (L.length - 1) oc) = w6 at *
     have HTF : Hid (TV w6 (fun q => (A q ∧ q < S) ∨ P0 ≤ q) (t.withL (L.eraseIdx i)) (cellsV k b d ss (.slice (some ⟨g, 0, none⟩) (L.length - 1) oc) (.slice ma M.length mc))) := Hd (by
      rw [← hw6]; exact HTN.out.keep (by simp [World.setCell]) (fun q hq hlt => ⟨hq, Below.heap_setCell _ _ _ _ (show q ≠ S by rcases hq with hq | hq; have := hq.2; omega; omega)⟩))
     clear hw6 HTN; obtain ⟨c0, c1, c2, c3, c4, c5, c6, c7⟩ := HVN.out.c8; obtain ⟨y0, y1, y2, y3, y4, y5, y6, y7⟩ := HV9.out.c8; obtain ⟨z0, z1, z2, z3, z4, z5, z6, z7⟩ := HV9.out.f8; go_wp2_with fail
     have hV := VAt.store8 HV9.out (.int .i64 k) (.bool b) (.bool d.neg) (.string ⟨d.digits.toArray⟩) (.int .i64 d.exp) (.string ⟨ss.toArray⟩) (.slice (some ⟨g, 0, none⟩) (L.length - 1) oc) (.slice ma M.length mc); have HV := Hd hV; obtain ⟨v0, v1, v2, v3, v4, v5, v6, v7⟩ := HV.out.c8
     refine bodyPost_ret (v := .tuple #[.agg #[.int .i64 k, .bool b, .bool d.neg, .string ⟨d.digits.toArray⟩, .int .i64 d.exp, .string ⟨ss.toArray⟩, .slice (some ⟨g, 0, none⟩) (L.length - 1) oc, .slice ma M.length mc], .int .i64 0]) (by simp [results, Tryz.results58, go_sem, v0, v1, v2, v3, v4, v5, v6, v7]) rfl ?_; rw [HR.out]
     exact ⟨_, rfl, HTF.out.keep (by simp [World.setCell]) (fun q hq hlt => ⟨by rcases hq with hq | hq; exact .inl hq.1; exact .inr (.inr (by have := HP0.out; have := HE.out.size; omega)), heap8 (by rcases hq with hq | hq; have := hq.2; omega; omega)⟩), ext_set8 HE9.out (by rw [HS.out]; omega)⟩
set_option maxHeartbeats 6400000 in
theorem vdrop_any (t : Tree) (c : Array Value) (A : Nat → Prop) (v : Value) (l : List PStep) (w : World) (h : TV w A t c) (hl : PlAt w A v l) (hwt : weightT t ≤ 1000000) :
 Calls Tryz.prog 28 #[.agg c, v] w (fun e w' => ∃ c', e = .returned (.tuple #[.agg c', .int .i64 (dropT t l).2]) ∧ TV w' (fun g => A g ∨ w.heap.size ≤ g) (dropT t l).1 c' ∧ Ext w w') := by
 obtain ⟨R, hR⟩ := Ex (dropT t l); rw [hR]; have HR := Hd hR; clear hR; obtain ⟨k, b, d, ss, la, ln, lc, ma, mn, mc, rfl⟩ := h.eight; obtain ⟨_, va, vc, rfl, hvn, hvm, -⟩ := id hl.1; obtain ⟨wA, ewA⟩ : ∃ W, w.alloc (.cells (cellsV k b d ss (.slice la ln lc) (.slice ma mn mc)) 27) = W := ⟨_, rfl⟩
 have nwA : wA.heap[w.heap.size]? = some (.cells (cellsV k b d ss (.slice la ln lc) (.slice ma mn mc)) 27) := by rw [← ewA]; exact heap_alloc_new _ _
 have xwA : Ext w wA := by rw [← ewA]; exact (ext_refl _).alloc (Nat.le_refl _) _
 have swA : wA.heap.size = w.heap.size + 1 := by rw [← ewA]; simp
 obtain ⟨wr, ewr⟩ : ∃ W, wA.alloc (.cells zeroV 27) = W := ⟨_, rfl⟩
 have nwr : wr.heap[wA.heap.size]? = some (.cells zeroV 27) := by rw [← ewr]; exact heap_alloc_new _ _
 have xwr : Ext wA wr := by rw [← ewr]; exact (ext_refl _).alloc (Nat.le_refl _) _
 have swr : wr.heap.size = wA.heap.size + 1 := by rw [← ewr]; simp
 have hE := ext_trans xwA xwr; have HT := Hd (h.keep (w' := wr) (A' := fun g => A g ∧ g < w.heap.size) hE.size (fun g hg hlt => ⟨⟨hg, hlt⟩, hE.block g hlt⟩)); have HL := Hd (hl.keep (w' := wr) (A' := fun g => A g ∧ g < w.heap.size) hE.size (fun g hg hlt => ⟨⟨hg, hlt⟩, hE.block g hlt⟩)); rw [swA] at nwr
 have HC : Hid (VAt wr w.heap.size (cellsV k b d ss (.slice la ln lc) (.slice ma mn mc))) := Hd (VAt.ext nwA xwr); have HV2 : Hid (VAt wr (w.heap.size + 1) zeroV) := Hd nwr; have HE := Hd hE; have HWT := Hd hwt; have EA := Hd ewA; have EC := Hd ewr; clear h hl hE nwA nwr xwA xwr swA swr ewA ewr hwt; simp only [cellsV, zeroV, noL, Num.zero] at HC HV2 EA EC ⊢; go_enter Tryz.func28, Tryz.ntmps28
 go_upto_region 1 with fail; rw [EA.out, EC.out]; obtain ⟨S, hS⟩ := Ex w.heap.size; rw [hS] at HC HV2 HT HL ⊢; have HS := Hd hS; clear hS EA EC; cases l with
 | nil =>
   replace HR : Hid (R = (tNull, 1)) := Hd (by rw [← HR.out]; unfold dropT; rw [if_pos rfl]); obtain ⟨y0, y1, y2, y3, y4, y5, y6, y7⟩ := HV2.out.c8; obtain ⟨z0, z1, z2, z3, z4, z5, z6, z7⟩ := HV2.out.f8; go_wp2_with fail; have hV := VAt.store8 HV2.out (.int .i64 0) (.bool false) (.bool false) (.string ⟨#[]⟩) (.int .i64 0) (.string ⟨#[]⟩) (.slice none 0 0) (.slice none 0 0); have HV := Hd hV
   obtain ⟨v0, v1, v2, v3, v4, v5, v6, v7⟩ := HV.out.c8; refine bodyPost_ret (v := .tuple #[.agg #[.int .i64 0, .bool false, .bool false, .string ⟨#[]⟩, .int .i64 0, .string ⟨#[]⟩, .slice none 0 0, .slice none 0 0], .int .i64 1]) (by simp [results, Tryz.results28, go_sem, v0, v1, v2, v3, v4, v5, v6, v7]) rfl ?_; rw [HR.out]
   exact ⟨_, rfl, TV.leaf _ _ 0 false Num.zero [], ext_set8 HE.out (by rw [HS.out]; omega)⟩
 | cons s l =>
   replace HR : Hid (R = changeT dropF t (s :: l)) := Hd (by rw [← HR.out]; unfold dropT; rw [if_neg (by simp)]); have hl0 : ((l.length : Int) + 1 == 0) = false := by simp; omega
   have HCALL := Hd (change_any dropF 58 #[] (fun _ => False) wr (fun g hg => hg.elim) (fun args w => rfl) (drop1_does wr) (s :: l) (fun g => A g ∧ g < S) t _ _ wr (by simp) (ext_refl _) HT.out HL.out HWT.out); rw [← HR.out] at HCALL; obtain ⟨c0, c1, c2, c3, c4, c5, c6, c7⟩ := HC.out.c8; go_wp2_with fail; refine (HCALL.out).mono ?_; rintro e w5 ⟨c', rfl, htv, hx5⟩
   obtain ⟨yk, yb, yd, ys, ya1, yn1, yc1, ya2, yn2, yc2, rfl⟩ := htv.eight; have HT5 := Hd htv; have HE5 := Hd (ext_trans HE.out hx5); have HV5 := Hd (HV2.out.ext hx5); have HP5 := Hd HV2.out.lt; clear htv hx5 HCALL; clear c0 c1 c2 c3 c4 c5 c6 c7; obtain ⟨R1, R2⟩ := R; obtain ⟨y0, y1, y2, y3, y4, y5, y6, y7⟩ := HV5.out.c8; obtain ⟨z0, z1, z2, z3, z4, z5, z6, z7⟩ := HV5.out.f8; go_wp2_with fail
   have hV := VAt.store8 HV5.out (.int .i64 yk) (.bool yb) (.bool yd.neg) (.string ⟨yd.digits.toArray⟩) (.int .i64 yd.exp) (.string ⟨ys.toArray⟩) (.slice ya1 yn1 yc1) (.slice ya2 yn2 yc2); have HV := Hd hV; obtain ⟨v0, v1, v2, v3, v4, v5, v6, v7⟩ := HV.out.c8
   refine bodyPost_ret (v := .tuple #[.agg #[.int .i64 yk, .bool yb, .bool yd.neg, .string ⟨yd.digits.toArray⟩, .int .i64 yd.exp, .string ⟨ys.toArray⟩, .slice ya1 yn1 yc1, .slice ya2 yn2 yc2], .int .i64 R2]) (by simp [results, Tryz.results28, go_sem, v0, v1, v2, v3, v4, v5, v6, v7]) rfl ?_
   exact ⟨_, rfl, HT5.out.keep (by simp [World.setCell]) (fun g hg hlt => ⟨by rcases hg with hg | hg | hg; exact .inl hg.1; exact hg.elim; exact .inr (by have := HE.out.size; omega), heap8 (by have := HP5.out; rcases hg with hg | hg | hg; have := hg.2; omega; exact hg.elim; omega)⟩), ext_set8 HE5.out (by rw [HS.out]; omega)⟩
end Go.Proofs.YtjapbjmeoaagmaaGreatDoor
end

section
set_option maxRecDepth 100000
namespace Orange
mutual
def fewT : Nat → Int → Tree → Int
 | deep, left, .mk _ _ d s l m => if 150 < deep then -1 else fewM (deep + 1) (fewL (deep + 1) (left - 1 - s.length - d.digits.length) l) m
def fewL : Nat → Int → List Tree → Int
 | _, left, [] => left
 | deep, left, t :: l => if 0 ≤ left then fewL deep (fewT deep left t) l else left
def fewM : Nat → Int → List Mem1 → Int
 | _, left, [] => left
 | deep, left, (k, t) :: m => if 0 ≤ left then fewM deep (fewT deep (left - k.length) t) m else left
end
theorem fewL_cons (deep : Nat) (left : Int) (t : Tree) (l : List Tree) : fewL deep left (t :: l) = if 0 ≤ left then fewL deep (fewT deep left t) l else left := by rw [fewL]
theorem fewM_cons (deep : Nat) (left : Int) (k : List UInt8) (t : Tree) (l : List Mem1) : fewM deep left ((k, t) :: l) = if 0 ≤ left then fewM deep (fewT deep (left - k.length) t) l else left := by rw [fewM]
theorem fewL_neg (deep : Nat) (left : Int) (l : List Tree) (h : left < 0) : fewL deep left l = left := by
 cases l with
 | nil => rw [fewL]
 | cons t l => rw [fewL, if_neg (by omega)]
theorem fewM_neg (deep : Nat) (left : Int) (l : List Mem1) (h : left < 0) : fewM deep left l = left := by
 cases l with
 | nil => rw [fewM]
 | cons t l => obtain ⟨k, t⟩ := t; rw [fewM, if_neg (by omega)]
mutual
theorem fewT_weight : ∀ (t : Tree) (deep : Nat) (left : Int), 0 ≤ fewT deep left t → fewT deep left t + weightT t = left
 | .mk _ _ d s l m, deep, left, h => by
   rw [fewT] at h ⊢; split at h
   · omega
   · next hd =>
     rw [if_neg hd, weightT]; have h2 := fewM_weight m (deep + 1) _ h; have h1 : 0 ≤ fewL (deep + 1) (left - 1 - s.length - d.digits.length) l := by
      rcases Int.lt_or_le (fewL (deep + 1) (left - 1 - s.length - d.digits.length) l) 0 with h0 | h0
      · rw [fewM_neg _ _ _ h0] at h; omega
      · exact h0
     have h3 := fewL_weight l (deep + 1) _ h1; omega
theorem fewL_weight : ∀ (l : List Tree) (deep : Nat) (left : Int), 0 ≤ fewL deep left l → fewL deep left l + weightL l = left
 | [], deep, left, h => by rw [fewL, weightL]; omega
 | t :: l, deep, left, h => by
   rw [fewL] at h ⊢; split at h
   · next h0 =>
     rw [if_pos h0, weightL]; have h2 := fewL_weight l deep _ h; have h1 : 0 ≤ fewT deep left t := by
      rcases Int.lt_or_le (fewT deep left t) 0 with h3 | h3
      · rw [fewL_neg _ _ _ h3] at h; omega
      · exact h3
     have := fewT_weight t deep left h1; omega
   · omega
theorem fewM_weight : ∀ (l : List Mem1) (deep : Nat) (left : Int), 0 ≤ fewM deep left l → fewM deep left l + weightM l = left
 | [], deep, left, h => by rw [fewM, weightM]; omega
 | (k, t) :: l, deep, left, h => by
   rw [fewM] at h ⊢; split at h
   · next h0 =>
     rw [if_pos h0, weightM]; have h2 := fewM_weight l deep _ h; have h1 : 0 ≤ fewT deep (left - k.length) t := by
      rcases Int.lt_or_le (fewT deep (left - k.length) t) 0 with h3 | h3
      · rw [fewM_neg _ _ _ h3] at h; omega
      · exact h3
     have := fewT_weight t deep _ h1; omega
   · omega
end
mutual
theorem fewT_bd : ∀ (t : Tree) (deep : Nat) (left : Int), okT t → -140737488355328 ≤ left → -600000000000000 ≤ fewT deep left t ∧ fewT deep left t ≤ max left 0
 | .mk _ _ d s l m, deep, left, h, hl => by
   rw [okT] at h; obtain ⟨_, _, h1, h2, _, _, h3, h4⟩ := h; rw [fewT]; split
   · omega
   · have a := fewL_bd l (deep + 1) (left - 1 - s.length - d.digits.length) h3 (by omega); have b := fewM_bd m (deep + 1) (fewL (deep + 1) (left - 1 - s.length - d.digits.length) l) h4 (by omega); omega
theorem fewL_bd : ∀ (l : List Tree) (deep : Nat) (left : Int), okL l → -600000000000000 ≤ left → -600000000000000 ≤ fewL deep left l ∧ fewL deep left l ≤ max left 0
 | [], deep, left, h, hl => by rw [fewL]; omega
 | t :: l, deep, left, h, hl => by
   rw [okL] at h; rw [fewL]; split
   · have a := fewT_bd t deep left h.1 (by omega); have b := fewL_bd l deep (fewT deep left t) h.2 (by omega); omega
   · omega
theorem fewM_bd : ∀ (l : List Mem1) (deep : Nat) (left : Int), okM l → -600000000000000 ≤ left → -600000000000000 ≤ fewM deep left l ∧ fewM deep left l ≤ max left 0
 | [], deep, left, h, hl => by rw [fewM]; omega
 | (k, t) :: l, deep, left, h, hl => by
   rw [okM] at h; rw [fewM]; split
   · have a := fewT_bd t deep (left - k.length) h.2.1 (by omega); have b := fewM_bd l deep (fewT deep (left - k.length) t) h.2.2 (by omega); omega
   · omega
end
theorem fewL_take (deep : Nat) : ∀ (l : List Tree) (left : Int) (i : Nat) (h : i < l.length), fewL deep left (l.take (i + 1)) = if 0 ≤ fewL deep left (l.take i) then fewT deep (fewL deep left (l.take i)) l[i] else fewL deep left (l.take i)
 | t :: l, left, 0, h => by simp [fewL]
 | t :: l, left, i + 1, h => by
   have e : fewL deep left ((t :: l).take (i + 1)) = if 0 ≤ left then fewL deep (fewT deep left t) (l.take i) else left := by rw [List.take_succ_cons, fewL_cons]
   rw [e, List.take_succ_cons, fewL_cons, List.getElem_cons_succ]; by_cases h0 : 0 ≤ left
   · rw [if_pos h0, if_pos h0, fewL_take deep l _ i (by simpa using h)]
   · rw [if_neg h0, if_neg h0, if_neg h0]
theorem fewM_take (deep : Nat) : ∀ (l : List Mem1) (left : Int) (i : Nat) (h : i < l.length), fewM deep left (l.take (i + 1)) = if 0 ≤ fewM deep left (l.take i) then fewT deep (fewM deep left (l.take i) - l[i].1.length) l[i].2 else fewM deep left (l.take i)
 | (k, t) :: l, left, 0, h => by simp [fewM]
 | (k, t) :: l, left, i + 1, h => by
   have e : fewM deep left (((k, t) :: l).take (i + 1)) = if 0 ≤ left then fewM deep (fewT deep (left - k.length) t) (l.take i) else left := by rw [List.take_succ_cons, fewM_cons]
   rw [e, List.take_succ_cons, fewM_cons, List.getElem_cons_succ]; by_cases h0 : 0 ≤ left
   · rw [if_pos h0, if_pos h0, fewM_take deep l _ i (by simpa using h)]
   · rw [if_neg h0, if_neg h0, if_neg h0]
theorem fewL_stop (deep : Nat) (l : List Tree) (left : Int) (i : Nat) (h : fewL deep left (l.take i) < 0) : fewL deep left l = fewL deep left (l.take i) := by
 have : ∀ (a b : List Tree) (left : Int), fewL deep left (a ++ b) = fewL deep (fewL deep left a) b := by
  intro a; induction a with
  | nil => intro b left; rw [List.nil_append, fewL]
  | cons t a ih =>
    intro b left; rw [List.cons_append, fewL_cons, fewL_cons]; by_cases h0 : 0 ≤ left
    · rw [if_pos h0, if_pos h0, ih]
    · rw [if_neg h0, if_neg h0, fewL_neg _ _ _ (by omega)]
 conv => lhs; rw [← List.take_append_drop i l, this, fewL_neg _ _ _ h]
theorem fewM_stop (deep : Nat) (l : List Mem1) (left : Int) (i : Nat) (h : fewM deep left (l.take i) < 0) : fewM deep left l = fewM deep left (l.take i) := by
 have : ∀ (a b : List Mem1) (left : Int), fewM deep left (a ++ b) = fewM deep (fewM deep left a) b := by
  intro a; induction a with
  | nil => intro b left; rw [List.nil_append, fewM]
  | cons t a ih =>
    intro b left; obtain ⟨k, t⟩ := t; rw [List.cons_append, fewM_cons, fewM_cons]; by_cases h0 : 0 ≤ left
    · rw [if_pos h0, if_pos h0, ih]
    · rw [if_neg h0, if_neg h0, fewM_neg _ _ _ (by omega)]
 conv => lhs; rw [← List.take_append_drop i l, this, fewM_neg _ _ _ h]
end Orange
end
