/- A text of this proof. -/
import Derived.Test.YtjapbjmeoaagmaaGreatDoorEPrintIsWUtfB
import Derived.Test.YtjapbjmeoaagmaaGreatDoorEPrintIsOwn
import Derived.Test.YtjapbjmeoaagmaaGreatDoorEPrintIsGrowT
import Derived.Deep.DeepCutAuto
import Derived.StillTailTactics
import Derived.Test.YtjapbjmeoaagmaaGreatDoorEPrintIsSh
set_option linter.unusedVariables false
set_option linter.unusedSimpArgs false
set_option maxRecDepth 100000
namespace Go.Proofs.YtjapbjmeoaagmaaGreatDoor
open Go.RowKit Go.Mem Orange
theorem spans_least (k : Nat) (hk : k < 4) (w : World) (b : Nat) (h : w.heap[b]? = some (.cells spansCells 199 (0, 0))) : w.cell? ⟨b, k * 3 + 2, none⟩ = some (.int .i32 (least k)) ∧ w.cell? ⟨b, k * 3 + 1, none⟩ = some (.int .u8 (lead k)) := by
 have h4 : k = 0 ∨ k = 1 ∨ k = 2 ∨ k = 3 := by omega
 rcases h4 with rfl | rfl | rfl | rfl <;> simp [World.cell?, h, spansCells, least, lead]
theorem cell_of_block1 {w : World} {b : Nat} {u : Value} {t : TypeId} {fr : Nat × Nat} (h : w.heap[b]? = some (.cells #[u] t fr)) : ∀ (j : Nat) x, [u][j]? = some x → w.cell? ((⟨b, 0, none⟩ : Addr).add j) = some x := by
 intro j x hj; have hj0 : j = 0 := by
  rcases Nat.eq_zero_or_pos j with h | h
  · exact h
  · rw [List.getElem?_eq_none (by simp; omega)] at hj; cases hj
 subst hj0; simp only [List.getElem?_cons_zero, Option.some.injEq] at hj; subst hj; simp [World.cell?, Addr.add, h]
theorem one_of1 {u : Value} (h : u.oneCell' = true) : ∀ x ∈ [u], x.oneCell' = true := by
 intro x hx; rw [List.mem_singleton.1 hx]; exact h
theorem info8 : (Tryz.prog.info? 5).map (fun i => (i.zero, i.size, i.bytes)) = some (some (.int .u8 0), 1, 1) := by kernel_rfl
set_option maxHeartbeats 1600000 in
theorem put_any (v : Value) (xs : List UInt8) (r : Int) (w : World) (hx : Bytes w v xs) (hl : xs.length ≤ 140737488355000) :
 Calls Tryz.prog 154 #[v, .int .i32 r] w fun e w' => ∃ v', e = .returned v' ∧ OwnB w' w.heap.size 5 v' (xs ++ encP r) ∧ Ext w w' := by
 obtain ⟨a, cap, rfl, hcap, hcm, _, hat⟩ := hx; obtain ⟨r1, hs1, hr1⟩ : ∃ r1, sound r1 = true ∧ encP r = enc r1 ∧ ((sound r = true ∧ r1 = r) ∨ (sound r = false ∧ r1 = 65533)) := by
  by_cases h : sound r = true
  · exact ⟨r, h, by simp [encP, h], .inl ⟨h, rfl⟩⟩
  · exact ⟨65533, by decide, by simp [encP, h], .inr ⟨by simpa using h, rfl⟩⟩
 obtain ⟨henc, hr1⟩ := hr1; have HS := Hd hs1; have HR := Hd hr1; have HE := Hd henc; clear hs1 hr1 henc; go_enter Tryz.func154, Tryz.ntmps154
 go_upto_if 10 with (go_at_call 173; refine (sound_any _ _).mono ?_; rintro e w' ⟨rfl, rfl⟩)
 go_cut [1] (fun s1 wx => s1 = .int .i32 r1 ∧ w = wx)
 case first =>
  rcases HR.out with ⟨h1, e1⟩ | ⟨h1, e1⟩
  · have E1 := Hd e1; have h2 : (!sound r) = false := by rw [h1]; rfl
    clear e1 h1; go_wp2_with (fail)
    all_goals first | (exfalso; exact absurd (h2.symm.trans (by assumption)) (by decide)) | (go_meet; exact ⟨by rw [E1.out], rfl⟩)
  · have E1 := Hd e1; have h2 : (!sound r) = true := by rw [h1]; rfl
    clear e1 h1; go_wp2_with (fail)
    all_goals first | (exfalso; exact absurd (h2.symm.trans (by assumption)) (by decide)) | (go_meet; exact ⟨by rw [E1.out], rfl⟩)
 case rest =>
  obtain ⟨rfl, rfl⟩ := hcut; go_wp2_with (go_at_call 172; refine (spans_any _).mono ?_; rintro e w' ⟨rfl, hb⟩; simp only [spansCells])
  have hblk : (w'.alloc (Obj.cells spansCells 199)).heap[w'.heap.size]? = some (.cells spansCells 199 (0, 0)) := heap_alloc_new _ _; have hlt : w'.heap.size < (w'.alloc (Obj.cells spansCells 199)).heap.size := by simp
  have hb1 : Ext w (w'.alloc (Obj.cells spansCells 199)) := hb.alloc hb.size _; simp only [spansCells] at hblk hlt hb1; generalize hW : (w'.alloc (Obj.cells #[.int .u8 128, .int .u8 0, .int .i32 0, .int .u8 224, .int .u8 192, .int .i32 128, .int .u8 240, .int .u8 224, .int .i32 2048, .int .u8 248, .int .u8 240, .int .i32 65536] 199)) = w1 at *; generalize w'.heap.size = g at *; clear hW hb
  go_loop [6] (fun kv => ∃ k : Nat, k ≤ 3 ∧ kv = .int .i64 k ∧ (k < 3 → r1 < least (k + 1))) (fun kv => (intOf kv).toNat)
  case atStart => exact ⟨3, by omega, rfl, by omega⟩
  case round =>
   obtain ⟨k, hk, rfl, hrel⟩ := hrel; have HREL := Hd hrel; clear hrel; obtain ⟨hl2, hl1⟩ := spans_least k (by omega) w1 g (by simpa [spansCells] using hblk); by_cases hlt1 : r1 < least k
   · have hk0 : 0 < k := by
      rcases Nat.eq_zero_or_pos k with rfl | h
      · have := (sound_iff r1).1 HS.out; simp [least] at hlt1; omega
      · exact h
     go_wp2_with fail; go_round
     case rel => exact ⟨k - 1, by omega, by go_num, fun _ => by rw [show k - 1 + 1 = k by omega]; exact hlt1⟩
     case measure => simp [intOf]; omega
   · have hsrc := (Bytes.src (P := Tryz.prog) (w := w1) (v := .slice a xs.length cap) ⟨a, cap, rfl, hcap, hcm, by omega, hat.ext hb1⟩ Tryz.underlying56)
     obtain ⟨i0, hi, hz0, hz1, hz2⟩ := info_parts info8; have hbase : w.heap.size ≤ w1.heap.size := hb1.size
     go_wp2_with (at_builtin; refine wpList_append_src w1 rfl _ _ 56 56 rfl w.heap.size 5 i0 (.int .u8 0) 1 1 Tryz.underlying56 hi hz0 hz1 hz2 rfl (by decide) (.slice none 0 0) 0 [] rfl (World.ownsRow_nil w1 _ _ _) _ _ _ rfl hsrc (by simp only [maxLen]; omega) (by omega) hbase ?_; intro v2 w2 hown2 hgr2)
     simp only [Nat.zero_add, List.nil_append] at hown2; have hblk2 := (hgr2.block g hlt (by simp [Value.ownBlock])).trans hblk; have hext2 : Ext w w2 := hb1.trans (Below.ofGrown hgr2 (World.ownsRow_nil w1 w.heap.size 5 1) hbase); have hg2 : g < w2.heap.size := Nat.lt_of_lt_of_le hlt hgr2.size; obtain ⟨hl2, hl1⟩ := spans_least k (by omega) w2 g (by simpa [spansCells] using hblk2)
     clear hsrc hgr2 hi hz0 hz1 hz2 hl2; have hk4 : k = 0 ∨ k = 1 ∨ k = 2 ∨ k = 3 := by omega
     have hr0 := (sound_iff r1).1 HS.out; have hr9 : 0 ≤ r1 ∧ r1 ≤ 1114111 := by omega
     clear hr0; go_cut [7] (fun s7 wx => OwnB wx w.heap.size 5 s7 (xs ++ [byte (firstB k r1)]) ∧ Ext w wx)
     case first =>
      rcases hk4 with rfl | rfl | rfl | rfl
      · have hup : 0 ≤ r1 ∧ r1 < 256 := by have := HREL.out (by omega); simp [least] at this; omega
        obtain ⟨e1, e2, e3⟩ := fb0 r1 (by omega) (by omega) (by have := HREL.out (by omega); simp [least] at this; omega); have e0 : IntKind.i64.wrap 0 = 0 := by decide
        refine Grow.wp_region_tail (G := Ext) (B := fun w' => Ext w2 w' ∧ w'.cell? ⟨g, 1, none⟩ = some (.int .u8 (lead 0))) (anc := fun _ => []) (I := fun j => if j = 11 then some (Grow.Spec.slice 1 1 (.cells #[.int .u8 (r1)] 5 (0, 0))) else none) 12 (by kernel_rfl) (by kernel_rfl) (by kernel_rfl) ?_ ?_ ?_
        · exact fun w w' h hg => ⟨ext_trans h.1 hg, by rw [hg.cell (World.block_lt_of_cell? w _ h.2)]; exact h.2⟩
        · exact ⟨(ext_refl _).drew, by simpa using hl1⟩
        · simp only [List.take_succ_cons, List.take_zero, List.drop_succ_cons, List.drop_zero]; iterate 11
           (refine Grow.walk_step (fun K hK => ?_)
            refine Grow.step_read (by rfl) (by rfl) ext_refl ?_; apply Exists.intro; refine ⟨fun w hB hF => ?_, ?_⟩
            · obtain ⟨hB1, hB2⟩ := hB; go_simp; try exact rfl
            go_simp; refine hK _ _ ?_; clear hK K)
          refine Grow.walk_step (fun K hK => ?_); refine Grow.step_rel (by rfl) (by rfl) (fun w hB hF => ?_) (fun v hv => ?_)
          · go_simp; exact Grow.relUpon_value ((ext_refl _).alloc (Nat.le_refl _) _) ⟨_, rfl⟩ ⟨_, rfl, by simp, heap_alloc_new _ _⟩
          go_simp; refine hK _ _ ?_; clear hK K; clear hv; refine Grow.walk_nil ?_; intro w3 hB hF; have hF11 := hF 11; simp only [Grow.upd, Grow.Spec.slice, if_true] at hF11; obtain ⟨b3, rfl, hb3, hh3⟩ := hF11; have hext3 : Ext w2 w3 := hB.1; have hown3 := OwnB.ext hown2 hext3; have hbase3 : w.heap.size ≤ w3.heap.size := Nat.le_trans hext2.size hext3.size; clear hF hB hblk hblk2 hl1 e0 e1 e2 e3
          obtain ⟨i0, hi, hz0, hz1, hz2⟩ := info_parts info8
          go_wp2_with (at_builtin; refine wpList_append_src w3 rfl _ _ 56 56 rfl w.heap.size 5 i0 (.int .u8 0) 1 1 Tryz.underlying56 hi hz0 hz1 hz2 rfl (by decide) v2 _ _ rfl hown3 _ 1 [.int .u8 (r1)] rfl (Src.ofSlice w3 Tryz.underlying56 ⟨b3, 0, none⟩ 1 1 _ rfl (cell_of_block1 hh3) (one_of1 rfl)) (by simp only [maxLen]; omega) (by omega) hbase3 ?_; intro v4 w4 hown4 hgr4)
          have hext4 : Ext w w4 := (ext_below hext2 hext3 hext2.size).trans (Below.ofGrown hgr4 hown3 hbase3); go_meet; refine ⟨?_, hext4⟩; have hcell : cells8 [byte (firstB 0 r1)] = [.int .u8 (r1)] := by
           simp only [cells8, List.map_cons, List.map_nil, firstB, byte_int (n := r1) hup.1 hup.2]
          unfold OwnB; rw [cells8_append, hcell, List.length_append]; exact hown4
      · have hup : 0 ≤ 192 + r1 / 64 ∧ 192 + r1 / 64 < 256 := by have := HREL.out (by omega); simp [least] at this; omega
        obtain ⟨e1, e2, e3⟩ := fb1 r1 (by omega) (by omega) (by have := HREL.out (by omega); simp [least] at this; omega); have e0 : IntKind.i64.wrap 6 = 6 := by decide
        refine Grow.wp_region_tail (G := Ext) (B := fun w' => Ext w2 w' ∧ w'.cell? ⟨g, 4, none⟩ = some (.int .u8 (lead 1))) (anc := fun _ => []) (I := fun j => if j = 11 then some (Grow.Spec.slice 1 1 (.cells #[.int .u8 (192 + r1 / 64)] 5 (0, 0))) else none) 12 (by kernel_rfl) (by kernel_rfl) (by kernel_rfl) ?_ ?_ ?_
        · exact fun w w' h hg => ⟨ext_trans h.1 hg, by rw [hg.cell (World.block_lt_of_cell? w _ h.2)]; exact h.2⟩
        · exact ⟨(ext_refl _).drew, by simpa using hl1⟩
        · simp only [List.take_succ_cons, List.take_zero, List.drop_succ_cons, List.drop_zero]; iterate 11
           (refine Grow.walk_step (fun K hK => ?_)
            refine Grow.step_read (by rfl) (by rfl) ext_refl ?_; apply Exists.intro; refine ⟨fun w hB hF => ?_, ?_⟩
            · obtain ⟨hB1, hB2⟩ := hB; go_simp; try exact rfl
            go_simp; refine hK _ _ ?_; clear hK K)
          refine Grow.walk_step (fun K hK => ?_); refine Grow.step_rel (by rfl) (by rfl) (fun w hB hF => ?_) (fun v hv => ?_)
          · go_simp; exact Grow.relUpon_value ((ext_refl _).alloc (Nat.le_refl _) _) ⟨_, rfl⟩ ⟨_, rfl, by simp, heap_alloc_new _ _⟩
          go_simp; refine hK _ _ ?_; clear hK K; clear hv; refine Grow.walk_nil ?_; intro w3 hB hF; have hF11 := hF 11; simp only [Grow.upd, Grow.Spec.slice, if_true] at hF11; obtain ⟨b3, rfl, hb3, hh3⟩ := hF11; have hext3 : Ext w2 w3 := hB.1; have hown3 := OwnB.ext hown2 hext3; have hbase3 : w.heap.size ≤ w3.heap.size := Nat.le_trans hext2.size hext3.size; clear hF hB hblk hblk2 hl1 e0 e1 e2 e3
          obtain ⟨i0, hi, hz0, hz1, hz2⟩ := info_parts info8
          go_wp2_with (at_builtin; refine wpList_append_src w3 rfl _ _ 56 56 rfl w.heap.size 5 i0 (.int .u8 0) 1 1 Tryz.underlying56 hi hz0 hz1 hz2 rfl (by decide) v2 _ _ rfl hown3 _ 1 [.int .u8 (192 + r1 / 64)] rfl (Src.ofSlice w3 Tryz.underlying56 ⟨b3, 0, none⟩ 1 1 _ rfl (cell_of_block1 hh3) (one_of1 rfl)) (by simp only [maxLen]; omega) (by omega) hbase3 ?_; intro v4 w4 hown4 hgr4)
          have hext4 : Ext w w4 := (ext_below hext2 hext3 hext2.size).trans (Below.ofGrown hgr4 hown3 hbase3); go_meet; refine ⟨?_, hext4⟩; have hcell : cells8 [byte (firstB 1 r1)] = [.int .u8 (192 + r1 / 64)] := by
           simp only [cells8, List.map_cons, List.map_nil, firstB, byte_int (n := 192 + r1 / 64) hup.1 hup.2]
          unfold OwnB; rw [cells8_append, hcell, List.length_append]; exact hown4
      · have hup : 0 ≤ 224 + r1 / 4096 ∧ 224 + r1 / 4096 < 256 := by have := HREL.out (by omega); simp [least] at this; omega
        obtain ⟨e1, e2, e3⟩ := fb2 r1 (by omega) (by omega) (by have := HREL.out (by omega); simp [least] at this; omega); have e0 : IntKind.i64.wrap 12 = 12 := by decide
        refine Grow.wp_region_tail (G := Ext) (B := fun w' => Ext w2 w' ∧ w'.cell? ⟨g, 7, none⟩ = some (.int .u8 (lead 2))) (anc := fun _ => []) (I := fun j => if j = 11 then some (Grow.Spec.slice 1 1 (.cells #[.int .u8 (224 + r1 / 4096)] 5 (0, 0))) else none) 12 (by kernel_rfl) (by kernel_rfl) (by kernel_rfl) ?_ ?_ ?_
        · exact fun w w' h hg => ⟨ext_trans h.1 hg, by rw [hg.cell (World.block_lt_of_cell? w _ h.2)]; exact h.2⟩
        · exact ⟨(ext_refl _).drew, by simpa using hl1⟩
        · simp only [List.take_succ_cons, List.take_zero, List.drop_succ_cons, List.drop_zero]; iterate 11
           (refine Grow.walk_step (fun K hK => ?_)
            refine Grow.step_read (by rfl) (by rfl) ext_refl ?_; apply Exists.intro; refine ⟨fun w hB hF => ?_, ?_⟩
            · obtain ⟨hB1, hB2⟩ := hB; go_simp; try exact rfl
            go_simp; refine hK _ _ ?_; clear hK K)
          refine Grow.walk_step (fun K hK => ?_); refine Grow.step_rel (by rfl) (by rfl) (fun w hB hF => ?_) (fun v hv => ?_)
          · go_simp; exact Grow.relUpon_value ((ext_refl _).alloc (Nat.le_refl _) _) ⟨_, rfl⟩ ⟨_, rfl, by simp, heap_alloc_new _ _⟩
          go_simp; refine hK _ _ ?_; clear hK K; clear hv; refine Grow.walk_nil ?_; intro w3 hB hF; have hF11 := hF 11; simp only [Grow.upd, Grow.Spec.slice, if_true] at hF11; obtain ⟨b3, rfl, hb3, hh3⟩ := hF11; have hext3 : Ext w2 w3 := hB.1; have hown3 := OwnB.ext hown2 hext3; have hbase3 : w.heap.size ≤ w3.heap.size := Nat.le_trans hext2.size hext3.size; clear hF hB hblk hblk2 hl1 e0 e1 e2 e3
          obtain ⟨i0, hi, hz0, hz1, hz2⟩ := info_parts info8
          go_wp2_with (at_builtin; refine wpList_append_src w3 rfl _ _ 56 56 rfl w.heap.size 5 i0 (.int .u8 0) 1 1 Tryz.underlying56 hi hz0 hz1 hz2 rfl (by decide) v2 _ _ rfl hown3 _ 1 [.int .u8 (224 + r1 / 4096)] rfl (Src.ofSlice w3 Tryz.underlying56 ⟨b3, 0, none⟩ 1 1 _ rfl (cell_of_block1 hh3) (one_of1 rfl)) (by simp only [maxLen]; omega) (by omega) hbase3 ?_; intro v4 w4 hown4 hgr4)
          have hext4 : Ext w w4 := (ext_below hext2 hext3 hext2.size).trans (Below.ofGrown hgr4 hown3 hbase3); go_meet; refine ⟨?_, hext4⟩; have hcell : cells8 [byte (firstB 2 r1)] = [.int .u8 (224 + r1 / 4096)] := by
           simp only [cells8, List.map_cons, List.map_nil, firstB, byte_int (n := 224 + r1 / 4096) hup.1 hup.2]
          unfold OwnB; rw [cells8_append, hcell, List.length_append]; exact hown4
      · have hup : 0 ≤ 240 + r1 / 262144 ∧ 240 + r1 / 262144 < 256 := by omega
        obtain ⟨e1, e2, e3⟩ := fb3 r1 (by omega) (by omega) (by omega); have e0 : IntKind.i64.wrap 18 = 18 := by decide
        refine Grow.wp_region_tail (G := Ext) (B := fun w' => Ext w2 w' ∧ w'.cell? ⟨g, 10, none⟩ = some (.int .u8 (lead 3))) (anc := fun _ => []) (I := fun j => if j = 11 then some (Grow.Spec.slice 1 1 (.cells #[.int .u8 (240 + r1 / 262144)] 5 (0, 0))) else none) 12 (by kernel_rfl) (by kernel_rfl) (by kernel_rfl) ?_ ?_ ?_
        · exact fun w w' h hg => ⟨ext_trans h.1 hg, by rw [hg.cell (World.block_lt_of_cell? w _ h.2)]; exact h.2⟩
        · exact ⟨(ext_refl _).drew, by simpa using hl1⟩
        · simp only [List.take_succ_cons, List.take_zero, List.drop_succ_cons, List.drop_zero]; iterate 11
           (refine Grow.walk_step (fun K hK => ?_)
            refine Grow.step_read (by rfl) (by rfl) ext_refl ?_; apply Exists.intro; refine ⟨fun w hB hF => ?_, ?_⟩
            · obtain ⟨hB1, hB2⟩ := hB; go_simp; try exact rfl
            go_simp; refine hK _ _ ?_; clear hK K)
          refine Grow.walk_step (fun K hK => ?_); refine Grow.step_rel (by rfl) (by rfl) (fun w hB hF => ?_) (fun v hv => ?_)
          · go_simp; exact Grow.relUpon_value ((ext_refl _).alloc (Nat.le_refl _) _) ⟨_, rfl⟩ ⟨_, rfl, by simp, heap_alloc_new _ _⟩
          go_simp; refine hK _ _ ?_; clear hK K; clear hv; refine Grow.walk_nil ?_; intro w3 hB hF; have hF11 := hF 11; simp only [Grow.upd, Grow.Spec.slice, if_true] at hF11; obtain ⟨b3, rfl, hb3, hh3⟩ := hF11; have hext3 : Ext w2 w3 := hB.1; have hown3 := OwnB.ext hown2 hext3; have hbase3 : w.heap.size ≤ w3.heap.size := Nat.le_trans hext2.size hext3.size; clear hF hB hblk hblk2 hl1 e0 e1 e2 e3
          obtain ⟨i0, hi, hz0, hz1, hz2⟩ := info_parts info8
          go_wp2_with (at_builtin; refine wpList_append_src w3 rfl _ _ 56 56 rfl w.heap.size 5 i0 (.int .u8 0) 1 1 Tryz.underlying56 hi hz0 hz1 hz2 rfl (by decide) v2 _ _ rfl hown3 _ 1 [.int .u8 (240 + r1 / 262144)] rfl (Src.ofSlice w3 Tryz.underlying56 ⟨b3, 0, none⟩ 1 1 _ rfl (cell_of_block1 hh3) (one_of1 rfl)) (by simp only [maxLen]; omega) (by omega) hbase3 ?_; intro v4 w4 hown4 hgr4)
          have hext4 : Ext w w4 := (ext_below hext2 hext3 hext2.size).trans (Below.ofGrown hgr4 hown3 hbase3); go_meet; refine ⟨?_, hext4⟩; have hcell : cells8 [byte (firstB 3 r1)] = [.int .u8 (240 + r1 / 262144)] := by
           simp only [cells8, List.map_cons, List.map_nil, firstB, byte_int (n := 240 + r1 / 262144) hup.1 hup.2]
          unfold OwnB; rw [cells8_append, hcell, List.length_append]; exact hown4
     case rest =>
      obtain ⟨hown, hext⟩ := hcut; have hen : enc r1 = byte (firstB k r1) :: tailB r1 k := by
       refine enc_parts r1 k hk ?_ ?_ ?_ ?_
       · rintro rfl; have := HREL.out (by omega); simp [least] at this; omega
       · rintro rfl; have := HREL.out (by omega); simp [least] at this hlt1; omega
       · rintro rfl; have := HREL.out (by omega); simp [least] at this hlt1; omega
       · rintro rfl; simp [least] at hlt1; omega
      have HEN := Hd hen; clear hen; go_wp2_with fail; go_loopw [6, 7] (fun kv v wr => ∃ (j : Nat) (ys : List UInt8), j ≤ 3 ∧ kv = .int .i64 j ∧ OwnB wr w.heap.size 5 v ys ∧ xs ++ encP r = ys ++ tailB r1 j ∧ ys.length ≤ 140737488355000 + 4 - j ∧ Ext w wr) (fun kv _ _ => (intOf kv).toNat)
      case atStart =>
       refine ⟨k, _, by omega, rfl, hown, ?_, by simp; omega, hext⟩; rw [HE.out, HEN.out]; simp
      case round =>
       obtain ⟨j, ys, hj, rfl, hown, hys, hyl, hext⟩ := hrel; have HYS := Hd hys; clear hys; have hj4 : j = 0 ∨ j = 1 ∨ j = 2 ∨ j = 3 := by omega
       rcases hj4 with rfl | rfl | rfl | rfl
       · go_wp2_with fail; go_ret; refine ⟨u7, rfl, ?_, hext⟩; rw [HYS.out]; simpa [tailB] using hown
       · obtain ⟨i0, hi, hz0, hz1, hz2⟩ := info_parts info8; have hbs : w.heap.size ≤ (wr.alloc (.cells #[.int .u8 (128 + r1 % 64)] 5)).heap.size := by have := hext.size; simp; omega
         have hown' := OwnB.ext hown ((ext_refl wr).alloc (Nat.le_refl _) (.cells #[.int .u8 (128 + r1 % 64)] 5))
         go_wp2_with (at_builtin; refine wpList_append_src _ rfl _ _ 56 56 rfl w.heap.size 5 i0 (.int .u8 0) 1 1 Tryz.underlying56 hi hz0 hz1 hz2 rfl (by decide) u7 _ _ rfl hown' _ 1 [.int .u8 (128 + r1 % 64)] rfl (Src.ofSlice _ Tryz.underlying56 ⟨wr.heap.size, 0, none⟩ 1 1 _ rfl (cell_of_block1 (heap_alloc_new _ _)) (one_of1 rfl)) (by simp only [maxLen]; omega) (by omega) hbs ?_; intro v5 w5 hown5 hgr5)
         have hext5 : Ext w w5 := (hext.alloc hext.size _).trans (Below.ofGrown hgr5 hown' hbs); go_roundw
         case rel =>
          refine ⟨0, ys ++ [byte (128 + r1 % 64)], by omega, rfl, ?_, ?_, by simp; omega, hext5⟩
          · have hcell : cells8 [byte (128 + r1 % 64)] = [.int .u8 (128 + r1 % 64)] := by
             simp only [cells8, List.map_cons, List.map_nil, byte_int (n := 128 + r1 % 64) (by omega) (by omega)]
            unfold OwnB; rw [cells8_append, hcell, List.length_append]; exact hown5
          · rw [HYS.out]; simp [tailB]
         case measure => simp [intOf]
       · obtain ⟨i0, hi, hz0, hz1, hz2⟩ := info_parts info8; have hbs : w.heap.size ≤ (wr.alloc (.cells #[.int .u8 (128 + r1 / 64 % 64)] 5)).heap.size := by have := hext.size; simp; omega
         have hown' := OwnB.ext hown ((ext_refl wr).alloc (Nat.le_refl _) (.cells #[.int .u8 (128 + r1 / 64 % 64)] 5))
         go_wp2_with (at_builtin; refine wpList_append_src _ rfl _ _ 56 56 rfl w.heap.size 5 i0 (.int .u8 0) 1 1 Tryz.underlying56 hi hz0 hz1 hz2 rfl (by decide) u7 _ _ rfl hown' _ 1 [.int .u8 (128 + r1 / 64 % 64)] rfl (Src.ofSlice _ Tryz.underlying56 ⟨wr.heap.size, 0, none⟩ 1 1 _ rfl (cell_of_block1 (heap_alloc_new _ _)) (one_of1 rfl)) (by simp only [maxLen]; omega) (by omega) hbs ?_; intro v5 w5 hown5 hgr5)
         have hext5 : Ext w w5 := (hext.alloc hext.size _).trans (Below.ofGrown hgr5 hown' hbs); go_roundw
         case rel =>
          refine ⟨1, ys ++ [byte (128 + r1 / 64 % 64)], by omega, rfl, ?_, ?_, by simp; omega, hext5⟩
          · have hcell : cells8 [byte (128 + r1 / 64 % 64)] = [.int .u8 (128 + r1 / 64 % 64)] := by
             simp only [cells8, List.map_cons, List.map_nil, byte_int (n := 128 + r1 / 64 % 64) (by omega) (by omega)]
            unfold OwnB; rw [cells8_append, hcell, List.length_append]; exact hown5
          · rw [HYS.out]; simp [tailB]
         case measure => simp [intOf]
       · obtain ⟨i0, hi, hz0, hz1, hz2⟩ := info_parts info8; have hbs : w.heap.size ≤ (wr.alloc (.cells #[.int .u8 (128 + r1 / 4096 % 64)] 5)).heap.size := by have := hext.size; simp; omega
         have hown' := OwnB.ext hown ((ext_refl wr).alloc (Nat.le_refl _) (.cells #[.int .u8 (128 + r1 / 4096 % 64)] 5))
         go_wp2_with (at_builtin; refine wpList_append_src _ rfl _ _ 56 56 rfl w.heap.size 5 i0 (.int .u8 0) 1 1 Tryz.underlying56 hi hz0 hz1 hz2 rfl (by decide) u7 _ _ rfl hown' _ 1 [.int .u8 (128 + r1 / 4096 % 64)] rfl (Src.ofSlice _ Tryz.underlying56 ⟨wr.heap.size, 0, none⟩ 1 1 _ rfl (cell_of_block1 (heap_alloc_new _ _)) (one_of1 rfl)) (by simp only [maxLen]; omega) (by omega) hbs ?_; intro v5 w5 hown5 hgr5)
         have hext5 : Ext w w5 := (hext.alloc hext.size _).trans (Below.ofGrown hgr5 hown' hbs); go_roundw
         case rel =>
          refine ⟨2, ys ++ [byte (128 + r1 / 4096 % 64)], by omega, rfl, ?_, ?_, by simp; omega, hext5⟩
          · have hcell : cells8 [byte (128 + r1 / 4096 % 64)] = [.int .u8 (128 + r1 / 4096 % 64)] := by
             simp only [cells8, List.map_cons, List.map_nil, byte_int (n := 128 + r1 / 4096 % 64) (by omega) (by omega)]
            unfold OwnB; rw [cells8_append, hcell, List.length_append]; exact hown5
          · rw [HYS.out]; simp [tailB]
         case measure => simp [intOf]
end Go.Proofs.YtjapbjmeoaagmaaGreatDoor
