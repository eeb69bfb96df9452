/- A text of this proof. -/
import Derived.Test.YtjapbjmeoaagmaaGreatDoorEPrintIsPaK
import Derived.Test.YtjapbjmeoaagmaaGreatDoorEPrintIsSh
import Derived.Test.YtjapbjmeoaagmaaGreatDoorEPrintIsSi
set_option linter.unusedVariables false
set_option linter.unusedSimpArgs false
set_option maxRecDepth 100000
namespace Go.Proofs.YtjapbjmeoaagmaaGreatDoor
open Go.RowKit Go.Mem Orange
theorem numEnd_ge (xs : List UInt8) (a : Nat) (h : a ≤ xs.length) : a ≤ numEnd xs a := (numEnd_bd xs a h).1
theorem listP_ok {σ : Type} {xs : List UInt8} {c : UInt8} {item : σ → Nat → Nat → PR σ} (hi : ∀ s a n s' a' n', a ≤ xs.length → item s a n = .ok s' a' n' → a ≤ a' ∧ n' ≤ 4096) : ∀ (f : Nat) (s : σ) (a n : Nat) (s' : σ) (a' n' : Nat), a ≤ xs.length → listP xs c item f s a n = .ok s' a' n' → a ≤ a' ∧ n' ≤ 4096
 | 0, _, _, _, _, _, _, _, h => by cases h
 | f + 1, s, a, n, s', a', n', ha, h => by
   rw [listP] at h; cases hr : item s a n with
   | err e b => rw [hr] at h; cases h
   | ok s1 a1 n1 =>
     rw [hr] at h; simp only at h; obtain ⟨h1, h2⟩ := hi _ _ _ _ _ _ ha hr; have hw : whiteN xs a1 < xs.length → a1 ≤ whiteN xs a1 := fun hl => by
      by_cases h4 : a1 ≤ xs.length
      · exact whiteN_ge xs a1 h4
      · exfalso
        have : whiteN xs a1 = xs.length := by unfold whiteN; rw [List.drop_of_length_le (by omega)]; simp
        omega
     split at h
     · rename_i h44
       have hl := (peekP_some h44 (by decide)).2; have := listP_ok hi f _ _ _ _ _ _ (by omega) h; have := hw hl; omega
     split at h
     · rename_i hc
       obtain ⟨hl, _⟩ := List.getElem?_eq_some_iff.1 hc; simp only [PR.ok.injEq] at h; have := hw hl; omega
     · cases h
theorem openP_ok {σ : Type} {xs : List UInt8} {c : UInt8} {item : σ → Nat → Nat → PR σ} (hi : ∀ s a n s' a' n', a ≤ xs.length → item s a n = .ok s' a' n' → a ≤ a' ∧ n' ≤ 4096) {s : σ} {a n : Nat} {s' : σ} {a' n' : Nat} (ha : a < xs.length) (hn : n ≤ 4096) (h : openP xs c item s a n = .ok s' a' n') : a ≤ a' ∧ n' ≤ 4096 := by
 rw [openP] at h; have h1 := whiteN_ge xs (a + 1) ha; have h2 := whiteN_le xs (a + 1); split at h
 · simp only [PR.ok.injEq] at h; omega
 · have := listP_ok hi _ _ _ _ _ _ _ h2 h; omega
theorem PR.map_ok {α β : Type} {f : α → β} {r : PR α} {v : β} {a n : Nat} (h : r.map f = .ok v a n) : ∃ u, r = .ok u a n ∧ v = f u := by
 cases r with
 | err e b => cases h
 | ok u a1 n1 => simp only [PR.map, PR.ok.injEq] at h; obtain ⟨rfl, rfl, rfl⟩ := h; exact ⟨u, rfl, rfl⟩
theorem valueP_ok {xs : List UInt8} : ∀ (f deep a n : Nat) (t : Tree) (a' n' : Nat), a ≤ xs.length → valueP xs f deep a n = .ok t a' n' → a ≤ a' ∧ n' ≤ 4096
 | 0, _, _, _, _, _, _, _, h => by cases h
 | f + 1, deep, a, n, t, a', n', ha, h => by
   have hw := whiteN_ge xs a ha; have hwl := whiteN_le xs a; have hA : ∀ (acc : List Tree) a n acc' a' n', a ≤ xs.length → itemA (valueP xs f (deep + 1)) acc a n = .ok acc' a' n' → a ≤ a' ∧ n' ≤ 4096 := fun acc a n acc' a' n' ha h => by
    unfold itemA at h; obtain ⟨u, h1, _⟩ := PR.map_ok h; exact valueP_ok f _ _ _ _ _ _ ha h1
   have hO : ∀ (acc : List (List UInt8 × Tree)) a n acc' a' n', a ≤ xs.length → itemO xs (valueP xs f (deep + 1)) acc a n = .ok acc' a' n' → a ≤ a' ∧ n' ≤ 4096 := fun acc a n acc' a' n' ha h =>
    ⟨(itemO_ok (fun a n t a' n' ha h => valueP_ok f _ _ _ _ _ _ ha h) ha h).1, (itemO_ok (fun a n t a' n' ha h => valueP_ok f _ _ _ _ _ _ ha h) ha h).2.1⟩
   rw [valueP] at h; split at h
   · cases h
   rename_i hpk
   have hlt : whiteN xs a < xs.length := by
    by_cases hl : whiteN xs a < xs.length
    · exact hl
    · exfalso; rw [peekP_ge hl] at hpk; exact hpk (fun h => h.1 rfl)
   split at h
   · cases h
   rename_i hn
   have hword : ∀ s t0, wordP xs s t0 (whiteN xs a) (n + 1) = .ok t a' n' → a ≤ a' ∧ n' ≤ 4096 := fun s t0 h => by
    unfold wordP at h; split at h
    · simp only [PR.ok.injEq] at h; omega
    · cases h
   split at h
   · exact hword _ _ h
   split at h
   · exact hword _ _ h
   split at h
   · exact hword _ _ h
   split at h
   · obtain ⟨u, h1, _⟩ := PR.map_ok h; have := textP_ok h1; omega
   split at h
   · split at h
     · cases h
     · obtain ⟨u, h1, _⟩ := PR.map_ok h; have := openP_ok hA hlt (by omega) h1; omega
   split at h
   · split at h
     · cases h
     · obtain ⟨u, h1, _⟩ := PR.map_ok h; have := openP_ok hO hlt (by omega) h1; omega
   · unfold numP at h; simp only at h; split at h
     · simp only [PR.ok.injEq] at h; have := numEnd_ge xs _ hwl; omega
     · cases h
theorem beg_idx (c : UInt8) : decide (0 ≤ Lib.indexByte begs c) = begs.contains c := by
 have h1 := u8f (p := fun n => decide (0 ≤ Lib.indexByte begs (UInt8.ofNat n)) == begs.contains (UInt8.ofNat n)) (by decide +kernel) c; rw [UInt8.ofNat_toNat, beq_iff_eq] at h1; exact h1
theorem value_end {p : Nat} {v : Value} {xs : List UInt8} {a a' n n' : Nat} {w w2 : World} {t : Tree} {y0 y1 y2 y3 y4 y5 y6 y7 : Value} (h0 : PS w p v xs a n) (h2 : PS w2 p v xs a' n') (hk : KeptP p w w2) (htv : TV w2 (fun g => w.heap.size + 1 ≤ g) t #[y0, y1, y2, y3, y4, y5, y6, y7]) :
 EndW p v xs w (.returned (.agg #[y0, y1, y2, y3, y4, y5, y6, y7])) ((((((((w2.setCell ⟨w.heap.size, 0, none⟩ y0).setCell ⟨w.heap.size, 1, none⟩ y1).setCell ⟨w.heap.size, 2, none⟩ y2).setCell ⟨w.heap.size, 3, none⟩ y3).setCell ⟨w.heap.size, 4, none⟩ y4).setCell ⟨w.heap.size, 5, none⟩ y5).setCell ⟨w.heap.size, 6, none⟩ y6).setCell ⟨w.heap.size, 7, none⟩ y7) (.ok t a' n') := by
 have hend := PS.fresh h0 h2 hk (below_store8 (B := w.heap.size) (p := w.heap.size) (Below.refl _ w2) (Nat.le_refl _) y0 y1 y2 y3 y4 y5 y6 y7); exact ⟨_, rfl, htv.keep (by simp [World.setCell]) (fun g hg hlt => ⟨by omega, heap8 (by omega)⟩), hend.1, hend.2⟩
set_option maxHeartbeats 6400000 in
theorem value_any : ∀ (f deep : Nat), 65 ≤ f + deep → deep ≤ 64 → ∀ (p : Nat) (v : Value) (xs : List UInt8) (a n : Nat) (w : World), PS w p v xs a n → n ≤ 4096 →
 Calls Tryz.prog 94 #[.pointer (some ⟨p, 0, none⟩), .int .i64 (deep : Nat)] w (fun e w' => EndW p v xs w e w' (valueP xs f deep a n))
 | 0, deep, h1, h2, _, _, _, _, _, _, _, _ => by omega
 | f + 1, deep, h1, h2, p, v, xs, a, n, w, h, hn => by
   obtain ⟨T, hT⟩ := Ex (valueP xs (f + 1) deep a n); rw [hT]; rw [valueP] at hT; replace hT := Hd hT; have HP := Hd h; have HPS := Hd h; have hwl := whiteN_le xs a; have hx := h.2.1.len; have hr := VAt.new w zeroV; have hE : Ext w (w.alloc (.cells zeroV 27)) := (ext_refl w).alloc (Nat.le_refl _) _; simp only [zeroV, cellsV, Num.zero] at hr hE; have hpw := h.1.cells.2.2.2.2.2.2; clear h
   go_enter Tryz.func94, Tryz.ntmps94
   go_wp2_with fail; generalize hg : w.alloc (.cells #[.int .i64 0, .bool false, .bool false, .string ⟨#[]⟩, .int .i64 0, .string ⟨#[]⟩, .slice none 0 0, .slice none 0 0] 27) = w1 at *; have hsz : w1.heap.size = w.heap.size + 1 := by rw [← hg]; simp
   have HR := Hd hr; have HK := Hd (KeptP.ofExt (p := p) hE); replace HP := Hd (HP.out.ext hE); clear hg hr hE; refine (skip_any p v xs a n _ HP.out).mono ?_; rintro e w2 ⟨rfl, hp1, hk1⟩; replace HR := Hd (HR.out.kept hk1 (by omega)); replace HK := Hd (HK.out.trans hk1); replace HP := Hd hp1; clear hp1 hk1; obtain ⟨a1, ha1⟩ := Ex (whiteN xs a); have hT1 := hT.out; rw [ha1] at hT1; replace hT := Hd hT1
   clear hT1; rw [ha1] at HP hwl; clear ha1; go_wp2_with fail; refine (peek_any p v xs a1 n _ HP.out).mono ?_; rintro e w3 ⟨rfl, hw⟩; replace HR := Hd (HR.out.ext hw); replace HK := Hd (HK.out.trans (KeptP.ofExt hw)); replace HP := Hd (HP.out.ext hw); clear hw; obtain ⟨c0, c1, c2, f0, f1, f2, hpl⟩ := HP.out.1.cells
   have e1 : IntKind.i64.wrap ((n : Int) + 1) = ((n + 1 : Nat) : Int) := by rw [IntWalk.i64_in _ (by omega)]; omega
   obtain ⟨c, hc⟩ := Ex (peekP xs a1); have hT1 := hT.out; rw [hc] at hT1 ⊢; replace hT := Hd hT1; clear hT1; go_upto_region 4 with fail; have hp4 : PS (w3.setCell ⟨p, 2, none⟩ (.int .i64 ((n : Int) + 1))) p v xs a1 (n + 1) := HP.out.setN (n + 1); have hk4 : KeptP p w3 (w3.setCell ⟨p, 2, none⟩ (.int .i64 ((n : Int) + 1))) := KeptP.set _; clear c0 c1 c2 f0 f1 f2 hpl e1
   generalize w3.setCell ⟨p, 2, none⟩ (.int .i64 ((n : Int) + 1)) = w4 at *; replace HR := Hd (HR.out.kept hk4 (by omega)); replace HK := Hd (HK.out.trans hk4); replace HP := Hd hp4; clear hp4 hk4; have hcc := beg_idx c; by_cases hc0 : c = 0
   · have hres : Hid (T = .err 2 a1) := Hd (by rw [← hT.out, if_pos (fun h => h.1 hc0)]); have hcb : (((c.toNat : Nat) : Int) != 0) = false := by rw [hc0]; rfl
     clear hT hc0 hcc; refine Grow.wp_region_tailW (G := Ext) (B := fun w' => Ext w4 w') (anc := fun _ => []) (I := fun j => if j = 4 then some (Grow.Spec.val Ext (.int .i64 (Lib.indexByte begs c))) else none) 11 (by kernel_rfl) (by kernel_rfl) (by kernel_rfl) ?_ ?_ ?_
     · exact fun w w' h hg => ext_trans h hg
     · exact (ext_refl _).drew
     simp only [List.take_succ_cons, List.take_zero, List.drop_succ_cons, List.drop_zero]; repeat
      (refine Grow.Wk.step (fun K hK => ?_)
       first
       | (refine Grow.step_read (by rfl) (by rfl) ext_refl ?_
          apply Exists.intro; refine ⟨fun w hB hF => ?_, ?_⟩
          · obtain ⟨c0, c1, c2, f0, f1, f2, hpl⟩ := (HP.out.ext hB).1.cells; go_simp; try exact rfl
          go_simp; refine hK _ _ ?_; clear hK K)
       | (refine Grow.step_off (by rfl) ?_
          go_simp; refine hK _ _ ?_; clear hK K))
     try
      refine Grow.Wk.step (fun K hK => ?_); refine Grow.step_rel (by rfl) (by rfl) (fun w' hB hF => ?_) (fun v hv => ?_)
      · go_simp; refine Grow.relUpon_enter ((Tryz.strings_IndexByte ⟨begs.toArray⟩ c.toNat w').mono ?_); rintro e w'' ⟨rfl, rfl⟩; exact ⟨_, rfl, ext_refl _, by simp; rfl, trivial⟩
      obtain rfl : v = _ := hv; try rw [HIX.out]
      go_simp; refine hK _ _ ?_; clear hK K
     repeat
      (refine Grow.Wk.step (fun K hK => ?_)
       first
       | (refine Grow.step_read (by rfl) (by rfl) ext_refl ?_
          apply Exists.intro; refine ⟨fun w hB hF => ?_, ?_⟩
          · obtain ⟨c0, c1, c2, f0, f1, f2, hpl⟩ := (HP.out.ext hB).1.cells; go_simp; try exact rfl
          go_simp; refine hK _ _ ?_; clear hK K)
       | (refine Grow.step_off (by rfl) ?_
          go_simp; refine hK _ _ ?_; clear hK K))
     refine Grow.Wk.nil ?_; intro w5 hB hF; clear hF; replace HR := Hd (HR.out.ext hB); replace HK := Hd (HK.out.trans (KeptP.ofExt hB)); replace HP := Hd (HP.out.ext hB); clear hB; go_wp2_with fail; refine (need_no 2 a1 _).mono ?_; rintro e w6 ⟨rfl, rfl⟩; go_wp2_with fail; rw [hres.out]; exact ⟨rfl, rfl, HK.out⟩
   have hcb : (((c.toNat : Nat) : Int) != 0) = true := by
    have h := u8_bne hc0; simpa using h
   by_cases hcn : begs.contains c = true
   · rw [hcn] at hcc; obtain ⟨ix, hix⟩ := Ex (Lib.indexByte begs c); rw [hix] at hcc; have hi0 : (0 : Int) ≤ ix := by simpa using hcc
     have HIX := Hd hix; have hT1 := hT.out; rw [if_neg (fun h => h ⟨hc0, hcn⟩)] at hT1; replace hT := Hd hT1; clear hT1 hcc hix hc0; refine Grow.wp_region_tailW (G := Ext) (B := fun w' => Ext w4 w') (anc := fun _ => []) (I := fun j => if j = 4 then some (Grow.Spec.val Ext (.int .i64 (Lib.indexByte begs c))) else none) 11 (by kernel_rfl) (by kernel_rfl) (by kernel_rfl) ?_ ?_ ?_
     · exact fun w w' h hg => ext_trans h hg
     · exact (ext_refl _).drew
     simp only [List.take_succ_cons, List.take_zero, List.drop_succ_cons, List.drop_zero]; repeat
      (refine Grow.Wk.step (fun K hK => ?_)
       first
       | (refine Grow.step_read (by rfl) (by rfl) ext_refl ?_
          apply Exists.intro; refine ⟨fun w hB hF => ?_, ?_⟩
          · obtain ⟨c0, c1, c2, f0, f1, f2, hpl⟩ := (HP.out.ext hB).1.cells; go_simp; try exact rfl
          go_simp; refine hK _ _ ?_; clear hK K)
       | (refine Grow.step_off (by rfl) ?_
          go_simp; refine hK _ _ ?_; clear hK K))
     try
      refine Grow.Wk.step (fun K hK => ?_); refine Grow.step_rel (by rfl) (by rfl) (fun w' hB hF => ?_) (fun v hv => ?_)
      · go_simp; refine Grow.relUpon_enter ((Tryz.strings_IndexByte ⟨begs.toArray⟩ c.toNat w').mono ?_); rintro e w'' ⟨rfl, rfl⟩; exact ⟨_, rfl, ext_refl _, by simp; rfl, trivial⟩
      obtain rfl : v = _ := hv; try rw [HIX.out]
      go_simp; refine hK _ _ ?_; clear hK K
     repeat
      (refine Grow.Wk.step (fun K hK => ?_)
       first
       | (refine Grow.step_read (by rfl) (by rfl) ext_refl ?_
          apply Exists.intro; refine ⟨fun w hB hF => ?_, ?_⟩
          · obtain ⟨c0, c1, c2, f0, f1, f2, hpl⟩ := (HP.out.ext hB).1.cells; go_simp; try exact rfl
          go_simp; refine hK _ _ ?_; clear hK K)
       | (refine Grow.step_off (by rfl) ?_
          go_simp; refine hK _ _ ?_; clear hK K))
     refine Grow.Wk.nil ?_; intro w5 hB hF; clear hF; replace HR := Hd (HR.out.ext hB); replace HK := Hd (HK.out.trans (KeptP.ofExt hB)); replace HP := Hd (HP.out.ext hB); clear hB; go_wp2_with fail; refine (need_ok 2 a1 _).mono ?_; rintro e w6 ⟨rfl, rfl⟩; clear hcb hi0 HIX; go_upto_region 5 with fail
     refine Grow.wp_region_tailW (G := Ext) (B := fun w' => Ext w5 w') (anc := fun _ => []) (I := fun _ => none) 9 (by kernel_rfl) (by kernel_rfl) (by kernel_rfl) ?_ ?_ ?_
     · exact fun w w' h hg => ext_trans h hg
     · exact (ext_refl _).drew
     simp only [List.take_succ_cons, List.take_zero, List.drop_succ_cons, List.drop_zero]; repeat
      (refine Grow.Wk.step (fun K hK => ?_)
       first
       | (refine Grow.step_read (by rfl) (by rfl) ext_refl ?_
          apply Exists.intro; refine ⟨fun w hB hF => ?_, ?_⟩
          · obtain ⟨c0, c1, c2, f0, f1, f2, hpl⟩ := (HP.out.ext hB).1.cells; go_simp; try exact rfl
          go_simp; refine hK _ _ ?_; clear hK K)
       | (refine Grow.step_off (by rfl) ?_
          go_simp; refine hK _ _ ?_; clear hK K))
     refine Grow.Wk.nil ?_; intro w6 hB hF; clear hF; replace HR := Hd (HR.out.ext hB); replace HK := Hd (HK.out.trans (KeptP.ofExt hB)); replace HP := Hd (HP.out.ext hB); clear hB; by_cases hn4 : 4096 < n + 1
     · have hres : Hid (T = .err 4 a1) := Hd (by rw [← hT.out, if_pos hn4]); have hcd : ¬ ((n : Int) + 1 ≤ 4096) := by omega
       clear hT hn4; go_wp2_with fail; refine (need_no 4 a1 _).mono ?_; rintro e w7 ⟨rfl, rfl⟩; go_wp2_with fail; rw [hres.out]; exact ⟨rfl, rfl, HK.out⟩
     have hT1 := hT.out; rw [if_neg hn4] at hT1; replace hT := Hd hT1; have hcd : (n : Int) + 1 ≤ 4096 := by omega
     have hn5 : n + 1 ≤ 4096 := by omega
     clear hT1; go_wp2_with fail; refine (need_ok 4 a1 _).mono ?_; rintro e w7 ⟨rfl, rfl⟩; clear hcd; by_cases hcv : c = 116
     · have hlt := (peekP_some hc (by rw [hcv]; decide)).2; have hT1 := hT.out; rw [if_pos hcv] at hT1; replace hT := Hd hT1; subst hcv; clear hT1; go_wp2_with fail; refine (word_any p v xs [116, 114, 117, 101] 1 true a1 (n + 1) _ HP.out hlt (by decide) (by decide)).mono ?_; rintro e w7 (⟨hm, rfl, hp1, hk1⟩ | ⟨hm, rfl, hk1⟩)
       · have hres : Hid (T = .ok (tBool true) (a1 + ([116, 114, 117, 101] : List UInt8).length) (n + 1)) := Hd (by rw [← hT.out, wordP, if_pos hm]); replace HR := Hd (HR.out.kept hk1 (by omega)); clear hm hT
         have r0 := HR.out.cell 0; have r1 := HR.out.cell 1; have r2 := HR.out.cell 2; have r3 := HR.out.cell 3; have r4 := HR.out.cell 4; have r5 := HR.out.cell 5; have r6 := HR.out.cell 6; have r7 := HR.out.cell 7; obtain ⟨s0, s1, s2, s3, s4, s5, s6, s7⟩ := HR.out.f8; simp at r0 r1 r2 r3 r4 r5 r6 r7; go_wp2_with fail
         have hV := VAt.store8 HR.out (.int .i64 1) (.bool true) (.bool false) (.string ⟨#[]⟩) (.int .i64 0) (.string ⟨#[]⟩) (noL) (noL); refine bodyPost_ret (results_cell_row rfl _ _ _ _ _ (0, 0) _ rfl hV Tryz.underlying27 rfl (by kernel_rfl)) rfl ?_; rw [hres.out]; exact value_end HPS.out hp1 (HK.out.trans hk1) (TV.leaf _ _ 1 true Num.zero [])
       · have hres : Hid (T = .err 2 a1) := Hd (by rw [← hT.out, wordP, if_neg hm]); go_wp2_with fail; rw [hres.out]; exact ⟨rfl, rfl, HK.out.trans hk1⟩
     have hT1 := hT.out; rw [if_neg hcv] at hT1; replace hT := Hd hT1; have hf116 : (((c.toNat : Nat) : Int) == 116) = false := by have h := u8_beqf hcv; simpa using h
     clear hT1 hcv; by_cases hcv : c = 102
     · have hlt := (peekP_some hc (by rw [hcv]; decide)).2; have hT1 := hT.out; rw [if_pos hcv] at hT1; replace hT := Hd hT1; subst hcv; clear hT1; go_wp2_with fail; refine (word_any p v xs [102, 97, 108, 115, 101] 1 false a1 (n + 1) _ HP.out hlt (by decide) (by decide)).mono ?_; rintro e w7 (⟨hm, rfl, hp1, hk1⟩ | ⟨hm, rfl, hk1⟩)
       · have hres : Hid (T = .ok (tBool false) (a1 + ([102, 97, 108, 115, 101] : List UInt8).length) (n + 1)) := Hd (by rw [← hT.out, wordP, if_pos hm]); replace HR := Hd (HR.out.kept hk1 (by omega)); clear hm hT
         have r0 := HR.out.cell 0; have r1 := HR.out.cell 1; have r2 := HR.out.cell 2; have r3 := HR.out.cell 3; have r4 := HR.out.cell 4; have r5 := HR.out.cell 5; have r6 := HR.out.cell 6; have r7 := HR.out.cell 7; obtain ⟨s0, s1, s2, s3, s4, s5, s6, s7⟩ := HR.out.f8; simp at r0 r1 r2 r3 r4 r5 r6 r7; go_wp2_with fail
         have hV := VAt.store8 HR.out (.int .i64 1) (.bool false) (.bool false) (.string ⟨#[]⟩) (.int .i64 0) (.string ⟨#[]⟩) (noL) (noL); refine bodyPost_ret (results_cell_row rfl _ _ _ _ _ (0, 0) _ rfl hV Tryz.underlying27 rfl (by kernel_rfl)) rfl ?_; rw [hres.out]; exact value_end HPS.out hp1 (HK.out.trans hk1) (TV.leaf _ _ 1 false Num.zero [])
       · have hres : Hid (T = .err 2 a1) := Hd (by rw [← hT.out, wordP, if_neg hm]); go_wp2_with fail; rw [hres.out]; exact ⟨rfl, rfl, HK.out.trans hk1⟩
     have hT1 := hT.out; rw [if_neg hcv] at hT1; replace hT := Hd hT1; have hf102 : (((c.toNat : Nat) : Int) == 102) = false := by have h := u8_beqf hcv; simpa using h
     clear hT1 hcv; by_cases hcv : c = 110
     · have hlt := (peekP_some hc (by rw [hcv]; decide)).2; have hT1 := hT.out; rw [if_pos hcv] at hT1; replace hT := Hd hT1; subst hcv; clear hT1; go_wp2_with fail; refine (word_any p v xs [110, 117, 108, 108] 0 false a1 (n + 1) _ HP.out hlt (by decide) (by decide)).mono ?_; rintro e w7 (⟨hm, rfl, hp1, hk1⟩ | ⟨hm, rfl, hk1⟩)
       · have hres : Hid (T = .ok (tNull) (a1 + ([110, 117, 108, 108] : List UInt8).length) (n + 1)) := Hd (by rw [← hT.out, wordP, if_pos hm]); replace HR := Hd (HR.out.kept hk1 (by omega)); clear hm hT
         have r0 := HR.out.cell 0; have r1 := HR.out.cell 1; have r2 := HR.out.cell 2; have r3 := HR.out.cell 3; have r4 := HR.out.cell 4; have r5 := HR.out.cell 5; have r6 := HR.out.cell 6; have r7 := HR.out.cell 7; obtain ⟨s0, s1, s2, s3, s4, s5, s6, s7⟩ := HR.out.f8; simp at r0 r1 r2 r3 r4 r5 r6 r7; go_wp2_with fail
         have hV := VAt.store8 HR.out (.int .i64 0) (.bool false) (.bool false) (.string ⟨#[]⟩) (.int .i64 0) (.string ⟨#[]⟩) (noL) (noL); refine bodyPost_ret (results_cell_row rfl _ _ _ _ _ (0, 0) _ rfl hV Tryz.underlying27 rfl (by kernel_rfl)) rfl ?_; rw [hres.out]; exact value_end HPS.out hp1 (HK.out.trans hk1) (TV.leaf _ _ 0 false Num.zero [])
       · have hres : Hid (T = .err 2 a1) := Hd (by rw [← hT.out, wordP, if_neg hm]); go_wp2_with fail; rw [hres.out]; exact ⟨rfl, rfl, HK.out.trans hk1⟩
     have hT1 := hT.out; rw [if_neg hcv] at hT1; replace hT := Hd hT1; have hf110 : (((c.toNat : Nat) : Int) == 110) = false := by have h := u8_beqf hcv; simpa using h
     clear hT1 hcv; by_cases hcv : c = 34
     · have hT1 := hT.out; rw [if_pos hcv] at hT1; replace hT := Hd hT1; subst hcv; clear hT1; go_wp2_with fail; refine (text_any p v xs a1 (n + 1) _ HP.out).mono ?_; intro e w7 hend; cases htx : textP xs a1 (n + 1) with
       | err er b =>
         rw [htx] at hend; obtain ⟨rfl, hk1⟩ := hend; have hres : Hid (T = .err er b) := Hd (by rw [← hT.out, htx]; rfl); go_wp2_with fail; rw [hres.out]; exact ⟨rfl, rfl, HK.out.trans hk1⟩
       | ok s a9 n9 =>
         rw [htx] at hend; obtain ⟨rfl, hp1, hk1⟩ := hend; have hres : Hid (T = .ok (tStr s) a9 n9) := Hd (by rw [← hT.out, htx]; rfl); replace HR := Hd (HR.out.kept hk1 (by omega)); clear htx hT; have r0 := HR.out.cell 0; have r1 := HR.out.cell 1; have r2 := HR.out.cell 2; have r3 := HR.out.cell 3; have r4 := HR.out.cell 4; have r5 := HR.out.cell 5; have r6 := HR.out.cell 6; have r7 := HR.out.cell 7
         obtain ⟨s0, s1, s2, s3, s4, s5, s6, s7⟩ := HR.out.f8; simp at r0 r1 r2 r3 r4 r5 r6 r7; go_wp2_with fail; have hV := VAt.store8 HR.out (.int .i64 3) (.bool false) (.bool false) (.string ⟨#[]⟩) (.int .i64 0) (.string ⟨s.toArray⟩) (noL) (noL); refine bodyPost_ret (results_cell_row rfl _ _ _ _ _ (0, 0) _ rfl hV Tryz.underlying27 rfl (by kernel_rfl)) rfl ?_; rw [hres.out]
         exact value_end HPS.out hp1 (HK.out.trans hk1) (TV.leaf _ _ 3 false Num.zero s)
     have hT1 := hT.out; rw [if_neg hcv] at hT1; replace hT := Hd hT1; have hf34 : (((c.toNat : Nat) : Int) == 34) = false := by have h := u8_beqf hcv; simpa using h
     clear hT1 hcv; by_cases hcv : c = 91
     · have hat : xs[a1]? = some 91 := (peekP_some (hc.trans hcv) (by decide)).1; have hT1 := hT.out; rw [if_pos hcv] at hT1; replace hT := Hd hT1; subst hcv; clear hT1; obtain ⟨c0, c1, c2, f0, f1, f2, hpl⟩ := HP.out.1.cells; by_cases hd : 64 ≤ deep
       · have hdi : ¬ (deep : Int) < 64 := by omega
         have hres : Hid (T = .err 3 a1) := Hd (by rw [← hT.out, if_pos hd]); go_wp2_with fail; rw [show decide ((deep : Int) < 64) = false by simp; omega]; refine (need_no 3 a1 _).mono ?_; rintro e w7 ⟨rfl, rfl⟩; go_wp2_with fail; rw [hres.out]; exact ⟨rfl, rfl, HK.out⟩
       · have hdi : (deep : Int) < 64 := by omega
         have hT1 := hT.out; rw [if_neg hd] at hT1; replace hT := Hd hT1; clear hT1; go_wp2_with fail; refine (need_ok 3 a1 _).mono ?_; rintro e w7 ⟨rfl, rfl⟩; clear c0 c1 c2 f0 f1 f2 hpl; go_wp2_with fail
         refine (array_any p v xs deep (by omega) (valueP xs f (deep + 1)) (fun a n w h hn => value_any f (deep + 1) (by omega) (by omega) p v xs a n w h hn) (fun a n t a' n' ha h => valueP_ok f _ _ _ _ _ _ ha h) a1 (n + 1) _ HP.out hat hn5).mono ?_; intro e w7 hend; rw [hT.out] at hend; cases hTT : T with
         | err er b =>
           rw [hTT] at hend; obtain ⟨rfl, hk1⟩ := hend; go_wp2_with fail; rw [hTT]; exact ⟨rfl, rfl, HK.out.trans hk1⟩
         | ok t a9 n9 =>
           rw [hTT] at hend; obtain ⟨cv, rfl, htv, hp1, hk1⟩ := hend; have hsz6 := HR.out.lt; replace HR := Hd (HR.out.kept hk1 (by omega)); obtain ⟨k, b, d, s, la, ln, lc, ma, mn, mc, rfl⟩ := htv.eight; have htv2 := TV.keep (A' := fun g => w.heap.size + 1 ≤ g) (Nat.le_refl _) (fun g hg _ => ⟨by omega, rfl⟩) htv; have hres : Hid (T = .ok t a9 n9) := Hd hTT; clear hTT hT
           have r0 := HR.out.cell 0; have r1 := HR.out.cell 1; have r2 := HR.out.cell 2; have r3 := HR.out.cell 3; have r4 := HR.out.cell 4; have r5 := HR.out.cell 5; have r6 := HR.out.cell 6; have r7 := HR.out.cell 7; obtain ⟨s0, s1, s2, s3, s4, s5, s6, s7⟩ := HR.out.f8; simp at r0 r1 r2 r3 r4 r5 r6 r7; go_wp2_with fail
           have hV := VAt.store8 HR.out (.int .i64 k) (.bool b) (.bool d.neg) (.string ⟨d.digits.toArray⟩) (.int .i64 d.exp) (.string ⟨s.toArray⟩) (.slice la ln lc) (.slice ma mn mc); refine bodyPost_ret (results_cell_row rfl _ _ _ _ _ (0, 0) _ rfl hV Tryz.underlying27 rfl (by kernel_rfl)) rfl ?_; rw [hres.out]; exact value_end HPS.out hp1 (HK.out.trans hk1) htv2
     have hT1 := hT.out; rw [if_neg hcv] at hT1; replace hT := Hd hT1; have hf91 : (((c.toNat : Nat) : Int) == 91) = false := by have h := u8_beqf hcv; simpa using h
     clear hT1 hcv; by_cases hcv : c = 123
     · have hat : xs[a1]? = some 123 := (peekP_some (hc.trans hcv) (by decide)).1; have hT1 := hT.out; rw [if_pos hcv] at hT1; replace hT := Hd hT1; subst hcv; clear hT1; obtain ⟨c0, c1, c2, f0, f1, f2, hpl⟩ := HP.out.1.cells; by_cases hd : 64 ≤ deep
       · have hdi : ¬ (deep : Int) < 64 := by omega
         have hres : Hid (T = .err 3 a1) := Hd (by rw [← hT.out, if_pos hd]); go_wp2_with fail; rw [show decide ((deep : Int) < 64) = false by simp; omega]; refine (need_no 3 a1 _).mono ?_; rintro e w7 ⟨rfl, rfl⟩; go_wp2_with fail; rw [hres.out]; exact ⟨rfl, rfl, HK.out⟩
       · have hdi : (deep : Int) < 64 := by omega
         have hT1 := hT.out; rw [if_neg hd] at hT1; replace hT := Hd hT1; clear hT1; go_wp2_with fail; refine (need_ok 3 a1 _).mono ?_; rintro e w7 ⟨rfl, rfl⟩; clear c0 c1 c2 f0 f1 f2 hpl; go_wp2_with fail
         refine (object_any p v xs deep (by omega) (valueP xs f (deep + 1)) (fun a n w h hn => value_any f (deep + 1) (by omega) (by omega) p v xs a n w h hn) (fun a n t a' n' ha h => valueP_ok f _ _ _ _ _ _ ha h) a1 (n + 1) _ HP.out hat hn5).mono ?_; intro e w7 hend; rw [hT.out] at hend; cases hTT : T with
         | err er b =>
           rw [hTT] at hend; obtain ⟨rfl, hk1⟩ := hend; go_wp2_with fail; rw [hTT]; exact ⟨rfl, rfl, HK.out.trans hk1⟩
         | ok t a9 n9 =>
           rw [hTT] at hend; obtain ⟨cv, rfl, htv, hp1, hk1⟩ := hend; have hsz6 := HR.out.lt; replace HR := Hd (HR.out.kept hk1 (by omega)); obtain ⟨k, b, d, s, la, ln, lc, ma, mn, mc, rfl⟩ := htv.eight; have htv2 := TV.keep (A' := fun g => w.heap.size + 1 ≤ g) (Nat.le_refl _) (fun g hg _ => ⟨by omega, rfl⟩) htv; have hres : Hid (T = .ok t a9 n9) := Hd hTT; clear hTT hT
           have r0 := HR.out.cell 0; have r1 := HR.out.cell 1; have r2 := HR.out.cell 2; have r3 := HR.out.cell 3; have r4 := HR.out.cell 4; have r5 := HR.out.cell 5; have r6 := HR.out.cell 6; have r7 := HR.out.cell 7; obtain ⟨s0, s1, s2, s3, s4, s5, s6, s7⟩ := HR.out.f8; simp at r0 r1 r2 r3 r4 r5 r6 r7; go_wp2_with fail
           have hV := VAt.store8 HR.out (.int .i64 k) (.bool b) (.bool d.neg) (.string ⟨d.digits.toArray⟩) (.int .i64 d.exp) (.string ⟨s.toArray⟩) (.slice la ln lc) (.slice ma mn mc); refine bodyPost_ret (results_cell_row rfl _ _ _ _ _ (0, 0) _ rfl hV Tryz.underlying27 rfl (by kernel_rfl)) rfl ?_; rw [hres.out]; exact value_end HPS.out hp1 (HK.out.trans hk1) htv2
     have hT1 := hT.out; rw [if_neg hcv] at hT1; replace hT := Hd hT1; have hf123 : (((c.toNat : Nat) : Int) == 123) = false := by have h := u8_beqf hcv; simpa using h
     clear hT1 hcv; have hlt : a1 < xs.length := by
      by_cases h : a1 < xs.length
      · exact h
      · rw [peekP_ge h] at hc; subst hc; exact absurd hcn (by decide)
     have hT1 := hT.out; rw [numP] at hT1; replace hT := Hd hT1; clear hT1 hcn; go_wp2_with fail; refine (number_any p v xs a1 (n + 1) _ HP.out hlt).mono ?_; rintro e w7 (⟨hm, rfl, hp1, hk1⟩ | ⟨hm, rfl, hk1⟩)
     · have hT1 := hT.out; try simp only at hT1
       rw [if_pos hm] at hT1; have hres := Hd hT1.symm; generalize (decP ((xs.drop a1).take (numEnd xs a1 - a1))).1 = d at *; replace HR := Hd (HR.out.kept hk1 (by omega)); clear hm hT hT1; have r0 := HR.out.cell 0; have r1 := HR.out.cell 1; have r2 := HR.out.cell 2; have r3 := HR.out.cell 3; have r4 := HR.out.cell 4; have r5 := HR.out.cell 5; have r6 := HR.out.cell 6; have r7 := HR.out.cell 7
       obtain ⟨s0, s1, s2, s3, s4, s5, s6, s7⟩ := HR.out.f8; simp at r0 r1 r2 r3 r4 r5 r6 r7; go_wp2_with fail; have hV := VAt.store8 HR.out (.int .i64 2) (.bool false) (.bool d.neg) (.string ⟨d.digits.toArray⟩) (.int .i64 d.exp) (.string ⟨#[]⟩) (noL) (noL); refine bodyPost_ret (results_cell_row rfl _ _ _ _ _ (0, 0) _ rfl hV Tryz.underlying27 rfl (by kernel_rfl)) rfl ?_; rw [hres.out]
       exact value_end HPS.out hp1 (HK.out.trans hk1) (TV.leaf _ _ 2 false d [])
     · have hT1 := hT.out; try simp only at hT1
       rw [if_neg hm] at hT1; have hres := Hd hT1.symm; go_wp2_with fail; rw [hres.out]; exact ⟨rfl, rfl, HK.out.trans hk1⟩
   · have hres : Hid (T = .err 2 a1) := Hd (by rw [← hT.out, if_pos (fun h => hcn h.2)]); rw [show begs.contains c = false by simpa using hcn] at hcc; obtain ⟨ix, hix⟩ := Ex (Lib.indexByte begs c); rw [hix] at hcc; have hi0 : ¬ (0 : Int) ≤ ix := by simpa using hcc
     have HIX := Hd hix; clear hT hcc hix hc0 hcn; refine Grow.wp_region_tailW (G := Ext) (B := fun w' => Ext w4 w') (anc := fun _ => []) (I := fun j => if j = 4 then some (Grow.Spec.val Ext (.int .i64 (Lib.indexByte begs c))) else none) 11 (by kernel_rfl) (by kernel_rfl) (by kernel_rfl) ?_ ?_ ?_
     · exact fun w w' h hg => ext_trans h hg
     · exact (ext_refl _).drew
     simp only [List.take_succ_cons, List.take_zero, List.drop_succ_cons, List.drop_zero]; repeat
      (refine Grow.Wk.step (fun K hK => ?_)
       first
       | (refine Grow.step_read (by rfl) (by rfl) ext_refl ?_
          apply Exists.intro; refine ⟨fun w hB hF => ?_, ?_⟩
          · obtain ⟨c0, c1, c2, f0, f1, f2, hpl⟩ := (HP.out.ext hB).1.cells; go_simp; try exact rfl
          go_simp; refine hK _ _ ?_; clear hK K)
       | (refine Grow.step_off (by rfl) ?_
          go_simp; refine hK _ _ ?_; clear hK K))
     try
      refine Grow.Wk.step (fun K hK => ?_); refine Grow.step_rel (by rfl) (by rfl) (fun w' hB hF => ?_) (fun v hv => ?_)
      · go_simp; refine Grow.relUpon_enter ((Tryz.strings_IndexByte ⟨begs.toArray⟩ c.toNat w').mono ?_); rintro e w'' ⟨rfl, rfl⟩; exact ⟨_, rfl, ext_refl _, by simp; rfl, trivial⟩
      obtain rfl : v = _ := hv; try rw [HIX.out]
      go_simp; refine hK _ _ ?_; clear hK K
     repeat
      (refine Grow.Wk.step (fun K hK => ?_)
       first
       | (refine Grow.step_read (by rfl) (by rfl) ext_refl ?_
          apply Exists.intro; refine ⟨fun w hB hF => ?_, ?_⟩
          · obtain ⟨c0, c1, c2, f0, f1, f2, hpl⟩ := (HP.out.ext hB).1.cells; go_simp; try exact rfl
          go_simp; refine hK _ _ ?_; clear hK K)
       | (refine Grow.step_off (by rfl) ?_
          go_simp; refine hK _ _ ?_; clear hK K))
     refine Grow.Wk.nil ?_; intro w5 hB hF; clear hF; replace HR := Hd (HR.out.ext hB); replace HK := Hd (HK.out.trans (KeptP.ofExt hB)); replace HP := Hd (HP.out.ext hB); clear hB; go_wp2_with fail; refine (need_no 2 a1 _).mono ?_; rintro e w6 ⟨rfl, rfl⟩; go_wp2_with fail; rw [hres.out]; exact ⟨rfl, rfl, HK.out⟩
end Go.Proofs.YtjapbjmeoaagmaaGreatDoor
