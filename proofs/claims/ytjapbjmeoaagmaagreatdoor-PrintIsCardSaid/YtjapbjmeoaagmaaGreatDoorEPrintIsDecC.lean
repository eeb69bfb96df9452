/- A text of this proof. -/
import Derived.Test.YtjapbjmeoaagmaaGreatDoorEPrintIsDecB
import Derived.Test.YtjapbjmeoaagmaaGreatDoorEPrintIsSh
set_option linter.unusedVariables false
set_option linter.unusedSimpArgs false
set_option maxRecDepth 100000
namespace Go.Proofs.YtjapbjmeoaagmaaGreatDoor
open Go.RowKit Go.Mem Orange
theorem trimL0_le (l : List UInt8) : (trimL0 l).length ≤ l.length := (List.dropWhile_sublist (p := (· == 48)) (l := l)).length_le
theorem trimR0_le (l : List UInt8) : (trimR0 l).length ≤ l.length := by
 unfold trimR0; rw [List.length_reverse]; exact Nat.le_trans (List.dropWhile_sublist (p := (· == 48)) (l := l.reverse)).length_le (by simp)
def NumAt (w : World) (p : Nat) (d : Num) : Prop := w.heap[p]? = some (.cells #[.bool d.neg, .string ⟨d.digits.toArray⟩, .int .i64 d.exp] 23 (0, 0))
theorem NumAt.cells {w : World} {p : Nat} {d : Num} (h : NumAt w p d) : w.cell? ⟨p, 0, none⟩ = some (.bool d.neg) ∧ w.cell? ⟨p, 1, none⟩ = some (.string ⟨d.digits.toArray⟩) ∧ w.cell? ⟨p, 2, none⟩ = some (.int .i64 d.exp) ∧ w.frozen? ⟨p, 0, none⟩ = false ∧ w.frozen? ⟨p, 1, none⟩ = false ∧ w.frozen? ⟨p, 2, none⟩ = false ∧ p < w.heap.size :=
 ⟨by rw [cell_of_cells h]; rfl, by rw [cell_of_cells h]; rfl, by rw [cell_of_cells h]; rfl, free_of_cells h, free_of_cells h, free_of_cells h, (Array.getElem?_eq_some_iff.1 h).1⟩
theorem NumAt.ext {w w' : World} {p : Nat} {d : Num} (h : NumAt w p d) (hb : Ext w w') : NumAt w' p d := by
 unfold NumAt; rw [hb.block _ (Array.getElem?_eq_some_iff.1 h).1]; exact h
theorem NumAt.new (w : World) (d : Num) : NumAt (w.alloc (.cells #[.bool d.neg, .string ⟨d.digits.toArray⟩, .int .i64 d.exp] 23)) w.heap.size d := heap_alloc_new _ _
theorem NumAt.store {w : World} {p : Nat} {d0 : Num} (h : NumAt w p d0) (d : Num) : NumAt (((w.setCell ⟨p, 0, none⟩ (.bool d.neg)).setCell ⟨p, 1, none⟩ (.string ⟨d.digits.toArray⟩)).setCell ⟨p, 2, none⟩ (.int .i64 d.exp)) p d := by
 unfold NumAt at h ⊢; simp [World.setCell, Array.getElem?_modify, h]
theorem below_store {B p : Nat} {w w' : World} (h : Below B w w') (hp : B ≤ p) (a b c : Value) : Below B w (((w'.setCell ⟨p, 0, none⟩ a).setCell ⟨p, 1, none⟩ b).setCell ⟨p, 2, none⟩ c) :=
 ((h.setCell hp a).setCell hp b).setCell hp c
set_option maxHeartbeats 1600000 in
theorem form_any (neg : Bool) (l : List UInt8) (x : Int) (w : World) (hl : l.length ≤ 1000000) (hx1 : -1000000000 ≤ x) (hx2 : x ≤ 1000000000) :
 Calls Tryz.prog 194 #[.bool neg, .string ⟨l.toArray⟩, .int .i64 x] w fun e w' => e = .returned (.tuple #[.agg #[.bool (formP neg l x).1.neg, .string ⟨(formP neg l x).1.digits.toArray⟩, .int .i64 (formP neg l x).1.exp], .int .i64 (formP neg l x).2]) ∧ Ext w w' := by
 have hP : formP neg l x = if trimR0 (trimL0 l) = [] then (Num.zero, 0) else if sane ⟨neg, trimR0 (trimL0 l), x + (trimL0 l).length - (trimR0 (trimL0 l)).length⟩ = true then (⟨neg, trimR0 (trimL0 l), x + (trimL0 l).length - (trimR0 (trimL0 l)).length⟩, 0) else (Num.zero, 4) := rfl
 have h1 := trimL0_le l; have h2 := trimR0_le (trimL0 l); go_enter Tryz.func194, Tryz.ntmps194
 go_wp2_with fail; refine (trimLeft_0 l _).mono ?_; rintro e w1 ⟨rfl, hw1⟩; obtain ⟨g, hg⟩ := Ex (trimL0 l); rw [hg] at hP h1 h2 ⊢; clear hg; go_wp2_with fail; refine (trimRight_0 g _ (by omega)).mono ?_; rintro e w2 ⟨rfl, hw2⟩; obtain ⟨s, hs⟩ := Ex (trimR0 g); rw [hs] at hP h2 ⊢; clear hs; have HP := Hd hP; clear hP
 have hw0 : Ext w w2 := ((ext_refl w).alloc (Nat.le_refl _) _).trans ((hw1.mono (by simp)).trans (hw2.mono (by have := hw1.size; simp at this; omega))); have hn0 : NumAt w2 w.heap.size Num.zero := ((NumAt.new w Num.zero).ext hw1).ext hw2; obtain ⟨c0, c1, c2, f0, f1, f2, hp⟩ := hn0.cells; by_cases hse : s = []
 · subst hse; go_wp2_with fail; have hN := (hn0.store Num.zero).cells; simp only [Num.zero] at hN; obtain ⟨d0, d1, d2, _⟩ := hN; exact bodyPost_ret (v := .tuple #[.agg #[.bool false, .string ⟨#[]⟩, .int .i64 0], .int .i64 0]) (by simp [results, Tryz.results194, go_sem, d0, d1, d2]) rfl ⟨by rw [HP.out, if_pos (by simp)]; rfl, below_store hw0 (Nat.le_refl _) _ _ _⟩
 · have hse2 : s.isEmpty = false := by simpa using hse
   go_wp2_with fail; obtain ⟨D, hD⟩ : ∃ D : Num, D = ⟨neg, s, x + g.length - s.length⟩ := ⟨_, rfl⟩
   have hw2n := NumAt.new w2 ⟨neg, s, x + g.length - s.length⟩; have hx2 : Ext w2 (w2.alloc (.cells #[.bool neg, .string ⟨s.toArray⟩, .int .i64 (x + g.length - s.length)] 23)) := (ext_refl w2).alloc (Nat.le_refl _) _; simp only at hw2n; generalize w2.alloc (.cells #[.bool neg, .string ⟨s.toArray⟩, .int .i64 (x + g.length - s.length)] 23) = w3 at *
   refine (sane_any ⟨neg, s, x + g.length - s.length⟩ w3 (by simp only; omega)).mono ?_; rintro e w4 ⟨rfl, hw4⟩; have hn4 := (hn0.ext hx2).ext hw4; have hm4 := hw2n.ext hw4; obtain ⟨c0, c1, c2, f0, f1, f2, hp⟩ := hn4.cells; obtain ⟨e0, e1, e2, g0, g1, g2, hq⟩ := hm4.cells; have hw04 : Ext w w4 := ext_trans (ext_trans hw0 hx2) hw4; simp only at e0 e1 e2; clear hw2n hx2 hw4 hm4
   by_cases hs : sane ⟨neg, s, x + g.length - s.length⟩ = true
   · rw [hs]; go_wp2_with fail; have hN := (hn4.store ⟨neg, s, x + g.length - s.length⟩).cells; simp only at hN; obtain ⟨d0, d1, d2, _⟩ := hN
     exact bodyPost_ret (v := .tuple #[.agg #[.bool neg, .string ⟨s.toArray⟩, .int .i64 (x + g.length - s.length)], .int .i64 0]) (by simp [results, Tryz.results194, go_sem, d0, d1, d2]) rfl ⟨by rw [HP.out, if_neg hse, if_pos hs], below_store hw04 (Nat.le_refl _) _ _ _⟩
   · have hs' : sane ⟨neg, s, x + g.length - s.length⟩ = false := by simpa using hs
     rw [hs']; go_wp2_with fail; have hN := (hn4.store Num.zero).cells; simp only [Num.zero] at hN; obtain ⟨d0, d1, d2, _⟩ := hN; exact bodyPost_ret (v := .tuple #[.agg #[.bool false, .string ⟨#[]⟩, .int .i64 0], .int .i64 4]) (by simp [results, Tryz.results194, go_sem, d0, d1, d2]) rfl ⟨by rw [HP.out, if_neg hse, if_neg hs]; rfl, below_store hw04 (Nat.le_refl _) _ _ _⟩
theorem ba_app (a b : List UInt8) : (ByteArray.mk a.toArray) ++ (ByteArray.mk b.toArray) = ⟨(a ++ b).toArray⟩ := by
 apply ByteArray.ext
 simp
theorem expP_bd (l : List UInt8) : -1000000 ≤ (expP l).1 ∧ (expP l).1 ≤ 1000000 := by
 cases l with
 | nil => simp [expP]
 | cons c t =>
   simp only [expP]; split
   · have := small_bd _ 0 (take_all (if t.head? = some 45 ∨ t.head? = some 43 then t.drop 1 else t)) (by omega) (by omega); simp only
     split <;> omega
   · simp
set_option maxHeartbeats 3200000 in
theorem parse_any (l : List UInt8) (w : World) (hl : l.length ≤ 140737488355328) :
 Calls Tryz.prog 158 #[.string ⟨l.toArray⟩] w fun e w' => e = .returned (.tuple #[.agg #[.bool (decP l).1.neg, .string ⟨(decP l).1.digits.toArray⟩, .int .i64 (decP l).1.exp], .int .i64 (decP l).2]) ∧ Ext w w' := by
 have hn0 := NumAt.new w Num.zero; have hw0 : Ext w (w.alloc (.cells #[.bool false, .string ⟨#[]⟩, .int .i64 0] 23)) := (ext_refl w).alloc (Nat.le_refl _) _; by_cases h1000 : 1000 < l.length
 · have hP : decP l = (Num.zero, 4) := by rw [decP, if_pos h1000]
   have HP := Hd hP; clear hP; obtain ⟨c0, c1, c2, f0, f1, f2, hp⟩ := hn0.cells; simp only [Num.zero] at c0 c1 c2 f0 f1 f2 hp; go_enter Tryz.func158, Tryz.ntmps158
   go_wp2_with fail; exact bodyPost_ret (v := .tuple #[.agg #[.bool false, .string ⟨#[]⟩, .int .i64 0], .int .i64 4]) (by simp [results, Tryz.results158, go_sem, c0, c1, c2]) rfl ⟨by rw [HP.out]; rfl, hw0⟩
 · have hd1000 : decide (1000 < (l.length : Int)) = false := by simp; omega
   have hP0 : decP l = decP l := rfl; conv at hP0 => rhs; rw [decP, if_neg h1000]
   simp only at hP0; have hs1l : (if l.head? = some 45 then l.drop 1 else l).length ≤ 1000 := by split <;> (try simp) <;> omega
   go_enter Tryz.func158, Tryz.ntmps158
   go_wp2_with fail; refine (cutPrefix_1 l 45 _).mono ?_; rintro e w1 ⟨rfl, rfl⟩; obtain ⟨neg, hneg⟩ : ∃ b, decide (l.head? = some 45) = b := ⟨_, rfl⟩
   obtain ⟨s1, hs1⟩ : ∃ s, (if l.head? = some 45 then l.drop 1 else l) = s := ⟨_, rfl⟩
   rw [hneg, hs1] at hP0 ⊢; rw [hs1] at hs1l; clear hneg hs1; have HP0 := Hd hP0; clear hP0; go_wp2_with fail; refine (lead_any s1 _ (by omega)).mono ?_; rintro e w2 ⟨rfl, hw2⟩; have hWl : (s1.takeWhile isDig).length ≤ 1000 := Nat.le_trans (List.takeWhile_sublist (p := isDig) (l := s1)).length_le hs1l; have hRl : (s1.dropWhile isDig).length ≤ 1000 := Nat.le_trans (drop_le s1) hs1l
   obtain ⟨W, hW⟩ : ∃ s, s1.takeWhile isDig = s := ⟨_, rfl⟩
   obtain ⟨R, hR⟩ : ∃ s, s1.dropWhile isDig = s := ⟨_, rfl⟩
   rw [hW] at hWl ⊢; rw [hR] at hRl ⊢; have hP0 := HP0.out; rw [hW, hR] at hP0; clear hW hR; have hw02 := hw0.trans (hw2.mono (by simp)); have hn2 := hn0.ext hw2; clear hw0 hn0 hw2; go_wp2_with fail; refine (cutPrefix_1 R 46 _).mono ?_; rintro e w3 ⟨rfl, rfl⟩; have H0 : Hid (decP l = _) := Hd hP0; clear hP0 HP0; by_cases hpt : R.head? = some 46
   · have hP1 := H0.out; simp only [hpt, decide_true, if_true, Bool.true_and] at hP1; have hdp : decide (R.head? = some 46) = true := by simp [hpt]
     rw [if_pos hpt, hdp]; obtain ⟨B, hB⟩ : ∃ s, R.drop 1 = s := ⟨_, rfl⟩
     rw [hB] at hP1 ⊢; have H1 := Hd hP1; have hBl : B.length ≤ 1000 := by rw [← hB]; simp; omega
     clear hB; clear hP1 H0 hpt hdp; go_wp2_with fail; refine (lead_any B _ (by omega)).mono ?_; rintro e w4 ⟨rfl, hw4⟩; have hp4l : (B.takeWhile isDig).length ≤ 1000 := Nat.le_trans (List.takeWhile_sublist (p := isDig) (l := B)).length_le hBl; have hR2l : (B.dropWhile isDig).length ≤ 1000 := Nat.le_trans (drop_le _) hBl; obtain ⟨part, hpa⟩ : ∃ s, B.takeWhile isDig = s := ⟨_, rfl⟩
     obtain ⟨R2, hR2⟩ : ∃ s, B.dropWhile isDig = s := ⟨_, rfl⟩
     rw [hpa] at hp4l ⊢; rw [hR2] at hR2l ⊢; have hP2 := H1.out; rw [hpa, hR2] at hP2; clear hpa hR2 H1; have hw04 := ext_trans hw02 hw4; have hn4 := hn2.ext hw4; have hxb := expP_bd R2; go_wp2_with fail; refine (exponent_any R2 _ (by omega)).mono ?_; rintro e w5 ⟨rfl, hw5⟩; have hwz := ext_trans hw04 hw5; have hnz := hn4.ext hw5; obtain ⟨E, hE⟩ := Ex (expP R2); rw [hE] at hxb hP2 ⊢; clear hE
     obtain ⟨x, r3, ok⟩ := E; simp only at hxb hP2 ⊢; obtain ⟨hx1, hx2⟩ := hxb; have HP := Hd hP2; obtain ⟨c0, c1, c2, f0, f1, f2, hp⟩ := hnz.cells; simp only [Num.zero] at c0 c1 c2; clear hP2 hn4 hw04 hw5; cases ok with
     | false =>
       have hz : decide (W.length = 0) = W.isEmpty := by cases W <;> simp
       cases W with
       | nil =>
         go_wp2_with fail; have hN := (hnz.store Num.zero).cells; simp only [Num.zero] at hN; obtain ⟨d0, d1, d2, _⟩ := hN; exact bodyPost_ret (v := .tuple #[.agg #[.bool false, .string ⟨#[]⟩, .int .i64 0], .int .i64 2]) (by simp [results, Tryz.results158, go_sem, d0, d1, d2]) rfl ⟨by rw [HP.out, if_pos (by simp)]; rfl, below_store hwz (Nat.le_refl _) _ _ _⟩
       | cons c t =>
         have h0 := get0 c t; by_cases ht : 1 < t.length + 1
         · have hdt : decide ((1 : Int) < t.length + 1) = true := by simp; omega
           go_wp2_with fail; have hN := (hnz.store Num.zero).cells; simp only [Num.zero] at hN; obtain ⟨d0, d1, d2, _⟩ := hN; exact bodyPost_ret (v := .tuple #[.agg #[.bool false, .string ⟨#[]⟩, .int .i64 0], .int .i64 2]) (by simp [results, Tryz.results158, go_sem, d0, d1, d2]) rfl ⟨by rw [HP.out, if_pos (by simp)]; rfl, below_store hwz (Nat.le_refl _) _ _ _⟩
         · have hdt : decide ((1 : Int) < t.length + 1) = false := by simp; omega
           go_wp2_with fail; have hN := (hnz.store Num.zero).cells; simp only [Num.zero] at hN; obtain ⟨d0, d1, d2, _⟩ := hN; exact bodyPost_ret (v := .tuple #[.agg #[.bool false, .string ⟨#[]⟩, .int .i64 0], .int .i64 2]) (by simp [results, Tryz.results158, go_sem, d0, d1, d2]) rfl ⟨by rw [HP.out, if_pos (by simp)]; rfl, below_store hwz (Nat.le_refl _) _ _ _⟩
     | true =>
       cases W with
       | nil =>
         by_cases hr3 : r3 = []
         · subst hr3; go_wp2_with fail; have hN := (hnz.store Num.zero).cells; simp only [Num.zero] at hN; obtain ⟨d0, d1, d2, _⟩ := hN; exact bodyPost_ret (v := .tuple #[.agg #[.bool false, .string ⟨#[]⟩, .int .i64 0], .int .i64 2]) (by simp [results, Tryz.results158, go_sem, d0, d1, d2]) rfl ⟨by rw [HP.out, if_pos (by simp)]; rfl, below_store hwz (Nat.le_refl _) _ _ _⟩
         · have hre : r3.isEmpty = false := by simpa using hr3
           go_wp2_with fail; have hN := (hnz.store Num.zero).cells; simp only [Num.zero] at hN; obtain ⟨d0, d1, d2, _⟩ := hN; exact bodyPost_ret (v := .tuple #[.agg #[.bool false, .string ⟨#[]⟩, .int .i64 0], .int .i64 2]) (by simp [results, Tryz.results158, go_sem, d0, d1, d2]) rfl ⟨by rw [HP.out, if_pos (by simp)]; rfl, below_store hwz (Nat.le_refl _) _ _ _⟩
       | cons c t =>
         have h0 := get0 c t; have hc8 : c.toNat < 256 := c.toNat_lt; have htl : t.length ≤ 999 := by simp at hWl; omega
         by_cases hr3 : r3 = []
         · subst hr3; by_cases hz : 1 < t.length + 1 ∧ c.toNat = 48
           · obtain ⟨ht, hc48⟩ := hz; have hcc : c = 48 := UInt8.toNat_inj.1 hc48; have HCC := Hd hcc; clear hcc; have hdt : decide ((1 : Int) < t.length + 1) = true := by simp; omega
             go_wp2_with fail; have hN := (hnz.store Num.zero).cells; simp only [Num.zero] at hN; obtain ⟨d0, d1, d2, _⟩ := hN; exact bodyPost_ret (v := .tuple #[.agg #[.bool false, .string ⟨#[]⟩, .int .i64 0], .int .i64 2]) (by simp [results, Tryz.results158, go_sem, d0, d1, d2]) rfl ⟨by rw [HP.out, if_pos (by rw [HCC.out]; simp; omega)]; rfl, below_store hwz (Nat.le_refl _) _ _ _⟩
           · have hzz : Hid ((decide (1 < (c :: t).length) && decide ((c :: t).head? = some 48)) = false) := Hd (by
              simp only [List.length_cons, List.head?_cons, Option.some.injEq, Bool.and_eq_false_iff, decide_eq_false_iff_not]; by_cases h1 : 1 < t.length + 1
              · exact .inr (fun e => hz ⟨h1, by rw [e]; rfl⟩)
              · exact .inl h1)
             have hs : sane Num.zero = true := rfl; by_cases hpe : (true && (part : List UInt8).isEmpty) = true
             · first
               | (exfalso; simp at hpe; done)
               | (have hpn : part = [] := by first | (simp; done) | simpa using hpe
                  have HPN := Hd hpn; have hpi : (part : List UInt8).isEmpty = true := by simp [hpn]
                  clear hpe hpn; by_cases ht : 1 < t.length + 1
                  · have hcn : ((c.toNat : Int) == 48) = false := by simp; omega
                    have hdt : decide ((1 : Int) < t.length + 1) = true := by simp; omega
                    go_wp2_with fail; have hN := (hnz.store Num.zero).cells; simp only [Num.zero] at hN; obtain ⟨d0, d1, d2, _⟩ := hN; exact bodyPost_ret (v := .tuple #[.agg #[.bool false, .string ⟨#[]⟩, .int .i64 0], .int .i64 2]) (by simp [results, Tryz.results158, go_sem, d0, d1, d2]) rfl ⟨by rw [HP.out, if_pos (by simp [HPN.out])]; rfl, below_store hwz (Nat.le_refl _) _ _ _⟩
                  · have hdt : decide ((1 : Int) < t.length + 1) = false := by simp; omega
                    go_wp2_with fail; have hN := (hnz.store Num.zero).cells; simp only [Num.zero] at hN; obtain ⟨d0, d1, d2, _⟩ := hN; exact bodyPost_ret (v := .tuple #[.agg #[.bool false, .string ⟨#[]⟩, .int .i64 0], .int .i64 2]) (by simp [results, Tryz.results158, go_sem, d0, d1, d2]) rfl ⟨by rw [HP.out, if_pos (by simp [HPN.out])]; rfl, below_store hwz (Nat.le_refl _) _ _ _⟩)
             · have hpi : (true && (part : List UInt8).isEmpty) = false := by first | (simp; done) | simpa using hpe
               have HPI := Hd hpi; have hfm : Hid (decP l = formP neg ((c :: t) ++ part) (x - ((part : List UInt8).length : Int))) := Hd (by
                rw [HP.out, if_neg (by
                 have h1 := hzz.out; have h2 := HPI.out; simp at h1 h2 ⊢; first | exact ⟨h1, h2⟩ | exact h1 | (intro a; first | exact h1 a | omega) | simp_all)])
               have happ := ba_app (c :: t) part; clear hpe hpi; have hpi2 : (part : List UInt8).isEmpty = false := by first | (simp; done) | (have := HPI.out; simpa using this)
               have hal : ((c :: t) ++ part).length ≤ 1000000 := by simp at hWl ⊢; omega
               by_cases ht : 1 < t.length + 1
               · have hcn : ((c.toNat : Int) == 48) = false := by simp; omega
                 have hdt : decide ((1 : Int) < t.length + 1) = true := by simp; omega
                 go_wp2_with fail; refine (form_any neg (c :: (t ++ part)) (x - (part.length : Int)) _ (by simp at hWl ⊢; omega) (by omega) (by omega)).mono ?_; rintro e w6 ⟨rfl, hw6⟩; have hfm2 : Hid (decP l = formP neg (c :: (t ++ part)) (x - (part.length : Int))) := Hd (by rw [hfm.out]; simp); obtain ⟨F, hF⟩ := Ex (formP neg (c :: (t ++ part)) (x - (part.length : Int))); rw [hF]; obtain ⟨⟨fn, fd, fe⟩, er⟩ := F
                 have HF := Hd hF; have hn6 := hnz.ext hw6; have hwf := ext_trans hwz hw6; obtain ⟨c0, c1, c2, f0, f1, f2, hp⟩ := hn6.cells; simp only [Num.zero] at c0 c1 c2; clear hF hfm happ; go_wp2_with fail; have hN := (hn6.store ⟨fn, fd, fe⟩).cells; simp only at hN; obtain ⟨d0, d1, d2, _⟩ := hN
                 exact bodyPost_ret (v := .tuple #[.agg #[.bool fn, .string ⟨fd.toArray⟩, .int .i64 fe], .int .i64 er]) (by simp [results, Tryz.results158, go_sem, d0, d1, d2]) rfl ⟨by rw [hfm2.out, HF.out], below_store hwf (Nat.le_refl _) _ _ _⟩
               · have hdt : decide ((1 : Int) < t.length + 1) = false := by simp; omega
                 go_wp2_with fail; refine (form_any neg (c :: (t ++ part)) (x - (part.length : Int)) _ (by simp at hWl ⊢; omega) (by omega) (by omega)).mono ?_; rintro e w6 ⟨rfl, hw6⟩; have hfm2 : Hid (decP l = formP neg (c :: (t ++ part)) (x - (part.length : Int))) := Hd (by rw [hfm.out]; simp); obtain ⟨F, hF⟩ := Ex (formP neg (c :: (t ++ part)) (x - (part.length : Int))); rw [hF]; obtain ⟨⟨fn, fd, fe⟩, er⟩ := F
                 have HF := Hd hF; have hn6 := hnz.ext hw6; have hwf := ext_trans hwz hw6; obtain ⟨c0, c1, c2, f0, f1, f2, hp⟩ := hn6.cells; simp only [Num.zero] at c0 c1 c2; clear hF hfm happ; go_wp2_with fail; have hN := (hn6.store ⟨fn, fd, fe⟩).cells; simp only at hN; obtain ⟨d0, d1, d2, _⟩ := hN
                 exact bodyPost_ret (v := .tuple #[.agg #[.bool fn, .string ⟨fd.toArray⟩, .int .i64 fe], .int .i64 er]) (by simp [results, Tryz.results158, go_sem, d0, d1, d2]) rfl ⟨by rw [hfm2.out, HF.out], below_store hwf (Nat.le_refl _) _ _ _⟩
         · have hre : r3.isEmpty = false := by simpa using hr3
           by_cases ht : 1 < t.length + 1
           · have hdt : decide ((1 : Int) < t.length + 1) = true := by simp; omega
             go_wp2_with fail; have hN := (hnz.store Num.zero).cells; simp only [Num.zero] at hN; obtain ⟨d0, d1, d2, _⟩ := hN; exact bodyPost_ret (v := .tuple #[.agg #[.bool false, .string ⟨#[]⟩, .int .i64 0], .int .i64 2]) (by simp [results, Tryz.results158, go_sem, d0, d1, d2]) rfl ⟨by rw [HP.out, if_pos (by simp [hr3])]; rfl, below_store hwz (Nat.le_refl _) _ _ _⟩
           · have hdt : decide ((1 : Int) < t.length + 1) = false := by simp; omega
             go_wp2_with fail; have hN := (hnz.store Num.zero).cells; simp only [Num.zero] at hN; obtain ⟨d0, d1, d2, _⟩ := hN; exact bodyPost_ret (v := .tuple #[.agg #[.bool false, .string ⟨#[]⟩, .int .i64 0], .int .i64 2]) (by simp [results, Tryz.results158, go_sem, d0, d1, d2]) rfl ⟨by rw [HP.out, if_pos (by simp [hr3])]; rfl, below_store hwz (Nat.le_refl _) _ _ _⟩
   · have hP1 := H0.out; simp only [hpt, decide_false, if_false, Bool.false_and, Bool.false_eq_true, Bool.or_false] at hP1; have hdp : decide (R.head? = some 46) = false := by simp [hpt]
     rw [if_neg hpt, hdp]; have H1 := Hd hP1; clear hP1 H0 hpt hdp; have hP2 := H1.out; clear H1; have hw04 := hw02; have hn4 := hn2; obtain ⟨part, hpa⟩ : ∃ s : List UInt8, s = [] := ⟨_, rfl⟩
     have hp4l : part.length ≤ 1000 := by rw [hpa]; simp
     obtain ⟨R2, hR2⟩ : ∃ s, R = s := ⟨_, rfl⟩
     have hR2l := hRl; rw [hR2] at hP2 hR2l ⊢; clear hR2; subst hpa; have hxb := expP_bd R2; go_wp2_with fail; refine (exponent_any R2 _ (by omega)).mono ?_; rintro e w5 ⟨rfl, hw5⟩; have hwz := ext_trans hw04 hw5; have hnz := hn4.ext hw5; obtain ⟨E, hE⟩ := Ex (expP R2); rw [hE] at hxb hP2 ⊢; clear hE; obtain ⟨x, r3, ok⟩ := E; simp only at hxb hP2 ⊢; obtain ⟨hx1, hx2⟩ := hxb; have HP := Hd hP2
     obtain ⟨c0, c1, c2, f0, f1, f2, hp⟩ := hnz.cells; simp only [Num.zero] at c0 c1 c2; clear hP2 hn4 hw04 hw5; cases ok with
     | false =>
       have hz : decide (W.length = 0) = W.isEmpty := by cases W <;> simp
       cases W with
       | nil =>
         go_wp2_with fail; have hN := (hnz.store Num.zero).cells; simp only [Num.zero] at hN; obtain ⟨d0, d1, d2, _⟩ := hN; exact bodyPost_ret (v := .tuple #[.agg #[.bool false, .string ⟨#[]⟩, .int .i64 0], .int .i64 2]) (by simp [results, Tryz.results158, go_sem, d0, d1, d2]) rfl ⟨by rw [HP.out, if_pos (by simp)]; rfl, below_store hwz (Nat.le_refl _) _ _ _⟩
       | cons c t =>
         have h0 := get0 c t; by_cases ht : 1 < t.length + 1
         · have hdt : decide ((1 : Int) < t.length + 1) = true := by simp; omega
           go_wp2_with fail; have hN := (hnz.store Num.zero).cells; simp only [Num.zero] at hN; obtain ⟨d0, d1, d2, _⟩ := hN; exact bodyPost_ret (v := .tuple #[.agg #[.bool false, .string ⟨#[]⟩, .int .i64 0], .int .i64 2]) (by simp [results, Tryz.results158, go_sem, d0, d1, d2]) rfl ⟨by rw [HP.out, if_pos (by simp)]; rfl, below_store hwz (Nat.le_refl _) _ _ _⟩
         · have hdt : decide ((1 : Int) < t.length + 1) = false := by simp; omega
           go_wp2_with fail; have hN := (hnz.store Num.zero).cells; simp only [Num.zero] at hN; obtain ⟨d0, d1, d2, _⟩ := hN; exact bodyPost_ret (v := .tuple #[.agg #[.bool false, .string ⟨#[]⟩, .int .i64 0], .int .i64 2]) (by simp [results, Tryz.results158, go_sem, d0, d1, d2]) rfl ⟨by rw [HP.out, if_pos (by simp)]; rfl, below_store hwz (Nat.le_refl _) _ _ _⟩
     | true =>
       cases W with
       | nil =>
         by_cases hr3 : r3 = []
         · subst hr3; go_wp2_with fail; have hN := (hnz.store Num.zero).cells; simp only [Num.zero] at hN; obtain ⟨d0, d1, d2, _⟩ := hN; exact bodyPost_ret (v := .tuple #[.agg #[.bool false, .string ⟨#[]⟩, .int .i64 0], .int .i64 2]) (by simp [results, Tryz.results158, go_sem, d0, d1, d2]) rfl ⟨by rw [HP.out, if_pos (by simp)]; rfl, below_store hwz (Nat.le_refl _) _ _ _⟩
         · have hre : r3.isEmpty = false := by simpa using hr3
           go_wp2_with fail; have hN := (hnz.store Num.zero).cells; simp only [Num.zero] at hN; obtain ⟨d0, d1, d2, _⟩ := hN; exact bodyPost_ret (v := .tuple #[.agg #[.bool false, .string ⟨#[]⟩, .int .i64 0], .int .i64 2]) (by simp [results, Tryz.results158, go_sem, d0, d1, d2]) rfl ⟨by rw [HP.out, if_pos (by simp)]; rfl, below_store hwz (Nat.le_refl _) _ _ _⟩
       | cons c t =>
         have h0 := get0 c t; have hc8 : c.toNat < 256 := c.toNat_lt; have htl : t.length ≤ 999 := by simp at hWl; omega
         by_cases hr3 : r3 = []
         · subst hr3; by_cases hz : 1 < t.length + 1 ∧ c.toNat = 48
           · obtain ⟨ht, hc48⟩ := hz; have hcc : c = 48 := UInt8.toNat_inj.1 hc48; have HCC := Hd hcc; clear hcc; have hdt : decide ((1 : Int) < t.length + 1) = true := by simp; omega
             go_wp2_with fail; have hN := (hnz.store Num.zero).cells; simp only [Num.zero] at hN; obtain ⟨d0, d1, d2, _⟩ := hN; exact bodyPost_ret (v := .tuple #[.agg #[.bool false, .string ⟨#[]⟩, .int .i64 0], .int .i64 2]) (by simp [results, Tryz.results158, go_sem, d0, d1, d2]) rfl ⟨by rw [HP.out, if_pos (by rw [HCC.out]; simp; omega)]; rfl, below_store hwz (Nat.le_refl _) _ _ _⟩
           · have hzz : Hid ((decide (1 < (c :: t).length) && decide ((c :: t).head? = some 48)) = false) := Hd (by
              simp only [List.length_cons, List.head?_cons, Option.some.injEq, Bool.and_eq_false_iff, decide_eq_false_iff_not]; by_cases h1 : 1 < t.length + 1
              · exact .inr (fun e => hz ⟨h1, by rw [e]; rfl⟩)
              · exact .inl h1)
             have hs : sane Num.zero = true := rfl; by_cases hpe : (false && ([] : List UInt8).isEmpty) = true
             · first
               | (exfalso; simp at hpe; done)
               | (have hpn : [] = [] := by first | (simp; done) | simpa using hpe
                  have HPN := Hd hpn; have hpi : ([] : List UInt8).isEmpty = true := by simp [hpn]
                  clear hpe hpn; by_cases ht : 1 < t.length + 1
                  · have hcn : ((c.toNat : Int) == 48) = false := by simp; omega
                    have hdt : decide ((1 : Int) < t.length + 1) = true := by simp; omega
                    go_wp2_with fail; have hN := (hnz.store Num.zero).cells; simp only [Num.zero] at hN; obtain ⟨d0, d1, d2, _⟩ := hN; exact bodyPost_ret (v := .tuple #[.agg #[.bool false, .string ⟨#[]⟩, .int .i64 0], .int .i64 2]) (by simp [results, Tryz.results158, go_sem, d0, d1, d2]) rfl ⟨by rw [HP.out, if_pos (by simp [HPN.out])]; rfl, below_store hwz (Nat.le_refl _) _ _ _⟩
                  · have hdt : decide ((1 : Int) < t.length + 1) = false := by simp; omega
                    go_wp2_with fail; have hN := (hnz.store Num.zero).cells; simp only [Num.zero] at hN; obtain ⟨d0, d1, d2, _⟩ := hN; exact bodyPost_ret (v := .tuple #[.agg #[.bool false, .string ⟨#[]⟩, .int .i64 0], .int .i64 2]) (by simp [results, Tryz.results158, go_sem, d0, d1, d2]) rfl ⟨by rw [HP.out, if_pos (by simp [HPN.out])]; rfl, below_store hwz (Nat.le_refl _) _ _ _⟩)
             · have hpi : (false && ([] : List UInt8).isEmpty) = false := by first | (simp; done) | simpa using hpe
               have HPI := Hd hpi; have hfm : Hid (decP l = formP neg ((c :: t) ++ []) (x - (([] : List UInt8).length : Int))) := Hd (by
                rw [HP.out, if_neg (by
                 have h1 := hzz.out; have h2 := HPI.out; simp at h1 h2 ⊢; first | exact ⟨h1, h2⟩ | exact h1 | (intro a; first | exact h1 a | omega) | simp_all)])
               have happ := ba_app (c :: t) []; clear hpe hpi; have hpi2 : ([] : List UInt8).isEmpty = true := by first | (simp; done) | (have := HPI.out; simpa using this)
               have hal : ((c :: t) ++ []).length ≤ 1000000 := by simp at hWl ⊢; omega
               by_cases ht : 1 < t.length + 1
               · have hcn : ((c.toNat : Int) == 48) = false := by simp; omega
                 have hdt : decide ((1 : Int) < t.length + 1) = true := by simp; omega
                 go_wp2_with fail; refine (form_any neg (c :: t) (x) _ (by simp at hWl ⊢; omega) (by omega) (by omega)).mono ?_; rintro e w6 ⟨rfl, hw6⟩; have hfm2 : Hid (decP l = formP neg (c :: t) (x)) := Hd (by rw [hfm.out]; simp); obtain ⟨F, hF⟩ := Ex (formP neg (c :: t) (x)); rw [hF]; obtain ⟨⟨fn, fd, fe⟩, er⟩ := F; have HF := Hd hF; have hn6 := hnz.ext hw6; have hwf := ext_trans hwz hw6
                 obtain ⟨c0, c1, c2, f0, f1, f2, hp⟩ := hn6.cells; simp only [Num.zero] at c0 c1 c2; clear hF hfm happ; go_wp2_with fail; have hN := (hn6.store ⟨fn, fd, fe⟩).cells; simp only at hN; obtain ⟨d0, d1, d2, _⟩ := hN
                 exact bodyPost_ret (v := .tuple #[.agg #[.bool fn, .string ⟨fd.toArray⟩, .int .i64 fe], .int .i64 er]) (by simp [results, Tryz.results158, go_sem, d0, d1, d2]) rfl ⟨by rw [hfm2.out, HF.out], below_store hwf (Nat.le_refl _) _ _ _⟩
               · have hdt : decide ((1 : Int) < t.length + 1) = false := by simp; omega
                 go_wp2_with fail; refine (form_any neg (c :: t) (x) _ (by simp at hWl ⊢; omega) (by omega) (by omega)).mono ?_; rintro e w6 ⟨rfl, hw6⟩; have hfm2 : Hid (decP l = formP neg (c :: t) (x)) := Hd (by rw [hfm.out]; simp); obtain ⟨F, hF⟩ := Ex (formP neg (c :: t) (x)); rw [hF]; obtain ⟨⟨fn, fd, fe⟩, er⟩ := F; have HF := Hd hF; have hn6 := hnz.ext hw6; have hwf := ext_trans hwz hw6
                 obtain ⟨c0, c1, c2, f0, f1, f2, hp⟩ := hn6.cells; simp only [Num.zero] at c0 c1 c2; clear hF hfm happ; go_wp2_with fail; have hN := (hn6.store ⟨fn, fd, fe⟩).cells; simp only at hN; obtain ⟨d0, d1, d2, _⟩ := hN
                 exact bodyPost_ret (v := .tuple #[.agg #[.bool fn, .string ⟨fd.toArray⟩, .int .i64 fe], .int .i64 er]) (by simp [results, Tryz.results158, go_sem, d0, d1, d2]) rfl ⟨by rw [hfm2.out, HF.out], below_store hwf (Nat.le_refl _) _ _ _⟩
         · have hre : r3.isEmpty = false := by simpa using hr3
           by_cases ht : 1 < t.length + 1
           · have hdt : decide ((1 : Int) < t.length + 1) = true := by simp; omega
             go_wp2_with fail; have hN := (hnz.store Num.zero).cells; simp only [Num.zero] at hN; obtain ⟨d0, d1, d2, _⟩ := hN; exact bodyPost_ret (v := .tuple #[.agg #[.bool false, .string ⟨#[]⟩, .int .i64 0], .int .i64 2]) (by simp [results, Tryz.results158, go_sem, d0, d1, d2]) rfl ⟨by rw [HP.out, if_pos (by simp [hr3])]; rfl, below_store hwz (Nat.le_refl _) _ _ _⟩
           · have hdt : decide ((1 : Int) < t.length + 1) = false := by simp; omega
             go_wp2_with fail; have hN := (hnz.store Num.zero).cells; simp only [Num.zero] at hN; obtain ⟨d0, d1, d2, _⟩ := hN; exact bodyPost_ret (v := .tuple #[.agg #[.bool false, .string ⟨#[]⟩, .int .i64 0], .int .i64 2]) (by simp [results, Tryz.results158, go_sem, d0, d1, d2]) rfl ⟨by rw [HP.out, if_pos (by simp [hr3])]; rfl, below_store hwz (Nat.le_refl _) _ _ _⟩
end Go.Proofs.YtjapbjmeoaagmaaGreatDoor
