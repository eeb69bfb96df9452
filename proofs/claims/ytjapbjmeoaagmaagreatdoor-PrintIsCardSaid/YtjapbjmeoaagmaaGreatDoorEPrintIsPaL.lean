/- A text of this proof. -/
import Derived.Test.YtjapbjmeoaagmaaGreatDoorEPrintIsPaH
import Derived.Test.YtjapbjmeoaagmaaGreatDoorEPrintIsGrowS
import Derived.Test.YtjapbjmeoaagmaaGreatDoorEPrintIsSh
set_option linter.unusedVariables false
set_option linter.unusedSimpArgs false
set_option maxRecDepth 100000
namespace Go.Proofs.YtjapbjmeoaagmaaGreatDoor
open Go.RowKit Go.Mem Orange
def EndL {σ : Type} (p B : Nat) (v : Value) (xs : List UInt8) (St : σ → World → Prop) (w : World) (e : Ending) (w' : World) : PR σ → Prop
 | .ok s a n => e = .returned (.tuple #[]) ∧ PS w' p v xs a n ∧ St s w' ∧ Kept B p w w'
 | .err er b => e = .panicked (wrongV er b) ∧ Kept B p w w'
theorem EndL.trans {σ : Type} {p B : Nat} {v : Value} {xs : List UInt8} {St : σ → World → Prop} {w0 w w' : World} {e : Ending} {r : PR σ} (h : EndL p B v xs St w e w' r) (hk : Kept B p w0 w) : EndL p B v xs St w0 e w' r := by
 cases r with
 | ok s a n => exact ⟨h.1, h.2.1, h.2.2.1, hk.trans h.2.2.2⟩
 | err er b => exact ⟨h.1, hk.trans h.2⟩
theorem whiteN_ge (xs : List UInt8) (a : Nat) (h : a ≤ xs.length) : a ≤ whiteN xs a := by
 unfold whiteN; have := dropWhile_le isWhite (xs.drop a); rw [List.length_drop] at this; omega
theorem peekP_some {xs : List UInt8} {a : Nat} {c : UInt8} (h : peekP xs a = c) (hc : c ≠ 0) : xs[a]? = some c ∧ a < xs.length := by
 by_cases hl : a < xs.length
 · rw [peekP_lt hl] at h; exact ⟨by rw [List.getElem?_eq_getElem hl, h], hl⟩
 · rw [peekP_ge hl] at h; exact absurd h.symm hc
theorem u8_bne {x c : UInt8} (h : x ≠ c) : (((x.toNat : Nat) : Int) != c.toNat) = true := by
 simp only [bne_iff_ne, ne_eq]; intro e; exact h (UInt8.toNat_inj.1 (by omega))
theorem u8_beqf {x c : UInt8} (h : x ≠ c) : (((x.toNat : Nat) : Int) == c.toNat) = false := by
 simp only [beq_eq_false_iff_ne, ne_eq]; intro e; exact h (UInt8.toNat_inj.1 (by omega))
set_option maxHeartbeats 6400000 in
theorem list_any {σ : Type} (p : Nat) (v : Value) (xs : List UInt8) (B : Nat) (hpB : p < B) (St : σ → World → Prop) (item : σ → Nat → Nat → PR σ) (o c : UInt8) (hc0 : c ≠ 0) (F : FuncId) (caps : Array Value)
 (he : ∀ w, (callFunc F caps).run Tryz.prog w = .ok (.enter F caps) w)
 (hSt : ∀ s w w', St s w → B ≤ w.heap.size → KeptP p w w' → St s w')
 (hmono : ∀ s a n s' a' n', a ≤ xs.length → item s a n = .ok s' a' n' → a ≤ a')
 (J : σ → Nat → Nat → Prop) (hJ : ∀ s a n s' a' n' b, a ≤ xs.length → J s a n → item s a n = .ok s' a' n' → a' < b → J s' b n')
 (hit : ∀ s a n w, PS w p v xs a n → St s w → B ≤ w.heap.size → J s a n → Calls Tryz.prog F caps w (fun e w' => EndL p B v xs St w e w' (item s a n)))
 (s : σ) (a n : Nat) (w : World) (h : PS w p v xs a n) (hj : ∀ b, a < b → J s b n) (hst : St s w) (hB : B ≤ w.heap.size) (ho : xs[a]? = some o) :
 Calls Tryz.prog 155 #[.pointer (some ⟨p, 0, none⟩), .int .u8 o.toNat, .int .u8 c.toNat, .func (.func F) #[] caps] w (fun e w' => EndL p B v xs St w e w' (openP xs c item s a n)) := by
 have hx := h.2.1.len; have hw1 : whiteN xs (a + 1) ≤ xs.length := whiteN_le xs _; obtain ⟨T, hT⟩ := Ex (openP xs c item s a n); rw [hT]; rw [openP] at hT; replace hT := Hd hT; have HP := Hd h; have HST := Hd hst; have HO := Hd ho; have HH := Hd hSt; have HM := Hd hmono; have HI := Hd hit; have HE := Hd he; have HJ := Hd hJ
 have HJ0 := Hd (hj (whiteN xs (a + 1)) (by have := whiteN_ge xs (a + 1) (by obtain ⟨h1, _⟩ := List.getElem?_eq_some_iff.1 ho; omega); omega)); have HK := Hd (Kept.refl B p w); clear h hst ho hSt hmono hit he hJ hj; go_enter Tryz.func155, Tryz.ntmps155
 go_wp2_with fail; refine (take_ok p v xs a n o _ HP.out HO.out).mono ?_; rintro e w1 ⟨rfl, hp1, hk1⟩; replace HST := Hd (HH.out _ _ _ HST.out hB hk1); replace HP := Hd hp1; replace HK := Hd (HK.out.trans (hk1.mono hB)); replace hB := Nat.le_trans hB hk1.size; clear hp1 hk1; clear HO; go_wp2_with fail; refine (skip_any p v xs (a + 1) n _ HP.out).mono ?_; rintro e w2 ⟨rfl, hp1, hk1⟩
 replace HST := Hd (HH.out _ _ _ HST.out hB hk1); replace HP := Hd hp1; replace HK := Hd (HK.out.trans (hk1.mono hB)); replace hB := Nat.le_trans hB hk1.size; clear hp1 hk1; generalize whiteN xs (a + 1) = a1 at *; go_wp2_with fail; refine (peek_any p v xs a1 n _ HP.out).mono ?_; rintro e w3 ⟨rfl, hw⟩; replace HST := Hd (HH.out _ _ _ HST.out hB (KeptP.ofExt hw)); replace HP := Hd (HP.out.ext hw)
 replace HK := Hd (HK.out.trans ((KeptP.ofExt hw).mono hB)); replace hB := Nat.le_trans hB hw.size; clear hw; by_cases hc : peekP xs a1 = c
 · have hlt := (peekP_some hc hc0).2; have hres : Hid (T = .ok s (a1 + 1) n) := Hd (by rw [← hT.out, if_pos hc]); rw [hc]; clear hc hT; obtain ⟨c0, c1, c2, f0, f1, f2, hpl⟩ := HP.out.1.cells; have e1 : IntKind.i64.wrap ((a1 : Int) + 1) = ((a1 + 1 : Nat) : Int) := by rw [IntWalk.i64_in _ (by omega)]; omega
   have HPE := Hd (HP.out.setAt (a1 + 1) (by omega)); go_wp2_with fail; refine bodyPost_ret (results_none rfl _ _ _) rfl ?_; rw [hres.out]; exact ⟨rfl, HPE.out, HH.out _ _ _ HST.out hB (KeptP.set _), HK.out.trans (Kept.setCell _)⟩
 · have hcb := u8_beqf hc; have hres : Hid (listP xs c item (xs.length + 1) s a1 n = T) := Hd (by rw [← hT.out, if_neg hc]); generalize peekP xs a1 = pk at *; clear hc hT; go_wp2_with fail; go_loopg [] (xs.length + 1) (fun g wx => ∃ (s : σ) (b m : Nat), xs.length + 1 ≤ b + g ∧ b ≤ xs.length ∧ listP xs c item g s b m = T ∧ J s b m ∧ PS wx p v xs b m ∧ St s wx ∧ B ≤ wx.heap.size ∧ Kept B p w wx)
   case atStart => exact ⟨s, a1, n, by omega, by omega, hres.out, HJ0.out, HP.out, HST.out, hB, HK.out⟩
   case round =>
    obtain ⟨s, b, m, hbg, hbl, ht, hj, hps, hst, hB, hk⟩ := hrel; cases gk with
    | zero => exact absurd hbg (by omega)
    | succ g =>
      rw [listP] at ht; have HT := Hd ht; have HJB := Hd hj; clear hj; have HP := Hd hps; have HST := Hd hst; have HK := Hd hk; clear ht hps hst hk; go_wp2_with fail; rw [HE.out]; refine (HI.out s b m _ HP.out HST.out hB HJB.out).mono ?_; intro e w4 hend; cases hit : item s b m with
      | err er q =>
        rw [hit] at hend; obtain ⟨rfl, hk4⟩ := hend; have hres : Hid (T = .err er q) := Hd (by rw [← HT.out, hit]); go_wp2_with fail; rw [hres.out]; exact ⟨rfl, rfl, HK.out.trans hk4⟩
      | ok s1 b1 m1 =>
        rw [hit] at hend; obtain ⟨rfl, hp1, hst1, hk4⟩ := hend; have hbb := HM.out _ _ _ _ _ _ hbl hit; have HJ2 := Hd (fun b' => HJ.out _ _ _ _ _ _ b' hbl HJB.out hit); have HT2 : Hid ((if peekP xs (whiteN xs b1) = 44 then listP xs c item g s1 (whiteN xs b1 + 1) m1 else if xs[whiteN xs b1]? = some c then .ok s1 (whiteN xs b1 + 1) m1 else .err 2 (whiteN xs b1)) = T) := Hd (by rw [← HT.out, hit])
        replace HP := Hd hp1; replace HST := Hd hst1; replace HK := Hd (HK.out.trans hk4); replace hB := Nat.le_trans hB hk4.size; have hwg := whiteN_ge xs b1 HP.out.2.2; have hwl := whiteN_le xs b1; clear HT hit hp1 hst1 hk4; go_wp2_with fail; refine (skip_any p v xs b1 m1 _ HP.out).mono ?_; rintro e w5 ⟨rfl, hp1, hk1⟩; replace HST := Hd (HH.out _ _ _ HST.out hB hk1); replace HP := Hd hp1
        replace HK := Hd (HK.out.trans (hk1.mono hB)); replace hB := Nat.le_trans hB hk1.size; clear hp1 hk1; generalize whiteN xs b1 = b2 at *; go_wp2_with fail; refine (peek_any p v xs b2 m1 _ HP.out).mono ?_; rintro e w6 ⟨rfl, hw⟩; replace HST := Hd (HH.out _ _ _ HST.out hB (KeptP.ofExt hw)); replace HP := Hd (HP.out.ext hw); replace HK := Hd (HK.out.trans ((KeptP.ofExt hw).mono hB))
        replace hB := Nat.le_trans hB hw.size; clear hw; by_cases h44 : peekP xs b2 = 44
        · have hlt := (peekP_some h44 (by decide)).2; have HT3 : Hid (listP xs c item g s1 (b2 + 1) m1 = T) := Hd (by have := HT2.out; rwa [if_pos h44] at this); rw [h44]; clear h44; obtain ⟨c0, c1, c2, f0, f1, f2, hpl⟩ := HP.out.1.cells; have e1 : IntKind.i64.wrap ((b2 : Int) + 1) = ((b2 + 1 : Nat) : Int) := by rw [IntWalk.i64_in _ (by omega)]; omega
          have HPE := Hd (HP.out.setAt (b2 + 1) (by omega)); have HSE := Hd (HH.out _ _ _ HST.out hB (KeptP.set (o := 1) (.int .i64 (b2 + 1 : Nat)))); go_wp2_with fail; go_roundg g
          case measure => omega
          case rel => exact ⟨s1, b2 + 1, m1, by omega, by omega, HT3.out, HJ2.out _ (by omega), HPE.out, HSE.out, by simpa [World.setCell] using hB, HK.out.trans (Kept.setCell _)⟩
        · have hcb : (((peekP xs b2).toNat : Int) != 44) = true := u8_bne h44; have HT3 : (if xs[b2]? = some c then PR.ok s1 (b2 + 1) m1 else .err 2 b2) = T := by have := HT2.out; rwa [if_neg h44] at this
          generalize peekP xs b2 = pk2 at *; clear h44; go_wp2_with fail; by_cases hcl : xs[b2]? = some c
          · have hres : Hid (T = .ok s1 (b2 + 1) m1) := Hd (by rw [← HT3, if_pos hcl]); refine (take_ok p v xs b2 m1 c _ HP.out hcl).mono ?_; rintro e w7 ⟨rfl, hp1, hk1⟩; replace HST := Hd (HH.out _ _ _ HST.out hB hk1); replace HP := Hd hp1; replace HK := Hd (HK.out.trans (hk1.mono hB)); replace hB := Nat.le_trans hB hk1.size; clear hp1 hk1; go_wp2_with fail; go_end0
            rw [hres.out]; exact ⟨rfl, HP.out, HST.out, HK.out⟩
          · have hres : Hid (T = .err 2 b2) := Hd (by rw [← HT3, if_neg hcl]); refine (take_no p v xs b2 m1 c _ HP.out hcl).mono ?_; rintro e w7 ⟨rfl, hk1⟩; go_wp2_with fail; rw [hres.out]; exact ⟨rfl, rfl, HK.out.trans (hk1.mono hB)⟩
end Go.Proofs.YtjapbjmeoaagmaaGreatDoor
