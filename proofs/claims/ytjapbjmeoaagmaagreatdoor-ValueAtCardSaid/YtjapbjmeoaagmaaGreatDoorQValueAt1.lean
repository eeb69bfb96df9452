/- Several texts of this proof in one. -/
import Derived.Test.YtjapbjmeoaagmaaGreatDoorEValueAtPaV
import Derived.Test.YtjapbjmeoaagmaaGreatDoorEValueAtPaW
import Derived.Test.YtjapbjmeoaagmaaGreatDoorEValueAtWUtfC
import Derived.Test.YtjapbjmeoaagmaaGreatDoorEValueAtGrowT
import Derived.Test.YtjapbjmeoaagmaaGreatDoorEValueAtPaS
import Derived.Test.YtjapbjmeoaagmaaGreatDoorEValueAtUtfM
import Derived.Test.YtjapbjmeoaagmaaGreatDoorEValueAtMem
import Derived.ProofKit
import Derived.SizedLaws
import Derived.OpenShut
import Derived.Test.YtjapbjmeoaagmaaGreatDoorEValueAtGrowS
import Derived.Test.YtjapbjmeoaagmaaGreatDoorProg
import Derived.Test.YtjapbjmeoaagmaaGreatDoorEValueAtConv
import Derived.Lib.Builder
import Derived.Lib.UnsafeStr
import Derived.Laws.Externs
import Derived.Test.YtjapbjmeoaagmaaGreatDoorEValueAtDecP
import Derived.Test.YtjapbjmeoaagmaaGreatDoorEValueAtDecA
import Derived.Test.YtjapbjmeoaagmaaGreatDoorEValueAtDecC
import Derived.Test.YtjapbjmeoaagmaaGreatDoorEValueAtStr
import Derived.Lib.AppendIntMem
import Derived.Test.YtjapbjmeoaagmaaGreatDoorEValueAtWEscB
import Derived.Test.YtjapbjmeoaagmaaGreatDoorEValueAtGst
import Derived.Deep.RegionWith
import Derived.LoopN
import Derived.Test.YtjapbjmeoaagmaaGreatDoorEValueAtSh
import Derived.Test.YtjapbjmeoaagmaaGreatDoorEValueAtSi
set_option linter.unusedVariables false
set_option linter.unusedSimpArgs false
set_option maxRecDepth 100000
section
set_option maxRecDepth 100000
namespace Go.Proofs.YtjapbjmeoaagmaaGreatDoor
open Go.RowKit Go.Mem Orange
def Fine {α : Type} (xs : List UInt8) : PR α → Prop
 | .ok _ a _ => a ≤ xs.length
 | .err e b => e ≠ 0 ∧ b ≤ xs.length
theorem Fine.map {α β : Type} {xs : List UInt8} {f : α → β} {r : PR α} (h : Fine xs r) : Fine xs (r.map f) := by cases r <;> exact h
theorem ext_set8 {w w2 : World} {S : Nat} {a b c d e f g i : Value} (h : Ext w w2) (hS : w.heap.size ≤ S) : Ext w ((((((((w2.setCell ⟨S, 0, none⟩ a).setCell ⟨S, 1, none⟩ b).setCell ⟨S, 2, none⟩ c).setCell ⟨S, 3, none⟩ d).setCell ⟨S, 4, none⟩ e).setCell ⟨S, 5, none⟩ f).setCell ⟨S, 6, none⟩ g).setCell ⟨S, 7, none⟩ i) := below_store8 h hS a b c d e f g i
end Go.Proofs.YtjapbjmeoaagmaaGreatDoor
end

section
set_option maxRecDepth 100000
namespace Orange
def Tree.bit : Tree → Bool | .mk _ b _ _ _ _ => b
def Tree.num : Tree → Num | .mk _ _ d _ _ _ => d
mutual
def exactT : Tree → Tree → Bool
 | .mk k b d s l m, .mk k' b' d' s' l' m' => decide (k = k') && (b == b') && decide (d = d') && decide (s = s') && exactL l l' && exactM m m'
def exactL : List Tree → List Tree → Bool
 | [], [] => true
 | t :: l, t' :: l' => exactT t t' && exactL l l'
 | [], _ :: _ => false
 | _ :: _, [] => false
def exactM : List (List UInt8 × Tree) → List (List UInt8 × Tree) → Bool
 | [], [] => true
 | (k, t) :: l, (k', t') :: l' => decide (k = k') && exactT t t' && exactM l l'
 | [], _ :: _ => false
 | _ :: _, [] => false
end
theorem exactL_len : ∀ (l l' : List Tree), exactL l l' = true → l.length = l'.length
 | [], [], _ => rfl
 | t :: l, t' :: l', h => by rw [exactL, Bool.and_eq_true] at h; simp [exactL_len l l' h.2]
 | [], _ :: _, h => by rw [exactL] at h; cases h
 | _ :: _, [], h => by rw [exactL] at h; cases h
theorem exactM_len : ∀ (l l' : List (List UInt8 × Tree)), exactM l l' = true → l.length = l'.length
 | [], [], _ => rfl
 | (k, t) :: l, (k', t') :: l', h => by rw [exactM, Bool.and_eq_true] at h; simp [exactM_len l l' h.2]
 | [], _ :: _, h => by rw [exactM] at h; cases h
 | _ :: _, [], h => by rw [exactM] at h; cases h
mutual
theorem exactT_refl : ∀ t : Tree, exactT t t = true
 | .mk k b d s l m => by rw [exactT, exactL_refl l, exactM_refl m]; simp
theorem exactL_refl : ∀ l : List Tree, exactL l l = true
 | [] => by rw [exactL]
 | t :: l => by rw [exactL, exactT_refl t, exactL_refl l]; rfl
theorem exactM_refl : ∀ m : List (List UInt8 × Tree), exactM m m = true
 | [] => by rw [exactM]
 | (k, t) :: m => by rw [exactM, exactT_refl t, exactM_refl m]; simp
end
end Orange
namespace Go.Proofs.YtjapbjmeoaagmaaGreatDoor
open Go.RowKit Go.Mem Orange
theorem TL.at {w : World} {A : Nat → Prop} : ∀ {l : List Tree} {cs : List Value} (i : Nat) (hi : i < l.length), TL w A l cs → ∃ c, TV w A l[i] c ∧ ∀ j, j < 8 → cs[i * 8 + j]? = c[j]?
 | t :: l, _, 0, hi, .cons (c := c) h1 h2 => ⟨c, h1, fun j hj => by
     rw [Nat.zero_mul, Nat.zero_add, List.getElem?_append_left (by rw [Array.length_toList, h1.size]; exact hj)]; simp⟩
 | t :: l, _, i + 1, hi, .cons (c := c0) h1 h2 => by
   obtain ⟨c, h3, h4⟩ := TL.at i (by simpa using hi) h2; refine ⟨c, h3, fun j hj => ?_⟩; rw [List.getElem?_append_right (by rw [Array.length_toList, h1.size]; omega), Array.length_toList, h1.size, ← h4 j hj]; congr 1; omega
theorem TM.at {w : World} {A : Nat → Prop} : ∀ {l : List (List UInt8 × Tree)} {cs : List Value} (i : Nat) (hi : i < l.length), TM w A l cs → ∃ c, TV w A l[i].2 c ∧ cs[i * 9]? = some (.string ⟨l[i].1.toArray⟩) ∧ ∀ j, j < 8 → cs[i * 9 + 1 + j]? = c[j]?
 | (k, t) :: l, _, 0, hi, .cons (c := c) h1 h2 => ⟨c, h1, by simp, fun j hj => by
     rw [Nat.zero_mul, Nat.zero_add, List.cons_append, Nat.add_comm 1 j, List.getElem?_cons_succ, List.getElem?_append_left (by rw [Array.length_toList, h1.size]; exact hj)]; simp⟩
 | (k, t) :: l, _, i + 1, hi, .cons (c := c0) h1 h2 => by
   obtain ⟨c, h3, h4, h5⟩ := TM.at i (by simpa using hi) h2; have hlen : (Value.string ⟨k.toArray⟩ :: c0.toList).length = 9 := by simp [h1.size]
   refine ⟨c, h3, ?_, fun j hj => ?_⟩
   · rw [List.getElem?_append_right (by rw [hlen]; omega), hlen, show (i + 1) * 9 - 9 = i * 9 by omega]; simpa using h4
   · rw [List.getElem?_append_right (by rw [hlen]; omega), hlen, ← h5 j hj]; congr 1; omega
theorem RowAt.cells {w : World} {A : Nat → Prop} {z n : Nat} {a : Option Addr} {m cap : Nat} {cs : List Value} (h : RowAt w A z (.slice a m cap) n cs) (hn : 0 < n) : ∃ g o, a = some ⟨g, o, none⟩ ∧ g < w.heap.size ∧ ∀ i u, cs[i]? = some u → w.cell? ⟨g, o + i, none⟩ = some u := by
 obtain ⟨h0, a', c', e, h1, h2, h3⟩ := h; simp only [Value.slice.injEq] at e; obtain ⟨rfl, _, _⟩ := e; obtain ⟨g, o, rfl, _, hlt, hc⟩ := h3 hn; refine ⟨g, o, rfl, hlt, fun i u hu => ?_⟩; obtain ⟨hi, rfl⟩ := List.getElem?_eq_some_iff.1 hu; exact hc i hi
set_option maxHeartbeats 1600000 in
theorem neq_num (a b : Num) (w : World) : (binOp .neq 23 (.agg #[.bool a.neg, .string ⟨a.digits.toArray⟩, .int .i64 a.exp]) (.agg #[.bool b.neg, .string ⟨b.digits.toArray⟩, .int .i64 b.exp])).run Tryz.prog w = .ok (.bool (!decide (a = b))) w := by
 obtain ⟨a3, a4, a5⟩ := a; obtain ⟨b3, b4, b5⟩ := b; simp only [Num.mk.injEq]; by_cases h3 : a3 = b3
 · by_cases h4 : a4 = b4
   · by_cases h5 : a5 = b5
     · subst h3; subst h4; subst h5; go_simp
     · have q5 : (a5 == b5) = false := by simpa using h5
       subst h3; subst h4; go_simp
   · have q4 : (a4 == b4) = false := by simpa using h4
     subst h3; go_simp
 · have q3 : (a3 == b3) = false := by simpa using h3
   go_simp
theorem snd_lt (p : List UInt8 × Tree) : SizeOf.sizeOf p.2 < SizeOf.sizeOf p := by
 cases p
 simp only [Prod.mk.sizeOf_spec]; omega
theorem mem_size (m : List (List UInt8 × Tree)) (i : Nat) (h : i < m.length) {N : Nat} (hN : SizeOf.sizeOf m < N) : SizeOf.sizeOf m[i].2 < N :=
 Nat.lt_trans (Nat.lt_trans (snd_lt m[i]) (List.sizeOf_lt_of_mem (List.getElem_mem h))) hN
theorem mem_sizeL (m : List Tree) (i : Nat) (h : i < m.length) {N : Nat} (hN : SizeOf.sizeOf m < N) : SizeOf.sizeOf m[i] < N :=
 Nat.lt_trans (List.sizeOf_lt_of_mem (List.getElem_mem h)) hN
theorem exactM_cons (p q : List UInt8 × Tree) (l l' : List (List UInt8 × Tree)) : exactM (p :: l) (q :: l') = (decide (p.1 = q.1) && exactT p.2 q.2 && exactM l l') := by
 cases p; cases q; rw [exactM]
set_option maxHeartbeats 6400000 in
theorem exact_step (N : Nat) (ih : ∀ (t u : Tree) (A A' : Nat → Prop) (c c' : Array Value) (w : World), SizeOf.sizeOf t < N → TV w A t c → TV w A' u c' →
 Calls Tryz.prog 20 #[.agg c, .agg c'] w (fun e w' => e = .returned (.bool (exactT t u)) ∧ Ext w w')) :
 ∀ (t u : Tree) (A A' : Nat → Prop) (c c' : Array Value) (w : World), SizeOf.sizeOf t < N + 1 → TV w A t c → TV w A' u c' →
 Calls Tryz.prog 20 #[.agg c, .agg c'] w (fun e w' => e = .returned (.bool (exactT t u)) ∧ Ext w w')
 | .mk k b d s l m, .mk k' b' d' s' l' m', A, A', c, c', w, hN, ht, hu => by
   have IH := Hd ih; clear ih; cases ht with
   | mk htl hrl htm hrm =>
   cases hu with
   | mk hul hsl hum hsm =>
   rename_i vL vM cl cm vL' vM' cl' cm'
   obtain ⟨_, a1, p1, rfl, hp1, hq1, _⟩ := id hrl; obtain ⟨_, a2, p2, rfl, hp2, hq2, _⟩ := id hrm; obtain ⟨_, a3, p3, rfl, hp3, hq3, _⟩ := id hsl; obtain ⟨_, a4, p4, rfl, hp4, hq4, _⟩ := id hsm; obtain ⟨T, hT⟩ := Ex (exactT (.mk k b d s l m) (.mk k' b' d' s' l' m')); rw [hT]; rw [exactT] at hT; have HT := Hd hT; have hv0 := VAt.new w (cellsV k b d s (.slice a1 l.length p1) (.slice a2 m.length p2))
   have hx0 : Ext w (w.alloc (.cells (cellsV k b d s (.slice a1 l.length p1) (.slice a2 m.length p2)) 27)) := (ext_refl w).alloc (Nat.le_refl _) _; have hv1 := VAt.new (w.alloc (.cells (cellsV k b d s (.slice a1 l.length p1) (.slice a2 m.length p2)) 27)) (cellsV k' b' d' s' (.slice a3 l'.length p3) (.slice a4 m'.length p4))
   have hx1 : Ext (w.alloc (.cells (cellsV k b d s (.slice a1 l.length p1) (.slice a2 m.length p2)) 27)) ((w.alloc (.cells (cellsV k b d s (.slice a1 l.length p1) (.slice a2 m.length p2)) 27)).alloc (.cells (cellsV k' b' d' s' (.slice a3 l'.length p3) (.slice a4 m'.length p4)) 27)) := (ext_refl _).alloc (Nat.le_refl _) _; replace hv0 := hv0.ext hx1
   have hsz0 : (w.alloc (.cells (cellsV k b d s (.slice a1 l.length p1) (.slice a2 m.length p2)) 27)).heap.size = w.heap.size + 1 := by simp
   rw [hsz0] at hv1; have hE := ext_trans hx0 hx1; clear hx0 hx1 hT; simp only [cellsV] at hv0 hv1 hsz0 hE ⊢; go_enter Tryz.func20, Tryz.ntmps20
   go_upto_region 1 with fail; generalize (w.alloc (.cells #[.int .i64 k, .bool b, .bool d.neg, .string ⟨d.digits.toArray⟩, .int .i64 d.exp, .string ⟨s.toArray⟩, .slice a1 l.length p1, .slice a2 m.length p2] 27)).alloc (.cells #[.int .i64 k', .bool b', .bool d'.neg, .string ⟨d'.digits.toArray⟩, .int .i64 d'.exp, .string ⟨s'.toArray⟩, .slice a3 l'.length p3, .slice a4 m'.length p4] 27) = w1 at *
   obtain ⟨S, hS⟩ := Ex w.heap.size; rw [hS] at hv0 hv1 ⊢; have HC := Hd hv0; have HD := Hd hv1; have HE := Hd hE; have HTL := Hd (htl.keep (A' := fun _ => True) hE.size (fun g _ hlt => ⟨trivial, hE.block g hlt⟩)); have HRL := Hd (hrl.keep (A' := fun _ => True) hE.size (fun g _ hlt => ⟨trivial, hE.block g hlt⟩))
   have HTM := Hd (htm.keep (A' := fun _ => True) hE.size (fun g _ hlt => ⟨trivial, hE.block g hlt⟩)); have HRM := Hd (hrm.keep (A' := fun _ => True) hE.size (fun g _ hlt => ⟨trivial, hE.block g hlt⟩)); have HUL := Hd (hul.keep (A' := fun _ => True) hE.size (fun g _ hlt => ⟨trivial, hE.block g hlt⟩)); have HSL := Hd (hsl.keep (A' := fun _ => True) hE.size (fun g _ hlt => ⟨trivial, hE.block g hlt⟩))
   have HUM := Hd (hum.keep (A' := fun _ => True) hE.size (fun g _ hlt => ⟨trivial, hE.block g hlt⟩)); have HSM := Hd (hsm.keep (A' := fun _ => True) hE.size (fun g _ hlt => ⟨trivial, hE.block g hlt⟩)); clear hv0 hv1 hE hsz0 htl hrl htm hrm hul hsl hum hsm hS
   have c0 := HC.out.cell 0; have c1 := HC.out.cell 1; have c2 := HC.out.cell 2; have c3 := HC.out.cell 3; have c4 := HC.out.cell 4; have c5 := HC.out.cell 5; have c6 := HC.out.cell 6; have c7 := HC.out.cell 7
   have d0 := HD.out.cell 0; have d1 := HD.out.cell 1; have d2 := HD.out.cell 2; have d3 := HD.out.cell 3; have d4 := HD.out.cell 4; have d5 := HD.out.cell 5; have d6 := HD.out.cell 6; have d7 := HD.out.cell 7; simp at c0 c1 c2 c3 c4 c5 c6 c7 d0 d1 d2 d3 d4 d5 d6 d7; have hneq := fun w => neq_num d d' w; by_cases h1 : ¬ k = k'
   · have q1 : (k == k') = false := by simpa using h1
     have HF : Hid (T = false) := Hd (by rw [← HT.out]; simp [h1]); go_wp2_with fail; go_ret; exact ⟨ret_bool HF.out.symm, HE.out⟩
   replace h1 : k = k' := Decidable.of_not_not h1; subst h1; by_cases h2 : ¬ b = b'
   · have q1 : (b == b') = false := by simpa using h2
     have HF : Hid (T = false) := Hd (by rw [← HT.out]; simp [h2]); go_wp2_with fail; go_ret; exact ⟨ret_bool HF.out.symm, HE.out⟩
   replace h2 : b = b' := Decidable.of_not_not h2; subst h2; by_cases h3 : ¬ d = d'
   · rw [decide_eq_false h3] at hneq; have HF : Hid (T = false) := Hd (by rw [← HT.out]; simp [h3]); go_wp2_with fail; go_ret; exact ⟨ret_bool HF.out.symm, HE.out⟩
   replace h3 : d = d' := Decidable.of_not_not h3; rw [decide_eq_true h3] at hneq; have HD3 := Hd h3; clear h3; by_cases h4 : ¬ s = s'
   · have q1 : (s == s') = false := by simpa using h4
     have HF : Hid (T = false) := Hd (by rw [← HT.out]; simp [h4]); go_wp2_with fail; go_ret; exact ⟨ret_bool HF.out.symm, HE.out⟩
   replace h4 : s = s' := Decidable.of_not_not h4; subst h4; by_cases h5 : ¬ l.length = l'.length
   · have q1 : ((l.length : Int) == l'.length) = false := by simp; omega
     have HF : Hid (T = false) := Hd (by
      rw [← HT.out]; cases hx : exactL l l' with
      | true => exact absurd (exactL_len _ _ hx) h5
      | false => simp)
     go_wp2_with fail; go_ret; exact ⟨ret_bool HF.out.symm, HE.out⟩
   replace h5 : l.length = l'.length := Decidable.of_not_not h5; by_cases h6 : ¬ m.length = m'.length
   · have q1 : ((m.length : Int) == m'.length) = false := by simp; omega
     have HF : Hid (T = false) := Hd (by
      rw [← HT.out]; cases hx : exactM m m' with
      | true => exact absurd (exactM_len _ _ hx) h6
      | false => simp)
     have e5 : (l'.length : Int) = l.length := by omega
     go_wp2_with fail; go_ret; exact ⟨ret_bool HF.out.symm, HE.out⟩
   replace h6 : m.length = m'.length := Decidable.of_not_not h6; have HT2 : Hid (T = (exactL l l' && exactM m m')) := Hd (by rw [← HT.out]; simp [HD3.out]); have e5 : (l'.length : Int) = l.length := by omega
   have e6 : (m'.length : Int) = m.length := by omega
   have H5 := Hd h5; have H6 := Hd h6; clear HT h5 h6; go_upto_region 3 with fail; clear e5 e6; clear c0 c1 c2 c3 c4 c5 c6 c7 d0 d1 d2 d3 d4 d5 d6 d7 hneq; have HSU : Hid (SizeOf.sizeOf l < N ∧ SizeOf.sizeOf m < N) := Hd (by
    simp only [Tree.mk.sizeOf_spec] at hN; omega)
   clear hN; go_wp2_with fail; go_loopw [5] (fun iv wr => ∃ i : Nat, iv = .int .i64 i ∧ i ≤ l.length ∧ Ext w1 wr ∧ exactL l l' = exactL (l.drop i) (l'.drop i)) (fun iv _ => 9223372036854775808 - (intOf iv).toNat)
   case atStart => exact ⟨0, rfl, by omega, ext_refl _, rfl⟩
   case round =>
    obtain ⟨i, rfl, hi, hEr, hdr⟩ := hrel; have HX := Hd hEr; have HDR := Hd hdr; have hCr := HC.out.ext hEr; have hDr := HD.out.ext hEr; have HCR := Hd hCr; have HDD := Hd hDr; clear hEr hdr hCr hDr; have c6 := HCR.out.cell 6; have d6 := HDD.out.cell 6; simp at c6 d6; by_cases hlt : i < l.length
    · have hlti : (i : Int) < l.length := by omega
      have hi0 : (0 : Int) ≤ i := by omega
      have hlt' : i < l'.length := by have := H5.out; omega
      have hlti' : (i : Int) < l'.length := by omega
      obtain ⟨x, htx, hcx⟩ := HTL.out.at i hlt; obtain ⟨y, huy, hcy⟩ := HUL.out.at i hlt'; obtain ⟨g, o, ea, hgl, hgc⟩ := HRL.out.cells (by omega); obtain ⟨g', o', ea', hgl', hgc'⟩ := HSL.out.cells (by omega); subst ea; subst ea'; obtain ⟨xk, xb, xd, xs, xa1, xn1, xc1, xa2, xn2, xc2, rfl⟩ := htx.eight; obtain ⟨yk, yb, yd, ys, ya1, yn1, yc1, ya2, yn2, yc2, rfl⟩ := huy.eight
      have HXE : Hid (∀ w', Ext wr w' → ∀ j u, (cellsV xk xb xd xs (.slice xa1 xn1 xc1) (.slice xa2 xn2 xc2))[j]? = some u → w'.cell? ⟨g, o + i * 8 + j, none⟩ = some u) := Hd (fun w' hw j u hu => by
       have hj : j < 8 := by have := (Array.getElem?_eq_some_iff.1 hu).1; simpa using this
       rw [Nat.add_assoc, (ext_trans HX.out hw).cell (p := ⟨g, o + (i * 8 + j), none⟩) hgl]; exact hgc _ _ ((hcx j hj).trans hu))
      have HYE : Hid (∀ w', Ext wr w' → ∀ j u, (cellsV yk yb yd ys (.slice ya1 yn1 yc1) (.slice ya2 yn2 yc2))[j]? = some u → w'.cell? ⟨g', o' + i * 8 + j, none⟩ = some u) := Hd (fun w' hw j u hu => by
       have hj : j < 8 := by have := (Array.getElem?_eq_some_iff.1 hu).1; simpa using this
       rw [Nat.add_assoc, (ext_trans HX.out hw).cell (p := ⟨g', o' + (i * 8 + j), none⟩) hgl']; exact hgc' _ _ ((hcy j hj).trans hu))
      have HIH : Hid (∀ w', Ext wr w' → Calls Tryz.prog 20 #[.agg (cellsV xk xb xd xs (.slice xa1 xn1 xc1) (.slice xa2 xn2 xc2)), .agg (cellsV yk yb yd ys (.slice ya1 yn1 yc1) (.slice ya2 yn2 yc2))] w' (fun e w'' => e = .returned (.bool (exactT l[i] l'[i])) ∧ Ext w' w'')) := Hd (fun w' hw =>
       IH.out l[i] l'[i] (fun _ => True) (fun _ => True) _ _ w' (mem_sizeL l i hlt HSU.out.1) (htx.keep (ext_trans HX.out hw).size (fun g _ hlt => ⟨trivial, (ext_trans HX.out hw).block g hlt⟩)) (huy.keep (ext_trans HX.out hw).size (fun g _ hlt => ⟨trivial, (ext_trans HX.out hw).block g hlt⟩)))
      have HDR2 : Hid (exactL l l' = (exactT l[i] l'[i] && exactL (l.drop (i + 1)) (l'.drop (i + 1)))) := Hd (by
       rw [HDR.out, List.drop_eq_getElem_cons hlt, List.drop_eq_getElem_cons hlt', exactL])
      obtain ⟨bq, hbq⟩ := Ex (exactT l[i] l'[i]); have hih := HIH.out; have hdr2 := HDR2.out; rw [hbq] at hih hdr2; replace HIH := Hd hih; replace HDR2 := Hd hdr2; clear hih hdr2 hbq htx huy hcx hcy hgc hgc' hgl hgl'; have e9 : IntKind.i64.wrap ((i : Int) + 1) = ((i + 1 : Nat) : Int) := by rw [IntWalk.i64_in _ (by omega)]; omega
      go_upto_region 6 with fail; clear c6 d6; refine Grow.wp_region_litW (G := Ext) (B := fun w' => Ext wr w') (anc := fun _ => []) (I := fun j => if j = 10 then some (Grow.Spec.val Ext (.bool bq)) else none) (by kernel_rfl) (by kernel_rfl) (by kernel_rfl) ?_ ?_ ?_
      · exact fun w w' h hg => ext_trans h hg
      · exact (ext_refl _).drew
      repeat
       (refine Grow.Wk.step (fun K hK => ?_)
        first
        | (refine Grow.step_read (by rfl) (by rfl) ext_refl ?_
           apply Exists.intro; refine ⟨fun w hB hF => ?_, ?_⟩
           · have c6 := (HCR.out.ext hB).cell 6; have d6 := (HDD.out.ext hB).cell 6; simp at c6 d6; have x0 := HXE.out _ hB 0 _ rfl; have x1 := HXE.out _ hB 1 _ rfl; have x2 := HXE.out _ hB 2 _ rfl; have x3 := HXE.out _ hB 3 _ rfl; have x4 := HXE.out _ hB 4 _ rfl; have x5 := HXE.out _ hB 5 _ rfl; have x6 := HXE.out _ hB 6 _ rfl; have x7 := HXE.out _ hB 7 _ rfl; have y0 := HYE.out _ hB 0 _ rfl; have y1 := HYE.out _ hB 1 _ rfl; have y2 := HYE.out _ hB 2 _ rfl; have y3 := HYE.out _ hB 3 _ rfl; have y4 := HYE.out _ hB 4 _ rfl; have y5 := HYE.out _ hB 5 _ rfl; have y6 := HYE.out _ hB 6 _ rfl; have y7 := HYE.out _ hB 7 _ rfl; simp only [Nat.add_zero] at x0 y0
             go_simp; try exact rfl
           go_simp; refine hK _ _ ?_; clear hK K)
        | (refine Grow.step_off (by rfl) ?_
           go_simp; refine hK _ _ ?_; clear hK K))
      refine Grow.Wk.step (fun K hK => ?_); refine Grow.step_rel (by rfl) (by rfl) (fun w' hB hF => ?_) (fun v hv => ?_)
      · go_simp; refine Grow.relUpon_enter ((HIH.out w' hB).mono ?_); rintro e w'' ⟨rfl, hw''⟩; exact ⟨_, rfl, hw'', rfl, trivial⟩
      obtain rfl : v = _ := hv; go_simp; refine hK _ _ ?_; clear hK K; repeat
       (refine Grow.Wk.step (fun K hK => ?_)
        first
        | (refine Grow.step_read (by rfl) (by rfl) ext_refl ?_
           apply Exists.intro; refine ⟨fun w hB hF => ?_, ?_⟩
           · skip
             go_simp; try exact rfl
           go_simp; refine hK _ _ ?_; clear hK K)
        | (refine Grow.step_off (by rfl) ?_
           go_simp; refine hK _ _ ?_; clear hK K))
      refine Grow.Wk.nil ?_; intro w4 hB hF; clear hF; cases bq with
      | false =>
        have HF : Hid (T = false) := Hd (by rw [HT2.out, HDR2.out]; rfl); have HEE := Hd (ext_trans HE.out (ext_trans HX.out hB)); clear hB; go_wp2_with fail; go_ret; exact ⟨ret_bool HF.out.symm, HEE.out⟩
      | true =>
        have HN : Hid (exactL l l' = exactL (l.drop (i + 1)) (l'.drop (i + 1))) := Hd (by rw [HDR2.out, Bool.true_and]); have HXX := Hd (ext_trans HX.out hB); clear hB; go_wp2_with fail; go_roundw
        case rel => exact ⟨i + 1, by go_num, by omega, HXX.out, HN.out⟩
        case measure => simp [intOf]; omega
    · obtain rfl : i = l.length := by omega
      have hnlt : ¬ ((l.length : Int) < (l.length : Int)) := by omega
      have HL0 : Hid (exactL l l' = true) := Hd (by
       rw [HDR.out, List.drop_of_length_le (Nat.le_refl _), List.drop_of_length_le (by have := H5.out; omega), exactL])
      have HT3 : Hid (T = exactM m m') := Hd (by rw [HT2.out, HL0.out, Bool.true_and]); have HEr := Hd (ext_trans HE.out HX.out); clear HT2 HL0 HDR hi hlt; go_wp2_with fail; clear c6 d6; go_loopw [6] (fun iv wx => ∃ i : Nat, iv = .int .i64 i ∧ i ≤ m.length ∧ Ext wr wx ∧ exactM m m' = exactM (m.drop i) (m'.drop i)) (fun iv _ => 9223372036854775808 - (intOf iv).toNat)
      case atStart => exact ⟨0, rfl, by omega, ext_refl _, rfl⟩
      case round =>
       obtain ⟨i, rfl, hi, hEr, hdr⟩ := hrel; replace HX := Hd (ext_trans HX.out hEr); have hEr0 := Hd hEr; have HDR := Hd hdr; have hCr := HCR.out.ext hEr; have hDr := HDD.out.ext hEr; replace HCR := Hd hCr; replace HDD := Hd hDr; replace HEr := Hd (ext_trans HEr.out hEr); clear hEr hdr hCr hDr; have c7 := HCR.out.cell 7; have d7 := HDD.out.cell 7; simp at c7 d7; by_cases hlt : i < m.length
       · have hlti : (i : Int) < m.length := by omega
         have hi0 : (0 : Int) ≤ i := by omega
         have hlt' : i < m'.length := by have := H6.out; omega
         have hlti' : (i : Int) < m'.length := by omega
         obtain ⟨x, htx, hkx, hcx⟩ := HTM.out.at i hlt; obtain ⟨y, huy, hky, hcy⟩ := HUM.out.at i hlt'; obtain ⟨g, o, ea, hgl, hgc⟩ := HRM.out.cells (by omega); obtain ⟨g', o', ea', hgl', hgc'⟩ := HSM.out.cells (by omega); subst ea; subst ea'; obtain ⟨xk, xb, xd, xs, xa1, xn1, xc1, xa2, xn2, xc2, rfl⟩ := htx.eight; obtain ⟨yk, yb, yd, ys, ya1, yn1, yc1, ya2, yn2, yc2, rfl⟩ := huy.eight
         have HXE : Hid (∀ w', Ext wr w' → ∀ j u, (cellsV xk xb xd xs (.slice xa1 xn1 xc1) (.slice xa2 xn2 xc2))[j]? = some u → w'.cell? ⟨g, o + i * 9 + (j + 1), none⟩ = some u) := Hd (fun w' hw j u hu => by
          have hj : j < 8 := by have := (Array.getElem?_eq_some_iff.1 hu).1; simpa using this
          rw [Nat.add_assoc, (ext_trans HX.out hw).cell (p := ⟨g, o + (i * 9 + (j + 1)), none⟩) hgl, show i * 9 + (j + 1) = i * 9 + 1 + j by omega]; exact hgc _ _ ((hcx j hj).trans hu))
         have HYE : Hid (∀ w', Ext wr w' → ∀ j u, (cellsV yk yb yd ys (.slice ya1 yn1 yc1) (.slice ya2 yn2 yc2))[j]? = some u → w'.cell? ⟨g', o' + i * 9 + (j + 1), none⟩ = some u) := Hd (fun w' hw j u hu => by
          have hj : j < 8 := by have := (Array.getElem?_eq_some_iff.1 hu).1; simpa using this
          rw [Nat.add_assoc, (ext_trans HX.out hw).cell (p := ⟨g', o' + (i * 9 + (j + 1)), none⟩) hgl', show i * 9 + (j + 1) = i * 9 + 1 + j by omega]; exact hgc' _ _ ((hcy j hj).trans hu))
         have HXK : Hid (∀ w', Ext wr w' → w'.cell? ⟨g, o + i * 9, none⟩ = some (.string ⟨m[i].1.toArray⟩)) := Hd (fun w' hw => by
          rw [(ext_trans HX.out hw).cell (p := ⟨g, o + i * 9, none⟩) hgl]; exact hgc _ _ hkx)
         have HYK : Hid (∀ w', Ext wr w' → w'.cell? ⟨g', o' + i * 9, none⟩ = some (.string ⟨m'[i].1.toArray⟩)) := Hd (fun w' hw => by
          rw [(ext_trans HX.out hw).cell (p := ⟨g', o' + i * 9, none⟩) hgl']; exact hgc' _ _ hky)
         have HIH : Hid (∀ w', Ext wr w' → Calls Tryz.prog 20 #[.agg (cellsV xk xb xd xs (.slice xa1 xn1 xc1) (.slice xa2 xn2 xc2)), .agg (cellsV yk yb yd ys (.slice ya1 yn1 yc1) (.slice ya2 yn2 yc2))] w' (fun e w'' => e = .returned (.bool (exactT m[i].2 m'[i].2)) ∧ Ext w' w'')) := Hd (fun w' hw =>
          IH.out m[i].2 m'[i].2 (fun _ => True) (fun _ => True) _ _ w' (mem_size m i hlt HSU.out.2) (htx.keep (ext_trans HX.out hw).size (fun g _ hlt => ⟨trivial, (ext_trans HX.out hw).block g hlt⟩)) (huy.keep (ext_trans HX.out hw).size (fun g _ hlt => ⟨trivial, (ext_trans HX.out hw).block g hlt⟩)))
         have HDR2 : Hid (exactM m m' = (decide (m[i].1 = m'[i].1) && exactT m[i].2 m'[i].2 && exactM (m.drop (i + 1)) (m'.drop (i + 1)))) := Hd (by
          rw [HDR.out, List.drop_eq_getElem_cons hlt, List.drop_eq_getElem_cons hlt', exactM_cons])
         obtain ⟨bq, hbq⟩ := Ex (exactT m[i].2 m'[i].2); obtain ⟨kx, hkx2⟩ := Ex (m[i].1); obtain ⟨ky, hky2⟩ := Ex (m'[i].1); have hih := HIH.out; have hdr2 := HDR2.out; have hxk := HXK.out; have hyk := HYK.out; rw [hbq] at hih hdr2; rw [hkx2] at hxk hdr2; rw [hky2] at hyk hdr2; replace HIH := Hd hih; replace HDR2 := Hd hdr2; replace HXK := Hd hxk; replace HYK := Hd hyk
         clear hih hdr2 hbq htx huy hcx hcy hgc hgc' hgl hgl' hkx hky hkx2 hky2 hxk hyk; have e9 : IntKind.i64.wrap ((i : Int) + 1) = ((i + 1 : Nat) : Int) := by rw [IntWalk.i64_in _ (by omega)]; omega
         have HFA : Hid (∀ w', Ext wr w' → w'.cell? ⟨S, 7, none⟩ = some (.slice (some ⟨g, o, none⟩) m.length p2) ∧ w'.cell? ⟨S + 1, 7, none⟩ = some (.slice (some ⟨g', o', none⟩) m'.length p4) ∧ w'.cell? ⟨g, o + i * 9, none⟩ = some (.string ⟨kx.toArray⟩) ∧ w'.cell? ⟨g', o' + i * 9, none⟩ = some (.string ⟨ky.toArray⟩)) := Hd (fun w' hw => ⟨by rw [(HCR.out.ext hw).cell 7]; rfl, by rw [(HDD.out.ext hw).cell 7]; rfl, HXK.out _ hw, HYK.out _ hw⟩)
         by_cases hkk : ¬ kx = ky
         · have hkb : (kx == ky) = false := by simpa using hkk
           have HF : Hid (T = false) := Hd (by rw [HT3.out, HDR2.out]; simp [hkk]); clear hkk; go_upto_region 11 with fail; clear c7 d7; refine Grow.wp_region_litW (G := Ext) (B := fun w' => Ext wr w') (anc := fun _ => []) (I := fun _ => none) (by kernel_rfl) (by kernel_rfl) (by kernel_rfl) ?_ ?_ ?_
           · exact fun w w' h hg => ext_trans h hg
           · exact (ext_refl _).drew
           repeat
            (refine Grow.Wk.step (fun K hK => ?_)
             first
             | (refine Grow.step_read (by rfl) (by rfl) ext_refl ?_
                apply Exists.intro; refine ⟨fun w hB hF => ?_, ?_⟩
                · obtain ⟨c7, d7, kx0, ky0⟩ := HFA.out _ hB; go_simp; try exact rfl
                go_simp; refine hK _ _ ?_; clear hK K)
             | (refine Grow.step_off (by rfl) ?_
                go_simp; refine hK _ _ ?_; clear hK K))
           refine Grow.Wk.nil ?_; intro w4 hB hF; clear hF; have HEE := Hd (ext_trans HEr.out hB); clear hB; go_wp2_with fail; go_ret; exact ⟨ret_bool HF.out.symm, HEE.out⟩
         · replace hkk : kx = ky := Decidable.of_not_not hkk; subst hkk; replace HDR2 : Hid (exactM m m' = (bq && exactM (m.drop (i + 1)) (m'.drop (i + 1)))) := Hd (by rw [HDR2.out]; simp); go_upto_region 11 with fail; clear c7 d7
           refine Grow.wp_region_litW (G := Ext) (B := fun w' => Ext wr w') (anc := fun _ => []) (I := fun j => if j = 26 then some (Grow.Spec.val Ext (.bool bq)) else none) (by kernel_rfl) (by kernel_rfl) (by kernel_rfl) ?_ ?_ ?_
           · exact fun w w' h hg => ext_trans h hg
           · exact (ext_refl _).drew
           have HFX : Hid (∀ w', Ext wr w' → w'.cell? ⟨g, o + i * 9 + 1, none⟩ = some (.int .i64 xk) ∧ w'.cell? ⟨g, o + i * 9 + 2, none⟩ = some (.bool xb) ∧ w'.cell? ⟨g, o + i * 9 + 3, none⟩ = some (.bool xd.neg) ∧ w'.cell? ⟨g, o + i * 9 + 4, none⟩ = some (.string ⟨xd.digits.toArray⟩) ∧ w'.cell? ⟨g, o + i * 9 + 5, none⟩ = some (.int .i64 xd.exp) ∧ w'.cell? ⟨g, o + i * 9 + 6, none⟩ = some (.string ⟨xs.toArray⟩) ∧ w'.cell? ⟨g, o + i * 9 + 7, none⟩ = some (.slice xa1 xn1 xc1) ∧ w'.cell? ⟨g, o + i * 9 + 8, none⟩ = some (.slice xa2 xn2 xc2)) := Hd (fun w' hw => ⟨HXE.out _ hw 0 _ rfl, HXE.out _ hw 1 _ rfl, HXE.out _ hw 2 _ rfl, HXE.out _ hw 3 _ rfl, HXE.out _ hw 4 _ rfl, HXE.out _ hw 5 _ rfl, HXE.out _ hw 6 _ rfl, HXE.out _ hw 7 _ rfl⟩)
           have HFY : Hid (∀ w', Ext wr w' → w'.cell? ⟨g', o' + i * 9 + 1, none⟩ = some (.int .i64 yk) ∧ w'.cell? ⟨g', o' + i * 9 + 2, none⟩ = some (.bool yb) ∧ w'.cell? ⟨g', o' + i * 9 + 3, none⟩ = some (.bool yd.neg) ∧ w'.cell? ⟨g', o' + i * 9 + 4, none⟩ = some (.string ⟨yd.digits.toArray⟩) ∧ w'.cell? ⟨g', o' + i * 9 + 5, none⟩ = some (.int .i64 yd.exp) ∧ w'.cell? ⟨g', o' + i * 9 + 6, none⟩ = some (.string ⟨ys.toArray⟩) ∧ w'.cell? ⟨g', o' + i * 9 + 7, none⟩ = some (.slice ya1 yn1 yc1) ∧ w'.cell? ⟨g', o' + i * 9 + 8, none⟩ = some (.slice ya2 yn2 yc2)) := Hd (fun w' hw => ⟨HYE.out _ hw 0 _ rfl, HYE.out _ hw 1 _ rfl, HYE.out _ hw 2 _ rfl, HYE.out _ hw 3 _ rfl, HYE.out _ hw 4 _ rfl, HYE.out _ hw 5 _ rfl, HYE.out _ hw 6 _ rfl, HYE.out _ hw 7 _ rfl⟩)
           refine Grow.Wk.step (fun K hK => ?_); first
           | (refine Grow.step_read (by rfl) (by rfl) ext_refl ?_
              apply Exists.intro; refine ⟨fun w hB hF => ?_, ?_⟩
              · obtain ⟨c7, d7, kx0, ky0⟩ := HFA.out _ hB; go_simp; try exact rfl
              go_simp; refine hK _ _ ?_; clear hK K)
           | (refine Grow.step_off (by rfl) ?_
              go_simp; refine hK _ _ ?_; clear hK K)
           refine Grow.Wk.step (fun K hK => ?_); first
           | (refine Grow.step_read (by rfl) (by rfl) ext_refl ?_
              apply Exists.intro; refine ⟨fun w hB hF => ?_, ?_⟩
              · obtain ⟨c7, d7, kx0, ky0⟩ := HFA.out _ hB; go_simp; try exact rfl
              go_simp; refine hK _ _ ?_; clear hK K)
           | (refine Grow.step_off (by rfl) ?_
              go_simp; refine hK _ _ ?_; clear hK K)
           refine Grow.Wk.step (fun K hK => ?_); first
           | (refine Grow.step_read (by rfl) (by rfl) ext_refl ?_
              apply Exists.intro; refine ⟨fun w hB hF => ?_, ?_⟩
              · obtain ⟨c7, d7, kx0, ky0⟩ := HFA.out _ hB; go_simp; try exact rfl
              go_simp; refine hK _ _ ?_; clear hK K)
           | (refine Grow.step_off (by rfl) ?_
              go_simp; refine hK _ _ ?_; clear hK K)
           refine Grow.Wk.step (fun K hK => ?_); first
           | (refine Grow.step_read (by rfl) (by rfl) ext_refl ?_
              apply Exists.intro; refine ⟨fun w hB hF => ?_, ?_⟩
              · obtain ⟨c7, d7, kx0, ky0⟩ := HFA.out _ hB; go_simp; try exact rfl
              go_simp; refine hK _ _ ?_; clear hK K)
           | (refine Grow.step_off (by rfl) ?_
              go_simp; refine hK _ _ ?_; clear hK K)
           refine Grow.Wk.step (fun K hK => ?_); first
           | (refine Grow.step_read (by rfl) (by rfl) ext_refl ?_
              apply Exists.intro; refine ⟨fun w hB hF => ?_, ?_⟩
              · obtain ⟨c7, d7, kx0, ky0⟩ := HFA.out _ hB; go_simp; try exact rfl
              go_simp; refine hK _ _ ?_; clear hK K)
           | (refine Grow.step_off (by rfl) ?_
              go_simp; refine hK _ _ ?_; clear hK K)
           refine Grow.Wk.step (fun K hK => ?_); first
           | (refine Grow.step_read (by rfl) (by rfl) ext_refl ?_
              apply Exists.intro; refine ⟨fun w hB hF => ?_, ?_⟩
              · obtain ⟨c7, d7, kx0, ky0⟩ := HFA.out _ hB; go_simp; try exact rfl
              go_simp; refine hK _ _ ?_; clear hK K)
           | (refine Grow.step_off (by rfl) ?_
              go_simp; refine hK _ _ ?_; clear hK K)
           refine Grow.Wk.step (fun K hK => ?_); first
           | (refine Grow.step_read (by rfl) (by rfl) ext_refl ?_
              apply Exists.intro; refine ⟨fun w hB hF => ?_, ?_⟩
              · obtain ⟨c7, d7, kx0, ky0⟩ := HFA.out _ hB; go_simp; try exact rfl
              go_simp; refine hK _ _ ?_; clear hK K)
           | (refine Grow.step_off (by rfl) ?_
              go_simp; refine hK _ _ ?_; clear hK K)
           refine Grow.Wk.step (fun K hK => ?_); first
           | (refine Grow.step_read (by rfl) (by rfl) ext_refl ?_
              apply Exists.intro; refine ⟨fun w hB hF => ?_, ?_⟩
              · obtain ⟨c7, d7, kx0, ky0⟩ := HFA.out _ hB; go_simp; try exact rfl
              go_simp; refine hK _ _ ?_; clear hK K)
           | (refine Grow.step_off (by rfl) ?_
              go_simp; refine hK _ _ ?_; clear hK K)
           refine Grow.Wk.step (fun K hK => ?_); first
           | (refine Grow.step_read (by rfl) (by rfl) ext_refl ?_
              apply Exists.intro; refine ⟨fun w hB hF => ?_, ?_⟩
              · obtain ⟨c7, d7, kx0, ky0⟩ := HFA.out _ hB; go_simp; try exact rfl
              go_simp; refine hK _ _ ?_; clear hK K)
           | (refine Grow.step_off (by rfl) ?_
              go_simp; refine hK _ _ ?_; clear hK K)
           refine Grow.Wk.step (fun K hK => ?_); first
           | (refine Grow.step_read (by rfl) (by rfl) ext_refl ?_
              apply Exists.intro; refine ⟨fun w hB hF => ?_, ?_⟩
              · obtain ⟨c7, d7, kx0, ky0⟩ := HFA.out _ hB; go_simp; try exact rfl
              go_simp; refine hK _ _ ?_; clear hK K)
           | (refine Grow.step_off (by rfl) ?_
              go_simp; refine hK _ _ ?_; clear hK K)
           refine Grow.Wk.step (fun K hK => ?_); first
           | (refine Grow.step_read (by rfl) (by rfl) ext_refl ?_
              apply Exists.intro; refine ⟨fun w hB hF => ?_, ?_⟩
              · obtain ⟨c7, d7, kx0, ky0⟩ := HFA.out _ hB; go_simp; try exact rfl
              go_simp; refine hK _ _ ?_; clear hK K)
           | (refine Grow.step_off (by rfl) ?_
              go_simp; refine hK _ _ ?_; clear hK K)
           refine Grow.Wk.step (fun K hK => ?_); first
           | (refine Grow.step_read (by rfl) (by rfl) ext_refl ?_
              apply Exists.intro; refine ⟨fun w hB hF => ?_, ?_⟩
              · obtain ⟨c7, d7, kx0, ky0⟩ := HFA.out _ hB; go_simp; try exact rfl
              go_simp; refine hK _ _ ?_; clear hK K)
           | (refine Grow.step_off (by rfl) ?_
              go_simp; refine hK _ _ ?_; clear hK K)
           refine Grow.Wk.step (fun K hK => ?_); first
           | (refine Grow.step_read (by rfl) (by rfl) ext_refl ?_
              apply Exists.intro; refine ⟨fun w hB hF => ?_, ?_⟩
              · obtain ⟨c7, d7, kx0, ky0⟩ := HFA.out _ hB; go_simp; try exact rfl
              go_simp; refine hK _ _ ?_; clear hK K)
           | (refine Grow.step_off (by rfl) ?_
              go_simp; refine hK _ _ ?_; clear hK K)
           refine Grow.Wk.step (fun K hK => ?_); first
           | (refine Grow.step_read (by rfl) (by rfl) ext_refl ?_
              apply Exists.intro; refine ⟨fun w hB hF => ?_, ?_⟩
              · obtain ⟨c7, d7, kx0, ky0⟩ := HFA.out _ hB; go_simp; try exact rfl
              go_simp; refine hK _ _ ?_; clear hK K)
           | (refine Grow.step_off (by rfl) ?_
              go_simp; refine hK _ _ ?_; clear hK K)
           refine Grow.Wk.step (fun K hK => ?_); first
           | (refine Grow.step_read (by rfl) (by rfl) ext_refl ?_
              apply Exists.intro; refine ⟨fun w hB hF => ?_, ?_⟩
              · obtain ⟨c7, d7, kx0, ky0⟩ := HFA.out _ hB; go_simp; try exact rfl
              go_simp; refine hK _ _ ?_; clear hK K)
           | (refine Grow.step_off (by rfl) ?_
              go_simp; refine hK _ _ ?_; clear hK K)
           refine Grow.Wk.step (fun K hK => ?_); first
           | (refine Grow.step_read (by rfl) (by rfl) ext_refl ?_
              apply Exists.intro; refine ⟨fun w hB hF => ?_, ?_⟩
              · obtain ⟨c7, d7, kx0, ky0⟩ := HFA.out _ hB; go_simp; try exact rfl
              go_simp; refine hK _ _ ?_; clear hK K)
           | (refine Grow.step_off (by rfl) ?_
              go_simp; refine hK _ _ ?_; clear hK K)
           refine Grow.Wk.step (fun K hK => ?_); first
           | (refine Grow.step_read (by rfl) (by rfl) ext_refl ?_
              apply Exists.intro; refine ⟨fun w hB hF => ?_, ?_⟩
              · obtain ⟨c7, d7, kx0, ky0⟩ := HFA.out _ hB; go_simp; try exact rfl
              go_simp; refine hK _ _ ?_; clear hK K)
           | (refine Grow.step_off (by rfl) ?_
              go_simp; refine hK _ _ ?_; clear hK K)
           refine Grow.Wk.step (fun K hK => ?_); first
           | (refine Grow.step_read (by rfl) (by rfl) ext_refl ?_
              apply Exists.intro; refine ⟨fun w hB hF => ?_, ?_⟩
              · obtain ⟨c7, d7, kx0, ky0⟩ := HFA.out _ hB; go_simp; try exact rfl
              go_simp; refine hK _ _ ?_; clear hK K)
           | (refine Grow.step_off (by rfl) ?_
              go_simp; refine hK _ _ ?_; clear hK K)
           refine Grow.Wk.step (fun K hK => ?_); first
           | (refine Grow.step_read (by rfl) (by rfl) ext_refl ?_
              apply Exists.intro; refine ⟨fun w hB hF => ?_, ?_⟩
              · obtain ⟨c7, d7, kx0, ky0⟩ := HFA.out _ hB; go_simp; try exact rfl
              go_simp; refine hK _ _ ?_; clear hK K)
           | (refine Grow.step_off (by rfl) ?_
              go_simp; refine hK _ _ ?_; clear hK K)
           refine Grow.Wk.step (fun K hK => ?_); first
           | (refine Grow.step_read (by rfl) (by rfl) ext_refl ?_
              apply Exists.intro; refine ⟨fun w hB hF => ?_, ?_⟩
              · obtain ⟨x0, x1, x2, x3, x4, x5, x6, x7⟩ := HFX.out _ hB; go_simp; try exact rfl
              go_simp; refine hK _ _ ?_; clear hK K)
           | (refine Grow.step_off (by rfl) ?_
              go_simp; refine hK _ _ ?_; clear hK K)
           refine Grow.Wk.step (fun K hK => ?_); first
           | (refine Grow.step_read (by rfl) (by rfl) ext_refl ?_
              apply Exists.intro; refine ⟨fun w hB hF => ?_, ?_⟩
              · obtain ⟨c7, d7, kx0, ky0⟩ := HFA.out _ hB; go_simp; try exact rfl
              go_simp; refine hK _ _ ?_; clear hK K)
           | (refine Grow.step_off (by rfl) ?_
              go_simp; refine hK _ _ ?_; clear hK K)
           refine Grow.Wk.step (fun K hK => ?_); first
           | (refine Grow.step_read (by rfl) (by rfl) ext_refl ?_
              apply Exists.intro; refine ⟨fun w hB hF => ?_, ?_⟩
              · obtain ⟨c7, d7, kx0, ky0⟩ := HFA.out _ hB; go_simp; try exact rfl
              go_simp; refine hK _ _ ?_; clear hK K)
           | (refine Grow.step_off (by rfl) ?_
              go_simp; refine hK _ _ ?_; clear hK K)
           refine Grow.Wk.step (fun K hK => ?_); first
           | (refine Grow.step_read (by rfl) (by rfl) ext_refl ?_
              apply Exists.intro; refine ⟨fun w hB hF => ?_, ?_⟩
              · obtain ⟨c7, d7, kx0, ky0⟩ := HFA.out _ hB; go_simp; try exact rfl
              go_simp; refine hK _ _ ?_; clear hK K)
           | (refine Grow.step_off (by rfl) ?_
              go_simp; refine hK _ _ ?_; clear hK K)
           refine Grow.Wk.step (fun K hK => ?_); first
           | (refine Grow.step_read (by rfl) (by rfl) ext_refl ?_
              apply Exists.intro; refine ⟨fun w hB hF => ?_, ?_⟩
              · obtain ⟨c7, d7, kx0, ky0⟩ := HFA.out _ hB; go_simp; try exact rfl
              go_simp; refine hK _ _ ?_; clear hK K)
           | (refine Grow.step_off (by rfl) ?_
              go_simp; refine hK _ _ ?_; clear hK K)
           refine Grow.Wk.step (fun K hK => ?_); first
           | (refine Grow.step_read (by rfl) (by rfl) ext_refl ?_
              apply Exists.intro; refine ⟨fun w hB hF => ?_, ?_⟩
              · obtain ⟨c7, d7, kx0, ky0⟩ := HFA.out _ hB; go_simp; try exact rfl
              go_simp; refine hK _ _ ?_; clear hK K)
           | (refine Grow.step_off (by rfl) ?_
              go_simp; refine hK _ _ ?_; clear hK K)
           refine Grow.Wk.step (fun K hK => ?_); first
           | (refine Grow.step_read (by rfl) (by rfl) ext_refl ?_
              apply Exists.intro; refine ⟨fun w hB hF => ?_, ?_⟩
              · obtain ⟨y0, y1, y2, y3, y4, y5, y6, y7⟩ := HFY.out _ hB; go_simp; try exact rfl
              go_simp; refine hK _ _ ?_; clear hK K)
           | (refine Grow.step_off (by rfl) ?_
              go_simp; refine hK _ _ ?_; clear hK K)
           refine Grow.Wk.step (fun K hK => ?_); refine Grow.step_rel (by rfl) (by rfl) (fun w' hB hF => ?_) (fun v hv => ?_)
           · go_simp; refine Grow.relUpon_enter ((HIH.out w' hB).mono ?_); rintro e w'' ⟨rfl, hw''⟩; exact ⟨_, rfl, hw'', rfl, trivial⟩
           obtain rfl : v = _ := hv; go_simp; refine hK _ _ ?_; clear hK K; repeat
            (refine Grow.Wk.step (fun K hK => ?_)
             first
             | (refine Grow.step_read (by rfl) (by rfl) ext_refl ?_
                apply Exists.intro; refine ⟨fun w hB hF => ?_, ?_⟩
                · skip
                  go_simp; try exact rfl
                go_simp; refine hK _ _ ?_; clear hK K)
             | (refine Grow.step_off (by rfl) ?_
                go_simp; refine hK _ _ ?_; clear hK K))
           refine Grow.Wk.nil ?_; intro w4 hB hF; clear hF; cases bq with
           | false =>
             have HF : Hid (T = false) := Hd (by rw [HT3.out, HDR2.out]; rfl); have HEE := Hd (ext_trans HEr.out hB); clear hB; go_wp2_with fail; go_ret; exact ⟨ret_bool HF.out.symm, HEE.out⟩
           | true =>
             have HN : Hid (exactM m m' = exactM (m.drop (i + 1)) (m'.drop (i + 1))) := Hd (by rw [HDR2.out, Bool.true_and]); have HXX := Hd hB; clear hB; go_wp2_with fail; go_roundw
             case rel => exact ⟨i + 1, by go_num, by omega, ext_trans hEr0.out HXX.out, HN.out⟩
             case measure => simp [intOf]; omega
       · obtain rfl : i = m.length := by omega
         have HF : Hid (T = true) := Hd (by
          rw [HT3.out, HDR.out, List.drop_of_length_le (Nat.le_refl _), List.drop_of_length_le (by have := H6.out; omega), exactM])
         clear HDR hi hlt; go_wp2_with fail; go_ret; exact ⟨ret_bool HF.out.symm, HEr.out⟩
theorem exact_any (t u : Tree) (A A' : Nat → Prop) (c c' : Array Value) (w : World) (ht : TV w A t c) (hu : TV w A' u c') :
 Calls Tryz.prog 20 #[.agg c, .agg c'] w (fun e w' => e = .returned (.bool (exactT t u)) ∧ Ext w w') := by
 have h : ∀ N : Nat, ∀ (t u : Tree) (A A' : Nat → Prop) (c c' : Array Value) (w : World), SizeOf.sizeOf t < N → TV w A t c → TV w A' u c' →
  Calls Tryz.prog 20 #[.agg c, .agg c'] w (fun e w' => e = .returned (.bool (exactT t u)) ∧ Ext w w') := by
  intro N; induction N with
  | zero => intro t u A A' c c' w h; omega
  | succ N ih => exact exact_step N ih
 exact h _ t u A A' c c' w (Nat.lt_succ_self _) ht hu
end Go.Proofs.YtjapbjmeoaagmaaGreatDoor
end

section
set_option maxRecDepth 100000
namespace Orange
def Tree.ins (t : Tree) : List Tree := t.list ++ t.mems.map (·.2)
end Orange
namespace Go.Proofs.YtjapbjmeoaagmaaGreatDoor
open Go.RowKit Go.Mem Orange
theorem tv_rows {w : World} {A : Nat → Prop} {t : Tree} {k : Int} {b : Bool} {d : Num} {s : List UInt8} {vL vM : Value} (h : TV w A t (cellsV k b d s vL vM)) : ∃ cl cm, TL w A t.list cl ∧ RowAt w A 8 vL t.list.length cl ∧ TM w A t.mems cm ∧ RowAt w A 9 vM t.mems.length cm ∧ k = t.kind ∧ b = t.bit ∧ d.neg = t.num.neg ∧ d.digits = t.num.digits ∧ d.exp = t.num.exp ∧ s = t.str := by
 generalize hc : cellsV k b d s vL vM = c at h; cases h with
 | mk h1 h2 h3 h4 =>
   simp only [cellsV, Array.mk.injEq, List.cons.injEq, Value.int.injEq, Value.bool.injEq, Value.string.injEq, ByteArray.mk.injEq, and_true, true_and] at hc; obtain ⟨rfl, rfl, h5, h6, h7, h8, rfl, rfl⟩ := hc; exact ⟨_, _, h1, h2, h3, h4, rfl, rfl, h5, h6, h7, h8⟩
mutual
theorem TV.one {w : World} {A : Nat → Prop} : ∀ {t : Tree} {c : Array Value}, TV w A t c → ∀ u ∈ c.toList, u.oneCell' = true
 | _, _, .mk h1 h2 h3 h4 => by
   obtain ⟨_, a1, c1, rfl, _⟩ := h2; obtain ⟨_, a2, c2, rfl, _⟩ := h4; simp [cellsV, Value.oneCell']
theorem TL.one {w : World} {A : Nat → Prop} : ∀ {l : List Tree} {cs : List Value}, TL w A l cs → ∀ u ∈ cs, u.oneCell' = true
 | _, _, .nil => by simp
 | _, _, .cons h1 h2 => by
   intro u hu; rcases List.mem_append.1 hu with h | h
   · exact TV.one h1 u h
   · exact TL.one h2 u h
end
theorem RowAt.src {P : Program} {w : World} {A : Nat → Prop} {z n : Nat} {v : Value} {cs : List Value} (h : RowAt w A z v n cs) {tx e' : TypeId} (hk : P.underlying tx = some (.slice e')) (hz : 0 < z) (h1 : ∀ u ∈ cs, u.oneCell' = true) : Src P z tx v n cs w := by
 obtain ⟨h0, a, cap, rfl, h2, h3, h4⟩ := h; by_cases hn : 0 < n
 · obtain ⟨g, o, rfl, _, hlt, hc⟩ := h4 hn; refine Src.ofSlice w hk _ _ cap _ h0 (fun j u hu => ?_) h1; obtain ⟨hj, rfl⟩ := List.getElem?_eq_some_iff.1 hu; rw [show (⟨g, o, none⟩ : Addr).add j = ⟨g, o + j, none⟩ by simp only [Addr.add]; split <;> simp_all]; exact hc j hj
 · obtain rfl : n = 0 := by omega
   obtain rfl : cs = [] := List.eq_nil_of_length_eq_zero (by simpa using h0); cases a with
   | none => 
     have := Src.ofNil w (P := P) (size := z) hk cap; exact this
   | some a => exact Src.ofSlice w hk a 0 cap [] (by simp) (by simp) (by simp)
set_option maxHeartbeats 1600000 in
theorem clone_any (v : Value) (n : Nat) (cs : List Value) (A : Nat → Prop) (w : World) (h : RowAt w A 8 v n cs) (h1 : ∀ u ∈ cs, u.oneCell' = true) (hn : n ≤ 1000000) :
 Calls Tryz.prog 48 #[v] w (fun e w' => ∃ v', e = .returned v' ∧ w'.ownsRow w.heap.size 27 8 v' n cs ∧ Ext w w') := by
 have hq : ∀ (w : World) (a : Option Addr) (n c : Nat), (binOp .eql 24 (.slice a n c) (.slice none 0 0)).run Tryz.prog w = .ok (.bool a.isNone) w := fun w a n c => Lib.run_eql_slice_nil w _ _ a n c 0 0 Tryz.underlying24; obtain ⟨h0, a, cap, rfl, h2, h3, h4⟩ := id h; cases a with
 | none =>
   have hn0 : n = 0 := by
    rcases Nat.eq_zero_or_pos n with h' | h'
    · exact h'
    · obtain ⟨g, o, e, _⟩ := h4 h'; cases e
   subst hn0; obtain rfl : cs = [] := List.eq_nil_of_length_eq_zero (by simpa using h0); clear h h4 h0 h1; go_enter Tryz.func48, Tryz.ntmps48
   go_wp2_with fail; go_ret; exact ⟨_, rfl, World.ownsRow_nil _ _ _ _, ext_refl _⟩
 | some a =>
   have HR := Hd h; have HO := Hd h1; clear h h4 h0 h1; go_enter Tryz.func48, Tryz.ntmps48
   have hx : Ext w (w.alloc (.cells #[] 27)) := (ext_refl w).alloc (Nat.le_refl _) _; have hown : (w.alloc (.cells #[] 27)).ownsRow w.heap.size 27 8 (.slice (some ⟨w.heap.size, 0, none⟩) 0 0) 0 [] :=
    ⟨rfl, .inr ⟨w.heap.size, 0, #[], rfl, Nat.le_refl _, heap_alloc_new _ _, Nat.le_refl _, by simp only [maxLen]; omega, rfl, rfl⟩⟩
   have hsrc := (HR.out.keep (A' := fun _ => True) hx.size (fun g _ hlt => ⟨trivial, hx.block g hlt⟩)).src (P := Tryz.prog) (tx := 24) (e' := 27) (by kernel_rfl) (by decide) HO.out; go_wp2_with (first
    | (at_builtin; refine wpList_append_src _ rfl _ _ 24 24 rfl w.heap.size 27 _ _ 8 112 (by kernel_rfl) (by rfl) (by rfl) (by rfl) (by kernel_rfl) (by rfl) (by decide) _ 0 [] rfl hown _ n cs rfl hsrc (by simp only [maxLen]; omega) (by omega) hx.size ?_; intro v' w' ho' hg)
    | fail)
   go_ret; exact ⟨_, rfl, by simpa using ho', hx.trans (Below.ofGrown hg hown hx.size)⟩
def MAt (w : World) (q : Nat) (c : Array Value) : Prop := w.heap[q]? = some (.cells c 43 (0, 0))
theorem MAt.new (w : World) (c : Array Value) : MAt (w.alloc (.cells c 43)) w.heap.size c := heap_alloc_new _ _
theorem MAt.lt {w : World} {q : Nat} {c : Array Value} (h : MAt w q c) : q < w.heap.size := (Array.getElem?_eq_some_iff.1 h).1
theorem MAt.ext {w w' : World} {q : Nat} {c : Array Value} (h : MAt w q c) (hb : Ext w w') : MAt w' q c := by
 unfold MAt; rw [hb.block _ h.lt]; exact h
theorem MAt.cell {w : World} {q : Nat} {c : Array Value} (h : MAt w q c) (i : Nat) : w.cell? ⟨q, i, none⟩ = c[i]? := cell_of_cells h
theorem ownsRow_ext {w w' : World} {base : Nat} {e : TypeId} {z : Nat} {v : Value} {n : Nat} {cs : List Value} (h : w.ownsRow base e z v n cs) (hb : Ext w w') : w'.ownsRow base e z v n cs := by
 obtain ⟨h1, h2⟩ := h; refine ⟨h1, ?_⟩; rcases h2 with h2 | ⟨g, cap, cur, rfl, hbg, hg, r⟩
 · exact .inl h2
 · exact .inr ⟨g, cap, cur, rfl, hbg, by rw [hb.block g (Array.getElem?_eq_some_iff.1 hg).1]; exact hg, r⟩
set_option maxHeartbeats 6400000 in
theorem inside_any (t : Tree) (c : Array Value) (A : Nat → Prop) (w : World) (h : TV w A t c) (hn : t.list.length + t.mems.length ≤ 1000000) :
 Calls Tryz.prog 49 #[.agg c] w (fun e w' => ∃ v cs, e = .returned v ∧ w'.ownsRow w.heap.size 27 8 v t.ins.length cs ∧ TL w' A t.ins cs ∧ Ext w w') := by
 obtain ⟨k, b, d, s, la, ln, lc, ma, mn, mc, rfl⟩ := h.eight; obtain ⟨cl, cm, htl, hrl, htm, hrm, -⟩ := tv_rows h; obtain ⟨tk, tb, tn, ts, L, M⟩ := t; simp only [Tree.list, Tree.mems] at htl hrl htm hrm hn; have hins : (Tree.mk tk tb tn ts L M).ins = L ++ M.map (·.2) := rfl; rw [hins]; have hlen : (L ++ M.map (·.2)).length = L.length + M.length := by simp
 rw [hlen]; obtain ⟨_, a1, c1, ea, -⟩ := id hrl; simp only [Value.slice.injEq] at ea; obtain ⟨rfl, rfl, rfl⟩ := ea; obtain ⟨_, a2, c2, ea, hm1, hm2, -⟩ := id hrm; simp only [Value.slice.injEq] at ea; obtain ⟨rfl, rfl, rfl⟩ := ea; have hv := VAt.new w (cellsV k b d s (.slice la L.length lc) (.slice ma M.length mc))
 have hx : Ext w (w.alloc (.cells (cellsV k b d s (.slice la L.length lc) (.slice ma M.length mc)) 27)) := (ext_refl w).alloc (Nat.le_refl _) _; simp only [cellsV] at hv hx ⊢; clear hins hlen h; go_enter Tryz.func49, Tryz.ntmps49
 go_upto_region 1 with fail; generalize w.alloc (.cells #[.int .i64 k, .bool b, .bool d.neg, .string ⟨d.digits.toArray⟩, .int .i64 d.exp, .string ⟨s.toArray⟩, .slice la L.length lc, .slice ma M.length mc] 27) = w1 at *; obtain ⟨S, hS⟩ := Ex w.heap.size; have HTM := Hd (htm.keep (w' := w1) (A' := fun g => A g ∧ g < S) hx.size (fun g hg hlt => ⟨⟨hg, by omega⟩, hx.block g hlt⟩))
 have HRM := Hd (hrm.keep (w' := w1) (A' := fun g => A g ∧ g < S) hx.size (fun g hg hlt => ⟨⟨hg, by omega⟩, hx.block g hlt⟩)); have HTL := Hd (htl.keep (w' := w1) (A' := fun g => A g ∧ g < S) hx.size (fun g hg hlt => ⟨⟨hg, by omega⟩, hx.block g hlt⟩)); have HRL := Hd (hrl.keep (w' := w1) (A' := fun g => A g ∧ g < S) hx.size (fun g hg hlt => ⟨⟨hg, by omega⟩, hx.block g hlt⟩)); have HE := Hd hx
 rw [hS] at hv ⊢; have HV := Hd hv; have HS := Hd hS; clear htm hrm htl hrl hx hS; have c6 := HV.out.cell 6; have c7 := HV.out.cell 7; simp at c6 c7; clear hv; go_wp2_with fail; refine (clone_any _ L.length cl _ w1 HRL.out HTL.out.one (by omega)).mono ?_; rintro e w2 ⟨v2, rfl, hown2, hw2⟩; have hbase : S ≤ w1.heap.size := by rw [← HS.out]; exact HE.out.size
 have hown2' : w2.ownsRow S 27 8 v2 L.length cl := by
  obtain ⟨h1, h2⟩ := hown2; refine ⟨h1, ?_⟩; rcases h2 with h2 | ⟨g, cap, cur, e1, hbg, r⟩
  · exact .inl h2
  · exact .inr ⟨g, cap, cur, e1, Nat.le_trans hbase hbg, r⟩
 clear hown2 c6 c7; replace HV := Hd (HV.out.ext hw2); have c7 := HV.out.cell 7; simp at c7; go_wp2_with fail; clear c7; have hbel2 : Below S w1 w2 := hw2.mono hbase
 go_loopw [3, 12] (fun v iv wr => ∃ (i : Nat) (cs : List Value), iv = .int .i64 i ∧ i ≤ M.length ∧ wr.ownsRow S 27 8 v (L.length + i) cs ∧ TL wr (fun g => A g ∧ g < S) (L ++ (M.take i).map (·.2)) cs ∧ Below S w1 wr) (fun _ iv _ => 2000000 - (intOf iv).toNat)
 case atStart => exact ⟨0, cl, rfl, by omega, hown2', by simpa using HTL.out.keep (A' := fun g => A g ∧ g < S) hbel2.size (fun g hg hlt => ⟨hg, hbel2.block g hg.2⟩), hbel2⟩
 case round =>
  obtain ⟨i, cs, rfl, hi, hown, htl, hE⟩ := hrel; rename_i vo _
  have HO := Hd hown; have HT := Hd htl; have HX := Hd hE; clear hown htl hE; by_cases hlt : i < M.length
  · have hlti : (i : Int) < M.length := by omega
    have hi0 : (0 : Int) ≤ i := by omega
    obtain ⟨x, htx, hkx, hcx⟩ := HTM.out.at i hlt; obtain ⟨_, a', c', e', _, _, hrow⟩ := HRM.out; simp only [Value.slice.injEq] at e'; obtain ⟨rfl, -, rfl⟩ := e'; obtain ⟨g, o, rfl, hgS, hgl, hgc0⟩ := hrow (by omega); have hgc : ∀ j u, cm[j]? = some u → w1.cell? ⟨g, o + j, none⟩ = some u := fun j u hu => by
     obtain ⟨hj, rfl⟩ := List.getElem?_eq_some_iff.1 hu; exact hgc0 j hj
    obtain ⟨xk, xb, xd, xs, xa1, xn1, xc1, xa2, xn2, xc2, rfl⟩ := htx.eight; have h9 : wr.cell? ⟨g, o + i * 9, none⟩ = some (.string ⟨M[i].1.toArray⟩) ∧ ∀ j, j < 8 → wr.cell? ⟨g, o + i * 9 + (j + 1), none⟩ = (cellsV xk xb xd xs (.slice xa1 xn1 xc1) (.slice xa2 xn2 xc2))[j]? := by
     refine ⟨by rw [HX.out.cell (p := ⟨g, o + i * 9, none⟩) hgS.2]; exact hgc _ _ hkx, fun j hj => ?_⟩; rw [Nat.add_assoc, HX.out.cell (p := ⟨g, o + (i * 9 + (j + 1)), none⟩) hgS.2]; have h1 := hcx j hj; rw [show i * 9 + 1 + j = i * 9 + (j + 1) by omega] at h1
     have h2 : (cellsV xk xb xd xs (.slice xa1 xn1 xc1) (.slice xa2 xn2 xc2))[j]? = some (cellsV xk xb xd xs (.slice xa1 xn1 xc1) (.slice xa2 xn2 xc2))[j] := by simp [cellsV, hj]
     rw [h2]; exact hgc _ _ (h1.trans h2)
    obtain ⟨x0, hx8⟩ := h9; have x1 := hx8 0 (by omega); have x2 := hx8 1 (by omega); have x3 := hx8 2 (by omega); have x4 := hx8 3 (by omega); have x5 := hx8 4 (by omega); have x6 := hx8 5 (by omega); have x7 := hx8 6 (by omega); have x8 := hx8 7 (by omega); simp [cellsV] at x1 x2 x3 x4 x5 x6 x7 x8
    clear hx8 hcx hkx hgc hgc0 hgl hgS hrow; obtain ⟨ky, hky⟩ := Ex (M[i].1); rw [hky] at x0; have HTX := Hd (htx.keep (w' := wr) (A' := fun g => A g ∧ g < S) HX.out.size (fun g hg hlt => ⟨hg, HX.out.block g hg.2⟩)); clear htx hky
    have hm9 := MAt.new wr #[.string ⟨ky.toArray⟩, .int .i64 xk, .bool xb, .bool xd.neg, .string ⟨xd.digits.toArray⟩, .int .i64 xd.exp, .string ⟨xs.toArray⟩, .slice xa1 xn1 xc1, .slice xa2 xn2 xc2]
    have hx3 : Ext wr (wr.alloc (.cells #[.string ⟨ky.toArray⟩, .int .i64 xk, .bool xb, .bool xd.neg, .string ⟨xd.digits.toArray⟩, .int .i64 xd.exp, .string ⟨xs.toArray⟩, .slice xa1 xn1 xc1, .slice xa2 xn2 xc2] 43)) := (ext_refl wr).alloc (Nat.le_refl _) _; obtain ⟨P, hP⟩ := Ex wr.heap.size; rw [hP] at hm9; go_upto_region 5 with fail; clear x0 x1 x2 x3 x4 x5 x6 x7 x8 hP
    generalize wr.alloc (.cells #[.string ⟨ky.toArray⟩, .int .i64 xk, .bool xb, .bool xd.neg, .string ⟨xd.digits.toArray⟩, .int .i64 xd.exp, .string ⟨xs.toArray⟩, .slice xa1 xn1 xc1, .slice xa2 xn2 xc2] 43) = w3 at *; have x1 := hm9.cell 1; have x2 := hm9.cell 2; have x3 := hm9.cell 3; have x4 := hm9.cell 4; have x5 := hm9.cell 5; have x6 := hm9.cell 6; have x7 := hm9.cell 7; have x8 := hm9.cell 8
    simp at x1 x2 x3 x4 x5 x6 x7 x8; have hx4 : Ext w3 (w3.alloc (.cells #[.int .i64 xk, .bool xb, .bool xd.neg, .string ⟨xd.digits.toArray⟩, .int .i64 xd.exp, .string ⟨xs.toArray⟩, .slice xa1 xn1 xc1, .slice xa2 xn2 xc2] 27)) := (ext_refl w3).alloc (Nat.le_refl _) _; have hown4 := ownsRow_ext HO.out (ext_trans hx3 hx4); have hsS : S ≤ wr.heap.size := Nat.le_trans hbase HX.out.size
    have hs4 : S ≤ (w3.alloc (.cells #[.int .i64 xk, .bool xb, .bool xd.neg, .string ⟨xd.digits.toArray⟩, .int .i64 xd.exp, .string ⟨xs.toArray⟩, .slice xa1 xn1 xc1, .slice xa2 xn2 xc2] 27)).heap.size := Nat.le_trans hsS (ext_trans hx3 hx4).size
    have hsrc := src_one (P := Tryz.prog) (tx := 24) (e' := 27) (by kernel_rfl) (heap_alloc_new w3 (.cells #[.int .i64 xk, .bool xb, .bool xd.neg, .string ⟨xd.digits.toArray⟩, .int .i64 xd.exp, .string ⟨xs.toArray⟩, .slice xa1 xn1 xc1, .slice xa2 xn2 xc2] 27)) rfl (by simp [Value.oneCell']); have hE4 := (ext_trans hx3 hx4).mono hsS; go_wp2_with (first
     | (at_builtin; refine wpList_append_src _ rfl _ _ 24 24 rfl S 27 _ _ 8 112 (by kernel_rfl) (by rfl) (by rfl) (by rfl) (by kernel_rfl) (by rfl) (by decide) _ (L.length + i) cs rfl hown4 _ 1 _ rfl hsrc (by simp only [maxLen]; omega) (by omega) hs4 ?_; intro v' w' ho' hg; have hb5 := hE4.trans (Below.ofGrown hg hown4 hs4); clear x1 x2 x3 x4 x5 x6 x7 x8 hx3 hx4 hm9 hown4 hsrc hg)
     | fail)
    have e9 : IntKind.i64.wrap ((i : Int) + 1) = ((i + 1 : Nat) : Int) := by rw [IntWalk.i64_in _ (by omega)]; omega
    go_roundw
    case rel =>
     refine ⟨i + 1, _, by go_num, by omega, ho', ?_, HX.out.trans hb5⟩; have h1 := (HT.out.keep (A' := fun g => A g ∧ g < S) hb5.size (fun g hg hlt => ⟨hg, hb5.block g hg.2⟩)).append (HTX.out.keep (A' := fun g => A g ∧ g < S) hb5.size (fun g hg hlt => ⟨hg, hb5.block g hg.2⟩))
     rw [show L ++ (M.take (i + 1)).map (·.2) = (L ++ (M.take i).map (·.2)) ++ [M[i].2] by rw [List.take_add_one, List.getElem?_eq_getElem hlt]; simp only [Option.toList_some, List.map_append, List.map_cons, List.map_nil, List.append_assoc]]; exact h1
    case measure => simp [intOf]; omega
  · obtain rfl : i = M.length := by omega
    have hnlt : ¬ ((M.length : Int) < (M.length : Int)) := by omega
    go_wp2_with fail; go_ret; refine ⟨_, rfl, cs, by rw [HS.out]; exact HO.out, ?_, HE.out.trans (HX.out.mono (by rw [HS.out]; exact Nat.le_refl _))⟩; have h1 := HT.out.keep (A' := A) (Nat.le_refl _) (fun g hg hlt => ⟨hg.1, rfl⟩); rwa [List.take_length] at h1
end Go.Proofs.YtjapbjmeoaagmaaGreatDoor
end

section
set_option maxRecDepth 100000
namespace Orange
mutual
def countT : Tree → Nat
 | .mk _ _ _ _ l m => countL l + countM m + 1
def countL : List Tree → Nat
 | [] => 0
 | t :: l => countT t + countL l
def countM : List (List UInt8 × Tree) → Nat
 | [] => 0
 | (_, t) :: l => countT t + countM l
end
theorem countL_append : ∀ (l l' : List Tree), countL (l ++ l') = countL l + countL l'
 | [], l' => by rw [List.nil_append, countL]; omega
 | t :: l, l' => by rw [List.cons_append, countL, countL, countL_append l l']; omega
theorem countM_map : ∀ m : List (List UInt8 × Tree), countM m = countL (m.map (·.2))
 | [] => by rw [countM, List.map_nil, countL]
 | (k, t) :: m => by rw [countM, List.map_cons, countL, countM_map m]
theorem countT_ins (t : Tree) : countT t = countL t.ins + 1 := by
 cases t with
 | mk k b d s l m => rw [countT, countM_map]; show _ = countL (l ++ m.map (·.2)) + 1; rw [countL_append]
theorem countT_pos (t : Tree) : 1 ≤ countT t := by rw [countT_ins]; omega
theorem countL_len : ∀ l : List Tree, l.length ≤ countL l
 | [] => by simp
 | t :: l => by have := countL_len l; have := countT_pos t; rw [countL, List.length_cons]; omega
theorem countL_mem {l : List Tree} {i : Nat} (h : i < l.length) : countT l[i] ≤ countL l := by
 have := countL_append (l.take i) (l.drop i); rw [List.take_append_drop] at this; rw [this, List.drop_eq_getElem_cons h, countL]; omega
theorem countL_take (l : List Tree) (i : Nat) (h : i < l.length) : countL (l.take (i + 1)) = countL (l.take i) + countT l[i] := by
 rw [List.take_add_one, List.getElem?_eq_getElem h, Option.toList_some, countL_append, countL, countL]; omega
theorem countL_take_le (l : List Tree) (i : Nat) : countL (l.take i) ≤ countL l := by
 have := countL_append (l.take i) (l.drop i); rw [List.take_append_drop] at this; omega
theorem ins_size {t x : Tree} (h : x ∈ t.ins) : SizeOf.sizeOf x < SizeOf.sizeOf t := by
 cases t with
 | mk k b d s l m =>
   have h : x ∈ l ++ m.map (·.2) := h; rw [List.mem_append] at h; simp only [Tree.mk.sizeOf_spec]; rcases h with h | h
   · have := List.sizeOf_lt_of_mem h; omega
   · obtain ⟨p, hp, rfl⟩ := List.mem_map.1 h; have h1 := List.sizeOf_lt_of_mem hp; cases p
     simp only [Prod.mk.sizeOf_spec] at h1 ⊢; omega
theorem ins_len (t : Tree) : t.ins.length = t.list.length + t.mems.length := by simp [Tree.ins]
end Orange
namespace Go.Proofs.YtjapbjmeoaagmaaGreatDoor
open Go.RowKit Go.Mem Orange
theorem row_elem {w : World} {A : Nat → Prop} {a : Option Addr} {n m cap : Nat} {l : List Tree} {cs : List Value} (hr : RowAt w A 8 (.slice a m cap) n cs) (ht : TL w A l cs) (hl : n = l.length) (i : Nat) (hi : i < l.length) :
 ∃ g o k b d s a1 n1 c1 a2 n2 c2, a = some ⟨g, o, none⟩ ∧ TV w A l[i] (cellsV k b d s (.slice a1 n1 c1) (.slice a2 n2 c2)) ∧ ∀ w' : World, (∀ g, A g → g < w.heap.size → w'.heap[g]? = w.heap[g]?) →
   w'.cell? ⟨g, o + i * 8, none⟩ = some (.int .i64 k) ∧ w'.cell? ⟨g, o + i * 8 + 1, none⟩ = some (.bool b) ∧ w'.cell? ⟨g, o + i * 8 + 2, none⟩ = some (.bool d.neg) ∧ w'.cell? ⟨g, o + i * 8 + 3, none⟩ = some (.string ⟨d.digits.toArray⟩) ∧
   w'.cell? ⟨g, o + i * 8 + 4, none⟩ = some (.int .i64 d.exp) ∧ w'.cell? ⟨g, o + i * 8 + 5, none⟩ = some (.string ⟨s.toArray⟩) ∧ w'.cell? ⟨g, o + i * 8 + 6, none⟩ = some (.slice a1 n1 c1) ∧ w'.cell? ⟨g, o + i * 8 + 7, none⟩ = some (.slice a2 n2 c2) := by
 obtain ⟨c, h1, h2⟩ := ht.at i hi; obtain ⟨h0, a', c', e, _, _, hrow⟩ := hr; simp only [Value.slice.injEq] at e; obtain ⟨rfl, -, rfl⟩ := e; obtain ⟨g, o, rfl, hA, hg, hc0⟩ := hrow (by omega); obtain ⟨k, b, d, s, a1, n1, c1, a2, n2, c2, rfl⟩ := h1.eight
 have key : ∀ w' : World, (∀ g, A g → g < w.heap.size → w'.heap[g]? = w.heap[g]?) → ∀ j, j < 8 → ∀ u, (cellsV k b d s (.slice a1 n1 c1) (.slice a2 n2 c2))[j]? = some u → w'.cell? ⟨g, o + (i * 8 + j), none⟩ = some u := fun w' hw j hj u hu => by
  rw [World.cell?_of_block (w := w) (a := ⟨g, o + (i * 8 + j), none⟩) (hw g hA hg)]; obtain ⟨hj2, e2⟩ := List.getElem?_eq_some_iff.1 ((h2 j hj).trans hu); rw [← e2]; exact hc0 _ hj2
 refine ⟨g, o, k, b, d, s, a1, n1, c1, a2, n2, c2, rfl, h1, fun w' hw => ?_⟩; simp only [Nat.add_assoc]; exact ⟨key w' hw 0 (by omega) _ rfl, key w' hw 1 (by omega) _ rfl, key w' hw 2 (by omega) _ rfl, key w' hw 3 (by omega) _ rfl, key w' hw 4 (by omega) _ rfl, key w' hw 5 (by omega) _ rfl, key w' hw 6 (by omega) _ rfl, key w' hw 7 (by omega) _ rfl⟩
theorem ownsRow_shape {w : World} {base : Nat} {e : TypeId} {z : Nat} {v : Value} {n : Nat} {cs : List Value} (h : w.ownsRow base e z v n cs) : ∃ a c, v = .slice a n c := by
 rcases h.2 with ⟨rfl, h0⟩ | ⟨g, cap, cur, rfl, _⟩
 · exact ⟨_, _, by rw [h0]⟩
 · exact ⟨_, _, rfl⟩
end Go.Proofs.YtjapbjmeoaagmaaGreatDoor
end

section
set_option maxRecDepth 100000
namespace Go.Proofs.YtjapbjmeoaagmaaGreatDoor
open Go.RowKit Go.Mem
theorem own8_shape {w : World} {base : Nat} {e : TypeId} {v : Value} {l : List UInt8} (h : OwnB w base e v l) : ∃ a c, v = .slice a l.length c := by
 rcases h.2 with ⟨rfl, h0⟩ | ⟨g, cap, cur, rfl, _⟩
 · rw [h0]; exact ⟨_, _, rfl⟩
 · exact ⟨_, _, rfl⟩
end Go.Proofs.YtjapbjmeoaagmaaGreatDoor
end

section
set_option maxRecDepth 100000
namespace Orange
def fIdx {α : Type} (p : α → Bool) (l : List α) : Int := match l.findIdx? p with | some i => i | none => -1
theorem fIdx_hit {α : Type} {p : α → Bool} {l : List α} {i : Nat} (hi : i < l.length) (h1 : ∀ j (hj : j < i), p (l[j]'(by omega)) = false) (h2 : p l[i] = true) : fIdx p l = i := by
 unfold fIdx; have : l.findIdx? p = some i := by
  rw [List.findIdx?_eq_some_iff_getElem]; exact ⟨hi, h2, fun j hj => by simpa using h1 j hj⟩
 rw [this]
theorem fIdx_none {α : Type} {p : α → Bool} {l : List α} (h : ∀ j (hj : j < l.length), p l[j] = false) : fIdx p l = -1 := by
 unfold fIdx; have : l.findIdx? p = none := by
  rw [List.findIdx?_eq_none_iff]; intro x hx; obtain ⟨j, hj, rfl⟩ := List.mem_iff_getElem.1 hx; exact h j hj
 rw [this]
theorem fIdx_any {α : Type} (p : α → Bool) (l : List α) : decide (fIdx p l ≥ 0) = l.any p := by
 unfold fIdx; cases h : l.findIdx? p with
 | none =>
   rw [List.findIdx?_eq_none_iff] at h; have : l.any p = false := by rw [List.any_eq_false]; intro x hx; simp [h x hx]
   rw [this]; decide
 | some i =>
   rw [List.findIdx?_eq_some_iff_getElem] at h; obtain ⟨hi, h2, _⟩ := h; have : l.any p = true := List.any_eq_true.2 ⟨_, List.getElem_mem hi, h2⟩; rw [this]; simp
mutual
def weightT : Tree → Nat
 | .mk _ _ d s l m => 1 + s.length + d.digits.length + weightL l + weightM m
def weightL : List Tree → Nat
 | [] => 0
 | t :: l => weightT t + weightL l
def weightM : List (List UInt8 × Tree) → Nat
 | [] => 0
 | (k, t) :: l => k.length + weightT t + weightM l
end
mutual
theorem count_weight : ∀ t : Tree, countT t ≤ weightT t
 | .mk k b d s l m => by rw [countT, weightT]; have := countL_weight l; have := countM_weight m; omega
theorem countL_weight : ∀ l : List Tree, countL l ≤ weightL l
 | [] => by rw [countL, weightL]; omega
 | t :: l => by rw [countL, weightL]; have := count_weight t; have := countL_weight l; omega
theorem countM_weight : ∀ l : List (List UInt8 × Tree), countM l ≤ weightM l
 | [] => by rw [countM, weightM]; omega
 | (_, t) :: l => by rw [countM, weightM]; have := count_weight t; have := countM_weight l; omega
end
theorem weightM_mem {l : List (List UInt8 × Tree)} {i : Nat} (h : i < l.length) : l[i].1.length ≤ weightM l ∧ weightT l[i].2 ≤ weightM l := by
 have : ∀ (l : List (List UInt8 × Tree)) (p : List UInt8 × Tree), p ∈ l → p.1.length ≤ weightM l ∧ weightT p.2 ≤ weightM l := by
  intro l; induction l with
  | nil => intro p hp; cases hp
  | cons a l ih =>
    intro p hp; obtain ⟨k, t⟩ := a; rw [weightM]; rcases List.mem_cons.1 hp with rfl | hp
    · exact ⟨by simp; omega, by simp; omega⟩
    · have := ih p hp; omega
 exact this l _ (List.getElem_mem h)
theorem weightL_mem {l : List Tree} {i : Nat} (h : i < l.length) : weightT l[i] ≤ weightL l := by
 have : ∀ (l : List Tree) (p : Tree), p ∈ l → weightT p ≤ weightL l := by
  intro l; induction l with
  | nil => intro p hp; cases hp
  | cons a l ih =>
    intro p hp; rw [weightL]; rcases List.mem_cons.1 hp with rfl | hp
    · omega
    · have := ih p hp; omega
 exact this l _ (List.getElem_mem h)
theorem weight_ins {t : Tree} {i : Nat} (h : i < t.ins.length) : weightT t.ins[i] ≤ weightT t := by
 cases t with
 | mk k b d s l m =>
   have hm : (Tree.mk k b d s l m).ins[i] ∈ l ++ m.map (·.2) := List.getElem_mem h; generalize (Tree.mk k b d s l m).ins[i] = x at hm; rw [weightT]; rcases List.mem_append.1 hm with hm | hm
   · obtain ⟨j, hj, rfl⟩ := List.mem_iff_getElem.1 hm; have := weightL_mem hj; omega
   · obtain ⟨p, hp, rfl⟩ := List.mem_map.1 hm; obtain ⟨j, hj, rfl⟩ := List.mem_iff_getElem.1 hp; have := weightM_mem hj; omega
theorem countM_len (l : List (List UInt8 × Tree)) : l.length ≤ countM l := by
 rw [countM_map]; have := countL_len (l.map (·.2)); simpa using this
end Orange
namespace Go.Proofs.YtjapbjmeoaagmaaGreatDoor
open Go.RowKit Go.Mem Orange
theorem mem_elem {w : World} {A : Nat → Prop} {a : Option Addr} {n m cap : Nat} {l : List (List UInt8 × Tree)} {cs : List Value} (hr : RowAt w A 9 (.slice a m cap) n cs) (ht : TM w A l cs) (hl : n = l.length) (i : Nat) (hi : i < l.length) :
 ∃ g o k b d s a1 n1 c1 a2 n2 c2, a = some ⟨g, o, none⟩ ∧ TV w A l[i].2 (cellsV k b d s (.slice a1 n1 c1) (.slice a2 n2 c2)) ∧ ∀ w' : World, (∀ g, A g → g < w.heap.size → w'.heap[g]? = w.heap[g]?) →
   w'.cell? ⟨g, o + i * 9, none⟩ = some (.string ⟨l[i].1.toArray⟩) ∧ w'.cell? ⟨g, o + i * 9 + 1, none⟩ = some (.int .i64 k) ∧ w'.cell? ⟨g, o + i * 9 + 2, none⟩ = some (.bool b) ∧ w'.cell? ⟨g, o + i * 9 + 3, none⟩ = some (.bool d.neg) ∧ w'.cell? ⟨g, o + i * 9 + 4, none⟩ = some (.string ⟨d.digits.toArray⟩) ∧
   w'.cell? ⟨g, o + i * 9 + 5, none⟩ = some (.int .i64 d.exp) ∧ w'.cell? ⟨g, o + i * 9 + 6, none⟩ = some (.string ⟨s.toArray⟩) ∧ w'.cell? ⟨g, o + i * 9 + 7, none⟩ = some (.slice a1 n1 c1) ∧ w'.cell? ⟨g, o + i * 9 + 8, none⟩ = some (.slice a2 n2 c2) := by
 obtain ⟨c, h1, hk, h2⟩ := ht.at i hi; obtain ⟨h0, a', c', e, _, _, hrow⟩ := hr; simp only [Value.slice.injEq] at e; obtain ⟨rfl, -, rfl⟩ := e; obtain ⟨g, o, rfl, hA, hg, hc0⟩ := hrow (by omega); have hc : ∀ j u, cs[j]? = some u → w.cell? ⟨g, o + j, none⟩ = some u := fun j u hu => by
  obtain ⟨hj, rfl⟩ := List.getElem?_eq_some_iff.1 hu; exact hc0 j hj
 obtain ⟨k, b, d, s, a1, n1, c1, a2, n2, c2, rfl⟩ := h1.eight; have key : ∀ w' : World, (∀ g, A g → g < w.heap.size → w'.heap[g]? = w.heap[g]?) → ∀ j, j < 8 → ∀ u, (cellsV k b d s (.slice a1 n1 c1) (.slice a2 n2 c2))[j]? = some u → w'.cell? ⟨g, o + (i * 9 + (1 + j)), none⟩ = some u := fun w' hw j hj u hu => by
  rw [World.cell?_of_block (w := w) (a := ⟨g, o + (i * 9 + (1 + j)), none⟩) (hw g hA hg), show i * 9 + (1 + j) = i * 9 + 1 + j by omega]; exact hc _ _ ((h2 j hj).trans hu)
 refine ⟨g, o, k, b, d, s, a1, n1, c1, a2, n2, c2, rfl, h1, fun w' hw => ?_⟩; simp only [Nat.add_assoc]
 exact ⟨by rw [World.cell?_of_block (w := w) (a := ⟨g, o + i * 9, none⟩) (hw g hA hg)]; exact hc _ _ hk, key w' hw 0 (by omega) _ rfl, key w' hw 1 (by omega) _ rfl, key w' hw 2 (by omega) _ rfl, key w' hw 3 (by omega) _ rfl, key w' hw 4 (by omega) _ rfl, key w' hw 5 (by omega) _ rfl, key w' hw 6 (by omega) _ rfl, key w' hw 7 (by omega) _ rfl⟩
set_option maxHeartbeats 1600000 in
theorem keybad_any (k : List UInt8) (x1 x2 x3 x4 x5 x6 x7 x8 : Value) (w : World) (hk : k.length ≤ 1000000) :
 Calls Tryz.prog 103 #[.agg #[.string ⟨k.toArray⟩, x1, x2, x3, x4, x5, x6, x7, x8]] w (fun e w' => e = .returned (.bool (decide (0 ≤ check k))) ∧ Ext w w') := by
 have hm := MAt.new w #[.string ⟨k.toArray⟩, x1, x2, x3, x4, x5, x6, x7, x8]; have hx : Ext w (w.alloc (.cells #[.string ⟨k.toArray⟩, x1, x2, x3, x4, x5, x6, x7, x8] 43)) := (ext_refl w).alloc (Nat.le_refl _) _; obtain ⟨K, hK⟩ := Ex (check k); rw [hK]; have HK := Hd hK; clear hK; go_enter Tryz.func103, Tryz.ntmps103
 go_upto_region 1 with fail; generalize w.alloc (.cells #[.string ⟨k.toArray⟩, x1, x2, x3, x4, x5, x6, x7, x8] 43) = w1 at *; have x0 := hm.cell 0; simp at x0; have hs : (ByteArray.mk k.toArray).size ≤ 140737488355328 := by show k.toArray.size ≤ _; simp; omega
 have hsz : (ByteArray.mk k.toArray).size = k.length := by show k.toArray.size = _; simp
 obtain ⟨S, hS⟩ := Ex w.heap.size; rw [hS] at x0 ⊢; clear hm hS; have HSZ := Hd hsz; clear hsz; go_wp2_with (first
  | (refine wpList_bytes_of_string w1 rfl 9 56 5 _ rfl ⟨k.toArray⟩ rfl Tryz.underlying9 Tryz.underlying56 Tryz.underlying5 hs ?_; intro capA wA hEA hcapA hcmA hszA hatA; rw [HSZ.out] at hcapA)
  | fail)
 refine (check_any _ k _ (Bytes.mk hatA (by first | rfl | exact HSZ.out) (by simpa using hcapA) hcmA (by omega))).mono ?_; rintro e w3 ⟨rfl, hw3⟩; rw [HK.out]; have HE := Hd (ext_trans hx (ext_trans hEA hw3)); clear hx hEA hw3 hatA x0; go_wp2_with fail; go_ret; exact ⟨ret_bool (by first | rfl | (congr 1; done) | simp), HE.out⟩
def badKey (p : List UInt8 × Tree) : Bool := decide (0 ≤ check p.1)
set_option maxHeartbeats 1600000 in
theorem index_bad (v : Value) (m : List (List UInt8 × Tree)) (cs : List Value) (A : Nat → Prop) (w : World) (hr : RowAt w A 9 v m.length cs) (ht : TM w A m cs) (hm : m.length ≤ 1000000) (hk : ∀ p ∈ m, p.1.length ≤ 1000000) :
 Calls Tryz.prog 82 #[v, .func (.func 103) #[] #[]] w (fun e w' => e = .returned (.int .i64 (fIdx badKey m)) ∧ Ext w w') := by
 obtain ⟨_, a, cap, rfl, hcap, hcm, -⟩ := id hr; have HR := Hd hr; have HT := Hd ht; have HK := Hd hk; clear hr ht hk; obtain ⟨R, hR⟩ := Ex (fIdx badKey m); rw [hR]; have HRR := Hd hR; clear hR; go_enter Tryz.func82, Tryz.ntmps82
 go_wp2_with fail; go_loopw [8] (fun iv wr => ∃ i : Nat, iv = .int .i64 i ∧ i ≤ m.length ∧ (∀ j (hj : j < m.length), j < i → badKey m[j] = false) ∧ Ext w wr) (fun iv _ => 2000000 - (intOf iv).toNat)
 case atStart => exact ⟨0, rfl, by omega, fun j _ h => by omega, ext_refl _⟩
 case round =>
  obtain ⟨i, rfl, hi, hall, hE⟩ := hrel; have HA := Hd hall; have HX := Hd hE; clear hall hE; by_cases hlt : i < m.length
  · have hlti : (i : Int) < m.length := by omega
    have hi0 : (0 : Int) ≤ i := by omega
    obtain ⟨g, o, xk, xb, xd, xs, xa1, xn1, xc1, xa2, xn2, xc2, rfl, htx, hcell⟩ := mem_elem HR.out HT.out rfl i hlt; obtain ⟨x0, x1, x2, x3, x4, x5, x6, x7, x8⟩ := hcell wr (fun g _ hg => HX.out.block g hg); have HKI := Hd (HK.out m[i] (List.getElem_mem hlt)); have HHIT : Hid (badKey m[i] = true → R = i) := Hd (fun h => by rw [← HRR.out]; exact fIdx_hit hlt (fun j hj => HA.out j (by omega) hj) h)
    have HMISS : Hid (badKey m[i] = false → ∀ j (hj : j < m.length), j < i + 1 → badKey m[j] = false) := Hd (fun h j hj hji => by
     by_cases e : j = i
     · subst e; exact h
     · exact HA.out j hj (by omega))
    obtain ⟨B, hB⟩ := Ex (badKey m[i]); rw [hB] at HHIT HMISS; have HB := Hd hB; obtain ⟨ky, hky⟩ := Ex (m[i].1); rw [hky] at x0 HKI; have HKY := Hd hky; clear htx hcell hB hky; have e9 : IntKind.i64.wrap ((i : Int) + 1) = ((i + 1 : Nat) : Int) := by rw [IntWalk.i64_in _ (by omega)]; omega
    go_wp2_with fail; refine (keybad_any ky _ _ _ _ _ _ _ _ wr HKI.out).mono ?_; rintro e w4 ⟨rfl, hw4⟩; rw [show decide (0 ≤ check ky) = B from by rw [← HB.out, ← HKY.out]; rfl]; have HE4 := Hd (ext_trans HX.out hw4); clear hw4 x0 x1 x2 x3 x4 x5 x6 x7 x8; cases B with
    | true =>
      go_wp2_with fail; go_ret; exact ⟨ret_int (HHIT.out (by first | rfl | trivial)).symm, HE4.out⟩
    | false =>
      go_wp2_with fail; go_roundw
      case rel => exact ⟨i + 1, by go_num, by omega, HMISS.out (by first | rfl | trivial), HE4.out⟩
      case measure => simp [intOf]; omega
  · obtain rfl : i = m.length := by omega
    have hnlt : ¬ ((m.length : Int) < (m.length : Int)) := by omega
    have HF : Hid (R = -1) := Hd (by rw [← HRR.out]; exact fIdx_none (fun j hj => HA.out j hj hj)); go_wp2_with fail; go_ret; exact ⟨ret_int HF.out.symm, HX.out⟩
set_option maxHeartbeats 1600000 in
theorem contains_bad (v : Value) (m : List (List UInt8 × Tree)) (cs : List Value) (A : Nat → Prop) (w : World) (hr : RowAt w A 9 v m.length cs) (ht : TM w A m cs) (hm : m.length ≤ 1000000) (hk : ∀ p ∈ m, p.1.length ≤ 1000000) :
 Calls Tryz.prog 102 #[v, .func (.func 103) #[] #[]] w (fun e w' => e = .returned (.bool (m.any badKey)) ∧ Ext w w') := by
 have hany := fIdx_any badKey m; have HC := Hd (index_bad v m cs A w hr ht hm hk); obtain ⟨_, a, cap, rfl, hcap, hcm, -⟩ := id hr; obtain ⟨R, hR⟩ := Ex (fIdx badKey m); obtain ⟨B, hB⟩ := Ex (m.any badKey); have hc := HC.out; rw [hR] at hany hc; rw [hB] at hany ⊢; replace HC := Hd hc; have HANY := Hd hany; clear hr ht hk hc hR hB hany; go_enter Tryz.func102, Tryz.ntmps102
 go_wp2_with fail; refine (HC.out).mono ?_; rintro e w2 ⟨rfl, hw2⟩; go_wp2_with fail; go_ret; exact ⟨ret_bool (by rw [← HANY.out]), hw2⟩
def twiceP : List (List UInt8) → List (List UInt8) → Bool
 | _, [] => false
 | met, k :: l => met.contains k || twiceP (k :: met) l
set_option maxHeartbeats 6400000 in
theorem twice_any (v : Value) (m : List (List UInt8 × Tree)) (cs : List Value) (A : Nat → Prop) (w : World) (hr : RowAt w A 9 v m.length cs) (ht : TM w A m cs) (hm : m.length ≤ 1000000) (hk : ∀ p ∈ m, p.1.length ≤ 1000000) :
 Calls Tryz.prog 81 #[v] w (fun e w' => e = .returned (.bool (twiceP [] (m.map (·.1)))) ∧ Ext w w') := by
 obtain ⟨_, a, cap, rfl, hcap, hcm, -⟩ := id hr; have hmm := @run_makeMap Tryz.prog; have hx : Ext w (w.alloc (.map #[] 0)) := (ext_refl w).alloc (Nat.le_refl _) _; obtain ⟨S, hS⟩ := Ex w.heap.size; have HS := Hd hS; have HR := Hd (hr.keep (w' := w.alloc (.map #[] 0)) (A' := fun g => g < S) hx.size (fun g _ hlt => ⟨by omega, hx.block g hlt⟩))
 have HT := Hd (ht.keep (w' := w.alloc (.map #[] 0)) (A' := fun g => g < S) hx.size (fun g _ hlt => ⟨by omega, hx.block g hlt⟩)); have HK := Hd hk; clear hr ht hk hS; obtain ⟨R, hR⟩ := Ex (twiceP [] (m.map (·.1))); rw [hR]; have HRR := Hd hR; clear hR; have hs0 := SetAt.new w; rw [HS.out] at hs0; go_enter Tryz.func81, Tryz.ntmps81
 go_upto_region 2 with fail; rw [HS.out]; generalize w.alloc (.map #[] 0) = w1 at *; have HSA := Hd hs0; have HE := Hd hx; clear hs0 hx hmm; go_wp2_with fail; go_loopw [9] (fun iv wr => ∃ (i : Nat) (ks : List (List UInt8)), iv = .int .i64 i ∧ i ≤ m.length ∧ ks.length ≤ i ∧ SetAt wr S ks ∧ twiceP ks ((m.drop i).map (·.1)) = R ∧ Below S w1 wr) (fun iv _ => 2000000 - (intOf iv).toNat)
 case atStart => exact ⟨0, [], rfl, by omega, by simp, HSA.out, by rw [List.drop_zero]; exact HRR.out, Below.refl _ _⟩
 case round =>
  obtain ⟨i, ks, rfl, hi, hkl, hset, htw, hE⟩ := hrel; have HX := Hd hE; have HSE := Hd hset; have HTW := Hd htw; clear hE hset htw; by_cases hlt : i < m.length
  · have hlti : (i : Int) < m.length := by omega
    have hi0 : (0 : Int) ≤ i := by omega
    obtain ⟨g, o, xk, xb, xd, xs, xa1, xn1, xc1, xa2, xn2, xc2, rfl, htx, hcell⟩ := mem_elem HR.out HT.out rfl i hlt; obtain ⟨x0, x1, x2, x3, x4, x5, x6, x7, x8⟩ := hcell wr (fun g hg _ => HX.out.block g hg); have hki := HK.out m[i] (List.getElem_mem hlt); have htw := HTW.out; rw [List.drop_eq_getElem_cons hlt, List.map_cons, twiceP] at htw; obtain ⟨ky, hky⟩ := Ex (m[i].1); rw [hky] at x0 hki htw
    replace HTW := Hd htw; clear htx hcell hky htw; have hm9 := MAt.new wr #[.string ⟨ky.toArray⟩, .int .i64 xk, .bool xb, .bool xd.neg, .string ⟨xd.digits.toArray⟩, .int .i64 xd.exp, .string ⟨xs.toArray⟩, .slice xa1 xn1 xc1, .slice xa2 xn2 xc2]
    have hx3 : Ext wr (wr.alloc (.cells #[.string ⟨ky.toArray⟩, .int .i64 xk, .bool xb, .bool xd.neg, .string ⟨xd.digits.toArray⟩, .int .i64 xd.exp, .string ⟨xs.toArray⟩, .slice xa1 xn1 xc1, .slice xa2 xn2 xc2] 43)) := (ext_refl wr).alloc (Nat.le_refl _) _; obtain ⟨P, hP⟩ := Ex wr.heap.size; have hSP : S < P := by rw [← hP]; exact HSE.out.lt
    rw [hP] at hm9; go_upto_region 5 with fail; clear x0 x1 x2 x3 x4 x5 x6 x7 x8 hP; generalize wr.alloc (.cells #[.string ⟨ky.toArray⟩, .int .i64 xk, .bool xb, .bool xd.neg, .string ⟨xd.digits.toArray⟩, .int .i64 xd.exp, .string ⟨xs.toArray⟩, .slice xa1 xn1 xc1, .slice xa2 xn2 xc2] 43) = w3 at *; have hs3 := HSE.out.same (w' := w3) (hx3.block _ HSE.out.lt); have x0 := hm9.cell 0; simp at x0
    have hkm : ky.length ≤ maxLen := by simp only [maxLen]; omega
    have hlk := hs3.look ky hkm; have hb3 : Below S w1 w3 := HX.out.trans (hx3.mono (by have := HSE.out.lt; omega)); by_cases hc : ks.contains ky = true
    · rw [hc] at hlk; have HF : Hid (R = true) := Hd (by rw [← HTW.out, hc]; rfl); have HB3 := Hd hb3; clear hb3 hx3 hm9 hs3; go_wp2_with fail; go_ret; exact ⟨ret_bool HF.out.symm, HE.out.trans (HB3.out.mono (by rw [HS.out]; exact Nat.le_refl _))⟩
    · have hcf : ks.contains ky = false := by simpa using hc
      rw [hcf] at hlk; obtain ⟨w4, hup, hs4, hg4⟩ := hs3.put ky hkm (by simp only [maxLen]; omega); have HF : Hid (twiceP (ky :: ks) ((m.drop (i + 1)).map (·.1)) = R) := Hd (by rw [← HTW.out, hcf, Bool.false_or]); have hb4 : Below S w3 w4 := ⟨hg4.1, hg4.2, hg4.3, hg4.4, fun k hk => hg4.5 k (Nat.lt_of_lt_of_le hk (by have := hs3.lt; omega)) (by simp; omega)⟩
      have HB4 := Hd (hb3.trans hb4); have HS4 := Hd hs4; have e9 : IntKind.i64.wrap ((i : Int) + 1) = ((i + 1 : Nat) : Int) := by rw [IntWalk.i64_in _ (by omega)]; omega
      clear hc hb4 hb3 hx3 hm9 hs3 hs4 hg4; go_wp2_with fail; go_roundw
      case rel => exact ⟨i + 1, ky :: ks, by go_num, by omega, by simp; omega, HS4.out, HF.out, HB4.out⟩
      case measure => simp [intOf]; omega
  · obtain rfl : i = m.length := by omega
    have hnlt : ¬ ((m.length : Int) < (m.length : Int)) := by omega
    have HF : Hid (R = false) := Hd (by rw [← HTW.out, List.drop_length]; rfl); go_wp2_with fail; go_ret; exact ⟨ret_bool HF.out.symm, HE.out.trans (HX.out.mono (by rw [HS.out]; exact Nat.le_refl _))⟩
def fieldsT (t : Tree) : Bool :=
 match t with
 | .mk k b d s l m =>
   (if k = 0 then true else if k = 1 then true else if k = 2 then sane d else if k = 3 then decide (check s < 0) else if k = 4 then true else if k = 5 then !(m.any badKey) else false) &&
   (decide (k = 1) || !b) && (decide (k = 2) || decide (d = Num.zero)) && (decide (k = 3) || s.isEmpty) && ((decide (k = 4) || l.isEmpty) && (decide (k = 5) || m.isEmpty))
theorem eql_num (a b : Num) (w : World) : (binOp .eql 23 (.agg #[.bool a.neg, .string ⟨a.digits.toArray⟩, .int .i64 a.exp]) (.agg #[.bool b.neg, .string ⟨b.digits.toArray⟩, .int .i64 b.exp])).run Tryz.prog w = .ok (.bool (decide (a = b))) w := by
 obtain ⟨a3, a4, a5⟩ := a; obtain ⟨b3, b4, b5⟩ := b; simp only [Num.mk.injEq]; by_cases h3 : a3 = b3
 · by_cases h4 : a4 = b4
   · by_cases h5 : a5 = b5
     · subst h3; subst h4; subst h5; go_simp
     · have q5 : (a5 == b5) = false := by simpa using h5
       subst h3; subst h4; go_simp
   · have q4 : (a4 == b4) = false := by simpa using h4
     subst h3; go_simp
 · have q3 : (a3 == b3) = false := by simpa using h3
   go_simp
theorem VAt.set1 {w : World} {q : Nat} {c : Array Value} (h : VAt w q c) (i : Nat) (u : Value) : VAt (w.setCell ⟨q, i, none⟩ u) q (c.setIfInBounds i u) := setCell_heap_self h
theorem VAt.oth {w : World} {q p i : Nat} {u : Value} {c : Array Value} (h : VAt w q c) (hq : q ≠ p) : VAt (w.setCell ⟨p, i, none⟩ u) q c := by
 unfold VAt; rw [Below.heap_setCell _ _ _ _ hq]; exact h
set_option maxHeartbeats 6400000 in
theorem fields_any (t : Tree) (c : Array Value) (A : Nat → Prop) (w : World) (h : TV w A t c) (hw : weightT t ≤ 1000000) :
 Calls Tryz.prog 80 #[.agg c] w (fun e w' => e = .returned (.bool (fieldsT t)) ∧ Ext w w') := by
 obtain ⟨k, b, d, s, la, ln, lc, ma, mn, mc, rfl⟩ := h.eight; obtain ⟨cl, cm, -, hrl, htm, hrm, hk, hb, hd1, hd2, hd3, hs⟩ := tv_rows h; obtain ⟨tk, tb, tn, ts, L, M⟩ := t; obtain ⟨tn1, tn2, tn3⟩ := tn; obtain ⟨dn1, dn2, dn3⟩ := d; simp only [Tree.kind, Tree.bit, Tree.num, Tree.str, Tree.list, Tree.mems] at hk hb hd1 hd2 hd3 hs hrl htm hrm; subst hk hb hd1 hd2 hd3 hs
 obtain ⟨_, a1, c1, ea, -⟩ := id hrl; simp only [Value.slice.injEq] at ea; obtain ⟨rfl, rfl, rfl⟩ := ea; obtain ⟨_, a2, c2, ea, -⟩ := id hrm; simp only [Value.slice.injEq] at ea; obtain ⟨rfl, rfl, rfl⟩ := ea; rw [weightT] at hw; have hcm := countM_len M; have hcw := countM_weight M; have hlw := countL_weight L; have hll := countL_len L; have hMl : M.length ≤ 1000000 := by omega
 have hLl : L.length ≤ 1000000 := by omega
 have hsl : s.length ≤ 1000000 := by omega
 have hdl : dn2.length ≤ 1000000 := by simp at hw; omega
 have HKS : Hid (∀ p ∈ M, p.1.length ≤ 1000000) := Hd (fun p hp => by obtain ⟨j, hj, rfl⟩ := List.mem_iff_getElem.1 hp; have := weightM_mem hj; omega); clear hw hcm hcw hlw hll h; obtain ⟨R, hR⟩ := Ex (fieldsT (.mk k b ⟨dn1, dn2, dn3⟩ s L M)); rw [hR]; rw [fieldsT] at hR; have HRR := Hd hR; clear hR; have hq := fun (w : World) => eql_num ⟨dn1, dn2, dn3⟩ Num.zero w
 obtain ⟨Z, hZ⟩ : ∃ Z, decide ((⟨dn1, dn2, dn3⟩ : Num) = Num.zero) = Z := ⟨_, rfl⟩
 have hrr := HRR.out; rw [hZ] at hrr; simp only [hZ] at hq; replace HRR := Hd hrr; clear hrr hZ; simp only [Num.zero] at hq; have hv := VAt.new w (cellsV k b ⟨dn1, dn2, dn3⟩ s (.slice la L.length lc) (.slice ma M.length mc)); have hx : Ext w (w.alloc (.cells (cellsV k b ⟨dn1, dn2, dn3⟩ s (.slice la L.length lc) (.slice ma M.length mc)) 27)) := (ext_refl w).alloc (Nat.le_refl _) _
 simp only [cellsV] at hv hx ⊢; go_enter Tryz.func80, Tryz.ntmps80
 go_upto_region 1 with fail; obtain ⟨S, hS⟩ := Ex w.heap.size; rw [hS] at hv ⊢; have hsz : (w.alloc (.cells #[.int .i64 k, .bool b, .bool dn1, .string ⟨dn2.toArray⟩, .int .i64 dn3, .string ⟨s.toArray⟩, .slice la L.length lc, .slice ma M.length mc] 27)).heap.size = S + 1 := by rw [← hS]; simp
 generalize w.alloc (.cells #[.int .i64 k, .bool b, .bool dn1, .string ⟨dn2.toArray⟩, .int .i64 dn3, .string ⟨s.toArray⟩, .slice la L.length lc, .slice ma M.length mc] 27) = w1 at *; obtain ⟨c0, c1, c2, c3, c4, c5, c6, c7⟩ := hv.c8; have hv2 := VAt.new w1 #[.int .i64 k, .bool b, .bool dn1, .string ⟨dn2.toArray⟩, .int .i64 dn3, .string ⟨s.toArray⟩, .slice la L.length lc, .slice ma M.length mc]
 have hx2 : Ext w1 (w1.alloc (.cells #[.int .i64 k, .bool b, .bool dn1, .string ⟨dn2.toArray⟩, .int .i64 dn3, .string ⟨s.toArray⟩, .slice la L.length lc, .slice ma M.length mc] 27)) := (ext_refl w1).alloc (Nat.le_refl _) _; rw [hsz] at hv2; have hv1 := hv.ext hx2; go_upto_region 2 with fail
 generalize w1.alloc (.cells #[.int .i64 k, .bool b, .bool dn1, .string ⟨dn2.toArray⟩, .int .i64 dn3, .string ⟨s.toArray⟩, .slice la L.length lc, .slice ma M.length mc] 27) = w2 at *; have HE := Hd (ext_trans hx hx2); have HTM := Hd (htm.keep (w' := w2) (A' := fun g => g < S) HE.out.size (fun g _ hlt => ⟨by omega, HE.out.block g hlt⟩))
 have HRM := Hd (hrm.keep (w' := w2) (A' := fun g => g < S) HE.out.size (fun g _ hlt => ⟨by omega, HE.out.block g hlt⟩)); have HV1 := Hd hv1; have HV2 := Hd hv2; have HS := Hd hS; clear hv hv1 hv2 hx hx2 hrl htm hrm hsz hS c0 c1 c2 c3 c4 c5 c6 c7; have e6 : IntKind.i64.wrap ((L.length : Int) + (M.length : Int)) = ((L.length + M.length : Nat) : Int) := by rw [IntWalk.i64_in _ (by omega)]; omega
 have hem : (((L.length : Int) + (M.length : Int)) == 0) = (L.isEmpty && M.isEmpty) := by cases L <;> cases M <;> simp <;> omega
 by_cases h0 : k = 0
 · subst h0; have HR0 : Hid (R = (!b && Z && s.isEmpty && (L.isEmpty && M.isEmpty))) := Hd (by rw [← HRR.out]; simp); have c0 := HV1.out.cell 0; simp at c0; have c1 := HV2.out.cell 1; have c2 := HV2.out.cell 2; have c3 := HV2.out.cell 3; have c4 := HV2.out.cell 4; have c5 := HV2.out.cell 5; have c6 := HV2.out.cell 6; have c7 := HV2.out.cell 7; simp at c1 c2 c3 c4 c5 c6 c7; cases b with
   | true =>
     have HF : Hid (R = false) := Hd (by rw [HR0.out]; simp); go_wp2_with fail; go_ret; exact ⟨ret_bool HF.out.symm, HE.out⟩
   | false =>
     cases Z with
     | false =>
       have HF : Hid (R = false) := Hd (by rw [HR0.out]; simp); go_wp2_with fail; go_ret; exact ⟨ret_bool HF.out.symm, HE.out⟩
     | true =>
       cases s with
       | cons x s =>
         have HF : Hid (R = false) := Hd (by rw [HR0.out]; simp); go_wp2_with fail; go_ret; exact ⟨ret_bool HF.out.symm, HE.out⟩
       | nil =>
         go_wp2_with fail; go_ret; exact ⟨ret_bool (by rw [HR0.out]; simp), HE.out⟩
 by_cases h1 : k = 1
 · subst h1; have HR0 : Hid (R = (Z && s.isEmpty && (L.isEmpty && M.isEmpty))) := Hd (by rw [← HRR.out]; simp); have c0 := HV1.out.cell 0; simp at c0; have f1 := HV2.out.free 1; have c1 := HV2.out.cell 1; simp at c1; go_upto_region 19 with fail; replace HE := Hd (HE.out.setCell (p := ⟨S + 1, 1, none⟩) (show w.heap.size ≤ S + 1 by rw [HS.out]; omega) (.bool false))
   have hv2 := HV2.out.set1 1 (.bool false); clear c0 c1 f1 HV1 HTM HRM HV2; generalize w2.setCell ⟨S + 1, 1, none⟩ (.bool false) = w3 at *; have HV2 : Hid (VAt w3 (S + 1) #[.int .i64 1, .bool false, .bool dn1, .string ⟨dn2.toArray⟩, .int .i64 dn3, .string ⟨s.toArray⟩, .slice la L.length lc, .slice ma M.length mc]) := Hd hv2; clear hv2
   have c1 := HV2.out.cell 1; have c2 := HV2.out.cell 2; have c3 := HV2.out.cell 3; have c4 := HV2.out.cell 4; have c5 := HV2.out.cell 5; have c6 := HV2.out.cell 6; have c7 := HV2.out.cell 7; simp at c1 c2 c3 c4 c5 c6 c7; cases Z with
   | false =>
     have HF : Hid (R = false) := Hd (by rw [HR0.out]; simp); go_wp2_with fail; go_ret; exact ⟨ret_bool HF.out.symm, HE.out⟩
   | true =>
     cases s with
     | cons x s =>
       have HF : Hid (R = false) := Hd (by rw [HR0.out]; simp); go_wp2_with fail; go_ret; exact ⟨ret_bool HF.out.symm, HE.out⟩
     | nil =>
       go_wp2_with fail; go_ret; exact ⟨ret_bool (by rw [HR0.out]; simp), HE.out⟩
 by_cases h2 : k = 2
 · subst h2; have HR0 : Hid (R = (sane ⟨dn1, dn2, dn3⟩ && !b && s.isEmpty && (L.isEmpty && M.isEmpty))) := Hd (by rw [← HRR.out]; simp); have c0 := HV1.out.cell 0; simp at c0; have f2 := HV2.out.free 2; have f3 := HV2.out.free 3; have f4 := HV2.out.free 4; have c2 := HV2.out.cell 2; have c3 := HV2.out.cell 3; have c4 := HV2.out.cell 4; simp at c2 c3 c4; go_upto_region 10 with fail
   replace HE := Hd (((HE.out.setCell (p := ⟨S + 1, 2, none⟩) (show w.heap.size ≤ S + 1 by rw [HS.out]; omega) (.bool false)).setCell (p := ⟨S + 1, 3, none⟩) (show w.heap.size ≤ S + 1 by rw [HS.out]; omega) (.string ⟨#[]⟩)).setCell (p := ⟨S + 1, 4, none⟩) (show w.heap.size ≤ S + 1 by rw [HS.out]; omega) (.int .i64 0))
   have hv2 := ((HV2.out.set1 2 (.bool false)).set1 3 (.string ⟨#[]⟩)).set1 4 (.int .i64 0); have hv1 := ((HV1.out.oth (p := S + 1) (i := 2) (u := .bool false) (by omega)).oth (p := S + 1) (i := 3) (u := .string ⟨#[]⟩) (by omega)).oth (p := S + 1) (i := 4) (u := .int .i64 0) (by omega); clear c0 c2 c3 c4 f2 f3 f4 HV1 HTM HRM HV2
   generalize ((w2.setCell ⟨S + 1, 2, none⟩ (.bool false)).setCell ⟨S + 1, 3, none⟩ (.string ⟨#[]⟩)).setCell ⟨S + 1, 4, none⟩ (.int .i64 0) = w3 at *; have HV2 : Hid (VAt w3 (S + 1) #[.int .i64 2, .bool b, .bool false, .string ⟨#[]⟩, .int .i64 0, .string ⟨s.toArray⟩, .slice la L.length lc, .slice ma M.length mc]) := Hd hv2; have d2 := hv1.cell 2; have d3 := hv1.cell 3; have d4 := hv1.cell 4
   simp at d2 d3 d4; clear hv1 hv2; go_wp2_with fail; refine (sane_any ⟨dn1, dn2, dn3⟩ w3 (by simp; omega)).mono ?_; rintro e w4 ⟨rfl, hw4⟩; obtain ⟨B, hB⟩ := Ex (sane ⟨dn1, dn2, dn3⟩); have hr0 := HR0.out; rw [hB] at hr0 ⊢; replace HR0 := Hd hr0; replace HV2 := Hd (HV2.out.ext hw4); replace HE := Hd (ext_trans HE.out hw4); clear hr0 hB d2 d3 d4 hw4; cases B with
   | false =>
     have HF : Hid (R = false) := Hd (by rw [HR0.out]; simp); go_wp2_with fail; go_ret; exact ⟨ret_bool HF.out.symm, HE.out⟩
   | true =>
     have c1 := HV2.out.cell 1; have c2 := HV2.out.cell 2; have c3 := HV2.out.cell 3; have c4 := HV2.out.cell 4; have c5 := HV2.out.cell 5; have c6 := HV2.out.cell 6; have c7 := HV2.out.cell 7; simp at c1 c2 c3 c4 c5 c6 c7; cases b with
     | true =>
       have HF : Hid (R = false) := Hd (by rw [HR0.out]; simp); go_wp2_with fail; go_ret; exact ⟨ret_bool HF.out.symm, HE.out⟩
     | false =>
       cases s with
       | cons x s =>
         have HF : Hid (R = false) := Hd (by rw [HR0.out]; simp); go_wp2_with fail; go_ret; exact ⟨ret_bool HF.out.symm, HE.out⟩
       | nil =>
         go_wp2_with fail; go_ret; exact ⟨ret_bool (by rw [HR0.out]; simp), HE.out⟩
 by_cases h3 : k = 3
 · subst h3; have HR0 : Hid (R = (decide (check s < 0) && !b && Z && (L.isEmpty && M.isEmpty))) := Hd (by rw [← HRR.out]; simp); have c0 := HV1.out.cell 0; simp at c0; have f5 := HV2.out.free 5; have c5 := HV2.out.cell 5; simp at c5; go_upto_region 13 with fail; replace HE := Hd (HE.out.setCell (p := ⟨S + 1, 5, none⟩) (show w.heap.size ≤ S + 1 by rw [HS.out]; omega) (.string ⟨#[]⟩))
   have hv2 := HV2.out.set1 5 (.string ⟨#[]⟩); have hv1 := HV1.out.oth (p := S + 1) (i := 5) (u := .string ⟨#[]⟩) (by omega); clear c0 c5 f5 HV1 HTM HRM HV2; generalize w2.setCell ⟨S + 1, 5, none⟩ (.string ⟨#[]⟩) = w3 at *; have HV2 : Hid (VAt w3 (S + 1) #[.int .i64 3, .bool b, .bool dn1, .string ⟨dn2.toArray⟩, .int .i64 dn3, .string ⟨#[]⟩, .slice la L.length lc, .slice ma M.length mc]) := Hd hv2
   have d5 := hv1.cell 5; simp at d5; clear hv1 hv2; have hss : (ByteArray.mk s.toArray).size ≤ 140737488355328 := by show s.toArray.size ≤ _; simp; omega
   have hsz : (ByteArray.mk s.toArray).size = s.length := by show s.toArray.size = _; simp
   have HSZ := Hd hsz; clear hsz; go_wp2_with (first
    | (refine wpList_bytes_of_string w3 rfl 9 56 5 _ rfl ⟨s.toArray⟩ rfl Tryz.underlying9 Tryz.underlying56 Tryz.underlying5 hss ?_; intro capA wA hEA hcapA hcmA hszA hatA; rw [HSZ.out] at hcapA)
    | fail)
   refine (check_any _ s _ (Bytes.mk hatA (by first | rfl | exact HSZ.out) (by simpa using hcapA) hcmA (by omega))).mono ?_; rintro e w4 ⟨rfl, hw4⟩; obtain ⟨C, hC⟩ := Ex (check s); have hr0 := HR0.out; rw [hC] at hr0 ⊢; replace HR0 := Hd hr0; replace HV2 := Hd (HV2.out.ext (ext_trans hEA hw4)); replace HE := Hd (ext_trans HE.out (ext_trans hEA hw4)); clear hr0 hC d5 hw4 hEA hatA; by_cases hc0 : C < 0
   · have hdc : decide (C < 0) = true := by simpa using hc0
     have c1 := HV2.out.cell 1; have c2 := HV2.out.cell 2; have c3 := HV2.out.cell 3; have c4 := HV2.out.cell 4; have c5 := HV2.out.cell 5; have c6 := HV2.out.cell 6; have c7 := HV2.out.cell 7; simp at c1 c2 c3 c4 c5 c6 c7; cases b with
     | true =>
       have HF : Hid (R = false) := Hd (by rw [HR0.out]; simp); go_wp2_with fail; go_ret; exact ⟨ret_bool HF.out.symm, HE.out⟩
     | false =>
       cases Z with
       | false =>
         have HF : Hid (R = false) := Hd (by rw [HR0.out]; simp); go_wp2_with fail; go_ret; exact ⟨ret_bool HF.out.symm, HE.out⟩
       | true =>
         go_wp2_with fail; go_ret; exact ⟨ret_bool (by rw [HR0.out, hdc]; simp), HE.out⟩
   · have hdc : decide (C < 0) = false := by simpa using hc0
     have HDC := Hd hdc; have HF : Hid (R = false) := Hd (by rw [HR0.out]; rw [HDC.out]; simp); go_wp2_with fail; go_ret; exact ⟨ret_bool HF.out.symm, HE.out⟩
 by_cases h4 : k = 4
 · subst h4; have HR0 : Hid (R = (!b && Z && s.isEmpty && M.isEmpty)) := Hd (by rw [← HRR.out]; simp); have c0 := HV1.out.cell 0; simp at c0; have f6 := HV2.out.free 6; have c6 := HV2.out.cell 6; simp at c6; go_upto_region 19 with fail; replace HE := Hd (HE.out.setCell (p := ⟨S + 1, 6, none⟩) (show w.heap.size ≤ S + 1 by rw [HS.out]; omega) (.slice none 0 0))
   have hv2 := HV2.out.set1 6 (.slice none 0 0); clear c0 c6 f6 HV1 HTM HRM HV2; generalize w2.setCell ⟨S + 1, 6, none⟩ (.slice none 0 0) = w3 at *; have HV2 : Hid (VAt w3 (S + 1) #[.int .i64 4, .bool b, .bool dn1, .string ⟨dn2.toArray⟩, .int .i64 dn3, .string ⟨s.toArray⟩, .slice none 0 0, .slice ma M.length mc]) := Hd hv2; clear hv2
   have hem2 : ((M.length : Int) == 0) = M.isEmpty := by cases M <;> simp <;> omega
   have c1 := HV2.out.cell 1; have c2 := HV2.out.cell 2; have c3 := HV2.out.cell 3; have c4 := HV2.out.cell 4; have c5 := HV2.out.cell 5; have c6 := HV2.out.cell 6; have c7 := HV2.out.cell 7; simp at c1 c2 c3 c4 c5 c6 c7; cases b with
   | true =>
     have HF : Hid (R = false) := Hd (by rw [HR0.out]; simp); go_wp2_with fail; go_ret; exact ⟨ret_bool HF.out.symm, HE.out⟩
   | false =>
     cases Z with
     | false =>
       have HF : Hid (R = false) := Hd (by rw [HR0.out]; simp); go_wp2_with fail; go_ret; exact ⟨ret_bool HF.out.symm, HE.out⟩
     | true =>
       cases s with
       | cons x s =>
         have HF : Hid (R = false) := Hd (by rw [HR0.out]; simp); go_wp2_with fail; go_ret; exact ⟨ret_bool HF.out.symm, HE.out⟩
       | nil =>
         go_wp2_with fail; go_ret; exact ⟨ret_bool (by rw [HR0.out]; simp), HE.out⟩
 by_cases h5 : k = 5
 · subst h5; have HR0 : Hid (R = (!(M.any badKey) && !b && Z && s.isEmpty && L.isEmpty)) := Hd (by rw [← HRR.out]; simp); have c0 := HV1.out.cell 0; simp at c0; have f7 := HV2.out.free 7; have c7 := HV2.out.cell 7; simp at c7; go_upto_region 18 with fail; replace HE := Hd (HE.out.setCell (p := ⟨S + 1, 7, none⟩) (show w.heap.size ≤ S + 1 by rw [HS.out]; omega) (.slice none 0 0))
   have hv2 := HV2.out.set1 7 (.slice none 0 0); have hv1 := HV1.out.oth (p := S + 1) (i := 7) (u := .slice none 0 0) (by omega); have htm := HTM.out.keep (w' := w2.setCell ⟨S + 1, 7, none⟩ (.slice none 0 0)) (A' := fun _ => True) (by simp [World.setCell]) (fun g hg _ => ⟨trivial, Below.heap_setCell _ _ _ _ (show g ≠ S + 1 by omega)⟩)
   have hrm := HRM.out.keep (w' := w2.setCell ⟨S + 1, 7, none⟩ (.slice none 0 0)) (A' := fun _ => True) (by simp [World.setCell]) (fun g hg _ => ⟨trivial, Below.heap_setCell _ _ _ _ (show g ≠ S + 1 by omega)⟩); clear c0 c7 f7 HV1 HTM HRM HV2; generalize w2.setCell ⟨S + 1, 7, none⟩ (.slice none 0 0) = w3 at *
   have HV2 : Hid (VAt w3 (S + 1) #[.int .i64 5, .bool b, .bool dn1, .string ⟨dn2.toArray⟩, .int .i64 dn3, .string ⟨s.toArray⟩, .slice la L.length lc, .slice none 0 0]) := Hd hv2; have HC := Hd (contains_bad _ M cm _ w3 hrm htm hMl HKS.out); have d7 := hv1.cell 7; simp at d7; clear hv1 hv2 htm hrm; go_wp2_with fail; refine (HC.out).mono ?_; rintro e w4 ⟨rfl, hw4⟩; obtain ⟨C, hC⟩ := Ex (M.any badKey)
   have hr0 := HR0.out; rw [hC] at hr0 ⊢; replace HR0 := Hd hr0; replace HV2 := Hd (HV2.out.ext hw4); replace HE := Hd (ext_trans HE.out hw4); clear hr0 hC d7 hw4; have hem2 : ((L.length : Int) == 0) = L.isEmpty := by cases L <;> simp <;> omega
   cases C with
   | true =>
     have HF : Hid (R = false) := Hd (by rw [HR0.out]; simp); go_wp2_with fail; go_ret; exact ⟨ret_bool HF.out.symm, HE.out⟩
   | false =>
     have c1 := HV2.out.cell 1; have c2 := HV2.out.cell 2; have c3 := HV2.out.cell 3; have c4 := HV2.out.cell 4; have c5 := HV2.out.cell 5; have c6 := HV2.out.cell 6; have c7 := HV2.out.cell 7; simp at c1 c2 c3 c4 c5 c6 c7; cases b with
     | true =>
       have HF : Hid (R = false) := Hd (by rw [HR0.out]; simp); go_wp2_with fail; go_ret; exact ⟨ret_bool HF.out.symm, HE.out⟩
     | false =>
       cases Z with
       | false =>
         have HF : Hid (R = false) := Hd (by rw [HR0.out]; simp); go_wp2_with fail; go_ret; exact ⟨ret_bool HF.out.symm, HE.out⟩
       | true =>
         cases s with
         | cons x s =>
           have HF : Hid (R = false) := Hd (by rw [HR0.out]; simp); go_wp2_with fail; go_ret; exact ⟨ret_bool HF.out.symm, HE.out⟩
         | nil =>
           go_wp2_with fail; go_ret; exact ⟨ret_bool (by rw [HR0.out]; simp), HE.out⟩
 · have HF : Hid (R = false) := Hd (by rw [← HRR.out]; simp [h0, h1, h2, h3, h4, h5]); have q0 : (k == 0) = false := by simpa using h0
   have q1 : (k == 1) = false := by simpa using h1
   have q2 : (k == 2) = false := by simpa using h2
   have q3 : (k == 3) = false := by simpa using h3
   have q4 : (k == 4) = false := by simpa using h4
   have q5 : (k == 5) = false := by simpa using h5
   have c0 := HV1.out.cell 0; simp at c0; go_wp2_with fail; go_ret; exact ⟨ret_bool HF.out.symm, HE.out⟩
mutual
def saneT : Nat → Nat → Tree → Int × Nat
 | deep, n, .mk k b d s l m =>
   if fieldsT (.mk k b d s l m) = false then (1, n + 1)
   else if twiceP [] (m.map (·.1)) = true then (7, n + 1)
   else if 4 ≤ k ∧ 64 ≤ deep then (3, n + 1)
   else if 4096 < n + 1 then (4, n + 1)
   else match saneL (deep + 1) (n + 1) l with
    | (e, n') => if e = 0 then saneM (deep + 1) n' m else (e, n')
def saneL : Nat → Nat → List Tree → Int × Nat
 | _, n, [] => (0, n)
 | deep, n, t :: l => match saneT deep n t with
   | (e, n') => if e = 0 then saneL deep n' l else (e, n')
def saneM : Nat → Nat → List (List UInt8 × Tree) → Int × Nat
 | _, n, [] => (0, n)
 | deep, n, (_, t) :: l => match saneT deep n t with
   | (e, n') => if e = 0 then saneM deep n' l else (e, n')
end
theorem saneM_map (deep : Nat) : ∀ (m : List (List UInt8 × Tree)) (n : Nat), saneM deep n m = saneL deep n (m.map (·.2))
 | [], n => by rw [saneM, List.map_nil, saneL]
 | (k, t) :: m, n => by
   rw [saneM, List.map_cons, saneL]; cases saneT deep n t with
   | mk e n' => simp only [saneM_map deep m n']
theorem saneL_append (deep : Nat) : ∀ (l l' : List Tree) (n : Nat), saneL deep n (l ++ l') = (if (saneL deep n l).1 = 0 then saneL deep (saneL deep n l).2 l' else saneL deep n l)
 | [], l', n => by rw [List.nil_append, saneL, if_pos rfl]
 | t :: l, l', n => by
   rw [List.cons_append, saneL, saneL]; cases saneT deep n t with
   | mk e n' =>
     simp only
     by_cases he : e = 0
     · rw [if_pos he, if_pos he, saneL_append deep l l' n']
     · rw [if_neg he, if_neg he, if_neg he]
theorem saneT_ins (deep n : Nat) (t : Tree) : saneT deep n t = if fieldsT t = false then (1, n + 1) else if twiceP [] (t.mems.map (·.1)) = true then (7, n + 1) else if 4 ≤ t.kind ∧ 64 ≤ deep then (3, n + 1) else if 4096 < n + 1 then (4, n + 1) else saneL (deep + 1) (n + 1) t.ins := by
 cases t with
 | mk k b d s l m =>
   rw [saneT]; show _ = (if fieldsT (.mk k b d s l m) = false then (1, n + 1) else if twiceP [] (m.map (·.1)) = true then (7, n + 1) else if 4 ≤ k ∧ 64 ≤ deep then (3, n + 1) else if 4096 < n + 1 then (4, n + 1) else saneL (deep + 1) (n + 1) (l ++ m.map (·.2)))
   rw [saneL_append]; simp only [saneM_map]
theorem saneL_at (deep n : Nat) {l : List Tree} {i : Nat} (h : i < l.length) (h0 : (saneL deep n (l.take i)).1 = 0) : saneL deep n l = if (saneT deep (saneL deep n (l.take i)).2 l[i]).1 = 0 then saneL deep (saneT deep (saneL deep n (l.take i)).2 l[i]).2 (l.drop (i + 1)) else saneT deep (saneL deep n (l.take i)).2 l[i] := by
 conv => lhs; rw [← List.take_append_drop i l, saneL_append, if_pos h0, List.drop_eq_getElem_cons h, saneL]
theorem saneL_take (deep n : Nat) {l : List Tree} {i : Nat} (h : i < l.length) (h0 : (saneL deep n (l.take i)).1 = 0) : saneL deep n (l.take (i + 1)) = saneT deep (saneL deep n (l.take i)).2 l[i] := by
 rw [List.take_add_one, List.getElem?_eq_getElem h, Option.toList_some, saneL_append, if_pos h0, saneL]; cases saneT deep (saneL deep n (l.take i)).2 l[i] with
 | mk e n' =>
   simp only
   by_cases he : e = 0
   · rw [if_pos he, saneL, he]
   · rw [if_neg he]
mutual
theorem saneT_bd : ∀ (t : Tree) (deep n : Nat), (saneT deep n t).2 ≤ n + countT t
 | .mk k b d s l m, deep, n => by
   rw [saneT, countT]; split
   · show n + 1 ≤ _; omega
   split
   · show n + 1 ≤ _; omega
   split
   · show n + 1 ≤ _; omega
   split
   · show n + 1 ≤ _; omega
   · have h1 := saneL_bd l (deep + 1) (n + 1); cases hl : saneL (deep + 1) (n + 1) l with
     | mk e n' =>
       rw [hl] at h1; simp only at h1 ⊢; split
       · have := saneM_bd m (deep + 1) n'; omega
       · simp only; omega
theorem saneL_bd : ∀ (l : List Tree) (deep n : Nat), (saneL deep n l).2 ≤ n + countL l
 | [], deep, n => by rw [saneL, countL]; simp
 | t :: l, deep, n => by
   rw [saneL, countL]; have h1 := saneT_bd t deep n; cases hl : saneT deep n t with
   | mk e n' =>
     rw [hl] at h1; simp only at h1 ⊢; split
     · have := saneL_bd l deep n'; omega
     · simp only; omega
theorem saneM_bd : ∀ (l : List (List UInt8 × Tree)) (deep n : Nat), (saneM deep n l).2 ≤ n + countM l
 | [], deep, n => by rw [saneM, countM]; simp
 | (_, t) :: l, deep, n => by
   rw [saneM, countM]; have h1 := saneT_bd t deep n; cases hl : saneT deep n t with
   | mk e n' =>
     rw [hl] at h1; simp only at h1 ⊢; split
     · have := saneM_bd l deep n'; omega
     · simp only; omega
end
def NAt (w : World) (p n : Nat) : Prop := w.heap[p]? = some (.cells #[.int .i64 (n : Nat)] 69 (0, 0))
theorem NAt.lt {w : World} {p n : Nat} (h : NAt w p n) : p < w.heap.size := (Array.getElem?_eq_some_iff.1 h).1
theorem NAt.ext {w w' : World} {p n : Nat} (h : NAt w p n) (hb : Ext w w') : NAt w' p n := by
 unfold NAt; rw [hb.block _ h.lt]; exact h
theorem NAt.cell {w : World} {p n : Nat} (h : NAt w p n) : w.cell? ⟨p, 0, none⟩ = some (.int .i64 (n : Nat)) ∧ w.frozen? ⟨p, 0, none⟩ = false := ⟨by rw [cell_of_cells h]; rfl, free_of_cells h⟩
theorem NAt.set {w : World} {p n : Nat} (h : NAt w p n) (m : Nat) : NAt (w.setCell ⟨p, 0, none⟩ (.int .i64 (m : Nat))) p m := setCell_heap_self h
theorem keptp {w w' : World} {p : Nat} (h : Kept w.heap.size p w w') (g : Nat) (hg : g ≠ p) (hlt : g < w.heap.size) : g ≠ p ∧ w'.heap[g]? = w.heap[g]? := ⟨hg, h.block g hlt hg⟩
set_option maxHeartbeats 6400000 in
theorem sane_step (N : Nat) (ih : ∀ (t : Tree) (c : Array Value) (deep n p : Nat) (w : World), SizeOf.sizeOf t < N → weightT t ≤ 1000000 → deep + countT t ≤ 1000000000 → n + countT t ≤ 1000000000 → TV w (fun g => g ≠ p) t c → NAt w p n →
 Calls Tryz.prog 51 #[.pointer (some ⟨p, 0, none⟩), .agg c, .int .i64 (deep : Nat)] w (fun e w' => e = .returned (.int .i64 (saneT deep n t).1) ∧ NAt w' p (saneT deep n t).2 ∧ Kept w.heap.size p w w')) :
 ∀ (t : Tree) (c : Array Value) (deep n p : Nat) (w : World), SizeOf.sizeOf t < N + 1 → weightT t ≤ 1000000 → deep + countT t ≤ 1000000000 → n + countT t ≤ 1000000000 → TV w (fun g => g ≠ p) t c → NAt w p n →
 Calls Tryz.prog 51 #[.pointer (some ⟨p, 0, none⟩), .agg c, .int .i64 (deep : Nat)] w (fun e w' => e = .returned (.int .i64 (saneT deep n t).1) ∧ NAt w' p (saneT deep n t).2 ∧ Kept w.heap.size p w w') := by
 intro t c deep n p w hN hwt hdp hnn h hc; have IH := Hd ih; clear ih; obtain ⟨R, hR⟩ := Ex (saneT deep n t); rw [hR]; rw [saneT_ins] at hR; have HRR := Hd hR; clear hR; obtain ⟨k, b, d, s, la, ln, lc, ma, mn, mc, rfl⟩ := h.eight; have hplt := hc.lt; have hpos := countT_pos t; have hv := VAt.new w (cellsV k b d s (.slice la ln lc) (.slice ma mn mc))
 have hx : Ext w (w.alloc (.cells (cellsV k b d s (.slice la ln lc) (.slice ma mn mc)) 27)) := (ext_refl w).alloc (Nat.le_refl _) _; simp only [cellsV] at hv hx ⊢; go_enter Tryz.func51, Tryz.ntmps51
 go_upto_region 1 with fail; obtain ⟨S, hS⟩ := Ex w.heap.size; rw [hS] at hv hplt ⊢; generalize w.alloc (.cells #[.int .i64 k, .bool b, .bool d.neg, .string ⟨d.digits.toArray⟩, .int .i64 d.exp, .string ⟨s.toArray⟩, .slice la ln lc, .slice ma mn mc] 27) = w1 at *; have HS := Hd hS; have hc1 := hc.ext hx; obtain ⟨r0, f0⟩ := hc1.cell
 have e8 : IntKind.i64.wrap ((n : Int) + 1) = ((n + 1 : Nat) : Int) := by rw [IntWalk.i64_in _ (by omega)]; omega
 have hc2 : NAt (w1.setCell ⟨p, 0, none⟩ (.int .i64 ((n : Int) + 1))) p (n + 1) := by rw [show ((n : Int) + 1) = ((n + 1 : Nat) : Int) by omega]; exact hc1.set (n + 1)
 have hv2 := hv.oth (p := p) (i := 0) (u := .int .i64 ((n : Int) + 1)) (by omega); have hk2 : Kept w.heap.size p w (w1.setCell ⟨p, 0, none⟩ (.int .i64 ((n : Int) + 1))) := (Kept.ofBelow hx).trans (Kept.setCell _); go_upto_region 2 with fail; clear r0 f0 hc1; generalize w1.setCell ⟨p, 0, none⟩ (.int .i64 ((n : Int) + 1)) = w2 at *
 have HT := Hd (h.keep (w' := w2) (A' := fun g => g ≠ p) hk2.size (fun g hg hlt => keptp hk2 g hg hlt)); have HC := Hd hc2; have HV := Hd hv2; have HK := Hd hk2; have HWT := Hd hwt; have HB : Hid (deep + countT t ≤ 1000000000 ∧ n + countT t ≤ 1000000000 ∧ SizeOf.sizeOf t < N + 1) := Hd ⟨hdp, hnn, hN⟩; clear h hc hv hx hS hc2 hv2 hk2 hN; obtain ⟨c0, c1, c2, c3, c4, c5, c6, c7⟩ := HV.out.c8
 go_wp2_with fail; refine (fields_any t _ _ w2 HT.out HWT.out).mono ?_; rintro e w3 ⟨rfl, hw3⟩; clear c0 c1 c2 c3 c4 c5 c6 c7; replace HT := Hd (HT.out.keep (w' := w3) (A' := fun g => g ≠ p) hw3.size (fun g hg hlt => ⟨hg, hw3.block g hlt⟩)); replace HC := Hd (HC.out.ext hw3); replace HV := Hd (HV.out.ext hw3); replace HK := Hd (HK.out.trans (Kept.ofBelow (hw3.mono HK.out.size))); clear hw3
 have hrr := HRR.out; obtain ⟨B, hB⟩ := Ex (fieldsT t); rw [hB] at hrr ⊢; clear hB; cases B with
 | false =>
   have HF : Hid (R = (1, n + 1)) := Hd (by rw [← hrr, if_pos rfl]); clear hrr; go_wp2_with fail; go_ret; rw [HF.out]; exact ⟨rfl, HC.out, HK.out⟩
 | true =>
 rw [if_neg (by decide)] at hrr; replace HRR := Hd hrr; clear hrr; obtain ⟨cl, cm, htl, hrl, htm, hrm, hk, -⟩ := tv_rows HT.out; obtain ⟨_, a2, c2, ea, -⟩ := id hrm; simp only [Value.slice.injEq] at ea; obtain ⟨rfl, rfl, rfl⟩ := ea; have hcl := countT_ins t; have hll := countL_len t.ins; have hil := ins_len t; have hcw := count_weight t; have hMl : t.mems.length ≤ 1000000 := by omega
 have hcb : t.list.length + t.mems.length ≤ 1000000 := by omega
 have hks : ∀ q ∈ t.mems, q.1.length ≤ 1000000 := fun q hq => by
  obtain ⟨j, hj, rfl⟩ := List.mem_iff_getElem.1 hq; have h1 := weightM_mem hj; have h2 := HWT.out; cases t with
  | mk k0 b0 d0 s0 l0 m0 => rw [weightT] at h2; have h1 : (m0[j]'hj).1.length ≤ weightM m0 := h1.1; show (m0[j]'hj).1.length ≤ _; omega
 have HTW := Hd (twice_any _ t.mems cm _ w3 hrm htm hMl hks); have HKK := Hd hk; have HCB := Hd hcb; clear hcl hll hil hcw hMl hks htl hrl htm hrm hcb hk; have c7 := HV.out.cell 7; simp at c7; go_wp2_with fail; refine (HTW.out).mono ?_; rintro e w4 ⟨rfl, hw4⟩; clear c7 HTW; replace HT := Hd (HT.out.keep (w' := w4) (A' := fun g => g ≠ p) hw4.size (fun g hg hlt => ⟨hg, hw4.block g hlt⟩))
 replace HC := Hd (HC.out.ext hw4); replace HV := Hd (HV.out.ext hw4); replace HK := Hd (HK.out.trans (Kept.ofBelow (hw4.mono HK.out.size))); clear hw4; have hrr := HRR.out; obtain ⟨B, hB⟩ := Ex (twiceP [] (t.mems.map (·.1))); rw [hB] at hrr ⊢; clear hB; cases B with
 | true =>
   have HF : Hid (R = (7, n + 1)) := Hd (by rw [← hrr, if_pos rfl]); clear hrr; go_wp2_with fail; go_ret; rw [HF.out]; exact ⟨rfl, HC.out, HK.out⟩
 | false =>
 rw [if_neg (by decide), ← HKK.out] at hrr; replace HRR := Hd hrr; clear hrr; have c0 := HV.out.cell 0; simp at c0; by_cases hkd : 4 ≤ k ∧ 64 ≤ deep
 · have HF : Hid (R = (3, n + 1)) := Hd (by rw [← HRR.out, if_pos hkd]); obtain ⟨hk4, hd64⟩ := hkd; have hdi : (64 : Int) ≤ deep := by omega
   go_wp2_with fail; go_ret; rw [HF.out]; exact ⟨rfl, HC.out, HK.out⟩
 have hrr := HRR.out; rw [if_neg hkd] at hrr; replace HRR := Hd hrr; clear hrr; obtain ⟨r0, f0⟩ := HC.out.cell; by_cases hn4 : 4096 < n + 1
 · have HF : Hid (R = (4, n + 1)) := Hd (by rw [← HRR.out, if_pos hn4]); have hni : (4096 : Int) < (n + 1 : Nat) := by omega
   by_cases hk4 : 4 ≤ k
   · have hd64 : ¬ (64 : Int) ≤ deep := by omega
     go_wp2_with fail; go_ret; rw [HF.out]; exact ⟨rfl, HC.out, HK.out⟩
   · go_wp2_with fail; go_ret; rw [HF.out]; exact ⟨rfl, HC.out, HK.out⟩
 have hrr := HRR.out; rw [if_neg hn4] at hrr; replace HRR := Hd hrr; clear hrr; have hni : ¬ (4096 : Int) < (n + 1 : Nat) := by omega
 have HRR3 := HRR; have c1 := HV.out.cell 1; have c2 := HV.out.cell 2; have c3 := HV.out.cell 3; have c4 := HV.out.cell 4; have c5 := HV.out.cell 5; have c6 := HV.out.cell 6; have c7 := HV.out.cell 7; simp at c1 c2 c3 c4 c5 c6 c7; have HN4 := Hd hn4
 have HIN : Hid (∀ w', Below w4.heap.size w4 w' → Calls Tryz.prog 49 #[.agg (cellsV k b d s (.slice la ln lc) (.slice ma t.mems.length mc))] w' (fun e w'' => ∃ v cs, e = .returned v ∧ w''.ownsRow w'.heap.size 27 8 v t.ins.length cs ∧ TL w'' (fun g => g ≠ p) t.ins cs ∧ Ext w' w'')) := Hd (fun w' hw => inside_any t _ _ w' (HT.out.keep (w' := w') (A' := fun g => g ≠ p) hw.size (fun g hg hlt => ⟨hg, hw.block g hlt⟩)) HCB.out)
 have hin := HIN.out w4 (Below.refl _ _); simp only [cellsV] at hin; replace HIN := Hd hin; have HNS : Hid (∀ i (hi : i < t.ins.length), SizeOf.sizeOf t.ins[i] < N ∧ weightT t.ins[i] ≤ 1000000 ∧ deep + 1 + countT t.ins[i] ≤ 1000000000 ∧ n + 1 + countL (t.ins.take i) + countT t.ins[i] ≤ 1000000000) := Hd (fun i hi => by
  have h1 := ins_size (List.getElem_mem hi); have h2 := HB.out; have h3 := weight_ins hi; have h4 := HWT.out; have h5 := countL_mem hi; have h6 := countT_ins t; have h7 := countL_take t.ins i hi; have h8 := countL_take_le t.ins (i + 1); exact ⟨by omega, by omega, by omega, by omega⟩)
 have HLEN : Hid (t.ins.length ≤ 1000000) := Hd (by
  have h1 := countL_len t.ins; have h2 := countT_ins t; have h3 := count_weight t; have h4 := HWT.out; omega)
 have HSB : Hid (∀ i, (saneL (deep + 1) (n + 1) (t.ins.take i)).2 ≤ n + 1 + countL (t.ins.take i)) := Hd (fun i => saneL_bd _ _ _); have hdd : deep ≤ 1000000000 := by have := HB.out; omega
 have HPS : Hid (p < S) := Hd hplt; have HKD : Hid (¬ (4 ≤ k ∧ 64 ≤ deep)) := Hd hkd; clear hin hn4 hkd hwt hplt; generalize t.ins = l at *; have LOOP : True := trivial; by_cases hk4 : 4 ≤ k
 · have hd64 : ¬ (64 : Int) ≤ deep := by have := HKD.out; omega
   go_wp2_with fail; refine (HIN.out).mono ?_; rintro e w5 ⟨v5, cs, rfl, hown, htl, hw5⟩; obtain ⟨a5, cc5, rfl⟩ := ownsRow_shape hown; have hs4 : S ≤ w4.heap.size := by have := HK.out.size; have := HS.out; omega
   have HR := Hd (RowAt.own hown (by decide) (A := fun g => g ≠ p) (fun g _ hb _ => by have := HPS.out; omega)); have HTL := Hd htl; have HC5 := Hd (HC.out.ext hw5); have HK5 := Hd (HK.out.trans (Kept.ofBelow (hw5.mono HK.out.size))); clear hown htl hw5 c0 c1 c2 c3 c4 c5 c6 c7 r0 f0 hni; go_wp2_with fail
   go_loopw [42] (fun iv wr => ∃ i : Nat, iv = .int .i64 i ∧ i ≤ l.length ∧ (saneL (deep + 1) (n + 1) (l.take i)).1 = 0 ∧ NAt wr p (saneL (deep + 1) (n + 1) (l.take i)).2 ∧ Kept w5.heap.size p w5 wr) (fun iv _ => 2000000 - (intOf iv).toNat)
   case atStart => exact ⟨0, rfl, by omega, by rw [List.take_zero, saneL], by rw [List.take_zero, saneL]; exact HC5.out, Kept.refl _ _ _⟩
   case round =>
    obtain ⟨i, rfl, hi, hz, hc, hE⟩ := hrel; have HX := Hd hE; have HCR := Hd hc; have HZ := Hd hz; clear hE hc hz; have hll := HLEN.out; by_cases hlt : i < l.length
    · have hlti : (i : Int) < l.length := by omega
      have hi0 : (0 : Int) ≤ i := by omega
      obtain ⟨g, o, xk, xb, xd, xs, xa1, xn1, xc1, xa2, xn2, xc2, rfl, htx, hcell⟩ := row_elem HR.out HTL.out rfl i hlt; obtain ⟨x0, x1, x2, x3, x4, x5, x6, x7⟩ := hcell wr (fun g hg hlt => HX.out.block g hlt hg); have HTX := Hd (htx.keep (w' := wr) (A' := fun g => g ≠ p) HX.out.size (fun g hg hlt => ⟨hg, HX.out.block g hlt hg⟩)); have HNI := Hd (HNS.out i hlt); have HSI := Hd (HSB.out i)
      have HTK := Hd (saneL_take (deep + 1) (n + 1) hlt HZ.out); have HAT := Hd (saneL_at (deep + 1) (n + 1) hlt HZ.out); clear htx hcell; generalize l[i] = x at *; obtain ⟨ni, hni⟩ := Ex ((saneL (deep + 1) (n + 1) (l.take i)).2); have hcr := HCR.out; have hsi := HSI.out; have htk := HTK.out; have hat := HAT.out; rw [hni] at hcr hsi htk hat; replace HCR := Hd hcr; replace HSI := Hd hsi
      replace HTK := Hd htk; replace HAT := Hd hat; clear hni hcr hsi htk hat; have hv3 := VAt.new wr #[.int .i64 xk, .bool xb, .bool xd.neg, .string ⟨xd.digits.toArray⟩, .int .i64 xd.exp, .string ⟨xs.toArray⟩, .slice xa1 xn1 xc1, .slice xa2 xn2 xc2]
      have hx3 : Ext wr (wr.alloc (.cells #[.int .i64 xk, .bool xb, .bool xd.neg, .string ⟨xd.digits.toArray⟩, .int .i64 xd.exp, .string ⟨xs.toArray⟩, .slice xa1 xn1 xc1, .slice xa2 xn2 xc2] 27)) := (ext_refl wr).alloc (Nat.le_refl _) _; obtain ⟨P, hP⟩ := Ex wr.heap.size; rw [hP] at hv3; go_upto_region 13 with fail; clear x0 x1 x2 x3 x4 x5 x6 x7 hP
      generalize wr.alloc (.cells #[.int .i64 xk, .bool xb, .bool xd.neg, .string ⟨xd.digits.toArray⟩, .int .i64 xd.exp, .string ⟨xs.toArray⟩, .slice xa1 xn1 xc1, .slice xa2 xn2 xc2] 27) = w6 at *; obtain ⟨c0, c1, c2, c3, c4, c5, c6, c7⟩ := hv3.c8; clear hv3; have HX6 := Hd hx3; clear hx3
      have HCALL := Hd (IH.out x _ (deep + 1) ni p w6 HNI.out.1 HNI.out.2.1 (by have := HNI.out; omega) (by have := HNI.out; have := HSI.out; omega) (HTX.out.keep (A' := fun g => g ≠ p) HX6.out.size (fun g hg hlt => ⟨hg, HX6.out.block g hlt⟩)) (HCR.out.ext HX6.out)); have hcall := HCALL.out; simp only [cellsV] at hcall; rw [show ((deep + 1 : Nat) : Int) = (deep : Int) + 1 by omega] at hcall
      replace HCALL := Hd hcall; clear hcall; have e9 : IntKind.i64.wrap ((i : Int) + 1) = ((i + 1 : Nat) : Int) := by rw [IntWalk.i64_in _ (by omega)]; omega
      go_wp2_with fail; refine (HCALL.out).mono ?_; rintro e w7 ⟨rfl, hc7, hk7⟩; have HK7 := Hd (HX.out.trans ((Kept.ofBelow (HX6.out.mono HX.out.size)).trans (hk7.mono (Nat.le_trans HX.out.size HX6.out.size)))); have HC7 := Hd hc7; clear hc7 hk7 c0 c1 c2 c3 c4 c5 c6 c7; obtain ⟨Q, hQ⟩ := Ex (saneT (deep + 1) ni x); have hc7 := HC7.out; have htk := HTK.out; have hat := HAT.out; rw [hQ] at hc7 htk hat ⊢
      replace HC7 := Hd hc7; replace HTK := Hd htk; replace HAT := Hd hat; clear hQ hc7 htk hat; obtain ⟨er, n2⟩ := Q; simp only at HC7 HAT HTK ⊢; by_cases her : er = 0
      · subst her; go_wp2_with fail; go_roundw
        case rel => exact ⟨i + 1, by go_num, by omega, by rw [HTK.out], by rw [HTK.out]; exact HC7.out, HK7.out⟩
        case measure => simp [intOf]; omega
      · have hern : (er != 0) = true := by simpa using her
        have HF : Hid (R = (er, n2)) := Hd (by rw [← HRR3.out, HAT.out, if_neg her]); go_wp2_with fail; go_ret; rw [HF.out]; exact ⟨rfl, HC7.out, HK5.out.trans (HK7.out.mono HK5.out.size)⟩
    · obtain rfl : i = l.length := by omega
      have hnlt : ¬ ((l.length : Int) < (l.length : Int)) := by omega
      have HF : Hid (R.1 = 0 ∧ NAt wr p R.2) := Hd (by
       have h1 := HZ.out; have h2 := HCR.out; rw [List.take_length] at h1 h2; rw [← HRR3.out]; exact ⟨h1, h2⟩)
      go_wp2_with fail; go_ret; exact ⟨ret_int HF.out.1.symm, HF.out.2, HK5.out.trans (HX.out.mono HK5.out.size)⟩
 · go_wp2_with fail; refine (HIN.out).mono ?_; rintro e w5 ⟨v5, cs, rfl, hown, htl, hw5⟩; obtain ⟨a5, cc5, rfl⟩ := ownsRow_shape hown; have hs4 : S ≤ w4.heap.size := by have := HK.out.size; have := HS.out; omega
   have HR := Hd (RowAt.own hown (by decide) (A := fun g => g ≠ p) (fun g _ hb _ => by have := HPS.out; omega)); have HTL := Hd htl; have HC5 := Hd (HC.out.ext hw5); have HK5 := Hd (HK.out.trans (Kept.ofBelow (hw5.mono HK.out.size))); clear hown htl hw5 c0 c1 c2 c3 c4 c5 c6 c7 r0 f0 hni; go_wp2_with fail
   go_loopw [42] (fun iv wr => ∃ i : Nat, iv = .int .i64 i ∧ i ≤ l.length ∧ (saneL (deep + 1) (n + 1) (l.take i)).1 = 0 ∧ NAt wr p (saneL (deep + 1) (n + 1) (l.take i)).2 ∧ Kept w5.heap.size p w5 wr) (fun iv _ => 2000000 - (intOf iv).toNat)
   case atStart => exact ⟨0, rfl, by omega, by rw [List.take_zero, saneL], by rw [List.take_zero, saneL]; exact HC5.out, Kept.refl _ _ _⟩
   case round =>
    obtain ⟨i, rfl, hi, hz, hc, hE⟩ := hrel; have HX := Hd hE; have HCR := Hd hc; have HZ := Hd hz; clear hE hc hz; have hll := HLEN.out; by_cases hlt : i < l.length
    · have hlti : (i : Int) < l.length := by omega
      have hi0 : (0 : Int) ≤ i := by omega
      obtain ⟨g, o, xk, xb, xd, xs, xa1, xn1, xc1, xa2, xn2, xc2, rfl, htx, hcell⟩ := row_elem HR.out HTL.out rfl i hlt; obtain ⟨x0, x1, x2, x3, x4, x5, x6, x7⟩ := hcell wr (fun g hg hlt => HX.out.block g hlt hg); have HTX := Hd (htx.keep (w' := wr) (A' := fun g => g ≠ p) HX.out.size (fun g hg hlt => ⟨hg, HX.out.block g hlt hg⟩)); have HNI := Hd (HNS.out i hlt); have HSI := Hd (HSB.out i)
      have HTK := Hd (saneL_take (deep + 1) (n + 1) hlt HZ.out); have HAT := Hd (saneL_at (deep + 1) (n + 1) hlt HZ.out); clear htx hcell; generalize l[i] = x at *; obtain ⟨ni, hni⟩ := Ex ((saneL (deep + 1) (n + 1) (l.take i)).2); have hcr := HCR.out; have hsi := HSI.out; have htk := HTK.out; have hat := HAT.out; rw [hni] at hcr hsi htk hat; replace HCR := Hd hcr; replace HSI := Hd hsi
      replace HTK := Hd htk; replace HAT := Hd hat; clear hni hcr hsi htk hat; have hv3 := VAt.new wr #[.int .i64 xk, .bool xb, .bool xd.neg, .string ⟨xd.digits.toArray⟩, .int .i64 xd.exp, .string ⟨xs.toArray⟩, .slice xa1 xn1 xc1, .slice xa2 xn2 xc2]
      have hx3 : Ext wr (wr.alloc (.cells #[.int .i64 xk, .bool xb, .bool xd.neg, .string ⟨xd.digits.toArray⟩, .int .i64 xd.exp, .string ⟨xs.toArray⟩, .slice xa1 xn1 xc1, .slice xa2 xn2 xc2] 27)) := (ext_refl wr).alloc (Nat.le_refl _) _; obtain ⟨P, hP⟩ := Ex wr.heap.size; rw [hP] at hv3; go_upto_region 13 with fail; clear x0 x1 x2 x3 x4 x5 x6 x7 hP
      generalize wr.alloc (.cells #[.int .i64 xk, .bool xb, .bool xd.neg, .string ⟨xd.digits.toArray⟩, .int .i64 xd.exp, .string ⟨xs.toArray⟩, .slice xa1 xn1 xc1, .slice xa2 xn2 xc2] 27) = w6 at *; obtain ⟨c0, c1, c2, c3, c4, c5, c6, c7⟩ := hv3.c8; clear hv3; have HX6 := Hd hx3; clear hx3
      have HCALL := Hd (IH.out x _ (deep + 1) ni p w6 HNI.out.1 HNI.out.2.1 (by have := HNI.out; omega) (by have := HNI.out; have := HSI.out; omega) (HTX.out.keep (A' := fun g => g ≠ p) HX6.out.size (fun g hg hlt => ⟨hg, HX6.out.block g hlt⟩)) (HCR.out.ext HX6.out)); have hcall := HCALL.out; simp only [cellsV] at hcall; rw [show ((deep + 1 : Nat) : Int) = (deep : Int) + 1 by omega] at hcall
      replace HCALL := Hd hcall; clear hcall; have e9 : IntKind.i64.wrap ((i : Int) + 1) = ((i + 1 : Nat) : Int) := by rw [IntWalk.i64_in _ (by omega)]; omega
      go_wp2_with fail; refine (HCALL.out).mono ?_; rintro e w7 ⟨rfl, hc7, hk7⟩; have HK7 := Hd (HX.out.trans ((Kept.ofBelow (HX6.out.mono HX.out.size)).trans (hk7.mono (Nat.le_trans HX.out.size HX6.out.size)))); have HC7 := Hd hc7; clear hc7 hk7 c0 c1 c2 c3 c4 c5 c6 c7; obtain ⟨Q, hQ⟩ := Ex (saneT (deep + 1) ni x); have hc7 := HC7.out; have htk := HTK.out; have hat := HAT.out; rw [hQ] at hc7 htk hat ⊢
      replace HC7 := Hd hc7; replace HTK := Hd htk; replace HAT := Hd hat; clear hQ hc7 htk hat; obtain ⟨er, n2⟩ := Q; simp only at HC7 HAT HTK ⊢; by_cases her : er = 0
      · subst her; go_wp2_with fail; go_roundw
        case rel => exact ⟨i + 1, by go_num, by omega, by rw [HTK.out], by rw [HTK.out]; exact HC7.out, HK7.out⟩
        case measure => simp [intOf]; omega
      · have hern : (er != 0) = true := by simpa using her
        have HF : Hid (R = (er, n2)) := Hd (by rw [← HRR3.out, HAT.out, if_neg her]); go_wp2_with fail; go_ret; rw [HF.out]; exact ⟨rfl, HC7.out, HK5.out.trans (HK7.out.mono HK5.out.size)⟩
    · obtain rfl : i = l.length := by omega
      have hnlt : ¬ ((l.length : Int) < (l.length : Int)) := by omega
      have HF : Hid (R.1 = 0 ∧ NAt wr p R.2) := Hd (by
       have h1 := HZ.out; have h2 := HCR.out; rw [List.take_length] at h1 h2; rw [← HRR3.out]; exact ⟨h1, h2⟩)
      go_wp2_with fail; go_ret; exact ⟨ret_int HF.out.1.symm, HF.out.2, HK5.out.trans (HX.out.mono HK5.out.size)⟩
theorem Sane_any (t : Tree) (c : Array Value) (A : Nat → Prop) (w : World) (hw : weightT t ≤ 1000000) (h : TV w A t c) :
 Calls Tryz.prog 22 #[.agg c] w (fun e w' => e = .returned (.int .i64 (saneT 0 0 t).1) ∧ Ext w w') := by
 have key : ∀ N : Nat, ∀ (t : Tree) (c : Array Value) (deep n p : Nat) (w : World), SizeOf.sizeOf t < N → weightT t ≤ 1000000 → deep + countT t ≤ 1000000000 → n + countT t ≤ 1000000000 → TV w (fun g => g ≠ p) t c → NAt w p n →
  Calls Tryz.prog 51 #[.pointer (some ⟨p, 0, none⟩), .agg c, .int .i64 (deep : Nat)] w (fun e w' => e = .returned (.int .i64 (saneT deep n t).1) ∧ NAt w' p (saneT deep n t).2 ∧ Kept w.heap.size p w w') := by
  intro N; induction N with
  | zero => intro t c deep n p w h; omega
  | succ N ih => exact sane_step N ih
 have hcw := count_weight t; obtain ⟨k, b, d, s, la, ln, lc, ma, mn, mc, rfl⟩ := h.eight
 have HKEY : Hid (∀ (p : Nat) (w' : World), TV w' (fun g => g ≠ p) t (cellsV k b d s (.slice la ln lc) (.slice ma mn mc)) → NAt w' p 0 → Calls Tryz.prog 51 #[.pointer (some ⟨p, 0, none⟩), .agg (cellsV k b d s (.slice la ln lc) (.slice ma mn mc)), .int .i64 (0 : Nat)] w' (fun e w'' => e = .returned (.int .i64 (saneT 0 0 t).1) ∧ NAt w'' p (saneT 0 0 t).2 ∧ Kept w'.heap.size p w' w'')) := Hd (fun p w' h1 h2 => key _ t _ 0 0 p w' (Nat.lt_succ_self _) hw (by omega) (by omega) h1 h2)
 clear key hcw hw; obtain ⟨R, hR⟩ := Ex (saneT 0 0 t); rw [hR] at HKEY ⊢; clear hR; have hv := VAt.new w (cellsV k b d s (.slice la ln lc) (.slice ma mn mc)); have hx : Ext w (w.alloc (.cells (cellsV k b d s (.slice la ln lc) (.slice ma mn mc)) 27)) := (ext_refl w).alloc (Nat.le_refl _) _; simp only [cellsV] at hv hx HKEY ⊢; go_enter Tryz.func22, Tryz.ntmps22
 go_upto_region 1 with fail; obtain ⟨S, hS⟩ := Ex w.heap.size; have hsz : (w.alloc (.cells #[.int .i64 k, .bool b, .bool d.neg, .string ⟨d.digits.toArray⟩, .int .i64 d.exp, .string ⟨s.toArray⟩, .slice la ln lc, .slice ma mn mc] 27)).heap.size = S + 1 := by rw [← hS]; simp
 rw [hS] at hv ⊢; generalize w.alloc (.cells #[.int .i64 k, .bool b, .bool d.neg, .string ⟨d.digits.toArray⟩, .int .i64 d.exp, .string ⟨s.toArray⟩, .slice la ln lc, .slice ma mn mc] 27) = w1 at *; have hn : NAt (w1.alloc (.cells #[.int .i64 0] 69)) (S + 1) 0 := by have := heap_alloc_new w1 (.cells #[.int .i64 0] 69); rw [hsz] at this; exact this
 have hx2 : Ext w1 (w1.alloc (.cells #[.int .i64 0] 69)) := (ext_refl w1).alloc (Nat.le_refl _) _; have hv2 := hv.ext hx2; go_upto_region 2 with fail; generalize w1.alloc (.cells #[.int .i64 0] 69) = w2 at *; have hE := ext_trans hx hx2; have hcall := HKEY.out (S + 1) w2 (h.keep (w' := w2) (A' := fun g => g ≠ S + 1) hE.size (fun g _ hlt => ⟨by omega, hE.block g hlt⟩)) hn; have HCALL := Hd hcall
 have HE := Hd hE; have HS := Hd hS; obtain ⟨c0, c1, c2, c3, c4, c5, c6, c7⟩ := hv2.c8; clear hcall hE hx hx2 hv hv2 hn hsz h HKEY hS; go_wp2_with fail; refine (HCALL.out).mono ?_; rintro e w3 ⟨rfl, _, hk⟩; have HK := Hd hk; clear hk; go_wp2_with fail; go_ret; exact ⟨rfl, HE.out.trans ((HK.out.mono HE.out.size).below (by rw [HS.out]; omega))⟩
end Go.Proofs.YtjapbjmeoaagmaaGreatDoor
end

section
namespace Orange
structure PStep where
 name : List UInt8
 pos : Int
 named : Bool
abbrev Mem1 := List UInt8 × Tree
def findM (key : List UInt8) : List Mem1 → Option Tree
 | [] => none
 | (k, t) :: m => if k = key then some t else findM key m
def setM (key : List UInt8) (x : Tree) : List Mem1 → List Mem1
 | [] => []
 | (k, t) :: m => if k = key then (k, x) :: m else (k, t) :: setM key x m
def dropM (key : List UInt8) : List Mem1 → List Mem1
 | [] => []
 | (k, t) :: m => if k = key then m else (k, t) :: dropM key m
def Tree.withL : Tree → List Tree → Tree | .mk k b d s _ m, l => .mk k b d s l m
def Tree.withM : Tree → List Mem1 → Tree | .mk k b d s l _, m => .mk k b d s l m
def getT (t : Tree) (key : List UInt8) : Option Tree := if t.kind = 5 then findM key t.mems else none
def stepT (t : Tree) (s : PStep) : Option Tree :=
 if s.named = true then getT t s.name
 else if t.kind = 4 ∧ 0 ≤ s.pos ∧ s.pos < t.list.length then t.list[s.pos.toNat]? else none
def atT : Tree → List PStep → Option Tree
 | t, [] => some t
 | t, s :: l => match stepT t s with
   | none => none
   | some x => atT x l
def layT (t : Tree) (s : PStep) (x : Tree) : Tree :=
 if s.named = true then t.withM (setM s.name x t.mems) else t.withL (t.list.set s.pos.toNat x)
def kindS (s : PStep) : Int := if s.named = true then 5 else 4
def changeT (f : Tree → PStep → Bool → Tree × Int) : Tree → List PStep → Tree × Int
 | _, [] => (tNull, 0)
 | t, s :: l =>
   if t.kind ≠ kindS s then (tNull, 8)
   else match l with
    | [] => f t s (stepT t s).isSome
    | _ :: _ => match stepT t s with
      | none => (tNull, 6)
      | some x => if (changeT f x l).2 ≠ 0 then (tNull, (changeT f x l).2) else (layT t s (changeT f x l).1, 0)
def putF (x : Tree) (t : Tree) (s : PStep) (is : Bool) : Tree × Int :=
 if is = true then (layT t s x, 0)
 else if s.named = true then (t.withM (t.mems ++ [(s.name, x)]), 0)
 else if s.pos = t.list.length then (t.withL (t.list ++ [x]), 0)
 else (tNull, 6)
def dropF (t : Tree) (s : PStep) (is : Bool) : Tree × Int :=
 if is = false then (tNull, 6)
 else if s.named = true then (t.withM (dropM s.name t.mems), 0)
 else (t.withL (t.list.eraseIdx s.pos.toNat), 0)
def putT (t : Tree) (l : List PStep) (x : Tree) : Tree × Int := if l = [] then (x, 0) else changeT (putF x) t l
def dropT (t : Tree) (l : List PStep) : Tree × Int := if l = [] then (tNull, 1) else changeT dropF t l
theorem findM_none {key : List UInt8} : ∀ {m : List Mem1}, key ∉ m.map (·.1) → findM key m = none
 | [], _ => rfl
 | (k, t) :: m, h => by
   simp only [List.map_cons, List.mem_cons, not_or] at h; rw [findM, if_neg (Ne.symm h.1), findM_none h.2]
theorem findM_mem {key : List UInt8} {x : Tree} : ∀ {m : List Mem1}, findM key m = some x → (key, x) ∈ m
 | [], h => by cases h
 | (k, t) :: m, h => by
   rw [findM] at h; by_cases e : k = key
   · rw [if_pos e] at h; cases h; rw [e]; exact List.mem_cons_self
   · rw [if_neg e] at h; exact List.mem_cons_of_mem _ (findM_mem h)
@[simp] theorem kind_withL (t : Tree) (l : List Tree) : (t.withL l).kind = t.kind := by cases t; rfl
@[simp] theorem kind_withM (t : Tree) (m : List Mem1) : (t.withM m).kind = t.kind := by cases t; rfl
@[simp] theorem list_withL (t : Tree) (l : List Tree) : (t.withL l).list = l := by cases t; rfl
@[simp] theorem mems_withM (t : Tree) (m : List Mem1) : (t.withM m).mems = m := by cases t; rfl
@[simp] theorem list_withM (t : Tree) (m : List Mem1) : (t.withM m).list = t.list := by cases t; rfl
@[simp] theorem mems_withL (t : Tree) (l : List Tree) : (t.withL l).mems = t.mems := by cases t; rfl
@[simp] theorem withL_withL (t : Tree) (l l' : List Tree) : (t.withL l).withL l' = t.withL l' := by cases t; rfl
@[simp] theorem withM_withM (t : Tree) (m m' : List Mem1) : (t.withM m).withM m' = t.withM m' := by cases t; rfl
@[simp] theorem withL_list (t : Tree) : t.withL t.list = t := by cases t; rfl
@[simp] theorem withM_mems (t : Tree) : t.withM t.mems = t := by cases t; rfl
def sameStep (s r : PStep) : Prop := s.named = r.named ∧ (s.named = true → s.name = r.name) ∧ (s.named = false → s.pos = r.pos)
instance (s r : PStep) : Decidable (sameStep s r) := inferInstanceAs (Decidable (_ ∧ _ ∧ _))
theorem changeT_one (f : Tree → PStep → Bool → Tree × Int) (t : Tree) (s : PStep) : changeT f t [s] = if t.kind ≠ kindS s then (tNull, 8) else f t s (stepT t s).isSome := by rw [changeT]
def aheadP : List PStep → List PStep → Prop
 | [], _ => True
 | _ :: _, [] => False
 | s :: l, r :: m => sameStep s r ∧ aheadP l m
def hasKey (key : List UInt8) (p : Mem1) : Bool := p.1 == key
theorem find_idx (key : List UInt8) (m : List Mem1) : (findM key m = none ∧ fIdx (hasKey key) m = -1) ∨ ∃ i, ∃ h : i < m.length, fIdx (hasKey key) m = i ∧ m[i].1 = key ∧ findM key m = some m[i].2 ∧ (∀ x, setM key x m = m.set i (key, x)) ∧ dropM key m = m.eraseIdx i := by
 have main : ∀ m : List Mem1, (findM key m = none ∧ ∀ j (hj : j < m.length), hasKey key m[j] = false) ∨ ∃ i, ∃ h : i < m.length, (∀ j (hj : j < i), hasKey key (m[j]'(by omega)) = false) ∧ m[i].1 = key ∧ findM key m = some m[i].2 ∧ (∀ x, setM key x m = m.set i (key, x)) ∧ dropM key m = m.eraseIdx i := by
  intro m; induction m with
  | nil => exact .inl ⟨rfl, fun j hj => absurd hj (by simp)⟩
  | cons p m ih =>
    obtain ⟨k, t⟩ := p; by_cases e : k = key
    · refine .inr ⟨0, by simp, fun j hj => by omega, e, ?_, fun x => ?_, ?_⟩
      · rw [findM, if_pos e]; rfl
      · rw [setM, if_pos e, e]; rfl
      · rw [dropM, if_pos e]; rfl
    · rcases ih with ⟨h1, h2⟩ | ⟨i, hi, h1, h2, h3, h4, h5⟩
      · refine .inl ⟨by rw [findM, if_neg e]; exact h1, fun j hj => ?_⟩; cases j with
        | zero => simpa [hasKey] using e
        | succ j => exact h2 j (by simpa using hj)
      · refine .inr ⟨i + 1, by simpa using hi, fun j hj => ?_, by simpa using h2, ?_, fun x => ?_, ?_⟩
        · cases j with
          | zero => simpa [hasKey] using e
          | succ j => exact h1 j (by omega)
        · rw [findM, if_neg e, h3]; rfl
        · rw [setM, if_neg e, h4]; rfl
        · rw [dropM, if_neg e, h5]; rfl
 rcases main m with ⟨h1, h2⟩ | ⟨i, hi, h1, h2, h3⟩
 · exact .inl ⟨h1, fIdx_none h2⟩
 · exact .inr ⟨i, hi, fIdx_hit hi h1 (by simpa [hasKey] using h2), h2, h3⟩
end Orange
namespace Go.Proofs.YtjapbjmeoaagmaaGreatDoor
open Go.RowKit Go.Mem Orange
set_option maxHeartbeats 1600000 in
theorem placeK_any (q : Nat) (key k : List UInt8) (x1 x2 x3 x4 x5 x6 x7 x8 : Value) (w : World) (hq : w.cell? ⟨q, 0, none⟩ = some (.string ⟨key.toArray⟩)) (hql : q < w.heap.size) :
 Calls Tryz.prog 83 #[.agg #[.string ⟨k.toArray⟩, x1, x2, x3, x4, x5, x6, x7, x8], .pointer (some ⟨q, 0, none⟩)] w (fun e w' => e = .returned (.bool (k == key)) ∧ Ext w w') := by
 have hm := MAt.new w #[.string ⟨k.toArray⟩, x1, x2, x3, x4, x5, x6, x7, x8]; have hx : Ext w (w.alloc (.cells #[.string ⟨k.toArray⟩, x1, x2, x3, x4, x5, x6, x7, x8] 43)) := (ext_refl w).alloc (Nat.le_refl _) _; have hq2 : (w.alloc (.cells #[.string ⟨k.toArray⟩, x1, x2, x3, x4, x5, x6, x7, x8] 43)).cell? ⟨q, 0, none⟩ = some (.string ⟨key.toArray⟩) := by
  rw [hx.cell (p := ⟨q, 0, none⟩) hql]; exact hq
 go_enter Tryz.func83, Tryz.ntmps83
 go_upto_region 1 with fail; generalize w.alloc (.cells #[.string ⟨k.toArray⟩, x1, x2, x3, x4, x5, x6, x7, x8] 43) = w1 at *; have x0 := hm.cell 0; simp at x0; obtain ⟨S, hS⟩ := Ex w.heap.size; rw [hS] at x0 ⊢; clear hm hq hql hS; have HE := Hd hx; clear hx; go_wp2_with fail; go_ret; exact ⟨ret_bool (by first | rfl | simp), HE.out⟩
set_option maxHeartbeats 1600000 in
theorem index_place (q : Nat) (key : List UInt8) (v : Value) (m : List Mem1) (cs : List Value) (A : Nat → Prop) (w : World) (hr : RowAt w A 9 v m.length cs) (ht : TM w A m cs) (hq : w.cell? ⟨q, 0, none⟩ = some (.string ⟨key.toArray⟩) ∧ q < w.heap.size) :
 Calls Tryz.prog 82 #[v, .func (.func 83) #[] #[.pointer (some ⟨q, 0, none⟩)]] w (fun e w' => e = .returned (.int .i64 (fIdx (hasKey key) m)) ∧ Ext w w') := by
 obtain ⟨_, a, cap, rfl, hcap, hcm, -⟩ := id hr; have HR := Hd hr; have HT := Hd ht; have HQ := Hd hq; clear hr ht hq; obtain ⟨R, hR⟩ := Ex (fIdx (hasKey key) m); rw [hR]; have HRR := Hd hR; clear hR; go_enter Tryz.func82, Tryz.ntmps82
 go_wp2_with fail; go_loopw [8] (fun iv wr => ∃ i : Nat, iv = .int .i64 i ∧ i ≤ m.length ∧ (∀ j (hj : j < m.length), j < i → hasKey key m[j] = false) ∧ Ext w wr) (fun iv _ => 9223372036854775808 - (intOf iv).toNat)
 case atStart => exact ⟨0, rfl, by omega, fun j _ h => by omega, ext_refl _⟩
 case round =>
  obtain ⟨i, rfl, hi, hall, hE⟩ := hrel; have HA := Hd hall; have HX := Hd hE; clear hall hE; by_cases hlt : i < m.length
  · have hlti : (i : Int) < m.length := by omega
    have hi0 : (0 : Int) ≤ i := by omega
    obtain ⟨g, o, xk, xb, xd, xs, xa1, xn1, xc1, xa2, xn2, xc2, rfl, htx, hcell⟩ := mem_elem HR.out HT.out rfl i hlt; obtain ⟨x0, x1, x2, x3, x4, x5, x6, x7, x8⟩ := hcell wr (fun g _ hg => HX.out.block g hg); have HHIT : Hid (hasKey key m[i] = true → R = i) := Hd (fun h => by rw [← HRR.out]; exact fIdx_hit hlt (fun j hj => HA.out j (by omega) hj) h)
    have HMISS : Hid (hasKey key m[i] = false → ∀ j (hj : j < m.length), j < i + 1 → hasKey key m[j] = false) := Hd (fun h j hj hji => by
     by_cases e : j = i
     · subst e; exact h
     · exact HA.out j hj (by omega))
    obtain ⟨B, hB⟩ := Ex (hasKey key m[i]); rw [hB] at HHIT HMISS; have HB := Hd hB; obtain ⟨ky, hky⟩ := Ex (m[i].1); rw [hky] at x0; have HKY := Hd hky; clear htx hcell hB hky; have e9 : IntKind.i64.wrap ((i : Int) + 1) = ((i + 1 : Nat) : Int) := by rw [IntWalk.i64_in _ (by omega)]; omega
    go_wp2_with fail; refine (placeK_any q key ky _ _ _ _ _ _ _ _ wr (by rw [HX.out.cell (p := ⟨q, 0, none⟩) HQ.out.2]; exact HQ.out.1) (Nat.lt_of_lt_of_le HQ.out.2 HX.out.size)).mono ?_; rintro e w4 ⟨rfl, hw4⟩; rw [show (ky == key) = B from by rw [← HB.out, ← HKY.out]; rfl]; have HE4 := Hd (ext_trans HX.out hw4); clear hw4 x0 x1 x2 x3 x4 x5 x6 x7 x8; cases B with
    | true =>
      go_wp2_with fail; go_ret; exact ⟨ret_int (HHIT.out (by first | rfl | trivial)).symm, HE4.out⟩
    | false =>
      go_wp2_with fail; go_roundw
      case rel => exact ⟨i + 1, by go_num, by omega, HMISS.out (by first | rfl | trivial), HE4.out⟩
      case measure => simp [intOf]; omega
  · obtain rfl : i = m.length := by omega
    have hnlt : ¬ ((m.length : Int) < (m.length : Int)) := by omega
    have HF : Hid (R = -1) := Hd (by rw [← HRR.out]; exact fIdx_none (fun j hj => HA.out j hj hj)); go_wp2_with fail; go_ret; exact ⟨ret_int HF.out.symm, HX.out⟩
set_option maxHeartbeats 1600000 in
theorem place_any (key : List UInt8) (v : Value) (m : List Mem1) (cs : List Value) (A : Nat → Prop) (w : World) (hr : RowAt w A 9 v m.length cs) (ht : TM w A m cs) :
 Calls Tryz.prog 52 #[v, .string ⟨key.toArray⟩] w (fun e w' => e = .returned (.int .i64 (fIdx (hasKey key) m)) ∧ Ext w w') := by
 have hmf : ∀ (fn : Fn) (first cap : Array Value) (w : World), (Instr.makeFunc fn first cap).run Tryz.prog w = .ok (.func fn first cap) w := fun _ _ _ _ => rfl; have hx : Ext w (w.alloc (.cells #[.string ⟨key.toArray⟩] 9)) := (ext_refl w).alloc (Nat.le_refl _) _
 have hq : (w.alloc (.cells #[.string ⟨key.toArray⟩] 9)).cell? ⟨w.heap.size, 0, none⟩ = some (.string ⟨key.toArray⟩) ∧ w.heap.size < (w.alloc (.cells #[.string ⟨key.toArray⟩] 9)).heap.size := ⟨by rw [cell_of_cells (heap_alloc_new _ _)]; rfl, by simp⟩
 have HR := Hd (hr.keep (A' := fun _ => True) hx.size (fun g _ hlt => ⟨trivial, hx.block g hlt⟩)); have HT := Hd (ht.keep (A' := fun _ => True) hx.size (fun g _ hlt => ⟨trivial, hx.block g hlt⟩)); clear hr ht; obtain ⟨R, hR⟩ := Ex (fIdx (hasKey key) m); have hidx := index_place w.heap.size key v m cs _ _ HR.out HT.out hq; rw [hR] at hidx ⊢; have HIDX := Hd hidx; clear hidx hR
 go_enter Tryz.func52, Tryz.ntmps52
 go_wp2_with fail; refine HIDX.out.mono ?_; rintro e w2 ⟨rfl, hw2⟩; go_wp2_with fail; go_ret; exact ⟨rfl, ext_trans hx hw2⟩
end Go.Proofs.YtjapbjmeoaagmaaGreatDoor
end

section
namespace Orange
def SaneP (t : Tree) : Prop := ∃ deep n, (Go.Proofs.YtjapbjmeoaagmaaGreatDoor.saneT deep n t).1 = 0
theorem twiceP_nodup : ∀ (l met : List (List UInt8)), Go.Proofs.YtjapbjmeoaagmaaGreatDoor.twiceP met l = false → l.Nodup ∧ ∀ k ∈ l, k ∉ met
 | [], _, _ => ⟨List.nodup_nil, by simp⟩
 | k :: l, met, h => by
   rw [Go.Proofs.YtjapbjmeoaagmaaGreatDoor.twiceP, Bool.or_eq_false_iff] at h; obtain ⟨h1, h2⟩ := twiceP_nodup l (k :: met) h.2; have hk : k ∉ met := by simpa using h.1
   refine ⟨List.nodup_cons.2 ⟨fun hm => h2 k hm List.mem_cons_self, h1⟩, fun x hx => ?_⟩; rcases List.mem_cons.1 hx with rfl | hx
   · exact hk
   · exact fun hm => h2 x hx (List.mem_cons_of_mem _ hm)
theorem saneL_mem : ∀ (l : List Tree) (deep n : Nat), (Go.Proofs.YtjapbjmeoaagmaaGreatDoor.saneL deep n l).1 = 0 → ∀ x ∈ l, ∃ n', (Go.Proofs.YtjapbjmeoaagmaaGreatDoor.saneT deep n' x).1 = 0
 | [], _, _, _ => by simp
 | t :: l, deep, n, h => by
   rw [Go.Proofs.YtjapbjmeoaagmaaGreatDoor.saneL] at h; cases ht : Go.Proofs.YtjapbjmeoaagmaaGreatDoor.saneT deep n t with
   | mk e n' =>
     rw [ht] at h; simp only at h; by_cases he : e = 0
     · rw [if_pos he] at h; intro x hx; rcases List.mem_cons.1 hx with rfl | hx
       · exact ⟨n, by rw [ht]; exact he⟩
       · exact saneL_mem l deep n' h x hx
     · rw [if_neg he] at h; exact absurd h he
theorem SaneP.parts {t : Tree} (h : SaneP t) : Go.Proofs.YtjapbjmeoaagmaaGreatDoor.fieldsT t = true ∧ (t.mems.map (·.1)).Nodup ∧ ∀ x ∈ t.ins, SaneP x := by
 obtain ⟨deep, n, h⟩ := h; rw [Go.Proofs.YtjapbjmeoaagmaaGreatDoor.saneT_ins] at h; split at h
 · exact absurd h (by simp)
 · next h1 =>
   split at h
   · exact absurd h (by simp)
   · next h2 =>
     split at h
     · exact absurd h (by simp)
     · split at h
       · exact absurd h (by simp)
       · exact ⟨by simpa using h1, (twiceP_nodup _ [] (by simpa using h2)).1, fun x hx => by
          obtain ⟨n', h'⟩ := saneL_mem _ _ _ h x hx; exact ⟨_, n', h'⟩⟩
theorem SaneP.step {t x : Tree} {s : PStep} (h : SaneP t) (hs : stepT t s = some x) : SaneP x := by
 refine h.parts.2.2 x ?_; unfold stepT getT at hs; unfold Tree.ins; split at hs
 · split at hs
   · exact List.mem_append_right _ (List.mem_map.2 ⟨_, findM_mem hs, rfl⟩)
   · cases hs
 · split at hs
   · exact List.mem_append_left _ (List.mem_of_getElem? hs)
   · cases hs
def un (r : Int) : List UInt8 := if 2097152 ≤ r then [byte (r - 2097152)] else enc r
def lexB : List UInt8 → List UInt8 → Bool
 | [], [] => false
 | [], _ :: _ => true
 | _ :: _, [] => false
 | a :: l, b :: m => if a.toNat = b.toNat then lexB l m else decide (a.toNat < b.toNat)
def firstsL : List (List UInt8) → List Mem1 → List Mem1
 | _, [] => []
 | met, (k, t) :: m => if met.contains k = true then firstsL met m else (k, t) :: firstsL (k :: met) m
mutual
def sameT : Tree → Tree → Bool
 | .mk k b d s l m, u => decide (k = u.kind) && (b == u.bit) && decide (d = u.num) && decide (s = u.str) && decide (m.length = u.mems.length) && sameL l u.list && (sameM [] m u.mems && decide ((firstsL [] m).length = (firstsL [] u.mems).length))
def sameL : List Tree → List Tree → Bool
 | [], [] => true
 | t :: l, t' :: l' => sameT t t' && sameL l l'
 | [], _ :: _ => false
 | _ :: _, [] => false
def sameM : List (List UInt8) → List Mem1 → List Mem1 → Bool
 | _, [], _ => true
 | met, (k, t) :: m, m' => (met.contains k || match findM k m' with
    | none => false
    | some t' => sameT t t') && sameM (k :: met) m m'
end
mutual
def distT : Tree → Prop
 | .mk _ _ _ _ l m => (m.map (·.1)).Nodup ∧ distL l ∧ distM m
def distL : List Tree → Prop
 | [] => True
 | t :: l => distT t ∧ distL l
def distM : List Mem1 → Prop
 | [] => True
 | (_, t) :: m => distT t ∧ distM m
end
theorem distL_iff : ∀ l : List Tree, distL l ↔ ∀ t ∈ l, distT t
 | [] => by simp [distL]
 | t :: l => by simp [distL, distL_iff l]
theorem distM_iff : ∀ l : List Mem1, distM l ↔ ∀ p ∈ l, distT p.2
 | [] => by simp [distM]
 | (k, t) :: l => by simp [distM, distM_iff l]
theorem firstsL_nodup : ∀ (m : List Mem1) (met : List (List UInt8)), (m.map (·.1)).Nodup → (∀ k ∈ m.map (·.1), k ∉ met) → firstsL met m = m
 | [], _, _, _ => rfl
 | (k, t) :: m, met, h, hd => by
   simp only [List.map_cons, List.nodup_cons] at h; rw [firstsL, if_neg (by simpa using hd k (by simp)), firstsL_nodup m (k :: met) h.2 (fun x hx hm => ?_)]; rcases List.mem_cons.1 hm with rfl | hm
   · exact h.1 hx
   · exact hd x (by simp only [List.map_cons, List.mem_cons]; exact .inr hx) hm
theorem findM_of_mem {k : List UInt8} {t : Tree} : ∀ {m : List Mem1}, (m.map (·.1)).Nodup → (k, t) ∈ m → findM k m = some t
 | [], _, h => by cases h
 | (k', t') :: m, hn, h => by
   simp only [List.map_cons, List.nodup_cons] at hn; rw [findM]; rcases List.mem_cons.1 h with e | h
   · cases e; rw [if_pos rfl]
   · rw [if_neg (fun e => hn.1 (by rw [e]; exact List.mem_map.2 ⟨_, h, rfl⟩)), findM_of_mem hn.2 h]
theorem sameM_nodup : ∀ (m m' : List Mem1) (met : List (List UInt8)), (m.map (·.1)).Nodup → (∀ k ∈ m.map (·.1), k ∉ met) → (sameM met m m' = true ↔ ∀ p ∈ m, ∃ t', findM p.1 m' = some t' ∧ sameT p.2 t' = true)
 | [], m', met, _, _ => by simp [sameM]
 | (k, t) :: m, m', met, h, hd => by
   simp only [List.map_cons, List.nodup_cons] at h; rw [sameM, Bool.and_eq_true, sameM_nodup m m' (k :: met) h.2 (fun x hx hm => by
    rcases List.mem_cons.1 hm with rfl | hm
    · exact h.1 hx
    · exact hd x (by simp only [List.map_cons, List.mem_cons]; exact .inr hx) hm)]
   have hc : met.contains k = false := by simpa using hd k (by simp)
   rw [hc, Bool.false_or]; cases hf : findM k m' with
   | none => simp [hf]
   | some t' => simp [hf]
end Orange
end

section
set_option maxRecDepth 100000
namespace Go.Proofs.YtjapbjmeoaagmaaGreatDoor
open Go.ChangeShapes Go.WideShapes Go.ChangeAt Go.RowKit Go.Mem
end Go.Proofs.YtjapbjmeoaagmaaGreatDoor
end

section
set_option maxRecDepth 100000
namespace Orange
def i64R (n : Int) : Prop := -9223372036854775808 ≤ n ∧ n ≤ 9223372036854775807
mutual
def okT : Tree → Prop
 | .mk k _ d s l m => i64R k ∧ i64R d.exp ∧ d.digits.length ≤ 140737488355328 ∧ s.length ≤ 140737488355328 ∧ l.length ≤ 140737488355328 ∧ m.length ≤ 140737488355328 ∧ okL l ∧ okM m
def okL : List Tree → Prop
 | [] => True
 | t :: l => okT t ∧ okL l
def okM : List Mem1 → Prop
 | [] => True
 | (k, t) :: m => k.length ≤ 140737488355328 ∧ okT t ∧ okM m
end
theorem okL_iff : ∀ l : List Tree, okL l ↔ ∀ t ∈ l, okT t
 | [] => by simp [okL]
 | t :: l => by simp [okL, okL_iff l]
theorem okM_iff : ∀ l : List Mem1, okM l ↔ ∀ p ∈ l, p.1.length ≤ 140737488355328 ∧ okT p.2
 | [] => by simp [okM]
 | (k, t) :: l => by simp [okM, okM_iff l, and_assoc]
end Orange
namespace Go.Proofs.YtjapbjmeoaagmaaGreatDoor
open Go.RowKit Go.Mem Orange Go.ChangeShapes Go.WideShapes Go.ChangeAt
theorem tl_build {W : World} {A : Nat → Prop} {g o : Nat} : ∀ n : Nat, (∀ i, i < n → ∃ t c, TV W A t c ∧ okT t ∧ ∀ j, j < 8 → W.cell? ⟨g, o + i * 8 + j, none⟩ = c[j]?) →
 ∃ l cs, l.length = n ∧ TL W A l cs ∧ okL l ∧ ∀ i, (h : i < cs.length) → W.cell? ⟨g, o + i, none⟩ = some cs[i]
 | 0, _ => ⟨[], [], rfl, .nil, trivial, fun i h => absurd h (by simp)⟩
 | n + 1, H => by
   obtain ⟨l, cs, h1, h2, h3, h4⟩ := tl_build n (fun i hi => H i (by omega)); obtain ⟨t, c, k1, k2, k3⟩ := H n (by omega); have hl := h2.length; have hc := k1.size; refine ⟨l ++ [t], cs ++ c.toList, by simp [h1], TL.append h2 k1, (okL_iff _).2 (fun x hx => ?_), fun i hi => ?_⟩
   · rcases List.mem_append.1 hx with hx | hx
     · exact (okL_iff l).1 h3 x hx
     · rw [List.mem_singleton.1 hx]; exact k2
   · simp only [List.length_append, Array.length_toList] at hi; by_cases hlt : i < cs.length
     · rw [h4 i hlt, List.getElem_append_left hlt]
     · have := k3 (i - cs.length) (by omega); rw [show o + n * 8 + (i - cs.length) = o + i by omega] at this; rw [this, List.getElem_append_right (by omega), Array.getElem_toList]; simp [Array.getElem?_eq_getElem (show i - cs.length < c.size by omega)]
theorem tm_build {W : World} {A : Nat → Prop} {g o : Nat} : ∀ n : Nat, (∀ i, i < n → ∃ (k : List UInt8) (t : Tree) (c : Array Value), TV W A t c ∧ k.length ≤ 140737488355328 ∧ okT t ∧ W.cell? ⟨g, o + i * 9, none⟩ = some (.string ⟨k.toArray⟩) ∧ ∀ j, j < 8 → W.cell? ⟨g, o + i * 9 + 1 + j, none⟩ = c[j]?) →
 ∃ l cs, l.length = n ∧ TM W A l cs ∧ okM l ∧ ∀ i, (h : i < cs.length) → W.cell? ⟨g, o + i, none⟩ = some cs[i]
 | 0, _ => ⟨[], [], rfl, .nil, trivial, fun i h => absurd h (by simp)⟩
 | n + 1, H => by
   obtain ⟨l, cs, h1, h2, h3, h4⟩ := tm_build n (fun i hi => H i (by omega)); obtain ⟨k, t, c, k1, k2, k3, k4, k5⟩ := H n (by omega); have hl := h2.length; have hc := k1.size; refine ⟨l ++ [(k, t)], cs ++ .string ⟨k.toArray⟩ :: c.toList, by simp [h1], TM.append h2 k1, (okM_iff _).2 (fun x hx => ?_), fun i hi => ?_⟩
   · rcases List.mem_append.1 hx with hx | hx
     · exact (okM_iff l).1 h3 x hx
     · rw [List.mem_singleton.1 hx]; exact ⟨k2, k3⟩
   · simp only [List.length_append, List.length_cons, Array.length_toList] at hi; by_cases hlt : i < cs.length
     · rw [h4 i hlt, List.getElem_append_left hlt]
     · by_cases he : i = cs.length
       · subst he; rw [show o + cs.length = o + n * 9 by omega, k4, List.getElem_append_right (Nat.le_refl _)]; simp
       · have := k5 (i - cs.length - 1) (by omega); rw [show o + n * 9 + 1 + (i - cs.length - 1) = o + i by omega] at this; rw [this, List.getElem_append_right (by omega)]; obtain ⟨j, hj⟩ : ∃ j, i - cs.length = j + 1 := ⟨i - cs.length - 1, by omega⟩
         simp only [hj, List.getElem_cons_succ, Array.getElem_toList, Nat.add_sub_cancel]; simp [Array.getElem?_eq_getElem (show j < c.size by omega)]
theorem trod_slice {H : Type} {enc : TypeId × Value → H} {P : Program} {W : World} {fuel : Nat} {t e : TypeId} {cs : List Value} {d : DataW H} {ps : List MemPlace} (ht : P.underlying t = some (.slice e)) (hz : 0 < P.cellsOf e)
 (h : DataW.trod enc P W 0 (fun _ => true) true (fuel + 1) t cs = some (d, ps)) :
 (cs = [.slice none 0 0] ∧ d = .nil) ∨ ∃ a n cap elems spare, cs = [.slice (some a) n cap] ∧ n ≤ cap ∧ cap ≤ maxLen ∧ d = .slice elems spare ∧ elems.length = n ∧
   ∀ i, i < n → ∃ x c ps', elems[i]? = some x ∧ DataW.trod enc P W 0 (fun _ => true) true fuel e c = some (x, ps') ∧ c.length = P.cellsOf e ∧ (∀ j, j < P.cellsOf e → W.cell? ((a.add (i * P.cellsOf e)).add j) = c[j]?) := by
 unfold DataW.trod at h; rw [ht] at h; match cs, h with
 | [.slice none 0 0], h => simp at h; exact .inl ⟨rfl, h.1.symm⟩
 | [.slice (some a) n cap], h =>
   right
   simp only at h; split at h
   · next hc =>
     obtain ⟨_, h1, h2⟩ := hc; rw [Option.bind_eq_some_iff] at h; obtain ⟨elems, he, h⟩ := h; rw [Option.map_eq_some_iff] at h; obtain ⟨rest, hr, h⟩ := h; simp only [Prod.mk.injEq] at h; refine ⟨a, n, cap, elems.map (·.1), rest.map (·.1), rfl, h1, h2, h.1.symm, by simpa using mapM_some_length he, fun i hi => ?_⟩; have hg := mapM_some_get he i i (by simp [hi]); have hlen := mapM_some_length he
     simp only [List.length_range] at hlen; rw [List.getElem?_eq_getElem (by omega), Option.bind_eq_some_iff] at hg; obtain ⟨c, hc, hg⟩ := hg; obtain ⟨_, hcl, hcc⟩ := World.cells?_some hc; exact ⟨elems[i].1, c, elems[i].2, by simp [List.getElem?_eq_getElem (show i < elems.length by omega)], hg, hcl, hcc⟩
   · cases h
theorem add_plain (g o i : Nat) : (⟨g, o, none⟩ : Addr).add i = ⟨g, o + i, none⟩ := by simp only [Addr.add]; split <;> simp_all
theorem weightsAll_mem {H : Type} {P : Program} {e : TypeId} : ∀ {l : List (DataW H)} {x : DataW H}, x ∈ l → ∀ n ∈ x.weights P e, n ∈ DataW.weightsAll P e l
 | y :: l, x, h, n, hn => by
   rw [DataW.weightsAll]; rcases List.mem_cons.1 h with rfl | h
   · exact List.mem_append_left _ hn
   · exact List.mem_append_right _ (weightsAll_mem h n hn)
section
variable {H : Type} {enc : TypeId × Value → H} {W : World}
noncomputable abbrev trodV (enc : TypeId × Value → H) (W : World) (fuel : Nat) (t : TypeId) (cs : List Value) : Option (DataW H × List MemPlace) := DataW.trod enc Tryz.prog W 0 (fun _ => true) true fuel t cs
theorem cells_val : Tryz.prog.cellsOf 27 = 8 := by kernel_rfl
theorem cells_mem : Tryz.prog.cellsOf 43 = 9 := by kernel_rfl
theorem bytes_val : Tryz.prog.bytesOf 27 = 112 := by kernel_rfl
theorem bytes_mem : Tryz.prog.bytesOf 43 = 128 := by kernel_rfl
theorem trod_dec {fuel : Nat} {cs : List Value} {d : DataW H} {ps : List MemPlace} (h : trodV enc W fuel 23 cs = some (d, ps)) (hw : ∀ n ∈ d.weights Tryz.prog 23, n ≤ reachBytes) :
 ∃ x : Num, cs = [.bool x.neg, .string ⟨x.digits.toArray⟩, .int .i64 x.exp] ∧ i64R x.exp ∧ x.digits.length ≤ 140737488355328 := by
 cases fuel with
 | zero => simp [trodV, DataW.trod] at h
 | succ fuel =>
   unfold trodV DataW.trod at h; rw [Tryz.underlying23] at h; simp only at h; split at h
   · next hc =>
     rw [Option.map_eq_some_iff] at h; obtain ⟨xs, hm, h⟩ := h; simp only [List.mapM_cons, List.mapM_nil, Option.bind_eq_bind, Option.bind_eq_some_iff, Option.pure_def, Option.some.injEq] at hm; obtain ⟨x0, h0, r0, ⟨x1, h1, r1, ⟨x2, h2, r2, rfl, rfl⟩, rfl⟩, rfl⟩ := hm; obtain ⟨b, e0, rfl⟩ := DataW.trod_bool Tryz.underlying4 h0; obtain ⟨s, e1, rfl, hs⟩ := DataW.trod_string Tryz.underlying9 h1
     obtain ⟨n, e2, rfl, hn⟩ := DataW.trod_int Tryz.underlying3 h2; have c3 : Tryz.prog.cellsOf 23 = 3 := by kernel_rfl
     have cb : Tryz.prog.cellsOf 4 = 1 := by kernel_rfl
     have cs' : Tryz.prog.cellsOf 9 = 1 := by kernel_rfl
     have ci : Tryz.prog.cellsOf 3 = 1 := by kernel_rfl
     rw [c3] at hc; rw [cb] at e0; rw [cs'] at e1; rw [ci] at e2; match cs, hc with
     | [y0, y1, y2], _ =>
       simp at e0 e1 e2; subst e0 e1 e2; simp only [Prod.mk.injEq] at h; have hsl : s.data.toList.length ≤ reachBytes := hw _ (by
        rw [← h.1, DataW.weights, Tryz.underlying23]; simp [DataW.weightsEach, DataW.weights])
       refine ⟨⟨b, s.data.toList, n⟩, by simp, ?_, Nat.le_trans hsl (by decide)⟩; simpa [Lit.wf, IntKind.min, IntKind.max, IntKind.signed, IntKind.bits, i64R] using hn
   · cases h
theorem trod_val (W : World) : ∀ (fuel : Nat) (cs : List Value) (d : DataW H) (ps : List MemPlace), trodV enc W fuel 27 cs = some (d, ps) → (∀ n ∈ d.weights Tryz.prog 27, n ≤ reachBytes) → ∃ t, TV W (fun _ => True) t ⟨cs⟩ ∧ okT t := by
 intro fuel; induction fuel using Nat.strongRecOn with
 | ind fuel ih =>
 intro cs d ps h hw; cases fuel with
 | zero => simp [trodV, DataW.trod] at h
 | succ fuel =>
   unfold trodV DataW.trod at h; rw [Tryz.underlying27] at h; simp only at h; split at h
   · next hc =>
     rw [Option.map_eq_some_iff] at h; obtain ⟨xs, hm, h⟩ := h; simp only [List.mapM_cons, List.mapM_nil, Option.bind_eq_bind, Option.bind_eq_some_iff, Option.pure_def, Option.some.injEq] at hm; obtain ⟨x0, h0, r0, ⟨x1, h1, r1, ⟨x2, h2, r2, ⟨x3, h3, r3, ⟨x4, h4, r4, ⟨x5, h5, r5, rfl, rfl⟩, rfl⟩, rfl⟩, rfl⟩, rfl⟩, rfl⟩ := hm; simp only [Prod.mk.injEq] at h
     have hwd : ∀ n ∈ DataW.weightsEach Tryz.prog [3, 4, 23, 9, 24, 25] [x0.1, x1.1, x2.1, x3.1, x4.1, x5.1], n ≤ reachBytes := fun n hn => hw n (by
      rw [← h.1, DataW.weights, Tryz.underlying27]; exact hn)
     simp only [DataW.weightsEach, List.append_nil, List.mem_append] at hwd; rw [cells_val] at hc; match cs, hc with
     | [y0, y1, y2, y3, y4, y5, y6, y7], _ =>
     have cb : Tryz.prog.cellsOf 4 = 1 := by kernel_rfl
     have cs' : Tryz.prog.cellsOf 9 = 1 := by kernel_rfl
     have ci : Tryz.prog.cellsOf 3 = 1 := by kernel_rfl
     have cd : Tryz.prog.cellsOf 23 = 3 := by kernel_rfl
     have cl : Tryz.prog.cellsOf 24 = 1 := by kernel_rfl
     have cm : Tryz.prog.cellsOf 25 = 1 := by kernel_rfl
     rw [ci] at h0; rw [cb] at h1; rw [cd] at h2; rw [cs'] at h3; rw [cl] at h4; rw [cm] at h5; simp only [List.drop_zero, List.drop_succ_cons, List.take_succ_cons, List.take_zero] at h0 h1 h2 h3 h4 h5; obtain ⟨n, e0, rfl, hn⟩ := DataW.trod_int Tryz.underlying3 h0; obtain ⟨b, e1, rfl⟩ := DataW.trod_bool Tryz.underlying4 h1
     obtain ⟨x, e2, hx1, hx2⟩ := trod_dec (d := x2.1) (ps := x2.2) h2 (fun n hn => hwd n (.inr (.inr (.inl hn)))); obtain ⟨s, e3, rfl, hs⟩ := DataW.trod_string Tryz.underlying9 h3; simp only [List.cons.injEq, and_true] at e0 e1 e2 e3; obtain ⟨rfl, rfl, rfl⟩ := e2; subst e0 e1 e3; have hsl : s.data.toList.length ≤ reachBytes := hwd _ (.inr (.inr (.inr (.inl (by simp [DataW.weights])))))
     have hk : i64R n := by simpa [Lit.wf, IntKind.min, IntKind.max, IntKind.signed, IntKind.bits, i64R] using hn
     have hL : ∃ l cl, TL W (fun _ => True) l cl ∧ RowAt W (fun _ => True) 8 y6 l.length cl ∧ okL l ∧ l.length ≤ 140737488355328 := by
      cases fuel with
      | zero => simp [DataW.trod] at h4
      | succ fuel =>
        rcases trod_slice (d := x4.1) (ps := x4.2) Tryz.underlying24 (by rw [cells_val]; decide) h4 with ⟨e, _⟩ | ⟨a, n, cap, elems, spare, e, hnc, hcm, hd, hel, hcell⟩
        · simp only [List.cons.injEq, and_true] at e; subst e; exact ⟨[], [], .nil, RowAt.nil _ _ _ _ _ (by omega), trivial, by simp⟩
        · simp only [List.cons.injEq, and_true] at e; subst e; have hwl : (elems.length + spare.length) * Tryz.prog.bytesOf 27 ≤ reachBytes ∧ ∀ n ∈ DataW.weightsAll Tryz.prog 27 elems, n ≤ reachBytes := by
           have h6 : ∀ n ∈ (x4.1).weights Tryz.prog 24, n ≤ reachBytes := fun n hn => hwd n (.inr (.inr (.inr (.inr (.inl hn))))); rw [hd, DataW.weights, Tryz.underlying24] at h6; exact ⟨h6 _ List.mem_cons_self, fun n hn => h6 n (List.mem_cons_of_mem _ (List.mem_append_left _ hn))⟩
          rw [bytes_val] at hwl; have hn47 : n ≤ 140737488355328 := by have := hwl.1; rw [hel] at this; simp only [reachBytes] at this; omega
          rcases Nat.eq_zero_or_pos n with hz | hz
          · subst hz; exact ⟨[], [], .nil, RowAt.nil _ _ _ _ _ (by simp only [maxLen] at hcm; omega), trivial, by simp⟩
          · obtain ⟨_, c0, _, _, _, hc0, hcell0⟩ := hcell 0 hz; rw [cells_val] at hcell0 hc0; have hsp : a.spot = none := by
             have := hcell0 0 (by omega); rw [List.getElem?_eq_getElem (by omega)] at this; have := World.cell?_spot this; simpa [Addr.add] using this
            obtain ⟨g, o, sp⟩ := a; simp only at hsp; subst hsp; have hg : g < W.heap.size := by
             have := hcell0 0 (by omega); rw [List.getElem?_eq_getElem (by omega)] at this; have := World.block_lt_of_cell? _ _ this; simpa [Addr.add] using this
            obtain ⟨l, cl, h7, h8, h9, h10⟩ := tl_build (W := W) (A := fun _ => True) (g := g) (o := o) n (fun i hi => by
             obtain ⟨x, c, ps', hxe, htx, hcl, hcc⟩ := hcell i hi; obtain ⟨t, ht1, ht2⟩ := ih fuel (by omega) c x ps' htx (fun n hn => hwl.2 n (weightsAll_mem (List.mem_of_getElem? hxe) n hn)); refine ⟨t, ⟨c⟩, ht1, ht2, fun j hj => ?_⟩; rw [cells_val] at hcc; have := hcc j hj; rw [add_plain, add_plain] at this; rw [this]; simp)
            refine ⟨l, cl, h8, ⟨by rw [h8.length], some ⟨g, o, none⟩, cap, by rw [h7], by omega, by simp only [maxLen] at hcm; omega, fun _ => ⟨g, o, rfl, trivial, hg, h10⟩⟩, h9, by omega⟩
     have hM : ∃ m cm, TM W (fun _ => True) m cm ∧ RowAt W (fun _ => True) 9 y7 m.length cm ∧ okM m ∧ m.length ≤ 140737488355328 := by
      cases fuel with
      | zero => simp [DataW.trod] at h5
      | succ fuel =>
        rcases trod_slice (d := x5.1) (ps := x5.2) Tryz.underlying25 (by rw [cells_mem]; decide) h5 with ⟨e, _⟩ | ⟨a, n, cap, elems, spare, e, hnc, hcm, hd, hel, hcell⟩
        · simp only [List.cons.injEq, and_true] at e; subst e; exact ⟨[], [], .nil, RowAt.nil _ _ _ _ _ (by omega), trivial, by simp⟩
        · simp only [List.cons.injEq, and_true] at e; subst e; have hwl : (elems.length + spare.length) * Tryz.prog.bytesOf 43 ≤ reachBytes ∧ ∀ n ∈ DataW.weightsAll Tryz.prog 43 elems, n ≤ reachBytes := by
           have h6 : ∀ n ∈ (x5.1).weights Tryz.prog 25, n ≤ reachBytes := fun n hn => hwd n (.inr (.inr (.inr (.inr (.inr hn))))); rw [hd, DataW.weights, Tryz.underlying25] at h6; exact ⟨h6 _ List.mem_cons_self, fun n hn => h6 n (List.mem_cons_of_mem _ (List.mem_append_left _ hn))⟩
          rw [bytes_mem] at hwl; have hn47 : n ≤ 140737488355328 := by have := hwl.1; rw [hel] at this; simp only [reachBytes] at this; omega
          rcases Nat.eq_zero_or_pos n with hz | hz
          · subst hz; exact ⟨[], [], .nil, RowAt.nil _ _ _ _ _ (by simp only [maxLen] at hcm; omega), trivial, by simp⟩
          · obtain ⟨_, c0, _, _, _, hc0, hcell0⟩ := hcell 0 hz; rw [cells_mem] at hcell0 hc0; have hsp : a.spot = none := by
             have := hcell0 0 (by omega); rw [List.getElem?_eq_getElem (by omega)] at this; have := World.cell?_spot this; simpa [Addr.add] using this
            obtain ⟨g, o, sp⟩ := a; simp only at hsp; subst hsp; have hg : g < W.heap.size := by
             have := hcell0 0 (by omega); rw [List.getElem?_eq_getElem (by omega)] at this; have := World.block_lt_of_cell? _ _ this; simpa [Addr.add] using this
            obtain ⟨l, cl, h7, h8, h9, h10⟩ := tm_build (W := W) (A := fun _ => True) (g := g) (o := o) n (fun i hi => by
             obtain ⟨x, c, ps', hxe, htx, hcl, hcc⟩ := hcell i hi; rw [cells_mem] at hcc hcl; have hwx : ∀ n ∈ x.weights Tryz.prog 43, n ≤ reachBytes := fun n hn => hwl.2 n (weightsAll_mem (List.mem_of_getElem? hxe) n hn); cases fuel with
             | zero => simp [DataW.trod] at htx
             | succ fuel =>
               unfold DataW.trod at htx; rw [Tryz.underlying43] at htx; simp only at htx; split at htx
               · rw [Option.map_eq_some_iff] at htx; obtain ⟨xs, hm, htx⟩ := htx; simp only [List.mapM_cons, List.mapM_nil, Option.bind_eq_bind, Option.bind_eq_some_iff, Option.pure_def, Option.some.injEq] at hm; obtain ⟨z0, k0, _, ⟨z1, k1, _, rfl, rfl⟩, rfl⟩ := hm; rw [cs'] at k0; rw [cells_val] at k1; match c, hcl with
                 | [u0, u1, u2, u3, u4, u5, u6, u7, u8], _ =>
                 simp only [List.drop_zero, List.drop_succ_cons, List.take_succ_cons, List.take_zero] at k0 k1; obtain ⟨s, e3, rfl, hs⟩ := DataW.trod_string Tryz.underlying9 k0; simp only [List.cons.injEq, and_true] at e3; subst e3; simp only [Prod.mk.injEq] at htx; have hwm : ∀ n ∈ DataW.weightsEach Tryz.prog [9, 27] [(DataW.lit (Lit.string s.data.toList) : DataW H), z1.1], n ≤ reachBytes := fun n hn => hwx n (by
                  rw [← htx.1, DataW.weights, Tryz.underlying43]; exact hn)
                 simp only [DataW.weightsEach, List.append_nil, List.mem_append] at hwm; have hkl : s.data.toList.length ≤ reachBytes := hwm _ (.inl (by simp [DataW.weights])); obtain ⟨t, ht1, ht2⟩ := ih fuel (by omega) _ z1.1 z1.2 k1 (fun n hn => hwm n (.inr hn)); refine ⟨s.data.toList, t, _, ht1, Nat.le_trans hkl (by decide), ht2, ?_, fun j hj => ?_⟩
                 · have := hcc 0 (by omega); rw [add_plain, add_plain] at this; simpa using this
                 · have := hcc (j + 1) (by omega); rw [add_plain, add_plain] at this; rw [show o + i * 9 + 1 + j = o + i * 9 + (j + 1) by omega, this]; simp
               · cases htx)
            refine ⟨l, cl, h8, ⟨by rw [h8.length], some ⟨g, o, none⟩, cap, by rw [h7], by omega, by simp only [maxLen] at hcm; omega, fun _ => ⟨g, o, rfl, trivial, hg, h10⟩⟩, h9, by omega⟩
     obtain ⟨l, cl', a1, a2, a3, a4⟩ := hL; obtain ⟨m, cm', b1, b2, b3, b4⟩ := hM; refine ⟨.mk n b x s.data.toList l m, ?_, ?_⟩
     · have := TV.mk (k := n) (b := b) (d := x) (s := s.data.toList) a1 a2 b1 b2; simpa [cellsV] using this
     · rw [okT]; exact ⟨hk, hx1, hx2, Nat.le_trans hsl (by decide), a4, b4, a3, b3⟩
   · cases h
end
end Go.Proofs.YtjapbjmeoaagmaaGreatDoor
end

section
set_option maxRecDepth 100000
namespace Go.Proofs.YtjapbjmeoaagmaaGreatDoor
open Go.RowKit Go.Mem Orange
set_option maxHeartbeats 3200000 in
theorem get_any (t : Tree) (c : Array Value) (A : Nat → Prop) (key : List UInt8) (w : World) (h : TV w A t c) :
 Calls Tryz.prog 24 #[.agg c, .string ⟨key.toArray⟩] w (fun e w' => ∃ c', e = .returned (.tuple #[.agg c', .bool (getT t key).isSome]) ∧ TV w' A ((getT t key).getD tNull) c' ∧ Ext w w') := by
 obtain ⟨k, b, d, s, la, ln, lc, ma, mn, mc, rfl⟩ := h.eight; obtain ⟨cl, cm, htl, hrl, htm, hrm, hk, -⟩ := tv_rows h; obtain ⟨tk, tb, tn, ts, L, M⟩ := t; simp only [Tree.list, Tree.mems, Tree.kind] at htl hrl htm hrm hk; subst hk; obtain ⟨R, hR⟩ := Ex (getT (.mk k tb tn ts L M) key); rw [hR]; replace hR : (if k = 5 then findM key M else none) = R := hR; have HR := Hd hR
 obtain ⟨_, a2, c2, ea, hm1, hm2, -⟩ := id hrm; simp only [Value.slice.injEq] at ea; obtain ⟨rfl, rfl, rfl⟩ := ea; have hx0 : Ext w (w.alloc (.cells (cellsV k b d s (.slice la ln lc) (.slice ma M.length mc)) 27)) := (ext_refl w).alloc (Nat.le_refl _) _; have hv0 := VAt.new w (cellsV k b d s (.slice la ln lc) (.slice ma M.length mc))
 have hx1 : Ext (w.alloc (.cells (cellsV k b d s (.slice la ln lc) (.slice ma M.length mc)) 27)) ((w.alloc (.cells (cellsV k b d s (.slice la ln lc) (.slice ma M.length mc)) 27)).alloc (.cells zeroV 27)) := (ext_refl _).alloc (Nat.le_refl _) _; have hv1 := VAt.new (w.alloc (.cells (cellsV k b d s (.slice la ln lc) (.slice ma M.length mc)) 27)) zeroV; replace hv0 := hv0.ext hx1
 rw [show (w.alloc (.cells (cellsV k b d s (.slice la ln lc) (.slice ma M.length mc)) 27)).heap.size = w.heap.size + 1 by simp] at hv1; have hE := ext_trans hx0 hx1; clear hR hx0 hx1 htl hrl h; simp only [cellsV, zeroV, noL, Num.zero] at hv0 hv1 hE ⊢; go_enter Tryz.func24, Tryz.ntmps24
 go_upto_region 1 with fail; generalize (w.alloc (.cells #[.int .i64 k, .bool b, .bool d.neg, .string ⟨d.digits.toArray⟩, .int .i64 d.exp, .string ⟨s.toArray⟩, .slice la ln lc, .slice ma M.length mc] 27)).alloc (.cells #[.int .i64 0, .bool false, .bool false, .string ⟨#[]⟩, .int .i64 0, .string ⟨#[]⟩, .slice none 0 0, .slice none 0 0] 27) = w1 at *; obtain ⟨S, hS⟩ := Ex w.heap.size
 rw [hS] at hv0 hv1 ⊢; have HC := Hd hv0; have HV2 := Hd hv1; have HE := Hd hE; have HS := Hd hS; have HTM := Hd (htm.keep (w' := w1) (A' := fun g => A g ∧ g < S) hE.size (fun g hg hlt => ⟨⟨hg, by omega⟩, hE.block g hlt⟩)); have HRM := Hd (hrm.keep (w' := w1) (A' := fun g => A g ∧ g < S) hE.size (fun g hg hlt => ⟨⟨hg, by omega⟩, hE.block g hlt⟩)); clear hv0 hv1 hE htm hrm hS
 obtain ⟨c0, c1, c2, c3, c4, c5, c6, c7⟩ := HC.out.c8; go_wp2_with fail; refine (place_any key _ M cm _ w1 HRM.out HTM.out).mono ?_; rintro e w2 ⟨rfl, hw2⟩; clear c0 c1 c2 c3 c4 c5 c6 c7; replace HC := Hd (HC.out.ext hw2); replace HV2 := Hd (HV2.out.ext hw2); replace HE := Hd (ext_trans HE.out hw2)
 replace HTM := Hd (HTM.out.keep (w' := w2) (A' := fun g => A g ∧ g < S) hw2.size (fun g hg hlt => ⟨hg, hw2.block g hlt⟩)); replace HRM := Hd (HRM.out.keep (w' := w2) (A' := fun g => A g ∧ g < S) hw2.size (fun g hg hlt => ⟨hg, hw2.block g hlt⟩)); clear hw2; obtain ⟨c0, c1, c2, c3, c4, c5, c6, c7⟩ := HC.out.c8; obtain ⟨y0, y1, y2, y3, y4, y5, y6, y7⟩ := HV2.out.c8
 obtain ⟨z0, z1, z2, z3, z4, z5, z6, z7⟩ := HV2.out.f8; by_cases hk5 : k = 5
 · rcases find_idx key M with ⟨hf, hi⟩ | ⟨i, hlt, hi, -, hf, -⟩
   · have HRF : Hid (R = none) := Hd (by rw [← HR.out, if_pos hk5, hf]); have hkb : (k != 5) = false := by simp [hk5]
     rw [hi]; clear hk5 hf hi; go_wp2_with fail; have hV := VAt.store8 HV2.out (.int .i64 0) (.bool false) (.bool false) (.string ⟨#[]⟩) (.int .i64 0) (.string ⟨#[]⟩) (.slice none 0 0) (.slice none 0 0); have HV := Hd hV; obtain ⟨v0, v1, v2, v3, v4, v5, v6, v7⟩ := HV.out.c8
     refine bodyPost_ret (v := .tuple #[.agg #[.int .i64 0, .bool false, .bool false, .string ⟨#[]⟩, .int .i64 0, .string ⟨#[]⟩, .slice none 0 0, .slice none 0 0], .bool false]) (by simp [results, Tryz.results24, go_sem, v0, v1, v2, v3, v4, v5, v6, v7]) rfl ?_; rw [HRF.out]; exact ⟨_, rfl, TV.leaf _ _ 0 false Num.zero [], ext_set8 HE.out (by rw [HS.out]; omega)⟩
   · have HRF : Hid (R = some M[i].2) := Hd (by rw [← HR.out, if_pos hk5, hf]); have hkb : (k != 5) = false := by simp [hk5]
     rw [hi]; obtain ⟨g, o, xk, xb, xd, xs, xa1, xn1, xc1, xa2, xn2, xc2, rfl, htx, hcell⟩ := mem_elem HRM.out HTM.out rfl i hlt; obtain ⟨x0, x1, x2, x3, x4, x5, x6, x7, x8⟩ := hcell w2 (fun g _ hg => rfl); have HTX := Hd htx; have hlti : (i : Int) < M.length := by omega
     have hi0 : (0 : Int) ≤ i := by omega
     clear hk5 hf hi htx hcell; go_wp2_with fail; have hV := VAt.store8 HV2.out (.int .i64 xk) (.bool xb) (.bool xd.neg) (.string ⟨xd.digits.toArray⟩) (.int .i64 xd.exp) (.string ⟨xs.toArray⟩) (.slice xa1 xn1 xc1) (.slice xa2 xn2 xc2); have HV := Hd hV; obtain ⟨v0, v1, v2, v3, v4, v5, v6, v7⟩ := HV.out.c8
     refine bodyPost_ret (v := .tuple #[.agg #[.int .i64 xk, .bool xb, .bool xd.neg, .string ⟨xd.digits.toArray⟩, .int .i64 xd.exp, .string ⟨xs.toArray⟩, .slice xa1 xn1 xc1, .slice xa2 xn2 xc2], .bool true]) (by simp [results, Tryz.results24, go_sem, v0, v1, v2, v3, v4, v5, v6, v7]) rfl ?_; rw [HRF.out]
     exact ⟨_, rfl, HTX.out.keep (by simp [World.setCell]) (fun g hg hlt => ⟨hg.1, heap8 (by have := hg.2; omega)⟩), ext_set8 HE.out (by rw [HS.out]; omega)⟩
 · have HRF : Hid (R = none) := Hd (by rw [← HR.out, if_neg hk5]); have hkb : (k != 5) = true := by simpa using hk5
   clear hk5; go_wp2_with fail; have hV := VAt.store8 HV2.out (.int .i64 0) (.bool false) (.bool false) (.string ⟨#[]⟩) (.int .i64 0) (.string ⟨#[]⟩) (.slice none 0 0) (.slice none 0 0); have HV := Hd hV; obtain ⟨v0, v1, v2, v3, v4, v5, v6, v7⟩ := HV.out.c8
   refine bodyPost_ret (v := .tuple #[.agg #[.int .i64 0, .bool false, .bool false, .string ⟨#[]⟩, .int .i64 0, .string ⟨#[]⟩, .slice none 0 0, .slice none 0 0], .bool false]) (by simp [results, Tryz.results24, go_sem, v0, v1, v2, v3, v4, v5, v6, v7]) rfl ?_; rw [HRF.out]; exact ⟨_, rfl, TV.leaf _ _ 0 false Num.zero [], ext_set8 HE.out (by rw [HS.out]; omega)⟩
abbrev cellsS (s : PStep) : Array Value := #[.string ⟨s.name.toArray⟩, .int .i64 s.pos, .bool s.named]
def SpAt (w : World) (q : Nat) (s : PStep) : Prop := w.heap[q]? = some (.cells (cellsS s) 46 (0, 0))
theorem SpAt.ext {w w' : World} {q : Nat} {s : PStep} (h : SpAt w q s) (hb : Ext w w') : SpAt w' q s := by
 unfold SpAt; rw [hb.block _ (Array.getElem?_eq_some_iff.1 h).1]; exact h
theorem SpAt.cell {w : World} {q : Nat} {s : PStep} (h : SpAt w q s) : w.cell? ⟨q, 0, none⟩ = some (.string ⟨s.name.toArray⟩) ∧ w.cell? ⟨q, 1, none⟩ = some (.int .i64 s.pos) ∧ w.cell? ⟨q, 2, none⟩ = some (.bool s.named) := ⟨by rw [cell_of_cells h]; rfl, by rw [cell_of_cells h]; rfl, by rw [cell_of_cells h]; rfl⟩
set_option maxHeartbeats 3200000 in
theorem step_any (t : Tree) (c : Array Value) (A : Nat → Prop) (s : PStep) (w : World) (h : TV w A t c) (hs : i64R s.pos) :
 Calls Tryz.prog 50 #[.agg c, .agg (cellsS s)] w (fun e w' => ∃ c', e = .returned (.tuple #[.agg c', .bool (Orange.stepT t s).isSome]) ∧ TV w' A ((Orange.stepT t s).getD tNull) c' ∧ Ext w w') := by
 obtain ⟨k, b, d, ss, la, ln, lc, ma, mn, mc, rfl⟩ := h.eight; obtain ⟨cl, cm, htl, hrl, htm, hrm, hk, -⟩ := tv_rows h; obtain ⟨_, a1, c1, ea, hl1, hl2, -⟩ := id hrl; simp only [Value.slice.injEq] at ea; obtain ⟨rfl, eln, rfl⟩ := ea; subst eln; obtain ⟨R, hR⟩ := Ex (Orange.stepT t s); rw [hR]; unfold Orange.stepT at hR; rw [← hk] at hR; have HR := Hd hR
 obtain ⟨wA, ewA⟩ : ∃ W, w.alloc (.cells (cellsV k b d ss (.slice la t.list.length lc) (.slice ma mn mc)) 27) = W := ⟨_, rfl⟩
 have nwA : wA.heap[w.heap.size]? = some (.cells (cellsV k b d ss (.slice la t.list.length lc) (.slice ma mn mc)) 27) := by rw [← ewA]; exact heap_alloc_new _ _
 have xwA : Ext w wA := by rw [← ewA]; exact (ext_refl _).alloc (Nat.le_refl _) _
 have swA : wA.heap.size = w.heap.size + 1 := by rw [← ewA]; simp
 obtain ⟨wB, ewB⟩ : ∃ W, wA.alloc (.cells (cellsS s) 46) = W := ⟨_, rfl⟩
 have nwB : wB.heap[wA.heap.size]? = some (.cells (cellsS s) 46) := by rw [← ewB]; exact heap_alloc_new _ _
 have xwB : Ext wA wB := by rw [← ewB]; exact (ext_refl _).alloc (Nat.le_refl _) _
 have swB : wB.heap.size = wA.heap.size + 1 := by rw [← ewB]; simp
 obtain ⟨wC, ewC⟩ : ∃ W, wB.alloc (.cells zeroV 27) = W := ⟨_, rfl⟩
 have nwC : wC.heap[wB.heap.size]? = some (.cells zeroV 27) := by rw [← ewC]; exact heap_alloc_new _ _
 have xwC : Ext wB wC := by rw [← ewC]; exact (ext_refl _).alloc (Nat.le_refl _) _
 have swC : wC.heap.size = wB.heap.size + 1 := by rw [← ewC]; simp
 have HT := Hd (h.keep (w' := wC) (A' := fun g => A g ∧ g < w.heap.size) (ext_trans (ext_trans xwA xwB) xwC).size (fun g hg hlt => ⟨⟨hg, hlt⟩, (ext_trans (ext_trans xwA xwB) xwC).block g hlt⟩)); have HTL := Hd (htl.keep (w' := wC) (A' := fun g => A g ∧ g < w.heap.size) (ext_trans (ext_trans xwA xwB) xwC).size (fun g hg hlt => ⟨⟨hg, hlt⟩, (ext_trans (ext_trans xwA xwB) xwC).block g hlt⟩))
 have HRL := Hd (hrl.keep (w' := wC) (A' := fun g => A g ∧ g < w.heap.size) (ext_trans (ext_trans xwA xwB) xwC).size (fun g hg hlt => ⟨⟨hg, hlt⟩, (ext_trans (ext_trans xwA xwB) xwC).block g hlt⟩)); rw [swA] at nwB; rw [swB, swA] at nwC; have HC : Hid (VAt wC w.heap.size (cellsV k b d ss (.slice la t.list.length lc) (.slice ma mn mc))) := Hd (VAt.ext (VAt.ext nwA xwB) xwC)
 have HSP : Hid (SpAt wC (w.heap.size + 1) s) := Hd (SpAt.ext nwB xwC); have HV2 : Hid (VAt wC (w.heap.size + 1 + 1) zeroV) := Hd nwC; have HE := Hd (ext_trans (ext_trans xwA xwB) xwC); have EA := Hd ewA; have EB := Hd ewB; have EC := Hd ewC; clear hk hR htl hrl htm hrm h nwA nwB nwC xwA xwB xwC swA swB swC ewA ewB ewC; simp only [cellsV, zeroV, noL, Num.zero, cellsS] at HC HV2 HSP EA EB EC HT ⊢
 go_enter Tryz.func50, Tryz.ntmps50
 go_upto_region 1 with fail; rw [EA.out, EB.out, EC.out]; obtain ⟨S, hS⟩ := Ex w.heap.size; rw [hS] at HC HV2 HSP HT HTL HRL ⊢; have HS := Hd hS; clear hS EA EB EC; obtain ⟨c0, c1, c2, c3, c4, c5, c6, c7⟩ := HC.out.c8; obtain ⟨s0, s1, s2⟩ := HSP.out.cell; by_cases hn : s.named = true
 · have HR2 : Hid (getT t s.name = R) := Hd (by rw [← HR.out, if_pos hn]); go_wp2_with fail; refine (get_any t _ _ s.name wC HT.out).mono ?_; rintro e w2 ⟨c', rfl, htv, hw2⟩; rw [HR2.out] at htv ⊢; obtain ⟨yk, yb, yd, ys, ya1, yn1, yc1, ya2, yn2, yc2, rfl⟩ := htv.eight; replace HV2 := Hd (HV2.out.ext hw2); have HE2 := Hd (ext_trans HE.out hw2); have HTV := Hd htv; clear htv hw2
   clear c0 c1 c2 c3 c4 c5 c6 c7; clear s0 s1 s2; obtain ⟨y0, y1, y2, y3, y4, y5, y6, y7⟩ := HV2.out.c8; obtain ⟨z0, z1, z2, z3, z4, z5, z6, z7⟩ := HV2.out.f8; go_wp2_with fail; have hV := VAt.store8 HV2.out (.int .i64 yk) (.bool yb) (.bool yd.neg) (.string ⟨yd.digits.toArray⟩) (.int .i64 yd.exp) (.string ⟨ys.toArray⟩) (.slice ya1 yn1 yc1) (.slice ya2 yn2 yc2); have HV := Hd hV
   obtain ⟨v0, v1, v2, v3, v4, v5, v6, v7⟩ := HV.out.c8; refine bodyPost_ret (v := .tuple #[.agg #[.int .i64 yk, .bool yb, .bool yd.neg, .string ⟨yd.digits.toArray⟩, .int .i64 yd.exp, .string ⟨ys.toArray⟩, .slice ya1 yn1 yc1, .slice ya2 yn2 yc2], .bool R.isSome]) (by simp [results, Tryz.results50, go_sem, v0, v1, v2, v3, v4, v5, v6, v7]) rfl ?_
   exact ⟨_, rfl, HTV.out.keep (by simp [World.setCell]) (fun g hg hlt => ⟨hg.1, heap8 (by have := hg.2; omega)⟩), ext_set8 HE2.out (by rw [HS.out]; omega)⟩
 · replace hn : s.named = false := by simpa using hn
   have HR2 : Hid ((if k = 4 ∧ 0 ≤ s.pos ∧ s.pos < t.list.length then t.list[s.pos.toNat]? else none) = R) := Hd (by rw [← HR.out, hn]; simp); obtain ⟨y0, y1, y2, y3, y4, y5, y6, y7⟩ := HV2.out.c8; obtain ⟨z0, z1, z2, z3, z4, z5, z6, z7⟩ := HV2.out.f8; by_cases hc : k = 4 ∧ 0 ≤ s.pos ∧ s.pos < t.list.length
   · obtain ⟨h1, h2, h3⟩ := hc; obtain ⟨i, hi⟩ : ∃ i : Nat, s.pos = i := ⟨s.pos.toNat, by omega⟩
     have hlt : i < t.list.length := by omega
     have HRF : Hid (R = some t.list[i]) := Hd (by rw [← HR2.out, if_pos ⟨h1, h2, h3⟩, hi]; simp [hlt]); have hkb : (k != 4) = false := by simp [h1]
     rw [hi] at s1; obtain ⟨g, o, xk, xb, xd, xs, xa1, xn1, xc1, xa2, xn2, xc2, rfl, htx, hcell⟩ := row_elem HRL.out HTL.out rfl i hlt; obtain ⟨x0, x1, x2, x3, x4, x5, x6, x7⟩ := hcell wC (fun g _ hg => rfl); have HTX := Hd htx; have hlti : (i : Int) < t.list.length := by omega
     have hi0 : (0 : Int) ≤ i := by omega
     have hni : ¬ (i : Int) ≥ t.list.length := by omega
     have hn0 : ¬ (i : Int) < 0 := by omega
     clear h1 h2 h3 htx hcell hi; go_wp2_with fail; have hV := VAt.store8 HV2.out (.int .i64 xk) (.bool xb) (.bool xd.neg) (.string ⟨xd.digits.toArray⟩) (.int .i64 xd.exp) (.string ⟨xs.toArray⟩) (.slice xa1 xn1 xc1) (.slice xa2 xn2 xc2); have HV := Hd hV; obtain ⟨v0, v1, v2, v3, v4, v5, v6, v7⟩ := HV.out.c8
     refine bodyPost_ret (v := .tuple #[.agg #[.int .i64 xk, .bool xb, .bool xd.neg, .string ⟨xd.digits.toArray⟩, .int .i64 xd.exp, .string ⟨xs.toArray⟩, .slice xa1 xn1 xc1, .slice xa2 xn2 xc2], .bool true]) (by simp [results, Tryz.results50, go_sem, v0, v1, v2, v3, v4, v5, v6, v7]) rfl ?_; rw [HRF.out]
     exact ⟨_, rfl, HTX.out.keep (by simp [World.setCell]) (fun g hg hlt => ⟨hg.1, heap8 (by have := hg.2; omega)⟩), ext_set8 HE.out (by rw [HS.out]; omega)⟩
   · have HRF : Hid (R = none) := Hd (by rw [← HR2.out, if_neg hc]); by_cases h4 : k = 4
     · have hkb : (k != 4) = false := by simp [h4]
       by_cases h5 : s.pos < 0
       · go_wp2_with fail; have hV := VAt.store8 HV2.out (.int .i64 0) (.bool false) (.bool false) (.string ⟨#[]⟩) (.int .i64 0) (.string ⟨#[]⟩) (.slice none 0 0) (.slice none 0 0); have HV := Hd hV; obtain ⟨v0, v1, v2, v3, v4, v5, v6, v7⟩ := HV.out.c8
         refine bodyPost_ret (v := .tuple #[.agg #[.int .i64 0, .bool false, .bool false, .string ⟨#[]⟩, .int .i64 0, .string ⟨#[]⟩, .slice none 0 0, .slice none 0 0], .bool false]) (by simp [results, Tryz.results50, go_sem, v0, v1, v2, v3, v4, v5, v6, v7]) rfl ?_; rw [HRF.out]; exact ⟨_, rfl, TV.leaf _ _ 0 false Num.zero [], ext_set8 HE.out (by rw [HS.out]; omega)⟩
       · have h6 : s.pos ≥ t.list.length := by omega
         clear hc; go_wp2_with fail; have hV := VAt.store8 HV2.out (.int .i64 0) (.bool false) (.bool false) (.string ⟨#[]⟩) (.int .i64 0) (.string ⟨#[]⟩) (.slice none 0 0) (.slice none 0 0); have HV := Hd hV; obtain ⟨v0, v1, v2, v3, v4, v5, v6, v7⟩ := HV.out.c8
         refine bodyPost_ret (v := .tuple #[.agg #[.int .i64 0, .bool false, .bool false, .string ⟨#[]⟩, .int .i64 0, .string ⟨#[]⟩, .slice none 0 0, .slice none 0 0], .bool false]) (by simp [results, Tryz.results50, go_sem, v0, v1, v2, v3, v4, v5, v6, v7]) rfl ?_; rw [HRF.out]; exact ⟨_, rfl, TV.leaf _ _ 0 false Num.zero [], ext_set8 HE.out (by rw [HS.out]; omega)⟩
     · have hkb : (k != 4) = true := by simpa using h4
       clear hc h4; go_wp2_with fail; have hV := VAt.store8 HV2.out (.int .i64 0) (.bool false) (.bool false) (.string ⟨#[]⟩) (.int .i64 0) (.string ⟨#[]⟩) (.slice none 0 0) (.slice none 0 0); have HV := Hd hV; obtain ⟨v0, v1, v2, v3, v4, v5, v6, v7⟩ := HV.out.c8
       refine bodyPost_ret (v := .tuple #[.agg #[.int .i64 0, .bool false, .bool false, .string ⟨#[]⟩, .int .i64 0, .string ⟨#[]⟩, .slice none 0 0, .slice none 0 0], .bool false]) (by simp [results, Tryz.results50, go_sem, v0, v1, v2, v3, v4, v5, v6, v7]) rfl ?_; rw [HRF.out]; exact ⟨_, rfl, TV.leaf _ _ 0 false Num.zero [], ext_set8 HE.out (by rw [HS.out]; omega)⟩
end Go.Proofs.YtjapbjmeoaagmaaGreatDoor
end

section
set_option maxRecDepth 100000
namespace Go.GrowS
open Go.Mem Go.RowKit
section
variable {P : Program} {ops : Array Oper} {md : Region.Mode} {G : Nat → World → World → Prop} {E : List PanicEntry → World → Prop} {B : Nat → World → Prop} {anc : Nat → List Nat} {I : Nat → Act → Option (Spec G)}
theorem not_readyF {n i t : Nat} {listed : Array Bool} {wt : Nat → List Nat} (hW : ancOk md ops wt = true) (hwt : ∀ t i, n ≤ t → i < n → t < ops.size → i ∈ wt t) (hi : i < n) (hun : listed.getD i true = false) (ht : n ≤ t) (inv : Closed md ops listed) : t ∉ Region.ready md ops listed := by
 intro hr; obtain ⟨hun', ot, hot, hall⟩ := mem_ready.1 hr; have h1 := anc_listed hW inv t ot hot hall i (hwt t i ht hi (Array.getElem?_eq_some_iff.1 hot).1); rw [getD_both hun] at h1; cases h1
theorem anyGL_firstF {n i : Nat} {oi : Oper} {u : Value → Prop} {f : Env → Value → Env} {L : Array Bool → Act → Env → Prop} (hk : Keeps ops anc I) (hA : ancOk md ops anc = true) (hi : ops[i]? = some oi) (hsel : ∀ (j : Nat) (o : Oper) cs b, ops[j]? = some o → o.op ≠ .select cs b)
 {wt : Nat → List Nat} (hW : ancOk md ops wt = true) (hwt : ∀ t i, n ≤ t → i < n → t < ops.size → i ∈ wt t) (hin : i < n)
 (hdone : ∀ listed a F, L listed a F → ∀ j ∈ Region.ready md ops listed, n ≤ j) :
 ∀ (fuel : Nat) (listed : Array Bool) (a : Act) (F : Env), Closed md ops listed →
   (∀ j oj, ops[j]? = some oj → j ≠ i → listed.getD j true = false → (∀ e ∈ oj.after, Region.binds md e = true → e.on ≠ i) → oi.apart ops oj = true) →
   i ∈ Region.ready md ops listed → Shows P ops G E B anc I i oi a F u f →
   (∀ v, u v → anyGL P md ops G E B anc I n L fuel (listed.setIfInBounds i true) (a.put oi.dst v) (f F v)) → anyGL P md ops G E B anc I n L (fuel + 1) listed a F := by
 intro fuel; induction fuel with
 | zero =>
   intro listed a F inv _ hr hy H; have hun := (mem_ready.1 hr).1; refine ⟨fun h => (by rw [h] at hr; cases hr), fun j hj => ?_⟩; have hjn : j < n := by
    rcases Nat.lt_or_ge j n with h | h
    · exact h
    · exact absurd hj (not_readyF hW hwt hin hun h inv)
   refine ⟨hjn, ?_⟩; by_cases hji : j = i
   · subst hji; exact hy.opG hi H
   · obtain ⟨v, hv⟩ := hy.inh; have := hdone _ _ _ (H v hv) j (ready_mono hj hji); omega
 | succ fuel ih =>
   intro listed a F inv hfree hr hy H; have hun := (mem_ready.1 hr).1; refine ⟨fun h => (by rw [h] at hr; cases hr), fun j hj => ?_⟩; have hjn : j < n := by
    rcases Nat.lt_or_ge j n with h | h
    · exact h
    · exact absurd hj (not_readyF hW hwt hin hun h inv)
   refine ⟨hjn, ?_⟩; by_cases hji : j = i
   · subst hji; exact hy.opG hi H
   · obtain ⟨hjun, oj, hoj, hall⟩ := mem_ready.1 hj; have hnot : ∀ e ∈ oj.after, Region.binds md e = true → e.on ≠ i := fun e he hb heq => by
      have h1 := hall e he hb; rw [heq, getD_both hun] at h1; cases h1
     have h2 := opG_put hk hi (Ne.symm hji) hoj (hfree j oj hoj hji hjun hnot) (fun cs b => hsel i oi cs b hi) (fun cs b => hsel j oj cs b hoj) (anc_not hA inv hr hj) (anc_not hA inv hj hr) hy
      (fun v hv => ((H v hv).2 j (ready_mono hj hji)).2)
     have hfree' : ∀ k ok, ops[k]? = some ok → k ≠ i → (listed.setIfInBounds j true).getD k true = false →
      (∀ e ∈ ok.after, Region.binds md e = true → e.on ≠ i) → oi.apart ops ok = true := fun k ok hk hki hun hno => by
      refine hfree k ok hk hki ?_ hno; by_cases hjk : j = k
      · subst hjk; exact hjun
      · rw [getD_set_ne true hjk] at hun; exact hun
     refine opG_mono (fun a' F' h3 => ih (listed.setIfInBounds j true) a' F' (inv.set hj) hfree' (ready_mono hr (Ne.symm hji)) h3.1 ?_) h2; rw [Array.setIfInBounds_comm _ _ hji]; exact h3.2
theorem anyGL_lexF {n : Nat} {target : Array Bool} {Lq : Act → Env → Prop} (hkk : Keeps ops anc I) (hA : ancOk md ops anc = true) (hsel : Region.noSelect ops = true) {wt : Nat → List Nat} (hW : ancOk md ops wt = true) (hwt : ∀ t i, n ≤ t → i < n → t < ops.size → i ∈ wt t) (hrd : ∀ j ∈ Region.ready md ops target, n ≤ j) :
 ∀ (l : List Oper) (k : Nat) (listed : Array Bool) (a : Act) (F : Env), (∀ j, j < l.length → l[j]? = ops[k + j]?) → k + l.length = n → Closed md ops listed →
 lexRest md ops target l.length k listed = true → walk P ops G E B anc I Lq l k a F →
 anyGL P md ops G E B anc I n (fun listed' a' F' => listed' = target ∧ Lq a' F') l.length listed a F
 | [], k, listed, a, F, _, hk, _, hB, h => by
   have : k = n := by simpa using hk
   subst this; exact ⟨by simpa [lexRest] using hB, h⟩
 | o :: l, k, listed, a, F, hl, hk, inv, hB, h => by
   have h0 : ops[k]? = some o := by simpa using (hl 0 (by simp)).symm
   simp only [List.length_cons, lexRest, Bool.and_eq_true] at hB; obtain ⟨⟨hr, hf⟩, hB'⟩ := hB; have hkn : k < n := by simp only [List.length_cons] at hk; omega
   have hr' : k ∈ Region.ready md ops listed := by simpa using hr
   obtain ⟨u, f, hy, hK⟩ := shows_of (P := P) (ops := ops) (G := G) (B := B) (anc := anc) (I := I) (K := walk P ops G E B anc I Lq l (k + 1)) h; exact anyGL_firstF hkk hA h0 (Region.noSelect_spec hsel) hW hwt hkn (fun listed' a' F' hL => (by rw [hL.1]; exact hrd)) l.length listed a F inv (Region.free_spec h0 hf) hr' hy
    (fun v hv => anyGL_lexF hkk hA hsel hW hwt hrd l (k + 1) _ _ _ (fun j hj => by have := hl (j + 1) (by simp; omega); simpa [Nat.add_assoc, Nat.add_comm 1 j] using this) (by simp only [List.length_cons] at hk; omega) (inv.set hr') hB' (hK v hv))
def restTB (md : Region.Mode) (ops : Array Oper) (n : Nat) (wt : Nat → List Nat) (target : Array Bool) : Bool :=
 Region.noSelect ops && decide (n ≤ ops.size) && ((List.range ops.size).all fun t => decide (t < n) || (List.range n).all fun i => (wt t).contains i) && ((Region.ready md ops target).all fun j => decide (n ≤ j)) && lexRest md ops target n 0 (Array.replicate ops.size false) && ancOk md ops wt
theorem wp_region_restTA {id : Nat} {Q : Exit → Act → World → Prop} {a : Act} {w : World} {l : List Oper} (n : Nat) (wt : Nat → List Nat) (target : Array Bool) (hkk : Keeps l.toArray anc I) (hm : P.follows .mixedOrders = true) (hB : restTB .any l.toArray n wt target = true) (hA : ancOk .any l.toArray anc = true)
 {Inv : Array Bool → World → Prop} (hI0 : InvOk .any l.toArray G B Inv) (hE : ∀ ch a' w, a'.defers = a.defers → E ch w → Q (.panic ch) a' w) (hw : Inv (Array.replicate l.length false) w.drew)
 (h : walk P l.toArray G E B anc I (fun a' F => ∀ w', Inv target w' → (∀ k, F k w') → wpAny P .any l.toArray Q (l.length - n) target a' w') (l.take n) 0 a (fun _ _ => True)) : (Code.region id l.toArray true).wp P Q a w := by
 simp only [restTB, Bool.and_eq_true, decide_eq_true_eq] at hB; obtain ⟨⟨⟨⟨⟨hsel, hn⟩, hwt0⟩, hrd0⟩, hlex⟩, hW⟩ := hB; have hn' : n ≤ l.length := by simpa using hn
 have htl : (l.take n).length = n := by simp; omega
 have hrd : ∀ j ∈ Region.ready .any l.toArray target, n ≤ j := fun j hj => by have := List.all_eq_true.1 hrd0 j hj; simpa using this
 have hwt : ∀ t i, n ≤ t → i < n → t < l.toArray.size → i ∈ wt t := fun t i ht hi hts => by
  have h1 := List.all_eq_true.1 hwt0 t (List.mem_range.2 hts); simp only [Bool.or_eq_true, decide_eq_true_eq] at h1; rcases h1 with h1 | h1
  · omega
  · simpa using List.all_eq_true.1 h1 i (List.mem_range.2 hi)
 have inv0 : Closed .any l.toArray (Array.replicate l.toArray.size false) := fun j oj _ hl => (by rw [getD_replicate_false] at hl; cases hl); have H := anyGL_lexF (P := P) (G := G) (E := E) (B := B) (anc := anc) (I := I) (md := .any) (target := target) hkk hA hsel hW hwt hrd (l.take n) 0 _ a (fun _ _ => True) (fun j hj => by
  have hj' : j < n := by rw [htl] at hj; exact hj
  simp [hj']) (by simpa using htl) inv0 (by rw [htl]; exact hlex) h
 refine wp_region_any hm ?_; have := wpAny_of_headG (Q' := Q) (g := l.toArray.size - n) hI0 hE (fun listed a' F' w' hb hf hL => by
  obtain ⟨rfl, h2⟩ := hL; have := h2 w' hb hf; simpa using this) _ _ _ (fun _ _ => True) _ rfl (by simpa using hw) (fun _ => trivial) (fun _ _ _ _ _ _ => trivial) H
 rw [htl, show n + (l.toArray.size - n) = l.toArray.size by omega] at this; exact this
end
section
variable {P : Program} {G : Nat → World → World → Prop} {E : List PanicEntry → World → Prop} {B : Nat → World → Prop} {anc : Nat → List Nat}
end
section
variable {P : Program} {ops : Array Oper} {md : Region.Mode} {G : Nat → World → World → Prop} {E : List PanicEntry → World → Prop} {B : Nat → World → Prop} {anc : Nat → List Nat} {I : Nat → Act → Option (Spec G)}
theorem any_restTA {Q : Exit → Act → World → Prop} {a : Act} {w : World} {l : List Oper} (n : Nat) (wt : Nat → List Nat) (target : Array Bool) (hkk : Keeps l.toArray anc I) (hB : restTB .any l.toArray n wt target = true) (hA : ancOk .any l.toArray anc = true)
 {Inv : Array Bool → World → Prop} (hI0 : InvOk .any l.toArray G B Inv) (hE : ∀ ch a' w, a'.defers = a.defers → E ch w → Q (.panic ch) a' w) (hw : Inv (Array.replicate l.length false) w.drew)
 (h : walk P l.toArray G E B anc I (fun a' F => ∀ w', Inv target w' → (∀ k, F k w') → wpAny P .any l.toArray Q (l.length - n) target a' w') (l.take n) 0 a (fun _ _ => True)) : wpAny P .any l.toArray Q l.toArray.size (Array.replicate l.toArray.size false) a w.drew := by
 simp only [restTB, Bool.and_eq_true, decide_eq_true_eq] at hB; obtain ⟨⟨⟨⟨⟨hsel, hn⟩, hwt0⟩, hrd0⟩, hlex⟩, hW⟩ := hB; have hn' : n ≤ l.length := by simpa using hn
 have htl : (l.take n).length = n := by simp; omega
 have hrd : ∀ j ∈ Region.ready .any l.toArray target, n ≤ j := fun j hj => by have := List.all_eq_true.1 hrd0 j hj; simpa using this
 have hwt : ∀ t i, n ≤ t → i < n → t < l.toArray.size → i ∈ wt t := fun t i ht hi hts => by
  have h1 := List.all_eq_true.1 hwt0 t (List.mem_range.2 hts); simp only [Bool.or_eq_true, decide_eq_true_eq] at h1; rcases h1 with h1 | h1
  · omega
  · simpa using List.all_eq_true.1 h1 i (List.mem_range.2 hi)
 have inv0 : Closed .any l.toArray (Array.replicate l.toArray.size false) := fun j oj _ hl => (by rw [getD_replicate_false] at hl; cases hl); have H := anyGL_lexF (P := P) (G := G) (E := E) (B := B) (anc := anc) (I := I) (md := .any) (target := target) hkk hA hsel hW hwt hrd (l.take n) 0 _ a (fun _ _ => True) (fun j hj => by
  have hj' : j < n := by rw [htl] at hj; exact hj
  simp [hj']) (by simpa using htl) inv0 (by rw [htl]; exact hlex) h
 have := wpAny_of_headG (Q' := Q) (g := l.toArray.size - n) hI0 hE (fun listed a' F' w' hb hf hL => by
  obtain ⟨rfl, h2⟩ := hL; have := h2 w' hb hf; simpa using this) _ _ _ (fun _ _ => True) _ rfl (by simpa using hw) (fun _ => trivial) (fun _ _ _ _ _ _ => trivial) H
 rw [htl, show n + (l.toArray.size - n) = l.toArray.size by omega] at this; exact this
end
section
variable {P : Program} {G : Nat → World → World → Prop} {E : List PanicEntry → World → Prop} {B : Nat → World → Prop} {anc : Nat → List Nat}
end
section
variable {P : Program} {G : Nat → World → World → Prop} {E : List PanicEntry → World → Prop} {B : Nat → World → Prop} {anc : Nat → List Nat}
theorem walk_monoQ {ops : Array Oper} {I : Nat → Act → Option (Spec G)} {Q Q' : Act → Env → Prop} (hq : ∀ a F, Q a F → Q' a F) : ∀ {l : List Oper} {k : Nat} {a : Act} {F : Env}, walk P ops G E B anc I Q l k a F → walk P ops G E B anc I Q' l k a F
 | [], _, _, _, h => hq _ _ h
 | o :: l, k, a, F, h => by
   unfold walk at h ⊢; split
   · next hw =>
     rw [if_pos hw] at h; cases hI : I k a with
     | none =>
       rw [hI] at h; simp only at h ⊢; obtain ⟨v, h1, h2⟩ := h; exact ⟨v, h1, walk_monoQ hq h2⟩
     | some s =>
       rw [hI] at h; simp only at h ⊢; exact ⟨h.1, fun v hv => walk_monoQ hq (h.2 v hv)⟩
   · next hw =>
     rw [if_neg hw] at h; exact walk_monoQ hq h
def atW (sp : Nat) (wt : Nat → List Nat) (B0 B1 : World → Prop) : Nat → World → Prop := fun i w => if i = sp ∨ (wt sp).contains i = true then B0 w else B0 w ∨ B1 w
theorem invW_ok {md : Region.Mode} {ops : Array Oper} {sp : Nat} {wt : Nat → List Nat} {B0 B1 : World → Prop} {G0 G1 : World → World → Prop} (hW : ancOk md ops wt = true) (hg : unguardedB ops sp = true) (h00 : ∀ w w', B0 w → G0 w w' → B0 w') (h11 : ∀ w w', B1 w → G0 w w' → B1 w') (h01 : ∀ w w', B0 w → G1 w w' → B1 w') :
 InvOk md ops (gS sp G0 G1) (atW sp wt B0 B1) (fun listed w => invS sp B0 B1 listed w ∧ Closed md ops listed ∧ listed.size = ops.size) := by
 have h := invS_ok (md := md) (ops := ops) hg h00 h11 h01; refine ⟨fun listed i w hw hi => ?_, fun listed i w w' hw hi hg' => ⟨h.last listed i w w' hw.1 hi hg', hw.2.1.set hi, by simpa using hw.2.2⟩, fun listed i o w hw hi ho hgo => ⟨h.skip listed i o w hw.1 hi ho hgo, hw.2.1.set hi, by simpa using hw.2.2⟩⟩; have h1 := h.pre listed i w hw.1 hi; unfold atW; unfold atS at h1; by_cases e : i = sp
 · rw [if_pos (.inl e)]; rwa [if_pos e] at h1
 · rw [if_neg e] at h1; by_cases hc : (wt sp).contains i = true
   · rw [if_pos (.inr hc)]; have h2 := hw.1; unfold invS at h2; split at h2
     · next hl =>
       exfalso
       have hos : ∃ o, ops[sp]? = some o := by
        unfold unguardedB at hg; cases ho : ops[sp]? with
        | none => rw [ho] at hg; cases hg
        | some o => exact ⟨o, rfl⟩
       obtain ⟨o, ho⟩ := hos; have hsz : sp < listed.size := by rw [hw.2.2]; exact (Array.getElem?_eq_some_iff.1 ho).1
       have h3 := anc_listed hW hw.2.1 sp o ho (hw.2.1 sp o ho (by simpa [Array.getD, hsz] using hl)) i (by simpa using hc); have h4 := (mem_ready.1 hi).1; by_cases hb : i < listed.size
       · simp [Array.getD, hb] at h3 h4; rw [h3] at h4; cases h4
       · simp [Array.getD, hb] at h3
     · exact h2
   · rw [if_neg (by simp only [not_or]; exact ⟨e, hc⟩)]; exact h1
theorem any_restW {Q : Exit → Act → World → Prop} {a : Act} {w : World} {l : List Oper} (sp : Nat) {B0 B1 : World → Prop} {G0 G1 : World → World → Prop} {I : Nat → Option (Spec (gS sp G0 G1))} (n : Nat) (wt : Nat → List Nat) (target : Array Bool) (hB : restTB .any l.toArray n wt target = true) (hA : ancOk .any l.toArray anc = true)
 (hg : unguardedB l.toArray sp = true) (hsp0 : (Array.replicate l.length false).getD sp true = false) (hsp1 : target.getD sp true = true)
 (h00 : ∀ w w', B0 w → G0 w w' → B0 w') (h11 : ∀ w w', B1 w → G0 w w' → B1 w') (h01 : ∀ w w', B0 w → G1 w w' → B1 w') (hE : ∀ ch a' w, a'.defers = a.defers → E ch w → Q (.panic ch) a' w) (hw : B0 w.drew)
 (h : Wk P l.toArray (gS sp G0 G1) E (atW sp wt B0 B1) anc (fun j _ => I j) (fun a' F => ∀ w', B1 w' → (∀ k, F k w') → wpAny P .any l.toArray Q (l.length - n) target a' w') (l.take n) 0 a (fun _ _ => True)) : wpAny P .any l.toArray Q l.toArray.size (Array.replicate l.toArray.size false) a w.drew := by
 have hW : ancOk .any l.toArray wt = true := by
  simp only [restTB, Bool.and_eq_true] at hB; exact hB.2
 refine any_restTA (I := fun j _ => I j) (Inv := fun listed w => invS sp B0 B1 listed w ∧ Closed .any l.toArray listed ∧ listed.size = l.toArray.size) n wt target (fun _ _ _ _ _ _ _ _ _ _ => rfl) hB hA (invW_ok hW hg h00 h11 h01) hE ⟨?_, ?_, by simp⟩ ?_
 · unfold invS; rw [hsp0]; exact hw
 · exact fun j oj _ hl => (by rw [getD_replicate_false] at hl; cases hl)
 · refine walk_monoQ (fun a' F hq w' hi hF => hq w' ?_ hF) h.out; have h1 := hi.1; unfold invS at h1; rwa [if_pos hsp1] at h1
theorem wp_region_restW {id : Nat} {Q : Exit → Act → World → Prop} {a : Act} {w : World} {l : List Oper} (sp : Nat) {B0 B1 : World → Prop} {G0 G1 : World → World → Prop} {I : Nat → Option (Spec (gS sp G0 G1))} (n : Nat) (wt : Nat → List Nat) (target : Array Bool) (hm : P.follows .mixedOrders = true) (hB : restTB .any l.toArray n wt target = true) (hA : ancOk .any l.toArray anc = true)
 (hg : unguardedB l.toArray sp = true) (hsp0 : (Array.replicate l.length false).getD sp true = false) (hsp1 : target.getD sp true = true)
 (h00 : ∀ w w', B0 w → G0 w w' → B0 w') (h11 : ∀ w w', B1 w → G0 w w' → B1 w') (h01 : ∀ w w', B0 w → G1 w w' → B1 w') (hE : ∀ ch a' w, a'.defers = a.defers → E ch w → Q (.panic ch) a' w) (hw : B0 w.drew)
 (h : Wk P l.toArray (gS sp G0 G1) E (atW sp wt B0 B1) anc (fun j _ => I j) (fun a' F => ∀ w', B1 w' → (∀ k, F k w') → wpAny P .any l.toArray Q (l.length - n) target a' w') (l.take n) 0 a (fun _ _ => True)) : (Code.region id l.toArray true).wp P Q a w :=
 wp_region_any hm (any_restW sp n wt target hB hA hg hsp0 hsp1 h00 h11 h01 hE hw h)
end
def OrdOk (md : Region.Mode) (ops : Array Oper) : Array Bool → List Nat → Prop
 | listed, [] => Region.ready md ops listed = []
 | listed, i :: l => i ∈ Region.ready md ops listed ∧ OrdOk md ops (listed.setIfInBounds i true) l
section
variable {P : Program} {md : Region.Mode} {Q : Exit → Act → World → Prop}
theorem wpOps_of_any {ops : Array Oper} : ∀ (fuel : Nat) (listed : Array Bool) (l : List Nat) (a : Act) (w : World), wpAny P md ops Q fuel listed a w → OrdOk md ops listed l → wpOps P ops Q l a w
 | 0, listed, [], a, w, h, _ => h.2
 | 0, listed, i :: l, a, w, h, ho => by
   have := ho.1; rw [h.1] at this; cases this
 | fuel + 1, listed, [], a, w, h, ho => h.1 ho
 | fuel + 1, listed, i :: l, a, w, h, ho => by
   rw [wpOps_cons]; exact wpOp_mono (fun a w h' => wpOps_of_any fuel _ l a w h' ho.2) (h.2 i ho.1)
theorem ordOk_go {ops : Array Oper} : ∀ (fuel t : Nat) (listed : Array Bool), (∀ l : List Nat, l.Nodup → (∀ i ∈ l, listed.getD i true = false) → l.length ≤ fuel) → OrdOk md ops listed (Region.linearise.go md ops fuel t listed [])
 | 0, t, listed, h => by
   simp only [Region.linearise.go, List.reverse_nil]; show Region.ready md ops listed = []
   cases hr : Region.ready md ops listed with
   | nil => rfl
   | cons i r =>
     have hi : i ∈ Region.ready md ops listed := by rw [hr]; exact List.mem_cons_self
     have := h [i] (by simp) (by intro j hj; rw [List.mem_singleton.1 hj]; exact (mem_ready.1 hi).1); simp at this
 | fuel + 1, t, listed, h => by
   simp only [Region.linearise.go]; change OrdOk md ops listed (match (Region.ready md ops listed)[t % (Region.ready md ops listed).length]? with
    | some i => Region.linearise.go md ops fuel (t / (Region.ready md ops listed).length) (listed.setIfInBounds i true) [i]
    | none => [].reverse)
   cases hi : (Region.ready md ops listed)[t % (Region.ready md ops listed).length]? with
   | none =>
     show Region.ready md ops listed = []
     cases hr : Region.ready md ops listed with
     | nil => rfl
     | cons x xs =>
       rw [hr] at hi; have hlt : t % (x :: xs).length < (x :: xs).length := Nat.mod_lt _ (by simp); simp at hi; simp at hlt; omega
   | some i =>
     simp only
     rw [linearise_go_acc, List.reverse_singleton, List.singleton_append]; have hir := List.mem_of_getElem? hi; refine ⟨hir, ordOk_go fuel _ _ (fun l hn hl => ?_)⟩; have hun := (mem_ready.1 hir).1; have hne : i ∉ l := fun hm => by
      have := hl i hm; by_cases hb : i < listed.size
      · simp [Array.getD, hb] at this
      · rw [Array.setIfInBounds_eq_of_size_le (by omega)] at this; simp [Array.getD, hb] at hun
     have := h (i :: l) (List.nodup_cons.2 ⟨hne, hn⟩) (fun j hj => by
      rcases List.mem_cons.1 hj with rfl | hj
      · exact hun
      · have h2 := hl j hj; rwa [getD_set_ne true (fun e => hne (by rw [e]; exact hj))] at h2)
     simp at this; omega
end
def more (ops : Array Oper) (i on : Nat) : Array Oper := ops.modify i fun o => { o with after := o.after.push { on := on, ground := .data } }
def moreL (ops : List Oper) (i on : Nat) : List Oper := ops.modify i fun o => { o with after := o.after.push { on := on, ground := .data } }
section
variable {P : Program} {Q : Exit → Act → World → Prop}
theorem more_get (ops : Array Oper) (i on j : Nat) : (more ops i on)[j]? = (ops[j]?).map fun o => if i = j then { o with after := o.after.push { on := on, ground := .data } } else o := by
 unfold more; rw [Array.getElem?_modify]; split
 · next h => simp [h]
 · next h => simp [h]
theorem more_yielded (ops : Array Oper) (i on : Nat) (t : Array Value) : yielded (more ops i on) t = yielded ops t := by
 funext j
 unfold yielded; rw [more_get]; cases ops[j]? with
 | none => rfl
 | some o =>
   have e3 : (if i = j then ({ o with after := o.after.push { on := on, ground := .data } } : Oper) else o).dst = o.dst := by split <;> rfl
   simp only [Option.map_some, Option.bind_some, e3]
theorem more_wpOps (ops : Array Oper) (i on : Nat) : ∀ (l : List Nat) (a : Act) (w : World), wpOps P (more ops i on) Q l a w → wpOps P ops Q l a w
 | [], a, w, h => h
 | j :: l, a, w, h => by
   rw [wpOps_cons] at h ⊢; unfold wpOp at h ⊢; rw [more_get, more_yielded] at h; cases ho : ops[j]? with
   | none => rw [ho] at h; exact more_wpOps ops i on l a w h
   | some o =>
     rw [ho] at h; simp only [Option.map_some] at h ⊢; have e : ∀ (b : Bool) (K : Act → World → Prop), ((if i = j then ({ o with after := o.after.push { on := on, ground := .data } } : Oper) else o).wp P a w K Q) = o.wp P a w K Q := by
      intro b K; split <;> rfl
     have e1 : ∀ y, Region.wanted (if i = j then ({ o with after := o.after.push { on := on, ground := .data } } : Oper) else o) y = Region.wanted o y := by
      intro y; split <;> rfl
     have e2 : ((if i = j then ({ o with after := o.after.push { on := on, ground := .data } } : Oper) else o).asks P a w) = o.asks P a w := by
      split <;> rfl
     have e3 : (if i = j then ({ o with after := o.after.push { on := on, ground := .data } } : Oper) else o).dst = o.dst := by split <;> rfl
     rw [e1, e true, e2, e3] at h; split at h
     · next hw =>
       rw [if_pos hw]; exact h.imp (Oper.wp_mono (fun a w h' => more_wpOps ops i on l a w h')) id
     · next hw =>
       rw [if_neg hw]; exact more_wpOps ops i on l _ _ h
theorem more_ready {ops : Array Oper} {i on j : Nat} {listed : Array Bool} (h : j ∈ Region.ready .any ops listed) (hi : i = j → listed.getD on false = true) : j ∈ Region.ready .any (more ops i on) listed := by
 obtain ⟨h1, o, ho, h2⟩ := mem_ready.1 h; refine mem_ready.2 ⟨h1, _, by rw [more_get, ho]; rfl, fun e he hb => ?_⟩; split at he
 · next hij =>
   rcases Array.mem_push.1 he with he | he
   · exact h2 e he hb
   · rw [he]; exact hi hij
 · exact h2 e he hb
theorem ready_more {ops : Array Oper} {i on j : Nat} {listed : Array Bool} (h : j ∈ Region.ready .any (more ops i on) listed) : j ∈ Region.ready .any ops listed := by
 obtain ⟨h1, o', ho, h2⟩ := mem_ready.1 h; rw [more_get, Option.map_eq_some_iff] at ho; obtain ⟨o, ho, rfl⟩ := ho; refine mem_ready.2 ⟨h1, o, ho, fun e he hb => h2 e ?_ hb⟩; split
 · exact Array.mem_push.2 (.inl he)
 · exact he
theorem ordOk_more {ops : Array Oper} {i on : Nat} (hs : on < ops.size) : ∀ (l : List Nat) (listed : Array Bool), listed.size = ops.size → OrdOk .any ops listed l → (∀ l1 l2, l = l1 ++ i :: l2 → listed.getD on false = true ∨ on ∈ l1) → OrdOk .any (more ops i on) listed l
 | [], listed, _, h, _ => by
   show Region.ready .any (more ops i on) listed = []
   cases hr : Region.ready .any (more ops i on) listed with
   | nil => rfl
   | cons j r =>
     have := ready_more (by rw [hr]; exact List.mem_cons_self (a := j)); rw [show Region.ready .any ops listed = [] from h] at this; cases this
 | j :: l, listed, hz, h, hp => by
   refine ⟨more_ready h.1 (fun e => ?_), ordOk_more hs l _ (by simpa using hz) h.2 (fun l1 l2 e => ?_)⟩
   · rcases hp [] l (by rw [e]; rfl) with h' | h'
     · exact h'
     · cases h'
   · rcases hp (j :: l1) l2 (by rw [e]; rfl) with h' | h'
     · left
       by_cases hj : on = j
       · subst hj; simp [Array.getD, hz, hs]
       · simp only [Array.getD_eq_getD_getElem?, Array.getElem?_setIfInBounds_ne (Ne.symm hj)] at h' ⊢; exact h'
     · rcases List.mem_cons.1 h' with rfl | h'
       · left; simp [Array.getD, hz, hs]
       · right; exact h'
theorem len_of_subset {α : Type} : ∀ {l m : List α}, l.Nodup → (∀ x ∈ l, x ∈ m) → l.length ≤ m.length
 | [], m, _, _ => by simp
 | x :: l, m, hn, hs => by
   obtain ⟨a, b, rfl⟩ := List.append_of_mem (hs x List.mem_cons_self); obtain ⟨h1, h2⟩ := List.nodup_cons.1 hn; have ih : l.length ≤ (a ++ b).length := len_of_subset h2 (fun y hy => by
    rcases List.mem_append.1 (hs y (List.mem_cons_of_mem _ hy)) with h' | h'
    · exact List.mem_append_left _ h'
    · rcases List.mem_cons.1 h' with rfl | h'
      · exact absurd hy h1
      · exact List.mem_append_right _ h')
   simp at ih ⊢; omega
theorem wp_region_two {id : Nat} {a : Act} {w : World} {l : List Oper} (i j : Nat) (hij : i ≠ j) (hi : i < l.length) (hj : j < l.length) (hm : P.follows .mixedOrders = true)
 (h1 : wpAny P .any (moreL l i j).toArray Q (moreL l i j).toArray.size (Array.replicate (moreL l i j).toArray.size false) a w.drew)
 (h2 : wpAny P .any (moreL l j i).toArray Q (moreL l j i).toArray.size (Array.replicate (moreL l j i).toArray.size false) a w.drew) : (Code.region id l.toArray true).wp P Q a w := by
 have e1 : ∀ i j, (moreL l i j).toArray = more l.toArray i j := fun i j => by
  unfold moreL more; simp
 rw [e1] at h1 h2; refine wp_region_draw fun t => ?_; simp only [Region.schedule, hm, Bool.true_or, if_true]; have ho : OrdOk .any l.toArray (Array.replicate l.toArray.size false) (Region.linearise.go .any l.toArray l.toArray.size t (Array.replicate l.toArray.size false) []) := ordOk_go _ _ _ (fun m hn hm => by
  have : ∀ k ∈ m, k < l.toArray.size := fun k hk => by
   have := hm k hk; rcases Nat.lt_or_ge k l.toArray.size with h | h
   · exact h
   · rw [Array.getD_eq_getD_getElem?, Array.getElem?_eq_none (by simpa using h)] at this; cases this
  have h3 : m.length ≤ (List.range l.toArray.size).length := len_of_subset hn (fun k hk => List.mem_range.2 (this k hk)); simpa using h3)
 show wpOps P l.toArray Q (Region.linearise.go .any l.toArray l.toArray.size t (Array.replicate l.toArray.size false) []) a w.drew; generalize Region.linearise.go .any l.toArray l.toArray.size t (Array.replicate l.toArray.size false) [] = s at *; have ms : ∀ i j, (more l.toArray i j).size = l.toArray.size := fun i j => by simp [more]
 by_cases hp : ∀ l1 l2, s = l1 ++ i :: l2 → j ∈ l1
 · refine more_wpOps _ i j s a _ (wpOps_of_any _ _ _ _ _ (by rw [ms] at h1; exact h1) (ordOk_more (by simpa using hj) s _ (by simp) ho (fun l1 l2 e => .inr (hp l1 l2 e))))
 · refine more_wpOps _ j i s a _ (wpOps_of_any _ _ _ _ _ (by rw [ms] at h2; exact h2) (ordOk_more (by simpa using hi) s _ (by simp) ho (fun m1 m2 e => .inr ?_))); obtain ⟨l1, hp⟩ := Classical.not_forall.1 hp; obtain ⟨l2, hp⟩ := Classical.not_forall.1 hp; obtain ⟨e', hn⟩ := Classical.not_imp.1 hp; rw [e'] at e; rcases List.append_eq_append_iff.1 e with ⟨q, e1, e2⟩ | ⟨q, e1, e2⟩
   · cases q with
     | nil =>
       simp only [List.nil_append, List.cons.injEq] at e2; exact absurd e2.1 hij
     | cons x q =>
       simp only [List.cons_append, List.cons.injEq] at e2; rw [e1, e2.1]; simp
   · cases q with
     | nil =>
       simp only [List.nil_append, List.cons.injEq] at e2; exact absurd e2.1.symm hij
     | cons x q =>
       simp only [List.cons_append, List.cons.injEq] at e2; rw [e1, e2.1] at hn; exact absurd (by simp) hn
end
end Go.GrowS
end

section
set_option maxRecDepth 100000
namespace Go.Proofs.YtjapbjmeoaagmaaGreatDoor
open Go.RowKit Go.Mem Orange
def PlAt (w : World) (A : Nat → Prop) (v : Value) (l : List PStep) : Prop := RowAt w A 3 v l.length (l.flatMap fun s => (cellsS s).toList) ∧ ∀ s ∈ l, i64R s.pos
theorem flat3_get : ∀ (l : List PStep) (i : Nat) (h : i < l.length) (j : Nat) (hj : j < 3), (l.flatMap fun s => (cellsS s).toList)[i * 3 + j]? = (cellsS l[i])[j]?
 | s :: l, 0, h, j, hj => by
   rw [List.flatMap_cons, Nat.zero_mul, Nat.zero_add, List.getElem?_append_left (by simp; omega)]; simp
 | s :: l, i + 1, h, j, hj => by
   rw [List.flatMap_cons, List.getElem?_append_right (by simp; omega)]; have := flat3_get l i (by simpa using h) j hj; rw [show (i + 1) * 3 + j - (cellsS s).toList.length = i * 3 + j by simp; omega]; exact this
theorem PlAt.keep {w w' : World} {A A' : Nat → Prop} {v : Value} {l : List PStep} (h : PlAt w A v l) (hs : w.heap.size ≤ w'.heap.size) (hA : ∀ g, A g → g < w.heap.size → A' g ∧ w'.heap[g]? = w.heap[g]?) : PlAt w' A' v l := ⟨h.1.keep hs hA, h.2⟩
theorem PlAt.elem {w : World} {A : Nat → Prop} {a : Option Addr} {m cap : Nat} {l : List PStep} (h : PlAt w A (.slice a m cap) l) (i : Nat) (hi : i < l.length) :
 ∃ g o, a = some ⟨g, o, none⟩ ∧ A g ∧ ∀ w' : World, (∀ g, A g → g < w.heap.size → w'.heap[g]? = w.heap[g]?) →
   w'.cell? ⟨g, o + i * 3, none⟩ = some (.string ⟨l[i].name.toArray⟩) ∧ w'.cell? ⟨g, o + i * 3 + 1, none⟩ = some (.int .i64 l[i].pos) ∧ w'.cell? ⟨g, o + i * 3 + 2, none⟩ = some (.bool l[i].named) := by
 obtain ⟨h0, a', c', e, _, _, hrow⟩ := h.1; simp only [Value.slice.injEq] at e; obtain ⟨rfl, -, rfl⟩ := e; obtain ⟨g, o, rfl, hA, hg, hc0⟩ := hrow (by omega); have key : ∀ w' : World, (∀ g, A g → g < w.heap.size → w'.heap[g]? = w.heap[g]?) → ∀ j, j < 3 → ∀ u, (cellsS l[i])[j]? = some u → w'.cell? ⟨g, o + (i * 3 + j), none⟩ = some u := fun w' hw j hj u hu => by
  rw [World.cell?_of_block (w := w) (a := ⟨g, o + (i * 3 + j), none⟩) (hw g hA hg)]; obtain ⟨hj2, e2⟩ := List.getElem?_eq_some_iff.1 ((flat3_get l i hi j hj).trans hu); rw [← e2]; exact hc0 _ hj2
 refine ⟨g, o, rfl, hA, fun w' hw => ?_⟩; simp only [Nat.add_assoc]; exact ⟨key w' hw 0 (by omega) _ rfl, key w' hw 1 (by omega) _ rfl, key w' hw 2 (by omega) _ rfl⟩
theorem atT_append (t : Tree) : ∀ (l m : List PStep), atT t (l ++ m) = (atT t l).bind fun x => atT x m := by
 intro l; induction l generalizing t with
 | nil => intro m; rfl
 | cons s l ih =>
   intro m; rw [List.cons_append, atT, atT]; cases Orange.stepT t s with
   | none => rfl
   | some x => exact ih x m
theorem atT_take (t : Tree) (l : List PStep) (i : Nat) (h : i < l.length) : atT t (l.take (i + 1)) = (atT t (l.take i)).bind fun x => Orange.stepT x l[i] := by
 rw [List.take_add_one, List.getElem?_eq_getElem h, Option.toList_some, atT_append]; congr 1
 funext x
 rw [atT]; cases Orange.stepT x l[i] with
 | none => rfl
 | some y => rfl
theorem atT_stop {t : Tree} {l : List PStep} {i : Nat} (h : atT t (l.take i) = none) : atT t l = none := by
 rw [← List.take_append_drop i l, atT_append, h]; rfl
section
variable {G0 G1 : World → World → Prop} {sp p B : Nat}
def specGet (h0 : ∀ w w', G0 w w' → KeptP p w w') (h1 : ∀ w w', G1 w w' → KeptP p w w') (A : Nat → Prop) (hp : ∀ g, A g → g ≠ p) (X : Tree) (ok : Bool) : GrowS.Spec (GrowS.gS sp G0 G1) :=
 ⟨fun v => ∃ k b d s a1 n1 c1 a2 n2 c2, v = .tuple #[.agg (cellsV k b d s (.slice a1 n1 c1) (.slice a2 n2 c2)), .bool ok], fun v w => ∃ c, v = .tuple #[.agg c, .bool ok] ∧ TV w A X c, ⟨_, 0, false, Num.zero, [], none, 0, 0, none, 0, 0, rfl⟩,
   fun i v w w' ⟨c, e, h⟩ hg => ⟨c, e, h.keep (by unfold GrowS.gS at hg; split at hg; exact (h1 _ _ hg).size; exact (h0 _ _ hg).size) (fun g hgA hlt => ⟨hgA, by
    have hk : KeptP p w w' := by unfold GrowS.gS at hg; split at hg; exact h1 _ _ hg; exact h0 _ _ hg
    exact hk.block g hlt (hp g hgA)⟩)⟩⟩
end
theorem tuple_inj {c c' : Array Value} {b : Value} (h : Value.tuple #[.agg c, b] = .tuple #[.agg c', b]) : c = c' := by
 simp only [Value.tuple.injEq, Array.mk.injEq, List.cons.injEq, Value.agg.injEq, and_true] at h; exact h
theorem KeptP.store8 {q : Nat} {w : World} (a b c d e f g i : Value) : KeptP q w ((((((((w.setCell ⟨q, 0, none⟩ a).setCell ⟨q, 1, none⟩ b).setCell ⟨q, 2, none⟩ c).setCell ⟨q, 3, none⟩ d).setCell ⟨q, 4, none⟩ e).setCell ⟨q, 5, none⟩ f).setCell ⟨q, 6, none⟩ g).setCell ⟨q, 7, none⟩ i) :=
 (((((((KeptP.set a).trans (KeptP.set b)).trans (KeptP.set c)).trans (KeptP.set d)).trans (KeptP.set e)).trans (KeptP.set f)).trans (KeptP.set g)).trans (KeptP.set i)
theorem ext_keptP {w w1 w2 : World} {p : Nat} (h : Ext w w1) (k : KeptP p w1 w2) (hp : w.heap.size ≤ p) : Ext w w2 :=
 ⟨k.os.trans h.os, k.tape.trans h.tape, k.output.trans h.output, Nat.le_trans h.size k.size, fun b hb => by
   rw [k.block b (Nat.lt_of_lt_of_le hb h.size) (by omega)]; exact h.block b hb⟩
set_option maxHeartbeats 6400000 in
theorem at_any (t : Tree) (c : Array Value) (A : Nat → Prop) (v : Value) (l : List PStep) (w : World) (h : TV w A t c) (hl : PlAt w A v l) :
 Calls Tryz.prog 19 #[.agg c, v] w (fun e w' => ∃ c', e = .returned (.tuple #[.agg c', .bool (atT t l).isSome]) ∧ TV w' A ((atT t l).getD tNull) c' ∧ Ext w w') := by
 obtain ⟨k, b, d, ss, la, ln, lc, ma, mn, mc, rfl⟩ := h.eight; obtain ⟨_, va, vc, rfl, hvn, hvm, -⟩ := id hl.1; obtain ⟨R, hR⟩ := Ex (atT t l); rw [hR]; have HR := Hd hR; obtain ⟨wA, ewA⟩ : ∃ W, w.alloc (.cells (cellsV k b d ss (.slice la ln lc) (.slice ma mn mc)) 27) = W := ⟨_, rfl⟩
 have nwA : wA.heap[w.heap.size]? = some (.cells (cellsV k b d ss (.slice la ln lc) (.slice ma mn mc)) 27) := by rw [← ewA]; exact heap_alloc_new _ _
 have xwA : Ext w wA := by rw [← ewA]; exact (ext_refl _).alloc (Nat.le_refl _) _
 have swA : wA.heap.size = w.heap.size + 1 := by rw [← ewA]; simp
 obtain ⟨wB, ewB⟩ : ∃ W, wA.alloc (.cells zeroV 27) = W := ⟨_, rfl⟩
 have nwB : wB.heap[wA.heap.size]? = some (.cells zeroV 27) := by rw [← ewB]; exact heap_alloc_new _ _
 have xwB : Ext wA wB := by rw [← ewB]; exact (ext_refl _).alloc (Nat.le_refl _) _
 have swB : wB.heap.size = wA.heap.size + 1 := by rw [← ewB]; simp
 have HE := Hd (ext_trans xwA xwB); have HT := Hd (h.keep (w' := wB) (A' := fun g => A g ∧ g < w.heap.size) HE.out.size (fun g hg hlt => ⟨⟨hg, hlt⟩, HE.out.block g hlt⟩)); have HL := Hd (hl.keep (w' := wB) (A' := fun g => A g ∧ g < w.heap.size) HE.out.size (fun g hg hlt => ⟨⟨hg, hlt⟩, HE.out.block g hlt⟩)); rw [swA] at nwB
 have HC : Hid (VAt wB w.heap.size (cellsV k b d ss (.slice la ln lc) (.slice ma mn mc))) := Hd (VAt.ext nwA xwB); have HV2 : Hid (VAt wB (w.heap.size + 1) zeroV) := Hd nwB; have EA := Hd ewA; have EB := Hd ewB; clear hR h hl nwA nwB xwA xwB swA swB ewA ewB; simp only [cellsV, zeroV, noL, Num.zero] at EA EB ⊢; go_enter Tryz.func19, Tryz.ntmps19
 go_upto_region 1 with fail; rw [EA.out, EB.out]; obtain ⟨S, hS⟩ := Ex w.heap.size; rw [hS] at HC HV2 HT HL ⊢; have HS := Hd hS; clear hS EA EB; go_wp2_with fail
 go_loopw [6, 7] (fun okv iv wr => ∃ (i : Nat) (ok : Bool) (x : Tree) (cx : Array Value), okv = .bool ok ∧ iv = .int .i64 i ∧ i ≤ l.length ∧ VAt wr S cx ∧ TV wr (fun g => A g ∧ g < S) x cx ∧ KeptP S wB wr ∧ ((ok = true ∧ atT t (l.take i) = some x) ∨ (ok = false ∧ x = tNull ∧ atT t (l.take i) = none))) (fun _ iv _ => 9223372036854775808 - (intOf iv).toNat)
 case atStart => exact ⟨0, true, t, _, rfl, rfl, Nat.zero_le _, HC.out, HT.out, KeptP.refl _ _, .inl ⟨rfl, rfl⟩⟩
 case round =>
  obtain ⟨i, ok, x, cx, rfl, rfl, hi, hvx, htx, hkx, hcase⟩ := hrel; obtain ⟨xk, xb, xd, xs, xa1, xn1, xc1, xa2, xn2, xc2, rfl⟩ := htx.eight; have HVX := Hd hvx; have HTX := Hd htx; have HKX := Hd hkx; have HV3 := Hd (HV2.out.kept hkx (by omega)); have hSw : S < wr.heap.size := hvx.lt; clear hvx htx hkx; by_cases hgo : i < l.length ∧ ok = true
  · obtain ⟨hlt, rfl⟩ := hgo; have hatx : atT t (l.take i) = some x := by
     rcases hcase with h | h
     · exact h.2
     · exact absurd h.1 (by decide)
    have HAT := Hd (show atT t (l.take (i + 1)) = Orange.stepT x l[i] by rw [atT_take t l i hlt, hatx]; rfl); have hlti : (i : Int) < l.length := by omega
    have hi0 : (0 : Int) ≤ i := by omega
    obtain ⟨g, o, rfl, hgA, hel⟩ := HL.out.elem i hlt; have HPOS := Hd (HL.out.2 l[i] (List.getElem_mem hlt)); have HFX : Hid (∀ w', Ext wr w' → w'.cell? ⟨g, o + i * 3, none⟩ = some (.string ⟨l[i].name.toArray⟩) ∧ w'.cell? ⟨g, o + i * 3 + 1, none⟩ = some (.int .i64 l[i].pos) ∧ w'.cell? ⟨g, o + i * 3 + 2, none⟩ = some (.bool l[i].named)) := Hd (fun w' hw =>
     hel w' (fun g hg hlt => by rw [hw.block g (Nat.lt_of_lt_of_le hlt HKX.out.size)]; exact HKX.out.block g hlt (by have := hg.2; omega)))
    obtain ⟨s, hs⟩ := Ex (l[i]); have hfx := HFX.out; have hat := HAT.out; have hpos := HPOS.out; rw [hs] at hfx hat hpos; replace HFX := Hd hfx; replace HAT := Hd hat; replace HPOS := Hd hpos; obtain ⟨X, hX⟩ := Ex ((Orange.stepT x s).getD tNull); obtain ⟨OK, hOK⟩ := Ex ((Orange.stepT x s).isSome)
    have HCALL : Hid (∀ w', Ext wr w' → Calls Tryz.prog 50 #[.agg (cellsV xk xb xd xs (.slice xa1 xn1 xc1) (.slice xa2 xn2 xc2)), .agg (cellsS s)] w' (fun e w'' => ∃ c', e = .returned (.tuple #[.agg c', .bool OK]) ∧ TV w'' (fun g => A g ∧ g < S) X c' ∧ Ext w' w'')) := Hd (fun w' hw => by
     rw [← hX, ← hOK]; exact step_any x _ _ s w' (HTX.out.keep hw.size (fun g hg hlt => ⟨hg, hw.block g hlt⟩)) HPOS.out)
    have HX := Hd hX; have HOK := Hd hOK; clear hfx hat hpos hel hs hX hOK hcase hatx; go_upto_region 5 with fail; have h0 : ∀ w w', Ext w w' → KeptP S w w' := fun _ _ => KeptP.ofExt; have h1 : ∀ w1 w', (KeptP S w1 w' ∧ ∃ cx, VAt w' S cx ∧ TV w' (fun g => A g ∧ g < S) X cx) → KeptP S w1 w' := fun _ _ h => h.1; have hAS : ∀ g, (A g ∧ g < S) → g ≠ S := fun g hg => by have := hg.2; omega
    refine GrowS.wp_region_restW (G0 := Ext) (G1 := fun w1 w' => KeptP S w1 w' ∧ ∃ cx, VAt w' S cx ∧ TV w' (fun g => A g ∧ g < S) X cx) (B0 := fun w' => Ext wr w') (B1 := fun w' => KeptP S wr w' ∧ ∃ cx, VAt w' S cx ∧ TV w' (fun g => A g ∧ g < S) X cx) (E := fun _ _ => False) (anc := fun j => if j = 9 then [5] else [])
     (I := fun j => if j = 5 then some (specGet h0 h1 (fun g => A g ∧ g < S) hAS X OK) else if j = 9 then some (GrowS.Spec.val _ undef) else none) 9 11 (fun j => if j = 9 then [0, 1, 2, 3, 4, 5, 6, 7] else []) (Array.replicate 11 true)
     (by kernel_rfl) (by kernel_rfl) (by kernel_rfl) (by kernel_rfl) (by kernel_rfl) (by kernel_rfl) ?_ ?_ ?_ ?_ ?_ ?_
    · exact fun w w' h hg => ext_trans h hg
    · exact fun w1 w' h hg => ⟨h.1.trans (KeptP.ofExt hg), by
       obtain ⟨cx, h2, h3⟩ := h.2; exact ⟨cx, h2.ext hg, h3.keep hg.size (fun g hgA hlt => ⟨hgA, hg.block g hlt⟩)⟩⟩
    · exact fun w1 w' h hg => ⟨(KeptP.ofExt h).trans hg.1, hg.2⟩
    · exact fun _ _ _ _ h => h.elim
    · exact (ext_refl _).drew
    simp only [List.take_succ_cons, List.take_zero, List.drop_succ_cons, List.drop_zero]; repeat
     (refine GrowS.Wk.step (fun K hK => ?_)
      first
      | (refine GrowS.step_read (by rfl) (by rfl) (fun w => ext_refl w) ?_
         apply Exists.intro; refine ⟨fun w hB hF => ?_, ?_⟩
         · replace hB : Ext wr w := hB; have HCW := HVX.out.ext hB; obtain ⟨c0, c1, c2, c3, c4, c5, c6, c7⟩ := HCW.c8; obtain ⟨s0, s1, s2⟩ := HFX.out w hB; go_simp; try exact rfl
         go_simp; refine hK _ _ ?_; clear hK K)
      | (refine GrowS.step_off (by rfl) ?_
         go_simp; refine hK _ _ ?_; clear hK K))
    refine GrowS.Wk.step (fun K hK => ?_); refine GrowS.step_rel (by rfl) (by rfl) (fun w' hB hF => ?_) (fun v hv => ?_)
    · replace hB : Ext wr w' := hB; go_simp; refine GrowS.relUpon_enter ((HCALL.out w' hB).mono ?_); rintro e w'' ⟨c', rfl, htv, hw''⟩; obtain ⟨yk, yb, yd, ys, ya1, yn1, yc1, ya2, yn2, yc2, rfl⟩ := htv.eight; exact .inl ⟨_, rfl, hw'', ⟨_, _, _, _, _, _, _, _, _, _, rfl⟩, _, rfl, htv⟩
    obtain ⟨yk, yb, yd, ys, ya1, yn1, yc1, ya2, yn2, yc2, rfl⟩ := hv; go_simp; refine hK _ _ ?_; clear hK K; repeat
     (refine GrowS.Wk.step (fun K hK => ?_)
      first
      | (refine GrowS.step_read (by rfl) (by rfl) (fun w => ext_refl w) ?_
         apply Exists.intro; refine ⟨fun w hB hF => ?_, ?_⟩
         · skip
           go_simp; try exact rfl
         go_simp; refine hK _ _ ?_; clear hK K)
      | (refine GrowS.step_off (by rfl) ?_
         go_simp; refine hK _ _ ?_; clear hK K))
    refine GrowS.Wk.step (fun K hK => ?_); refine GrowS.step_rel (by rfl) (by rfl) (fun w' hB hF => ?_) (fun v hv => ?_)
    · replace hB : Ext wr w' := hB; obtain ⟨c', ec, htv⟩ := hF 5 (by simp); obtain rfl := tuple_inj ec; have HCW := Hd (HVX.out.ext hB); have hst := VAt.store8 HCW.out (.int .i64 yk) (.bool yb) (.bool yd.neg) (.string ⟨yd.digits.toArray⟩) (.int .i64 yd.exp) (.string ⟨ys.toArray⟩) (.slice ya1 yn1 yc1) (.slice ya2 yn2 yc2); have HST := Hd hst; have HTV := Hd htv; clear hst htv ec hF
      obtain ⟨c0, c1, c2, c3, c4, c5, c6, c7⟩ := HCW.out.c8; obtain ⟨f0, f1, f2, f3, f4, f5, f6, f7⟩ := HCW.out.f8; go_simp; exact ⟨⟨KeptP.store8 _ _ _ _ _ _ _ _, _, HST.out, HTV.out.keep (by simp [World.setCell]) (fun g hg hlt => ⟨hg, heap8 (by have := hg.2; omega)⟩)⟩, rfl, trivial⟩
    obtain rfl : v = undef := hv; go_simp; refine hK _ _ ?_; clear hK K; repeat
     (refine GrowS.Wk.step (fun K hK => ?_)
      first
      | (refine GrowS.step_read (by rfl) (by rfl) (fun w => ext_refl w) ?_
         apply Exists.intro; refine ⟨fun w hB hF => ?_, ?_⟩
         · skip
           go_simp; try exact rfl
         go_simp; refine hK _ _ ?_; clear hK K)
      | (refine GrowS.step_off (by rfl) ?_
         go_simp; refine hK _ _ ?_; clear hK K))
    refine GrowS.Wk.nil ?_; intro w4 hB hF; show wpAny _ _ _ _ 0 _ _ _; refine ⟨by decide +kernel, ?_⟩; obtain ⟨hk4, cx4, hv4, htx4⟩ := hB; have HK4 := Hd (HKX.out.trans hk4); have HV4 := Hd hv4; have HT4 := Hd htx4; clear hF hk4 hv4 htx4 h0 h1 hAS; have e9 : IntKind.i64.wrap ((i : Int) + 1) = ((i + 1 : Nat) : Int) := by rw [IntWalk.i64_in _ (by omega)]; omega
    go_wp2_with fail; go_roundw
    case rel =>
     refine ⟨i + 1, OK, X, cx4, rfl, by go_num, by omega, HV4.out, HT4.out, HK4.out, ?_⟩; have hat := HAT.out; rw [← HOK.out, ← HX.out]; cases hst : Orange.stepT x s with
     | none => rw [hst] at hat; exact .inr ⟨rfl, rfl, hat⟩
     | some y => rw [hst] at hat; exact .inl ⟨rfl, hat⟩
    case measure => simp [intOf]; omega
  · have HF : Hid (R.isSome = ok ∧ R.getD tNull = x) := Hd (by
     rw [← HR.out]; rcases hcase with ⟨rfl, h1⟩ | ⟨rfl, rfl, h1⟩
     · have : i = l.length := by
        rcases Nat.lt_or_ge i l.length with h | h
        · exact absurd ⟨h, rfl⟩ hgo
        · omega
       rw [this, List.take_length] at h1; rw [h1]; exact ⟨rfl, rfl⟩
     · rw [atT_stop h1]; exact ⟨rfl, rfl⟩)
    have HEX := Hd (ext_keptP HE.out HKX.out (by rw [HS.out]; exact Nat.le_refl _)); obtain ⟨c0, c1, c2, c3, c4, c5, c6, c7⟩ := HVX.out.c8; have HV2 := HV3; obtain ⟨y0, y1, y2, y3, y4, y5, y6, y7⟩ := HV2.out.c8; obtain ⟨z0, z1, z2, z3, z4, z5, z6, z7⟩ := HV2.out.f8; by_cases hlt : i < l.length
    · have hok : ok = false := by cases ok; rfl; exact absurd ⟨hlt, rfl⟩ hgo
      subst hok; have hlti : (i : Int) < l.length := by omega
      go_wp2_with fail; have hV := VAt.store8 HV2.out (.int .i64 xk) (.bool xb) (.bool xd.neg) (.string ⟨xd.digits.toArray⟩) (.int .i64 xd.exp) (.string ⟨xs.toArray⟩) (.slice xa1 xn1 xc1) (.slice xa2 xn2 xc2); have HV := Hd hV; obtain ⟨v0, v1, v2, v3, v4, v5, v6, v7⟩ := HV.out.c8
      refine bodyPost_ret (v := .tuple #[.agg #[.int .i64 xk, .bool xb, .bool xd.neg, .string ⟨xd.digits.toArray⟩, .int .i64 xd.exp, .string ⟨xs.toArray⟩, .slice xa1 xn1 xc1, .slice xa2 xn2 xc2], .bool false]) (by simp [results, Tryz.results19, go_sem, v0, v1, v2, v3, v4, v5, v6, v7]) rfl ?_; rw [HF.out.1, HF.out.2]
      exact ⟨_, rfl, HTX.out.keep (by simp [World.setCell]) (fun g hg hlt => ⟨hg.1, heap8 (by have := hg.2; omega)⟩), ext_set8 HEX.out (by rw [HS.out]; omega)⟩
    · obtain rfl : i = l.length := by omega
      have hnlt : ¬ ((l.length : Int) < (l.length : Int)) := by omega
      go_wp2_with fail; have hV := VAt.store8 HV2.out (.int .i64 xk) (.bool xb) (.bool xd.neg) (.string ⟨xd.digits.toArray⟩) (.int .i64 xd.exp) (.string ⟨xs.toArray⟩) (.slice xa1 xn1 xc1) (.slice xa2 xn2 xc2); have HV := Hd hV; obtain ⟨v0, v1, v2, v3, v4, v5, v6, v7⟩ := HV.out.c8
      refine bodyPost_ret (v := .tuple #[.agg #[.int .i64 xk, .bool xb, .bool xd.neg, .string ⟨xd.digits.toArray⟩, .int .i64 xd.exp, .string ⟨xs.toArray⟩, .slice xa1 xn1 xc1, .slice xa2 xn2 xc2], .bool ok]) (by simp [results, Tryz.results19, go_sem, v0, v1, v2, v3, v4, v5, v6, v7]) rfl ?_; rw [HF.out.1, HF.out.2]
      exact ⟨_, rfl, HTX.out.keep (by simp [World.setCell]) (fun g hg hlt => ⟨hg.1, heap8 (by have := hg.2; omega)⟩), ext_set8 HEX.out (by rw [HS.out]; omega)⟩
end Go.Proofs.YtjapbjmeoaagmaaGreatDoor
end

section
set_option maxRecDepth 100000
namespace Go.Proofs.YtjapbjmeoaagmaaGreatDoor
open Go.RowKit Go.Mem
def Bld (w : World) (base b : Nat) (t : TypeId) (ex : List Value) (l : List UInt8) : Prop :=
 ∃ p v, w.heap[b]? = some (.cells (p :: v :: ex).toArray t (0, 0)) ∧ (p = .pointer none ∨ p = .pointer (some ⟨b, 0, none⟩)) ∧ b < base ∧ OwnB w base 5 v l
theorem heap_setCell_same {w : World} {b i : Nat} {c : Array Value} {t : TypeId} {fr : Nat × Nat} (u : Value) (h : w.heap[b]? = some (.cells c t fr)) : (w.setCell ⟨b, i, none⟩ u).heap[b]? = some (.cells (c.setIfInBounds i u) t fr) := by
 simp [World.setCell, Array.getElem?_modify, h]
def BldT (t : TypeId) (n : Nat) : Prop := liesAt Tryz.prog Tryz.prog.depth t (n / Tryz.prog.cellsOf t) 0 80 1 = true ∧ 2 ≤ n
theorem sizeBld : (Tryz.prog.info? 80).map (·.size) = some 2 := by kernel_rfl
theorem bldT_plain : BldT 80 2 := ⟨by kernel_rfl, by decide⟩
theorem copyCheck_any (b : Nat) (t : TypeId) (ex : List Value) (p v : Value) (w : World) (ht : BldT t (ex.length + 2)) (h : w.heap[b]? = some (.cells (p :: v :: ex).toArray t (0, 0))) (hp : p = .pointer none ∨ p = .pointer (some ⟨b, 0, none⟩)) :
 Calls Tryz.prog 85 #[.pointer (some ⟨b, 0, none⟩)] w fun e w' => e = .returned (.tuple #[]) ∧ w'.heap[b]? = some (.cells (.pointer (some ⟨b, 0, none⟩) :: v :: ex).toArray t (0, 0)) ∧ (∀ k, k ≠ b → w'.heap[k]? = w.heap[k]?) ∧ Kept (w.heap.size) b w w' ∧ w'.heap.size = w.heap.size := by
 have hc0 : w.cell? ⟨b, 0, none⟩ = some p := by rw [cell_of_cells h]; simp
 have hf0 : w.frozen? ⟨b, 0, none⟩ = false := free_of_cells h; have hs := heap_setCell_same (i := 0) (.pointer (some ⟨b, 0, none⟩)) h; have hc1 : (w.setCell ⟨b, 0, none⟩ (.pointer (some ⟨b, 0, none⟩))).cell? ⟨b, 0, none⟩ = some (.pointer (some ⟨b, 0, none⟩)) := by rw [cell_of_cells hs]; simp
 have hsh : w.shape? b = some (t, ex.length + 2) := by simp [World.shape?, h]
 obtain ⟨j, hj, hjs⟩ := Option.map_eq_some_iff.1 sizeBld; have HS := Hd hs; have H := Hd h; have HSH := Hd hsh; have HJ := Hd hj; have HJS := Hd hjs; have HT := Hd ht; clear hs h hsh hj hjs ht; rcases hp with rfl | rfl
 · go_enter Tryz.func85, Tryz.ntmps85
   go_wp2
   rw [Lib.run_to_unsafe w ⟨b, 0, none⟩ Tryz.underlying78 Tryz.underlying127 HJ.out (by rw [HJS.out]; decide) HSH.out (by have := HT.out.2; show 0 < _; omega)]; simp only [Result.andThen]; rw [Oper.upon_value]; go_wp2
   rw [run_callFunc_extern Tryz.func104 (by kernel_rfl) (by kernel_rfl) (by kernel_rfl) (e := Extern.AbiNoEscape.same) (by kernel_rfl)]; rw [Lib.run_noEscape]; simp only [Result.andThen]; rw [Oper.upon_value]; go_wp2
   rw [Lib.run_from_unsafe w ⟨b, 0, none⟩ Tryz.underlying127 Tryz.underlying78 HJ.out HSH.out HT.out.1]; simp only [Result.andThen]; rw [Oper.upon_value]; go_wp2
   go_end0
   refine ⟨rfl, ?_, fun k hk => Below.heap_setCell _ _ _ _ hk, Kept.setCell _, by simp⟩; rw [HS.out]; simp
 · go_enter Tryz.func85, Tryz.ntmps85
   go_wp2
   rw [Lib.run_neq_ptr_same w _ Tryz.underlying78 HJ.out]; go_wp2
   go_end0
   exact ⟨rfl, H.out, fun _ _ => rfl, Kept.refl _ _ _, rfl⟩
theorem own_kept {w w' : World} {base : Nat} {e : TypeId} {v : Value} {l : List UInt8} {b : Nat} (h : OwnB w base e v l) (hk : ∀ k, k ≠ b → w'.heap[k]? = w.heap[k]?) (hb : b < base) : OwnB w' base e v l := by
 refine ⟨h.1, ?_⟩; rcases h.2 with h | ⟨g, cap, cur, ev, hbg, hg, r⟩
 · exact .inl h
 · exact .inr ⟨g, cap, cur, ev, hbg, by rw [hk g (by omega)]; exact hg, r⟩
theorem own_shape' {w : World} {base : Nat} {e : TypeId} {size : Nat} {v : Value} {n : Nat} {xs : List Value} (h : w.ownsRow base e size v n xs) : ∃ a c, v = .slice a n c := by
 rcases h.2 with ⟨rfl, rfl⟩ | ⟨g, cap, cur, rfl, _⟩
 · exact ⟨_, _, rfl⟩
 · exact ⟨_, _, rfl⟩
set_option maxHeartbeats 1600000 in
theorem writeByte_any (base b : Nat) (t : TypeId) (ex : List Value) (l : List UInt8) (c : UInt8) (w : World) (ht : BldT t (ex.length + 2)) (h : Bld w base b t ex l) (hl : l.length + 1 ≤ 140737488355328) (hbase : base ≤ w.heap.size) :
 Calls Tryz.prog 62 #[.pointer (some ⟨b, 0, none⟩), .int .u8 c.toNat] w fun e w' => e = .returned .nilIface ∧ Bld w' base b t ex (l ++ [c]) ∧ Kept base b w w' := by
 obtain ⟨p, v, hb, hp, hbb, hown⟩ := h; obtain ⟨i0, hi, hz0, hz1, hz2⟩ := info_parts info8; have HC := Hd (copyCheck_any b t ex p v w ht hb hp); clear ht; go_enter Tryz.func62, Tryz.ntmps62
 have HB := Hd hb; clear hb; go_wp2_with (first
  | (go_at_call 85; refine HC.out.mono ?_; rintro e w1 ⟨rfl, h1, hk1, hkk, -⟩; have hsz := hkk.size; have hown1 := own_kept hown hk1 hbb; have hc1 : w1.cell? ⟨b, 1, none⟩ = some v := (by rw [cell_of_cells h1]; simp); have hb1 : b < w1.heap.size := lt_of_block h1; have hown2 : OwnB (w1.alloc (.cells #[.int .u8 c.toNat] 5)) base 5 v l := OwnB.ext hown1 ((ext_refl w1).alloc (Nat.le_refl _) _); have hbs : base ≤ (w1.alloc (.cells #[.int .u8 c.toNat] 5)).heap.size := (by simp; omega); have H1 := Hd h1; clear h1)
  | (at_builtin; refine wpList_append_src _ rfl _ _ 56 56 rfl base 5 i0 (.int .u8 0) 1 1 Tryz.underlying56 hi hz0 hz1 hz2 rfl (by decide) v _ _ rfl hown2 _ 1 [.int .u8 c.toNat] rfl (Src.ofSlice _ Tryz.underlying56 ⟨w1.heap.size, 0, none⟩ 1 1 _ rfl (cell_of_block1 (heap_alloc_new _ _)) (one_of1 rfl)) (by simp only [maxLen]; omega) (by omega) hbs ?_; intro v5 w5 hown5 hgr5; obtain ⟨a5, c5, rfl⟩ := own_shape' hown5; have h5 : w5.heap[b]? = some (.cells (.pointer (some ⟨b, 0, none⟩) :: v :: ex).toArray t (0, 0)) := (by rw [hgr5.block b (by simp; omega) (fun e => by have := (hown2.lt b e.symm).1; omega), Below.heap_alloc _ _ _ hb1]; exact H1.out); have hc5 : w5.cell? ⟨b, 1, none⟩ = some v := (by rw [cell_of_cells h5]; simp); have hf5 : w5.frozen? ⟨b, 1, none⟩ = false := free_of_cells h5; have H5 := Hd h5; clear h5))
 go_ret; have hk2 : Kept base b w1 (w1.alloc (.cells #[.int .u8 c.toNat] 5)) := Kept.ofBelow ((Below.refl base w1).alloc (by omega) _); have hk3 : Kept base b (w1.alloc (.cells #[.int .u8 c.toNat] 5)) w5 := Kept.ofBelow (Below.ofGrown hgr5 hown2 hbs)
 refine ⟨rfl, ⟨.pointer (some ⟨b, 0, none⟩), .slice a5 (l.length + 1) c5, ?_, .inr rfl, hbb, ?_⟩, (((hkk.mono hbase).trans hk2).trans hk3).trans (Kept.setCell _)⟩
 · rw [heap_setCell_same _ H5.out]; simp
 · unfold OwnB; rw [cells8_append, List.length_append]; exact ownsRow_setCell_below hown5 hbb _
set_option maxHeartbeats 1600000 in
theorem writeString_any (base b : Nat) (t : TypeId) (ex : List Value) (l : List UInt8) (s : ByteArray) (w : World) (ht : BldT t (ex.length + 2)) (h : Bld w base b t ex l) (hl : l.length + s.size ≤ 140737488355328) (hbase : base ≤ w.heap.size) :
 Calls Tryz.prog 63 #[.pointer (some ⟨b, 0, none⟩), .string s] w fun e w' => e = .returned (.tuple #[.int .i64 s.size, .nilIface]) ∧ Bld w' base b t ex (l ++ s.data.toList) ∧ Kept base b w w' := by
 obtain ⟨p, v, hb, hp, hbb, hown⟩ := h; obtain ⟨i0, hi, hz0, hz1, hz2⟩ := info_parts info8; have HC := Hd (copyCheck_any b t ex p v w ht hb hp); have hsl : s.data.toList.length = s.size := Array.length_toList; have hcl : Go.byteCells s = cells8 s.data.toList := rfl; have HSL := Hd hsl; have HCL := Hd hcl; clear ht hsl hcl; go_enter Tryz.func63, Tryz.ntmps63
 have HB := Hd hb; clear hb; go_wp2_with (first
  | (go_at_call 85; refine HC.out.mono ?_; rintro e w1 ⟨rfl, h1, hk1, hkk, -⟩; have hsz := hkk.size; have hown1 := own_kept hown hk1 hbb; have hc1 : w1.cell? ⟨b, 1, none⟩ = some v := (by rw [cell_of_cells h1]; simp); have hb1 : b < w1.heap.size := lt_of_block h1; have hbs : base ≤ w1.heap.size := (by omega); have H1 := Hd h1; clear h1)
  | (at_builtin; refine wpList_append_src _ rfl _ _ 56 9 rfl base 5 i0 (.int .u8 0) 1 1 Tryz.underlying56 hi hz0 hz1 hz2 rfl (by decide) v _ _ rfl hown1 _ s.size _ rfl (Src.ofString _ Tryz.underlying9 s) (by simp only [maxLen]; omega) (by omega) hbs ?_; intro v5 w5 hown5 hgr5; have hown6 : OwnB w5 base 5 v5 (l ++ s.data.toList) := (by unfold OwnB; rw [cells8_append, List.length_append, HSL.out, ← HCL.out]; exact hown5); obtain ⟨a5, c5, rfl⟩ := own8_shape hown6; have h5 : w5.heap[b]? = some (.cells (.pointer (some ⟨b, 0, none⟩) :: v :: ex).toArray t (0, 0)) := (by rw [hgr5.block b hb1 (fun e => by have := (hown1.lt b e.symm).1; omega)]; exact H1.out); have hc5 : w5.cell? ⟨b, 1, none⟩ = some v := (by rw [cell_of_cells h5]; simp); have hf5 : w5.frozen? ⟨b, 1, none⟩ = false := free_of_cells h5; have H5 := Hd h5; clear h5))
 go_ret2; have hk3 : Kept base b w1 w5 := Kept.ofBelow (Below.ofGrown hgr5 hown1 hbs); have hlen : (l ++ s.data.toList).length = l.length + s.size := by rw [List.length_append, HSL.out]
 rw [hlen] at hown6; refine ⟨rfl, ⟨.pointer (some ⟨b, 0, none⟩), .slice a5 (l.length + s.size) c5, ?_, .inr rfl, hbb, ?_⟩, ((hkk.mono hbase).trans hk3).trans (Kept.setCell _)⟩
 · rw [heap_setCell_same _ H5.out]; simp
 · exact ownsRow_setCell_below hown6 hbb _
set_option maxHeartbeats 1600000 in
theorem builderString_any (base b : Nat) (t : TypeId) (ex : List Value) (l : List UInt8) (w : World) (h : Bld w base b t ex l) (hl : l.length ≤ 140737488355328) (hl0 : l ≠ []) :
 Calls Tryz.prog 66 #[.pointer (some ⟨b, 0, none⟩)] w fun e w' => e = .returned (.string ⟨l.toArray⟩) ∧ Below base w w' := by
 obtain ⟨p, v, hb, hp, hbb, hown⟩ := h; have hc1 : w.drew.cell? ⟨b, 1, none⟩ = some v := by
  have : w.cell? ⟨b, 1, none⟩ = some v := by rw [cell_of_cells hb]; simp
  simpa using this
 clear hb hp; rcases hown.2 with ⟨rfl, h0⟩ | ⟨g, cap, cur, rfl, hbg, hg, hnc, hcm, hcs, htake⟩
 · exact absurd (List.eq_nil_of_length_eq_zero h0) hl0
 · have hln : l.length ≠ 0 := by simpa using hl0
   have hSD : (Builtin.unsafeSliceData_ #[56] 104 #[.slice (some ⟨g, 0, none⟩) l.length cap]).run Tryz.prog w.drew = .ok (.pointer (some ⟨g, 0, none⟩)) w.drew :=
    Lib.run_unsafeSliceData_row _ _ _ _ _ _ (by omega)
   have hUS : (Builtin.unsafeString_ #[104, 3] 9 #[.pointer (some ⟨g, 0, none⟩), .int .i64 l.length]).run Tryz.prog w.drew = .ok (.string ⟨l.toArray⟩) (w.drew.freeze ⟨g, 0, none⟩ l.length) := by
    refine Lib.run_unsafeString_row w.drew 104 3 9 5 Tryz.underlying104 (by kernel_rfl) g cur.size (by have hg' : w.drew.heap[g]? = some (.cells cur 5 (0, 0)) := hg; simp [World.shape?, hg']) l hl0 (by omega) (by omega) ?_; intro j x hx; exact hown.cells (g := g) rfl j (.int .u8 x.toNat) (by simp [cells8, hx])
   clear hcs htake hg; go_enter Tryz.func66, Tryz.ntmps66
   go_wp2
   go_region
   all_goals (go_wp2; go_ret; exact ⟨rfl, Lib.below_freeze ((Below.refl _ _).drew) (p := ⟨g, 0, none⟩) hbg _⟩)
end Go.Proofs.YtjapbjmeoaagmaaGreatDoor
end

section
set_option maxRecDepth 100000
namespace Orange
def decD (n : Nat) : List UInt8 := if n = 0 then [48] else digs n
def itoaP (n : Int) : List UInt8 := if n < 0 then 45 :: decD n.natAbs else decD n.toNat
theorem digs_len (k : Nat) : ∀ N, N < 10 ^ k → (digs N).length ≤ k := by
 induction k with
 | zero => intro N h; have : N = 0 := by simpa using h
           subst this; rw [digs_zero]; simp
 | succ k ih =>
   intro N h; by_cases h0 : N = 0
   · subst h0; rw [digs_zero]; simp
   · rw [digs_pos h0, List.length_append, List.length_singleton]; have := ih (N / 10) (by rw [Nat.pow_succ] at h; omega); omega
end Orange
end

section
set_option maxRecDepth 100000
namespace Go.Proofs.YtjapbjmeoaagmaaGreatDoor
open Go.RowKit Go.Mem Orange
def Tab (w : World) : Prop := Lib.TabIs Tryz.prog w "internal/strconv.uint64pow10" .u64 Lib.pow10Tab
theorem Tab.ext {w w' : World} (h : Tab w) (hb : Ext w w') : Tab w' := by
 unfold Tab Lib.TabIs at h ⊢; have hc : ∃ g, Tryz.prog.globalNamed "internal/strconv.uint64pow10" = some g ∧ g < w.heap.size := by
  cases hq : Tryz.prog.globalNamed "internal/strconv.uint64pow10" with
  | none => simp [World.var?, hq] at h
  | some g => exact ⟨g, rfl, World.block_lt_of_cell? w _ (Lib.TabIs.cell h hq 0 (by decide))⟩
 obtain ⟨g, hg, hlt⟩ := hc; exact var?_below hb hg hlt h
theorem decDigits_eq : ∀ u, Lib.decDigits u = decD u := by
 intro u; induction u using Nat.strongRecOn with
 | _ u ih =>
   rw [Lib.decDigits]; split
   · rename_i h
     unfold decD; split
     · rename_i h0; subst h0; rfl
     · rename_i h0
       rw [digs_pos h0, show u / 10 = 0 by omega, digs_zero, show u % 10 = u by omega]; rfl
   · rename_i h
     rw [ih (u / 10) (by omega)]; unfold decD; rw [if_neg (by omega), if_neg (by omega), digs_pos (N := u) (by omega)]; rfl
theorem itoa_eq (n : Int) : Lib.itoa n = itoaP n := by
 unfold Lib.itoa itoaP; rw [decDigits_eq, decDigits_eq]
theorem itoa_any (n : Int) (w : World) (hT : Tab w) (h0 : -9223372036854775808 ≤ n) (h1 : n ≤ 9223372036854775807) :
 Calls Tryz.prog 65 #[.int .i64 n] w fun e w' => e = .returned (.string ⟨(itoaP n).toArray⟩) ∧ Ext w w' := by
 refine (Tryz.strconv_Itoa n h0 h1 w hT).mono ?_; rintro e w' ⟨rfl, k, os, rfl⟩; exact ⟨by rw [itoa_eq], Lib.below_grow _ w (Nat.le_refl _) k os⟩
end Go.Proofs.YtjapbjmeoaagmaaGreatDoor
end

section
namespace Orange
def quoC (c : UInt8) : List UInt8 :=
 if c = 34 ∨ c = 92 then [92, c] else if c = 8 then [92, 98] else if c = 9 then [92, 116] else if c = 10 then [92, 110] else if c = 12 then [92, 102] else if c = 13 then [92, 114]
 else if c.toNat < 32 then [92, 117, 48, 48, hexs[c.toNat / 16]?.getD 0, hexs[c.toNat % 16]?.getD 0] else [c]
def quoL (l : List UInt8) : List UInt8 := l.flatMap quoC
def quote (l : List UInt8) : List UInt8 := 34 :: (quoL l ++ [34])
theorem quoC_len (c : UInt8) : (quoC c).length ≤ 6 := by
 unfold quoC; repeat' split
 all_goals simp
theorem quoL_len (l : List UInt8) : (quoL l).length ≤ 6 * l.length := by
 induction l with
 | nil => simp [quoL]
 | cons c t ih => have := quoC_len c; simp only [quoL, List.flatMap_cons, List.length_append, List.length_cons] at *; omega
theorem take_snoc (s : ByteArray) (k : Nat) (h : k < s.size) : s.data.toList.take (k + 1) = s.data.toList.take k ++ [s[k]] := by
 rw [List.take_succ_eq_append_getElem (by simpa using h)]; rfl
theorem quoL_snoc (s : ByteArray) (k : Nat) (h : k < s.size) (c : UInt8) (hc : s[k] = c) : quoL (s.data.toList.take (k + 1)) = quoL (s.data.toList.take k) ++ quoC c := by
 rw [take_snoc s k h, hc]; simp [quoL]
end Orange
end

section
set_option maxRecDepth 100000
namespace Go.Proofs.YtjapbjmeoaagmaaGreatDoor
open Go.RowKit Go.Mem Orange
theorem hexget (n : Nat) (h : n < 16) : hexs[n]?.getD 0 = (ByteArray.mk #[48, 49, 50, 51, 52, 53, 54, 55, 56, 57, 97, 98, 99, 100, 101, 102])[n]'h := by
 have : n = 0 ∨ n = 1 ∨ n = 2 ∨ n = 3 ∨ n = 4 ∨ n = 5 ∨ n = 6 ∨ n = 7 ∨ n = 8 ∨ n = 9 ∨ n = 10 ∨ n = 11 ∨ n = 12 ∨ n = 13 ∨ n = 14 ∨ n = 15 := by omega
 rcases this with rfl | rfl | rfl | rfl | rfl | rfl | rfl | rfl | rfl | rfl | rfl | rfl | rfl | rfl | rfl | rfl <;> rfl
theorem wbyte (base b : Nat) (t : TypeId) (ex : List Value) (l : List UInt8) (n : Int) (c : UInt8) (w : World) (hn : (c.toNat : Int) = n) (ht : BldT t (ex.length + 2)) (h : Bld w base b t ex l) (hl : l.length + 1 ≤ 140737488355328) (hbase : base ≤ w.heap.size) :
 Calls Tryz.prog 62 #[.pointer (some ⟨b, 0, none⟩), .int .u8 n] w fun e w' => e = .returned .nilIface ∧ Bld w' base b t ex (l ++ [c]) ∧ Kept base b w w' ∧ w.heap.size ≤ w'.heap.size := by
 subst hn; refine (writeByte_any base b t ex l c w ht h hl hbase).mono ?_; rintro e w' ⟨rfl, h1, h2⟩; exact ⟨rfl, h1, h2, h2.size⟩
set_option maxHeartbeats 3200000 in
theorem quote_any (s : ByteArray) (w : World) (hl : s.size ≤ 1000000000) :
 Calls Tryz.prog 86 #[.string s] w fun e w' => e = .returned (.string ⟨(quote s.data.toList).toArray⟩) ∧ Ext w w' := by
 have hT := bldT_plain; go_enter Tryz.func86, Tryz.ntmps86
 go_wp2_with fail; have hb0 : (w.alloc (.cells #[.pointer none, .slice none 0 0] 80)).heap[w.heap.size]? = some (.cells #[.pointer none, .slice none 0 0] 80 (0, 0)) := heap_alloc_new _ _; have hB0 : Bld (w.alloc (.cells #[.pointer none, .slice none 0 0] 80)) (w.heap.size + 1) w.heap.size 80 [] [] := ⟨_, _, hb0, .inl rfl, by omega, OwnB.nil _ _ _⟩
 have hs0 : (w.alloc (.cells #[.pointer none, .slice none 0 0] 80)).heap.size = w.heap.size + 1 := by simp
 have hx0 : Ext w (w.alloc (.cells #[.pointer none, .slice none 0 0] 80)) := (ext_refl w).alloc (Nat.le_refl _) _; refine (wbyte _ _ _ [] _ _ 34 _ rfl hT hB0 (by simp) (by omega)).mono ?_; rintro e w1 ⟨rfl, hB1, hK1, hs1⟩; simp only [List.nil_append] at hB1; go_wp2_with fail; have hx1 : Ext w w1 := hx0.trans ((hK1.mono (by omega : w.heap.size ≤ w.heap.size + 1)).below (Nat.le_refl _))
 go_loopw [10] (fun iv wr => ∃ k : Nat, k ≤ s.size ∧ iv = .int .i64 k ∧ Bld wr (w.heap.size + 1) w.heap.size 80 [] (34 :: quoL (s.data.toList.take k)) ∧ Kept (w.heap.size + 1) w.heap.size w1 wr ∧ w.heap.size + 1 ≤ wr.heap.size) (fun iv _ => s.size - (intOf iv).toNat)
 case atStart => exact ⟨0, by omega, rfl, hB1, Kept.refl _ _ _, by omega⟩
 case round =>
  obtain ⟨k, hk, rfl, hB1, hKr, hs1⟩ := hrel; have hq := quoL_len (s.data.toList.take k); have hq2 : (s.data.toList.take k).length ≤ k := List.length_take_le _ _; clear hB0 hb0 hs0 hx0 hK1; by_cases hlt : k < s.size
  · obtain ⟨c, hc⟩ := Ex (s[k]); have hsn := quoL_snoc s k hlt c hc; have hc8 := c.toNat_lt; by_cases hA : c = 34 ∨ c = 92
    · have hqc : quoC c = [92, c] := by rw [quoC, if_pos hA]
      rw [hqc] at hsn; have HQ := Hd hsn; have hix : Lib.indexByte [8, 9, 10, 12, 13] c = -1 := by rcases hA with rfl | rfl <;> decide
      clear hsn hqc; rcases hA with rfl | rfl
      · go_wp2_with fail; refine (idx_eq _ 34 _ _ hix).mono ?_; rintro e w' ⟨rfl, rfl⟩; go_wp2_with fail; refine (wbyte _ _ _ [] _ _ 92 _ (rfl) hT hB1 (by simp; omega) (by omega)).mono ?_; rintro e w2 ⟨rfl, hB2, hK2, hs2⟩; go_wp2_with fail; refine (wbyte _ _ _ [] _ _ 34 _ (rfl) hT hB2 (by simp; omega) (by omega)).mono ?_; rintro e w3 ⟨rfl, hB3, hK3, hs3⟩; go_wp2_with fail; go_roundw
        case rel => exact ⟨k + 1, by omega, by go_num, by rw [HQ.out]; simpa using hB3, ((hKr).trans hK2).trans hK3, by omega⟩
        case measure => simp [intOf]; omega
      · go_wp2_with fail; refine (idx_eq _ 92 _ _ hix).mono ?_; rintro e w' ⟨rfl, rfl⟩; go_wp2_with fail; refine (wbyte _ _ _ [] _ _ 92 _ (rfl) hT hB1 (by simp; omega) (by omega)).mono ?_; rintro e w2 ⟨rfl, hB2, hK2, hs2⟩; go_wp2_with fail; refine (wbyte _ _ _ [] _ _ 92 _ (rfl) hT hB2 (by simp; omega) (by omega)).mono ?_; rintro e w3 ⟨rfl, hB3, hK3, hs3⟩; go_wp2_with fail; go_roundw
        case rel => exact ⟨k + 1, by omega, by go_num, by rw [HQ.out]; simpa using hB3, ((hKr).trans hK2).trans hK3, by omega⟩
        case measure => simp [intOf]; omega
    by_cases hN : c = 8 ∨ c = 9 ∨ c = 10 ∨ c = 12 ∨ c = 13
    · rcases hN with rfl | rfl | rfl | rfl | rfl
      · have hqc : quoC 8 = [92, 98] := by decide
        rw [hqc] at hsn; have HQ := Hd hsn; have hix : Lib.indexByte [8, 9, 10, 12, 13] 8 = 0 := by decide
        clear hsn hqc hA; go_wp2_with fail; refine (idx_eq _ 8 _ _ hix).mono ?_; rintro e w' ⟨rfl, rfl⟩; go_wp2_with fail; refine (wbyte _ _ _ [] _ _ 92 _ (rfl) hT hB1 (by simp; omega) (by omega)).mono ?_; rintro e w2 ⟨rfl, hB2, hK2, hs2⟩; go_wp2_with fail; refine (wbyte _ _ _ [] _ _ 98 _ (rfl) hT hB2 (by simp; omega) (by omega)).mono ?_; rintro e w3 ⟨rfl, hB3, hK3, hs3⟩; go_wp2_with fail; go_roundw
        case rel => exact ⟨k + 1, by omega, by go_num, by rw [HQ.out]; simpa using hB3, ((hKr).trans hK2).trans hK3, by omega⟩
        case measure => simp [intOf]; omega
      · have hqc : quoC 9 = [92, 116] := by decide
        rw [hqc] at hsn; have HQ := Hd hsn; have hix : Lib.indexByte [8, 9, 10, 12, 13] 9 = 1 := by decide
        clear hsn hqc hA; go_wp2_with fail; refine (idx_eq _ 9 _ _ hix).mono ?_; rintro e w' ⟨rfl, rfl⟩; go_wp2_with fail; refine (wbyte _ _ _ [] _ _ 92 _ (rfl) hT hB1 (by simp; omega) (by omega)).mono ?_; rintro e w2 ⟨rfl, hB2, hK2, hs2⟩; go_wp2_with fail; refine (wbyte _ _ _ [] _ _ 116 _ (rfl) hT hB2 (by simp; omega) (by omega)).mono ?_; rintro e w3 ⟨rfl, hB3, hK3, hs3⟩; go_wp2_with fail; go_roundw
        case rel => exact ⟨k + 1, by omega, by go_num, by rw [HQ.out]; simpa using hB3, ((hKr).trans hK2).trans hK3, by omega⟩
        case measure => simp [intOf]; omega
      · have hqc : quoC 10 = [92, 110] := by decide
        rw [hqc] at hsn; have HQ := Hd hsn; have hix : Lib.indexByte [8, 9, 10, 12, 13] 10 = 2 := by decide
        clear hsn hqc hA; go_wp2_with fail; refine (idx_eq _ 10 _ _ hix).mono ?_; rintro e w' ⟨rfl, rfl⟩; go_wp2_with fail; refine (wbyte _ _ _ [] _ _ 92 _ (rfl) hT hB1 (by simp; omega) (by omega)).mono ?_; rintro e w2 ⟨rfl, hB2, hK2, hs2⟩; go_wp2_with fail; refine (wbyte _ _ _ [] _ _ 110 _ (rfl) hT hB2 (by simp; omega) (by omega)).mono ?_; rintro e w3 ⟨rfl, hB3, hK3, hs3⟩; go_wp2_with fail; go_roundw
        case rel => exact ⟨k + 1, by omega, by go_num, by rw [HQ.out]; simpa using hB3, ((hKr).trans hK2).trans hK3, by omega⟩
        case measure => simp [intOf]; omega
      · have hqc : quoC 12 = [92, 102] := by decide
        rw [hqc] at hsn; have HQ := Hd hsn; have hix : Lib.indexByte [8, 9, 10, 12, 13] 12 = 3 := by decide
        clear hsn hqc hA; go_wp2_with fail; refine (idx_eq _ 12 _ _ hix).mono ?_; rintro e w' ⟨rfl, rfl⟩; go_wp2_with fail; refine (wbyte _ _ _ [] _ _ 92 _ (rfl) hT hB1 (by simp; omega) (by omega)).mono ?_; rintro e w2 ⟨rfl, hB2, hK2, hs2⟩; go_wp2_with fail; refine (wbyte _ _ _ [] _ _ 102 _ (rfl) hT hB2 (by simp; omega) (by omega)).mono ?_; rintro e w3 ⟨rfl, hB3, hK3, hs3⟩; go_wp2_with fail; go_roundw
        case rel => exact ⟨k + 1, by omega, by go_num, by rw [HQ.out]; simpa using hB3, ((hKr).trans hK2).trans hK3, by omega⟩
        case measure => simp [intOf]; omega
      · have hqc : quoC 13 = [92, 114] := by decide
        rw [hqc] at hsn; have HQ := Hd hsn; have hix : Lib.indexByte [8, 9, 10, 12, 13] 13 = 4 := by decide
        clear hsn hqc hA; go_wp2_with fail; refine (idx_eq _ 13 _ _ hix).mono ?_; rintro e w' ⟨rfl, rfl⟩; go_wp2_with fail; refine (wbyte _ _ _ [] _ _ 92 _ (rfl) hT hB1 (by simp; omega) (by omega)).mono ?_; rintro e w2 ⟨rfl, hB2, hK2, hs2⟩; go_wp2_with fail; refine (wbyte _ _ _ [] _ _ 114 _ (rfl) hT hB2 (by simp; omega) (by omega)).mono ?_; rintro e w3 ⟨rfl, hB3, hK3, hs3⟩; go_wp2_with fail; go_roundw
        case rel => exact ⟨k + 1, by omega, by go_num, by rw [HQ.out]; simpa using hB3, ((hKr).trans hK2).trans hK3, by omega⟩
        case measure => simp [intOf]; omega
    have hix : Lib.indexByte [8, 9, 10, 12, 13] c = -1 := idx_none _ _ (by
     intro y hy e; simp only [List.mem_cons, List.not_mem_nil, or_false] at hy; apply hN; rw [← e]; exact hy)
    have hd1 : (((c.toNat : Nat) : Int) == 34) = false := by
     simp only [beq_eq_false_iff_ne, ne_eq]; intro e; exact hA (.inl (UInt8.toNat.inj (by simpa using (by omega : c.toNat = 34))))
    have hd2 : (((c.toNat : Nat) : Int) == 92) = false := by
     simp only [beq_eq_false_iff_ne, ne_eq]; intro e; exact hA (.inr (UInt8.toNat.inj (by simpa using (by omega : c.toNat = 92))))
    have hq1 : quoC c = if c.toNat < 32 then [92, 117, 48, 48, hexs[c.toNat / 16]?.getD 0, hexs[c.toNat % 16]?.getD 0] else [c] := by
     simp only [not_or] at hN; rw [quoC, if_neg hA, if_neg hN.1, if_neg hN.2.1, if_neg hN.2.2.1, if_neg hN.2.2.2.1, if_neg hN.2.2.2.2]
    clear hA hN; by_cases h32 : c.toNat < 32
    · rw [hq1, if_pos h32] at hsn; have HQ := Hd hsn; clear hsn hq1; have hd3 : decide (((c.toNat : Nat) : Int) < 32) = true := by simp; omega
      go_wp2_with fail; refine (idx_eq _ c _ _ hix).mono ?_; rintro e w' ⟨rfl, rfl⟩; go_wp2_with fail; refine (writeString_any _ _ _ [] _ _ _ hT hB1 (by show (34 :: quoL (s.data.toList.take k)).length + 4 ≤ 140737488355328; simp; omega) (by omega)).mono ?_; rintro e w2 ⟨rfl, hB2, hK2⟩; have hs2 := hK2.size; go_wp2_with fail
      refine (wbyte _ _ _ [] _ _ (hexs[c.toNat / 16]?.getD 0) _ (by rw [hexget _ (by omega)]) hT hB2 (by simp; omega) (by omega)).mono ?_; rintro e w3 ⟨rfl, hB3, hK3, hs3⟩; go_wp2_with fail; refine (wbyte _ _ _ [] _ _ (hexs[c.toNat % 16]?.getD 0) _ (by rw [hexget _ (by omega)]) hT hB3 (by simp; omega) (by omega)).mono ?_; rintro e w4 ⟨rfl, hB4, hK4, hs4⟩; go_wp2_with fail; go_roundw
      case rel => exact ⟨k + 1, by omega, by go_num, by rw [HQ.out]; simpa using hB4, (((hKr).trans hK2).trans hK3).trans hK4, by omega⟩
      case measure => simp [intOf]; omega
    · rw [hq1, if_neg h32] at hsn; have HQ := Hd hsn; clear hsn hq1; have hd3 : decide (((c.toNat : Nat) : Int) < 32) = false := by simp; omega
      go_wp2_with fail; refine (idx_eq _ c _ _ hix).mono ?_; rintro e w' ⟨rfl, rfl⟩; go_wp2_with fail; refine (wbyte _ _ _ [] _ _ c _ (rfl) hT hB1 (by simp; omega) (by omega)).mono ?_; rintro e w2 ⟨rfl, hB2, hK2, hs2⟩; go_wp2_with fail; go_roundw
      case rel => exact ⟨k + 1, by omega, by go_num, by rw [HQ.out]; simpa using hB2, (hKr).trans hK2, by omega⟩
      case measure => simp [intOf]; omega
  · obtain rfl : k = s.size := by omega
    go_wp2_with fail; refine (wbyte _ _ _ [] _ _ 34 _ rfl hT hB1 (by simp; omega) (by omega)).mono ?_; rintro e w2 ⟨rfl, hB2, hK2, hs2⟩; go_wp2_with fail; refine (builderString_any _ _ _ [] _ _ hB2 (by simp; omega) (by simp)).mono ?_; rintro e w3 ⟨rfl, hb3⟩; go_wp2_with fail; go_ret
    have hfull : s.data.toList.take s.size = s.data.toList := List.take_of_length_le (by rw [Array.length_toList]; exact Nat.le_refl _); refine ⟨?_, hx1.trans (((hKr.trans hK2).mono (by omega : w.heap.size ≤ w.heap.size + 1)).below (Nat.le_refl _) |>.trans ((hb3.mono (by omega : w.heap.size ≤ w.heap.size + 1))))⟩; rw [hfull]; rfl
set_option maxHeartbeats 1600000 in
theorem add_end (q : Nat) (val : ByteArray) (x0 : Value) (n : Int) (rp : Value) (w : World) (h0 : w.cell? ⟨q, 0, none⟩ = some x0) (h1 : w.cell? ⟨q, 1, none⟩ = some (.int .i64 0)) (f0 : w.frozen? ⟨q, 0, none⟩ = false) (f1 : w.frozen? ⟨q, 1, none⟩ = false) :
 Calls Tryz.prog 208 #[.pointer (some ⟨q, 0, none⟩), .string ⟨#[]⟩, .string val, .int .i64 n, rp] w (fun e w' => e = .returned (.tuple #[]) ∧ w' = (w.setCell ⟨q, 0, none⟩ (.string val)).setCell ⟨q, 1, none⟩ (.int .i64 n)) := by
 have h1' : (w.setCell ⟨q, 0, none⟩ (.string val)).cell? ⟨q, 1, none⟩ = some (.int .i64 0) := (World.cell?_setCell_other _ _ _ _ (by simp)).trans h1; go_enter Tryz.func208, Tryz.ntmps208
 go_wp2
 first | go_end0 | (simp only [Exit.inBlock, Exit.then]; refine bodyPost_ret (results_none rfl _ _ _) rfl ?_) | refine bodyPost_ret (results_none rfl _ _ _) rfl ?_
 exact ⟨rfl, rfl⟩
set_option maxHeartbeats 1600000 in
theorem add_leaf (q : Nat) (key val : ByteArray) (x3 : Value) (n : Int) (rp : Value) (w : World) (hk : key.toList.isEmpty = false) (hq : q < w.heap.size) (h2 : w.cell? ⟨q, 2, none⟩ = some (.string ⟨#[]⟩)) (h3 : w.cell? ⟨q, 3, none⟩ = some x3) (h4 : w.cell? ⟨q, 4, none⟩ = some (.slice none 0 0)) (f2 : w.frozen? ⟨q, 2, none⟩ = false) (f3 : w.frozen? ⟨q, 3, none⟩ = false) :
 Calls Tryz.prog 208 #[.pointer (some ⟨q, 0, none⟩), .string key, .string val, .int .i64 n, rp] w (fun e w' => e = .returned (.tuple #[]) ∧ w' = ((w.setCell ⟨q, 2, none⟩ (.string key)).setCell ⟨q, 3, none⟩ (.pointer (some ⟨w.heap.size, 0, none⟩))).alloc (.cells #[.string val, .int .i64 n, .string ⟨#[]⟩, .pointer none, .slice none 0 0] 246)) := by
 go_enter Tryz.func208, Tryz.ntmps208
 go_wp2_with (go_at_call 208; refine (add_end _ _ (.string ⟨#[]⟩) _ _ _ (by go_simp) (by go_simp) (by go_simp) (by go_simp)).mono ?_; rintro e w' ⟨rfl, rfl⟩)
 go_end0
 exact ⟨rfl, rfl⟩
end Go.Proofs.YtjapbjmeoaagmaaGreatDoor
end

section
set_option maxRecDepth 100000
namespace Orange
def mapv (i : Nat) : Int := if i = 34 then 0 else if i = 39 then 1 else if i = 92 then 2 else 3
end Orange
namespace Go.Proofs.YtjapbjmeoaagmaaGreatDoor
open Go.RowKit Go.Mem Orange
structure GB (w : World) (g : Nat) (pt : Value) (ts : Int) (f : Nat → Int) : Prop where
 lt : g < w.heap.size
 prio : w.cell? ⟨g, 1, none⟩ = some (.int .i64 0)
 pre : w.cell? ⟨g, 2, none⟩ = some (.string ⟨#[]⟩)
 tab : w.cell? ⟨g, 4, none⟩ = some pt
 siz : w.cell? ⟨g, 5, none⟩ = some (.int .i64 ts)
 map : ∀ i, i < 256 → w.cell? ⟨g, 6 + i, none⟩ = some (.int .u8 (f i))
 free : ∀ j, w.frozen? ⟨g, j, none⟩ = false
theorem GB.setM {w : World} {g : Nat} {pt : Value} {ts : Int} {f : Nat → Int} (h : GB w g pt ts f) (k : Nat) (v : Int) (hk : k < 256) :
 GB (w.setCell ⟨g, 6 + k, none⟩ (.int .u8 v)) g pt ts (fun i => if i = k then v else f i) where
 lt := by simpa using h.lt
 prio := (World.cell?_setCell_other _ _ _ _ (by first | (simp; done) | (simp; omega))).trans h.prio
 pre := (World.cell?_setCell_other _ _ _ _ (by first | (simp; done) | (simp; omega))).trans h.pre
 tab := (World.cell?_setCell_other _ _ _ _ (by first | (simp; done) | (simp; omega))).trans h.tab
 siz := (World.cell?_setCell_other _ _ _ _ (by first | (simp; done) | (simp; omega))).trans h.siz
 map := fun i hi => by
  by_cases e : i = k
  · subst e; simpa using World.cell?_setCell_same w _ _ (h.map i hi)
  · simp only [e, if_false]; exact (World.cell?_setCell_other _ _ _ _ (by first | (simp; done) | (simp; omega))).trans (h.map i hi)
 free := fun j => by simpa using h.free j
theorem GB.setS {w : World} {g : Nat} {pt : Value} {ts : Int} {f : Nat → Int} (h : GB w g pt ts f) (v : Int) :
 GB (w.setCell ⟨g, 5, none⟩ (.int .i64 v)) g pt v f where
 lt := by simpa using h.lt
 prio := (World.cell?_setCell_other _ _ _ _ (by simp)).trans h.prio
 pre := (World.cell?_setCell_other _ _ _ _ (by simp)).trans h.pre
 tab := (World.cell?_setCell_other _ _ _ _ (by simp)).trans h.tab
 siz := World.cell?_setCell_same w _ _ h.siz
 map := fun i hi => (World.cell?_setCell_other _ _ _ _ (by first | (simp; done) | (simp; omega))).trans (h.map i hi)
 free := fun j => by simpa using h.free j
theorem GB.drew {w : World} {g : Nat} {pt : Value} {ts : Int} {f : Nat → Int} (h : GB w g pt ts f) : GB w.drew g pt ts f where
 lt := by simpa using h.lt
 prio := by simpa using h.prio
 pre := by simpa using h.pre
 tab := by simpa using h.tab
 siz := by simpa using h.siz
 map := fun i hi => by simpa using h.map i hi
 free := fun j => by simpa using h.free j
theorem GB.setT {w : World} {g : Nat} {pt : Value} {ts : Int} {f : Nat → Int} (h : GB w g pt ts f) (v : Value) :
 GB (w.setCell ⟨g, 4, none⟩ v) g v ts f where
 lt := by simpa using h.lt
 prio := (World.cell?_setCell_other _ _ _ _ (by simp)).trans h.prio
 pre := (World.cell?_setCell_other _ _ _ _ (by simp)).trans h.pre
 tab := World.cell?_setCell_same w _ _ h.tab
 siz := (World.cell?_setCell_other _ _ _ _ (by simp)).trans h.siz
 map := fun i hi => (World.cell?_setCell_other _ _ _ _ (by first | (simp; done) | (simp; omega))).trans (h.map i hi)
 free := fun j => by simpa using h.free j
theorem GB.other {w : World} {g : Nat} {pt : Value} {ts : Int} {f : Nat → Int} (h : GB w g pt ts f) (b o : Nat) (hb : ¬ g = b) (v : Value) :
 GB (w.setCell ⟨b, o, none⟩ v) g pt ts f := by
 have hne : ∀ j, (⟨b, o, none⟩ : Addr) ≠ ⟨g, j, none⟩ := fun j e => hb (by rw [Addr.mk.injEq] at e; exact e.1.symm); have hne' : ∀ j, (⟨g, j, none⟩ : Addr) ≠ ⟨b, o, none⟩ := fun j e => hne j e.symm; have hc : ∀ j, (w.setCell ⟨b, o, none⟩ v).cell? ⟨g, j, none⟩ = w.cell? ⟨g, j, none⟩ := fun j => World.cell?_setCell_other _ _ _ _ (hne j)
 exact ⟨by simpa using h.lt, by rw [hc]; exact h.prio, by rw [hc]; exact h.pre, by rw [hc]; exact h.tab, by rw [hc]; exact h.siz, fun i hi => by rw [hc]; exact h.map i hi, fun j => by simpa using h.free j⟩
theorem GB.alloc {w : World} {g : Nat} {pt : Value} {ts : Int} {f : Nat → Int} (h : GB w g pt ts f) (o : Obj) : GB (w.alloc o) g pt ts f := by
 have hc : ∀ j, (w.alloc o).cell? ⟨g, j, none⟩ = w.cell? ⟨g, j, none⟩ := fun j => World.cell?_alloc_past _ _ _ h.lt; have hf : ∀ j, (w.alloc o).frozen? ⟨g, j, none⟩ = w.frozen? ⟨g, j, none⟩ := fun j => World.frozen?_alloc_past _ _ _ h.lt
 exact ⟨by have := h.lt; simp; omega, by rw [hc]; exact h.prio, by rw [hc]; exact h.pre, by rw [hc]; exact h.tab, by rw [hc]; exact h.siz, fun i hi => by rw [hc]; exact h.map i hi, fun j => by rw [hf]; exact h.free j⟩
structure Blk (w : World) (b : Nat) (cs : Array Value) : Prop where
 cell : ∀ j, w.cell? ⟨b, j, none⟩ = cs[j]?
 free : ∀ j, w.frozen? ⟨b, j, none⟩ = false
 lt : b < w.heap.size
theorem Blk.new {w : World} {n : Nat} (h : w.heap.size = n) (cs : Array Value) (t : TypeId) : Blk (w.alloc (.cells cs t)) n cs := by
 subst h; exact ⟨fun j => cell_of_cells (heap_alloc_new w _), fun j => free_of_cells (heap_alloc_new w _), by simp⟩
theorem Blk.alloc {w : World} {b : Nat} {cs : Array Value} (h : Blk w b cs) (o : Obj) : Blk (w.alloc o) b cs :=
 ⟨fun j => by rw [World.cell?_alloc_past _ _ _ h.lt]; exact h.cell j, fun j => by rw [World.frozen?_alloc_past _ _ _ h.lt]; exact h.free j, by have := h.lt; simp; omega⟩
theorem Blk.drew {w : World} {b : Nat} {cs : Array Value} (h : Blk w b cs) : Blk w.drew b cs :=
 ⟨fun j => by simpa using h.cell j, fun j => by simpa using h.free j, by simpa using h.lt⟩
theorem Blk.other {w : World} {b : Nat} {cs : Array Value} (h : Blk w b cs) (b' o : Nat) (hb : ¬ b = b') (v : Value) : Blk (w.setCell ⟨b', o, none⟩ v) b cs :=
 ⟨fun j => by
   rw [World.cell?_setCell_other _ ⟨b', o, none⟩ ⟨b, j, none⟩ _ (fun e => hb (by rw [Addr.mk.injEq] at e; first | exact e.1 | exact e.1.symm))]; exact h.cell j, fun j => by simpa using h.free j, by simpa using h.lt⟩
theorem Blk.set {w : World} {b : Nat} {cs : Array Value} (h : Blk w b cs) (k : Nat) (v : Value) (hk : k < cs.size) : Blk (w.setCell ⟨b, k, none⟩ v) b (cs.setIfInBounds k v) :=
 ⟨fun j => by
   by_cases e : j = k
   · subst e; rw [World.cell?_setCell_same w _ _ ((h.cell j).trans (Array.getElem?_eq_getElem hk))]; simp [hk]
   · rw [World.cell?_setCell_other _ ⟨b, k, none⟩ ⟨b, j, none⟩ _ (fun e' => e (by rw [Addr.mk.injEq] at e'; first | exact e'.2.1 | exact e'.2.1.symm)), h.cell j]; rw [Array.getElem?_setIfInBounds_ne (fun e' => e e'.symm)], fun j => by simpa using h.free j, by simpa using h.lt⟩
theorem Blk.ext {w w' : World} {b : Nat} {cs : Array Value} (h : Blk w b cs) (hx : Ext w w') : Blk w' b cs :=
 ⟨fun j => by rw [World.cell?_of_block (w := w) (a := ⟨b, j, none⟩) (hx.block b h.lt)]; exact h.cell j, fun j => by rw [World.frozen?_of_block (w := w) (a := ⟨b, j, none⟩) (hx.block b h.lt)]; exact h.free j, Nat.lt_of_lt_of_le h.lt hx.size⟩
theorem GB.ext {w w' : World} {g : Nat} {pt : Value} {ts : Int} {f : Nat → Int} (h : GB w g pt ts f) (hx : Ext w w') : GB w' g pt ts f := by
 have hc : ∀ j, w'.cell? ⟨g, j, none⟩ = w.cell? ⟨g, j, none⟩ := fun j => World.cell?_of_block (w := w) (a := ⟨g, j, none⟩) (hx.block g h.lt)
 exact ⟨Nat.lt_of_lt_of_le h.lt hx.size, by rw [hc]; exact h.prio, by rw [hc]; exact h.pre, by rw [hc]; exact h.tab, by rw [hc]; exact h.siz, fun i hi => by rw [hc]; exact h.map i hi, fun j => by rw [World.frozen?_of_block (w := w) (a := ⟨g, j, none⟩) (hx.block g h.lt)]; exact h.free j⟩
def leafV (v : ByteArray) (p : Int) : Array Value := #[.string v, .int .i64 p, .string ⟨#[]⟩, .pointer none, .slice none 0 0]
structure Trie (w : World) (g tb : Nat) : Prop where
 lt : g < tb
 gb : GB w g (.slice (some ⟨tb, 0, none⟩) 3 3) 3 mapv
 b0 : Blk w tb #[.pointer none, .pointer (some ⟨tb + 5, 0, none⟩), .pointer (some ⟨tb + 1, 0, none⟩)]
 b1 : Blk w (tb + 1) #[.string ⟨#[]⟩, .int .i64 0, .string ⟨#[]⟩, .pointer none, .slice (some ⟨tb + 4, 0, none⟩) 3 3]
 b2 : Blk w (tb + 2) (leafV ⟨#[34]⟩ 6)
 b3 : Blk w (tb + 3) (leafV ⟨#[92, 92]⟩ 4)
 b4 : Blk w (tb + 4) #[.pointer (some ⟨tb + 2, 0, none⟩), .pointer none, .pointer (some ⟨tb + 3, 0, none⟩)]
 b5 : Blk w (tb + 5) (leafV ⟨#[92, 39]⟩ 2)
theorem Trie.ext {w w' : World} {g tb : Nat} (h : Trie w g tb) (hx : Ext w w') : Trie w' g tb := ⟨h.lt, h.gb.ext hx, h.b0.ext hx, h.b1.ext hx, h.b2.ext hx, h.b3.ext hx, h.b4.ext hx, h.b5.ext hx⟩
def St0 (w wx : World) (g tb : Nat) : Prop := Ext w wx ∧ GB wx g (.slice (some ⟨tb, 0, none⟩) 3 3) 3 mapv ∧ wx.heap.size = tb + 1 ∧ Blk wx tb #[.pointer none, .pointer none, .pointer none]
def St1 (w wx : World) (g tb : Nat) : Prop := Ext w wx ∧ GB wx g (.slice (some ⟨tb, 0, none⟩) 3 3) 3 mapv ∧ wx.heap.size = tb + 3 ∧ Blk wx tb #[.pointer none, .pointer none, .pointer (some ⟨tb + 1, 0, none⟩)] ∧
 Blk wx (tb + 1) #[.string ⟨#[]⟩, .int .i64 0, .string ⟨#[34]⟩, .pointer (some ⟨tb + 2, 0, none⟩), .slice none 0 0] ∧ Blk wx (tb + 2) (leafV ⟨#[34]⟩ 6)
def St2 (w wx : World) (g tb : Nat) : Prop := Ext w wx ∧ GB wx g (.slice (some ⟨tb, 0, none⟩) 3 3) 3 mapv ∧ wx.heap.size = tb + 5 ∧ Blk wx tb #[.pointer none, .pointer none, .pointer (some ⟨tb + 1, 0, none⟩)] ∧
 Blk wx (tb + 1) #[.string ⟨#[]⟩, .int .i64 0, .string ⟨#[]⟩, .pointer none, .slice (some ⟨tb + 4, 0, none⟩) 3 3] ∧ Blk wx (tb + 2) (leafV ⟨#[34]⟩ 6) ∧ Blk wx (tb + 3) (leafV ⟨#[92, 92]⟩ 4) ∧
 Blk wx (tb + 4) #[.pointer (some ⟨tb + 2, 0, none⟩), .pointer none, .pointer (some ⟨tb + 3, 0, none⟩)]
end Go.Proofs.YtjapbjmeoaagmaaGreatDoor
end

section
set_option maxRecDepth 100000
namespace Orange
def stepTx (nm : PStep → List UInt8) (s : PStep) : List UInt8 := if s.named then [91, 39] ++ nm s ++ [39, 93] else [91] ++ itoaP (max s.pos 0) ++ [93]
def placeTx (nm : PStep → List UInt8) (l : List PStep) : List UInt8 := 36 :: l.flatMap (stepTx nm)
theorem itoaP_len {n : Int} (h : 0 ≤ n) (h1 : n ≤ 9223372036854775807) : (itoaP n).length ≤ 20 := by
 unfold itoaP; rw [if_neg (by omega)]; unfold decD; split
 · simp
 · exact digs_len 20 _ (by omega)
theorem stepTx_len {nm : PStep → List UInt8} {s : PStep} (hp : i64R s.pos) (hn : (nm s).length ≤ 100000) : (stepTx nm s).length ≤ 200000 := by
 unfold stepTx; split
 · simp; omega
 · have := itoaP_len (n := max s.pos 0) (by omega) (by have := hp.2; omega); simp; omega
theorem flat_len {nm : PStep → List UInt8} : ∀ {l : List PStep}, (∀ s ∈ l, i64R s.pos ∧ (nm s).length ≤ 100000) → (l.flatMap (stepTx nm)).length ≤ l.length * 200000
 | [], _ => by simp
 | s :: l, h => by
   have h1 := stepTx_len (h s (by simp)).1 (h s (by simp)).2; have h2 := flat_len (nm := nm) (l := l) (fun x hx => h x (by simp [hx])); rw [List.flatMap_cons, List.length_append, List.length_cons]; omega
theorem placeTx_take (nm : PStep → List UInt8) (l : List PStep) (i : Nat) (h : i < l.length) : placeTx nm (l.take (i + 1)) = placeTx nm (l.take i) ++ stepTx nm l[i] := by
 unfold placeTx; rw [List.take_add_one, List.getElem?_eq_getElem h, Option.toList_some, List.flatMap_append]; simp
end Orange
namespace Go.Proofs.YtjapbjmeoaagmaaGreatDoor
open Go.RowKit Go.Mem Orange
theorem bld_ext {w w' : World} {base b : Nat} {t : TypeId} {ex : List Value} {l : List UInt8} (h : Bld w base b t ex l) (hb : Ext w w') : Bld w' base b t ex l := by
 obtain ⟨p, v, h1, h2, h3, h4⟩ := h; exact ⟨p, v, by rw [hb.block b (Array.getElem?_eq_some_iff.1 h1).1]; exact h1, h2, h3, h4.ext hb⟩
theorem wstring (base b : Nat) (t : TypeId) (ex : List Value) (l : List UInt8) (s : ByteArray) (n : Nat) (w : World) (ht : BldT t (ex.length + 2)) (h : Bld w base b t ex l) (hl : l.length + s.size ≤ 140737488355328) (hbase : base ≤ w.heap.size) :
 Calls Tryz.prog 63 #[.pointer (some ⟨b, 0, none⟩), .string s] w fun e w' => (∃ v, e = .returned v) ∧ Bld w' base b t ex (l ++ s.data.toList) ∧ Kept base b w w' ∧ w.heap.size ≤ w'.heap.size := by
 refine (writeString_any base b t ex l s w ht h hl hbase).mono ?_; rintro e w' ⟨rfl, h1, h2⟩; exact ⟨⟨_, rfl⟩, h1, h2, h2.size⟩
set_option maxHeartbeats 3200000 in
theorem place_gen (nm : PStep → List UInt8) (A : Nat → Prop) (v : Value) (l : List PStep) (w : World) (hT : Tab w) (hl : PlAt w A v l) (hlen : l.length ≤ 1000) (hnl : ∀ s ∈ l, (nm s).length ≤ 100000)
 (HN : ∀ s ∈ l, s.named = true → ∀ w', Ext w w' → Calls Tryz.prog 64 #[.string ⟨s.name.toArray⟩] w' (fun e w'' => e = .returned (.string ⟨(nm s).toArray⟩) ∧ Ext w' w'')) :
 Calls Tryz.prog 30 #[v] w (fun e w' => e = .returned (.string ⟨(placeTx nm l).toArray⟩) ∧ Ext w w') := by
 obtain ⟨_, va, vc, rfl, hvn, hvm, -⟩ := id hl.1; have HB := bldT_plain; have HL := Hd hl; have HNM := Hd HN; have HNL := Hd hnl; have HTB := Hd hT; clear hl HN hnl hT; obtain ⟨S, hS⟩ := Ex w.heap.size; have HS := Hd hS; go_enter Tryz.func30, Tryz.ntmps30
 go_upto_region 2 with fail; have hb0 : (w.alloc (.cells #[.pointer none, .slice none 0 0] 80)).heap[w.heap.size]? = some (.cells #[.pointer none, .slice none 0 0] 80 (0, 0)) := heap_alloc_new _ _; have hB0 : Bld (w.alloc (.cells #[.pointer none, .slice none 0 0] 80)) (w.heap.size + 1) w.heap.size 80 [] [] := ⟨_, _, hb0, .inl rfl, by omega, OwnB.nil _ _ _⟩
 have hs0 : (w.alloc (.cells #[.pointer none, .slice none 0 0] 80)).heap.size = S + 1 := by simp [hS]
 have hx0 : Ext w (w.alloc (.cells #[.pointer none, .slice none 0 0] 80)) := (ext_refl w).alloc (Nat.le_refl _) _; rw [hS] at hB0; generalize w.alloc (.cells #[.pointer none, .slice none 0 0] 80) = w1 at *; clear hb0 hS; have HX0 := Hd hx0; clear hx0; go_wp2_with fail; refine (wbyte _ _ _ [] _ _ 36 _ rfl HB hB0 (by simp) (by omega)).mono ?_; rintro e w2 ⟨rfl, hB1, hK1, hs1⟩
 simp only [List.nil_append] at hB1; have HB1 := Hd hB1; have HX1 : Hid (Ext w w2) := Hd (HX0.out.trans ((hK1.mono (by have := HS.out; omega : w.heap.size ≤ S + 1)).below (by have := HS.out; omega))); clear hB0 hB1 hK1 HX0; go_wp2_with fail
 go_loopw [5, 9] (fun _ iv wr => ∃ i : Nat, iv = .int .i64 i ∧ i ≤ l.length ∧ Bld wr (S + 1) S 80 [] (placeTx nm (l.take i)) ∧ Ext w wr ∧ S + 1 ≤ wr.heap.size) (fun _ iv _ => 10000 - (intOf iv).toNat)
 case atStart => exact ⟨0, rfl, Nat.zero_le _, HB1.out, HX1.out, by omega⟩
 case round =>
  obtain ⟨i, rfl, hi, hbl, hx, hsz⟩ := hrel; clear HB1 HX1 hs1 hs0; have HBL := Hd hbl; have HX := Hd hx; clear hbl hx; by_cases hlt : i < l.length
  · have hlti : (i : Int) < l.length := by omega
    have hi0 : (0 : Int) ≤ i := by omega
    obtain ⟨g, o, rfl, hgA, hel⟩ := HL.out.elem i hlt; obtain ⟨c0, c1, c2⟩ := hel wr (fun g hg hlt => HX.out.block g hlt); have HPT := Hd (placeTx_take nm l i hlt); have HPS := Hd (HL.out.2 l[i] (List.getElem_mem hlt)); have HN1 := Hd (HNM.out l[i] (List.getElem_mem hlt)); have HN2 := Hd (HNL.out l[i] (List.getElem_mem hlt)); clear hel
    have HE2 : Hid (Ext w (wr.alloc (.cells (cellsS l[i]) 46))) := Hd (HX.out.alloc (by have := HS.out; omega) _); have HBL2 : Hid (Bld (wr.alloc (.cells (cellsS l[i]) 46)) (S + 1) S 80 [] (placeTx nm (l.take i))) := Hd (bld_ext HBL.out ((ext_refl wr).alloc (Nat.le_refl _) _)); generalize l[i] = s at *; obtain ⟨sn, sp, sb⟩ := s; simp only at c0 c1 c2 HPS HN1 HN2; go_upto_region 6 with fail
    obtain ⟨Q, hQ⟩ := Ex wr.heap.size; rw [hQ]; have hn := Blk.new hQ (cellsS ⟨sn, sp, sb⟩) 46; have b0 := hn.cell 0; have b1 := hn.cell 1; have b2 := hn.cell 2; have hsz5 : S + 1 ≤ (wr.alloc (.cells (cellsS ⟨sn, sp, sb⟩) 46)).heap.size := by simp; omega
    simp only [cellsS] at b0 b1 b2 HE2 HBL2 hsz5; clear hn hQ c0 c1 c2 hgA; generalize wr.alloc (.cells #[.string ⟨sn.toArray⟩, .int .i64 sp, .bool sb] 46) = w5 at *; have hb0 : w5.cell? ⟨Q, 0, none⟩ = some (.string ⟨sn.toArray⟩) := b0; have hb1 : w5.cell? ⟨Q, 1, none⟩ = some (.int .i64 sp) := b1; have hb2 : w5.cell? ⟨Q, 2, none⟩ = some (.bool sb) := b2; clear b0 b1 b2
    have HLT : Hid ((placeTx nm (l.take i)).length ≤ 1 + 1000 * 200000) := Hd (by
     have h1 := flat_len (nm := nm) (l := l.take i) (fun x hx => ⟨HL.out.2 x (List.mem_of_mem_take hx), HNL.out x (List.mem_of_mem_take hx)⟩); have h2 : (l.take i).length ≤ 1000 := by rw [List.length_take]; omega
     unfold placeTx; rw [List.length_cons]; omega)
    have HSL := Hd (stepTx_len (s := ⟨sn, sp, sb⟩) HPS.out HN2.out); cases sb with
    | true =>
      obtain ⟨N, hN⟩ := Ex (nm ⟨sn, sp, true⟩); have hst : stepTx nm ⟨sn, sp, true⟩ = [91, 39] ++ N ++ [39, 93] := by unfold stepTx; rw [if_pos rfl, hN]
      have hc := HN1.out rfl w5 HE2.out; rw [hN] at hc; have hl := HSL.out; have hp := HPT.out; rw [hst] at hl hp; replace HPT := Hd hp; replace HSL := Hd hl; replace HN1 := Hd hc; clear hc hl hp hst hN HN2; go_wp2_with fail; refine (HN1.out).mono ?_; rintro e w6 ⟨rfl, hx6⟩; have HBL3 := Hd (bld_ext HBL2.out hx6); have hs6 := hx6.size; have HE3 := Hd (ext_trans HE2.out hx6); clear hx6 HN1 hb0 hb1 hb2
      have hl := HSL.out; simp only [List.length_append, List.length_cons, List.length_nil] at hl; have n1 : ¬ 9223372036854775807 < 2 + N.length := by omega
      have n2 : ¬ 9223372036854775807 < 2 + N.length + 2 := by omega
      have hdat : ((⟨#[91, 39]⟩ : ByteArray) ++ ⟨N.toArray⟩ ++ ⟨#[39, 93]⟩).data.toList = [91, 39] ++ N ++ [39, 93] := by simp [ByteArray.data_append]
      have hsz : ((⟨#[91, 39]⟩ : ByteArray) ++ ⟨N.toArray⟩ ++ ⟨#[39, 93]⟩).size ≤ 200000 := by
       rw [← ByteArray.size_data, ← Array.length_toList, hdat]; simp; omega
      generalize hstr : (⟨#[91, 39]⟩ : ByteArray) ++ ⟨N.toArray⟩ ++ ⟨#[39, 93]⟩ = str at hdat hsz; have HSTR := Hd hstr; have HDAT := Hd hdat; clear hstr hdat; go_wp2_with fail; rw [HSTR.out]; have hlt' := HLT.out; refine (wstring _ _ _ [] _ str 0 _ HB HBL3.out (by omega) (by omega)).mono ?_; rintro e w7 ⟨⟨v, rfl⟩, hB7, hK7, hs7⟩; rw [HDAT.out, ← HPT.out] at hB7; have HB7 := Hd hB7
      have HE7 : Hid (Ext w w7) := Hd (HE3.out.trans ((hK7.mono (by have := HS.out; omega : w.heap.size ≤ S + 1)).below (by have := HS.out; omega))); clear hB7 hK7 hlt' hl; go_wp2_with fail; refine ⟨⟨i + 1, by go_num, by omega, HB7.out, HE7.out, by omega⟩, by simp [intOf]; omega⟩
    | false =>
      have hp := HPS.out; have hst : stepTx nm ⟨sn, sp, false⟩ = [91] ++ itoaP (max sp 0) ++ [93] := by unfold stepTx; rw [if_neg (by simp)]
      have hl := HSL.out; have hpt := HPT.out; rw [hst] at hl hpt; have hil := itoaP_len (n := max sp 0) (by omega) (by have := hp.2; omega); have hit := itoa_any (max sp 0) w5 (HTB.out.ext HE2.out) (by omega) (by have := hp.2; omega); obtain ⟨N, hN⟩ := Ex (itoaP (max sp 0)); rw [hN] at hit hl hpt hil; replace HPT := Hd hpt; replace HSL := Hd hl; have HIT := Hd hit; clear hit hl hpt hst hN HN1 HN2 hp
      go_wp2_with fail; refine (HIT.out).mono ?_; rintro e w6 ⟨rfl, hx6⟩; have HBL3 := Hd (bld_ext HBL2.out hx6); have hs6 := hx6.size; have HE3 := Hd (ext_trans HE2.out hx6); clear hx6 HIT hb0 hb1 hb2; have n1 : ¬ 9223372036854775807 < 1 + N.length := by omega
      have n2 : ¬ 9223372036854775807 < 1 + N.length + 1 := by omega
      have hdat : ((⟨#[91]⟩ : ByteArray) ++ ⟨N.toArray⟩ ++ ⟨#[93]⟩).data.toList = [91] ++ N ++ [93] := by simp [ByteArray.data_append]
      have hsz : ((⟨#[91]⟩ : ByteArray) ++ ⟨N.toArray⟩ ++ ⟨#[93]⟩).size ≤ 200000 := by
       rw [← ByteArray.size_data, ← Array.length_toList, hdat]; simp; omega
      generalize hstr : (⟨#[91]⟩ : ByteArray) ++ ⟨N.toArray⟩ ++ ⟨#[93]⟩ = str at hdat hsz; have HSTR := Hd hstr; have HDAT := Hd hdat; clear hstr hdat; go_wp2_with fail; rw [HSTR.out]; have hlt' := HLT.out; refine (wstring _ _ _ [] _ str 0 _ HB HBL3.out (by omega) (by omega)).mono ?_; rintro e w7 ⟨⟨v, rfl⟩, hB7, hK7, hs7⟩; rw [HDAT.out, ← HPT.out] at hB7; have HB7 := Hd hB7
      have HE7 : Hid (Ext w w7) := Hd (HE3.out.trans ((hK7.mono (by have := HS.out; omega : w.heap.size ≤ S + 1)).below (by have := HS.out; omega))); clear hB7 hK7 hlt'; go_wp2_with fail; refine ⟨⟨i + 1, by go_num, by omega, HB7.out, HE7.out, by omega⟩, by simp [intOf]; omega⟩
  · have hlti : ¬ (i : Int) < l.length := by omega
    have ht : l.take i = l := List.take_of_length_le (by omega); rw [ht] at HBL; have HLN : Hid ((placeTx nm l).length ≤ 140737488355328) := Hd (by
     have h1 := flat_len (nm := nm) (l := l) (fun x hx => ⟨HL.out.2 x hx, HNL.out x hx⟩); unfold placeTx; rw [List.length_cons]; omega)
    go_wp2_with fail; refine (builderString_any _ _ _ [] _ _ HBL.out HLN.out (by simp [placeTx])).mono ?_; rintro e w3 ⟨rfl, hb⟩; have HE := Hd (HX.out.trans (hb.mono (by have := HS.out; omega))); clear hb; go_wp2_with fail; go_ret; exact ⟨rfl, HE.out⟩
set_option maxHeartbeats 3200000 in
theorem add_first (g tb : Nat) (val : ByteArray) (n : Int) (w : World) (hg : g < w.heap.size) (ht : tb < w.heap.size) (hgt : ¬ g = tb)
 (h2 : w.cell? ⟨g, 2, none⟩ = some (.string ⟨#[]⟩)) (h4 : w.cell? ⟨g, 4, none⟩ = some (.slice (some ⟨tb, 0, none⟩) 3 3))
 (hm : w.cell? ⟨g, 98, none⟩ = some (.int .u8 2)) (ht2 : w.cell? ⟨tb, 2, none⟩ = some (.pointer none)) (f2 : w.frozen? ⟨tb, 2, none⟩ = false) :
 Calls Tryz.prog 208 #[.pointer (some ⟨g, 0, none⟩), .string ⟨#[92, 34]⟩, .string val, .int .i64 n, .pointer (some ⟨g, 0, none⟩)] w (fun e w' => e = .returned (.tuple #[]) ∧ w' = (((w.setCell ⟨tb, 2, none⟩ (.pointer (some ⟨w.heap.size, 0, none⟩))).alloc (.cells #[.string ⟨#[]⟩, .int .i64 0, .string ⟨#[34]⟩, .pointer (some ⟨w.heap.size + 1, 0, none⟩), .slice none 0 0] 246)).alloc (.cells #[.string val, .int .i64 n, .string ⟨#[]⟩, .pointer none, .slice none 0 0] 246)).drew.drew) := by
 have e92 : ((⟨#[92, 34]⟩ : ByteArray)[0]'(by decide)).toNat = 92 := rfl; have esl : (⟨#[92, 34]⟩ : ByteArray).extract 1 2 = ⟨#[34]⟩ := by decide
 have hki : (⟨#[34]⟩ : ByteArray).toList.isEmpty = false := by decide +kernel
 go_enter Tryz.func208, Tryz.ntmps208
 go_wp2_with fail; go_region
 go_wp2_with fail; go_region_with (go_at_call 208; refine (add_leaf _ _ _ (.pointer none) _ _ _ hki (by simp) (by go_simp) (by go_simp) (by go_simp) (by go_simp) (by go_simp)).mono ?_; rintro e w' ⟨rfl, rfl⟩)
 all_goals (go_end0; exact ⟨rfl, rfl⟩)
set_option maxHeartbeats 3200000 in
theorem add_third (g tb : Nat) (val : ByteArray) (n : Int) (w : World) (hg : g < w.heap.size) (ht : tb < w.heap.size) (hgt : ¬ g = tb)
 (h2 : w.cell? ⟨g, 2, none⟩ = some (.string ⟨#[]⟩)) (h4 : w.cell? ⟨g, 4, none⟩ = some (.slice (some ⟨tb, 0, none⟩) 3 3))
 (hm : w.cell? ⟨g, 45, none⟩ = some (.int .u8 1)) (ht2 : w.cell? ⟨tb, 1, none⟩ = some (.pointer none)) (f2 : w.frozen? ⟨tb, 1, none⟩ = false) :
 Calls Tryz.prog 208 #[.pointer (some ⟨g, 0, none⟩), .string ⟨#[39]⟩, .string val, .int .i64 n, .pointer (some ⟨g, 0, none⟩)] w (fun e w' => e = .returned (.tuple #[]) ∧ w' = ((w.setCell ⟨tb, 1, none⟩ (.pointer (some ⟨w.heap.size, 0, none⟩))).alloc (.cells #[.string val, .int .i64 n, .string ⟨#[]⟩, .pointer none, .slice none 0 0] 246)).drew.drew) := by
 have e39 : ((⟨#[39]⟩ : ByteArray)[0]'(by decide)).toNat = 39 := rfl; have hem : ByteArray.empty = (⟨#[]⟩ : ByteArray) := rfl; have esl : (⟨#[39]⟩ : ByteArray).extract 1 1 = ⟨#[]⟩ := by decide
 go_enter Tryz.func208, Tryz.ntmps208
 go_wp2_with fail; go_region
 go_wp2_with fail; go_region_with (go_at_call 208; refine (add_end _ _ (.string ⟨#[]⟩) _ _ _ (by go_simp) (by go_simp) (by go_simp) (by go_simp)).mono ?_; rintro e w' ⟨rfl, rfl⟩)
 all_goals (go_end0; exact ⟨rfl, rfl⟩)
set_option maxHeartbeats 3200000 in
theorem add_split (q g : Nat) (val : ByteArray) (x4 : Value) (ch : Option Addr) (n : Int) (w : World) (hq : q < w.heap.size) (hg : g < w.heap.size) (hqg : ¬ q = g)
 (h2 : w.cell? ⟨q, 2, none⟩ = some (.string ⟨#[34]⟩)) (h3 : w.cell? ⟨q, 3, none⟩ = some (.pointer ch)) (h4 : w.cell? ⟨q, 4, none⟩ = some x4) (f2 : w.frozen? ⟨q, 2, none⟩ = false) (f3 : w.frozen? ⟨q, 3, none⟩ = false) (f4 : w.frozen? ⟨q, 4, none⟩ = false)
 (hs : w.cell? ⟨g, 5, none⟩ = some (.int .i64 3)) (hm1 : w.cell? ⟨g, 40, none⟩ = some (.int .u8 0)) (hm2 : w.cell? ⟨g, 98, none⟩ = some (.int .u8 2)) :
 Calls Tryz.prog 208 #[.pointer (some ⟨q, 0, none⟩), .string ⟨#[92]⟩, .string val, .int .i64 n, .pointer (some ⟨g, 0, none⟩)] w (fun e w' => e = .returned (.tuple #[]) ∧ w' = (((((w.setCell ⟨q, 4, none⟩ (.slice (some ⟨w.heap.size + 1, 0, none⟩) 3 3)).setCell ⟨q, 2, none⟩ (.string ⟨#[]⟩)).setCell ⟨q, 3, none⟩ (.pointer none)).alloc (.cells #[.string val, .int .i64 n, .string ⟨#[]⟩, .pointer none, .slice none 0 0] 246)).alloc (.cells #[.pointer ch, .pointer none, .pointer (some ⟨w.heap.size, 0, none⟩)] 243)).drew.drew.drew) := by
 have hem : ByteArray.empty = (⟨#[]⟩ : ByteArray) := rfl; have e34 : ((⟨#[34]⟩ : ByteArray)[0]'(by decide)).toNat = 34 := rfl; have e92 : ((⟨#[92]⟩ : ByteArray)[0]'(by decide)).toNat = 92 := rfl
 have hms : ∀ w : World, (Instr.makeSlice 244 (.int .i64 3) (.int .i64 3)).run Tryz.prog w = .ok (.slice (some ⟨w.heap.size, 0, none⟩) 3 3) (w.alloc (.cells #[.pointer none, .pointer none, .pointer none] 243)) := fun w => by kernel_rfl
 go_enter Tryz.func208, Tryz.ntmps208
 go_wp2_with fail; refine wp_loop_rounds 1 ?_; rw [rounds_succ]; go_wp2_with fail; go_region
 go_wp2_with fail; go_region
 go_wp2_with fail; go_region
 go_wp2_with (go_at_call 208; refine (add_end _ _ (.string ⟨#[]⟩) _ _ _ (by go_simp) (by go_simp) (by go_simp) (by go_simp)).mono ?_; rintro e w' ⟨rfl, rfl⟩)
 go_end0
 exact ⟨rfl, rfl⟩
set_option maxHeartbeats 3200000 in
theorem add_second (g tb q : Nat) (val : ByteArray) (n : Int) (w : World) (hg : g < w.heap.size) (ht : tb < w.heap.size) (hgt : ¬ g = tb)
 (h2 : w.cell? ⟨g, 2, none⟩ = some (.string ⟨#[]⟩)) (h4 : w.cell? ⟨g, 4, none⟩ = some (.slice (some ⟨tb, 0, none⟩) 3 3))
 (hm : w.cell? ⟨g, 98, none⟩ = some (.int .u8 2)) (ht2 : w.cell? ⟨tb, 2, none⟩ = some (.pointer (some ⟨q, 0, none⟩)))
 (hq : q < w.heap.size) (hqg : ¬ q = g) (ch : Option Addr) (c2 : w.cell? ⟨q, 2, none⟩ = some (.string ⟨#[34]⟩)) (c3 : w.cell? ⟨q, 3, none⟩ = some (.pointer ch)) (x4 : Value) (c4 : w.cell? ⟨q, 4, none⟩ = some x4) (f2 : w.frozen? ⟨q, 2, none⟩ = false) (f3 : w.frozen? ⟨q, 3, none⟩ = false) (f4 : w.frozen? ⟨q, 4, none⟩ = false)
 (hs : w.cell? ⟨g, 5, none⟩ = some (.int .i64 3)) (hm1 : w.cell? ⟨g, 40, none⟩ = some (.int .u8 0)) :
 Calls Tryz.prog 208 #[.pointer (some ⟨g, 0, none⟩), .string ⟨#[92, 92]⟩, .string val, .int .i64 n, .pointer (some ⟨g, 0, none⟩)] w (fun e w' => e = .returned (.tuple #[]) ∧ w' = (((((w.setCell ⟨q, 4, none⟩ (.slice (some ⟨w.heap.size + 1, 0, none⟩) 3 3)).setCell ⟨q, 2, none⟩ (.string ⟨#[]⟩)).setCell ⟨q, 3, none⟩ (.pointer none)).alloc (.cells #[.string val, .int .i64 n, .string ⟨#[]⟩, .pointer none, .slice none 0 0] 246)).alloc (.cells #[.pointer ch, .pointer none, .pointer (some ⟨w.heap.size, 0, none⟩)] 243)).drew.drew.drew.drew.drew) := by
 have e92 : ((⟨#[92, 92]⟩ : ByteArray)[0]'(by decide)).toNat = 92 := rfl; have esl : (⟨#[92, 92]⟩ : ByteArray).extract 1 2 = ⟨#[92]⟩ := by decide
 go_enter Tryz.func208, Tryz.ntmps208
 go_wp2_with fail; go_region
 go_wp2_with fail; go_region_with (go_at_call 208; refine (add_split _ _ _ x4 ch _ _ (by simpa using hq) (by simpa using hg) hqg (by go_simp) (by go_simp) (by go_simp) (by go_simp) (by go_simp) (by go_simp) (by go_simp) (by go_simp) (by go_simp)).mono ?_; rintro e w' ⟨rfl, rfl⟩)
 all_goals (go_end0; exact ⟨rfl, rfl⟩)
end Go.Proofs.YtjapbjmeoaagmaaGreatDoor
end
