/- ValuePairs: whatever the arguments, the law returns true and what came in reads as it did. No condition. -/
import Derived.Test.YtjapbjmeoaagmaaGreatDoorRows
import Derived.Test.YtjapbjmeoaagmaaGreatDoorCards
import Derived.Test.YtjapbjmeoaagmaaGreatDoorTie
import Derived.Test.YtjapbjmeoaagmaaGreatDoorQValuePr2
import Derived.Test.YtjapbjmeoaagmaaGreatDoorQValuePr1
import Derived.Test.YtjapbjmeoaagmaaGreatDoorQValuePr3
import Derived.ProofKit
import Derived.SizedLaws
import Derived.OpenShut
import Derived.Lay
import Derived.LaidMore
import Derived.SevenTiedAt
import Derived.IntWalk
set_option linter.unusedVariables false
set_option linter.unusedSimpArgs false
set_option maxRecDepth 100000
namespace Go.Proofs.YtjapbjmeoaagmaaGreatDoor.valuePairs
open Go.ChangeShapes Go.WideShapes Go.ChangeAt Go.RowKit Go.Mem Orange
-- the box of an argument $1: its TV: $2, named by $3 (k b d ..), the world $4 -> $5; leaves HC$3, HTV$3
-- a call's world: hx : Ext w w': carries the boxes ($2: their names) and HE; new name of the world: $1
-- reads and idle operations: $1: the facts at each world
/-- members of old blocks, in a row of the call's own -/
def OwR (B base : Nat) (v : Value) (acc : List Mem1) (w : World) : Prop := ∃ cs, w.ownsRow base 43 9 v acc.length cs ∧ TM w (fun g => g < B) acc cs
theorem OwR.shape {B base : Nat} {v : Value} {acc : List Mem1} {w : World} (h : OwR B base v acc w) : ∃ a c, v = .slice a acc.length c := by
  obtain ⟨cs, h1, h2⟩ := h
  rcases h1.2 with ⟨rfl, e⟩ | ⟨g, cap, cur, e, _⟩
  · exact ⟨none, 0, by rw [e]⟩
  · exact ⟨_, _, e⟩
theorem OwR.same {B base : Nat} {v : Value} {acc : List Mem1} {w w' : World} (h : OwR B base v acc w) (hs : w.heap.size ≤ w'.heap.size) (hk : ∀ g, (base ≤ g ∨ g < B) → g < w.heap.size → w'.heap[g]? = w.heap[g]?) : OwR B base v acc w' := by
  obtain ⟨cs, h1, h2⟩ := h
  exact ⟨cs, ownsRow_same h1 (fun g e => hk g (.inl (h1.lt g e).1) (h1.lt g e).2), h2.keep hs (fun g hg hlt => ⟨hg, hk g (.inr hg) hlt⟩)⟩
theorem OwR.ext {B base : Nat} {v : Value} {acc : List Mem1} {w w' : World} (h : OwR B base v acc w) (hx : Ext w w') : OwR B base v acc w' := h.same hx.size (fun g _ hg => hx.block g hg)
theorem OwR.push {B base n : Nat} {acc : List Mem1} {cs : List Value} {key : List UInt8} {t : Tree} {c : Array Value} {v v' : Value} {w3 w4 : World} (hown : w3.ownsRow base 43 9 v n cs) (htl : TM w3 (fun g => g < B) acc cs) (hn : n = acc.length) (hBb : B ≤ base)
    (htv : TV w3 (fun g => g < B) t c) (hown4 : w4.ownsRow base 43 9 v' (n + 1) (cs ++ .string ⟨key.toArray⟩ :: c.toList)) (hgr : w3.grownBy w4 v.ownBlock) : OwR B base v' (acc ++ [(key, t)]) w4 := by
  subst hn
  have hk : ∀ g, g < B → g < w3.heap.size → g < B ∧ w4.heap[g]? = w3.heap[g]? := fun g hg hlt => ⟨hg, hgr.block g hlt (fun e => by have := (hown.lt g e.symm).1; omega)⟩
  exact ⟨_, by rw [List.length_append]; exact hown4, TM.append (htl.keep hgr.size hk) (htv.keep hgr.size hk)⟩
def specNewR {G0 G1 : World → World → Prop} {sp p B : Nat} (h0 : ∀ w w', G0 w w' → KeptP p w w') (h1 : ∀ w w', G1 w w' → KeptP p w w') (hp : p < B) (c : Array Value) : GrowS.Spec (GrowS.gS sp G0 G1) :=
  ⟨fun v => ∃ g, v = .slice (some ⟨g, 0, none⟩) 1 1, fun v w => ∃ g, v = .slice (some ⟨g, 0, none⟩) 1 1 ∧ B ≤ g ∧ w.heap[g]? = some (.cells c 43 (0, 0)), ⟨_, 0, rfl⟩,
    fun i v w w' ⟨g, e, hg, h⟩ hG => by
      have hk : KeptP p w w' := by unfold GrowS.gS at hG; split at hG; exact h1 _ _ hG; exact h0 _ _ hG
      exact ⟨g, e, hg, by rw [hk.block g (Array.getElem?_eq_some_iff.1 h).1 (by omega)]; exact h⟩⟩
theorem wlenM0 : ∀ l : List Mem1, l.length ≤ weightM l
  | [] => Nat.le_refl _
  | (k, t) :: l => by
    have h1 := wlenM0 l
    have h2 : 1 ≤ weightT t := by cases t; rw [weightT]; omega
    rw [weightM, List.length_cons]; omega
theorem wL_len : ∀ l : List Tree, l.length ≤ weightL l
  | [] => Nat.le_refl _
  | t :: l => by
    have h1 := wL_len l
    have h2 : 1 ≤ weightT t := by cases t; rw [weightT]; omega
    rw [weightL, List.length_cons]; omega
theorem tv_eta {w : World} {A : Nat → Prop} {t : Tree} {k : Int} {b : Bool} {d : Num} {s : List UInt8} {vL vM : Value} (h : TV w A t (cellsV k b d s vL vM)) : t = .mk k b d s t.list t.mems := by
  generalize hc : cellsV k b d s vL vM = c at h
  cases h with
  | mk h1 h2 h3 h4 =>
    rename_i d' _ _ _ _ _ _ _
    simp only [cellsV, Array.mk.injEq, List.cons.injEq, Value.int.injEq, Value.bool.injEq, Value.string.injEq, ByteArray.mk.injEq, and_true, true_and] at hc
    obtain ⟨rfl, rfl, e1, e2, e3, e4, -⟩ := hc
    obtain ⟨d1, d2, d3⟩ := d
    obtain ⟨f1, f2, f3⟩ := d'
    simp only [List.toArray_inj] at e1 e2 e3 e4
    subst e1 e2 e3 e4
    rfl
theorem countM_append : ∀ (l l' : List Mem1), countM (l ++ l') = countM l + countM l'
  | [], l' => by rw [List.nil_append, countM]; omega
  | (k, t) :: l, l' => by rw [List.cons_append, countM, countM, countM_append l l']; omega
theorem depthM_append : ∀ (l l' : List Mem1), depthM (l ++ l') = max (depthM l) (depthM l')
  | [], l' => by rw [List.nil_append, depthM]; omega
  | (k, t) :: l, l' => by rw [List.cons_append, depthM, depthM, depthM_append l l']; omega
theorem depth_count : ∀ (N : Nat) (t : Tree), SizeOf.sizeOf t < N → depthT t ≤ countT t
  | 0, _, h => by omega
  | N + 1, .mk k b d s l m, h => by
    rw [depthT, countT]
    have hl : ∀ L : List Tree, SizeOf.sizeOf L < N → depthL L ≤ countL L := by
      intro L
      induction L with
      | nil => intro _; rw [depthL, countL]; omega
      | cons x L ih =>
        intro hL
        simp at hL
        have h1 := depth_count N x (by omega)
        have h2 := ih (by omega)
        rw [depthL, countL]; omega
    have hm : ∀ M : List Mem1, SizeOf.sizeOf M < N → depthM M ≤ countM M := by
      intro M
      induction M with
      | nil => intro _; rw [depthM, countM]; omega
      | cons x M ih =>
        intro hM
        obtain ⟨kx, x⟩ := x
        simp at hM
        have h1 := depth_count N x (by omega)
        have h2 := ih (by omega)
        rw [depthM, countM]; omega
    simp at h
    have h1 := hl l (by omega)
    have h2 := hm m (by omega)
    omega
theorem setc_blk {w : World} {q i : Nat} {u : Value} {g : Nat} (hg : g ≠ q) : (w.setCell ⟨q, i, none⟩ u).heap[g]? = w.heap[g]? := Below.heap_setCell _ _ _ _ hg
theorem rev_take {m : List Mem1} {j : Nat} (h : j < m.length) : m.reverse.take (j + 1) = m.reverse.take j ++ [m[m.length - 1 - j]'(by omega)] := by
  rw [List.take_add_one, List.getElem?_eq_getElem (by simpa using h), Option.toList_some, List.getElem_reverse]
set_option maxHeartbeats 12800000 in
theorem walk (t : Tree) (c : Array Value) (keyB : ByteArray) (hkey : keyB.size ≤ 140737488351232) (w : World) (hT : Tab w) (ht : TV w (fun _ => True) t c) (hok : okT t) :
    Calls Tryz.prog 4 #[.agg c, .string keyB] w fun e w' => e = .returned (.bool true) ∧ Ext w w' := by
  obtain ⟨key, rfl⟩ : ∃ l : List UInt8, keyB = ⟨l.toArray⟩ := ⟨keyB.data.toList, by cases keyB; simp⟩
  have HTB := Lib.hid hT
  have HOK := Lib.hid hok
  have HE := Lib.hid (ext_refl w)
  clear hT hok
  obtain ⟨kA, bA, dA, sA, laA, lnA, lcA, maA, mnA, mcA, rfl⟩ := ht.eight
  obtain ⟨wA, ewA⟩ : ∃ W, w.alloc (.cells (cellsV kA bA dA sA (.slice laA lnA lcA) (.slice maA mnA mcA)) 27) = W := ⟨_, rfl⟩
  have nwA : wA.heap[w.heap.size]? = some (.cells (cellsV kA bA dA sA (.slice laA lnA lcA) (.slice maA mnA mcA)) 27) := by rw [← ewA]; exact heap_alloc_new _ _
  have xwA : Ext w wA := by rw [← ewA]; exact (ext_refl _).alloc (Nat.le_refl _) _
  have swA : wA.heap.size = w.heap.size + 1 := by rw [← ewA]; simp
  have HCA : Hid (VAt wA w.heap.size (cellsV kA bA dA sA (.slice laA lnA lcA) (.slice maA mnA mcA))) := Lib.hid nwA
  have HTVA := Lib.hid (ht.keep (w' := wA) (A' := fun _ => True) xwA.size (fun g _ hlt => ⟨trivial, xwA.block g hlt⟩))
  have EA := Lib.hid ewA
  clear nwA ewA
  clear ht
  have hxb := xwA
  replace HE := Lib.hid (ext_trans HE.out hxb)
  clear hxb
  clear xwA swA
  simp only [cellsV] at HCA EA HTVA ⊢
  go_enter Tryz.func4, Tryz.ntmps4
  go_upto_region 1 with fail
  rw [EA.out]
  obtain ⟨S, hS⟩ : ∃ S, w.heap.size = S := ⟨_, rfl⟩
  rw [hS] at HCA ⊢
  clear hS EA
  go_wp2_with fail
  refine (vawake wA (HTB.out.ext HE.out)).mono ?_
  rintro e w1 ⟨rfl, hx1⟩
  replace HCA := Lib.hid (HCA.out.ext hx1)
  replace HTVA := Lib.hid (HTVA.out.keep (A' := fun _ => True) hx1.size (fun g _ hlt => ⟨trivial, hx1.block g hlt⟩))
  replace HE := Lib.hid (ext_trans HE.out hx1)
  clear hx1
  have c0 := HCA.out.cell 0; have c1 := HCA.out.cell 1; have c2 := HCA.out.cell 2; have c3 := HCA.out.cell 3; have c4 := HCA.out.cell 4; have c5 := HCA.out.cell 5; have c6 := HCA.out.cell 6; have c7 := HCA.out.cell 7
  simp at c0 c1 c2 c3 c4 c5 c6 c7
  go_wp2_with fail
  refine (few_any t _ _ 800 w1 HOK.out (by omega) (by omega) HTVA.out).mono ?_
  rintro e w2 ⟨rfl, hx2⟩
  replace HCA := Lib.hid (HCA.out.ext hx2)
  replace HTVA := Lib.hid (HTVA.out.keep (A' := fun _ => True) hx2.size (fun g _ hlt => ⟨trivial, hx2.block g hlt⟩))
  replace HE := Lib.hid (ext_trans HE.out hx2)
  clear hx2
  clear c0 c1 c2 c3 c4 c5 c6 c7
  by_cases hf : 0 ≤ fewT 0 800 t
  rotate_left
  · rw [decide_eq_false hf]
    go_wp2_with fail
    go_ret
    exact ⟨rfl, HE.out⟩
  have hwt : weightT t ≤ 800 := by have := fewT_weight t 0 800 hf; omega
  rw [decide_eq_true hf]
  clear hf
  obtain ⟨Zt, hZt⟩ : ∃ z, (saneT 0 0 t).1 = z := ⟨_, rfl⟩
  have HSA := Lib.hid (Sane_any t _ _ w2 (by omega) HTVA.out)
  rw [hZt] at HSA
  have c0 := HCA.out.cell 0; have c1 := HCA.out.cell 1; have c2 := HCA.out.cell 2; have c3 := HCA.out.cell 3; have c4 := HCA.out.cell 4; have c5 := HCA.out.cell 5; have c6 := HCA.out.cell 6; have c7 := HCA.out.cell 7
  simp at c0 c1 c2 c3 c4 c5 c6 c7
  go_wp2_with fail
  refine (HSA.out).mono ?_
  rintro e w3 ⟨rfl, hx3⟩
  replace HCA := Lib.hid (HCA.out.ext hx3)
  replace HTVA := Lib.hid (HTVA.out.keep (A' := fun _ => True) hx3.size (fun g _ hlt => ⟨trivial, hx3.block g hlt⟩))
  replace HE := Lib.hid (ext_trans HE.out hx3)
  clear hx3
  clear c0 c1 c2 c3 c4 c5 c6 c7
  clear HSA
  by_cases hz : Zt = 0
  rotate_left
  · have hne : (Zt != 0) = true := by simpa using hz
    clear hz hZt
    go_wp2_with fail
    go_ret
    exact ⟨rfl, HE.out⟩
  subst hz
  have hst : SaneP t := ⟨0, 0, hZt⟩
  clear hZt
  by_cases hkl : (100 : Int) < key.length
  · clear hst
    go_wp2_with fail
    go_ret
    exact ⟨rfl, HE.out⟩
  have hkl' : key.length ≤ 100 := by omega
  have HL := Lib.hid (pairs_law (pos := 0) (key := key) hst (show putT t [⟨key, 0, true⟩] (tArr [(getT t key).getD tNull]) = ((putT t [⟨key, 0, true⟩] (tArr [(getT t key).getD tNull])).1, (putT t [⟨key, 0, true⟩] (tArr [(getT t key).getD tNull])).2) from rfl))
  have HDT := Lib.hid (SaneP.dist _ t (Nat.lt_succ_self _) hst)
  clear hst
  have c0 := HCA.out.cell 0; have c1 := HCA.out.cell 1; have c2 := HCA.out.cell 2; have c3 := HCA.out.cell 3; have c4 := HCA.out.cell 4; have c5 := HCA.out.cell 5; have c6 := HCA.out.cell 6; have c7 := HCA.out.cell 7
  simp at c0 c1 c2 c3 c4 c5 c6 c7
  obtain ⟨QX, hQX⟩ : ∃ Q, w3.heap.size = Q := ⟨_, rfl⟩
  go_upto_region 6 with fail
  clear c0 c1 c2 c3 c4 c5 c6 c7
  have hxb : Ext w3 (w3.alloc (.cells #[.int .i64 kA, .bool bA, .bool dA.neg, .string ⟨dA.digits.toArray⟩, .int .i64 dA.exp, .string ⟨sA.toArray⟩, .slice laA lnA lcA, .slice none 0 0] 27)) := (ext_refl _).alloc (Nat.le_refl _) _
  have hvx := VAt.new w3 #[.int .i64 kA, .bool bA, .bool dA.neg, .string ⟨dA.digits.toArray⟩, .int .i64 dA.exp, .string ⟨sA.toArray⟩, .slice laA lnA lcA, .slice none 0 0]
  rw [hQX] at hvx
  have hwQ : w.heap.size ≤ QX := by have := HE.out.size; omega
  have hltS : S < w3.heap.size := HCA.out.lt
  have hsz4 : (w3.alloc (.cells #[.int .i64 kA, .bool bA, .bool dA.neg, .string ⟨dA.digits.toArray⟩, .int .i64 dA.exp, .string ⟨sA.toArray⟩, .slice laA lnA lcA, .slice none 0 0] 27)).heap.size = QX + 1 := by simp [hQX]
  have HTO := Lib.hid (HTVA.out.keep (A' := fun g => g < QX) (Nat.le_refl _) (fun g _ hlt => ⟨by omega, rfl⟩))
  replace HTO := Lib.hid (HTO.out.keep (w' := w3.alloc (.cells #[.int .i64 kA, .bool bA, .bool dA.neg, .string ⟨dA.digits.toArray⟩, .int .i64 dA.exp, .string ⟨sA.toArray⟩, .slice laA lnA lcA, .slice none 0 0] 27)) (A' := fun g => g < QX) hxb.size (fun g hg hlt => ⟨hg, hxb.block g hlt⟩))
  generalize w3.alloc (.cells #[.int .i64 kA, .bool bA, .bool dA.neg, .string ⟨dA.digits.toArray⟩, .int .i64 dA.exp, .string ⟨sA.toArray⟩, .slice laA lnA lcA, .slice none 0 0] 27) = w4 at *
  replace HCA := Lib.hid (HCA.out.ext hxb)
  replace HTVA := Lib.hid (HTVA.out.keep (A' := fun _ => True) hxb.size (fun g _ hlt => ⟨trivial, hxb.block g hlt⟩))
  replace HE := Lib.hid (ext_trans HE.out hxb)
  clear hxb
  have HVX := Lib.hid hvx
  rw [hQX] at hltS
  clear hvx hQX
  obtain ⟨cl, cm, htl, hrl, htm, hrm, -⟩ := tv_rows HTO.out
  obtain rfl : lnA = t.list.length := by obtain ⟨_, a', c', e, _⟩ := hrl; cases e; rfl
  obtain rfl : mnA = t.mems.length := by obtain ⟨_, a', c', e, _⟩ := hrm; cases e; rfl
  have HTL := Lib.hid htl
  have HRL := Lib.hid hrl
  have HTM := Lib.hid htm
  have HRM := Lib.hid hrm
  clear htl hrl htm hrm
  have hml : t.mems.length ≤ 800 := Nat.le_trans (Nat.le_trans (wlenM0 t.mems) (by cases t; simp only [Tree.mems, weightT]; omega)) hwt
  have hll : t.list.length ≤ 800 := Nat.le_trans (Nat.le_trans (wL_len t.list) (by cases t; simp only [Tree.list, weightT]; omega)) hwt
  have e0 : IntKind.i64.wrap ((t.mems.length : Int) - 1) = (t.mems.length : Int) - 1 := IntWalk.i64_in _ (by omega)
  have c0 := HCA.out.cell 0; have c1 := HCA.out.cell 1; have c2 := HCA.out.cell 2; have c3 := HCA.out.cell 3; have c4 := HCA.out.cell 4; have c5 := HCA.out.cell 5; have c6 := HCA.out.cell 6; have c7 := HCA.out.cell 7
  simp at c0 c1 c2 c3 c4 c5 c6 c7
  go_wp2_with fail
  clear c0 c1 c2 c3 c4 c5 c6 c7
  go_loopw [7] (fun iv wr => ∃ j : Nat, iv = .int .i64 ((t.mems.length : Int) - 1 - j) ∧ j ≤ t.mems.length ∧ (∃ va vc, VAt wr QX #[.int .i64 kA, .bool bA, .bool dA.neg, .string ⟨dA.digits.toArray⟩, .int .i64 dA.exp, .string ⟨sA.toArray⟩, .slice laA t.list.length lcA, .slice va j vc] ∧ OwR QX (QX + 1) (.slice va j vc) (t.mems.reverse.take j) wr) ∧ Kept (QX + 1) QX w4 wr) (fun iv _ => (intOf iv + 1).toNat)
  case atStart => exact ⟨0, by simp, by omega, ⟨none, 0, HVX.out, [], World.ownsRow_nil _ _ _ _, .nil⟩, Kept.refl _ _ _⟩
  case round =>
    obtain ⟨j, rfl, hj, ⟨va, vc, hvx, how⟩, hkp⟩ := hrel
    have HVR := Lib.hid hvx
    have HOW := Lib.hid how
    have HKP := Lib.hid hkp
    clear hvx how hkp
    have hrs : QX + 1 ≤ wr.heap.size := Nat.le_trans (Nat.le_of_eq hsz4.symm) HKP.out.size
    have HCR : Hid (VAt wr S #[.int .i64 kA, .bool bA, .bool dA.neg, .string ⟨dA.digits.toArray⟩, .int .i64 dA.exp, .string ⟨sA.toArray⟩, .slice laA t.list.length lcA, .slice maA t.mems.length mcA]) := Lib.hid (by unfold VAt; rw [HKP.out.block S (by omega) (by omega)]; exact HCA.out)
    by_cases hlt : j < t.mems.length
    · obtain ⟨I, hI⟩ : ∃ I : Nat, t.mems.length - 1 - j = I := ⟨_, rfl⟩
      have hIlt : I < t.mems.length := by omega
      have hIe : (t.mems.length : Int) - 1 - j = I := by omega
      have hI0 : (0 : Int) ≤ I := by omega
      have hIl : (I : Int) < t.mems.length := by omega
      rw [hIe]
      have hblk : ∀ g, g < QX → g < w4.heap.size → wr.heap[g]? = w4.heap[g]? := fun g hg hlt => HKP.out.block g (by omega) (by omega)
      obtain ⟨g, o, xk, xb, xd, xs, xa1, xn1, xc1, xa2, xn2, xc2, rfl, htx, hcell⟩ := mem_elem HRM.out HTM.out rfl I hIlt
      obtain ⟨x0, x1, x2, x3, x4, x5, x6, x7, x8⟩ := hcell wr hblk
      have HTX := Lib.hid (htx.keep (w' := wr) (A' := fun g => g < QX) (HKP.out.size) (fun g hg hlt => ⟨hg, hblk g hg hlt⟩))
      have HGO : Hid (g < QX ∧ True) := Lib.hid (by obtain ⟨_, a', c', e, _, _, hrow⟩ := HRM.out; obtain ⟨g', o', e2, hA2, _⟩ := hrow (by omega); cases e; cases e2; exact ⟨hA2, trivial⟩)
      have HTK : Hid (t.mems.reverse.take (j + 1) = t.mems.reverse.take j ++ [(t.mems[I].1, t.mems[I].2)]) := Lib.hid (by rw [rev_take hlt]; simp only [hI])
      have HMC : Hid (∀ w', Ext wr w' → w'.cell? ⟨g, o + I * 9, none⟩ = some (.string ⟨t.mems[I].1.toArray⟩) ∧ w'.cell? ⟨g, o + I * 9 + 1, none⟩ = some (.int .i64 xk) ∧ w'.cell? ⟨g, o + I * 9 + 2, none⟩ = some (.bool xb) ∧ w'.cell? ⟨g, o + I * 9 + 3, none⟩ = some (.bool xd.neg) ∧ w'.cell? ⟨g, o + I * 9 + 4, none⟩ = some (.string ⟨xd.digits.toArray⟩) ∧ w'.cell? ⟨g, o + I * 9 + 5, none⟩ = some (.int .i64 xd.exp) ∧ w'.cell? ⟨g, o + I * 9 + 6, none⟩ = some (.string ⟨xs.toArray⟩) ∧ w'.cell? ⟨g, o + I * 9 + 7, none⟩ = some (.slice xa1 xn1 xc1) ∧ w'.cell? ⟨g, o + I * 9 + 8, none⟩ = some (.slice xa2 xn2 xc2)) := Lib.hid (fun w' hw => hcell w' (fun g hg hlt => (hw.block g (by have := HKP.out.size; omega)).trans (hblk g hg hlt)))
      clear htx hcell hblk x0 x1 x2 x3 x4 x5 x6 x7 x8
      generalize t.mems[I].1 = mkey at *
      generalize t.mems[I].2 = mx at *
      have hq1 : QX < wr.heap.size := by omega
      go_upto_region 9 with fail
      have h0 : ∀ w w', Ext w w' → KeptP QX w w' := fun _ _ => KeptP.ofExt
      refine GrowS.wp_region_restT (G0 := Ext) (G1 := Ext) (B0 := fun w' => Ext wr w') (B1 := fun w' => Ext wr w') (E := fun _ _ => False) (anc := fun _ => [])
        (I := fun j => if j = 7 then some (specNewR h0 h0 hq1 #[.string ⟨mkey.toArray⟩, .int .i64 xk, .bool xb, .bool xd.neg, .string ⟨xd.digits.toArray⟩, .int .i64 xd.exp, .string ⟨xs.toArray⟩, .slice xa1 xn1 xc1, .slice xa2 xn2 xc2]) else none) 7 8 (fun j => ([[], [0], [], [2], [], [2, 3, 4], [2, 3, 4, 5], [2, 3, 4, 5, 6], [0, 1, 2, 3, 4, 5, 6, 7], [0, 1, 2, 3, 4, 5, 6, 7, 8], [0, 1, 2, 3, 4, 5, 6, 7, 8, 9]] : List (List Nat)).getD j []) #[true, true, true, true, true, true, true, true, false, false, false]
        (by kernel_rfl) (by kernel_rfl) (by kernel_rfl) (by kernel_rfl) (by kernel_rfl) (by kernel_rfl) ?_ ?_ ?_ ?_ ?_ ?_
      · exact fun w w' h hg => ext_trans h hg
      · exact fun w w' h hg => ext_trans h hg
      · exact fun w w' h hg => ext_trans h hg
      · exact fun _ _ _ _ h => h.elim
      · exact (ext_refl _).drew
      have HBK : Hid (∀ {k : Nat} w', GrowS.atS 7 (fun w' => Ext wr w') (fun w' => Ext wr w') k w' → Ext wr w') := Lib.hid (fun w' h => by
        unfold GrowS.atS at h
        split at h
        · exact h
        · rcases h with h | h <;> exact h)
      simp only [List.take_succ_cons, List.take_zero, List.drop_succ_cons, List.drop_zero]
      repeat
        (refine GrowS.Wk.step (fun K hK => ?_)
         first
         | (refine GrowS.step_read (by rfl) (by rfl) (fun w => ext_refl w) ?_
            apply Exists.intro
            refine ⟨fun w hB hF => ?_, ?_⟩
            · replace hB := HBK.out w hB
              have q7 := (HVR.out.ext hB).cell 7; have a7 := (HCR.out.ext hB).cell 7; obtain ⟨x0, x1, x2, x3, x4, x5, x6, x7, x8⟩ := HMC.out w hB; simp at q7 a7
              go_simp
              try exact rfl
            go_simp
            refine hK _ _ ?_
            clear hK K)
         | (refine GrowS.step_off (by rfl) ?_
            go_simp
            refine hK _ _ ?_
            clear hK K))
      refine GrowS.Wk.step (fun K hK => ?_)
      refine GrowS.step_rel (by rfl) (by rfl) (fun w' hB hF => ?_) (fun v hv => ?_)
      · replace hB := HBK.out w' hB
        go_simp
        exact GrowS.relUpon_value ((ext_refl w').alloc (Nat.le_refl _) _) ⟨_, rfl⟩ ⟨_, rfl, hB.size, heap_alloc_new _ _⟩
      obtain ⟨gn, rfl⟩ := hv
      go_simp
      refine hK _ _ ?_
      clear hK K
      refine GrowS.Wk.nil ?_
      intro w5 hB hF
      replace hB : Ext wr w5 := hB
      obtain ⟨gn', eg, hgn, hnew⟩ := hF 7
      simp only [Value.slice.injEq, Option.some.injEq, Addr.mk.injEq, and_true] at eg
      subst eg
      clear hF HBK h0
      obtain ⟨cs, hown, htlm⟩ := HOW.out.ext hB
      rw [show (t.mems.reverse.take j).length = j by rw [List.length_take, List.length_reverse]; omega] at hown
      show wpAny _ _ _ _ (2 + 1) _ _ _
      refine wpAny_one 8 (by kernel_rfl) ?_
      refine wpOp_append rfl (by rfl) _ _ _ _ rfl (QX + 1) 43 _ _ 9 128 (by kernel_rfl) (by rfl) (by rfl) (by rfl) (by kernel_rfl) (by rfl) (by decide) _ j cs (by rfl) hown _ 1 (.string ⟨mkey.toArray⟩ :: (cellsV xk xb xd xs (.slice xa1 xn1 xc1) (.slice xa2 xn2 xc2)).toList) (by rfl) (src_one (e' := 43) (by kernel_rfl) hnew (by simp) (fun u hu => by
        rcases List.mem_cons.1 hu with rfl | hu
        · rfl
        · exact TV.one HTX.out u hu)) (by simp only [maxLen]; omega) (by omega) (Nat.le_trans hrs hB.size) ?_
      intro v' w6 hown6 hgr hor
      have hqo : some QX ≠ (Value.slice va j vc).ownBlock := fun e => by have := (hown.lt _ e.symm).1; omega
      have hv5 := HVR.out.ext hB
      have hv6 : VAt w6 QX #[.int .i64 kA, .bool bA, .bool dA.neg, .string ⟨dA.digits.toArray⟩, .int .i64 dA.exp, .string ⟨sA.toArray⟩, .slice laA t.list.length lcA, .slice va j vc] := by
        unfold VAt; rw [hgr.block QX hv5.lt hqo]; exact hv5
      have how6 : OwR QX (QX + 1) v' (t.mems.reverse.take (j + 1)) w6 := by
        rw [HTK.out]
        exact OwR.push hown htlm (by rw [List.length_take, List.length_reverse]; omega) (by omega) (HTX.out.keep (A' := fun g => g < QX) hB.size (fun g hg hlt => ⟨hg, hB.block g hlt⟩)) hown6 hgr
      obtain ⟨va', vc', rfl⟩ := how6.shape
      rw [show (t.mems.reverse.take (j + 1)).length = j + 1 by rw [List.length_take, List.length_reverse]; omega] at how6 ⊢
      have hk6 : Kept (QX + 1) QX w4 w6 := (HKP.out.trans (Kept.ofBelow (hB.mono (by omega)))).trans ⟨hgr.os, hgr.tape, hgr.output, hgr.size, fun k hk _ => hgr.block k (by have := hB.size; omega) (fun e => by have := (hown.lt k e.symm).1; omega)⟩
      have HV6 := Lib.hid (hv6.set1 7 (.slice va' (j + 1) vc'))
      have HOW6 := Lib.hid (how6.same (w' := w6.setCell ⟨QX, 7, none⟩ (.slice va' (j + 1) vc')) (by simp) (fun g hg hlt => setc_blk (by omega)))
      have HK6 := Lib.hid (hk6.trans (Kept.setCell (B := QX + 1) (p := QX) (o := 7) (.slice va' (j + 1) vc')))
      have f7 := hv6.free 7
      have q7 := hv6.cell 7
      simp at q7
      clear hv5 hv6 how6 hk6 hown6 hgr hor hqo hown htlm hnew hB
      refine wpAny_one 9 (by kernel_rfl) ?_
      refine wpOp_now rfl (by rfl) ?_
      unfold Oper.wp
      go_simp
      refine wpAny_one 10 (by kernel_rfl) ?_
      refine wpOp_now rfl (by rfl) ?_
      unfold Oper.wp
      go_simp
      show wpAny _ _ _ _ 0 _ _ _
      refine ⟨by decide +kernel, ?_⟩
      have w9 : IntKind.i64.wrap ((I : Int) - 1) = (I : Int) - 1 := IntWalk.i64_in _ (by omega)
      clear q7 f7
      go_wp2_with fail
      refine ⟨⟨j + 1, by go_num, by omega, ⟨va', vc', by simpa using HV6.out, HOW6.out⟩, HK6.out⟩, by simp [intOf] <;> omega⟩
    · obtain rfl : j = t.mems.length := by omega
      have hIn : ¬ (0 : Int) ≤ (t.mems.length : Int) - 1 - (t.mems.length : Nat) := by omega
      rw [show t.mems.reverse.take t.mems.length = t.mems.reverse by rw [List.take_of_length_le (by simp)]] at HOW
      have hblk : ∀ g, g < QX → g < w4.heap.size → wr.heap[g]? = w4.heap[g]? := fun g hg hlt => HKP.out.block g (by omega) (by omega)
      have HBK6 := Lib.hid hblk
      have HTR := Lib.hid (HTO.out.keep (w' := wr) (A' := fun _ => True) HKP.out.size (fun g hg hlt => ⟨trivial, hblk g hg hlt⟩))
      have HTT : Hid (TV wr (fun _ => True) (t.withM t.mems.reverse) #[.int .i64 kA, .bool bA, .bool dA.neg, .string ⟨dA.digits.toArray⟩, .int .i64 dA.exp, .string ⟨sA.toArray⟩, .slice laA t.list.length lcA, .slice va t.mems.length vc]) := Lib.hid (by
        obtain ⟨cs, hown, htlm⟩ := HOW.out
        have hwm : t.withM t.mems.reverse = .mk kA bA dA sA t.list t.mems.reverse := by
          have := tv_eta HTO.out
          cases t with
          | mk k b d s l m => simp only [Tree.list, Tree.mems] at this ⊢; cases this; rfl
        rw [hwm]
        have h4 := RowAt.own (A := fun _ => True) hown (by decide) (fun _ _ _ _ => trivial)
        rw [List.length_reverse] at h4
        exact TV.mk (HTL.out.keep HKP.out.size (fun g hg hlt => ⟨trivial, hblk g hg hlt⟩)) (HRL.out.keep HKP.out.size (fun g hg hlt => ⟨trivial, hblk g hg hlt⟩)) (htlm.keep (Nat.le_refl _) (fun g _ hlt => ⟨trivial, rfl⟩)) (by rw [List.length_reverse]; exact h4))
      have HE6 : Hid (Ext w wr) := Lib.hid (HE.out.trans ((HKP.out.mono (by omega : w.heap.size ≤ QX + 1)).below hwQ))
      have hs46 := HKP.out.size
      clear hblk HTO HOW HKP HCA HTVA HE HVX
      have HCA := Lib.hid HCR.out
      have HTVA := Lib.hid HTR.out
      have HE := Lib.hid HE6.out
      have HCX := Lib.hid HVR.out
      have HTVX := Lib.hid HTT.out
      clear HCR HTR HE6 HVR HTT
      have hcl : countT t ≤ 800 := Nat.le_trans (count_weight t) hwt
      obtain ⟨w6, hw6⟩ : ∃ w6, w6 = wr := ⟨_, rfl⟩
      subst hw6
      have c0 := HCA.out.cell 0; have c1 := HCA.out.cell 1; have c2 := HCA.out.cell 2; have c3 := HCA.out.cell 3; have c4 := HCA.out.cell 4; have c5 := HCA.out.cell 5; have c6 := HCA.out.cell 6; have c7 := HCA.out.cell 7
      simp at c0 c1 c2 c3 c4 c5 c6 c7
      go_wp2_with fail
      clear c0 c1 c2 c3 c4 c5 c6 c7
      go_loopw [8, 9, 10] (fun nv dv iv wx => ∃ i : Nat, nv = .int .i64 ((1 + countL (t.list.take i) : Nat)) ∧ dv = .int .i64 ((depthL (t.list.take i) : Nat)) ∧ iv = .int .i64 i ∧ i ≤ t.list.length ∧ Ext w6 wx) (fun _ _ iv _ => 100000 - (intOf iv).toNat)
      case atStart => exact ⟨0, rfl, rfl, rfl, by omega, ext_refl _⟩
      case round =>
        obtain ⟨i, rfl, rfl, rfl, hi, hx⟩ := hrel
        have HX := Lib.hid hx
        clear hx
        have ha6 := (HCA.out.ext HX.out).cell 6
        simp at ha6
        by_cases hlt2 : i < t.list.length
        · have hlti : (i : Int) < t.list.length := by omega
          have hi0 : (0 : Int) ≤ i := by omega
          obtain ⟨g, o, xk, xb, xd, xs, xa1, xn1, xc1, xa2, xn2, xc2, rfl, htx, hcell⟩ := row_elem HRL.out HTL.out rfl i hlt2
          have hb4 : ∀ w', Ext w6 w' → ∀ g, g < QX → g < w4.heap.size → w'.heap[g]? = w4.heap[g]? := fun w' hw g hg hlt => (hw.block g (by omega)).trans (HBK6.out g hg hlt)
          have HCELL := Lib.hid (fun w' hw => hcell w' (hb4 w' hw))
          have HTX := Lib.hid (fun w' (hw : Ext w6 w') => htx.keep (w' := w') (A' := fun _ => True) (Nat.le_trans hs46 hw.size) (fun g hg hlt => ⟨trivial, hb4 w' hw g hg hlt⟩))
          obtain ⟨hc1, hc2, hc3, hc4⟩ : countL (t.list.take (i + 1)) = countL (t.list.take i) + countT t.list[i] ∧ depthL (t.list.take (i + 1)) = max (depthL (t.list.take i)) (depthT t.list[i]) ∧ countL (t.list.take (i + 1)) ≤ 800 ∧ depthT t.list[i] ≤ countT t.list[i] := by
            have h1 : t.list.take (i + 1) = t.list.take i ++ [t.list[i]] := by rw [List.take_add_one, List.getElem?_eq_getElem hlt2]; rfl
            have h2 : countL (t.list.take (i + 1)) + countL (t.list.drop (i + 1)) = countL t.list := by rw [← countL_append, List.take_append_drop]
            have h3 : countL t.list ≤ countT t := by cases t; simp only [Tree.list, Tree.mems, countT]; omega
            refine ⟨?_, ?_, by omega, depth_count _ _ (Nat.lt_succ_self _)⟩
            · rw [h1, countL_append]; simp only [countL]; omega
            · rw [h1, depthL_append]; simp only [depthL]; omega
          clear htx hcell hb4
          generalize t.list[i] = x at *
          obtain ⟨N1, hn1⟩ : ∃ n, countL (t.list.take (i + 1)) = n := ⟨_, rfl⟩
          obtain ⟨D1, hd1⟩ : ∃ n, depthL (t.list.take (i + 1)) = n := ⟨_, rfl⟩
          rw [hn1] at hc1 hc3
          rw [hd1] at hc2
          have HN1 := Lib.hid hn1
          have HD1 := Lib.hid hd1
          clear hn1 hd1
          generalize countL (t.list.take i) = N0 at *
          generalize depthL (t.list.take i) = D0 at *
          obtain ⟨CX, hCX⟩ : ∃ n, countT x = n := ⟨_, rfl⟩
          obtain ⟨DX, hDX⟩ : ∃ n, depthT x = n := ⟨_, rfl⟩
          have HK1 := Lib.hid (count_any x _ _ wr (by omega) (HTX.out wr HX.out))
          rw [hCX] at HK1 hc1 hc4
          rw [hDX] at hc2 hc4
          have HK2 : Hid (∀ w', Ext w6 w' → Calls Tryz.prog 23 #[.agg (cellsV xk xb xd xs (.slice xa1 xn1 xc1) (.slice xa2 xn2 xc2))] w' (fun e w'' => e = .returned (.int .i64 (DX : Nat)) ∧ Ext w' w'')) := Lib.hid (fun w' hw => by
            have h := depth_any x _ _ w' (by omega) (HTX.out w' hw)
            rw [hDX] at h
            exact h)
          simp only [cellsV] at HK1 HK2
          clear hCX hDX HTX
          have e1 : IntKind.i64.wrap (((1 + N0 : Nat) : Int) + (CX : Nat)) = ((1 + N1 : Nat) : Int) := by rw [IntWalk.i64_in _ (by omega)]; omega
          have e2 : IntKind.i64.wrap ((i : Int) + 1) = ((i + 1 : Nat) : Int) := by rw [IntWalk.i64_in _ (by omega)]; omega
          obtain ⟨x0, x1, x2, x3, x4, x5, x6, x7⟩ := HCELL.out wr HX.out
          go_wp2_with fail
          refine (HK1.out).mono ?_
          rintro e w7 ⟨rfl, hx7⟩
          have HX7 := Lib.hid (ext_trans HX.out hx7)
          clear hx7 HK1 x0 x1 x2 x3 x4 x5 x6 x7 ha6
          obtain ⟨x0, x1, x2, x3, x4, x5, x6, x7⟩ := HCELL.out w7 HX7.out
          have ha6 := (HCA.out.ext HX7.out).cell 6
          simp at ha6
          go_wp2_with fail
          refine (HK2.out w7 HX7.out).mono ?_
          rintro e w8 ⟨rfl, hx8⟩
          have HX8 := Lib.hid (ext_trans HX7.out hx8)
          clear hx8 HK2 x0 x1 x2 x3 x4 x5 x6 x7 ha6 HX HX7 HCELL
          go_wp2_with fail
          refine ⟨⟨i + 1, by rw [HN1.out]; go_num, by rw [HD1.out]; go_num, by go_num, by omega, HX8.out⟩, by simp [intOf]; omega⟩
        · obtain rfl : i = t.list.length := by omega
          have hlti : ¬ (t.list.length : Int) < t.list.length := by omega
          rw [show t.list.take t.list.length = t.list by rw [List.take_of_length_le (Nat.le_refl _)]]
          clear hlt2 hi
          have hNL : countL t.list ≤ 800 := Nat.le_trans (by cases t; simp only [Tree.list, countT]; omega) hcl
          obtain ⟨NL, hnl⟩ : ∃ n, countL t.list = n := ⟨_, rfl⟩
          obtain ⟨DL, hdl⟩ : ∃ n, depthL t.list = n := ⟨_, rfl⟩
          have hnlm : NL + countM t.mems ≤ 800 := by rw [← hnl]; exact Nat.le_trans (by cases t; simp only [Tree.list, Tree.mems, countT]; omega) hcl
          have hdlm : DL ≤ 800 := by rw [← hdl]; exact Nat.le_trans (by have := depth_count _ t (Nat.lt_succ_self _); cases t; simp only [Tree.list, depthT] at this ⊢; omega) hcl
          rw [hnl, hdl]
          rw [hnl] at hNL
          have HNL := Lib.hid hnl
          have HDL := Lib.hid hdl
          clear hnl hdl
          go_wp2_with fail
          clear ha6
          go_loopw [8, 9, 11] (fun nv dv iv wx => ∃ i : Nat, nv = .int .i64 ((1 + NL + countM (t.mems.take i) : Nat)) ∧ dv = .int .i64 ((max DL (depthM (t.mems.take i)) : Nat)) ∧ iv = .int .i64 i ∧ i ≤ t.mems.length ∧ Ext w6 wx) (fun _ _ iv _ => 100000 - (intOf iv).toNat)
          case atStart => exact ⟨0, by simp [countM], by simp [depthM], rfl, by omega, HX.out⟩
          case round =>
            clear HX
            obtain ⟨i, rfl, rfl, rfl, hi, hx⟩ := hrel
            have HX := Lib.hid hx
            clear hx
            have ha6 := (HCA.out.ext HX.out).cell 7
            simp at ha6
            by_cases hlt2 : i < t.mems.length
            · have hlti : (i : Int) < t.mems.length := by omega
              have hi0 : (0 : Int) ≤ i := by omega
              obtain ⟨g, o, xk, xb, xd, xs, xa1, xn1, xc1, xa2, xn2, xc2, rfl, htx, hcell⟩ := mem_elem HRM.out HTM.out rfl i hlt2
              have hb4 : ∀ w', Ext w6 w' → ∀ g, g < QX → g < w4.heap.size → w'.heap[g]? = w4.heap[g]? := fun w' hw g hg hlt => (hw.block g (by omega)).trans (HBK6.out g hg hlt)
              have HCELL := Lib.hid (fun w' hw => hcell w' (hb4 w' hw))
              have HTX := Lib.hid (fun w' (hw : Ext w6 w') => htx.keep (w' := w') (A' := fun _ => True) (Nat.le_trans hs46 hw.size) (fun g hg hlt => ⟨trivial, hb4 w' hw g hg hlt⟩))
              obtain ⟨hc1, hc2, hc3, hc4⟩ : countM (t.mems.take (i + 1)) = countM (t.mems.take i) + countT t.mems[i].2 ∧ depthM (t.mems.take (i + 1)) = max (depthM (t.mems.take i)) (depthT t.mems[i].2) ∧ countM (t.mems.take (i + 1)) ≤ 800 ∧ depthT t.mems[i].2 ≤ countT t.mems[i].2 := by
                have h1 : t.mems.take (i + 1) = t.mems.take i ++ [t.mems[i]] := by rw [List.take_add_one, List.getElem?_eq_getElem hlt2]; rfl
                have h2 : countM (t.mems.take (i + 1)) + countM (t.mems.drop (i + 1)) = countM t.mems := by rw [← countM_append, List.take_append_drop]
                have h3 : countM t.mems ≤ countT t := by cases t; simp only [Tree.list, Tree.mems, countT]; omega
                refine ⟨?_, ?_, by omega, depth_count _ _ (Nat.lt_succ_self _)⟩
                · rw [h1, countM_append]; simp only [countM]; omega
                · rw [h1, depthM_append]; simp only [depthM]; omega
              clear htx hcell hb4
              generalize t.mems[i].2 = x at *
              generalize t.mems[i].1 = kx at *
              obtain ⟨N1, hn1⟩ : ∃ n, countM (t.mems.take (i + 1)) = n := ⟨_, rfl⟩
              obtain ⟨D1, hd1⟩ : ∃ n, depthM (t.mems.take (i + 1)) = n := ⟨_, rfl⟩
              rw [hn1] at hc1 hc3
              rw [hd1] at hc2
              have HN1 := Lib.hid hn1
              have HD1 := Lib.hid hd1
              clear hn1 hd1
              generalize countM (t.mems.take i) = N0 at *
              generalize depthM (t.mems.take i) = D0 at *
              obtain ⟨CX, hCX⟩ : ∃ n, countT x = n := ⟨_, rfl⟩
              obtain ⟨DX, hDX⟩ : ∃ n, depthT x = n := ⟨_, rfl⟩
              have HK1 := Lib.hid (count_any x _ _ wr (by omega) (HTX.out wr HX.out))
              rw [hCX] at HK1 hc1 hc4
              rw [hDX] at hc2 hc4
              have HK2 : Hid (∀ w', Ext w6 w' → Calls Tryz.prog 23 #[.agg (cellsV xk xb xd xs (.slice xa1 xn1 xc1) (.slice xa2 xn2 xc2))] w' (fun e w'' => e = .returned (.int .i64 (DX : Nat)) ∧ Ext w' w'')) := Lib.hid (fun w' hw => by
                have h := depth_any x _ _ w' (by omega) (HTX.out w' hw)
                rw [hDX] at h
                exact h)
              simp only [cellsV] at HK1 HK2
              clear hCX hDX HTX
              have e1 : IntKind.i64.wrap (((1 + NL + N0 : Nat) : Int) + (CX : Nat)) = ((1 + NL + N1 : Nat) : Int) := by rw [IntWalk.i64_in _ (by omega)]; omega
              have e2 : IntKind.i64.wrap ((i : Int) + 1) = ((i + 1 : Nat) : Int) := by rw [IntWalk.i64_in _ (by omega)]; omega
              obtain ⟨x0, x1, x2, x3, x4, x5, x6, x7, x8⟩ := HCELL.out wr HX.out
              go_wp2_with fail
              refine (HK1.out).mono ?_
              rintro e w7 ⟨rfl, hx7⟩
              have HX7 := Lib.hid (ext_trans HX.out hx7)
              clear hx7 HK1 x0 x1 x2 x3 x4 x5 x6 x7 x8 ha6
              obtain ⟨x0, x1, x2, x3, x4, x5, x6, x7, x8⟩ := HCELL.out w7 HX7.out
              have ha6 := (HCA.out.ext HX7.out).cell 7
              simp at ha6
              go_wp2_with fail
              refine (HK2.out w7 HX7.out).mono ?_
              rintro e w8 ⟨rfl, hx8⟩
              have HX8 := Lib.hid (ext_trans HX7.out hx8)
              clear hx8 HK2 x0 x1 x2 x3 x4 x5 x6 x7 x8 ha6 HX HX7 HCELL
              go_wp2_with fail
              refine ⟨⟨i + 1, by rw [HN1.out]; go_num, by rw [HD1.out]; go_num, by go_num, by omega, HX8.out⟩, by simp [intOf]; omega⟩
            · obtain rfl : i = t.mems.length := by omega
              have hlti : ¬ (t.mems.length : Int) < t.mems.length := by omega
              rw [show t.mems.take t.mems.length = t.mems by rw [List.take_of_length_le (Nat.le_refl _)]]
              clear hlt2 hi
              have hcnt : countT t = NL + countM t.mems + 1 ∧ depthT t = max DL (depthM t.mems) + 1 := ⟨by rw [← HNL.out]; exact HL.out.2.1, by rw [← HDL.out]; exact HL.out.2.2.1⟩
              obtain ⟨NM, hnm⟩ : ∃ n, countM t.mems = n := ⟨_, rfl⟩
              obtain ⟨DM, hdm⟩ : ∃ n, depthM t.mems = n := ⟨_, rfl⟩
              rw [hnm, hdm] at hcnt
              rw [hnm] at hnlm
              rw [hnm, hdm]
              clear hnm hdm ha6
              have hdt := depth_count _ t (Nat.lt_succ_self _)
              obtain ⟨hct, hdp⟩ := hcnt
              have hxw := HX.out
              replace HCA := Lib.hid (HCA.out.ext hxw)
              replace HTVA := Lib.hid (HTVA.out.keep (A' := fun _ => True) hxw.size (fun g _ hlt => ⟨trivial, hxw.block g hlt⟩))
              replace HCX := Lib.hid (HCX.out.ext hxw)
              replace HTVX := Lib.hid (HTVX.out.keep (A' := fun _ => True) hxw.size (fun g _ hlt => ⟨trivial, hxw.block g hlt⟩))
              replace HE := Lib.hid (ext_trans HE.out hxw)
              clear hxw
              clear HX
              obtain ⟨PW, hPW⟩ : ∃ x, (putT t [⟨key, 0, true⟩] (tArr [(getT t key).getD tNull])).1 = x := ⟨_, rfl⟩
              obtain ⟨PE, hPE⟩ : ∃ x, (putT t [⟨key, 0, true⟩] (tArr [(getT t key).getD tNull])).2 = x := ⟨_, rfl⟩
              have HWW : Hid (weightT PW ≤ 1000000 ∧ distT PW) := Lib.hid (by rw [← hPW]; exact ⟨wPut1 hwt hkl', distPut1 HDT.out (distArr (distGet HDT.out))⟩)
              have hl := HL.out
              rw [hPW, hPE] at hl
              obtain ⟨hs1, -, -, hs2, hs3, hs4⟩ := hl
              have HS1 := Lib.hid hs1
              have HS2 := Lib.hid hs2
              have HS3 := Lib.hid hs3
              have HS4 := Lib.hid hs4
              clear hs1 hs2 hs3 hs4 HL
              have HKD : Hid (kA = t.kind) := Lib.hid (by obtain ⟨_, _, _, _, _, _, hk, -⟩ := tv_rows HTVA.out; exact hk)
              have HCT1 := Lib.hid hct
              have HDP1 := Lib.hid hdp
              clear hct hdp
              obtain ⟨G, hG⟩ : ∃ x, getT t key = x := ⟨_, rfl⟩
              have HG0 := Lib.hid (get_any t _ (fun _ => True) key wr HTVA.out)
              rw [hG] at HG0 hPW hPE HS4
              have HPW := Lib.hid hPW
              have HPE := Lib.hid hPE
              clear hPW hPE hG
              have c0 := HCA.out.cell 0; have c1 := HCA.out.cell 1; have c2 := HCA.out.cell 2; have c3 := HCA.out.cell 3; have c4 := HCA.out.cell 4; have c5 := HCA.out.cell 5; have c6 := HCA.out.cell 6; have c7 := HCA.out.cell 7
              simp at c0 c1 c2 c3 c4 c5 c6 c7
              go_wp2_with fail
              refine (HG0.out).mono ?_
              rintro e w7 ⟨c', rfl, htv, hx7⟩
              clear HG0
              clear c0 c1 c2 c3 c4 c5 c6 c7
              replace HCA := Lib.hid (HCA.out.ext hx7)
              replace HTVA := Lib.hid (HTVA.out.keep (A' := fun _ => True) hx7.size (fun g _ hlt => ⟨trivial, hx7.block g hlt⟩))
              replace HCX := Lib.hid (HCX.out.ext hx7)
              replace HTVX := Lib.hid (HTVX.out.keep (A' := fun _ => True) hx7.size (fun g _ hlt => ⟨trivial, hx7.block g hlt⟩))
              replace HE := Lib.hid (ext_trans HE.out hx7)
              clear hx7
              obtain ⟨kG, bG, dG, sG, laG, lnG, lcG, maG, mnG, mcG, rfl⟩ := htv.eight
              obtain ⟨w7b, ew7b⟩ : ∃ W, w7.alloc (.cells (cellsV kG bG dG sG (.slice laG lnG lcG) (.slice maG mnG mcG)) 27) = W := ⟨_, rfl⟩
              have nw7b : w7b.heap[w7.heap.size]? = some (.cells (cellsV kG bG dG sG (.slice laG lnG lcG) (.slice maG mnG mcG)) 27) := by rw [← ew7b]; exact heap_alloc_new _ _
              have xw7b : Ext w7 w7b := by rw [← ew7b]; exact (ext_refl _).alloc (Nat.le_refl _) _
              have sw7b : w7b.heap.size = w7.heap.size + 1 := by rw [← ew7b]; simp
              have HCG : Hid (VAt w7b w7.heap.size (cellsV kG bG dG sG (.slice laG lnG lcG) (.slice maG mnG mcG))) := Lib.hid nw7b
              have HTVG := Lib.hid (htv.keep (w' := w7b) (A' := fun _ => True) xw7b.size (fun g _ hlt => ⟨trivial, xw7b.block g hlt⟩))
              have EG := Lib.hid ew7b
              clear nw7b ew7b
              have hxb := xw7b
              obtain ⟨QG, hQG⟩ : ∃ Q, w7.heap.size = Q := ⟨_, rfl⟩
              clear htv xw7b
              try clear sw7b
              replace HCA := Lib.hid (HCA.out.ext hxb)
              replace HTVA := Lib.hid (HTVA.out.keep (A' := fun _ => True) hxb.size (fun g _ hlt => ⟨trivial, hxb.block g hlt⟩))
              replace HCX := Lib.hid (HCX.out.ext hxb)
              replace HTVX := Lib.hid (HTVX.out.keep (A' := fun _ => True) hxb.size (fun g _ hlt => ⟨trivial, hxb.block g hlt⟩))
              replace HE := Lib.hid (ext_trans HE.out hxb)
              clear hxb
              simp only [cellsV] at HCG EG HTVG ⊢
              go_upto_region 23 with fail
              rw [EG.out]
              rw [hQG] at HCG
              clear hQG EG
              obtain ⟨GI, hGI⟩ : ∃ x, G.isSome = x := ⟨_, rfl⟩
              rw [hGI] at HS4 ⊢
              clear hGI
              obtain ⟨GT, hGT⟩ : ∃ x, G.getD tNull = x := ⟨_, rfl⟩
              rw [hGT] at HTVG HPW HPE
              clear hGT
              have hqg0 : QG < w7b.heap.size := HCG.out.lt
              obtain ⟨QP, hQP⟩ : ∃ Q, w7b.heap.size = Q := ⟨_, rfl⟩
              have hqg : QG < QP := by omega
              have hxp : Ext w7b ((w7b.alloc (.cells #[.string ⟨key.toArray⟩, .int .i64 0, .bool true] 46)).alloc (.cells #[.int .i64 kG, .bool bG, .bool dG.neg, .string ⟨dG.digits.toArray⟩, .int .i64 dG.exp, .string ⟨sG.toArray⟩, .slice laG lnG lcG, .slice maG mnG mcG] 27)) := ((ext_refl _).alloc (Nat.le_refl _) _).alloc (by simp) _
              have HPS : Hid (PlAt ((w7b.alloc (.cells #[.string ⟨key.toArray⟩, .int .i64 0, .bool true] 46)).alloc (.cells #[.int .i64 kG, .bool bG, .bool dG.neg, .string ⟨dG.digits.toArray⟩, .int .i64 dG.exp, .string ⟨sG.toArray⟩, .slice laG lnG lcG, .slice maG mnG mcG] 27)) (fun _ => True) (.slice (some ⟨QP, 0, none⟩) 1 1) [⟨key, 0, true⟩]) := Lib.hid (by
                have hb := (Blk.new hQP #[.string ⟨key.toArray⟩, .int .i64 0, .bool true] 46).alloc (.cells #[.int .i64 kG, .bool bG, .bool dG.neg, .string ⟨dG.digits.toArray⟩, .int .i64 dG.exp, .string ⟨sG.toArray⟩, .slice laG lnG lcG, .slice maG mnG mcG] 27)
                refine ⟨⟨rfl, _, _, rfl, Nat.le_refl _, by omega, fun _ => ⟨QP, 0, rfl, trivial, hb.lt, fun i hi => ?_⟩⟩, by intro s hs; simp only [List.mem_cons, List.not_mem_nil, or_false] at hs; subst hs; exact (show i64R 0 from ⟨by decide, by decide⟩)⟩
                have hi' : i = 0 ∨ i = 1 ∨ i = 2 := by
                  have : i < 3 := hi
                  omega
                rcases hi' with rfl | rfl | rfl <;> exact hb.cell _)
              have HTA : Hid (TV ((w7b.alloc (.cells #[.string ⟨key.toArray⟩, .int .i64 0, .bool true] 46)).alloc (.cells #[.int .i64 kG, .bool bG, .bool dG.neg, .string ⟨dG.digits.toArray⟩, .int .i64 dG.exp, .string ⟨sG.toArray⟩, .slice laG lnG lcG, .slice maG mnG mcG] 27)) (fun _ => True) (tArr [GT]) (cellsV 4 false Num.zero [] (.slice (some ⟨QP + 1, 0, none⟩) 1 1) (.slice none 0 0))) := Lib.hid (by
                have hb := Blk.new (w := (w7b.alloc (.cells #[.string ⟨key.toArray⟩, .int .i64 0, .bool true] 46))) (n := QP + 1) (by simp [hQP]) #[.int .i64 kG, .bool bG, .bool dG.neg, .string ⟨dG.digits.toArray⟩, .int .i64 dG.exp, .string ⟨sG.toArray⟩, .slice laG lnG lcG, .slice maG mnG mcG] 27
                have hg := HTVG.out.keep (w' := ((w7b.alloc (.cells #[.string ⟨key.toArray⟩, .int .i64 0, .bool true] 46)).alloc (.cells #[.int .i64 kG, .bool bG, .bool dG.neg, .string ⟨dG.digits.toArray⟩, .int .i64 dG.exp, .string ⟨sG.toArray⟩, .slice laG lnG lcG, .slice maG mnG mcG] 27))) (A' := fun _ => True) hxp.size (fun g _ hlt => ⟨trivial, hxp.block g hlt⟩)
                have hl := TL.cons hg TL.nil
                refine TV.mk hl ⟨by simp, _, _, rfl, Nat.le_refl _, by omega, fun _ => ⟨QP + 1, 0, rfl, trivial, hb.lt, fun i hi => ?_⟩⟩ .nil (RowAt.nil _ _ 9 none 0 (by omega))
                rw [Nat.zero_add, hb.cell i, ← List.getElem?_eq_getElem hi]
                simp)
              simp only [cellsV, Num.zero] at HTA
              have c0 := HCA.out.cell 0; have c1 := HCA.out.cell 1; have c2 := HCA.out.cell 2; have c3 := HCA.out.cell 3; have c4 := HCA.out.cell 4; have c5 := HCA.out.cell 5; have c6 := HCA.out.cell 6; have c7 := HCA.out.cell 7
              simp at c0 c1 c2 c3 c4 c5 c6 c7
              have d0 := HCG.out.cell 0; have d1 := HCG.out.cell 1; have d2 := HCG.out.cell 2; have d3 := HCG.out.cell 3; have d4 := HCG.out.cell 4; have d5 := HCG.out.cell 5; have d6 := HCG.out.cell 6; have d7 := HCG.out.cell 7
              simp at d0 d1 d2 d3 d4 d5 d6 d7
              go_wp2_with fail
              clear c0 c1 c2 c3 c4 c5 c6 c7
              clear d0 d1 d2 d3 d4 d5 d6 d7
              clear HCG HTVG hqg hqg0 hQP
              generalize ((w7b.alloc (.cells #[.string ⟨key.toArray⟩, .int .i64 0, .bool true] 46)).alloc (.cells #[.int .i64 kG, .bool bG, .bool dG.neg, .string ⟨dG.digits.toArray⟩, .int .i64 dG.exp, .string ⟨sG.toArray⟩, .slice laG lnG lcG, .slice maG mnG mcG] 27)) = w8 at *
              replace HCA := Lib.hid (HCA.out.ext hxp)
              replace HTVA := Lib.hid (HTVA.out.keep (A' := fun _ => True) hxp.size (fun g _ hlt => ⟨trivial, hxp.block g hlt⟩))
              replace HCX := Lib.hid (HCX.out.ext hxp)
              replace HTVX := Lib.hid (HTVX.out.keep (A' := fun _ => True) hxp.size (fun g _ hlt => ⟨trivial, hxp.block g hlt⟩))
              replace HE := Lib.hid (ext_trans HE.out hxp)
              clear hxp
              have HPU := Lib.hid (vput_any t (tArr [GT]) _ _ (fun _ => True) _ [⟨key, 0, true⟩] w8 HTVA.out HPS.out HTA.out (by omega))
              rw [HPW.out, HPE.out] at HPU
              clear HPS HTA HPW HPE
              refine (HPU.out).mono ?_
              rintro e w9 ⟨c', rfl, htv, hx9⟩
              have htw := htv.keep (A' := fun _ => True) (Nat.le_refl _) (fun g _ hlt => ⟨trivial, rfl⟩)
              clear HPU htv
              replace HCA := Lib.hid (HCA.out.ext hx9)
              replace HTVA := Lib.hid (HTVA.out.keep (A' := fun _ => True) hx9.size (fun g _ hlt => ⟨trivial, hx9.block g hlt⟩))
              replace HCX := Lib.hid (HCX.out.ext hx9)
              replace HTVX := Lib.hid (HTVX.out.keep (A' := fun _ => True) hx9.size (fun g _ hlt => ⟨trivial, hx9.block g hlt⟩))
              replace HE := Lib.hid (ext_trans HE.out hx9)
              clear hx9
              obtain ⟨kW, bW, dW, sW, laW, lnW, lcW, maW, mnW, mcW, rfl⟩ := htw.eight
              obtain ⟨w9b, ew9b⟩ : ∃ W, w9.alloc (.cells (cellsV kW bW dW sW (.slice laW lnW lcW) (.slice maW mnW mcW)) 27) = W := ⟨_, rfl⟩
              have nw9b : w9b.heap[w9.heap.size]? = some (.cells (cellsV kW bW dW sW (.slice laW lnW lcW) (.slice maW mnW mcW)) 27) := by rw [← ew9b]; exact heap_alloc_new _ _
              have xw9b : Ext w9 w9b := by rw [← ew9b]; exact (ext_refl _).alloc (Nat.le_refl _) _
              have sw9b : w9b.heap.size = w9.heap.size + 1 := by rw [← ew9b]; simp
              have HCW : Hid (VAt w9b w9.heap.size (cellsV kW bW dW sW (.slice laW lnW lcW) (.slice maW mnW mcW))) := Lib.hid nw9b
              have HTVW := Lib.hid (htw.keep (w' := w9b) (A' := fun _ => True) xw9b.size (fun g _ hlt => ⟨trivial, xw9b.block g hlt⟩))
              have EW := Lib.hid ew9b
              clear nw9b ew9b
              have hxb := xw9b
              obtain ⟨QW, hQW⟩ : ∃ Q, w9.heap.size = Q := ⟨_, rfl⟩
              clear htw xw9b
              try clear sw9b
              replace HCA := Lib.hid (HCA.out.ext hxb)
              replace HTVA := Lib.hid (HTVA.out.keep (A' := fun _ => True) hxb.size (fun g _ hlt => ⟨trivial, hxb.block g hlt⟩))
              replace HCX := Lib.hid (HCX.out.ext hxb)
              replace HTVX := Lib.hid (HTVX.out.keep (A' := fun _ => True) hxb.size (fun g _ hlt => ⟨trivial, hxb.block g hlt⟩))
              replace HE := Lib.hid (ext_trans HE.out hxb)
              clear hxb
              simp only [cellsV] at HCW EW HTVW ⊢
              go_upto_region 24 with fail
              rw [EW.out]
              rw [hQW] at HCW
              clear hQW EW
              have hcc : countT t = 1 + NL + NM := by have := HCT1.out; omega
              have hdd : depthT t = max DL DM + 1 := HDP1.out
              have ew : IntKind.i64.wrap (((max DL DM : Nat) : Int) + 1) = ((max DL DM + 1 : Nat) : Int) := by rw [IntWalk.i64_in _ (by omega)]; omega
              have HK1 := Lib.hid (same_any t (t.withM t.mems.reverse) _ _ _ _ w9b (by omega) (by rw [wTurn]; omega) HDT.out (distTurn HDT.out) HTVA.out HTVX.out)
              rw [HS1.out] at HK1
              have HCC := Lib.hid hcc
              have HDD := Lib.hid hdd
              have HEW := Lib.hid ew
              obtain ⟨DD, hDDq⟩ : ∃ n, max DL DM = n := ⟨_, rfl⟩
              have hew := HEW.out
              have hdd2 := HDD.out
              rw [hDDq] at hew hdd2 ⊢
              replace HEW := Lib.hid hew
              replace HDD := Lib.hid hdd2
              clear hcc hdd ew hew hdd2 hDDq
              by_cases hpe : PE = 0
              · subst hpe
                have hk5 : kA = 5 := by rw [HKD.out]; exact HS2.out.1 rfl
                have hsf := HS3.out rfl
                have HSF := Lib.hid hsf
                clear HKD HS2 HS3 HS4 hsf
                subst hk5
                have c0 := HCA.out.cell 0; have c1 := HCA.out.cell 1; have c2 := HCA.out.cell 2; have c3 := HCA.out.cell 3; have c4 := HCA.out.cell 4; have c5 := HCA.out.cell 5; have c6 := HCA.out.cell 6; have c7 := HCA.out.cell 7
                simp at c0 c1 c2 c3 c4 c5 c6 c7
                have d0 := HCX.out.cell 0; have d1 := HCX.out.cell 1; have d2 := HCX.out.cell 2; have d3 := HCX.out.cell 3; have d4 := HCX.out.cell 4; have d5 := HCX.out.cell 5; have d6 := HCX.out.cell 6; have d7 := HCX.out.cell 7
                simp at d0 d1 d2 d3 d4 d5 d6 d7
                go_wp2_with fail
                refine (HK1.out).mono ?_
                rintro e w10 ⟨rfl, hx10⟩
                clear HK1
                clear c0 c1 c2 c3 c4 c5 c6 c7
                clear d0 d1 d2 d3 d4 d5 d6 d7
                clear HCX HTVX
                replace HCA := Lib.hid (HCA.out.ext hx10)
                replace HTVA := Lib.hid (HTVA.out.keep (A' := fun _ => True) hx10.size (fun g _ hlt => ⟨trivial, hx10.block g hlt⟩))
                replace HCW := Lib.hid (HCW.out.ext hx10)
                replace HTVW := Lib.hid (HTVW.out.keep (A' := fun _ => True) hx10.size (fun g _ hlt => ⟨trivial, hx10.block g hlt⟩))
                replace HE := Lib.hid (ext_trans HE.out hx10)
                clear hx10
                have HK2 := Lib.hid (count_any t _ _ w10 (by omega) HTVA.out)
                rw [HCC.out] at HK2
                have c0 := HCA.out.cell 0; have c1 := HCA.out.cell 1; have c2 := HCA.out.cell 2; have c3 := HCA.out.cell 3; have c4 := HCA.out.cell 4; have c5 := HCA.out.cell 5; have c6 := HCA.out.cell 6; have c7 := HCA.out.cell 7
                simp at c0 c1 c2 c3 c4 c5 c6 c7
                go_wp2_with fail
                refine (HK2.out).mono ?_
                rintro e w11 ⟨rfl, hx11⟩
                clear HK2
                clear c0 c1 c2 c3 c4 c5 c6 c7
                replace HCA := Lib.hid (HCA.out.ext hx11)
                replace HTVA := Lib.hid (HTVA.out.keep (A' := fun _ => True) hx11.size (fun g _ hlt => ⟨trivial, hx11.block g hlt⟩))
                replace HCW := Lib.hid (HCW.out.ext hx11)
                replace HTVW := Lib.hid (HTVW.out.keep (A' := fun _ => True) hx11.size (fun g _ hlt => ⟨trivial, hx11.block g hlt⟩))
                replace HE := Lib.hid (ext_trans HE.out hx11)
                clear hx11
                have HK3 := Lib.hid (depth_any t _ _ w11 (by omega) HTVA.out)
                rw [HDD.out] at HK3
                have ew := HEW.out
                have c0 := HCA.out.cell 0; have c1 := HCA.out.cell 1; have c2 := HCA.out.cell 2; have c3 := HCA.out.cell 3; have c4 := HCA.out.cell 4; have c5 := HCA.out.cell 5; have c6 := HCA.out.cell 6; have c7 := HCA.out.cell 7
                simp at c0 c1 c2 c3 c4 c5 c6 c7
                go_wp2_with fail
                refine (HK3.out).mono ?_
                rintro e w12 ⟨rfl, hx12⟩
                clear HK3
                clear c0 c1 c2 c3 c4 c5 c6 c7
                replace HCA := Lib.hid (HCA.out.ext hx12)
                replace HTVA := Lib.hid (HTVA.out.keep (A' := fun _ => True) hx12.size (fun g _ hlt => ⟨trivial, hx12.block g hlt⟩))
                replace HCW := Lib.hid (HCW.out.ext hx12)
                replace HTVW := Lib.hid (HTVW.out.keep (A' := fun _ => True) hx12.size (fun g _ hlt => ⟨trivial, hx12.block g hlt⟩))
                replace HE := Lib.hid (ext_trans HE.out hx12)
                clear hx12
                have HK4 := Lib.hid (same_any t PW _ _ _ _ w12 (by omega) HWW.out.1 HDT.out HWW.out.2 HTVA.out HTVW.out)
                rw [HSF.out] at HK4
                clear HSF HWW HDT
                have c0 := HCA.out.cell 0; have c1 := HCA.out.cell 1; have c2 := HCA.out.cell 2; have c3 := HCA.out.cell 3; have c4 := HCA.out.cell 4; have c5 := HCA.out.cell 5; have c6 := HCA.out.cell 6; have c7 := HCA.out.cell 7
                simp at c0 c1 c2 c3 c4 c5 c6 c7
                have d0 := HCW.out.cell 0; have d1 := HCW.out.cell 1; have d2 := HCW.out.cell 2; have d3 := HCW.out.cell 3; have d4 := HCW.out.cell 4; have d5 := HCW.out.cell 5; have d6 := HCW.out.cell 6; have d7 := HCW.out.cell 7
                simp at d0 d1 d2 d3 d4 d5 d6 d7
                cases GI with
                | true =>
                  go_wp2_with fail
                  refine (HK4.out).mono ?_
                  rintro e w13 ⟨rfl, hx13⟩
                  have hq0 : w13.cell? ⟨S, 0, none⟩ = some (.int .i64 5) := (HCA.out.ext hx13).cell 0
                  replace HE := Lib.hid (ext_trans HE.out hx13)
                  clear hx13
                  go_wp2_with fail
                  go_ret
                  exact ⟨rfl, HE.out⟩
                | false =>
                  go_wp2_with fail
                  refine (HK4.out).mono ?_
                  rintro e w13 ⟨rfl, hx13⟩
                  have hq0 : w13.cell? ⟨S, 0, none⟩ = some (.int .i64 5) := (HCA.out.ext hx13).cell 0
                  replace HE := Lib.hid (ext_trans HE.out hx13)
                  clear hx13
                  go_wp2_with fail
                  go_ret
                  exact ⟨rfl, HE.out⟩
              · have hkn : t.kind ≠ 5 := fun e => hpe (HS2.out.2 e)
                have hkk : (kA == 5) = false := by rw [HKD.out]; simpa using hkn
                have hpb : (PE == 0) = false := by simpa using hpe
                have hpn : (PE != 0) = true := by simpa using hpe
                obtain rfl : GI = false := by
                  cases GI with
                  | false => rfl
                  | true => exact absurd (HS4.out rfl) hkn
                clear HKD HS2 HS3 HS4 hkn hpe HWW HDT
                have c0 := HCA.out.cell 0; have c1 := HCA.out.cell 1; have c2 := HCA.out.cell 2; have c3 := HCA.out.cell 3; have c4 := HCA.out.cell 4; have c5 := HCA.out.cell 5; have c6 := HCA.out.cell 6; have c7 := HCA.out.cell 7
                simp at c0 c1 c2 c3 c4 c5 c6 c7
                have d0 := HCX.out.cell 0; have d1 := HCX.out.cell 1; have d2 := HCX.out.cell 2; have d3 := HCX.out.cell 3; have d4 := HCX.out.cell 4; have d5 := HCX.out.cell 5; have d6 := HCX.out.cell 6; have d7 := HCX.out.cell 7
                simp at d0 d1 d2 d3 d4 d5 d6 d7
                go_wp2_with fail
                refine (HK1.out).mono ?_
                rintro e w10 ⟨rfl, hx10⟩
                clear HK1
                clear c0 c1 c2 c3 c4 c5 c6 c7
                clear d0 d1 d2 d3 d4 d5 d6 d7
                clear HCX HTVX
                replace HCA := Lib.hid (HCA.out.ext hx10)
                replace HTVA := Lib.hid (HTVA.out.keep (A' := fun _ => True) hx10.size (fun g _ hlt => ⟨trivial, hx10.block g hlt⟩))
                replace HCW := Lib.hid (HCW.out.ext hx10)
                replace HTVW := Lib.hid (HTVW.out.keep (A' := fun _ => True) hx10.size (fun g _ hlt => ⟨trivial, hx10.block g hlt⟩))
                replace HE := Lib.hid (ext_trans HE.out hx10)
                clear hx10
                have HK2 := Lib.hid (count_any t _ _ w10 (by omega) HTVA.out)
                rw [HCC.out] at HK2
                have c0 := HCA.out.cell 0; have c1 := HCA.out.cell 1; have c2 := HCA.out.cell 2; have c3 := HCA.out.cell 3; have c4 := HCA.out.cell 4; have c5 := HCA.out.cell 5; have c6 := HCA.out.cell 6; have c7 := HCA.out.cell 7
                simp at c0 c1 c2 c3 c4 c5 c6 c7
                go_wp2_with fail
                refine (HK2.out).mono ?_
                rintro e w11 ⟨rfl, hx11⟩
                clear HK2
                clear c0 c1 c2 c3 c4 c5 c6 c7
                replace HCA := Lib.hid (HCA.out.ext hx11)
                replace HTVA := Lib.hid (HTVA.out.keep (A' := fun _ => True) hx11.size (fun g _ hlt => ⟨trivial, hx11.block g hlt⟩))
                replace HCW := Lib.hid (HCW.out.ext hx11)
                replace HTVW := Lib.hid (HTVW.out.keep (A' := fun _ => True) hx11.size (fun g _ hlt => ⟨trivial, hx11.block g hlt⟩))
                replace HE := Lib.hid (ext_trans HE.out hx11)
                clear hx11
                have HK3 := Lib.hid (depth_any t _ _ w11 (by omega) HTVA.out)
                rw [HDD.out] at HK3
                have ew := HEW.out
                have c0 := HCA.out.cell 0; have c1 := HCA.out.cell 1; have c2 := HCA.out.cell 2; have c3 := HCA.out.cell 3; have c4 := HCA.out.cell 4; have c5 := HCA.out.cell 5; have c6 := HCA.out.cell 6; have c7 := HCA.out.cell 7
                simp at c0 c1 c2 c3 c4 c5 c6 c7
                go_wp2_with fail
                refine (HK3.out).mono ?_
                rintro e w12 ⟨rfl, hx12⟩
                clear HK3
                clear c0 c1 c2 c3 c4 c5 c6 c7
                replace HCA := Lib.hid (HCA.out.ext hx12)
                replace HTVA := Lib.hid (HTVA.out.keep (A' := fun _ => True) hx12.size (fun g _ hlt => ⟨trivial, hx12.block g hlt⟩))
                replace HCW := Lib.hid (HCW.out.ext hx12)
                replace HTVW := Lib.hid (HTVW.out.keep (A' := fun _ => True) hx12.size (fun g _ hlt => ⟨trivial, hx12.block g hlt⟩))
                replace HE := Lib.hid (ext_trans HE.out hx12)
                clear hx12
                have c0 := HCA.out.cell 0; have c1 := HCA.out.cell 1; have c2 := HCA.out.cell 2; have c3 := HCA.out.cell 3; have c4 := HCA.out.cell 4; have c5 := HCA.out.cell 5; have c6 := HCA.out.cell 6; have c7 := HCA.out.cell 7
                simp at c0 c1 c2 c3 c4 c5 c6 c7
                go_wp2_with fail
                go_ret
                exact ⟨rfl, HE.out⟩
set_option linter.unusedSimpArgs false
theorem own : ownKnob Tryz.prog.godebug = none := by kernel_rfl
theorem laid : laidOutB Tryz.prog = true := by kernel_rfl
set_option maxHeartbeats 1600000 in
set_option maxRecDepth 100000 in
theorem lifted (os : Os) (started : os.Started) (H : Type) (enc : TypeId × Value → H) :
    ReturnsInHanded {} Tryz.checked os 4 .any (fun w args => (Rows.valuePairsSpec.pre enc Tryz.prog Tryz.f4 [] false w args ∧ laidMetH Tryz.prog Rows.valuePairsRow.laid w) ∧ sizedMet enc Tryz.prog Tryz.f4 (OpenSpec.ofChange Rows.valuePairsSpec) false w args) (Rows.valuePairsSpec.post enc Tryz.prog Tryz.f4 false true false false) := by
  refine returnsInHanded_of_change_and (C := Tryz.checked) (X := fun w _ => laidMetH Tryz.prog Rows.valuePairsRow.laid w) (fun _ _ _ hh h => h.of_heap hh) own started (by kernel_rfl) Tryz.func4
    (ChangeSpec.witness_shaped (enc := enc) (C := Tryz.checked) (os := os) (X := fun w _ => laidMetH Tryz.prog Rows.valuePairsRow.laid w) false (World.laidAll Tryz.prog os Rows.valuePairsRow.laid) #[.agg #[.int .i64 0, .bool false, .bool false, .string ⟨#[]⟩, .int .i64 0, .string ⟨#[]⟩, .slice none 0 0, .slice none 0 0], .string ⟨#[]⟩] 8 (World.laidAll_os _ _ _)
      (World.shaped_of_ZipB (by kernel_rfl) (by kernel_rfl)) (by kernel_rfl) (by kernel_rfl) (by kernel_rfl)
      (by rw [MakeChecks.laidMetH_plain _ _ _ (by kernel_rfl)]; exact laidMet_laidAll _ (by kernel_rfl) (by kernel_rfl))) ?_
  intro W base args ds gs before hval0 hW _ hsz0 hX _
  have hT : Tab W := tab_of hX
  have hsz : (DataW.weightsEach Tryz.prog (Tryz.f4.params.toList ++ Rows.valuePairsSpec.plain.varTypes Tryz.prog) (ds ++ gs)).all (· ≤ reachBytes) = true := hsz0
  clear hsz0
  have hval : ∀ (j : Nat) t v, Tryz.f4.params[j]? = some t → args[j]? = some v → Value.okWide Tryz.prog W .any base t v := hval0
  have hW' := hW
  obtain ⟨p, q, hA0, hV, rfl, _, _⟩ := hW
  have hA : DataW.TrodAll enc Tryz.prog W 0 (fun _ => true) true Tryz.f4.params.toList args.toList ds p := hA0
  rw [Tryz.params4] at hA hval hsz
  obtain ⟨v0, vs0, d0, ds0, p0, q0, ha0, rfl, rfl, h0, r0⟩ := trodAll_cons hA
  obtain ⟨v1, vs1, d1, ds1, p1, q1, ha1, rfl, rfl, h1, r1⟩ := trodAll_cons r0
  obtain ⟨hb2, rfl, rfl⟩ := trodAll_nil r1
  subst hb2
  subst ha1
  obtain rfl : args = #[v0, v1] := by cases args; simpa using ha0
  obtain ⟨rfl, rfl⟩ := trodVars_none hV
  have hk0 := h0
  obtain ⟨cs0, rfl, _⟩ := okWide_struct Tryz.underlying27 (hval 0 27 v0 rfl rfl)
  obtain ⟨fu0, hf0⟩ := h0
  obtain ⟨t0, ht0, hok0⟩ := trod_val (enc := enc) W fu0 _ d0 p0 hf0 (fun n hn => by simpa using List.all_eq_true.1 hsz _ (DataW.weights_mem_each (j := 0) rfl rfl n hn))
  have hk1 := h1
  obtain ⟨a1, rfl, rfl, rfl, _⟩ := Go.ChangeMaps.open_string Tryz.underlying9 (hval 1 9 v1 rfl rfl) h1
  have hs1 : a1.size ≤ 140737488351232 := by have := sized_string hsz (j := 1) rfl rfl; simpa [reachBytes] using this
  have hlt := fun x hx => hW'.lt x hx
  simp only [List.append_nil, List.nil_append] at hW' hlt
  refine (walk t0 _ a1 hs1 W hT ht0 hok0).mono fun e W' ⟨he, hb⟩ => ?_
  subst he
  have hargs := (trodAll_cons_mk (Below.trod laid readV (of_decide_eq_true (by kernel_rfl)) hk0 hb (fun x hx => by first | exact hlt x hx | exact absurd hx (List.not_mem_nil) | exact hlt x (by simp [hx]))) (trodAll_cons_mk (Below.trod laid (by kernel_rfl) (of_decide_eq_true (by kernel_rfl)) hk1 hb (fun x hx => by first | exact hlt x hx | exact absurd hx (List.not_mem_nil) | exact hlt x (by simp [hx]))) trodAll_mk0))
  exact ⟨_, rfl, _, _, _, [], _, [], hW', trodAll_cons_mk (shut_bool Tryz.underlying4 _) trodAll_mk0, hargs, rfl, hb.frame _, fun h => by cases h⟩

theorem closed : joinedFacts Tryz.prog 4 Tryz.f4 Rows.valuePairsSpec Rows.valuePairsRow = true := by
  have hp : Tryz.f4.params.toList ++ Rows.valuePairsSpec.plain.varTypes Tryz.prog = [27, 9] := by kernel_rfl
  have hr : Tryz.f4.resultTypes.toList = [4] := by kernel_rfl
  have hq : Tryz.f4.params = #[27, 9] := by kernel_rfl
  refine joined_of (by kernel_rfl) ?_ (by kernel_rfl) ?_ ?_ (by kernel_rfl) ?_ ?_ (by kernel_rfl) ?_ (veiledFits_of rfl ?_ (by kernel_rfl))
  · rw [hq]; simp [readV, show Tryz.prog.readableRec 9 = true by kernel_rfl]
  · rw [hp]; simp only [List.any_cons, List.any_nil, mapsV, show Tryz.prog.mapsRec 9 = false by kernel_rfl]; rfl
  · rw [hp]; simp only [List.any_cons, List.any_nil, ifacesV, show Tryz.prog.ifacesRec 9 = false by kernel_rfl]; rfl
  · rw [hp]; simp only [List.any_cons, List.any_nil, loopsV, show Tryz.prog.loopsFrom 9 = false by kernel_rfl]; rfl
  · rw [hp, hr]; simp only [List.cons_append, List.nil_append, List.any_cons, List.any_nil, wideV, show Tryz.prog.wideKeysFrom 9 = false by kernel_rfl, show Tryz.prog.wideKeysFrom 4 = false by kernel_rfl]; rfl
  · rw [hp, hr]; simp only [List.cons_append, List.nil_append, List.any_cons, List.any_nil, veiledV, show Tryz.prog.veiledRec 9 = false by kernel_rfl, show Tryz.prog.veiledRec 4 = false by kernel_rfl]; rfl
  · rw [hp, hr]; simp only [List.cons_append, List.nil_append, List.all_cons, List.all_nil, ownV, show Tryz.prog.veiledOwn 9 = true by kernel_rfl, show Tryz.prog.veiledOwn 4 = true by kernel_rfl]; rfl
theorem held : Rows.ValuePairsSaid :=
  OpenClaim.holds_of_wide 4 Tryz.f4 rfl rfl rfl rfl rfl rfl rfl ⟨rfl, rfl, rfl, rfl, rfl⟩ rfl rfl rfl rfl rfl (by kernel_rfl) Tryz.func4 closed
    (of_decide_eq_true (by kernel_rfl)) (by unfold Func.isWrapper; first | (rw [if_pos (by decide +kernel)]; kernel_rfl) | (rw [if_neg (by decide +kernel)]; exact ⟨rfl, rfl⟩))
    (fun os started H enc _ => lifted os started H enc)

theorem proved : Rows.ValuePairsCardSaid :=
  Claim7.holds_tied_plain_at .later [] Rows.valuePairsCard.laidKinds true Rows.valuePairsCard.stood.harness Rows.valuePairsCard.stood.looks held (fun _ h => by cases h) (by kernel_rfl) (fun _ h => by cases h) valuePairs_row_tie rfl ⟨rfl, rfl⟩ (by kernel_rfl) rfl
    (fun f fn hf hfn => by
      obtain rfl : f = 4 := Option.some.inj ((show Tryz.prog.funcNamed "orangery/orangerylaw03.ValuePairs" = some 4 by kernel_rfl).symm.trans hf) |>.symm
      obtain rfl : fn = Tryz.f4 := (Option.some.inj (Tryz.func4.symm.trans hfn)).symm
      exact ⟨by kernel_rfl, fun j t ht => by
        rw [Tryz.params4] at ht
        have hm : t ∈ [27, 9] := by simpa using Array.mem_of_getElem? ht
        have hall : ([27, 9].all fun u => !Tryz.prog.wantsStandIn u) = true := by kernel_rfl
        exact (show Tryz.prog.wantsStandIn t = false by simpa using List.all_eq_true.1 hall t hm)⟩)
    (by kernel_rfl)
end Go.Proofs.YtjapbjmeoaagmaaGreatDoor.valuePairs
