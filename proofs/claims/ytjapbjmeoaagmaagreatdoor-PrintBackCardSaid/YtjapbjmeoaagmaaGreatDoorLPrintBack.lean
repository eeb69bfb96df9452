/- PrintBack: THERE AND BACK: any value that may be, as a text of either kind, is parsed to itself, in order; that text's value has that text: whatever the arguments, the law returns true and what came in reads as it did. No condition. -/
import Derived.Test.YtjapbjmeoaagmaaGreatDoorRows
import Derived.Test.YtjapbjmeoaagmaaGreatDoorCards
import Derived.Test.YtjapbjmeoaagmaaGreatDoorTie
import Derived.Test.YtjapbjmeoaagmaaGreatDoorQPrintU3
import Derived.Test.YtjapbjmeoaagmaaGreatDoorQPrintU1
import Derived.Test.YtjapbjmeoaagmaaGreatDoorEPrintUConv
import Derived.Test.YtjapbjmeoaagmaaGreatDoorQPrintU2
import Derived.ProofKit
import Derived.SizedLaws
import Derived.OpenShut
import Derived.Lay
import Derived.LaidMore
import Derived.SevenTiedAt
import Derived.IntWalk
set_option linter.unusedVariables false
set_option linter.unusedSimpArgs false
set_option maxRecDepth 100000
namespace Go.Proofs.YtjapbjmeoaagmaaGreatDoor.printBack
open Go.ChangeShapes Go.WideShapes Go.ChangeAt Go.RowKit Go.Mem Orange
-- a region that reads and calls what adds alone: $1: the world, $2: the calls' values
-- the box of an argument $1: its TV: $2, named by $3 (k b d ..), the world $4 -> $5; leaves HC$3, HTV$3
-- a call's world: hx : Ext w w': carries the boxes ($2: their names) and HE; new name of the world: $1

theorem sx_size (l : List UInt8) : (ByteArray.mk l.toArray).size = l.length := by simp [ByteArray.size]
/-- a value that came back, and lasts -/
def specE (T : Tree) : Grow.Spec Ext :=
  ⟨fun v => ∃ k b d s a1 n1 c1 a2 n2 c2, v = .agg (cellsV k b d s (.slice a1 n1 c1) (.slice a2 n2 c2)), fun v w => ∃ c, v = .agg c ∧ TV w (fun _ => True) T c, ⟨_, 0, false, Num.zero, [], none, 0, 0, none, 0, 0, rfl⟩,
    fun v w w' ⟨c, e, h⟩ hg => ⟨c, e, h.keep hg.size (fun g _ hlt => ⟨trivial, hg.block g hlt⟩)⟩⟩
-- a text's bytes, parsed, and the value laid in a box: $1: the world, $2: the bytes, $3: the tree, $4: its names' letter, $5: the region behind
set_option maxHeartbeats 12800000 in
theorem walk (t : Tree) (c : Array Value) (b1 : Int) (h0 : -9223372036854775808 ≤ b1) (h1 : b1 ≤ 9223372036854775807) (w : World) (hT : Tab w) (ht : TV w (fun _ => True) t c) (hok : okT t) :
    Calls Tryz.prog 9 #[.agg c, .int .i64 b1] w fun e w' => e = .returned (.bool true) ∧ Ext w w' := by
  have HTB := Lib.hid hT
  have HOK := Lib.hid hok
  clear hT hok
  obtain ⟨kA, bA, dA, sA, laA, lnA, lcA, maA, mnA, mcA, rfl⟩ := ht.eight
  obtain ⟨wA, ewA⟩ : ∃ W, w.alloc (.cells (cellsV kA bA dA sA (.slice laA lnA lcA) (.slice maA mnA mcA)) 27) = W := ⟨_, rfl⟩
  have nwA : wA.heap[w.heap.size]? = some (.cells (cellsV kA bA dA sA (.slice laA lnA lcA) (.slice maA mnA mcA)) 27) := by rw [← ewA]; exact heap_alloc_new _ _
  have xwA : Ext w wA := by rw [← ewA]; exact (ext_refl _).alloc (Nat.le_refl _) _
  have swA : wA.heap.size = w.heap.size + 1 := by rw [← ewA]; simp
  have HCA : Hid (VAt wA w.heap.size (cellsV kA bA dA sA (.slice laA lnA lcA) (.slice maA mnA mcA))) := Lib.hid nwA
  have HTVA := Lib.hid (ht.keep (w' := wA) (A' := fun _ => True) xwA.size (fun g _ hlt => ⟨trivial, xwA.block g hlt⟩))
  have EA := Lib.hid ewA
  clear nwA ewA
  have HE := Lib.hid xwA
  clear ht xwA swA
  obtain ⟨p, hp, hp3⟩ := pick_low 4 15 (by decide) (by decide) b1
  have hp4 : p < 16 := hp3
  clear hp3
  simp only [cellsV] at HCA EA HTVA ⊢
  go_enter Tryz.func9, Tryz.ntmps9
  go_upto_region 1 with fail
  rw [EA.out]
  obtain ⟨S, hS⟩ : ∃ S, w.heap.size = S := ⟨_, rfl⟩
  rw [hS] at HCA ⊢
  clear hS EA
  go_wp2_with fail
  refine (pawake5 wA (HTB.out.ext HE.out)).mono ?_
  rintro e w1 ⟨rfl, hx1⟩
  replace HCA := Lib.hid (HCA.out.ext hx1)
  replace HTVA := Lib.hid (HTVA.out.keep (A' := fun _ => True) hx1.size (fun g _ hlt => ⟨trivial, hx1.block g hlt⟩))
  replace HE := Lib.hid (ext_trans HE.out hx1)
  clear hx1
  have c0 := HCA.out.cell 0; have c1 := HCA.out.cell 1; have c2 := HCA.out.cell 2; have c3 := HCA.out.cell 3; have c4 := HCA.out.cell 4; have c5 := HCA.out.cell 5; have c6 := HCA.out.cell 6; have c7 := HCA.out.cell 7
  simp at c0 c1 c2 c3 c4 c5 c6 c7
  go_wp2_with fail
  refine (few_any t _ _ 2000 w1 HOK.out (by omega) (by omega) HTVA.out).mono ?_
  rintro e w2 ⟨rfl, hx2⟩
  replace HCA := Lib.hid (HCA.out.ext hx2)
  replace HTVA := Lib.hid (HTVA.out.keep (A' := fun _ => True) hx2.size (fun g _ hlt => ⟨trivial, hx2.block g hlt⟩))
  replace HE := Lib.hid (ext_trans HE.out hx2)
  clear hx2
  clear c0 c1 c2 c3 c4 c5 c6 c7
  have c0 := HCA.out.cell 0; have c1 := HCA.out.cell 1; have c2 := HCA.out.cell 2; have c3 := HCA.out.cell 3; have c4 := HCA.out.cell 4; have c5 := HCA.out.cell 5; have c6 := HCA.out.cell 6; have c7 := HCA.out.cell 7
  simp at c0 c1 c2 c3 c4 c5 c6 c7
  by_cases hf : 0 ≤ fewT 0 2000 t
  · have hwt : weightT t ≤ 2000 := by have := fewT_weight t 0 2000 hf; omega
    rw [decide_eq_true hf]
    clear hf
    go_wp2_with fail
    refine (printV_any t _ _ w2 HTVA.out (by omega) (HTB.out.ext HE.out)).mono ?_
    rintro e w3 ⟨rfl, hx3⟩
    replace HCA := Lib.hid (HCA.out.ext hx3)
    replace HTVA := Lib.hid (HTVA.out.keep (A' := fun _ => True) hx3.size (fun g _ hlt => ⟨trivial, hx3.block g hlt⟩))
    replace HE := Lib.hid (ext_trans HE.out hx3)
    clear hx3
    clear c0 c1 c2 c3 c4 c5 c6 c7
    have c0 := HCA.out.cell 0; have c1 := HCA.out.cell 1; have c2 := HCA.out.cell 2; have c3 := HCA.out.cell 3; have c4 := HCA.out.cell 4; have c5 := HCA.out.cell 5; have c6 := HCA.out.cell 6; have c7 := HCA.out.cell 7
    simp at c0 c1 c2 c3 c4 c5 c6 c7
    by_cases hz : (printT t).2 = 0
    · obtain ⟨⟨m, hs⟩, h2, h3⟩ := printT_zero hz
      obtain ⟨hb1, hb2⟩ := back_law hz
      obtain ⟨l, hl⟩ : ∃ l, (printT t).1 = l := ⟨_, rfl⟩
      rw [hl] at hb1 h2
      have hpl : l.length ≤ 65536 := by rw [h2]; exact h3
      have hbl : (ByteArray.mk l.toArray).size ≤ 140737488355328 := by rw [sx_size]; omega
      have HPARSE := Lib.hid hb1
      have HPR : Hid (printT (sortedT t) = (l, 0)) := Lib.hid (by rw [hb2, ← hl, ← hz])
      have HSN := Lib.hid hs
      have HD := Lib.hid (SaneP.dist _ t (Nat.lt_succ_self _) (OkT.saneP hs))
      have HLE : Hid (∀ q : Int, (prettyT t q).2 = 0 → l.length ≤ (prettyT t q).1.length ∧ parseP (prettyT t q).1 = (sortedT t, 0, (prettyT t q).1.length) ∧ (prettyT t q).1.length ≤ 65536) := Lib.hid (fun q hq => by
        obtain ⟨_, _, _, e1, e2⟩ := prettyT_zero hq
        exact ⟨by rw [h2, e1]; exact Orange.outT_len q _ _ _, back_pretty hq, by rw [e1]; exact e2⟩)
      rw [hl, hz]
      clear hz hs h2 h3 hb1 hb2 hl
      obtain ⟨T, hT⟩ : ∃ T, sortedT t = T := ⟨_, rfl⟩
      rw [hT] at HPARSE HPR
      have hwT : weightT T ≤ 2000 := by rw [← hT, weightT_sorted]; exact hwt
      have HT := Lib.hid hT
      clear hT
      clear c0 c1 c2 c3 c4 c5 c6 c7
      go_wp2_with (first | (refine wpList_bytes_of_string w3 rfl 9 56 5 _ rfl ⟨(l).toArray⟩ rfl Tryz.underlying9 Tryz.underlying56 Tryz.underlying5 hbl ?_; intro cap2 wp2 hE2 hcap2 hcm2 hsz2 hat2) | fail)
      rw [sx_size] at hcap2
      refine (top_any _ (l) _ (Bytes.mk hat2 rfl hcap2 hcm2 (by rw [sx_size] at hbl; omega))).mono ?_
      intro e wp3 hend
      rw [HPARSE.out] at hend
      obtain ⟨cc, rfl, htvp, hwp3⟩ := hend
      simp only at htvp ⊢
      replace hE2 := ext_trans hE2 hwp3
      replace HCA := Lib.hid (HCA.out.ext hE2)
      replace HTVA := Lib.hid (HTVA.out.keep (A' := fun _ => True) hE2.size (fun g _ hlt => ⟨trivial, hE2.block g hlt⟩))
      skip
      replace HE := Lib.hid (ext_trans HE.out hE2)
      clear hat2 hwp3 hcap2 hcm2 hsz2
      obtain ⟨kB, bB, dB, sB, laB, lnB, lcB, maB, mnB, mcB, rfl⟩ := htvp.eight
      obtain ⟨wp4, ewp4⟩ : ∃ W, wp3.alloc (.cells (cellsV kB bB dB sB (.slice laB lnB lcB) (.slice maB mnB mcB)) 27) = W := ⟨_, rfl⟩
      have nwp4 : wp4.heap[wp3.heap.size]? = some (.cells (cellsV kB bB dB sB (.slice laB lnB lcB) (.slice maB mnB mcB)) 27) := by rw [← ewp4]; exact heap_alloc_new _ _
      have xwp4 : Ext wp3 wp4 := by rw [← ewp4]; exact (ext_refl _).alloc (Nat.le_refl _) _
      have swp4 : wp4.heap.size = wp3.heap.size + 1 := by rw [← ewp4]; simp
      have HCB : Hid (VAt wp4 wp3.heap.size (cellsV kB bB dB sB (.slice laB lnB lcB) (.slice maB mnB mcB))) := Lib.hid nwp4
      have HTVB := Lib.hid (htvp.keep (w' := wp4) (A' := fun _ => True) xwp4.size (fun g _ hlt => ⟨trivial, xwp4.block g hlt⟩))
      have EB := Lib.hid ewp4
      clear nwp4 ewp4
      clear htvp
      simp only [cellsV] at HCB HTVB EB xwp4 ⊢
      obtain ⟨SB, hSB⟩ : ∃ SB, wp3.heap.size = SB := ⟨_, rfl⟩
      rw [hSB] at HCB
      go_upto_region 8 with fail
      rw [EB.out]
      clear hSB EB swp4
      replace HE := Lib.hid (ext_trans HE.out xwp4)
      replace HCA := Lib.hid (HCA.out.ext xwp4)
      replace HTVA := Lib.hid (HTVA.out.keep (A' := fun _ => True) xwp4.size (fun g _ hlt => ⟨trivial, xwp4.block g hlt⟩))
      clear xwp4
      have d0 := HCB.out.cell 0; have d1 := HCB.out.cell 1; have d2 := HCB.out.cell 2; have d3 := HCB.out.cell 3; have d4 := HCB.out.cell 4; have d5 := HCB.out.cell 5; have d6 := HCB.out.cell 6; have d7 := HCB.out.cell 7
      simp at d0 d1 d2 d3 d4 d5 d6 d7
      go_wp2_with fail
      refine (printV_any T _ _ wp4 HTVB.out (by omega) (HTB.out.ext HE.out)).mono ?_
      rintro e w5 ⟨rfl, hx5⟩
      rw [HPR.out]
      replace HCA := Lib.hid (HCA.out.ext hx5)
      replace HTVA := Lib.hid (HTVA.out.keep (A' := fun _ => True) hx5.size (fun g _ hlt => ⟨trivial, hx5.block g hlt⟩))
      replace HCB := Lib.hid (HCB.out.ext hx5)
      replace HTVB := Lib.hid (HTVB.out.keep (A' := fun _ => True) hx5.size (fun g _ hlt => ⟨trivial, hx5.block g hlt⟩))
      replace HE := Lib.hid (ext_trans HE.out hx5)
      clear d0 d1 d2 d3 d4 d5 d6 d7
      clear hx5
      have HSRT : Hid (∀ w', Ext w5 w' → Calls Tryz.prog 32 _ w' (fun e w'' => ∃ c', e = .returned (.agg c') ∧ TV w'' (fun g => w'.heap.size ≤ g) T c' ∧ Ext w' w'')) := Lib.hid (fun w' hw => by
        have := sorted_any t _ _ w' (HTVA.out.keep (A' := fun _ => True) hw.size (fun g _ hlt => ⟨trivial, hw.block g hlt⟩)) (by omega) HD.out
        rw [HT.out] at this
        exact this)
      go_upto_region 9 with fail
      refine Grow.wp_region_litW (G := Ext) (B := fun w' => Ext w5 w') (anc := fun j => if j = 12 then [11] else []) (I := fun j => if j = 11 then some (specE T) else if j = 12 then some (Grow.Spec.val Ext (.bool true)) else none) (by kernel_rfl) (by kernel_rfl) (by kernel_rfl) ?_ ?_ ?_
      · exact fun w w' h hg => ext_trans h hg
      · exact (ext_refl _).drew
      repeat
        (refine Grow.Wk.step (fun K hK => ?_)
         first
         | (refine Grow.step_read (by rfl) (by rfl) (fun w => ext_refl w) ?_
            apply Exists.intro
            refine ⟨fun w hB hF => ?_, ?_⟩
            · replace hB : Ext _ w := hB; have c0 := (HCA.out.ext hB).cell 0; have c1 := (HCA.out.ext hB).cell 1; have c2 := (HCA.out.ext hB).cell 2; have c3 := (HCA.out.ext hB).cell 3; have c4 := (HCA.out.ext hB).cell 4; have c5 := (HCA.out.ext hB).cell 5; have c6 := (HCA.out.ext hB).cell 6; have c7 := (HCA.out.ext hB).cell 7; simp at c0 c1 c2 c3 c4 c5 c6 c7; have d0 := (HCB.out.ext hB).cell 0; have d1 := (HCB.out.ext hB).cell 1; have d2 := (HCB.out.ext hB).cell 2; have d3 := (HCB.out.ext hB).cell 3; have d4 := (HCB.out.ext hB).cell 4; have d5 := (HCB.out.ext hB).cell 5; have d6 := (HCB.out.ext hB).cell 6; have d7 := (HCB.out.ext hB).cell 7; simp at d0 d1 d2 d3 d4 d5 d6 d7
              go_simp
              try exact rfl
            go_simp
            refine hK _ _ ?_
            clear hK K)
         | (refine Grow.step_off (by rfl) ?_
            go_simp
            refine hK _ _ ?_
            clear hK K))
      refine Grow.Wk.step (fun K hK => ?_)
      refine Grow.step_rel (by rfl) (by rfl) (fun w' hB hF => ?_) (fun v hv => ?_)
      · go_simp
        refine Grow.relUpon_enter ((HSRT.out w' hB).mono ?_)
        rintro e w'' ⟨c', rfl, htv, hw''⟩
        obtain ⟨rk, rb, rd, rs, ra1, rn1, rc1, ra2, rn2, rc2, rfl⟩ := htv.eight
        exact ⟨_, rfl, hw'', ⟨_, _, _, _, _, _, _, _, _, _, rfl⟩, _, rfl, htv.keep (Nat.le_refl _) (fun g _ _ => ⟨trivial, rfl⟩)⟩
      obtain ⟨rk, rb, rd, rs, ra1, rn1, rc1, ra2, rn2, rc2, rfl⟩ := hv
      go_simp
      refine hK _ _ ?_
      clear hK K
      refine Grow.Wk.step (fun K hK => ?_)
      refine Grow.step_rel (by rfl) (by rfl) (fun w' hB hF => ?_) (fun v hv => ?_)
      · obtain ⟨c', ec, htv⟩ : ∃ c', Value.agg (cellsV rk rb rd rs (.slice ra1 rn1 rc1) (.slice ra2 rn2 rc2)) = .agg c' ∧ TV w' (fun _ => True) T c' := hF 11 (by simp)
        simp only [Value.agg.injEq] at ec
        subst ec
        have HTX := Lib.hid htv
        have HTW := Lib.hid (HTVB.out.keep (A' := fun _ => True) (show Ext w5 w' from hB).size (fun g _ hlt => ⟨trivial, (show Ext w5 w' from hB).block g hlt⟩))
        clear htv hF
        simp only [cellsV] at HTX
        go_simp
        refine Grow.relUpon_enter ((exact_any T T _ _ _ _ w' HTW.out HTX.out).mono ?_)
        rintro e w'' ⟨rfl, hw''⟩
        exact ⟨_, rfl, hw'', by rw [exactT_refl]; rfl, trivial⟩
      obtain rfl : v = .bool true := hv
      go_simp
      refine hK _ _ ?_
      clear hK K
      repeat
        (refine Grow.Wk.step (fun K hK => ?_)
         first
         | (refine Grow.step_read (by rfl) (by rfl) (fun w => ext_refl w) ?_
            apply Exists.intro
            refine ⟨fun w hB hF => ?_, ?_⟩
            · skip
              go_simp
              try exact rfl
            go_simp
            refine hK _ _ ?_
            clear hK K)
         | (refine Grow.step_off (by rfl) ?_
            go_simp
            refine hK _ _ ?_
            clear hK K))
      refine Grow.Wk.nil ?_
      intro w6 hB hF
      have hx6 : Ext w5 w6 := hB
      clear hB hF HSRT
      have HTT := HT
      replace HCA := Lib.hid (HCA.out.ext hx6)
      replace HTVA := Lib.hid (HTVA.out.keep (A' := fun _ => True) hx6.size (fun g _ hlt => ⟨trivial, hx6.block g hlt⟩))
      replace HCB := Lib.hid (HCB.out.ext hx6)
      replace HTVB := Lib.hid (HTVB.out.keep (A' := fun _ => True) hx6.size (fun g _ hlt => ⟨trivial, hx6.block g hlt⟩))
      replace HE := Lib.hid (ext_trans HE.out hx6)
      clear hx6
      have c0 := HCA.out.cell 0; have c1 := HCA.out.cell 1; have c2 := HCA.out.cell 2; have c3 := HCA.out.cell 3; have c4 := HCA.out.cell 4; have c5 := HCA.out.cell 5; have c6 := HCA.out.cell 6; have c7 := HCA.out.cell 7
      simp at c0 c1 c2 c3 c4 c5 c6 c7
      go_wp2_with fail
      refine (pretty_any t _ _ (p : Int) w6 HTVA.out (by omega) (HTB.out.ext HE.out)).mono ?_
      rintro e w7 ⟨rfl, hx7⟩
      replace HCA := Lib.hid (HCA.out.ext hx7)
      replace HTVA := Lib.hid (HTVA.out.keep (A' := fun _ => True) hx7.size (fun g _ hlt => ⟨trivial, hx7.block g hlt⟩))
      replace HCB := Lib.hid (HCB.out.ext hx7)
      replace HTVB := Lib.hid (HTVB.out.keep (A' := fun _ => True) hx7.size (fun g _ hlt => ⟨trivial, hx7.block g hlt⟩))
      replace HE := Lib.hid (ext_trans HE.out hx7)
      clear hx7
      clear c0 c1 c2 c3 c4 c5 c6 c7
      by_cases hpr : (prettyT t p).2 = 0
      · obtain ⟨g1, g2, g3⟩ := HLE.out _ hpr
        obtain ⟨l2, hl2⟩ : ∃ l2, (prettyT t p).1 = l2 := ⟨_, rfl⟩
        rw [hl2, hpr]
        rw [hl2] at g1 g2 g3
        have hbl2 : (ByteArray.mk l2.toArray).size ≤ 140737488355328 := by rw [sx_size]; omega
        have hTT : sortedT t = T := HTT.out
        rw [hTT] at g2
        clear hbl HPARSE
        have hbl := hbl2
        have HPARSE := Lib.hid g2
        have hge : (l.length : Int) ≤ l2.length := by omega
        clear hl2 hpr g2 hbl2 hTT HLE
        go_wp2_with (first | (refine wpList_bytes_of_string w7 rfl 9 56 5 _ rfl ⟨(l2).toArray⟩ rfl Tryz.underlying9 Tryz.underlying56 Tryz.underlying5 hbl ?_; intro cap2 wp2 hE2 hcap2 hcm2 hsz2 hat2) | fail)
        rw [sx_size] at hcap2
        refine (top_any _ (l2) _ (Bytes.mk hat2 rfl hcap2 hcm2 (by rw [sx_size] at hbl; omega))).mono ?_
        intro e wp3 hend
        rw [HPARSE.out] at hend
        obtain ⟨cc, rfl, htvp, hwp3⟩ := hend
        simp only at htvp ⊢
        replace hE2 := ext_trans hE2 hwp3
        replace HCA := Lib.hid (HCA.out.ext hE2)
        replace HTVA := Lib.hid (HTVA.out.keep (A' := fun _ => True) hE2.size (fun g _ hlt => ⟨trivial, hE2.block g hlt⟩))
        (replace HCB := Lib.hid (HCB.out.ext hE2); replace HTVB := Lib.hid (HTVB.out.keep (A' := fun _ => True) hE2.size (fun g _ hlt => ⟨trivial, hE2.block g hlt⟩)))
        replace HE := Lib.hid (ext_trans HE.out hE2)
        clear hat2 hwp3 hcap2 hcm2 hsz2
        obtain ⟨kX, bX, dX, sX, laX, lnX, lcX, maX, mnX, mcX, rfl⟩ := htvp.eight
        obtain ⟨wp4, ewp4⟩ : ∃ W, wp3.alloc (.cells (cellsV kX bX dX sX (.slice laX lnX lcX) (.slice maX mnX mcX)) 27) = W := ⟨_, rfl⟩
        have nwp4 : wp4.heap[wp3.heap.size]? = some (.cells (cellsV kX bX dX sX (.slice laX lnX lcX) (.slice maX mnX mcX)) 27) := by rw [← ewp4]; exact heap_alloc_new _ _
        have xwp4 : Ext wp3 wp4 := by rw [← ewp4]; exact (ext_refl _).alloc (Nat.le_refl _) _
        have swp4 : wp4.heap.size = wp3.heap.size + 1 := by rw [← ewp4]; simp
        have HCX : Hid (VAt wp4 wp3.heap.size (cellsV kX bX dX sX (.slice laX lnX lcX) (.slice maX mnX mcX))) := Lib.hid nwp4
        have HTVX := Lib.hid (htvp.keep (w' := wp4) (A' := fun _ => True) xwp4.size (fun g _ hlt => ⟨trivial, xwp4.block g hlt⟩))
        have EX := Lib.hid ewp4
        clear nwp4 ewp4
        clear htvp
        simp only [cellsV] at HCX HTVX EX xwp4 ⊢
        obtain ⟨SX, hSX⟩ : ∃ SX, wp3.heap.size = SX := ⟨_, rfl⟩
        rw [hSX] at HCX
        go_upto_region 15 with fail
        rw [EX.out]
        clear hSX EX swp4
        replace HE := Lib.hid (ext_trans HE.out xwp4)
        replace HCB := Lib.hid (HCB.out.ext xwp4)
        replace HTVB := Lib.hid (HTVB.out.keep (A' := fun _ => True) xwp4.size (fun g _ hlt => ⟨trivial, xwp4.block g hlt⟩))
        clear xwp4
        have d0 := HCB.out.cell 0; have d1 := HCB.out.cell 1; have d2 := HCB.out.cell 2; have d3 := HCB.out.cell 3; have d4 := HCB.out.cell 4; have d5 := HCB.out.cell 5; have d6 := HCB.out.cell 6; have d7 := HCB.out.cell 7
        simp at d0 d1 d2 d3 d4 d5 d6 d7
        have x0 := HCX.out.cell 0; have x1 := HCX.out.cell 1; have x2 := HCX.out.cell 2; have x3 := HCX.out.cell 3; have x4 := HCX.out.cell 4; have x5 := HCX.out.cell 5; have x6 := HCX.out.cell 6; have x7 := HCX.out.cell 7
        simp at x0 x1 x2 x3 x4 x5 x6 x7
        go_wp2_with fail
        refine (exact_any T T _ _ _ _ wp4 HTVX.out HTVB.out).mono ?_
        rintro e w8 ⟨rfl, hx8⟩
        rw [exactT_refl]
        have HE8 := Lib.hid (ext_trans HE.out hx8)
        clear hx8
        go_wp2_with fail
        go_ret
        exact ⟨rfl, HE8.out⟩
      · have h4 := prettyT_err HSN.out (by omega) (by omega) hpr
        rw [h4]
        clear hpr h4
        go_wp2_with fail
        go_ret
        exact ⟨rfl, HE.out⟩
    · obtain ⟨e1, e2⟩ := printT_err hz
      obtain ⟨er, her⟩ : ∃ er, (printT t).2 = er := ⟨_, rfl⟩
      have e3 : (printT t).1 = [] := by rw [e1]
      rw [e3, her]
      rw [her] at e2 hz
      have hne : (er != 0) = true := by simpa using hz
      clear e1 e3 her
      go_wp2_with fail
      refine (Sane_any t _ _ w3 (by omega) HTVA.out).mono ?_
      rintro e w4 ⟨rfl, hx4⟩
      have HE4 := Lib.hid (ext_trans HE.out hx4)
      clear hx4
      rcases e2 with ⟨g1, g2⟩ | ⟨g1, g2⟩
      · rw [← g1]
        clear g1 g2
        go_wp2_with fail
        go_ret
        exact ⟨rfl, HE4.out⟩
      · rw [g2]
        subst g1
        go_wp2_with fail
        go_ret
        exact ⟨rfl, HE4.out⟩
  · rw [decide_eq_false hf]
    go_wp2_with fail
    go_ret
    exact ⟨rfl, HE.out⟩
set_option linter.unusedSimpArgs false
theorem own : ownKnob Tryz.prog.godebug = none := by kernel_rfl
theorem laid : laidOutB Tryz.prog = true := by kernel_rfl
set_option maxHeartbeats 1600000 in
set_option maxRecDepth 100000 in
theorem lifted (os : Os) (started : os.Started) (H : Type) (enc : TypeId × Value → H) :
    ReturnsInHanded {} Tryz.checked os 9 .any (fun w args => (Rows.printBackSpec.pre enc Tryz.prog Tryz.f9 [] false w args ∧ laidMetH Tryz.prog Rows.printBackRow.laid w) ∧ sizedMet enc Tryz.prog Tryz.f9 (OpenSpec.ofChange Rows.printBackSpec) false w args) (Rows.printBackSpec.post enc Tryz.prog Tryz.f9 false true false false) := by
  refine returnsInHanded_of_change_and (C := Tryz.checked) (X := fun w _ => laidMetH Tryz.prog Rows.printBackRow.laid w) (fun _ _ _ hh h => h.of_heap hh) own started (by kernel_rfl) Tryz.func9
    (ChangeSpec.witness_shaped (enc := enc) (C := Tryz.checked) (os := os) (X := fun w _ => laidMetH Tryz.prog Rows.printBackRow.laid w) false (World.laidAll Tryz.prog os Rows.printBackRow.laid) #[.agg #[.int .i64 0, .bool false, .bool false, .string ⟨#[]⟩, .int .i64 0, .string ⟨#[]⟩, .slice none 0 0, .slice none 0 0], .int .i64 0] 8 (World.laidAll_os _ _ _)
      (World.shaped_of_ZipB (by kernel_rfl) (by kernel_rfl)) (by kernel_rfl) (by kernel_rfl) (by kernel_rfl)
      (by rw [MakeChecks.laidMetH_plain _ _ _ (by kernel_rfl)]; exact laidMet_laidAll _ (by kernel_rfl) (by kernel_rfl))) ?_
  intro W base args ds gs before hval0 hW _ hsz0 hX _
  have hT : Tab W := tab_of hX
  have hsz : (DataW.weightsEach Tryz.prog (Tryz.f9.params.toList ++ Rows.printBackSpec.plain.varTypes Tryz.prog) (ds ++ gs)).all (· ≤ reachBytes) = true := hsz0
  clear hsz0
  have hval : ∀ (j : Nat) t v, Tryz.f9.params[j]? = some t → args[j]? = some v → Value.okWide Tryz.prog W .any base t v := hval0
  have hW' := hW
  obtain ⟨p, q, hA0, hV, rfl, _, _⟩ := hW
  have hA : DataW.TrodAll enc Tryz.prog W 0 (fun _ => true) true Tryz.f9.params.toList args.toList ds p := hA0
  rw [Tryz.params9] at hA hval hsz
  obtain ⟨v0, vs0, d0, ds0, p0, q0, ha0, rfl, rfl, h0, r0⟩ := trodAll_cons hA
  obtain ⟨v1, vs1, d1, ds1, p1, q1, ha1, rfl, rfl, h1, r1⟩ := trodAll_cons r0
  obtain ⟨hb2, rfl, rfl⟩ := trodAll_nil r1
  subst hb2
  subst ha1
  obtain rfl : args = #[v0, v1] := by cases args; simpa using ha0
  obtain ⟨rfl, rfl⟩ := trodVars_none hV
  have hk0 := h0
  obtain ⟨cs0, rfl, _⟩ := okWide_struct Tryz.underlying27 (hval 0 27 v0 rfl rfl)
  obtain ⟨fu0, hf0⟩ := h0
  obtain ⟨t0, ht0, hok0⟩ := trod_val (enc := enc) W fu0 _ d0 p0 hf0 (fun n hn => by simpa using List.all_eq_true.1 hsz _ (DataW.weights_mem_each (j := 0) rfl rfl n hn))
  have hk1 := h1
  obtain ⟨a1, rfl, rfl, rfl, wf1⟩ := open_int Tryz.underlying3 (hval 1 3 v1 rfl rfl) h1
  have hr1 : -9223372036854775808 ≤ a1 ∧ a1 ≤ 9223372036854775807 := by simpa [Lit.wf, IntKind.min, IntKind.max, IntKind.signed, IntKind.bits] using wf1
  have hlt := fun x hx => hW'.lt x hx
  simp only [List.append_nil, List.nil_append] at hW' hlt
  refine (walk t0 _ a1 hr1.1 hr1.2 W hT ht0 hok0).mono fun e W' ⟨he, hb⟩ => ?_
  subst he
  have hargs := (trodAll_cons_mk (Below.trod laid readV (of_decide_eq_true (by kernel_rfl)) hk0 hb (fun x hx => by first | exact hlt x hx | exact absurd hx (List.not_mem_nil) | exact hlt x (by simp [hx]))) (trodAll_cons_mk (Below.trod laid (by kernel_rfl) (of_decide_eq_true (by kernel_rfl)) hk1 hb (fun x hx => by first | exact hlt x hx | exact absurd hx (List.not_mem_nil) | exact hlt x (by simp [hx]))) trodAll_mk0))
  exact ⟨_, rfl, _, _, _, [], _, [], hW', trodAll_cons_mk (shut_bool Tryz.underlying4 _) trodAll_mk0, hargs, rfl, hb.frame _, fun h => by cases h⟩

theorem closed : joinedFacts Tryz.prog 9 Tryz.f9 Rows.printBackSpec Rows.printBackRow = true := by
  have hp : Tryz.f9.params.toList ++ Rows.printBackSpec.plain.varTypes Tryz.prog = [27, 3] := by kernel_rfl
  have hr : Tryz.f9.resultTypes.toList = [4] := by kernel_rfl
  have hq : Tryz.f9.params = #[27, 3] := by kernel_rfl
  refine joined_of (by kernel_rfl) ?_ (by kernel_rfl) ?_ ?_ (by kernel_rfl) ?_ ?_ (by kernel_rfl) ?_ (veiledFits_of rfl ?_ (by kernel_rfl))
  · rw [hq]; simp [readV, show Tryz.prog.readableRec 3 = true by kernel_rfl]
  · rw [hp]; simp only [List.any_cons, List.any_nil, mapsV, show Tryz.prog.mapsRec 3 = false by kernel_rfl]; rfl
  · rw [hp]; simp only [List.any_cons, List.any_nil, ifacesV, show Tryz.prog.ifacesRec 3 = false by kernel_rfl]; rfl
  · rw [hp]; simp only [List.any_cons, List.any_nil, loopsV, show Tryz.prog.loopsFrom 3 = false by kernel_rfl]; rfl
  · rw [hp, hr]; simp only [List.cons_append, List.nil_append, List.any_cons, List.any_nil, wideV, show Tryz.prog.wideKeysFrom 3 = false by kernel_rfl, show Tryz.prog.wideKeysFrom 4 = false by kernel_rfl]; rfl
  · rw [hp, hr]; simp only [List.cons_append, List.nil_append, List.any_cons, List.any_nil, veiledV, show Tryz.prog.veiledRec 3 = false by kernel_rfl, show Tryz.prog.veiledRec 4 = false by kernel_rfl]; rfl
  · rw [hp, hr]; simp only [List.cons_append, List.nil_append, List.all_cons, List.all_nil, ownV, show Tryz.prog.veiledOwn 3 = true by kernel_rfl, show Tryz.prog.veiledOwn 4 = true by kernel_rfl]; rfl
theorem held : Rows.PrintBackSaid :=
  OpenClaim.holds_of_wide 9 Tryz.f9 rfl rfl rfl rfl rfl rfl rfl ⟨rfl, rfl, rfl, rfl, rfl⟩ rfl rfl rfl rfl rfl (by kernel_rfl) Tryz.func9 closed
    (of_decide_eq_true (by kernel_rfl)) (by unfold Func.isWrapper; first | (rw [if_pos (by decide +kernel)]; kernel_rfl) | (rw [if_neg (by decide +kernel)]; exact ⟨rfl, rfl⟩))
    (fun os started H enc _ => lifted os started H enc)

theorem proved : Rows.PrintBackCardSaid :=
  Claim7.holds_tied_plain_at .later [] Rows.printBackCard.laidKinds true Rows.printBackCard.stood.harness Rows.printBackCard.stood.looks held (fun _ h => by cases h) (by kernel_rfl) (fun _ h => by cases h) printBack_row_tie rfl ⟨rfl, rfl⟩ (by kernel_rfl) rfl
    (fun f fn hf hfn => by
      obtain rfl : f = 9 := Option.some.inj ((show Tryz.prog.funcNamed "orangery/orangerylaw05.PrintBack" = some 9 by kernel_rfl).symm.trans hf) |>.symm
      obtain rfl : fn = Tryz.f9 := (Option.some.inj (Tryz.func9.symm.trans hfn)).symm
      exact ⟨by kernel_rfl, fun j t ht => by
        rw [Tryz.params9] at ht
        have hm : t ∈ [27, 3] := by simpa using Array.mem_of_getElem? ht
        have hall : ([27, 3].all fun u => !Tryz.prog.wantsStandIn u) = true := by kernel_rfl
        exact (show Tryz.prog.wantsStandIn t = false by simpa using List.all_eq_true.1 hall t hm)⟩)
    (by kernel_rfl)
end Go.Proofs.YtjapbjmeoaagmaaGreatDoor.printBack
