/- Several texts of this proof in one. -/
import Derived.Test.YtjapbjmeoaagmaaGreatDoorQValueSD2
import Derived.Test.YtjapbjmeoaagmaaGreatDoorQValueSD1
import Derived.Lib.Hide
import Derived.Test.YtjapbjmeoaagmaaGreatDoorEValueSDWUtfC
import Derived.Test.YtjapbjmeoaagmaaGreatDoorEValueSDConv
import Derived.Deep.DeepCutAuto
import Derived.Test.YtjapbjmeoaagmaaGreatDoorEValueSDPaA
import Derived.Test.YtjapbjmeoaagmaaGreatDoorEValueSDSh
import Derived.Test.YtjapbjmeoaagmaaGreatDoorEValueSDSi
set_option linter.unusedVariables false
set_option linter.unusedSimpArgs false
set_option maxRecDepth 100000
section
set_option maxRecDepth 100000
namespace Orange
def awkS : List PStep := [⟨[97], 0, true⟩, ⟨[], 2, false⟩]
def awkT : Tree := tObj [([97], tBool true)]
def awkN (_ : PStep) : List UInt8 := [97]
theorem awk_put : putT (tObj []) [⟨[97], 0, true⟩] (tBool true) = (awkT, 0) := by kernel_rfl
theorem awk_at : atT awkT [⟨[97], 0, true⟩] = some (tBool true) := by kernel_rfl
theorem awk_place : placeTx awkN awkS = [36, 91, 39, 97, 39, 93, 91, 50, 93] := by decide +kernel
theorem awk_count : countT awkT = 2 := by decide +kernel
theorem awk_dist : distT awkT := by simp [awkT, tObj, tBool, distT, distL, distM]
theorem awk_same : sameT awkT awkT = true := by decide +kernel
end Orange
namespace Go.Proofs.YtjapbjmeoaagmaaGreatDoor
open Go.RowKit Go.Mem Orange
theorem set8_below {B q : Nat} {a w : World} (h : Below B a w) (hq : B ≤ q) (x0 x1 x2 x3 x4 x5 x6 x7 : Value) : Below B a ((((((((w.setCell ⟨q, 0, none⟩ x0).setCell ⟨q, 1, none⟩ x1).setCell ⟨q, 2, none⟩ x2).setCell ⟨q, 3, none⟩ x3).setCell ⟨q, 4, none⟩ x4).setCell ⟨q, 5, none⟩ x5).setCell ⟨q, 6, none⟩ x6).setCell ⟨q, 7, none⟩ x7) :=
 Below.setCell (p := ⟨q, 7, none⟩) (Below.setCell (p := ⟨q, 6, none⟩) (Below.setCell (p := ⟨q, 5, none⟩) (Below.setCell (p := ⟨q, 4, none⟩) (Below.setCell (p := ⟨q, 3, none⟩) (Below.setCell (p := ⟨q, 2, none⟩) (Below.setCell (p := ⟨q, 1, none⟩) (Below.setCell (p := ⟨q, 0, none⟩) h hq _) hq _) hq _) hq _) hq _) hq _) hq _) hq _
theorem tv_b {w : World} {A : Nat → Prop} {c : Array Value} (h : TV w A (tBool true) c) : c[1]? = some (.bool true) := by cases h; rfl
theorem awk_sane : (saneT 0 0 (.mk 9 false Num.zero [] [] [])).1 = 1 := by kernel_rfl
set_option maxHeartbeats 6400000 in
theorem vawake (w : World) (hT : Tab w) : Calls Tryz.prog 14 #[] w fun e w' => e = .returned (.bool true) ∧ Ext w w' := by
 have HTB := Hd hT; clear hT; obtain ⟨S, hS⟩ := Ex w.heap.size; have hcell := fun j => (Blk.new hS #[.string ⟨#[97]⟩, .int .i64 0, .bool true, .string ⟨#[]⟩, .int .i64 2, .bool false] 46).cell j; have hx1 : Ext w (w.alloc (.cells #[.string ⟨#[97]⟩, .int .i64 0, .bool true, .string ⟨#[]⟩, .int .i64 2, .bool false] 46)) := (ext_refl w).alloc (Nat.le_refl _) _
 have hs1 : (w.alloc (.cells #[.string ⟨#[97]⟩, .int .i64 0, .bool true, .string ⟨#[]⟩, .int .i64 2, .bool false] 46)).heap.size = S + 1 := by simp [hS]
 have HP2 : Hid (PlAt (w.alloc (.cells #[.string ⟨#[97]⟩, .int .i64 0, .bool true, .string ⟨#[]⟩, .int .i64 2, .bool false] 46)) (fun _ => True) (.slice (some ⟨S, 0, none⟩) 2 2) awkS) := Hd ⟨⟨rfl, _, _, rfl, Nat.le_refl _, by omega, fun _ => ⟨S, 0, rfl, trivial, by omega, fun i hi => by
  have hi' : i = 0 ∨ i = 1 ∨ i = 2 ∨ i = 3 ∨ i = 4 ∨ i = 5 := by
   have : i < 6 := hi; omega
  rcases hi' with rfl | rfl | rfl | rfl | rfl | rfl <;> exact hcell _⟩⟩, by intro s hs; simp only [awkS, List.mem_cons, List.not_mem_nil, or_false] at hs; rcases hs with rfl | rfl <;> exact ⟨by decide, by decide⟩⟩
 have HP1 : Hid (PlAt (w.alloc (.cells #[.string ⟨#[97]⟩, .int .i64 0, .bool true, .string ⟨#[]⟩, .int .i64 2, .bool false] 46)) (fun _ => True) (.slice (some ⟨S, 0, none⟩) 1 2) [⟨[97], 0, true⟩]) := Hd ⟨⟨rfl, _, _, rfl, by decide, by omega, fun _ => ⟨S, 0, rfl, trivial, by omega, fun i hi => by
  have hi' : i = 0 ∨ i = 1 ∨ i = 2 := by
   have : i < 3 := hi; omega
  rcases hi' with rfl | rfl | rfl <;> exact hcell _⟩⟩, by intro s hs; simp only [List.mem_cons, List.not_mem_nil, or_false] at hs; subst hs; exact ⟨by decide, by decide⟩⟩
 clear hcell; have HX1 := Hd hx1; clear hx1; go_enter Tryz.func14, Tryz.ntmps14
 go_upto_region 2 with fail; generalize w.alloc (.cells #[.string ⟨#[97]⟩, .int .i64 0, .bool true, .string ⟨#[]⟩, .int .i64 2, .bool false] 46) = w1 at *; have HS := Hd hS; clear hS; go_wp2_with fail; refine (vput_any (tObj []) (tBool true) _ _ (fun _ => True) _ [⟨[97], 0, true⟩] w1 (TV.leaf _ _ _ _ _ _) HP1.out (TV.leaf _ _ _ _ _ _) (by decide +kernel)).mono ?_; rintro e w2 ⟨c', rfl, htv, hx2⟩
 rw [awk_put] at htv ⊢; simp only at htv ⊢; have htv2 := htv.keep (A' := fun _ => True) (Nat.le_refl _) (fun g _ hlt => ⟨trivial, rfl⟩); have HX2 := Hd (ext_trans HX1.out hx2); have HP12 := Hd (HP1.out.keep (A' := fun _ => True) hx2.size (fun g _ hlt => ⟨trivial, hx2.block g hlt⟩)); have HP22 := Hd (HP2.out.keep (A' := fun _ => True) hx2.size (fun g _ hlt => ⟨trivial, hx2.block g hlt⟩))
 have hs2 := hx2.size; clear htv hx2 HP1 HP2 HX1; obtain ⟨k, b, d, ss, la, ln, lc, ma, mn, mc, rfl⟩ := htv2.eight; obtain ⟨Q, hQ⟩ := Ex w2.heap.size; have hv1 := VAt.new w2 (cellsV k b d ss (.slice la ln lc) (.slice ma mn mc)); have hx3 : Ext w2 (w2.alloc (.cells (cellsV k b d ss (.slice la ln lc) (.slice ma mn mc)) 27)) := (ext_refl _).alloc (Nat.le_refl _) _
 have hs3 : (w2.alloc (.cells (cellsV k b d ss (.slice la ln lc) (.slice ma mn mc)) 27)).heap.size = Q + 1 := by simp [hQ]
 rw [hQ] at hv1; simp only [cellsV] at hv1 hx3 hs3 ⊢; go_upto_region 3 with fail; have HV := Hd hv1; have HX3 := Hd (ext_trans HX2.out hx3); have HTV := Hd (htv2.keep (A' := fun _ => True) hx3.size (fun g _ hlt => ⟨trivial, hx3.block g hlt⟩)); have HP13 := Hd (HP12.out.keep (A' := fun _ => True) hx3.size (fun g _ hlt => ⟨trivial, hx3.block g hlt⟩))
 have HP23 := Hd (HP22.out.keep (A' := fun _ => True) hx3.size (fun g _ hlt => ⟨trivial, hx3.block g hlt⟩)); clear hv1 hx3 htv2 HP12 HP22 HX2 hQ hs2 hs1; generalize w2.alloc (.cells #[.int .i64 k, .bool b, .bool d.neg, .string ⟨d.digits.toArray⟩, .int .i64 d.exp, .string ⟨ss.toArray⟩, .slice la ln lc, .slice ma mn mc] 27) = w3 at *
 have HC : Hid (∀ w', Ext w3 w' → Calls Tryz.prog 19 #[.agg (cellsV k b d ss (.slice la ln lc) (.slice ma mn mc)), .slice (some ⟨S, 0, none⟩) 1 2] w' (fun e w'' => ∃ (k' : Int) (d' : Num) (s' : List UInt8) (a1 : Option Addr) (n1 m1 : Nat) (a2 : Option Addr) (n2 m2 : Nat), e = .returned (.tuple #[.agg (cellsV k' true d' s' (.slice a1 n1 m1) (.slice a2 n2 m2)), .bool true]) ∧ Ext w' w'')) := Hd (fun w' hw => by
  have h := at_any awkT _ (fun _ => True) _ [⟨[97], 0, true⟩] w' (HTV.out.keep (A' := fun _ => True) hw.size (fun g _ hlt => ⟨trivial, hw.block g hlt⟩)) (HP13.out.keep (A' := fun _ => True) hw.size (fun g _ hlt => ⟨trivial, hw.block g hlt⟩)); rw [awk_at] at h; refine h.mono ?_; rintro e w'' ⟨c', rfl, ht, hx⟩; obtain ⟨k', b', d', s', a1, n1, m1, a2, n2, m2, rfl⟩ := ht.eight; have hb := tv_b ht
  simp at hb; subst hb; exact ⟨k', d', s', a1, n1, m1, a2, n2, m2, rfl, hx⟩)
 simp only [cellsV] at HC; go_cut [4, 5] (fun p4 v5 wx => ∃ Q2 : Nat, p4 = .pointer (some ⟨Q2, 0, none⟩) ∧ v5 = .bool true ∧ Ext w3 wx ∧ wx.cell? ⟨Q2, 1, none⟩ = some (.bool true))
 case first =>
  have hcw := HV.out; have c0 := hcw.cell 0; have c1 := hcw.cell 1; have c2 := hcw.cell 2; have c3 := hcw.cell 3; have c4 := hcw.cell 4; have c5 := hcw.cell 5; have c6 := hcw.cell 6; have c7 := hcw.cell 7; simp at c0 c1 c2 c3 c4 c5 c6 c7; have hql := hcw.lt; clear hcw; have hN : VAt ((w3.alloc (.cells zeroV 27)).drew) (Q + 1) zeroV := by
   have h := (VAt.new w3 zeroV).ext (ext_refl _).drew; rw [hs3] at h; exact h
  have HN := Hd hN; clear hN
  go_region_with (go_at_call 19; go_loud (refine (HC.out _ (by first | exact (ext_refl _).drew | exact ((ext_refl _).drew.alloc (by simp) _) | exact ((ext_refl _).alloc (Nat.le_refl _) _).drew)).mono ?_; rintro e w' ⟨k', d', s', a1, n1, m1, a2, n2, m2, rfl, hx⟩; try (have hz := VAt.ext HN.out hx; simp only [zeroV, noL, Num.zero] at hz; obtain ⟨z0, z1, z2, z3, z4, z5, z6, z7⟩ := hz.c8; have y := hz.free)))
  all_goals go_wp2_with fail
  all_goals go_meet
  all_goals first
   | exact ⟨_, rfl, rfl, (ext_trans (ext_refl w3).drew hx).alloc (by have := hx.size; simp at this; omega) _, by simp⟩
   | exact ⟨_, rfl, rfl, set8_below (ext_trans ((ext_refl w3).alloc (Nat.le_refl _) _).drew hx) (by omega) _ _ _ _ _ _ _ _, (VAt.store8 hz _ _ _ _ _ _ _ _).cell 1⟩
 case rest =>
  obtain ⟨Q2, rfl, rfl, hx4, hB⟩ := hcut; have HX4 := Hd (ext_trans HX3.out hx4); have HV4 := Hd (HV.out.ext hx4); have HTV4 := Hd (HTV.out.keep (A' := fun _ => True) hx4.size (fun g _ hlt => ⟨trivial, hx4.block g hlt⟩)); have HP4 := Hd (HP23.out.keep (A' := fun _ => True) hx4.size (fun g _ hlt => ⟨trivial, hx4.block g hlt⟩)); have HB := Hd hB
  have hq2 : Q2 < wc.heap.size := World.block_lt_of_cell? _ _ hB; clear hx4 hB HV HTV HP13 HP23 HC HX3 hs3; go_wp2_with fail; have hpl := place_gen awkN (fun _ => True) _ awkS wc (HTB.out.ext HX4.out) HP4.out (by decide) (by decide) (fun s hs hn w' hw => by
   simp only [awkS, List.mem_cons, List.not_mem_nil, or_false] at hs; rcases hs with rfl | rfl
   · exact name_a w'
   · cases hn)
  rw [awk_place] at hpl; refine hpl.mono ?_; rintro e w5 ⟨rfl, hx5⟩; clear hpl; have HX5 := Hd (ext_trans HX4.out hx5); have HV5 := Hd (HV4.out.ext hx5); have HTV5 := Hd (HTV4.out.keep (A' := fun _ => True) hx5.size (fun g _ hlt => ⟨trivial, hx5.block g hlt⟩))
  have hb5 : w5.cell? ⟨Q2, 1, none⟩ = some (.bool true) := by rw [World.cell?_of_block (w := wc) (a := ⟨Q2, 1, none⟩) (hx5.block Q2 hq2)]; exact HB.out
  have hcw := HV5.out; have c0 := hcw.cell 0; have c1 := hcw.cell 1; have c2 := hcw.cell 2; have c3 := hcw.cell 3; have c4 := hcw.cell 4; have c5 := hcw.cell 5; have c6 := hcw.cell 6; have c7 := hcw.cell 7; simp at c0 c1 c2 c3 c4 c5 c6 c7; clear hx5 HV4 HTV4 HP4 HB HX4 hcw; go_wp2_with fail; refine (count_any awkT _ _ w5 (by decide +kernel) HTV5.out).mono ?_; rintro e w6 ⟨rfl, hx6⟩; rw [awk_count]
  have HX6 := Hd (ext_trans HX5.out hx6); have HV6 := Hd (HV5.out.ext hx6); have HTV6 := Hd (HTV5.out.keep (A' := fun _ => True) hx6.size (fun g _ hlt => ⟨trivial, hx6.block g hlt⟩)); clear c0 c1 c2 c3 c4 c5 c6 c7; have hcw := HV6.out; have c0 := hcw.cell 0; have c1 := hcw.cell 1; have c2 := hcw.cell 2; have c3 := hcw.cell 3; have c4 := hcw.cell 4; have c5 := hcw.cell 5; have c6 := hcw.cell 6
  have c7 := hcw.cell 7; simp at c0 c1 c2 c3 c4 c5 c6 c7; clear hx6 HV5 HTV5 HX5 hcw hb5; go_wp2_with fail; refine (same_any awkT awkT _ _ _ _ w6 (by decide +kernel) (by decide +kernel) awk_dist awk_dist HTV6.out HTV6.out).mono ?_; rintro e w7 ⟨rfl, hx7⟩; rw [awk_same]; have HX7 := Hd (ext_trans HX6.out hx7); clear hx7 HV6 HTV6 HX6 c0 c1 c2 c3 c4 c5 c6 c7; go_wp2_with fail
  refine (Sane_any (.mk 9 false Num.zero [] [] []) _ (fun _ => True) w7 (by decide +kernel) (TV.leaf _ _ _ _ _ _)).mono ?_; rintro e w8 ⟨rfl, hx8⟩; rw [awk_sane]; have HX8 := Hd (ext_trans HX7.out hx8); clear hx8 HX7; go_wp2_with fail; go_ret; exact ⟨rfl, HX8.out⟩
end Go.Proofs.YtjapbjmeoaagmaaGreatDoor
end

section
set_option maxRecDepth 100000
namespace Orange
def okP (l : List PStep) : Prop := l.length ≤ 140737488355328 ∧ ∀ s ∈ l, i64R s.pos ∧ s.name.length ≤ 140737488355328
end Orange
namespace Go.Proofs.YtjapbjmeoaagmaaGreatDoor
open Go.RowKit Go.Mem Orange Go.ChangeShapes Go.WideShapes Go.ChangeAt
theorem ts_build {W : World} {g o : Nat} : ∀ n : Nat, (∀ i, i < n → ∃ s : PStep, i64R s.pos ∧ s.name.length ≤ 140737488355328 ∧ ∀ j, j < 3 → W.cell? ⟨g, o + i * 3 + j, none⟩ = (cellsS s)[j]?) →
 ∃ l : List PStep, l.length = n ∧ (∀ s ∈ l, i64R s.pos ∧ s.name.length ≤ 140737488355328) ∧ ∀ i, (h : i < (l.flatMap fun s => (cellsS s).toList).length) → W.cell? ⟨g, o + i, none⟩ = some (l.flatMap fun s => (cellsS s).toList)[i]
 | 0, _ => ⟨[], rfl, fun s h => absurd h (by simp), fun i h => absurd h (by simp)⟩
 | n + 1, H => by
   obtain ⟨l, h1, h3, h4⟩ := ts_build n (fun i hi => H i (by omega)); obtain ⟨s, k1, k2, k3⟩ := H n (by omega); have hl : (l.flatMap fun s => (cellsS s).toList).length = n * 3 := by
    rw [List.length_flatMap, ← h1]; clear H h1 h3 h4; induction l with
    | nil => rfl
    | cons a l ih => rw [List.map_cons, List.sum_cons, ih]; simp [cellsS]; omega
   refine ⟨l ++ [s], by simp [h1], fun x hx => ?_, fun i hi => ?_⟩
   · rcases List.mem_append.1 hx with hx | hx
     · exact h3 x hx
     · rw [List.mem_singleton.1 hx]; exact ⟨k1, k2⟩
   · have hfm : ((l ++ [s]).flatMap fun s => (cellsS s).toList) = (l.flatMap fun s => (cellsS s).toList) ++ (cellsS s).toList := by simp
     have hi' : i < n * 3 + 3 := by rw [hfm, List.length_append, hl] at hi; simpa [cellsS] using hi
     have hgoal : ∀ L : List Value, L = (l.flatMap fun s => (cellsS s).toList) ++ (cellsS s).toList → ∀ h : i < L.length, W.cell? ⟨g, o + i, none⟩ = some L[i] := by
      rintro L rfl h; by_cases hlt : i < n * 3
      · rw [h4 i (by omega), List.getElem_append_left (by omega)]
      · have := k3 (i - n * 3) (by omega); rw [show o + n * 3 + (i - n * 3) = o + i by omega] at this; rw [this, List.getElem_append_right (by omega), Array.getElem_toList]; simp only [hl]; exact Array.getElem?_eq_getElem (by simp [cellsS]; omega)
     exact hgoal _ hfm hi
section
variable {H : Type} {enc : TypeId × Value → H} {W : World}
theorem cells_step : Tryz.prog.cellsOf 46 = 3 := by kernel_rfl
theorem bytes_step : Tryz.prog.bytesOf 46 = 32 := by kernel_rfl
theorem trod_steps (W : World) : ∀ (fuel : Nat) (cs : List Value) (d : DataW H) (ps : List MemPlace), trodV enc W fuel 28 cs = some (d, ps) → (∀ n ∈ d.weights Tryz.prog 28, n ≤ reachBytes) → ∃ l, (∀ v, cs = [v] → PlAt W (fun _ => True) v l) ∧ okP l := by
 intro fuel cs d ps h4 hwd; have cs' : Tryz.prog.cellsOf 9 = 1 := by kernel_rfl
 have ci : Tryz.prog.cellsOf 3 = 1 := by kernel_rfl
 have cb : Tryz.prog.cellsOf 4 = 1 := by kernel_rfl
 cases fuel with
 | zero => simp [trodV, DataW.trod] at h4
 | succ fuel =>
   rcases trod_slice Tryz.underlying28 (by rw [cells_step]; decide) h4 with ⟨e, _⟩ | ⟨a, n, cap, elems, spare, e, hnc, hcm, hd, hel, hcell⟩
   · subst e; exact ⟨[], fun v hv => by cases hv; exact ⟨RowAt.nil _ _ _ _ _ (by omega), by simp⟩, by simp, by simp⟩
   · subst e; have hwl : (elems.length + spare.length) * Tryz.prog.bytesOf 46 ≤ reachBytes ∧ ∀ n ∈ DataW.weightsAll Tryz.prog 46 elems, n ≤ reachBytes := by
      have h6 := hwd; rw [hd, DataW.weights, Tryz.underlying28] at h6; exact ⟨h6 _ List.mem_cons_self, fun n hn => h6 n (List.mem_cons_of_mem _ (List.mem_append_left _ hn))⟩
     rw [bytes_step] at hwl; have hn47 : n ≤ 140737488355328 := by have := hwl.1; rw [hel] at this; simp only [reachBytes] at this; omega
     rcases Nat.eq_zero_or_pos n with hz | hz
     · subst hz; exact ⟨[], fun v hv => by cases hv; exact ⟨RowAt.nil _ _ _ _ _ (by simp only [maxLen] at hcm; omega), by simp⟩, by simp, by simp⟩
     · obtain ⟨_, c0, _, _, _, hc0, hcell0⟩ := hcell 0 hz; rw [cells_step] at hcell0 hc0; have hsp : a.spot = none := by
        have := hcell0 0 (by omega); rw [List.getElem?_eq_getElem (by omega)] at this; have := World.cell?_spot this; simpa [Addr.add] using this
       obtain ⟨g, o, sp⟩ := a; simp only at hsp; subst hsp; have hg : g < W.heap.size := by
        have := hcell0 0 (by omega); rw [List.getElem?_eq_getElem (by omega)] at this; have := World.block_lt_of_cell? _ _ this; simpa [Addr.add] using this
       obtain ⟨l, h7, h9, h10⟩ := ts_build (W := W) (g := g) (o := o) n (fun i hi => by
        obtain ⟨x, c, ps', hxe, htx, hcl, hcc⟩ := hcell i hi; rw [cells_step] at hcc hcl; have hwx : ∀ n ∈ x.weights Tryz.prog 46, n ≤ reachBytes := fun n hn => hwl.2 n (weightsAll_mem (List.mem_of_getElem? hxe) n hn); cases fuel with
        | zero => simp [DataW.trod] at htx
        | succ fuel =>
          unfold DataW.trod at htx; rw [Tryz.underlying46] at htx; simp only at htx; split at htx
          · rw [Option.map_eq_some_iff] at htx; obtain ⟨xs, hm, htx⟩ := htx; simp only [List.mapM_cons, List.mapM_nil, Option.bind_eq_bind, Option.bind_eq_some_iff, Option.pure_def, Option.some.injEq] at hm; obtain ⟨z0, k0, _, ⟨z1, k1, _, ⟨z2, k2, _, rfl, rfl⟩, rfl⟩, rfl⟩ := hm; rw [cs'] at k0; rw [ci] at k1; rw [cb] at k2; match c, hcl with
            | [u0, u1, u2], _ =>
            simp only [List.drop_zero, List.drop_succ_cons, List.take_succ_cons, List.take_zero] at k0 k1 k2; obtain ⟨s, e3, rfl, hs⟩ := DataW.trod_string Tryz.underlying9 k0; obtain ⟨n', e4, rfl, hn'⟩ := DataW.trod_int Tryz.underlying3 k1; obtain ⟨b, e5, rfl⟩ := DataW.trod_bool Tryz.underlying4 k2; simp only [List.cons.injEq, and_true] at e3 e4 e5; subst e3 e4 e5; simp only [Prod.mk.injEq] at htx
            have hwm : s.data.toList.length ≤ reachBytes := hwx _ (by
             rw [← htx.1, DataW.weights, Tryz.underlying46]; simp [DataW.weightsEach, DataW.weights])
            refine ⟨⟨s.data.toList, n', b⟩, by simpa [Lit.wf, IntKind.min, IntKind.max, IntKind.signed, IntKind.bits, i64R] using hn', Nat.le_trans hwm (by decide), fun j hj => ?_⟩; have := hcc j hj; rw [add_plain, add_plain] at this; rw [this]; simp [cellsS]
          · cases htx)
       refine ⟨l, fun v hv => ?_, by omega, h9⟩; simp only [List.cons.injEq, and_true] at hv; subst hv; refine ⟨⟨?_, some ⟨g, o, none⟩, cap, by rw [h7], by omega, by simp only [maxLen] at hcm; omega, fun _ => ⟨g, o, rfl, trivial, hg, h10⟩⟩, fun s hs => (h9 s hs).1⟩; clear h10 h9 h7 hcell; induction l with
       | nil => rfl
       | cons a l ih => simp [ih, cellsS]; omega
end
end Go.Proofs.YtjapbjmeoaagmaaGreatDoor
end

section
set_option maxRecDepth 100000
namespace Orange
def fewP (l : List PStep) : Bool := decide (l.length ≤ 100) && l.all fun s => decide (s.name.length ≤ 100)
theorem fewP_step (l : List PStep) (i : Nat) (h : i < l.length) (hi : (l.take i).all (fun s => decide (s.name.length ≤ 100)) = true) :
 (l.take (i + 1)).all (fun s => decide (s.name.length ≤ 100)) = decide (l[i].name.length ≤ 100) := by
 rw [List.take_add_one, List.getElem?_eq_getElem h, Option.toList_some, List.all_append, hi]; simp
instance decAheadP : (l m : List PStep) → Decidable (aheadP l m)
 | [], _ => isTrue (by unfold aheadP; trivial)
 | _ :: _, [] => isFalse (fun h => by unfold aheadP at h; exact h)
 | s :: l, r :: m => match (inferInstance : Decidable (sameStep s r)), decAheadP l m with
   | isTrue h, isTrue k => isTrue (by unfold aheadP; exact ⟨h, k⟩)
   | isFalse h, _ => isFalse (fun e => by unfold aheadP at e; exact h e.1)
   | _, isFalse k => isFalse (fun e => by unfold aheadP at e; exact k e.2)
end Orange
namespace Go.Proofs.YtjapbjmeoaagmaaGreatDoor
open Go.RowKit Go.Mem Orange
set_option maxHeartbeats 3200000 in
theorem fewS_any (A : Nat → Prop) (v : Value) (l : List PStep) (w : World) (hl : PlAt w A v l) (hok : okP l) :
 Calls Tryz.prog 16 #[v] w (fun e w' => e = .returned (.bool (fewP l)) ∧ Ext w w') := by
 obtain ⟨_, va, vc, rfl, hvn, hvm, -⟩ := id hl.1; have HL := Hd hl; have HOK := Hd hok; clear hl hok; go_enter Tryz.func16, Tryz.ntmps16
 by_cases hlen : (100 : Int) < l.length
 · have hf : fewP l = false := by unfold fewP; rw [decide_eq_false (by omega)]; rfl
   rw [hf]; go_wp2_with fail; go_ret; exact ⟨rfl, ext_refl _⟩
 have hlen' : l.length ≤ 100 := by omega
 go_wp2_with fail; go_loopw [3] (fun iv wr => ∃ i : Nat, iv = .int .i64 i ∧ i ≤ l.length ∧ Ext w wr ∧ (l.take i).all (fun s => decide (s.name.length ≤ 100)) = true) (fun iv _ => 1000 - (intOf iv).toNat)
 case atStart => exact ⟨0, rfl, Nat.zero_le _, ext_refl _, by simp⟩
 case round =>
  obtain ⟨i, rfl, hi, hx, hall⟩ := hrel; by_cases hlt : i < l.length
  · have hlti : (i : Int) < l.length := by omega
    have hi0 : (0 : Int) ≤ i := by omega
    obtain ⟨g, o, rfl, hgA, hel⟩ := HL.out.elem i hlt; obtain ⟨c0, -, -⟩ := hel wr (fun g hg hlt => hx.block g hlt); have hst := fewP_step l i hlt hall; have hsz := (HOK.out.2 l[i] (List.getElem_mem hlt)).2; have HALL := Hd hall; clear hel hall; obtain ⟨s, hs⟩ := Ex (l[i].name); rw [hs] at c0 hst hsz; have HS := Hd hs; clear hs; by_cases hsl : (100 : Int) < s.length
    · have hf : fewP l = false := by
       unfold fewP; rw [Bool.and_eq_false_iff]; right
       rw [List.all_eq_false]; exact ⟨l[i], List.getElem_mem hlt, by rw [HS.out]; simp; omega⟩
      have HF := Hd hf; clear hst hf; go_wp2_with fail; go_ret; exact ⟨by rw [HF.out]; rfl, hx⟩
    · rw [decide_eq_true (by omega)] at hst; have HST := Hd hst; clear hst; go_wp2_with fail; refine ⟨⟨i + 1, by go_num, by omega, hx, HST.out⟩, by simp [intOf]; omega⟩
  · have hlti : ¬ (i : Int) < l.length := by omega
    have hf : fewP l = true := by
     rw [List.take_of_length_le (by omega)] at hall; unfold fewP; rw [decide_eq_true hlen', hall]; rfl
    have HF := Hd hf; clear hf hall; go_wp2_with fail; go_ret; exact ⟨by rw [HF.out]; rfl, hx⟩
end Go.Proofs.YtjapbjmeoaagmaaGreatDoor
end

section
namespace Orange
section
variable {α : Type} {lt : α → α → Bool}
structure WOrd (lt : α → α → Bool) : Prop where
 asymm : ∀ {a b}, lt a b = true → lt b a = false
 neg : ∀ {a b c}, lt a b = false → lt b c = false → lt a c = false
def sw (f : Nat → α) (i j : Nat) : Nat → α := fun k => if k = i then f j else if k = j then f i else f k
theorem sw_self (f : Nat → α) (i : Nat) : sw f i i = f := by funext k; simp only [sw]; split <;> simp_all
theorem sw_comm (f : Nat → α) (i j : Nat) : sw f i j = sw f j i := by
 funext k; simp only [sw]; split <;> split <;> simp_all
inductive Sw (a b : Nat) (f : Nat → α) : (Nat → α) → Prop
 | refl : Sw a b f f
 | step {g : Nat → α} {i j : Nat} : Sw a b f g → a ≤ i → i < b → a ≤ j → j < b → Sw a b f (sw g i j)
theorem Sw.one {a b i j : Nat} {f : Nat → α} (h1 : a ≤ i) (h2 : i < b) (h3 : a ≤ j) (h4 : j < b) : Sw a b f (sw f i j) := .step .refl h1 h2 h3 h4
theorem Sw.trans {a b : Nat} {f g h : Nat → α} (h1 : Sw a b f g) (h2 : Sw a b g h) : Sw a b f h := by
 induction h2 with
 | refl => exact h1
 | step _ e1 e2 e3 e4 ih => exact .step ih e1 e2 e3 e4
theorem Sw.mono {a b a' b' : Nat} {f g : Nat → α} (h : Sw a b f g) (h1 : a' ≤ a) (h2 : b ≤ b') : Sw a' b' f g := by
 induction h with
 | refl => exact .refl
 | step _ e1 e2 e3 e4 ih => exact .step ih (by omega) (by omega) (by omega) (by omega)
theorem Sw.out {a b : Nat} {f g : Nat → α} (h : Sw a b f g) {k : Nat} (hk : k < a ∨ b ≤ k) : g k = f k := by
 induction h with
 | refl => rfl
 | step _ e1 e2 e3 e4 ih => rw [← ih]; simp only [sw]; rw [if_neg (by omega), if_neg (by omega)]
theorem Sw.from {a b : Nat} {f g : Nat → α} (h : Sw a b f g) {k : Nat} (h1 : a ≤ k) (h2 : k < b) : ∃ i, a ≤ i ∧ i < b ∧ g k = f i := by
 induction h generalizing k with
 | refl => exact ⟨k, h1, h2, rfl⟩
 | @step g i j _ e1 e2 e3 e4 ih =>
   simp only [sw]; split
   · exact ih e3 e4
   · split
     · exact ih e1 e2
     · exact ih h1 h2
theorem Sw.any {a b : Nat} {f g : Nat → α} (h : Sw a b f g) (k : Nat) : ∃ i, g k = f i ∧ (a ≤ k → k < b → a ≤ i ∧ i < b) ∧ ((k < a ∨ b ≤ k) → i = k) := by
 by_cases h' : k < a ∨ b ≤ k
 · exact ⟨k, h.out h', fun h1 h2 => by omega, fun _ => rfl⟩
 · obtain ⟨i, h1, h2, h3⟩ := h.from (k := k) (by omega) (by omega)
   exact ⟨i, h3, fun _ _ => ⟨h1, h2⟩, fun h'' => absurd h'' h'⟩
def listF (f : Nat → α) (n : Nat) : List α := (List.range n).map f
theorem listF_length (f : Nat → α) (n : Nat) : (listF f n).length = n := by simp [listF]
theorem listF_get (f : Nat → α) (n i : Nat) (h : i < (listF f n).length) : (listF f n)[i] = f i := by simp [listF]
theorem listF_set (f : Nat → α) (n i : Nat) (x : α) : (listF f n).set i x = listF (fun k => if k = i then x else f k) n := by
 apply List.ext_getElem
 · simp [listF]
 · intro k h1 h2; rw [List.getElem_set, listF_get, listF_get]; by_cases e : i = k
   · subst e; simp
   · rw [if_neg e, if_neg (by omega)]
theorem listF_congr {f g : Nat → α} {n : Nat} (h : ∀ k, k < n → f k = g k) : listF f n = listF g n := by
 apply List.map_congr_left
 intro k hk; exact h k (by simpa using hk)
theorem listF_sw {f : Nat → α} {n i j : Nat} (hi : i < n) (hj : j < n) : (listF (sw f i j) n).Perm (listF f n) := by
 by_cases e : i = j
 · rw [e, sw_self]
 · have hlen : (listF f n).length = n := listF_length f n; have h1 : listF (sw f i j) n = ((listF f n).set i (f j)).set j (f i) := by
    rw [listF_set, listF_set]; apply listF_congr
    intro k hk; simp only [sw]; by_cases ei : k = i
    · subst ei; rw [if_pos rfl, if_neg e, if_pos rfl]
    · rw [if_neg ei]; by_cases ej : k = j
      · rw [if_pos ej, if_pos ej]
      · rw [if_neg ej, if_neg ej, if_neg ei]
   rw [h1]; have h2 := List.set_set_perm («as» := listF f n) (i := i) (j := j) (by rw [hlen]; exact hi) (by rw [hlen]; exact hj); simpa [listF_get] using h2
theorem Sw.perm {a b n : Nat} {f g : Nat → α} (h : Sw a b f g) (hb : b ≤ n) : (listF g n).Perm (listF f n) := by
 induction h with
 | refl => exact List.Perm.refl _
 | step _ e1 e2 e3 e4 ih => exact (listF_sw (by omega) (by omega)).trans ih
def SOn (lt : α → α → Bool) (a b : Nat) (f : Nat → α) : Prop := ∀ i j, a ≤ i → i < j → j < b → lt (f j) (f i) = false
theorem SOn.mono {a b a' b' : Nat} {f : Nat → α} (h : SOn lt a b f) (h1 : a ≤ a') (h2 : b' ≤ b) : SOn lt a' b' f := fun i j e1 e2 e3 => h i j (by omega) e2 (by omega)
theorem SOn.congr {a b : Nat} {f g : Nat → α} (h : SOn lt a b f) (e : ∀ k, a ≤ k → k < b → g k = f k) : SOn lt a b g := fun i j e1 e2 e3 => by
 rw [e i e1 (by omega), e j (by omega) e3]; exact h i j e1 e2 e3
theorem SOn.short {a b : Nat} {f : Nat → α} (h : b ≤ a + 1) : SOn lt a b f := fun i j e1 e2 e3 => by omega
theorem SOn.kept {a b c d : Nat} {f g : Nat → α} (h : SOn lt a b f) (k : Sw c d f g) (hd : b ≤ c ∨ d ≤ a) : SOn lt a b g := h.congr (fun i e1 e2 => k.out (by omega))
theorem SOn.join {a m b : Nat} {f : Nat → α} (h1 : SOn lt a m f) (h2 : SOn lt m b f) (h : ∀ i j, a ≤ i → i < m → m ≤ j → j < b → lt (f j) (f i) = false) : SOn lt a b f := fun i j e1 e2 e3 => by
 by_cases c1 : j < m
 · exact h1 i j e1 e2 c1
 · by_cases c2 : m ≤ i
   · exact h2 i j c2 e2 e3
   · exact h i j e1 (by omega) (by omega) e3
def Ins (lt : α → α → Bool) (a i j : Nat) (f : Nat → α) : Prop := ∀ p q, a ≤ p → p < q → q ≤ i → q ≠ j → lt (f q) (f p) = false
theorem Ins.start {a i : Nat} {f : Nat → α} (h : SOn lt a i f) : Ins lt a i i f := fun p q h1 h2 h3 h4 => h p q h1 h2 (by omega)
theorem Ins.next (o : WOrd lt) {a i j : Nat} {f : Nat → α} (h : Ins lt a i j f) (hj : a < j) (hi : j ≤ i) (hl : lt (f j) (f (j - 1)) = true) : Ins lt a i (j - 1) (sw f j (j - 1)) := by
 intro p q h1 h2 h3 h4; simp only [sw]; by_cases eq : q = j
 · subst eq; rw [if_pos rfl]; by_cases ep : p = q - 1
   · subst ep; rw [if_neg (by omega), if_pos rfl]; exact o.asymm hl
   · rw [if_neg (by omega), if_neg ep]; exact h p (q - 1) h1 (by omega) (by omega) (by omega)
 · rw [if_neg eq, if_neg h4]; by_cases ep : p = j
   · subst ep; rw [if_pos rfl]; exact h (p - 1) q (by omega) (by omega) h3 (by omega)
   · rw [if_neg ep]; by_cases ep' : p = j - 1
     · rw [if_pos ep']; exact h j q (by omega) (by omega) h3 eq
     · rw [if_neg ep']; exact h p q h1 h2 h3 eq
theorem Ins.stop (o : WOrd lt) {a i j : Nat} {f : Nat → α} (h : Ins lt a i j f) (hj : j ≤ a ∨ a < j ∧ lt (f j) (f (j - 1)) = false) : SOn lt a (i + 1) f := by
 intro p q h1 h2 h3; by_cases eq : q = j
 · subst eq; rcases hj with hj | ⟨hj, hl⟩
   · omega
   · by_cases ep : p = q - 1
     · subst ep; exact hl
     · exact o.neg hl (h p (q - 1) h1 (by omega) (by omega) (by omega))
 · exact h p q h1 h2 (by omega) eq
def upF (f : Nat → α) (a k : Nat) : Nat → α := fun x => if a ≤ x ∧ x < k then f (x + 1) else if x = k then f a else f x
theorem upF_self (f : Nat → α) (a : Nat) : upF f a a = f := by
 funext x; simp only [upF]
 rw [if_neg (by omega)]; split
 · rename_i h; rw [h]
 · rfl
theorem upF_next {f : Nat → α} {a k : Nat} (h : a ≤ k) : sw (upF f a k) k (k + 1) = upF f a (k + 1) := by
 funext x
 simp only [sw, upF]; by_cases e1 : x = k
 · subst e1; rw [if_pos rfl, if_neg (by omega), if_neg (by omega), if_pos (by omega)]
 · rw [if_neg e1]; by_cases e2 : x = k + 1
   · subst e2; rw [if_pos (c := k + 1 = k + 1) rfl, if_neg (c := a ≤ k ∧ k < k) (by omega), if_neg (c := a ≤ k + 1 ∧ k + 1 < k + 1) (by omega)]; simp
   · rw [if_neg e2]; by_cases e3 : a ≤ x ∧ x < k
     · rw [if_pos e3, if_pos (by omega)]
     · rw [if_neg e3, if_neg e1, if_neg (by omega), if_neg e2]
def downF (f : Nat → α) (m k : Nat) : Nat → α := fun x => if k < x ∧ x ≤ m then f (x - 1) else if x = k then f m else f x
theorem downF_self (f : Nat → α) (m : Nat) : downF f m m = f := by
 funext x; simp only [downF]
 rw [if_neg (by omega)]; split
 · rename_i h; rw [h]
 · rfl
theorem downF_next {f : Nat → α} {m k : Nat} (h : k ≤ m) (hk : 0 < k) : sw (downF f m k) k (k - 1) = downF f m (k - 1) := by
 funext x
 simp only [sw, downF]; by_cases e1 : x = k
 · subst e1; rw [if_pos rfl, if_neg (by omega), if_neg (by omega), if_pos (by omega)]
 · rw [if_neg e1]; by_cases e2 : x = k - 1
   · subst e2; rw [if_pos (c := k - 1 = k - 1) rfl, if_neg (c := k < k ∧ k ≤ m) (by omega), if_neg (c := k - 1 < k - 1 ∧ k - 1 ≤ m) (by omega)]; simp
   · rw [if_neg e2]; by_cases e3 : k < x ∧ x ≤ m
     · rw [if_pos e3, if_pos (by omega)]
     · rw [if_neg e3, if_neg e1, if_neg (by omega), if_neg e2]
theorem upF_sorted (o : WOrd lt) {a m b i : Nat} {f : Nat → α} (hm : m = a + 1) (hr : SOn lt m b f) (hi : m ≤ i) (hib : i ≤ b) (h1 : i = m ∨ lt (f (i - 1)) (f a) = true) (h2 : i = b ∨ lt (f i) (f a) = false) : SOn lt a b (upF f a (i - 1)) := by
 have g1 : ∀ k, m ≤ k → k < i → lt (f k) (f a) = true := fun k hk hki => by
  rcases h1 with h1 | h1
  · omega
  · by_cases e : k = i - 1
    · rw [e]; exact h1
    · have := hr k (i - 1) hk (by omega) (by omega); cases h : lt (f k) (f a) with
      | true => rfl
      | false => rw [o.neg this h] at h1; cases h1
 have g2 : ∀ k, i ≤ k → k < b → lt (f k) (f a) = false := fun k hk hki => by
  rcases h2 with h2 | h2
  · omega
  · by_cases e : k = i
    · rw [e]; exact h2
    · exact o.neg (hr i k (by omega) (by omega) hki) h2
 intro p q e1 e2 e3; simp only [upF]; by_cases c1 : a ≤ p ∧ p < i - 1
 · rw [if_pos c1]; by_cases c2 : a ≤ q ∧ q < i - 1
   · rw [if_pos c2]; exact hr (p + 1) (q + 1) (by omega) (by omega) (by omega)
   · rw [if_neg c2]; by_cases c3 : q = i - 1
     · rw [if_pos c3]; exact o.asymm (g1 (p + 1) (by omega) (by omega))
     · rw [if_neg c3]; exact hr (p + 1) q (by omega) (by omega) e3
 · rw [if_neg c1, if_neg (c := a ≤ q ∧ q < i - 1) (by omega)]; by_cases c3 : p = i - 1
   · rw [if_pos c3, if_neg (by omega)]; exact g2 q (by omega) e3
   · rw [if_neg c3, if_neg (by omega)]; exact hr p q (by omega) e2 e3
theorem downF_sorted (o : WOrd lt) {a m b i : Nat} {f : Nat → α} (hm : b = m + 1) (hl : SOn lt a m f) (hi : a ≤ i) (him : i ≤ m) (h1 : i = a ∨ lt (f m) (f (i - 1)) = false) (h2 : i = m ∨ lt (f m) (f i) = true) : SOn lt a b (downF f m i) := by
 have g1 : ∀ k, a ≤ k → k < i → lt (f m) (f k) = false := fun k hk hki => by
  rcases h1 with h1 | h1
  · omega
  · by_cases e : k = i - 1
    · rw [e]; exact h1
    · exact o.neg h1 (hl k (i - 1) hk (by omega) (by omega))
 have g2 : ∀ k, i ≤ k → k < m → lt (f k) (f m) = false := fun k hk hki => by
  rcases h2 with h2 | h2
  · omega
  · by_cases e : k = i
    · rw [e]; exact o.asymm h2
    · have := hl i k (by omega) (by omega) hki; exact o.neg this (o.asymm h2)
 intro p q e1 e2 e3; simp only [downF]; by_cases c1 : i < q ∧ q ≤ m
 · rw [if_pos c1]; by_cases c2 : i < p ∧ p ≤ m
   · rw [if_pos c2]; exact hl (p - 1) (q - 1) (by omega) (by omega) (by omega)
   · rw [if_neg c2]; by_cases c3 : p = i
     · rw [if_pos c3]; exact g2 (q - 1) (by omega) (by omega)
     · rw [if_neg c3]; exact hl p (q - 1) e1 (by omega) (by omega)
 · rw [if_neg c1, if_neg (c := i < p ∧ p ≤ m) (by omega), if_neg (c := p = i) (by omega)]; by_cases c3 : q = i
   · rw [if_pos c3]; exact g1 p e1 (by omega)
   · rw [if_neg c3]; exact hl p q e1 e2 (by omega)
def exF (f : Nat → α) (a b k : Nat) : Nat → α := fun x => if a ≤ x ∧ x < a + k then f (b + (x - a)) else if b ≤ x ∧ x < b + k then f (a + (x - b)) else f x
theorem exF_zero (f : Nat → α) (a b : Nat) : exF f a b 0 = f := by
 funext x; simp only [exF]; rw [if_neg (by omega), if_neg (by omega)]
theorem exF_next {f : Nat → α} {a b n k : Nat} (hd : a + n ≤ b) (hk : k < n) : sw (exF f a b k) (a + k) (b + k) = exF f a b (k + 1) := by
 funext x
 simp only [sw, exF]; by_cases e1 : x = a + k
 · subst e1; rw [if_pos rfl, if_neg (by omega), if_neg (by omega), if_pos (by omega)]; congr 1; omega
 · rw [if_neg e1]; by_cases e2 : x = b + k
   · subst e2; rw [if_pos rfl, if_neg (by omega), if_neg (by omega), if_neg (by omega), if_pos (by omega)]; congr 1; omega
   · rw [if_neg e2]; by_cases e3 : a ≤ x ∧ x < a + k
     · rw [if_pos e3, if_pos (by omega)]
     · rw [if_neg e3, if_neg (c := a ≤ x ∧ x < a + (k + 1)) (by omega)]; by_cases e4 : b ≤ x ∧ x < b + k
       · rw [if_pos e4, if_pos (by omega)]
       · rw [if_neg e4, if_neg (by omega)]
theorem exF_sw {f : Nat → α} {a b n lo hi : Nat} (hd : a + n ≤ b) (h1 : lo ≤ a) (h2 : b + n ≤ hi) : ∀ k, k ≤ n → Sw lo hi f (exF f a b k)
 | 0, _ => by rw [exF_zero]; exact .refl
 | k + 1, h => by
   rw [← exF_next hd (by omega)]; exact .step (exF_sw hd h1 h2 k (by omega)) (by omega) (by omega) (by omega) (by omega)
def rotF (f : Nat → α) (a m b : Nat) : Nat → α := fun x => if a ≤ x ∧ x < a + (b - m) then f (x + (m - a)) else if a + (b - m) ≤ x ∧ x < b then f (x - (b - m)) else f x
theorem rot_gt {f g : Nat → α} {a m b i j : Nat} (hi : i ≤ m) (hij : j < i) (h : rotF g (m - i) m (m + j) = rotF f a m b) : rotF (exF g (m - i) m j) (m - i + j) m (m + j) = rotF f a m b := by
 rw [← h]; funext x
 simp only [rotF, exF]; repeat' split
 all_goals first | rfl | (congr 1; omega)
theorem rot_lt {f g : Nat → α} {a m b i j : Nat} (hi : i ≤ m) (hij : i < j) (h : rotF g (m - i) m (m + j) = rotF f a m b) : rotF (exF g (m - i) (m + j - i) i) (m - i) m (m + j - i) = rotF f a m b := by
 rw [← h]; funext x
 simp only [rotF, exF]; repeat' split
 all_goals first | rfl | (congr 1; omega)
theorem rot_eq {g : Nat → α} {m i : Nat} (hi : i ≤ m) : exF g (m - i) m i = rotF g (m - i) m (m + i) := by
 funext x
 simp only [rotF, exF]; repeat' split
 all_goals first | rfl | (congr 1; omega)
theorem merge_mid (o : WOrd lt) {a m b s mid : Nat} {f : Nat → α} (h1 : SOn lt a m f) (h2 : SOn lt m b f) (has : a ≤ s) (hsm : s ≤ m) (hm : mid + m - s ≤ b) (hms : m ≤ mid + m - s) (hsmid : s ≤ mid) (hme : mid ≤ mid + m - s)
 (hL : s = a ∨ mid + m - s = b ∨ (a < s ∧ mid + m - s < b ∧ lt (f (mid + m - s)) (f (s - 1)) = false)) (hR : s = m ∨ mid = s ∨ (s < m ∧ s < mid ∧ lt (f (mid + m - s - 1)) (f s) = true)) :
 SOn lt a s (rotF f s m (mid + m - s)) ∧ SOn lt s mid (rotF f s m (mid + m - s)) ∧ SOn lt mid (mid + m - s) (rotF f s m (mid + m - s)) ∧ SOn lt (mid + m - s) b (rotF f s m (mid + m - s)) ∧ (∀ i j, a ≤ i → i < mid → mid ≤ j → j < b → lt (rotF f s m (mid + m - s) j) (rotF f s m (mid + m - s) i) = false) := by
 obtain ⟨E, hE⟩ := Ex (mid + m - s); rw [hE] at hm hms hme hL hR ⊢; have v1 : ∀ x, x < s → rotF f s m E x = f x := fun x hx => by simp only [rotF]; rw [if_neg (by omega), if_neg (by omega)]
 have v2 : ∀ x, s ≤ x → x < mid → rotF f s m E x = f (x + (m - s)) := fun x hx hx' => by simp only [rotF]; rw [if_pos (by omega)]
 have v3 : ∀ x, mid ≤ x → x < E → rotF f s m E x = f (x - (E - m)) := fun x hx hx' => by simp only [rotF]; rw [if_neg (by omega), if_pos (by omega)]
 have v4 : ∀ x, E ≤ x → rotF f s m E x = f x := fun x hx => by simp only [rotF]; rw [if_neg (by omega), if_neg (by omega)]
 refine ⟨?_, ?_, ?_, ?_, ?_⟩
 · exact (h1.mono (Nat.le_refl _) hsm).congr (fun k e1 e2 => v1 k e2)
 · intro i j e1 e2 e3; rw [v2 i e1 (by omega), v2 j (by omega) e3]; exact h2 _ _ (by omega) (by omega) (by omega)
 · intro i j e1 e2 e3; rw [v3 i e1 (by omega), v3 j (by omega) e3]; exact h1 _ _ (by omega) (by omega) (by omega)
 · exact (h2.mono (by omega) (Nat.le_refl _)).congr (fun k e1 e2 => v4 k e1)
 · intro i j e1 e2 e3 e4; by_cases c1 : i < s
   · rw [v1 i c1]; by_cases c2 : j < E
     · rw [v3 j e3 c2]; exact h1 i _ e1 (by omega) (by omega)
     · rw [v4 j (by omega)]; rcases hL with hL | hL | ⟨g1, g2, g3⟩
       · omega
       · omega
       · have a1 : lt (f j) (f (s - 1)) = false := by
          by_cases e : j = E
          · rw [e]; exact g3
          · exact o.neg (h2 E j hms (by omega) e4) g3
         by_cases e : i = s - 1
         · rw [e]; exact a1
         · exact o.neg a1 (h1 i (s - 1) e1 (by omega) (by omega))
   · rw [v2 i (by omega) e2]; by_cases c2 : j < E
     · rw [v3 j e3 c2]; rcases hR with hR | hR | ⟨g1, g2, g3⟩
       · omega
       · omega
       · have a1 : lt (f s) (f (i + (m - s))) = false := by
          by_cases e : i + (m - s) = E - 1
          · rw [e]; exact o.asymm g3
          · exact o.neg (o.asymm g3) (h2 _ (E - 1) (by omega) (by omega) (by omega))
         by_cases e : j - (E - m) = s
         · rw [e]; exact a1
         · exact o.neg (h1 s _ has (by omega) (by omega)) a1
     · rw [v4 j (by omega)]; exact h2 _ _ (by omega) (by omega) e4
theorem cross_kept {a mid b : Nat} {f g h : Nat → α} (c : ∀ i j, a ≤ i → i < mid → mid ≤ j → j < b → lt (f j) (f i) = false) (h1 : Sw a mid f g) (h2 : Sw mid b g h) : ∀ i j, a ≤ i → i < mid → mid ≤ j → j < b → lt (h j) (h i) = false := by
 intro i j e1 e2 e3 e4; rw [h2.out (k := i) (.inl e2)]; obtain ⟨j', f1, f2, f3⟩ := h2.from e3 e4
 obtain ⟨i', f4, f5, f6⟩ := h1.from e1 e2
 rw [f3, f6, h1.out (k := j') (.inr f1)]; exact c i' j' f4 f5 f1 f2
inductive Runs (lt : α → α → Bool) (s n : Nat) (f : Nat → α) : Nat → Prop
 | done {x : Nat} : n ≤ x → Runs lt s n f x
 | step {x : Nat} : SOn lt x (min (x + s) n) f → Runs lt s n f (x + s) → Runs lt s n f x
inductive RunsTo (lt : α → α → Bool) (s : Nat) (f : Nat → α) : Nat → Prop
 | zero : RunsTo lt s f 0
 | step {x : Nat} : RunsTo lt s f x → SOn lt x (x + s) f → RunsTo lt s f (x + s)
theorem RunsTo.kept {s x a b : Nat} {f g : Nat → α} (h : RunsTo lt s f x) (k : Sw a b f g) (hx : x ≤ a) : RunsTo lt s g x := by
 induction h with
 | zero => exact .zero
 | step _ h2 ih => exact .step (ih (by omega)) (h2.kept k (.inl hx))
theorem Runs.kept {s n x a b : Nat} {f g : Nat → α} (h : Runs lt s n f x) (k : Sw a b f g) (hx : b ≤ x) : Runs lt s n g x := by
 induction h with
 | done h => exact .done h
 | step h2 _ ih => exact .step (h2.kept k (.inr hx)) (ih (by omega))
theorem RunsTo.le {s n x : Nat} {f : Nat → α} (h : RunsTo lt s f x) (k : Runs lt s n f x) (hx : x ≤ n) : Runs lt s n f 0 := by
 induction h with
 | zero => exact k
 | step _ h2 ih => exact ih (.step (by rw [Nat.min_eq_left hx]; exact h2) k) (by omega)
theorem Runs.inv {s n x : Nat} {f : Nat → α} (h : Runs lt s n f x) (hx : x < n) : SOn lt x (min (x + s) n) f ∧ Runs lt s n f (x + s) := by
 cases h with
 | done h => omega
 | step h1 h2 => exact ⟨h1, h2⟩
theorem Runs.last {s n : Nat} {f : Nat → α} (h : Runs lt s n f 0) (hn : n ≤ s) : SOn lt 0 n f := by
 cases h with
 | done h => exact .short (by omega)
 | step h1 _ => rw [Nat.zero_add, Nat.min_eq_right hn] at h1; exact h1
theorem Runs.rest {s n x : Nat} {f : Nat → α} (h : Runs lt s n f x) (hx : n ≤ x + s) : Runs lt (2 * s) n f x := by
 cases h with
 | done h => exact .done h
 | step h1 h2 => exact .step (by rw [Nat.min_eq_right (by omega)] at h1 ⊢; exact h1) (.done (by omega))
end
end Orange
end

section
set_option maxRecDepth 100000
namespace Go.Proofs.YtjapbjmeoaagmaaGreatDoor
open Go.RowKit Go.Mem Orange
theorem world_eq {p : World → Prop} {W W' : World} (h : W = W') (k : p W') : p W := h ▸ k
abbrev MC := List UInt8 × Array Value
def cellsMC (x : MC) : List Value := .string ⟨x.1.toArray⟩ :: x.2.toList
def ltK (x y : MC) : Bool := keyLess x.1 y.1
theorem ltK_ord : WOrd ltK := by
 refine ⟨fun h => keyLess_asymm h, fun {a b c} h k => ?_⟩; cases e : ltK a c with
 | false => rfl
 | true =>
   exfalso
   by_cases h1 : b.1 = c.1
   · have : keyLess a.1 b.1 = true := by rw [h1]; exact e
     have h' : keyLess a.1 b.1 = false := h; rw [h'] at this; cases this
   · have h2 : keyLess c.1 b.1 = true := keyLess_not (show keyLess b.1 c.1 = false from k) h1; have : keyLess a.1 b.1 = true := keyLess_trans (show keyLess a.1 c.1 = true from e) h2; have h' : keyLess a.1 b.1 = false := h; rw [h'] at this; cases this
def Eight (c : Array Value) : Prop := ∃ k b d s a1 n1 c1 a2 n2 c2, c = cellsV k b d s (.slice a1 n1 c1) (.slice a2 n2 c2)
theorem Eight.size {c : Array Value} (h : Eight c) : c.size = 8 := by
 obtain ⟨k, b, d, s, a1, n1, c1, a2, n2, c2, rfl⟩ := h; rfl
def RowS (w : World) (g cap n : Nat) (f : Nat → MC) : Prop :=
 RowC w g 9 43 cap (listF (fun i => cellsMC (f i)) n) ∧ ∀ i, i < n → (f i).1.length ≤ 35184372088000 ∧ Eight (f i).2
theorem RowS.lt {w : World} {g cap n : Nat} {f : Nat → MC} (h : RowS w g cap n f) : g < w.heap.size := h.1.lt
theorem RowS.keep {w w' : World} {g cap n : Nat} {f : Nat → MC} (h : RowS w g cap n f) (hb : w'.heap[g]? = w.heap[g]?) : RowS w' g cap n f := ⟨h.1.keep hb, h.2⟩
theorem RowS.ext {w w' : World} {g cap n : Nat} {f : Nat → MC} (h : RowS w g cap n f) (hx : Ext w w') : RowS w' g cap n f := h.keep (hx.block g h.lt)
theorem RowS.key {w : World} {g cap n : Nat} {f : Nat → MC} (h : RowS w g cap n f) {i : Nat} (hi : i < n) : (f i).1.length ≤ 35184372088000 := (h.2 i hi).1
theorem RowS.eight {w : World} {g cap n : Nat} {f : Nat → MC} (h : RowS w g cap n f) {i : Nat} (hi : i < n) : (f i).2.size = 8 := (h.2 i hi).2.size
theorem RowS.cap {w : World} {g cap n : Nat} {f : Nat → MC} (h : RowS w g cap n f) : n ≤ cap := by
 obtain ⟨cur, h1, h2, h3, _⟩ := h.1; simpa [listF] using h3
theorem RowS.cell {w : World} {g cap n : Nat} {f : Nat → MC} (h : RowS w g cap n f) {i : Nat} (hi : i < n) {j : Nat} (hj : j < 9) : w.cell? ⟨g, i * 9 + j, none⟩ = (cellsMC (f i))[j]? := by
 rw [h.1.cell (i := i) (by simpa [listF] using hi) hj, listF_get]
theorem RowS.free {w : World} {g cap n : Nat} {f : Nat → MC} (h : RowS w g cap n f) (o : Nat) : w.frozen? ⟨g, o, none⟩ = false := h.1.free o
theorem cellsMC_len {x : MC} (h : x.2.size = 8) : (cellsMC x).length = 9 := by simp [cellsMC, h]
theorem RowS.put {w : World} {g cap n : Nat} {f : Nat → MC} (h : RowS w g cap n f) {i : Nat} (hi : i < n) (x : MC) (hx : x.1.length ≤ 35184372088000 ∧ Eight x.2) : RowS (storeL w g (i * 9) (cellsMC x)) g cap n (fun k => if k = i then x else f k) := by
 refine ⟨?_, fun k hk' => ?_⟩
 · have h1 := h.1.store (i := i) (by simpa [listF] using hi) 0 9 (cellsMC x) (by rw [cellsMC_len hx.2.size]) (Nat.le_refl _); have hl : ((listF (fun i => cellsMC (f i)) n)[i]'(by simpa [listF] using hi)).length = 9 := by rw [listF_get]; exact cellsMC_len (h.eight hi)
   rw [List.take_zero, List.drop_of_length_le (by omega), List.nil_append, List.append_nil, listF_set] at h1; have e : (fun k => if k = i then cellsMC x else cellsMC (f k)) = (fun k => cellsMC (if k = i then x else f k)) := by
    funext k; split <;> rfl
   rw [e] at h1; exact h1
 · show (if k = i then x else f k).1.length ≤ _ ∧ Eight (if k = i then x else f k).2; split
   · exact hx
   · exact h.2 k hk'
theorem sw_put {f : Nat → MC} (i j : Nat) : (fun k => if k = j then f i else if k = i then f j else f k) = sw f i j := by
 rw [sw_comm]; rfl
theorem RowS.nine {w : World} {g cap n : Nat} {f : Nat → MC} (h : RowS w g cap n f) {i : Nat} (hi : i < n) : ∃ key k b d s a1 n1 c1 a2 n2 c2, f i = (key, cellsV k b d s (.slice a1 n1 c1) (.slice a2 n2 c2)) ∧ key.length ≤ 35184372088000 ∧ ∀ w' : World, Ext w w' →
 w'.cell? ⟨g, i * 9, none⟩ = some (.string ⟨key.toArray⟩) ∧ w'.cell? ⟨g, i * 9 + 1, none⟩ = some (.int .i64 k) ∧ w'.cell? ⟨g, i * 9 + 2, none⟩ = some (.bool b) ∧ w'.cell? ⟨g, i * 9 + 3, none⟩ = some (.bool d.neg) ∧ w'.cell? ⟨g, i * 9 + 4, none⟩ = some (.string ⟨d.digits.toArray⟩) ∧ w'.cell? ⟨g, i * 9 + 5, none⟩ = some (.int .i64 d.exp) ∧ w'.cell? ⟨g, i * 9 + 6, none⟩ = some (.string ⟨s.toArray⟩) ∧ w'.cell? ⟨g, i * 9 + 7, none⟩ = some (.slice a1 n1 c1) ∧ w'.cell? ⟨g, i * 9 + 8, none⟩ = some (.slice a2 n2 c2) := by
 obtain ⟨hk, k, b, d, s, a1, n1, c1, a2, n2, c2, e⟩ := h.2 i hi; refine ⟨(f i).1, k, b, d, s, a1, n1, c1, a2, n2, c2, by rw [← e], hk, fun w' hx => ?_⟩; have hc : ∀ j, j < 9 → w'.cell? ⟨g, i * 9 + j, none⟩ = (cellsMC (f i))[j]? := fun j hj => (h.ext hx).cell hi hj
 have e2 : cellsMC (f i) = [.string ⟨(f i).1.toArray⟩, .int .i64 k, .bool b, .bool d.neg, .string ⟨d.digits.toArray⟩, .int .i64 d.exp, .string ⟨s.toArray⟩, .slice a1 n1 c1, .slice a2 n2 c2] := by rw [cellsMC, e]
 rw [e2] at hc; exact ⟨hc 0 (by omega), hc 1 (by omega), hc 2 (by omega), hc 3 (by omega), hc 4 (by omega), hc 5 (by omega), hc 6 (by omega), hc 7 (by omega), hc 8 (by omega)⟩
theorem or_strange (n : Int) (h0 : 0 ≤ n) (h1 : n < 256) : bits .or .i32 2097152 n = 2097152 + n := by
 have h := (bits_nat .i32 31 (by decide) wraps_i32 2097152 n.toNat (by decide) (by omega)).2; rw [nat_join 8 2097152 n.toNat (by decide) (by omega)] at h; have e : ((n.toNat : Nat) : Int) = n := by omega
 rw [e] at h; have e2 : ((2097152 : Nat) : Int) = 2097152 := rfl; rw [e2] at h; rw [h]; omega
theorem slice_eq {a b : Option Addr} {n m c d : Nat} (h0 : a = b) (h1 : n = m) (h2 : c = d) : Value.slice a n c = Value.slice b m d := by rw [h0, h1, h2]
def lenOf' : Value → Nat | .slice _ n _ => n | _ => 0
set_option maxHeartbeats 1600000 in
theorem each_any (f : Nat) (hf : f = 112 ∨ f = 113) (s : ByteArray) (p : Nat) (w : World) (hp : p < w.heap.size) (hl : s.size ≤ 140737488355328)
 (I : List Int → World → Prop) (hext : ∀ done w w', I done w → Ext w w' → I done w') (hI : I [] w)
 (hstep : ∀ done r w', I done w' → done.length + 1 ≤ s.size → -2147483648 ≤ r → r ≤ 2147483647 → w.heap.size < w'.heap.size → Calls Tryz.prog f #[.int .i32 r, .pointer (some ⟨p, 0, none⟩)] w' fun e w'' => e = .returned (.tuple #[]) ∧ I (done ++ [r]) w'' ∧ Kept (w.heap.size + 1) p w' w'') :
 Calls Tryz.prog 111 #[.string s, .func (.func f) #[] #[.pointer (some ⟨p, 0, none⟩)]] w fun e w' => e = .returned (.tuple #[]) ∧ I (marks s.data.toList) w' ∧ Kept w.heap.size p w w' := by
 have HSTEP := Hd hstep; have HEXT := Hd hext; clear hstep hext; rcases hf with rfl | rfl
 all_goals
  go_enter Tryz.func111, Tryz.ntmps111
  go_wp2_with (refine wpList_bytes_of_string w rfl 9 56 5 _ rfl s rfl Tryz.underlying9 Tryz.underlying56 Tryz.underlying5 hl ?_; intro cap w1 hw1 hcap hcm hsz hat)
  have hL : s.data.toList.length = s.size := Array.length_toList; obtain ⟨L, hLe⟩ := Ex s.data.toList; rw [hLe] at hat hL; have HLE := Hd hLe; clear hLe
  go_loopw [4] (fun v wr => ∃ (i o : Nat) (done : List Int), i ≤ s.size ∧ marks L = done ++ marks (L.drop i) ∧ done.length ≤ i ∧ I done wr ∧ Kept (w.heap.size + 1) p w1 wr ∧ v = .slice (some ⟨w.heap.size, o, none⟩) (s.size - i) (cap - i) ∧ (i < s.size → o = i)) (fun v _ => lenOf' v)
  case atStart => exact ⟨0, 0, [], by omega, rfl, by simp, HEXT.out _ _ _ hI hw1, Kept.refl _ _ _, rfl, fun _ => rfl⟩
  case round =>
   obtain ⟨i, o, done, hi, hm, hdl, hId, hk, rfl, ho⟩ := hrel; have HM := Hd hm; clear hm; by_cases hlt : i < s.size
   · obtain rfl := ho hlt; have hbs : Bytes wr (.slice (some ⟨w.heap.size, o, none⟩) (s.size - o) (cap - o)) (L.drop o) := by
      have := (hat.kept hk (by omega) (by omega)).drop o; rw [Nat.zero_add] at this; exact Bytes.mk this (by simp [hL]) (by omega) (by omega) (by omega)
     obtain ⟨x, t, hxt⟩ : ∃ x t, L.drop o = x :: t := by
      cases h : L.drop o with
      | nil => simp at h; omega
      | cons x t => exact ⟨x, t, rfl⟩
     have hmc := marks_cons x t; have hmk : Orange.mark (L.drop o) = if (next (L.drop o)).2 = 0 then 2097152 + (x.toNat : Int) else (next (L.drop o)).1 := by rw [hxt]; rfl
     rw [← hxt] at hmc; have hle := next_le (L.drop o); have hbd := next_bd (L.drop o); have hlen : (L.drop o).length = s.size - o := by simp [hL]
     rw [hlen] at hle; have hx8 : x.toNat < 256 := x.toNat_lt; have hc0 : wr.cell? ⟨w.heap.size, o, none⟩ = some (.int .u8 x.toNat) := by
      have h1 := hbs; rw [hxt] at h1; rcases h1.cases with ⟨h, _⟩ | ⟨x', t', b', o', cap', h, h2, _, _, _, _, h3, _, _⟩
      · cases h
      · simp only [List.cons.injEq] at h; simp only [Value.slice.injEq, Option.some.injEq, Addr.mk.injEq, and_true] at h2; obtain ⟨⟨rfl, rfl⟩, _, _⟩ := h2; obtain ⟨rfl, _⟩ := h; exact h3
     have hcl : w.heap.size < wr.heap.size := by have := hk.size; omega
     have HMC := Hd hmc; have HMK := Hd hmk; clear hmc hmk hxt hlen; by_cases hz : (next (L.drop o)).2 = 0
     · have hor := or_strange x.toNat (by omega) (by omega); go_wp2_with (first
        | (go_at_call 139; refine (next_any _ _ _ hbs).mono ?_; rintro e w' ⟨rfl, hb1⟩; have hc1 := hb1.cell (p := ⟨w.heap.size, o, none⟩) hcl; rw [hc0] at hc1)
        | (refine (HSTEP.out done _ _ (HEXT.out _ _ _ hId hb1) (by omega) (by omega) (by omega) (by have := hb1.size; omega)).mono ?_; rintro e w2 ⟨rfl, hI2, hk2⟩))
       all_goals
        have hk3 : Kept (w.heap.size + 1) p w1 w2 := (hk.trans (Kept.ofBelow (hb1.mono (by omega)))).trans hk2; go_roundw
        case rel =>
         have hm2 : marks L = (done ++ [2097152 + (x.toNat : Int)]) ++ marks (L.drop (o + 1)) := by
          rw [HM.out, HMC.out, HMK.out, if_pos hz]; simp [adv, hz]
         exact ⟨o + 1, if cap - o = 1 then o else o + 1, _, by omega, hm2, by simp; omega, hI2, hk3, slice_eq (by split <;> rfl) (by omega) (by omega), fun h => if_neg (by omega)⟩
        case measure => simp [lenOf']; omega
     · have hz1 : ((((next (L.drop o)).2 : Nat) : Int) == 0) = false := by simp; omega
       go_wp2_with (first
        | (go_at_call 139; refine (next_any _ _ _ hbs).mono ?_; rintro e w' ⟨rfl, hb1⟩)
        | (refine (HSTEP.out done _ _ (HEXT.out _ _ _ hId hb1) (by omega) (by omega) (by omega) (by have := hb1.size; omega)).mono ?_; rintro e w2 ⟨rfl, hI2, hk2⟩))
       all_goals
        have hk3 : Kept (w.heap.size + 1) p w1 w2 := (hk.trans (Kept.ofBelow (hb1.mono (by omega)))).trans hk2; go_roundw
        case rel =>
         have hm2 : marks L = (done ++ [(next (L.drop o)).1]) ++ marks (L.drop (o + (next (L.drop o)).2)) := by
          rw [HM.out, HMC.out, HMK.out, if_neg hz]; simp [adv, hz]
         exact ⟨o + (next (L.drop o)).2, if cap - o = (next (L.drop o)).2 then o else o + (next (L.drop o)).2, _, by omega, hm2, by simp; omega, hI2, hk3, slice_eq (by split <;> rfl) (by omega) (by omega), fun h => if_neg (by omega)⟩
        case measure => simp [lenOf']; omega
   · have hz2 : ¬ (0 < s.size - i) := by omega
     obtain rfl : i = s.size := by omega
     go_wp2_with fail; go_end0
     refine ⟨rfl, ?_, ((Kept.ofBelow hw1).trans (hk.mono (by omega)))⟩; have := HM.out; rw [List.drop_eq_nil_of_le (by omega), marks_nil, List.append_nil] at this; rw [HLE.out, this]; exact hId
theorem marks_len : ∀ (b : List UInt8), (marks b).length ≤ b.length := by
 have h : ∀ (n : Nat) (b : List UInt8), b.length ≤ n → (marks b).length ≤ b.length := by
  intro n; induction n with
  | zero => intro b hb; cases b with
    | nil => simp [marks_nil]
    | cons x t => simp at hb
  | succ n ih =>
    intro b hb; cases b with
    | nil => simp [marks_nil]
    | cons x t =>
      rw [marks_cons, List.length_cons]; have ha := adv_pos (x :: t); have := ih ((x :: t).drop (adv (x :: t))) (by simp at hb ⊢; omega); simp at this ⊢; omega
 exact fun b => h b.length b (Nat.le_refl _)
def cells32 (xs : List Int) : List Value := xs.map fun r => Value.int .i32 r
theorem info32 : (Tryz.prog.info? 21).map (fun i => (i.zero, i.size, i.bytes)) = some (some (.int .i32 0), 1, 4) := by kernel_rfl
def Gath (base p : Nat) (done : List Int) (w : World) : Prop :=
 ∃ v, w.heap[p]? = some (.cells #[v] 152 (0, 0)) ∧ w.ownsRow base 21 1 v done.length (cells32 done)
theorem Gath.ext {base p : Nat} {done : List Int} {w w' : World} (h : Gath base p done w) (hb : Ext w w') : Gath base p done w' := by
 obtain ⟨v, h1, h2⟩ := h; refine ⟨v, by rw [hb.block _ (lt_of_block h1)]; exact h1, h2.1, ?_⟩; rcases h2.2 with h | ⟨g, cap, cur, e, hb', hg, rest⟩
 · exact .inl h
 · exact .inr ⟨g, cap, cur, e, hb', by rw [hb.block g (Array.getElem?_eq_some_iff.1 hg).1]; exact hg, rest⟩
theorem Gath.kept {base p B q : Nat} {done : List Int} {w w' : World} (h : Gath base p done w) (hk : Kept B q w w') (hB : w.heap.size ≤ B) (hpq : p ≠ q) (hq : q < base) : Gath base p done w' := by
 obtain ⟨v, h1, h2⟩ := h; have hp := lt_of_block h1; refine ⟨v, by rw [hk.block _ (by omega) hpq]; exact h1, h2.1, ?_⟩; rcases h2.2 with h | ⟨g, cap, cur, e, hb', hg, rest⟩
 · exact .inl h
 · have hgl := (Array.getElem?_eq_some_iff.1 hg).1; exact .inr ⟨g, cap, cur, e, hb', by rw [hk.block g (by omega) (by omega)]; exact hg, rest⟩
theorem own_shape {w : World} {base : Nat} {e : TypeId} {size : Nat} {v : Value} {n : Nat} {xs : List Value} (h : w.ownsRow base e size v n xs) : ∃ a c, v = .slice a n c := by
 rcases h.2 with ⟨rfl, rfl⟩ | ⟨g, cap, cur, rfl, _⟩
 · exact ⟨_, _, rfl⟩
 · exact ⟨_, _, rfl⟩
theorem one_grown {w w' : World} {o : Obj} {base p : Nat} {v u : Value} {t : TypeId} {e : TypeId} {size n : Nat} {xs : List Value} (h : w.heap[p]? = some (.cells #[u] t (0, 0))) (hown : (w.alloc o).ownsRow base e size v n xs) (hg : (w.alloc o).grownBy w' v.ownBlock) (hp : p < base) : w'.heap[p]? = some (.cells #[u] t (0, 0)) := by
 have hl := lt_of_block h; rw [hg.block p (by simp; omega) (fun e => by have := (hown.lt p e.symm).1; omega), Below.heap_alloc _ _ _ hl]; exact h
set_option maxHeartbeats 800000 in
theorem lessFn (f : Nat) (hf : f = 112 ∨ f = 113) (r : Int) (base p : Nat) (done : List Int) (w : World) (h : Gath base p done w) (hp : p < base) (hbase : base ≤ w.heap.size) (hn : done.length + 1 ≤ 35184372088832) :
 Calls Tryz.prog f #[.int .i32 r, .pointer (some ⟨p, 0, none⟩)] w fun e w' => e = .returned (.tuple #[]) ∧ Gath base p (done ++ [r]) w' ∧ Kept base p w w' := by
 obtain ⟨v, h1, h2⟩ := h; have hc := cell_of_one h1; have hf0 := free_of_one h1; have hpl := lt_of_block h1; rcases hf with rfl | rfl
 · obtain ⟨i0, hi, hz0, hz1, hz2⟩ := info_parts info32; have hown' : (w.alloc (.cells #[.int .i32 r] 21)).ownsRow base 21 1 v done.length (cells32 done) := h2.alloc _; have hbs : base ≤ (w.alloc (.cells #[.int .i32 r] 21)).heap.size := by simp; omega
   have H1 := Hd h1; clear h1; go_enter Tryz.func112, Tryz.ntmps112
   go_wp2_with (at_builtin; refine wpList_append_src _ rfl _ _ 152 152 rfl base 21 i0 (.int .i32 0) 1 4 Tryz.underlying152 hi hz0 hz1 hz2 rfl (by decide) v _ _ rfl hown' _ 1 [.int .i32 r] rfl (Src.ofSlice _ Tryz.underlying152 ⟨w.heap.size, 0, none⟩ 1 1 _ rfl (cell_of_block1 (heap_alloc_new _ _)) (one_of1 rfl)) (by simp only [maxLen]; omega) (by omega) hbs ?_; intro v5 w5 hown5 hgr5; obtain ⟨a5, c5, rfl⟩ := own_shape hown5; have h5 := one_grown H1.out hown' hgr5 hp; have hc5 := cell_of_one h5; have hf5 := free_of_one h5; have H5 := Hd h5; clear h5)
   go_end0
   have hk1 : Kept base p w (w.alloc (.cells #[.int .i32 r] 21)) := Kept.ofBelow ((Below.refl base w).alloc hbase _); have hk2 : Kept base p (w.alloc (.cells #[.int .i32 r] 21)) w5 := Kept.ofBelow (Below.ofGrown hgr5 hown' hbs); refine ⟨rfl, ⟨_, one_setCell H5.out, ?_⟩, (hk1.trans hk2).trans (Kept.setCell _)⟩; have e : cells32 (done ++ [r]) = cells32 done ++ [.int .i32 r] := by simp [cells32]
   rw [e, List.length_append]; exact ownsRow_setCell_below hown5 hp _
 · obtain ⟨i0, hi, hz0, hz1, hz2⟩ := info_parts info32; have hown' : (w.alloc (.cells #[.int .i32 r] 21)).ownsRow base 21 1 v done.length (cells32 done) := h2.alloc _; have hbs : base ≤ (w.alloc (.cells #[.int .i32 r] 21)).heap.size := by simp; omega
   have H1 := Hd h1; clear h1; go_enter Tryz.func113, Tryz.ntmps113
   go_wp2_with (at_builtin; refine wpList_append_src _ rfl _ _ 152 152 rfl base 21 i0 (.int .i32 0) 1 4 Tryz.underlying152 hi hz0 hz1 hz2 rfl (by decide) v _ _ rfl hown' _ 1 [.int .i32 r] rfl (Src.ofSlice _ Tryz.underlying152 ⟨w.heap.size, 0, none⟩ 1 1 _ rfl (cell_of_block1 (heap_alloc_new _ _)) (one_of1 rfl)) (by simp only [maxLen]; omega) (by omega) hbs ?_; intro v5 w5 hown5 hgr5; obtain ⟨a5, c5, rfl⟩ := own_shape hown5; have h5 := one_grown H1.out hown' hgr5 hp; have hc5 := cell_of_one h5; have hf5 := free_of_one h5; have H5 := Hd h5; clear h5)
   go_end0
   have hk1 : Kept base p w (w.alloc (.cells #[.int .i32 r] 21)) := Kept.ofBelow ((Below.refl base w).alloc hbase _); have hk2 : Kept base p (w.alloc (.cells #[.int .i32 r] 21)) w5 := Kept.ofBelow (Below.ofGrown hgr5 hown' hbs); refine ⟨rfl, ⟨_, one_setCell H5.out, ?_⟩, (hk1.trans hk2).trans (Kept.setCell _)⟩; have e : cells32 (done ++ [r]) = cells32 done ++ [.int .i32 r] := by simp [cells32]
   rw [e, List.length_append]; exact ownsRow_setCell_below hown5 hp _
theorem Gath.read {base p : Nat} {done : List Int} {w : World} (h : Gath base p done w) : ∃ a c, w.cell? ⟨p, 0, none⟩ = some (.slice a done.length c) ∧
 (0 < done.length → ∃ g, a = some ⟨g, 0, none⟩ ∧ ∀ i, (h : i < done.length) → w.cell? ⟨g, i, none⟩ = some (.int .i32 done[i])) := by
 obtain ⟨v, h1, h2⟩ := h; obtain ⟨a, c, rfl⟩ := own_shape h2; refine ⟨a, c, cell_of_one h1, fun hn => ?_⟩; rcases h2.2 with ⟨h, h0⟩ | ⟨g, cap, cur, e, hb, hg, hnc, hcm, hcs, ht⟩
 · omega
 · simp only [Value.slice.injEq] at e; obtain ⟨rfl, _, rfl⟩ := e; refine ⟨g, rfl, fun i hi => ?_⟩; have hc : (cells32 done)[i]? = some (.int .i32 done[i]) := by simp [cells32, hi]
   rw [← ht, Nat.mul_one, List.getElem?_take] at hc; simp only [hi, if_true, Array.getElem?_toList] at hc; simp [World.cell?, hg, hc]
set_option maxHeartbeats 1600000 in
theorem less_any (s t : ByteArray) (w : World) (hs : s.size ≤ 35184372088000) (ht : t.size ≤ 35184372088000) :
 Calls Tryz.prog 91 #[.string s, .string t] w fun e w' => e = .returned (.bool (lessL (marks s.data.toList) (marks t.data.toList))) ∧ Ext w w' := by
 go_enter Tryz.func91, Tryz.ntmps91
 go_wp2_with fail; generalize hw1 : ((w.alloc (.cells #[.slice none 0 0] 152)).alloc (.cells #[.slice none 0 0] 152)) = w1; have hsz : w1.heap.size = w.heap.size + 2 := by rw [← hw1]; simp
 have hb1 : w1.heap[w.heap.size]? = some (.cells #[.slice none 0 0] 152 (0, 0)) := by rw [← hw1, Below.heap_alloc _ _ _ (by simp)]; exact heap_alloc_new _ _
 have hb2 : w1.heap[w.heap.size + 1]? = some (.cells #[.slice none 0 0] 152 (0, 0)) := by rw [← hw1, show w.heap.size + 1 = (w.alloc (.cells #[.slice none 0 0] 152)).heap.size by simp]; exact heap_alloc_new _ _
 have hx1 : Ext w w1 := by rw [← hw1]; exact ((ext_refl w).alloc (Nat.le_refl _) _).alloc (by simp) _
 clear hw1; refine (each_any _ (.inl rfl) s _ _ (by omega) (by omega) (fun done w' => Gath (w1.heap.size + 1) w.heap.size done w') (fun _ _ _ h hx => h.ext hx) ⟨_, hb1, World.ownsRow_nil _ _ _ _⟩ ?_).mono ?_
 · intro done r w' h hd _ _ hlt; exact lessFn _ (.inl rfl) r _ _ done w' h (by omega) (by omega) (by omega)
 rintro e w2 ⟨rfl, hg1, hk2⟩; have hb2' : w2.heap[w.heap.size + 1]? = some (.cells #[.slice none 0 0] 152 (0, 0)) := by rw [hk2.block _ (by omega) (by omega)]; exact hb2
 have hz2 := hk2.size; clear hb1 hb2; go_wp2_with fail; refine (each_any _ (.inr rfl) t _ _ (by omega) (by omega) (fun done w' => Gath (w2.heap.size + 1) (w.heap.size + 1) done w') (fun _ _ _ h hx => h.ext hx) ⟨_, hb2', World.ownsRow_nil _ _ _ _⟩ ?_).mono ?_
 · intro done r w' h hd _ _ hlt; exact lessFn _ (.inr rfl) r _ _ done w' h (by omega) (by omega) (by omega)
 rintro e w3 ⟨rfl, hg2, hk3⟩; have hg1' := hg1.kept hk3 (Nat.le_refl _) (by omega) (by omega); have hx3 : Ext w w3 := hx1.trans (((hk2.mono (show w.heap.size ≤ w1.heap.size by omega)).below (Nat.le_refl _)).trans ((hk3.mono (show w.heap.size ≤ w2.heap.size by omega)).below (by omega))); obtain ⟨a1, c1, hc1, he1⟩ := hg1'.read; obtain ⟨a2, c2, hc2, he2⟩ := hg2.read
 have hl1 : (marks s.data.toList).length ≤ 35184372088000 := Nat.le_trans (marks_len _) (by rw [Array.length_toList]; exact hs); have hl2 : (marks t.data.toList).length ≤ 35184372088000 := Nat.le_trans (marks_len _) (by rw [Array.length_toList]; exact ht); obtain ⟨l, hLe⟩ := Ex (marks s.data.toList); obtain ⟨m, hMe⟩ := Ex (marks t.data.toList); rw [hLe] at hc1 he1 hl1; rw [hMe] at hc2 he2 hl2
 have HLE := Hd hLe; have HME := Hd hMe; clear hLe hMe; have HE1 := Hd he1; have HE2 := Hd he2; clear he1 he2 hg1 hg1' hg2 hk2 hk3 hb2' hz2; go_wp2_with fail; all_goals
  go_loopw [19] (fun kv wr => ∃ k n : Nat, kv = .int .i64 k ∧ k ≤ l.length ∧ k ≤ m.length ∧ wr = w3.drewN n ∧ lessL l m = lessL (l.drop k) (m.drop k)) (fun kv _ => l.length - (intOf kv).toNat)
  case atStart => exact ⟨0, 0, rfl, by omega, by omega, rfl, rfl⟩
  case round =>
   obtain ⟨k, n, rfl, hk1, hk2, rfl, hr⟩ := hrel; have HR := Hd hr; clear hr; by_cases hlt : k < l.length ∧ k < m.length
   · obtain ⟨h1, h2⟩ := hlt; obtain ⟨g1, rfl, hg1⟩ := HE1.out (by omega); obtain ⟨g2, rfl, hg2⟩ := HE2.out (by omega); have hx1 := hg1 k h1; have hx2 := hg2 k h2; have hat := lessL_at l m k h1 h2; generalize l[k] = x at hx1 hat; generalize m[k] = y at hx2 hat; have HAT := Hd hat; clear hat hg1 hg2; by_cases hxy : x = y
     · have hb : (x != y) = false := by simp [hxy]
       have HXY := Hd hxy; clear hxy; go_wp2_with fail; go_quiet (fail)
       go_wp2_with fail; go_roundw
       case rel => exact ⟨k + 1, _, by go_num, by omega, by omega, rfl, by rw [HR.out, HAT.out, if_pos HXY.out]⟩
       case measure => simp [intOf]; omega
     · have hb : (x != y) = true := by simp [hxy]
       go_wp2_with fail; go_quiet (fail)
       go_wp2_with fail; go_quiet (fail)
       go_wp2_with fail; go_ret; exact ⟨ret_bool (by rw [HLE.out, HME.out, HR.out, HAT.out, if_neg hxy]), below_drewN (below_drewN (below_drewN hx3 _) _) _⟩
   · have hkk : k = min l.length m.length := by omega
     have hend := lessL_end l m k hkk; have HEND := Hd hend; clear hend hkk; go_wp2_with fail; go_ret; exact ⟨ret_bool (by rw [HLE.out, HME.out, HR.out, HEND.out]), below_drewN hx3 _⟩
def cmpV (a b : List UInt8) : Int := if keyLess a b = true then -1 else if keyLess b a = true then 1 else 0
theorem cmpV_lt (a b : List UInt8) : decide (cmpV a b < 0) = keyLess a b := by
 unfold cmpV; cases h : keyLess a b with
 | true => rfl
 | false =>
   cases h2 : keyLess b a with
   | true => rfl
   | false => rfl
theorem ordered_any (s t : ByteArray) (w : World) (hs : s.size ≤ 35184372088000) (ht : t.size ≤ 35184372088000) :
 Calls Tryz.prog 71 #[.string s, .string t] w fun e w' => e = .returned (.int .i64 (cmpV s.data.toList t.data.toList)) ∧ Ext w w' := by
 go_enter Tryz.func71, Tryz.ntmps71
 go_wp2_with fail; refine (less_any s t w hs ht).mono ?_; rintro e w1 ⟨rfl, hx1⟩; have hK : keyLess s.data.toList t.data.toList = lessL (marks s.data.toList) (marks t.data.toList) := rfl; have hK2 : keyLess t.data.toList s.data.toList = lessL (marks t.data.toList) (marks s.data.toList) := rfl; cases h : lessL (marks s.data.toList) (marks t.data.toList) with
 | true =>
   go_wp2_with fail; go_ret; refine ⟨?_, hx1⟩; unfold cmpV; rw [hK, h, if_pos rfl]; rfl
 | false =>
   go_wp2_with fail; refine (less_any t s w1 ht hs).mono ?_; rintro e w2 ⟨rfl, hx2⟩; cases h2 : lessL (marks t.data.toList) (marks s.data.toList) with
   | true =>
     go_wp2_with fail; go_ret; refine ⟨?_, ext_trans hx1 hx2⟩; unfold cmpV; rw [hK, h, if_neg (by decide), hK2, h2, if_pos rfl]; rfl
   | false =>
     go_wp2_with fail; go_ret; refine ⟨?_, ext_trans hx1 hx2⟩; unfold cmpV; rw [hK, h, if_neg (by decide), hK2, h2, if_neg (by decide)]; rfl
theorem cmp_any (kx ky : List UInt8) (c0 c1 c2 c3 c4 c5 c6 c7 d0 d1 d2 d3 d4 d5 d6 d7 : Value) (w : World) (hkx : kx.length ≤ 35184372088000) (hky : ky.length ≤ 35184372088000) :
 Calls Tryz.prog 70 #[.agg #[.string ⟨kx.toArray⟩, c0, c1, c2, c3, c4, c5, c6, c7], .agg #[.string ⟨ky.toArray⟩, d0, d1, d2, d3, d4, d5, d6, d7]] w fun e w' => e = .returned (.int .i64 (cmpV kx ky)) ∧ Ext w w' := by
 go_enter Tryz.func70, Tryz.ntmps70
 go_wp2_with fail; refine (ordered_any _ _ _ (by simpa [ByteArray.size] using hkx) (by simpa [ByteArray.size] using hky)).mono ?_; rintro e w1 ⟨rfl, hx1⟩; go_wp2_with fail; go_ret; exact ⟨rfl, ext_trans (((ext_refl w).alloc (Nat.le_refl _) _).alloc (by simp) _) hx1⟩
theorem cmpV_true {a b : List UInt8} (h : keyLess a b = true) : cmpV a b < 0 := by simpa [h] using cmpV_lt a b
theorem cmpV_false {a b : List UInt8} (h : keyLess a b = false) : ¬ cmpV a b < 0 := by simpa [h] using cmpV_lt a b
set_option maxHeartbeats 6400000 in
theorem insSort_any (g cap n : Nat) (f : Nat → MC) (a b : Nat) (w : World) (h : RowS w g cap n f) (hab : a ≤ b) (hb : b ≤ n) (hn : n ≤ 1000000) :
 Calls Tryz.prog 109 #[.slice (some ⟨g, 0, none⟩) n cap, .int .i64 a, .int .i64 b, .func (.func 70) #[] #[]] w (fun e w' => e = .returned (.tuple #[]) ∧ ∃ f', RowS w' g cap n f' ∧ Sw a b f f' ∧ SOn ltK a b f' ∧ KeptP g w w') := by
 have wa : IntKind.i64.wrap ((a : Int) + 1) = ((a + 1 : Nat) : Int) := by rw [IntWalk.i64_in _ (by omega)]; omega
 have H := Hd h; clear h; go_enter Tryz.func109, Tryz.ntmps109
 go_wp2_with fail; go_loopw [8] (fun iv wr => ∃ (i : Nat) (F0 : Nat → MC), iv = .int .i64 i ∧ a + 1 ≤ i ∧ (i ≤ b ∨ i = a + 1) ∧ SOn ltK a i F0 ∧ Sw a b f F0 ∧ RowS wr g cap n F0 ∧ KeptP g w wr) (fun iv _ => b - (intOf iv).toNat)
 case atStart => exact ⟨a + 1, f, rfl, by omega, .inr rfl, .short (by omega), .refl, H.out, KeptP.refl _ _⟩
 case round =>
  obtain ⟨i, F0, rfl, hi, hib, hso, hsw, hr, hk⟩ := hrel; have HSO := Hd hso; have HSW := Hd hsw; have HR0 := Hd hr; have HK0 := Hd hk; clear hso hsw hr hk H wa; by_cases hlt : i < b
  · have wi : IntKind.i64.wrap ((i : Int) + 1) = ((i + 1 : Nat) : Int) := by rw [IntWalk.i64_in _ (by omega)]; omega
    go_wp2_with fail; go_loopw [9] (fun jv wx => ∃ (j : Nat) (F : Nat → MC), jv = .int .i64 j ∧ a ≤ j ∧ j ≤ i ∧ Ins ltK a i j F ∧ Sw a b f F ∧ RowS wx g cap n F ∧ KeptP g w wx) (fun jv _ => (intOf jv).toNat)
    case atStart => exact ⟨i, F0, rfl, by omega, by omega, Ins.start HSO.out, HSW.out, HR0.out, HK0.out⟩
    case round =>
     obtain ⟨j, F, rfl, hj, hji, hins, hsw, hr, hk⟩ := hrel; have HIN := Hd hins; have HSW := Hd hsw; have HR := Hd hr; have HK := Hd hk; clear hins hsw hr hk; by_cases hja : a < j
     · have q1 : decide ((a : Int) < (j : Int)) = true := by simp; omega
       obtain ⟨p, hp⟩ := Ex (j - 1); have wj : IntKind.i64.wrap ((j : Int) - 1) = (p : Int) := by rw [IntWalk.i64_in _ (by omega)]; omega
       have hjn : j < n := by omega
       have hpn : p < n := by omega
       obtain ⟨jkey, jk, jb, jd, js, ja1, jn1, jc1, ja2, jn2, jc2, ej, hjk, hcj⟩ := HR.out.nine hjn; obtain ⟨pkey, pk, pb, pd, ps, pa1, pn1, pc1, pa2, pn2, pc2, ep, hpk, hcp⟩ := HR.out.nine hpn; have HCJ := Hd hcj; have HCP := Hd hcp; have hlt2 : ltK (F j) (F p) = keyLess jkey pkey := by rw [ej, ep]; rfl
       have HLT := Hd hlt2; clear hcj hcp ej ep hlt2; have hjl : (j : Int) < n := by omega
       have hj0 : (0 : Int) ≤ j := by omega
       have hpl : (p : Int) < n := by omega
       have hp0 : (0 : Int) ≤ p := by omega
       go_upto_region 4 with fail; refine Grow.wp_region_litW (G := Ext) (B := fun w' => Ext wr w') (anc := fun _ => []) (I := fun j => if j = 14 then some (Grow.Spec.val Ext (.int .i64 (cmpV jkey pkey))) else none) (by kernel_rfl) (by kernel_rfl) (by kernel_rfl) ?_ ?_ ?_
       · exact fun w w' h hg => ext_trans h hg
       · exact (ext_refl _).drew
       repeat
        (refine Grow.Wk.step (fun K hK => ?_)
         first
         | (refine Grow.step_read (by rfl) (by rfl) (fun w => ext_refl w) ?_
            apply Exists.intro; refine ⟨fun w hB hF => ?_, ?_⟩
            · first | (replace hB : Ext _ w := hB; obtain ⟨x0, x1, x2, x3, x4, x5, x6, x7, x8⟩ := HCJ.out w hB; obtain ⟨y0, y1, y2, y3, y4, y5, y6, y7, y8⟩ := HCP.out w hB) | skip
              go_simp; try exact rfl
            go_simp; refine hK _ _ ?_; clear hK K)
         | (refine Grow.step_off (by rfl) ?_
            go_simp; refine hK _ _ ?_; clear hK K))
       refine Grow.Wk.step (fun K hK => ?_); refine Grow.step_rel (by rfl) (by rfl) (fun w' hB hF => ?_) (fun v hv => ?_)
       · go_simp; refine Grow.relUpon_enter ((cmp_any jkey pkey _ _ _ _ _ _ _ _ _ _ _ _ _ _ _ _ w' hjk hpk).mono ?_); rintro e w'' ⟨rfl, hw''⟩; exact ⟨_, rfl, hw'', rfl, trivial⟩
       obtain rfl : v = _ := hv; go_simp; refine hK _ _ ?_; clear hK K; repeat
        (refine Grow.Wk.step (fun K hK => ?_)
         first
         | (refine Grow.step_read (by rfl) (by rfl) (fun w => ext_refl w) ?_
            apply Exists.intro; refine ⟨fun w hB hF => ?_, ?_⟩
            · skip
              go_simp; try exact rfl
            go_simp; refine hK _ _ ?_; clear hK K)
         | (refine Grow.step_off (by rfl) ?_
            go_simp; refine hK _ _ ?_; clear hK K))
       refine Grow.Wk.nil ?_; intro wv hB hF; replace hB : Ext wr wv := hB; clear hF; have HR4 := Hd (HR.out.ext hB); have HKX := Hd (HK.out.trans (KeptP.ofExt hB)); clear hB; cases hl : keyLess jkey pkey with
       | true =>
         have q3 := cmpV_true hl; have HL := Hd (HLT.out.trans hl); clear hl HLT HCJ HCP; go_upto_region 6 with fail; clear wj; have wj2 : IntKind.i64.wrap ((j : Int) - 1) = (p : Int) := by rw [IntWalk.i64_in _ (by omega)]; omega
         obtain ⟨ikey, ik, ib, id', is', ia1, in1, ic1, ia2, in2, ic2, ei, hik, hci⟩ := HR4.out.nine hjn; obtain ⟨jkey, jk, jb, jd, js, ja1, jn1, jc1, ja2, jn2, jc2, ej, hjk, hcj⟩ := HR4.out.nine hpn; have HCI := Hd hci; have HCJ := Hd hcj; have hput := HR4.out.put hjn (F p) (HR4.out.2 _ hpn); rw [ej] at hput; have HPUT := Hd hput; have HEI := Hd ei; have HEJ := Hd ej; have hil : (j : Int) < n := by omega
         have hjl : (p : Int) < n := by omega
         have hi0 : (0 : Int) ≤ j := by omega
         have hj0 : (0 : Int) ≤ p := by omega
         obtain ⟨F1, hF1⟩ : ∃ F1, (fun x => if x = j then ((jkey, cellsV jk jb jd js (.slice ja1 jn1 jc1) (.slice ja2 jn2 jc2)) : MC) else F x) = F1 := ⟨_, rfl⟩
         rw [hF1] at HPUT; have HF1 := Hd hF1; clear hci hcj hput ei ej hF1
         refine GrowS.wp_region_restW (G0 := Ext) (G1 := fun w1 w' => KeptP g w1 w' ∧ RowS w' g cap n F1) (B0 := fun w' => Ext wv w') (B1 := fun w' => KeptP g wv w' ∧ RowS w' g cap n F1) (E := fun _ _ => False) (anc := fun j => []) (I := fun j => if j = 15 then some (GrowS.Spec.val _ undef) else none) 15 16 (fun j => ([[], [], [], [], [3], [], [], [6], [5, 6, 7], [5, 6, 7, 8], [], [], [10, 11], [10, 11, 12], [0, 1, 5, 6, 7, 8, 9, 10, 11, 12, 13], [0, 1, 5, 6, 7, 8, 9, 10, 11, 12, 13, 14], [0, 1, 2, 3, 4, 5, 6, 7, 8, 9, 10, 11, 12, 13, 14, 15], [0, 1, 2, 3, 4, 5, 6, 7, 8, 9, 10, 11, 12, 13, 14, 15, 16]] : List (List Nat)).getD j []) (Array.replicate 16 true ++ Array.replicate 2 false)
          (by kernel_rfl) (by kernel_rfl) (by kernel_rfl) (by kernel_rfl) (by kernel_rfl) (by kernel_rfl) ?_ ?_ ?_ ?_ ?_ ?_
         · exact fun w w' h hg => ext_trans h hg
         · exact fun w1 w' h hg => ⟨h.1.trans (KeptP.ofExt hg), h.2.ext hg⟩
         · exact fun w1 w' h hg => ⟨(KeptP.ofExt h).trans hg.1, hg.2⟩
         · exact fun _ _ _ _ h => h.elim
         · exact (ext_refl _).drew
         simp only [List.take_succ_cons, List.take_zero, List.drop_succ_cons, List.drop_zero]; repeat
          (refine GrowS.Wk.step (fun K hK => ?_)
           first
           | (refine GrowS.step_read (by rfl) (by rfl) (fun w => ext_refl w) ?_
              apply Exists.intro; refine ⟨fun w hB hF => ?_, ?_⟩
              · first | (replace hB : Ext _ w := hB; obtain ⟨x0, x1, x2, x3, x4, x5, x6, x7, x8⟩ := HCI.out w hB; obtain ⟨y0, y1, y2, y3, y4, y5, y6, y7, y8⟩ := HCJ.out w hB) | skip
                go_simp; try exact rfl
              go_simp; refine hK _ _ ?_; clear hK K)
           | (refine GrowS.step_off (by rfl) ?_
              go_simp; refine hK _ _ ?_; clear hK K))
         refine GrowS.Wk.step (fun K hK => ?_); refine GrowS.step_rel (by rfl) (by rfl) (fun w' hB hF => ?_) (fun v hv => ?_)
         · replace hB : Ext wv w' := hB; obtain ⟨x0, x1, x2, x3, x4, x5, x6, x7, x8⟩ := HCI.out w' hB; have fr := (HR4.out.ext hB).free; have hput2 := (HR4.out.ext hB).put hjn (F p) (HR4.out.2 _ hpn); rw [HEJ.out, HF1.out] at hput2; have HP2 := Hd hput2; have HKS := Hd (KeptP.storeL (q := g) (w := w') (cellsMC (jkey, cellsV jk jb jd js (.slice ja1 jn1 jc1) (.slice ja2 jn2 jc2))) (j * 9)); clear hput2
           go_simp; exact ⟨⟨HKS.out, HP2.out⟩, rfl, trivial⟩
         obtain rfl : v = undef := hv; go_simp; refine hK _ _ ?_; clear hK K; refine GrowS.Wk.nil ?_; intro w3 hB hF; obtain ⟨hk3, hr3⟩ := hB; clear hF; have HR3 := Hd hr3; have HK3 := Hd hk3; clear hr3 hk3; refine wpAny_one 16 (by decide +kernel) ?_; refine wpOp_now rfl (by rfl) ?_; unfold Oper.wp; go_simp; refine wpAny_one 17 (by decide +kernel) ?_; refine wpOp_now rfl (by rfl) ?_; unfold Oper.wp
         have hput3 := HR3.out.put hpn (ikey, cellsV ik ib id' is' (.slice ia1 in1 ic1) (.slice ia2 in2 ic2)) (by rw [← HEI.out]; exact HR4.out.2 _ hjn); have HP3 := Hd hput3; have HKS3 := Hd (HK3.out.trans (KeptP.storeL (q := g) (w := w3) (cellsMC (ikey, cellsV ik ib id' is' (.slice ia1 in1 ic1) (.slice ia2 in2 ic2))) (p * 9)))
         obtain ⟨lkey, lk, lb, ld, ls, la1, ln1, lc1, la2, ln2, lc2, el, hlk, hcl⟩ := HR3.out.nine hpn; obtain ⟨x0, x1, x2, x3, x4, x5, x6, x7, x8⟩ := hcl w3 (ext_refl _); have fr := HR3.out.free; clear hput3 hcl el hlk; go_simp; clear x0 x1 x2 x3 x4 x5 x6 x7 x8 fr; show wpAny _ _ _ _ 0 _ _ _; refine ⟨by decide +kernel, ?_⟩
         have esw : (fun x => if x = p then ((ikey, cellsV ik ib id' is' (.slice ia1 in1 ic1) (.slice ia2 in2 ic2)) : MC) else F1 x) = sw F j p := by
          rw [← sw_put, ← HF1.out, HEI.out, HEJ.out]
         have hout := HP3.out; rw [esw] at hout; have hkout := HKS3.out; clear esw HP3 HKS3 HR3 HK3 HF1 HEI HEJ HPUT HCI HCJ; obtain ⟨w4, hw4⟩ := Ex (storeL w3 g (p * 9) (cellsMC (ikey, cellsV ik ib id' is' (.slice ia1 in1 ic1) (.slice ia2 in2 ic2)))); rw [hw4] at hout hkout; refine world_eq (W' := storeL w3 g (p * 9) (cellsMC (ikey, cellsV ik ib id' is' (.slice ia1 in1 ic1) (.slice ia2 in2 ic2)))) rfl ?_
         rw [hw4]; clear hw4; have HR5 := Hd hout; have HK4 := Hd hkout; clear hout hkout; go_wp2_with fail; go_roundw
         case rel =>
          have h1 := (HIN.out).next ltK_ord hja hji (by rw [hp]; exact HL.out); rw [hp] at h1; exact ⟨p, sw F j p, rfl, by omega, by omega, h1, .step HSW.out (by omega) (by omega) (by omega) (by omega), HR5.out, HKX.out.trans HK4.out⟩
         case measure => simp [intOf]; omega
       | false =>
         have q3 := cmpV_false hl; have HL := Hd (HLT.out.trans hl); clear hl HLT HCJ HCP; go_wp2_with fail; go_roundw
         case rel => exact ⟨i + 1, F, by go_num, by omega, .inl (by omega), (HIN.out).stop ltK_ord (.inr ⟨hja, by rw [hp]; exact HL.out⟩), HSW.out, HR4.out, HKX.out⟩
         case measure => simp [intOf]; omega
     · have q1 : decide ((a : Int) < (j : Int)) = false := by simp; omega
       go_upto_region 4 with fail; refine Grow.wp_region_litW (G := Ext) (B := fun w' => Ext wr w') (anc := fun _ => []) (I := fun j => none) (by kernel_rfl) (by kernel_rfl) (by kernel_rfl) ?_ ?_ ?_
       · exact fun w w' h hg => ext_trans h hg
       · exact (ext_refl _).drew
       repeat
        (refine Grow.Wk.step (fun K hK => ?_)
         first
         | (refine Grow.step_read (by rfl) (by rfl) (fun w => ext_refl w) ?_
            apply Exists.intro; refine ⟨fun w hB hF => ?_, ?_⟩
            · skip
              go_simp; try exact rfl
            go_simp; refine hK _ _ ?_; clear hK K)
         | (refine Grow.step_off (by rfl) ?_
            go_simp; refine hK _ _ ?_; clear hK K))
       refine Grow.Wk.nil ?_; intro wv hB hF; replace hB : Ext wr wv := hB; clear hF; have HR4 := Hd (HR.out.ext hB); have HKX := Hd (HK.out.trans (KeptP.ofExt hB)); clear hB; go_wp2_with fail; go_roundw
       case rel => exact ⟨i + 1, F, by go_num, by omega, .inl (by omega), (HIN.out).stop ltK_ord (.inl (by omega)), HSW.out, HR4.out, HKX.out⟩
       case measure => simp [intOf]; omega
  · go_wp2_with fail; go_end0
    exact ⟨rfl, F0, HR0.out, HSW.out, HSO.out.mono (Nat.le_refl _) (by omega), HK0.out⟩
set_option maxHeartbeats 6400000 in
theorem swapRange_any (g cap n : Nat) (f : Nat → MC) (a b m : Nat) (cb : Value) (w : World) (h : RowS w g cap n f) (hd : a + m ≤ b) (hb : b + m ≤ n) (hn : n ≤ 1000000) :
 Calls Tryz.prog 186 #[.slice (some ⟨g, 0, none⟩) n cap, .int .i64 a, .int .i64 b, .int .i64 m, cb] w (fun e w' => e = .returned (.tuple #[]) ∧ RowS w' g cap n (exF f a b m) ∧ KeptP g w w') := by
 have H := Hd h; clear h; go_enter Tryz.func186, Tryz.ntmps186
 go_wp2_with fail; go_loopw [10] (fun kv wr => ∃ k : Nat, kv = .int .i64 k ∧ k ≤ m ∧ RowS wr g cap n (exF f a b k) ∧ KeptP g w wr) (fun kv _ => m - (intOf kv).toNat)
 case atStart => exact ⟨0, rfl, by omega, by rw [exF_zero]; exact H.out, KeptP.refl _ _⟩
 case round =>
  obtain ⟨k, rfl, hk, hr, hkp⟩ := hrel; by_cases hlt : k < m
  · have HR := Hd hr; have HK := Hd hkp; clear hr hkp H; obtain ⟨F, hF⟩ := Ex (exF f a b k); have hnx := exF_next (f := f) (a := a) (b := b) (n := m) (k := k) hd hlt; rw [hF] at HR hnx; have HN := Hd hnx; clear hnx hF; have w1 : IntKind.i64.wrap ((a : Int) + k) = ((a + k : Nat) : Int) := by rw [IntWalk.i64_in _ (by omega)]; omega
    have w2 : IntKind.i64.wrap ((b : Int) + k) = ((b + k : Nat) : Int) := by rw [IntWalk.i64_in _ (by omega)]; omega
    have hia : a + k < n := by omega
    have hib : b + k < n := by omega
    go_upto_region 3 with fail; obtain ⟨i, hi⟩ := Ex (a + k); obtain ⟨j, hj⟩ := Ex (b + k); rw [hi] at w1 hia HN; rw [hj] at w2 hib HN; obtain ⟨ikey, ik, ib, id', is', ia1, in1, ic1, ia2, in2, ic2, ei, hik, hci⟩ := HR.out.nine hia; obtain ⟨jkey, jk, jb, jd, js, ja1, jn1, jc1, ja2, jn2, jc2, ej, hjk, hcj⟩ := HR.out.nine hib; have HCI := Hd hci; have HCJ := Hd hcj
    have hput := HR.out.put hia (F j) (HR.out.2 _ hib); rw [ej] at hput; have HPUT := Hd hput; have HEI := Hd ei; have HEJ := Hd ej; have hil : (i : Int) < n := by omega
    have hjl : (j : Int) < n := by omega
    have hi0 : (0 : Int) ≤ i := by omega
    have hj0 : (0 : Int) ≤ j := by omega
    obtain ⟨F1, hF1⟩ : ∃ F1, (fun x => if x = i then ((jkey, cellsV jk jb jd js (.slice ja1 jn1 jc1) (.slice ja2 jn2 jc2)) : MC) else F x) = F1 := ⟨_, rfl⟩
    rw [hF1] at HPUT; have HF1 := Hd hF1; clear hci hcj hput ei ej hF1
    refine GrowS.wp_region_restW (G0 := Ext) (G1 := fun w1 w' => KeptP g w1 w' ∧ RowS w' g cap n F1) (B0 := fun w' => Ext wr w') (B1 := fun w' => KeptP g wr w' ∧ RowS w' g cap n F1) (E := fun _ _ => False) (anc := fun j => []) (I := fun j => if j = 21 then some (GrowS.Spec.val _ undef) else none) 21 22 (fun j => ([[], [], [], [1, 2], [], [], [], [5, 6], [], [], [], [9, 10], [8, 9, 10, 11], [8, 9, 10, 11, 12], [], [], [], [15, 16], [14, 15, 16, 17], [14, 15, 16, 17, 18], [0, 1, 2, 3, 8, 9, 10, 11, 12, 13, 14, 15, 16, 17, 18, 19], [0, 1, 2, 3, 8, 9, 10, 11, 12, 13, 14, 15, 16, 17, 18, 19, 20], [0, 1, 2, 3, 4, 5, 6, 7, 8, 9, 10, 11, 12, 13, 14, 15, 16, 17, 18, 19, 20, 21], [0, 1, 2, 3, 4, 5, 6, 7, 8, 9, 10, 11, 12, 13, 14, 15, 16, 17, 18, 19, 20, 21, 22]] : List (List Nat)).getD j []) (Array.replicate 22 true ++ Array.replicate 2 false)
     (by kernel_rfl) (by kernel_rfl) (by kernel_rfl) (by kernel_rfl) (by kernel_rfl) (by kernel_rfl) ?_ ?_ ?_ ?_ ?_ ?_
    · exact fun w w' h hg => ext_trans h hg
    · exact fun w1 w' h hg => ⟨h.1.trans (KeptP.ofExt hg), h.2.ext hg⟩
    · exact fun w1 w' h hg => ⟨(KeptP.ofExt h).trans hg.1, hg.2⟩
    · exact fun _ _ _ _ h => h.elim
    · exact (ext_refl _).drew
    simp only [List.take_succ_cons, List.take_zero, List.drop_succ_cons, List.drop_zero]; repeat
     (refine GrowS.Wk.step (fun K hK => ?_)
      first
      | (refine GrowS.step_read (by rfl) (by rfl) (fun w => ext_refl w) ?_
         apply Exists.intro; refine ⟨fun w hB hF => ?_, ?_⟩
         · first | (replace hB : Ext _ w := hB; obtain ⟨x0, x1, x2, x3, x4, x5, x6, x7, x8⟩ := HCI.out w hB; obtain ⟨y0, y1, y2, y3, y4, y5, y6, y7, y8⟩ := HCJ.out w hB) | skip
           go_simp; try exact rfl
         go_simp; refine hK _ _ ?_; clear hK K)
      | (refine GrowS.step_off (by rfl) ?_
         go_simp; refine hK _ _ ?_; clear hK K))
    refine GrowS.Wk.step (fun K hK => ?_); refine GrowS.step_rel (by rfl) (by rfl) (fun w' hB hF => ?_) (fun v hv => ?_)
    · replace hB : Ext wr w' := hB; obtain ⟨x0, x1, x2, x3, x4, x5, x6, x7, x8⟩ := HCI.out w' hB; have fr := (HR.out.ext hB).free; have hput2 := (HR.out.ext hB).put hia (F j) (HR.out.2 _ hib); rw [HEJ.out, HF1.out] at hput2; have HP2 := Hd hput2; have HKS := Hd (KeptP.storeL (q := g) (w := w') (cellsMC (jkey, cellsV jk jb jd js (.slice ja1 jn1 jc1) (.slice ja2 jn2 jc2))) (i * 9)); clear hput2; go_simp
      exact ⟨⟨HKS.out, HP2.out⟩, rfl, trivial⟩
    obtain rfl : v = undef := hv; go_simp; refine hK _ _ ?_; clear hK K; refine GrowS.Wk.nil ?_; intro w3 hB hF; obtain ⟨hk3, hr3⟩ := hB; clear hF; have HR3 := Hd hr3; have HK3 := Hd hk3; clear hr3 hk3; refine wpAny_one 22 (by decide +kernel) ?_; refine wpOp_now rfl (by rfl) ?_; unfold Oper.wp; go_simp; refine wpAny_one 23 (by decide +kernel) ?_; refine wpOp_now rfl (by rfl) ?_; unfold Oper.wp
    have hput3 := HR3.out.put hib (ikey, cellsV ik ib id' is' (.slice ia1 in1 ic1) (.slice ia2 in2 ic2)) (by rw [← HEI.out]; exact HR.out.2 _ hia); have HP3 := Hd hput3; have HKS3 := Hd (HK3.out.trans (KeptP.storeL (q := g) (w := w3) (cellsMC (ikey, cellsV ik ib id' is' (.slice ia1 in1 ic1) (.slice ia2 in2 ic2))) (j * 9)))
    obtain ⟨lkey, lk, lb, ld, ls, la1, ln1, lc1, la2, ln2, lc2, el, hlk, hcl⟩ := HR3.out.nine hib; obtain ⟨x0, x1, x2, x3, x4, x5, x6, x7, x8⟩ := hcl w3 (ext_refl _); have fr := HR3.out.free; clear hput3 hcl el hlk; go_simp; clear x0 x1 x2 x3 x4 x5 x6 x7 x8 fr; show wpAny _ _ _ _ 0 _ _ _; refine ⟨by decide +kernel, ?_⟩
    have esw : (fun x => if x = j then ((ikey, cellsV ik ib id' is' (.slice ia1 in1 ic1) (.slice ia2 in2 ic2)) : MC) else F1 x) = sw F i j := by
     rw [← sw_put, ← HF1.out, HEI.out, HEJ.out]
    have hout := HP3.out; rw [esw] at hout; have hkout := HKS3.out; clear esw HP3 HKS3 HR3 HK3 HF1 HEI HEJ HPUT HCI HCJ; obtain ⟨w4, hw4⟩ := Ex (storeL w3 g (j * 9) (cellsMC (ikey, cellsV ik ib id' is' (.slice ia1 in1 ic1) (.slice ia2 in2 ic2)))); rw [hw4] at hout hkout; refine world_eq (W' := storeL w3 g (j * 9) (cellsMC (ikey, cellsV ik ib id' is' (.slice ia1 in1 ic1) (.slice ia2 in2 ic2)))) rfl ?_
    rw [hw4]; clear hw4; have HR4 := Hd hout; have HK4 := Hd hkout; clear hout hkout; go_wp2_with fail; go_roundw
    case rel => exact ⟨k + 1, by go_num, by omega, by rw [← HN.out]; exact HR4.out, HK.out.trans HK4.out⟩
    case measure => simp [intOf]; omega
  · go_wp2_with fail; go_end0
    obtain rfl : k = m := by omega
    exact ⟨rfl, hr, hkp⟩
set_option maxHeartbeats 3200000 in
theorem rotate_any (g cap n : Nat) (f : Nat → MC) (a m b : Nat) (cb : Value) (w : World) (h : RowS w g cap n f) (h1 : a < m) (h2 : m < b) (hb : b ≤ n) (hn : n ≤ 1000000) :
 Calls Tryz.prog 148 #[.slice (some ⟨g, 0, none⟩) n cap, .int .i64 a, .int .i64 m, .int .i64 b, cb] w (fun e w' => e = .returned (.tuple #[]) ∧ RowS w' g cap n (rotF f a m b) ∧ Sw a b f (rotF f a m b) ∧ KeptP g w w') := by
 have w1 : IntKind.i64.wrap ((m : Int) - a) = ((m - a : Nat) : Int) := by rw [IntWalk.i64_in _ (by omega)]; omega
 have w2 : IntKind.i64.wrap ((b : Int) - m) = ((b - m : Nat) : Int) := by rw [IntWalk.i64_in _ (by omega)]; omega
 have H := Hd h; clear h; go_enter Tryz.func148, Tryz.ntmps148
 go_wp2_with fail; go_loopw [10, 11] (fun iv jv wr => ∃ (i j : Nat) (F : Nat → MC), iv = .int .i64 i ∧ jv = .int .i64 j ∧ 0 < i ∧ 0 < j ∧ i ≤ m - a ∧ j ≤ b - m ∧ rotF F (m - i) m (m + j) = rotF f a m b ∧ Sw a b f F ∧ RowS wr g cap n F ∧ KeptP g w wr) (fun iv jv _ => (intOf iv).toNat + (intOf jv).toNat)
 case atStart => exact ⟨m - a, b - m, f, rfl, rfl, by omega, by omega, by omega, by omega, by rw [show m - (m - a) = a by omega, show m + (b - m) = b by omega], .refl, H.out, KeptP.refl _ _⟩
 case round =>
  obtain ⟨i, j, F, rfl, rfl, hi0, hj0, hi, hj, hrot, hsw, hr, hk⟩ := hrel; have HROT := Hd hrot; have HSW := Hd hsw; have HR := Hd hr; have HK := Hd hk; clear hrot hsw hr hk H w1 w2; have w3 : IntKind.i64.wrap ((m : Int) - i) = ((m - i : Nat) : Int) := by rw [IntWalk.i64_in _ (by omega)]; omega
  by_cases he : i = j
  · subst he; have q : (((i : Nat) : Int) != (i : Int)) = false := by simp
    go_wp2_with fail; refine (swapRange_any g cap n F (m - i) m i _ _ HR.out (by omega) (by omega) hn).mono ?_; rintro e w4 ⟨rfl, hr4, hk4⟩; go_wp2_with fail; go_end0
    rw [rot_eq (by omega), HROT.out] at hr4; refine ⟨rfl, hr4, ?_, HK.out.trans hk4⟩; rw [← HROT.out, ← rot_eq (by omega)]; exact HSW.out.trans (exF_sw (n := i) (by omega) (by omega) (by omega) i (Nat.le_refl _))
  · have q : (((i : Nat) : Int) != (j : Int)) = true := by simp; omega
    by_cases hgt : j < i
    · have q2 : decide ((j : Int) < (i : Int)) = true := by simp; omega
      have w4 : IntKind.i64.wrap ((i : Int) - j) = ((i - j : Nat) : Int) := by rw [IntWalk.i64_in _ (by omega)]; omega
      go_wp2_with fail; refine (swapRange_any g cap n F (m - i) m j _ _ HR.out (by omega) (by omega) hn).mono ?_; rintro e w5 ⟨rfl, hr4, hk4⟩; go_wp2_with fail; go_roundw
      case rel =>
       refine ⟨i - j, j, _, rfl, rfl, by omega, hj0, by omega, hj, ?_, HSW.out.trans (exF_sw (n := j) (by omega) (by omega) (by omega) j (Nat.le_refl _)), hr4, HK.out.trans hk4⟩; rw [show m - (i - j) = m - i + j by omega]; exact rot_gt (by omega) hgt HROT.out
      case measure => simp [intOf]; omega
    · have q2 : decide ((j : Int) < (i : Int)) = false := by simp; omega
      have w4 : IntKind.i64.wrap ((j : Int) - i) = ((j - i : Nat) : Int) := by rw [IntWalk.i64_in _ (by omega)]; omega
      obtain ⟨mj, hmj⟩ : ∃ x, m + j = x := ⟨_, rfl⟩
      obtain ⟨mi, hmi⟩ : ∃ x, m + j - i = x := ⟨_, rfl⟩
      have w5 : IntKind.i64.wrap ((m : Int) + j) = (mj : Int) := by rw [IntWalk.i64_in _ (by omega)]; omega
      have w6 : IntKind.i64.wrap ((mj : Int) - i) = (mi : Int) := by rw [IntWalk.i64_in _ (by omega)]; omega
      go_wp2_with fail; refine (swapRange_any g cap n F (m - i) mi i _ _ HR.out (by omega) (by omega) hn).mono ?_; rintro e w7 ⟨rfl, hr4, hk4⟩; go_wp2_with fail; subst hmi; go_roundw
      case rel =>
       refine ⟨i, j - i, _, rfl, rfl, hi0, by omega, hi, by omega, ?_, HSW.out.trans (exF_sw (n := i) (by omega) (by omega) (by omega) i (Nat.le_refl _)), hr4, HK.out.trans hk4⟩; rw [show m + (j - i) = m + j - i by omega]; exact rot_lt (by omega) (by omega) HROT.out
      case measure => simp [intOf]; omega
def SymOk (D : Nat) : Prop := ∀ (g cap n : Nat) (f : Nat → MC) (a m b : Nat) (w : World), b - a < D → RowS w g cap n f → a < m → m < b → b ≤ n → n ≤ 1000000 → SOn ltK a m f → SOn ltK m b f →
    Calls Tryz.prog 110 #[.slice (some ⟨g, 0, none⟩) n cap, .int .i64 a, .int .i64 m, .int .i64 b, .func (.func 70) #[] #[]] w (fun e w' => e = .returned (.tuple #[]) ∧ ∃ f', RowS w' g cap n f' ∧ Sw a b f f' ∧ SOn ltK a b f' ∧ KeptP g w w')
theorem rotF_none {f : Nat → MC} {s m E : Nat} (h : m ≤ s ∨ E ≤ m) : rotF f s m E = f := by
 funext x
 simp only [rotF]; repeat' split
 all_goals first | rfl | (congr 1; omega) | (exfalso; omega)
set_option maxHeartbeats 12800000 in
theorem sym_a (D : Nat) (ih : SymOk D) (g cap n : Nat) (f : Nat → MC) (a m b : Nat) (w : World) (hD : b - a < D + 1) (h : RowS w g cap n f) (ham : a < m) (hmb : m < b) (hb : b ≤ n) (hn : n ≤ 1000000) (h1 : SOn ltK a m f) (h2 : SOn ltK m b f) (hma : m = a + 1) :
 Calls Tryz.prog 110 #[.slice (some ⟨g, 0, none⟩) n cap, .int .i64 a, .int .i64 m, .int .i64 b, .func (.func 70) #[] #[]] w (fun e w' => e = .returned (.tuple #[]) ∧ ∃ f', RowS w' g cap n f' ∧ Sw a b f f' ∧ SOn ltK a b f' ∧ KeptP g w w') := by
 have H := Hd h; have H1 := Hd h1; have H2 := Hd h2; have IH := Hd ih; clear h h1 h2 ih; go_enter Tryz.func110, Tryz.ntmps110
 have w1 : IntKind.i64.wrap ((m : Int) - a) = 1 := by rw [IntWalk.i64_in _ (by omega)]; omega
 have HMA := Hd hma; clear hma; go_wp2_with fail; clear w1 IH; go_loopw [10, 11] (fun iv jv wr => ∃ i j : Nat, iv = .int .i64 i ∧ jv = .int .i64 j ∧ m ≤ i ∧ i ≤ j ∧ j ≤ b ∧ (i = m ∨ ltK (f (i - 1)) (f a) = true) ∧ (j = b ∨ ltK (f j) (f a) = false) ∧ Ext w wr) (fun iv jv _ => (intOf jv).toNat - (intOf iv).toNat)
 case atStart => exact ⟨m, b, rfl, rfl, by omega, by omega, by omega, .inl rfl, .inl rfl, ext_refl _⟩
 case round =>
  obtain ⟨i, j, rfl, rfl, hi, hij, hj, hli, hlj, hx⟩ := hrel; have HLI := Hd hli; have HLJ := Hd hlj; have HX := Hd hx; clear hli hlj hx; by_cases hlt : i < j
  · have q2 : ((i : Nat) : Int) < j := by omega
    obtain ⟨sm, hsm⟩ := Ex (i + j); obtain ⟨c, hc⟩ := Ex (sm / 2); have s1 : IntKind.i64.wrap ((i : Int) + j) = (sm : Int) := by rw [IntWalk.i64_in _ (by omega)]; omega
    have s2 : (sm : Int) / 2 = (c : Int) := by omega
    have s3 : IntKind.i64.wrap ((c : Int) + 1) = ((c + 1 : Nat) : Int) := by rw [IntWalk.i64_in _ (by omega)]; omega
    have HR := Hd (H.out.ext HX.out); obtain ⟨jkey, jk, jb, jd, js, ja1, jn1, jc1, ja2, jn2, jc2, ej, hjk, hcj⟩ := HR.out.nine (i := c) (by omega); obtain ⟨pkey, pk, pb, pd, ps, pa1, pn1, pc1, pa2, pn2, pc2, ep, hpk, hcp⟩ := HR.out.nine (i := a) (by omega); have HCJ := Hd hcj; have HCP := Hd hcp; have hlt2 : ltK (f c) (f a) = keyLess jkey pkey := by rw [ej, ep]; rfl
    have HLT := Hd hlt2; clear hcj hcp ej ep hlt2; have hjl : ((c : Nat) : Int) < n := by omega
    have hj0 : (0 : Int) ≤ ((c : Nat) : Int) := by omega
    have hpl : ((a : Nat) : Int) < n := by omega
    have hp0 : (0 : Int) ≤ ((a : Nat) : Int) := by omega
    cases hl : keyLess jkey pkey with
    | true =>
      have q3 := cmpV_true hl; go_upto_region 5 with fail; refine Grow.wp_region_litW (G := Ext) (B := fun w' => Ext wr w') (anc := fun _ => []) (I := fun j => if j = 9 then some (Grow.Spec.val Ext (.int .i64 (cmpV jkey pkey))) else none) (by kernel_rfl) (by kernel_rfl) (by kernel_rfl) ?_ ?_ ?_
      · exact fun w w' h hg => ext_trans h hg
      · exact (ext_refl _).drew
      repeat
       (refine Grow.Wk.step (fun K hK => ?_)
        first
        | (refine Grow.step_read (by rfl) (by rfl) (fun w => ext_refl w) ?_
           apply Exists.intro; refine ⟨fun w hB hF => ?_, ?_⟩
           · first | (replace hB : Ext _ w := hB; obtain ⟨x0, x1, x2, x3, x4, x5, x6, x7, x8⟩ := HCJ.out w hB; obtain ⟨y0, y1, y2, y3, y4, y5, y6, y7, y8⟩ := HCP.out w hB) | skip
             go_simp; try exact rfl
           go_simp; refine hK _ _ ?_; clear hK K)
        | (refine Grow.step_off (by rfl) ?_
           go_simp; refine hK _ _ ?_; clear hK K))
      refine Grow.Wk.step (fun K hK => ?_); refine Grow.step_rel (by rfl) (by rfl) (fun w' hB hF => ?_) (fun v hv => ?_)
      · go_simp; refine Grow.relUpon_enter ((cmp_any jkey pkey _ _ _ _ _ _ _ _ _ _ _ _ _ _ _ _ w' hjk hpk).mono ?_); rintro e w'' ⟨rfl, hw''⟩; exact ⟨_, rfl, hw'', rfl, trivial⟩
      obtain rfl : v = _ := hv; go_simp; refine hK _ _ ?_; clear hK K; repeat
       (refine Grow.Wk.step (fun K hK => ?_)
        first
        | (refine Grow.step_read (by rfl) (by rfl) (fun w => ext_refl w) ?_
           apply Exists.intro; refine ⟨fun w hB hF => ?_, ?_⟩
           · skip
             go_simp; try exact rfl
           go_simp; refine hK _ _ ?_; clear hK K)
        | (refine Grow.step_off (by rfl) ?_
           go_simp; refine hK _ _ ?_; clear hK K))
      refine Grow.Wk.nil ?_; intro wv hB hF; replace hB : Ext wr wv := hB; clear hF HCJ HCP; have HXV := Hd (ext_trans HX.out hB); clear hB; have HL := Hd (HLT.out.trans hl); clear hl HLT; go_wp2_with fail; go_roundw
      case rel => exact ⟨c + 1, j, by go_num, rfl, by omega, by omega, hj, .inr HL.out, HLJ.out, HXV.out⟩
      case measure => simp [intOf]; omega
    | false =>
      have q3 := cmpV_false hl; go_upto_region 5 with fail; refine Grow.wp_region_litW (G := Ext) (B := fun w' => Ext wr w') (anc := fun _ => []) (I := fun j => if j = 9 then some (Grow.Spec.val Ext (.int .i64 (cmpV jkey pkey))) else none) (by kernel_rfl) (by kernel_rfl) (by kernel_rfl) ?_ ?_ ?_
      · exact fun w w' h hg => ext_trans h hg
      · exact (ext_refl _).drew
      repeat
       (refine Grow.Wk.step (fun K hK => ?_)
        first
        | (refine Grow.step_read (by rfl) (by rfl) (fun w => ext_refl w) ?_
           apply Exists.intro; refine ⟨fun w hB hF => ?_, ?_⟩
           · first | (replace hB : Ext _ w := hB; obtain ⟨x0, x1, x2, x3, x4, x5, x6, x7, x8⟩ := HCJ.out w hB; obtain ⟨y0, y1, y2, y3, y4, y5, y6, y7, y8⟩ := HCP.out w hB) | skip
             go_simp; try exact rfl
           go_simp; refine hK _ _ ?_; clear hK K)
        | (refine Grow.step_off (by rfl) ?_
           go_simp; refine hK _ _ ?_; clear hK K))
      refine Grow.Wk.step (fun K hK => ?_); refine Grow.step_rel (by rfl) (by rfl) (fun w' hB hF => ?_) (fun v hv => ?_)
      · go_simp; refine Grow.relUpon_enter ((cmp_any jkey pkey _ _ _ _ _ _ _ _ _ _ _ _ _ _ _ _ w' hjk hpk).mono ?_); rintro e w'' ⟨rfl, hw''⟩; exact ⟨_, rfl, hw'', rfl, trivial⟩
      obtain rfl : v = _ := hv; go_simp; refine hK _ _ ?_; clear hK K; repeat
       (refine Grow.Wk.step (fun K hK => ?_)
        first
        | (refine Grow.step_read (by rfl) (by rfl) (fun w => ext_refl w) ?_
           apply Exists.intro; refine ⟨fun w hB hF => ?_, ?_⟩
           · skip
             go_simp; try exact rfl
           go_simp; refine hK _ _ ?_; clear hK K)
        | (refine Grow.step_off (by rfl) ?_
           go_simp; refine hK _ _ ?_; clear hK K))
      refine Grow.Wk.nil ?_; intro wv hB hF; replace hB : Ext wr wv := hB; clear hF HCJ HCP; have HXV := Hd (ext_trans HX.out hB); clear hB; have HL := Hd (HLT.out.trans hl); clear hl HLT; go_wp2_with fail; go_roundw
      case rel => exact ⟨i, c, rfl, rfl, hi, by omega, by omega, HLI.out, .inr HL.out, HXV.out⟩
      case measure => simp [intOf]; omega
  · have q2 : ¬ ((i : Nat) : Int) < j := by omega
    obtain rfl : i = j := by omega
    have HR := Hd (H.out.ext HX.out); obtain ⟨i1, hi1⟩ := Ex (i - 1); have s1 : IntKind.i64.wrap ((i : Int) - 1) = (i1 : Int) := by rw [IntWalk.i64_in _ (by omega)]; omega
    go_wp2_with fail; go_loopw [13] (fun kv wr => ∃ (k : Nat), kv = .int .i64 k ∧ a ≤ k ∧ k ≤ i1 ∧ RowS wr g cap n (upF f a k) ∧ Sw a b f (upF f a k) ∧ KeptP g w wr) (fun kv _ => i1 - (intOf kv).toNat)
    case atStart => exact ⟨a, rfl, by omega, by have := HMA.out; omega, by rw [upF_self]; exact HR.out, by rw [upF_self]; exact .refl, KeptP.ofExt HX.out⟩
    case round =>
     obtain ⟨k, rfl, hk0, hk1, hr, hsw, hk⟩ := hrel; have HRK := Hd hr; have HSW := Hd hsw; have HKX := Hd hk; clear hr hsw hk; by_cases hlt2 : k < i1
     · have q3 : ((k : Nat) : Int) < i1 := by omega
       obtain ⟨k1, hk1e⟩ := Ex (k + 1); have s2 : IntKind.i64.wrap ((k : Int) + 1) = (k1 : Int) := by rw [IntWalk.i64_in _ (by omega)]; omega
       obtain ⟨F, hF⟩ := Ex (upF f a k); have hnx := upF_next (f := f) (a := a) (k := k) hk0; rw [hF, hk1e] at hnx; rw [hF] at HRK HSW; have HNX := Hd hnx; clear hnx hF; have hkn : k < n := by omega
       have hk1n : k1 < n := by omega
       go_upto_region 11 with fail; obtain ⟨ikey, ik, ib, id', is', ia1, in1, ic1, ia2, in2, ic2, ei, hik, hci⟩ := HRK.out.nine hkn; obtain ⟨jkey, jk, jb, jd, js, ja1, jn1, jc1, ja2, jn2, jc2, ej, hjk, hcj⟩ := HRK.out.nine hk1n; have HCI := Hd hci; have HCJ := Hd hcj; have hput := HRK.out.put hkn (F k1) (HRK.out.2 _ hk1n); rw [ej] at hput; have HPUT := Hd hput; have HEI := Hd ei; have HEJ := Hd ej
       have hil : (k : Int) < n := by omega
       have hjl : (k1 : Int) < n := by omega
       have hi0 : (0 : Int) ≤ k := by omega
       have hj0 : (0 : Int) ≤ k1 := by omega
       obtain ⟨F1, hF1⟩ : ∃ F1, (fun x => if x = k then ((jkey, cellsV jk jb jd js (.slice ja1 jn1 jc1) (.slice ja2 jn2 jc2)) : MC) else F x) = F1 := ⟨_, rfl⟩
       rw [hF1] at HPUT; have HF1 := Hd hF1; clear hci hcj hput ei ej hF1
       refine GrowS.wp_region_restW (G0 := Ext) (G1 := fun w1 w' => KeptP g w1 w' ∧ RowS w' g cap n F1) (B0 := fun w' => Ext wr w') (B1 := fun w' => KeptP g wr w' ∧ RowS w' g cap n F1) (E := fun _ _ => False) (anc := fun j => []) (I := fun j => if j = 15 then some (GrowS.Spec.val _ undef) else none) 15 16 (fun j => ([[], [], [], [], [3], [], [], [6], [5, 6, 7], [5, 6, 7, 8], [], [], [10, 11], [10, 11, 12], [0, 1, 5, 6, 7, 8, 9, 10, 11, 12, 13], [0, 1, 5, 6, 7, 8, 9, 10, 11, 12, 13, 14], [0, 1, 2, 3, 4, 5, 6, 7, 8, 9, 10, 11, 12, 13, 14, 15], [0, 1, 2, 3, 4, 5, 6, 7, 8, 9, 10, 11, 12, 13, 14, 15, 16]] : List (List Nat)).getD j []) (Array.replicate 16 true ++ Array.replicate 2 false)
        (by kernel_rfl) (by kernel_rfl) (by kernel_rfl) (by kernel_rfl) (by kernel_rfl) (by kernel_rfl) ?_ ?_ ?_ ?_ ?_ ?_
       · exact fun w w' h hg => ext_trans h hg
       · exact fun w1 w' h hg => ⟨h.1.trans (KeptP.ofExt hg), h.2.ext hg⟩
       · exact fun w1 w' h hg => ⟨(KeptP.ofExt h).trans hg.1, hg.2⟩
       · exact fun _ _ _ _ h => h.elim
       · exact (ext_refl _).drew
       simp only [List.take_succ_cons, List.take_zero, List.drop_succ_cons, List.drop_zero]; repeat
        (refine GrowS.Wk.step (fun K hK => ?_)
         first
         | (refine GrowS.step_read (by rfl) (by rfl) (fun w => ext_refl w) ?_
            apply Exists.intro; refine ⟨fun w hB hF => ?_, ?_⟩
            · first | (replace hB : Ext _ w := hB; obtain ⟨x0, x1, x2, x3, x4, x5, x6, x7, x8⟩ := HCI.out w hB; obtain ⟨y0, y1, y2, y3, y4, y5, y6, y7, y8⟩ := HCJ.out w hB) | skip
              go_simp; try exact rfl
            go_simp; refine hK _ _ ?_; clear hK K)
         | (refine GrowS.step_off (by rfl) ?_
            go_simp; refine hK _ _ ?_; clear hK K))
       refine GrowS.Wk.step (fun K hK => ?_); refine GrowS.step_rel (by rfl) (by rfl) (fun w' hB hF => ?_) (fun v hv => ?_)
       · replace hB : Ext wr w' := hB; obtain ⟨x0, x1, x2, x3, x4, x5, x6, x7, x8⟩ := HCI.out w' hB; have fr := (HRK.out.ext hB).free; have hput2 := (HRK.out.ext hB).put hkn (F k1) (HRK.out.2 _ hk1n); rw [HEJ.out, HF1.out] at hput2; have HP2 := Hd hput2; have HKS := Hd (KeptP.storeL (q := g) (w := w') (cellsMC (jkey, cellsV jk jb jd js (.slice ja1 jn1 jc1) (.slice ja2 jn2 jc2))) (k * 9)); clear hput2
         go_simp; exact ⟨⟨HKS.out, HP2.out⟩, rfl, trivial⟩
       obtain rfl : v = undef := hv; go_simp; refine hK _ _ ?_; clear hK K; refine GrowS.Wk.nil ?_; intro w3 hB hF; obtain ⟨hk3, hr3⟩ := hB; clear hF; have HR3 := Hd hr3; have HK3 := Hd hk3; clear hr3 hk3; refine wpAny_one 16 (by decide +kernel) ?_; refine wpOp_now rfl (by rfl) ?_; unfold Oper.wp; go_simp; refine wpAny_one 17 (by decide +kernel) ?_; refine wpOp_now rfl (by rfl) ?_; unfold Oper.wp
       have hput3 := HR3.out.put hk1n (ikey, cellsV ik ib id' is' (.slice ia1 in1 ic1) (.slice ia2 in2 ic2)) (by rw [← HEI.out]; exact HRK.out.2 _ hkn); have HP3 := Hd hput3; have HKS3 := Hd (HK3.out.trans (KeptP.storeL (q := g) (w := w3) (cellsMC (ikey, cellsV ik ib id' is' (.slice ia1 in1 ic1) (.slice ia2 in2 ic2))) (k1 * 9)))
       obtain ⟨lkey, lk, lb, ld, ls, la1, ln1, lc1, la2, ln2, lc2, el, hlk, hcl⟩ := HR3.out.nine hk1n; obtain ⟨x0, x1, x2, x3, x4, x5, x6, x7, x8⟩ := hcl w3 (ext_refl _); have fr := HR3.out.free; clear hput3 hcl el hlk; go_simp; clear x0 x1 x2 x3 x4 x5 x6 x7 x8 fr; show wpAny _ _ _ _ 0 _ _ _; refine ⟨by decide +kernel, ?_⟩
       have esw : (fun x => if x = k1 then ((ikey, cellsV ik ib id' is' (.slice ia1 in1 ic1) (.slice ia2 in2 ic2)) : MC) else F1 x) = sw F k k1 := by
        rw [← sw_put, ← HF1.out, HEI.out, HEJ.out]
       have hout := HP3.out; rw [esw] at hout; have hkout := HKS3.out; clear esw HP3 HKS3 HR3 HK3 HF1 HEI HEJ HPUT HCI HCJ; obtain ⟨w4, hw4⟩ := Ex (storeL w3 g (k1 * 9) (cellsMC (ikey, cellsV ik ib id' is' (.slice ia1 in1 ic1) (.slice ia2 in2 ic2)))); rw [hw4] at hout hkout; refine world_eq (W' := storeL w3 g (k1 * 9) (cellsMC (ikey, cellsV ik ib id' is' (.slice ia1 in1 ic1) (.slice ia2 in2 ic2)))) rfl ?_
       rw [hw4]; clear hw4; have HR5 := Hd hout; have HK4 := Hd hkout; clear hout hkout; go_wp2_with fail; go_roundw
       case rel => exact ⟨k1, rfl, by omega, by omega, by rw [← HNX.out]; exact HR5.out, by rw [← HNX.out]; exact .step HSW.out (by omega) (by omega) (by omega) (by omega), HKX.out.trans HK4.out⟩
       case measure => simp [intOf]; omega
     · have q3 : ¬ ((k : Nat) : Int) < i1 := by omega
       obtain rfl : k = i1 := by omega
       go_wp2_with fail; refine bodyPost_ret (results_none rfl _ _ _) rfl ?_; refine ⟨rfl, _, HRK.out, HSW.out, ?_, HKX.out⟩; rw [← hi1]; exact upF_sorted ltK_ord HMA.out H2.out hi hj HLI.out HLJ.out
set_option maxHeartbeats 12800000 in
theorem sym_b (D : Nat) (ih : SymOk D) (g cap n : Nat) (f : Nat → MC) (a m b : Nat) (w : World) (hD : b - a < D + 1) (h : RowS w g cap n f) (ham : a < m) (hmb : m < b) (hb : b ≤ n) (hn : n ≤ 1000000) (h1 : SOn ltK a m f) (h2 : SOn ltK m b f) (hma : ¬ m = a + 1) (hbm : b = m + 1) :
 Calls Tryz.prog 110 #[.slice (some ⟨g, 0, none⟩) n cap, .int .i64 a, .int .i64 m, .int .i64 b, .func (.func 70) #[] #[]] w (fun e w' => e = .returned (.tuple #[]) ∧ ∃ f', RowS w' g cap n f' ∧ Sw a b f f' ∧ SOn ltK a b f' ∧ KeptP g w w') := by
 have H := Hd h; have H1 := Hd h1; have H2 := Hd h2; have IH := Hd ih; clear h h1 h2 ih; go_enter Tryz.func110, Tryz.ntmps110
 obtain ⟨da, hda⟩ := Ex (m - a); have w1 : IntKind.i64.wrap ((m : Int) - a) = (da : Int) := by rw [IntWalk.i64_in _ (by omega)]; omega
 have w2 : IntKind.i64.wrap ((b : Int) - m) = 1 := by rw [IntWalk.i64_in _ (by omega)]; omega
 have q1 : ((da : Int) == 1) = false := by simp; omega
 have HMA := Hd hbm; clear hbm hda hma; go_wp2_with fail; clear w1 w2 q1 IH; go_loopw [14, 15] (fun iv jv wr => ∃ i j : Nat, iv = .int .i64 i ∧ jv = .int .i64 j ∧ a ≤ i ∧ i ≤ j ∧ j ≤ m ∧ (i = a ∨ ltK (f m) (f (i - 1)) = false) ∧ (j = m ∨ ltK (f m) (f j) = true) ∧ Ext w wr) (fun iv jv _ => (intOf jv).toNat - (intOf iv).toNat)
 case atStart => exact ⟨a, m, rfl, rfl, by omega, by omega, by omega, .inl rfl, .inl rfl, ext_refl _⟩
 case round =>
  obtain ⟨i, j, rfl, rfl, hi, hij, hj, hli, hlj, hx⟩ := hrel; have HLI := Hd hli; have HLJ := Hd hlj; have HX := Hd hx; clear hli hlj hx; by_cases hlt : i < j
  · have q2 : ((i : Nat) : Int) < j := by omega
    obtain ⟨sm, hsm⟩ := Ex (i + j); obtain ⟨c, hc⟩ := Ex (sm / 2); have s1 : IntKind.i64.wrap ((i : Int) + j) = (sm : Int) := by rw [IntWalk.i64_in _ (by omega)]; omega
    have s2 : (sm : Int) / 2 = (c : Int) := by omega
    have s3 : IntKind.i64.wrap ((c : Int) + 1) = ((c + 1 : Nat) : Int) := by rw [IntWalk.i64_in _ (by omega)]; omega
    have HR := Hd (H.out.ext HX.out); obtain ⟨jkey, jk, jb, jd, js, ja1, jn1, jc1, ja2, jn2, jc2, ej, hjk, hcj⟩ := HR.out.nine (i := m) (by omega); obtain ⟨pkey, pk, pb, pd, ps, pa1, pn1, pc1, pa2, pn2, pc2, ep, hpk, hcp⟩ := HR.out.nine (i := c) (by omega); have HCJ := Hd hcj; have HCP := Hd hcp; have hlt2 : ltK (f m) (f c) = keyLess jkey pkey := by rw [ej, ep]; rfl
    have HLT := Hd hlt2; clear hcj hcp ej ep hlt2; have hjl : ((m : Nat) : Int) < n := by omega
    have hj0 : (0 : Int) ≤ ((m : Nat) : Int) := by omega
    have hpl : ((c : Nat) : Int) < n := by omega
    have hp0 : (0 : Int) ≤ ((c : Nat) : Int) := by omega
    cases hl : keyLess jkey pkey with
    | true =>
      have q3 := cmpV_true hl; go_upto_region 17 with fail; refine Grow.wp_region_litW (G := Ext) (B := fun w' => Ext wr w') (anc := fun _ => []) (I := fun j => if j = 9 then some (Grow.Spec.val Ext (.int .i64 (cmpV jkey pkey))) else none) (by kernel_rfl) (by kernel_rfl) (by kernel_rfl) ?_ ?_ ?_
      · exact fun w w' h hg => ext_trans h hg
      · exact (ext_refl _).drew
      repeat
       (refine Grow.Wk.step (fun K hK => ?_)
        first
        | (refine Grow.step_read (by rfl) (by rfl) (fun w => ext_refl w) ?_
           apply Exists.intro; refine ⟨fun w hB hF => ?_, ?_⟩
           · first | (replace hB : Ext _ w := hB; obtain ⟨x0, x1, x2, x3, x4, x5, x6, x7, x8⟩ := HCJ.out w hB; obtain ⟨y0, y1, y2, y3, y4, y5, y6, y7, y8⟩ := HCP.out w hB) | skip
             go_simp; try exact rfl
           go_simp; refine hK _ _ ?_; clear hK K)
        | (refine Grow.step_off (by rfl) ?_
           go_simp; refine hK _ _ ?_; clear hK K))
      refine Grow.Wk.step (fun K hK => ?_); refine Grow.step_rel (by rfl) (by rfl) (fun w' hB hF => ?_) (fun v hv => ?_)
      · go_simp; refine Grow.relUpon_enter ((cmp_any jkey pkey _ _ _ _ _ _ _ _ _ _ _ _ _ _ _ _ w' hjk hpk).mono ?_); rintro e w'' ⟨rfl, hw''⟩; exact ⟨_, rfl, hw'', rfl, trivial⟩
      obtain rfl : v = _ := hv; go_simp; refine hK _ _ ?_; clear hK K; repeat
       (refine Grow.Wk.step (fun K hK => ?_)
        first
        | (refine Grow.step_read (by rfl) (by rfl) (fun w => ext_refl w) ?_
           apply Exists.intro; refine ⟨fun w hB hF => ?_, ?_⟩
           · skip
             go_simp; try exact rfl
           go_simp; refine hK _ _ ?_; clear hK K)
        | (refine Grow.step_off (by rfl) ?_
           go_simp; refine hK _ _ ?_; clear hK K))
      refine Grow.Wk.nil ?_; intro wv hB hF; replace hB : Ext wr wv := hB; clear hF HCJ HCP; have HXV := Hd (ext_trans HX.out hB); clear hB; have HL := Hd (HLT.out.trans hl); clear hl HLT; go_wp2_with fail; go_roundw
      case rel => exact ⟨i, c, rfl, rfl, hi, by omega, by omega, HLI.out, .inr HL.out, HXV.out⟩
      case measure => simp [intOf]; omega
    | false =>
      have q3 := cmpV_false hl; go_upto_region 17 with fail; refine Grow.wp_region_litW (G := Ext) (B := fun w' => Ext wr w') (anc := fun _ => []) (I := fun j => if j = 9 then some (Grow.Spec.val Ext (.int .i64 (cmpV jkey pkey))) else none) (by kernel_rfl) (by kernel_rfl) (by kernel_rfl) ?_ ?_ ?_
      · exact fun w w' h hg => ext_trans h hg
      · exact (ext_refl _).drew
      repeat
       (refine Grow.Wk.step (fun K hK => ?_)
        first
        | (refine Grow.step_read (by rfl) (by rfl) (fun w => ext_refl w) ?_
           apply Exists.intro; refine ⟨fun w hB hF => ?_, ?_⟩
           · first | (replace hB : Ext _ w := hB; obtain ⟨x0, x1, x2, x3, x4, x5, x6, x7, x8⟩ := HCJ.out w hB; obtain ⟨y0, y1, y2, y3, y4, y5, y6, y7, y8⟩ := HCP.out w hB) | skip
             go_simp; try exact rfl
           go_simp; refine hK _ _ ?_; clear hK K)
        | (refine Grow.step_off (by rfl) ?_
           go_simp; refine hK _ _ ?_; clear hK K))
      refine Grow.Wk.step (fun K hK => ?_); refine Grow.step_rel (by rfl) (by rfl) (fun w' hB hF => ?_) (fun v hv => ?_)
      · go_simp; refine Grow.relUpon_enter ((cmp_any jkey pkey _ _ _ _ _ _ _ _ _ _ _ _ _ _ _ _ w' hjk hpk).mono ?_); rintro e w'' ⟨rfl, hw''⟩; exact ⟨_, rfl, hw'', rfl, trivial⟩
      obtain rfl : v = _ := hv; go_simp; refine hK _ _ ?_; clear hK K; repeat
       (refine Grow.Wk.step (fun K hK => ?_)
        first
        | (refine Grow.step_read (by rfl) (by rfl) (fun w => ext_refl w) ?_
           apply Exists.intro; refine ⟨fun w hB hF => ?_, ?_⟩
           · skip
             go_simp; try exact rfl
           go_simp; refine hK _ _ ?_; clear hK K)
        | (refine Grow.step_off (by rfl) ?_
           go_simp; refine hK _ _ ?_; clear hK K))
      refine Grow.Wk.nil ?_; intro wv hB hF; replace hB : Ext wr wv := hB; clear hF HCJ HCP; have HXV := Hd (ext_trans HX.out hB); clear hB; have HL := Hd (HLT.out.trans hl); clear hl HLT; go_wp2_with fail; go_roundw
      case rel => exact ⟨c + 1, j, by go_num, rfl, by omega, by omega, hj, .inr HL.out, HLJ.out, HXV.out⟩
      case measure => simp [intOf]; omega
  · have q2 : ¬ ((i : Nat) : Int) < j := by omega
    obtain rfl : i = j := by omega
    have HR := Hd (H.out.ext HX.out); go_wp2_with fail; go_loopw [17] (fun kv wr => ∃ (k : Nat), kv = .int .i64 k ∧ i ≤ k ∧ k ≤ m ∧ RowS wr g cap n (downF f m k) ∧ Sw a b f (downF f m k) ∧ KeptP g w wr) (fun kv _ => (intOf kv).toNat)
    case atStart => exact ⟨m, rfl, by omega, by omega, by rw [downF_self]; exact HR.out, by rw [downF_self]; exact .refl, KeptP.ofExt HX.out⟩
    case round =>
     obtain ⟨k, rfl, hk0, hk1, hr, hsw, hk⟩ := hrel; have HRK := Hd hr; have HSW := Hd hsw; have HKX := Hd hk; clear hr hsw hk; by_cases hlt2 : i < k
     · have q3 : ((i : Nat) : Int) < k := by omega
       obtain ⟨k1, hk1e⟩ := Ex (k - 1); have s2 : IntKind.i64.wrap ((k : Int) - 1) = (k1 : Int) := by rw [IntWalk.i64_in _ (by omega)]; omega
       obtain ⟨F, hF⟩ := Ex (downF f m k); have hnx := downF_next (f := f) (m := m) (k := k) hk1 (by omega); rw [hF, hk1e] at hnx; rw [hF] at HRK HSW; have HNX := Hd hnx; clear hnx hF; have hkn : k < n := by omega
       have hk1n : k1 < n := by omega
       go_upto_region 23 with fail; obtain ⟨ikey, ik, ib, id', is', ia1, in1, ic1, ia2, in2, ic2, ei, hik, hci⟩ := HRK.out.nine hkn; obtain ⟨jkey, jk, jb, jd, js, ja1, jn1, jc1, ja2, jn2, jc2, ej, hjk, hcj⟩ := HRK.out.nine hk1n; have HCI := Hd hci; have HCJ := Hd hcj; have hput := HRK.out.put hkn (F k1) (HRK.out.2 _ hk1n); rw [ej] at hput; have HPUT := Hd hput; have HEI := Hd ei; have HEJ := Hd ej
       have hil : (k : Int) < n := by omega
       have hjl : (k1 : Int) < n := by omega
       have hi0 : (0 : Int) ≤ k := by omega
       have hj0 : (0 : Int) ≤ k1 := by omega
       obtain ⟨F1, hF1⟩ : ∃ F1, (fun x => if x = k then ((jkey, cellsV jk jb jd js (.slice ja1 jn1 jc1) (.slice ja2 jn2 jc2)) : MC) else F x) = F1 := ⟨_, rfl⟩
       rw [hF1] at HPUT; have HF1 := Hd hF1; clear hci hcj hput ei ej hF1
       refine GrowS.wp_region_restW (G0 := Ext) (G1 := fun w1 w' => KeptP g w1 w' ∧ RowS w' g cap n F1) (B0 := fun w' => Ext wr w') (B1 := fun w' => KeptP g wr w' ∧ RowS w' g cap n F1) (E := fun _ _ => False) (anc := fun j => []) (I := fun j => if j = 15 then some (GrowS.Spec.val _ undef) else none) 15 16 (fun j => ([[], [], [], [], [3], [], [], [6], [5, 6, 7], [5, 6, 7, 8], [], [], [10, 11], [10, 11, 12], [0, 1, 5, 6, 7, 8, 9, 10, 11, 12, 13], [0, 1, 5, 6, 7, 8, 9, 10, 11, 12, 13, 14], [0, 1, 2, 3, 4, 5, 6, 7, 8, 9, 10, 11, 12, 13, 14, 15], [0, 1, 2, 3, 4, 5, 6, 7, 8, 9, 10, 11, 12, 13, 14, 15, 16]] : List (List Nat)).getD j []) (Array.replicate 16 true ++ Array.replicate 2 false)
        (by kernel_rfl) (by kernel_rfl) (by kernel_rfl) (by kernel_rfl) (by kernel_rfl) (by kernel_rfl) ?_ ?_ ?_ ?_ ?_ ?_
       · exact fun w w' h hg => ext_trans h hg
       · exact fun w1 w' h hg => ⟨h.1.trans (KeptP.ofExt hg), h.2.ext hg⟩
       · exact fun w1 w' h hg => ⟨(KeptP.ofExt h).trans hg.1, hg.2⟩
       · exact fun _ _ _ _ h => h.elim
       · exact (ext_refl _).drew
       simp only [List.take_succ_cons, List.take_zero, List.drop_succ_cons, List.drop_zero]; repeat
        (refine GrowS.Wk.step (fun K hK => ?_)
         first
         | (refine GrowS.step_read (by rfl) (by rfl) (fun w => ext_refl w) ?_
            apply Exists.intro; refine ⟨fun w hB hF => ?_, ?_⟩
            · first | (replace hB : Ext _ w := hB; obtain ⟨x0, x1, x2, x3, x4, x5, x6, x7, x8⟩ := HCI.out w hB; obtain ⟨y0, y1, y2, y3, y4, y5, y6, y7, y8⟩ := HCJ.out w hB) | skip
              go_simp; try exact rfl
            go_simp; refine hK _ _ ?_; clear hK K)
         | (refine GrowS.step_off (by rfl) ?_
            go_simp; refine hK _ _ ?_; clear hK K))
       refine GrowS.Wk.step (fun K hK => ?_); refine GrowS.step_rel (by rfl) (by rfl) (fun w' hB hF => ?_) (fun v hv => ?_)
       · replace hB : Ext wr w' := hB; obtain ⟨x0, x1, x2, x3, x4, x5, x6, x7, x8⟩ := HCI.out w' hB; have fr := (HRK.out.ext hB).free; have hput2 := (HRK.out.ext hB).put hkn (F k1) (HRK.out.2 _ hk1n); rw [HEJ.out, HF1.out] at hput2; have HP2 := Hd hput2; have HKS := Hd (KeptP.storeL (q := g) (w := w') (cellsMC (jkey, cellsV jk jb jd js (.slice ja1 jn1 jc1) (.slice ja2 jn2 jc2))) (k * 9)); clear hput2
         go_simp; exact ⟨⟨HKS.out, HP2.out⟩, rfl, trivial⟩
       obtain rfl : v = undef := hv; go_simp; refine hK _ _ ?_; clear hK K; refine GrowS.Wk.nil ?_; intro w3 hB hF; obtain ⟨hk3, hr3⟩ := hB; clear hF; have HR3 := Hd hr3; have HK3 := Hd hk3; clear hr3 hk3; refine wpAny_one 16 (by decide +kernel) ?_; refine wpOp_now rfl (by rfl) ?_; unfold Oper.wp; go_simp; refine wpAny_one 17 (by decide +kernel) ?_; refine wpOp_now rfl (by rfl) ?_; unfold Oper.wp
       have hput3 := HR3.out.put hk1n (ikey, cellsV ik ib id' is' (.slice ia1 in1 ic1) (.slice ia2 in2 ic2)) (by rw [← HEI.out]; exact HRK.out.2 _ hkn); have HP3 := Hd hput3; have HKS3 := Hd (HK3.out.trans (KeptP.storeL (q := g) (w := w3) (cellsMC (ikey, cellsV ik ib id' is' (.slice ia1 in1 ic1) (.slice ia2 in2 ic2))) (k1 * 9)))
       obtain ⟨lkey, lk, lb, ld, ls, la1, ln1, lc1, la2, ln2, lc2, el, hlk, hcl⟩ := HR3.out.nine hk1n; obtain ⟨x0, x1, x2, x3, x4, x5, x6, x7, x8⟩ := hcl w3 (ext_refl _); have fr := HR3.out.free; clear hput3 hcl el hlk; go_simp; clear x0 x1 x2 x3 x4 x5 x6 x7 x8 fr; show wpAny _ _ _ _ 0 _ _ _; refine ⟨by decide +kernel, ?_⟩
       have esw : (fun x => if x = k1 then ((ikey, cellsV ik ib id' is' (.slice ia1 in1 ic1) (.slice ia2 in2 ic2)) : MC) else F1 x) = sw F k k1 := by
        rw [← sw_put, ← HF1.out, HEI.out, HEJ.out]
       have hout := HP3.out; rw [esw] at hout; have hkout := HKS3.out; clear esw HP3 HKS3 HR3 HK3 HF1 HEI HEJ HPUT HCI HCJ; obtain ⟨w4, hw4⟩ := Ex (storeL w3 g (k1 * 9) (cellsMC (ikey, cellsV ik ib id' is' (.slice ia1 in1 ic1) (.slice ia2 in2 ic2)))); rw [hw4] at hout hkout; refine world_eq (W' := storeL w3 g (k1 * 9) (cellsMC (ikey, cellsV ik ib id' is' (.slice ia1 in1 ic1) (.slice ia2 in2 ic2)))) rfl ?_
       rw [hw4]; clear hw4; have HR5 := Hd hout; have HK4 := Hd hkout; clear hout hkout; go_wp2_with fail; go_roundw
       case rel => exact ⟨k1, rfl, by omega, by omega, by rw [← HNX.out]; exact HR5.out, by rw [← HNX.out]; exact .step HSW.out (by omega) (by omega) (by omega) (by omega), HKX.out.trans HK4.out⟩
       case measure => simp [intOf]; omega
     · have q3 : ¬ ((i : Nat) : Int) < k := by omega
       obtain rfl : i = k := by omega
       go_wp2_with fail; refine bodyPost_ret (results_none rfl _ _ _) rfl ?_; refine ⟨rfl, _, HRK.out, HSW.out, ?_, HKX.out⟩; exact downF_sorted ltK_ord HMA.out H1.out hi hj HLI.out HLJ.out
set_option maxHeartbeats 12800000 in
theorem sym_cd (D : Nat) (ih : SymOk D) (g cap n : Nat) (f : Nat → MC) (a m b : Nat) (w : World) (hD : b - a < D + 1) (h : RowS w g cap n f) (ham : a < m) (hmb : m < b) (hb : b ≤ n) (hn : n ≤ 1000000) (h1 : SOn ltK a m f) (h2 : SOn ltK m b f) (hma : ¬ m = a + 1) (hbm : ¬ b = m + 1) :
 Calls Tryz.prog 110 #[.slice (some ⟨g, 0, none⟩) n cap, .int .i64 a, .int .i64 m, .int .i64 b, .func (.func 70) #[] #[]] w (fun e w' => e = .returned (.tuple #[]) ∧ ∃ f', RowS w' g cap n f' ∧ Sw a b f f' ∧ SOn ltK a b f' ∧ KeptP g w w') := by
 have H := Hd h; have H1 := Hd h1; have H2 := Hd h2; have IH := Hd ih; clear h h1 h2 ih; go_enter Tryz.func110, Tryz.ntmps110
 obtain ⟨da, hda⟩ := Ex (m - a); obtain ⟨db, hdb⟩ := Ex (b - m); have w1 : IntKind.i64.wrap ((m : Int) - a) = (da : Int) := by rw [IntWalk.i64_in _ (by omega)]; omega
 have w2 : IntKind.i64.wrap ((b : Int) - m) = (db : Int) := by rw [IntWalk.i64_in _ (by omega)]; omega
 have q1 : ((da : Int) == 1) = false := by simp; omega
 have q1b : ((db : Int) == 1) = false := by simp; omega
 clear hda hdb hma hbm; obtain ⟨sa, hsa⟩ := Ex (a + b); obtain ⟨mid, hmid⟩ := Ex (sa / 2); obtain ⟨nn, hnn⟩ := Ex (mid + m); obtain ⟨pp, hpp⟩ := Ex (nn - 1); have t1 : IntKind.i64.wrap ((a : Int) + b) = (sa : Int) := by rw [IntWalk.i64_in _ (by omega)]; omega
 have t2 : (sa : Int) / 2 = (mid : Int) := by omega
 have t3 : IntKind.i64.wrap ((mid : Int) + m) = (nn : Int) := by rw [IntWalk.i64_in _ (by omega)]; omega
 have t4 : IntKind.i64.wrap ((nn : Int) - 1) = (pp : Int) := by rw [IntWalk.i64_in _ (by omega)]; omega
 go_upto_if 140 with fail
 go_cut [20, 21] (fun x0 x1 wx => ∃ s0 r0 : Nat, x0 = .int .i64 s0 ∧ x1 = .int .i64 r0 ∧ w = wx ∧ ((s0 ≤ a ∧ a ≤ s0 ∧ r0 ≤ m ∧ m ≤ r0 ∧ m ≤ mid) ∨ (s0 + b ≤ nn ∧ nn ≤ s0 + b ∧ r0 ≤ mid ∧ mid ≤ r0 ∧ mid < m)))
 case first =>
  by_cases hmm : mid < m
  · have q7 : ((mid : Nat) : Int) < m := by omega
    obtain ⟨s0, hs0⟩ := Ex (nn - b); have t5 : IntKind.i64.wrap ((nn : Int) - b) = (s0 : Int) := by rw [IntWalk.i64_in _ (by omega)]; omega
    have HS0 : Hid (s0 + b ≤ nn ∧ nn ≤ s0 + b) := Hd (by omega); clear hs0; go_wp2_with fail; go_meet; exact ⟨s0, mid, rfl, rfl, rfl, .inr ⟨HS0.out.1, HS0.out.2, Nat.le_refl _, Nat.le_refl _, hmm⟩⟩
  · have q7 : ¬ ((mid : Nat) : Int) < m := by omega
    go_wp2_with fail; go_meet; exact ⟨a, m, rfl, rfl, rfl, .inl ⟨Nat.le_refl _, Nat.le_refl _, Nat.le_refl _, Nat.le_refl _, by omega⟩⟩
 case rest =>
  obtain ⟨s0, r0, rfl, rfl, rfl, hbd⟩ := hcut; have z5 := Nat.le_of_eq hnn; have z6 := Nat.le_of_eq hnn.symm; have z7 := Nat.le_of_eq hpp; have z8 := Nat.le_of_eq hpp.symm; have z9 := Nat.le_of_eq hmid; have z10 := Nat.le_of_eq hmid.symm; have z11 := Nat.le_of_eq hsa; have z12 := Nat.le_of_eq hsa.symm; clear hnn hpp hmid hsa t1 t2 t3 w1 w2 q1 q1b; go_wp2_with fail; clear t4
  go_loopw [20, 21] (fun iv jv wr => ∃ s r : Nat, iv = .int .i64 s ∧ jv = .int .i64 r ∧ s0 ≤ s ∧ s ≤ r ∧ r ≤ r0 ∧ (s = s0 ∨ ltK (f (nn - s)) (f (s - 1)) = false) ∧ (r = r0 ∨ ltK (f (nn - 1 - r)) (f r) = true) ∧ Ext w wr) (fun iv jv _ => (intOf jv).toNat - (intOf iv).toNat)
  case atStart => exact ⟨s0, r0, rfl, rfl, by omega, by omega, by omega, .inl rfl, .inl rfl, ext_refl _⟩
  case round =>
   obtain ⟨s, r, rfl, rfl, hi, hij, hj, hli, hlj, hx⟩ := hrel; have HLI := Hd hli; have HLJ := Hd hlj; have HX := Hd hx; clear hli hlj hx; by_cases hlt : s < r
   · have q2 : ((s : Nat) : Int) < r := by omega
     obtain ⟨sm, hsm⟩ := Ex (s + r); obtain ⟨c, hc⟩ := Ex (sm / 2); obtain ⟨d, hd⟩ := Ex (nn - 1 - c); have HD := Hd hd; have s1 : IntKind.i64.wrap ((s : Int) + r) = (sm : Int) := by rw [IntWalk.i64_in _ (by omega)]; omega
     have s2 : (sm : Int) / 2 = (c : Int) := by omega
     have s3 : IntKind.i64.wrap ((c : Int) + 1) = ((c + 1 : Nat) : Int) := by rw [IntWalk.i64_in _ (by omega)]; omega
     have s4 : IntKind.i64.wrap ((pp : Int) - c) = (d : Int) := by rw [IntWalk.i64_in _ (by omega)]; omega
     have HR := Hd (H.out.ext HX.out); obtain ⟨jkey, jk, jb, jd, js, ja1, jn1, jc1, ja2, jn2, jc2, ej, hjk, hcj⟩ := HR.out.nine (i := d) (by omega); obtain ⟨pkey, pk, pb, pd, ps, pa1, pn1, pc1, pa2, pn2, pc2, ep, hpk, hcp⟩ := HR.out.nine (i := c) (by omega); have HCJ := Hd hcj; have HCP := Hd hcp; have hlt2 : ltK (f d) (f c) = keyLess jkey pkey := by rw [ej, ep]; rfl
     have HLT := Hd hlt2; clear hcj hcp ej ep hlt2; have hjl : ((d : Nat) : Int) < n := by omega
     have hj0 : (0 : Int) ≤ ((d : Nat) : Int) := by omega
     have hpl : ((c : Nat) : Int) < n := by omega
     have hp0 : (0 : Int) ≤ ((c : Nat) : Int) := by omega
     cases hl : keyLess jkey pkey with
     | true =>
       have q3 := cmpV_true hl; go_upto_region 35 with fail; refine Grow.wp_region_litW (G := Ext) (B := fun w' => Ext wr w') (anc := fun _ => []) (I := fun j => if j = 11 then some (Grow.Spec.val Ext (.int .i64 (cmpV jkey pkey))) else none) (by kernel_rfl) (by kernel_rfl) (by kernel_rfl) ?_ ?_ ?_
       · exact fun w w' h hg => ext_trans h hg
       · exact (ext_refl _).drew
       repeat
        (refine Grow.Wk.step (fun K hK => ?_)
         first
         | (refine Grow.step_read (by rfl) (by rfl) (fun w => ext_refl w) ?_
            apply Exists.intro; refine ⟨fun w hB hF => ?_, ?_⟩
            · first | (replace hB : Ext _ w := hB; obtain ⟨x0, x1, x2, x3, x4, x5, x6, x7, x8⟩ := HCJ.out w hB; obtain ⟨y0, y1, y2, y3, y4, y5, y6, y7, y8⟩ := HCP.out w hB) | skip
              go_simp; try exact rfl
            go_simp; refine hK _ _ ?_; clear hK K)
         | (refine Grow.step_off (by rfl) ?_
            go_simp; refine hK _ _ ?_; clear hK K))
       refine Grow.Wk.step (fun K hK => ?_); refine Grow.step_rel (by rfl) (by rfl) (fun w' hB hF => ?_) (fun v hv => ?_)
       · go_simp; refine Grow.relUpon_enter ((cmp_any jkey pkey _ _ _ _ _ _ _ _ _ _ _ _ _ _ _ _ w' hjk hpk).mono ?_); rintro e w'' ⟨rfl, hw''⟩; exact ⟨_, rfl, hw'', rfl, trivial⟩
       obtain rfl : v = _ := hv; go_simp; refine hK _ _ ?_; clear hK K; repeat
        (refine Grow.Wk.step (fun K hK => ?_)
         first
         | (refine Grow.step_read (by rfl) (by rfl) (fun w => ext_refl w) ?_
            apply Exists.intro; refine ⟨fun w hB hF => ?_, ?_⟩
            · skip
              go_simp; try exact rfl
            go_simp; refine hK _ _ ?_; clear hK K)
         | (refine Grow.step_off (by rfl) ?_
            go_simp; refine hK _ _ ?_; clear hK K))
       refine Grow.Wk.nil ?_; intro wv hB hF; replace hB : Ext wr wv := hB; clear hF HCJ HCP; have HXV := Hd (ext_trans HX.out hB); clear hB; have HL := Hd (HLT.out.trans hl); clear hl HLT; go_wp2_with fail; go_roundw
       case rel => exact ⟨s, c, rfl, rfl, hi, by omega, by omega, HLI.out, .inr (by rw [HD.out]; exact HL.out), HXV.out⟩
       case measure => simp [intOf]; omega
     | false =>
       have q3 := cmpV_false hl; go_upto_region 35 with fail; refine Grow.wp_region_litW (G := Ext) (B := fun w' => Ext wr w') (anc := fun _ => []) (I := fun j => if j = 11 then some (Grow.Spec.val Ext (.int .i64 (cmpV jkey pkey))) else none) (by kernel_rfl) (by kernel_rfl) (by kernel_rfl) ?_ ?_ ?_
       · exact fun w w' h hg => ext_trans h hg
       · exact (ext_refl _).drew
       repeat
        (refine Grow.Wk.step (fun K hK => ?_)
         first
         | (refine Grow.step_read (by rfl) (by rfl) (fun w => ext_refl w) ?_
            apply Exists.intro; refine ⟨fun w hB hF => ?_, ?_⟩
            · first | (replace hB : Ext _ w := hB; obtain ⟨x0, x1, x2, x3, x4, x5, x6, x7, x8⟩ := HCJ.out w hB; obtain ⟨y0, y1, y2, y3, y4, y5, y6, y7, y8⟩ := HCP.out w hB) | skip
              go_simp; try exact rfl
            go_simp; refine hK _ _ ?_; clear hK K)
         | (refine Grow.step_off (by rfl) ?_
            go_simp; refine hK _ _ ?_; clear hK K))
       refine Grow.Wk.step (fun K hK => ?_); refine Grow.step_rel (by rfl) (by rfl) (fun w' hB hF => ?_) (fun v hv => ?_)
       · go_simp; refine Grow.relUpon_enter ((cmp_any jkey pkey _ _ _ _ _ _ _ _ _ _ _ _ _ _ _ _ w' hjk hpk).mono ?_); rintro e w'' ⟨rfl, hw''⟩; exact ⟨_, rfl, hw'', rfl, trivial⟩
       obtain rfl : v = _ := hv; go_simp; refine hK _ _ ?_; clear hK K; repeat
        (refine Grow.Wk.step (fun K hK => ?_)
         first
         | (refine Grow.step_read (by rfl) (by rfl) (fun w => ext_refl w) ?_
            apply Exists.intro; refine ⟨fun w hB hF => ?_, ?_⟩
            · skip
              go_simp; try exact rfl
            go_simp; refine hK _ _ ?_; clear hK K)
         | (refine Grow.step_off (by rfl) ?_
            go_simp; refine hK _ _ ?_; clear hK K))
       refine Grow.Wk.nil ?_; intro wv hB hF; replace hB : Ext wr wv := hB; clear hF HCJ HCP; have HXV := Hd (ext_trans HX.out hB); clear hB; have HL := Hd (HLT.out.trans hl); clear hl HLT; go_wp2_with fail; go_roundw
       case rel => exact ⟨c + 1, r, by go_num, rfl, by omega, by omega, hj, .inr (by rw [show nn - (c + 1) = d by omega, Nat.add_sub_cancel]; exact HL.out), HLJ.out, HXV.out⟩
       case measure => simp [intOf]; omega
   · have q2 : ¬ ((s : Nat) : Int) < r := by omega
     obtain rfl : s = r := by omega
     have HR := Hd (H.out.ext HX.out); obtain ⟨E, hE⟩ := Ex (mid + m - s); have s1 : IntKind.i64.wrap ((nn : Int) - s) = (E : Int) := by rw [IntWalk.i64_in _ (by omega)]; omega
     have hmm := merge_mid ltK_ord (s := s) (mid := mid) H1.out H2.out (by omega) (by omega) (by omega) (by omega) (by omega) (by omega)
      (by
        rcases HLI.out with h | h
        · omega
        · by_cases e : s = s0
          · omega
          · exact .inr (.inr ⟨by omega, by omega, by rw [show mid + m - s = nn - s by omega]; exact h⟩))
      (by
        rcases HLJ.out with h | h
        · omega
        · by_cases e : s = r0
          · omega
          · exact .inr (.inr ⟨by omega, by omega, by rw [show mid + m - s - 1 = nn - 1 - s by omega]; exact h⟩))
     rw [hE] at hmm; obtain ⟨k1, k2, k3, k4, k5⟩ := hmm; clear HLI HLJ; by_cases hsm : s < m
     · have qs : ((s : Nat) : Int) < m := by omega
       by_cases hme : m < E
       · have qe : ((m : Nat) : Int) < E := by omega
         obtain ⟨G, hG⟩ := Ex (rotF f s m E); have hrot := fun cb => rotate_any g cap n f s m E cb wr HR.out hsm hme (by omega) hn; rw [hG] at hrot k1 k2 k3 k4 k5; have HROT := Hd hrot; have HS1 := Hd k1; have HS2 := Hd k2; have HS3 := Hd k3; have HS4 := Hd k4; have HCR := Hd k5; clear hrot k1 k2 k3 k4 k5 hG; go_wp2_with fail; refine (HROT.out _).mono ?_; rintro e w7 ⟨rfl, hrg, hswg, hkg⟩
         have HRG := Hd hrg; have HSWG := Hd hswg; have HKG := Hd ((KeptP.ofExt HX.out).trans hkg); clear hrg hswg hkg; by_cases h3 : a < s
         · have q3 : ((a : Nat) : Int) < s := by omega
           by_cases h4 : s < mid
           · have q4 : ((s : Nat) : Int) < mid := by omega
             go_wp2_with fail; refine (IH.out g cap n G a s mid _ (by omega) HRG.out h3 h4 (by omega) hn HS1.out HS2.out).mono ?_; rintro e w8 ⟨rfl, F2, hr2, hsw2, hso2, hk2⟩; have HR2 := Hd hr2; have HSW2 := Hd hsw2; have HSO2 := Hd hso2; have HK2 := Hd (HKG.out.trans hk2); clear hr2 hsw2 hso2 hk2
             have HSA : Hid (SOn ltK mid E F2 ∧ SOn ltK E b F2) := Hd ⟨HS3.out.kept HSW2.out (.inr (by omega)), HS4.out.kept HSW2.out (.inr (by omega))⟩; by_cases h5 : mid < E
             · have q5 : ((mid : Nat) : Int) < E := by omega
               by_cases h6 : E < b
               · have q6 : ((E : Nat) : Int) < b := by omega
                 go_wp2_with fail; refine (IH.out g cap n F2 mid E b _ (by omega) HR2.out h5 h6 hb hn HSA.out.1 HSA.out.2).mono ?_; rintro e w9 ⟨rfl, F3, hr3, hsw3, hso3, hk3⟩; go_wp2_with fail; go_end0
                 refine ⟨rfl, _, hr3, ?_, ?_, HK2.out.trans hk3⟩
                 · exact (HSWG.out.mono (by omega) (by omega)).trans ((HSW2.out.mono (by omega) (by omega)).trans (Sw.mono hsw3 (by omega) (by omega)))
                 · exact (HSO2.out.kept hsw3 (.inl (by omega))).join hso3 (cross_kept HCR.out HSW2.out hsw3)
               · have q6 : ¬ ((E : Nat) : Int) < b := by omega
                 obtain rfl : E = b := by omega
                 go_wp2_with fail; go_end0
                 refine ⟨rfl, _, HR2.out, ?_, ?_, HK2.out⟩
                 · exact (HSWG.out.mono (by omega) (by omega)).trans ((HSW2.out.mono (by omega) (by omega)).trans (Sw.mono (Sw.refl (a := mid) (b := E) (f := F2)) (by omega) (by omega)))
                 · exact (HSO2.out.kept (Sw.refl (a := mid) (b := E) (f := F2)) (.inl (by omega))).join HSA.out.1 (cross_kept HCR.out HSW2.out (Sw.refl (a := mid) (b := E) (f := F2)))
             · have q5 : ¬ ((mid : Nat) : Int) < E := by omega
               obtain rfl : mid = E := by omega
               go_wp2_with fail; go_end0
               refine ⟨rfl, _, HR2.out, ?_, ?_, HK2.out⟩
               · exact (HSWG.out.mono (by omega) (by omega)).trans ((HSW2.out.mono (by omega) (by omega)).trans (Sw.mono (Sw.refl (a := mid) (b := b) (f := F2)) (by omega) (by omega)))
               · exact (HSO2.out.kept (Sw.refl (a := mid) (b := b) (f := F2)) (.inl (by omega))).join HSA.out.2 (cross_kept HCR.out HSW2.out (Sw.refl (a := mid) (b := b) (f := F2)))
           · have q4 : ¬ ((s : Nat) : Int) < mid := by omega
             obtain rfl : mid = s := by omega
             obtain ⟨F2, hF2⟩ := Ex G; have HR2 : Hid (RowS _ g cap n F2) := Hd (by rw [← hF2]; exact HRG.out); have HSW2 : Hid (Sw a mid G F2) := Hd (by rw [← hF2]; exact .refl); have HSO2 : Hid (SOn ltK a mid F2) := Hd (by rw [← hF2]; exact HS1.out); have HK2 := Hd HKG.out; have HF2 := Hd hF2; clear hF2
             have HSA : Hid (SOn ltK mid E F2 ∧ SOn ltK E b F2) := Hd ⟨HS3.out.kept HSW2.out (.inr (by omega)), HS4.out.kept HSW2.out (.inr (by omega))⟩; by_cases h5 : mid < E
             · have q5 : ((mid : Nat) : Int) < E := by omega
               by_cases h6 : E < b
               · have q6 : ((E : Nat) : Int) < b := by omega
                 go_wp2_with fail; refine (IH.out g cap n F2 mid E b _ (by omega) HR2.out h5 h6 hb hn HSA.out.1 HSA.out.2).mono ?_; rintro e w9 ⟨rfl, F3, hr3, hsw3, hso3, hk3⟩; go_wp2_with fail; go_end0
                 refine ⟨rfl, _, hr3, ?_, ?_, HK2.out.trans hk3⟩
                 · exact (HSWG.out.mono (by omega) (by omega)).trans ((HSW2.out.mono (by omega) (by omega)).trans (Sw.mono hsw3 (by omega) (by omega)))
                 · exact (HSO2.out.kept hsw3 (.inl (by omega))).join hso3 (cross_kept HCR.out HSW2.out hsw3)
               · have q6 : ¬ ((E : Nat) : Int) < b := by omega
                 obtain rfl : E = b := by omega
                 go_wp2_with fail; go_end0
                 refine ⟨rfl, _, HR2.out, ?_, ?_, HK2.out⟩
                 · exact (HSWG.out.mono (by omega) (by omega)).trans ((HSW2.out.mono (by omega) (by omega)).trans (Sw.mono (Sw.refl (a := mid) (b := E) (f := F2)) (by omega) (by omega)))
                 · exact (HSO2.out.kept (Sw.refl (a := mid) (b := E) (f := F2)) (.inl (by omega))).join HSA.out.1 (cross_kept HCR.out HSW2.out (Sw.refl (a := mid) (b := E) (f := F2)))
             · have q5 : ¬ ((mid : Nat) : Int) < E := by omega
               obtain rfl : mid = E := by omega
               go_wp2_with fail; go_end0
               refine ⟨rfl, _, HR2.out, ?_, ?_, HK2.out⟩
               · exact (HSWG.out.mono (by omega) (by omega)).trans ((HSW2.out.mono (by omega) (by omega)).trans (Sw.mono (Sw.refl (a := mid) (b := b) (f := F2)) (by omega) (by omega)))
               · exact (HSO2.out.kept (Sw.refl (a := mid) (b := b) (f := F2)) (.inl (by omega))).join HSA.out.2 (cross_kept HCR.out HSW2.out (Sw.refl (a := mid) (b := b) (f := F2)))
         · have q3 : ¬ ((a : Nat) : Int) < s := by omega
           obtain rfl : a = s := by omega
           obtain ⟨F2, hF2⟩ := Ex G; have HR2 : Hid (RowS _ g cap n F2) := Hd (by rw [← hF2]; exact HRG.out); have HSW2 : Hid (Sw a mid G F2) := Hd (by rw [← hF2]; exact .refl); have HSO2 : Hid (SOn ltK a mid F2) := Hd (by rw [← hF2]; exact HS2.out); have HK2 := Hd HKG.out; have HF2 := Hd hF2; clear hF2
           have HSA : Hid (SOn ltK mid E F2 ∧ SOn ltK E b F2) := Hd ⟨HS3.out.kept HSW2.out (.inr (by omega)), HS4.out.kept HSW2.out (.inr (by omega))⟩; by_cases h5 : mid < E
           · have q5 : ((mid : Nat) : Int) < E := by omega
             by_cases h6 : E < b
             · have q6 : ((E : Nat) : Int) < b := by omega
               go_wp2_with fail; refine (IH.out g cap n F2 mid E b _ (by omega) HR2.out h5 h6 hb hn HSA.out.1 HSA.out.2).mono ?_; rintro e w9 ⟨rfl, F3, hr3, hsw3, hso3, hk3⟩; go_wp2_with fail; go_end0
               refine ⟨rfl, _, hr3, ?_, ?_, HK2.out.trans hk3⟩
               · exact (HSWG.out.mono (by omega) (by omega)).trans ((HSW2.out.mono (by omega) (by omega)).trans (Sw.mono hsw3 (by omega) (by omega)))
               · exact (HSO2.out.kept hsw3 (.inl (by omega))).join hso3 (cross_kept HCR.out HSW2.out hsw3)
             · have q6 : ¬ ((E : Nat) : Int) < b := by omega
               obtain rfl : E = b := by omega
               go_wp2_with fail; go_end0
               refine ⟨rfl, _, HR2.out, ?_, ?_, HK2.out⟩
               · exact (HSWG.out.mono (by omega) (by omega)).trans ((HSW2.out.mono (by omega) (by omega)).trans (Sw.mono (Sw.refl (a := mid) (b := E) (f := F2)) (by omega) (by omega)))
               · exact (HSO2.out.kept (Sw.refl (a := mid) (b := E) (f := F2)) (.inl (by omega))).join HSA.out.1 (cross_kept HCR.out HSW2.out (Sw.refl (a := mid) (b := E) (f := F2)))
           · have q5 : ¬ ((mid : Nat) : Int) < E := by omega
             obtain rfl : mid = E := by omega
             go_wp2_with fail; go_end0
             refine ⟨rfl, _, HR2.out, ?_, ?_, HK2.out⟩
             · exact (HSWG.out.mono (by omega) (by omega)).trans ((HSW2.out.mono (by omega) (by omega)).trans (Sw.mono (Sw.refl (a := mid) (b := b) (f := F2)) (by omega) (by omega)))
             · exact (HSO2.out.kept (Sw.refl (a := mid) (b := b) (f := F2)) (.inl (by omega))).join HSA.out.2 (cross_kept HCR.out HSW2.out (Sw.refl (a := mid) (b := b) (f := F2)))
       · have qe : ¬ ((m : Nat) : Int) < E := by omega
         have hG : rotF f s m E = f := rotF_none (.inr (by omega)); rw [hG] at k1 k2 k3 k4 k5; have HS1 := Hd k1; have HS2 := Hd k2; have HS3 := Hd k3; have HS4 := Hd k4; have HCR := Hd k5; obtain ⟨G, hG2⟩ := Ex f; rw [hG2] at HS1 HS2 HS3 HS4 HCR; have HRG : Hid (RowS wr g cap n G) := Hd (by rw [← hG2]; exact HR.out); have HSWG : Hid (Sw s E f G) := Hd (by rw [← hG2]; exact .refl)
         have HKG : Hid (KeptP g w wr) := Hd (KeptP.ofExt HX.out); clear k1 k2 k3 k4 k5 hG; have HG2 := Hd hG2; clear hG2; by_cases h3 : a < s
         · have q3 : ((a : Nat) : Int) < s := by omega
           by_cases h4 : s < mid
           · have q4 : ((s : Nat) : Int) < mid := by omega
             go_wp2_with fail; refine (IH.out g cap n G a s mid _ (by omega) HRG.out h3 h4 (by omega) hn HS1.out HS2.out).mono ?_; rintro e w8 ⟨rfl, F2, hr2, hsw2, hso2, hk2⟩; have HR2 := Hd hr2; have HSW2 := Hd hsw2; have HSO2 := Hd hso2; have HK2 := Hd (HKG.out.trans hk2); clear hr2 hsw2 hso2 hk2
             have HSA : Hid (SOn ltK mid E F2 ∧ SOn ltK E b F2) := Hd ⟨HS3.out.kept HSW2.out (.inr (by omega)), HS4.out.kept HSW2.out (.inr (by omega))⟩; by_cases h5 : mid < E
             · have q5 : ((mid : Nat) : Int) < E := by omega
               by_cases h6 : E < b
               · have q6 : ((E : Nat) : Int) < b := by omega
                 go_wp2_with fail; refine (IH.out g cap n F2 mid E b _ (by omega) HR2.out h5 h6 hb hn HSA.out.1 HSA.out.2).mono ?_; rintro e w9 ⟨rfl, F3, hr3, hsw3, hso3, hk3⟩; go_wp2_with fail; go_end0
                 refine ⟨rfl, _, hr3, ?_, ?_, HK2.out.trans hk3⟩
                 · exact (HSWG.out.mono (by omega) (by omega)).trans ((HSW2.out.mono (by omega) (by omega)).trans (Sw.mono hsw3 (by omega) (by omega)))
                 · exact (HSO2.out.kept hsw3 (.inl (by omega))).join hso3 (cross_kept HCR.out HSW2.out hsw3)
               · have q6 : ¬ ((E : Nat) : Int) < b := by omega
                 obtain rfl : E = b := by omega
                 go_wp2_with fail; go_end0
                 refine ⟨rfl, _, HR2.out, ?_, ?_, HK2.out⟩
                 · exact (HSWG.out.mono (by omega) (by omega)).trans ((HSW2.out.mono (by omega) (by omega)).trans (Sw.mono (Sw.refl (a := mid) (b := E) (f := F2)) (by omega) (by omega)))
                 · exact (HSO2.out.kept (Sw.refl (a := mid) (b := E) (f := F2)) (.inl (by omega))).join HSA.out.1 (cross_kept HCR.out HSW2.out (Sw.refl (a := mid) (b := E) (f := F2)))
             · have q5 : ¬ ((mid : Nat) : Int) < E := by omega
               obtain rfl : mid = E := by omega
               go_wp2_with fail; go_end0
               refine ⟨rfl, _, HR2.out, ?_, ?_, HK2.out⟩
               · exact (HSWG.out.mono (by omega) (by omega)).trans ((HSW2.out.mono (by omega) (by omega)).trans (Sw.mono (Sw.refl (a := mid) (b := b) (f := F2)) (by omega) (by omega)))
               · exact (HSO2.out.kept (Sw.refl (a := mid) (b := b) (f := F2)) (.inl (by omega))).join HSA.out.2 (cross_kept HCR.out HSW2.out (Sw.refl (a := mid) (b := b) (f := F2)))
           · have q4 : ¬ ((s : Nat) : Int) < mid := by omega
             obtain rfl : mid = s := by omega
             obtain ⟨F2, hF2⟩ := Ex G; have HR2 : Hid (RowS _ g cap n F2) := Hd (by rw [← hF2]; exact HRG.out); have HSW2 : Hid (Sw a mid G F2) := Hd (by rw [← hF2]; exact .refl); have HSO2 : Hid (SOn ltK a mid F2) := Hd (by rw [← hF2]; exact HS1.out); have HK2 := Hd HKG.out; have HF2 := Hd hF2; clear hF2
             have HSA : Hid (SOn ltK mid E F2 ∧ SOn ltK E b F2) := Hd ⟨HS3.out.kept HSW2.out (.inr (by omega)), HS4.out.kept HSW2.out (.inr (by omega))⟩; by_cases h5 : mid < E
             · have q5 : ((mid : Nat) : Int) < E := by omega
               by_cases h6 : E < b
               · have q6 : ((E : Nat) : Int) < b := by omega
                 go_wp2_with fail; refine (IH.out g cap n F2 mid E b _ (by omega) HR2.out h5 h6 hb hn HSA.out.1 HSA.out.2).mono ?_; rintro e w9 ⟨rfl, F3, hr3, hsw3, hso3, hk3⟩; go_wp2_with fail; go_end0
                 refine ⟨rfl, _, hr3, ?_, ?_, HK2.out.trans hk3⟩
                 · exact (HSWG.out.mono (by omega) (by omega)).trans ((HSW2.out.mono (by omega) (by omega)).trans (Sw.mono hsw3 (by omega) (by omega)))
                 · exact (HSO2.out.kept hsw3 (.inl (by omega))).join hso3 (cross_kept HCR.out HSW2.out hsw3)
               · have q6 : ¬ ((E : Nat) : Int) < b := by omega
                 obtain rfl : E = b := by omega
                 go_wp2_with fail; go_end0
                 refine ⟨rfl, _, HR2.out, ?_, ?_, HK2.out⟩
                 · exact (HSWG.out.mono (by omega) (by omega)).trans ((HSW2.out.mono (by omega) (by omega)).trans (Sw.mono (Sw.refl (a := mid) (b := E) (f := F2)) (by omega) (by omega)))
                 · exact (HSO2.out.kept (Sw.refl (a := mid) (b := E) (f := F2)) (.inl (by omega))).join HSA.out.1 (cross_kept HCR.out HSW2.out (Sw.refl (a := mid) (b := E) (f := F2)))
             · have q5 : ¬ ((mid : Nat) : Int) < E := by omega
               obtain rfl : mid = E := by omega
               go_wp2_with fail; go_end0
               refine ⟨rfl, _, HR2.out, ?_, ?_, HK2.out⟩
               · exact (HSWG.out.mono (by omega) (by omega)).trans ((HSW2.out.mono (by omega) (by omega)).trans (Sw.mono (Sw.refl (a := mid) (b := b) (f := F2)) (by omega) (by omega)))
               · exact (HSO2.out.kept (Sw.refl (a := mid) (b := b) (f := F2)) (.inl (by omega))).join HSA.out.2 (cross_kept HCR.out HSW2.out (Sw.refl (a := mid) (b := b) (f := F2)))
         · have q3 : ¬ ((a : Nat) : Int) < s := by omega
           obtain rfl : a = s := by omega
           obtain ⟨F2, hF2⟩ := Ex G; have HR2 : Hid (RowS _ g cap n F2) := Hd (by rw [← hF2]; exact HRG.out); have HSW2 : Hid (Sw a mid G F2) := Hd (by rw [← hF2]; exact .refl); have HSO2 : Hid (SOn ltK a mid F2) := Hd (by rw [← hF2]; exact HS2.out); have HK2 := Hd HKG.out; have HF2 := Hd hF2; clear hF2
           have HSA : Hid (SOn ltK mid E F2 ∧ SOn ltK E b F2) := Hd ⟨HS3.out.kept HSW2.out (.inr (by omega)), HS4.out.kept HSW2.out (.inr (by omega))⟩; by_cases h5 : mid < E
           · have q5 : ((mid : Nat) : Int) < E := by omega
             by_cases h6 : E < b
             · have q6 : ((E : Nat) : Int) < b := by omega
               go_wp2_with fail; refine (IH.out g cap n F2 mid E b _ (by omega) HR2.out h5 h6 hb hn HSA.out.1 HSA.out.2).mono ?_; rintro e w9 ⟨rfl, F3, hr3, hsw3, hso3, hk3⟩; go_wp2_with fail; go_end0
               refine ⟨rfl, _, hr3, ?_, ?_, HK2.out.trans hk3⟩
               · exact (HSWG.out.mono (by omega) (by omega)).trans ((HSW2.out.mono (by omega) (by omega)).trans (Sw.mono hsw3 (by omega) (by omega)))
               · exact (HSO2.out.kept hsw3 (.inl (by omega))).join hso3 (cross_kept HCR.out HSW2.out hsw3)
             · have q6 : ¬ ((E : Nat) : Int) < b := by omega
               obtain rfl : E = b := by omega
               go_wp2_with fail; go_end0
               refine ⟨rfl, _, HR2.out, ?_, ?_, HK2.out⟩
               · exact (HSWG.out.mono (by omega) (by omega)).trans ((HSW2.out.mono (by omega) (by omega)).trans (Sw.mono (Sw.refl (a := mid) (b := E) (f := F2)) (by omega) (by omega)))
               · exact (HSO2.out.kept (Sw.refl (a := mid) (b := E) (f := F2)) (.inl (by omega))).join HSA.out.1 (cross_kept HCR.out HSW2.out (Sw.refl (a := mid) (b := E) (f := F2)))
           · have q5 : ¬ ((mid : Nat) : Int) < E := by omega
             obtain rfl : mid = E := by omega
             go_wp2_with fail; go_end0
             refine ⟨rfl, _, HR2.out, ?_, ?_, HK2.out⟩
             · exact (HSWG.out.mono (by omega) (by omega)).trans ((HSW2.out.mono (by omega) (by omega)).trans (Sw.mono (Sw.refl (a := mid) (b := b) (f := F2)) (by omega) (by omega)))
             · exact (HSO2.out.kept (Sw.refl (a := mid) (b := b) (f := F2)) (.inl (by omega))).join HSA.out.2 (cross_kept HCR.out HSW2.out (Sw.refl (a := mid) (b := b) (f := F2)))
     · have qs : ¬ ((s : Nat) : Int) < m := by omega
       have hG : rotF f s m E = f := rotF_none (.inl (by omega)); rw [hG] at k1 k2 k3 k4 k5; have HS1 := Hd k1; have HS2 := Hd k2; have HS3 := Hd k3; have HS4 := Hd k4; have HCR := Hd k5; obtain ⟨G, hG2⟩ := Ex f; rw [hG2] at HS1 HS2 HS3 HS4 HCR; have HRG : Hid (RowS wr g cap n G) := Hd (by rw [← hG2]; exact HR.out); have HSWG : Hid (Sw s E f G) := Hd (by rw [← hG2]; exact .refl)
       have HKG : Hid (KeptP g w wr) := Hd (KeptP.ofExt HX.out); clear k1 k2 k3 k4 k5 hG; have HG2 := Hd hG2; clear hG2; by_cases h3 : a < s
       · have q3 : ((a : Nat) : Int) < s := by omega
         by_cases h4 : s < mid
         · have q4 : ((s : Nat) : Int) < mid := by omega
           go_wp2_with fail; refine (IH.out g cap n G a s mid _ (by omega) HRG.out h3 h4 (by omega) hn HS1.out HS2.out).mono ?_; rintro e w8 ⟨rfl, F2, hr2, hsw2, hso2, hk2⟩; have HR2 := Hd hr2; have HSW2 := Hd hsw2; have HSO2 := Hd hso2; have HK2 := Hd (HKG.out.trans hk2); clear hr2 hsw2 hso2 hk2
           have HSA : Hid (SOn ltK mid E F2 ∧ SOn ltK E b F2) := Hd ⟨HS3.out.kept HSW2.out (.inr (by omega)), HS4.out.kept HSW2.out (.inr (by omega))⟩; by_cases h5 : mid < E
           · have q5 : ((mid : Nat) : Int) < E := by omega
             by_cases h6 : E < b
             · have q6 : ((E : Nat) : Int) < b := by omega
               go_wp2_with fail; refine (IH.out g cap n F2 mid E b _ (by omega) HR2.out h5 h6 hb hn HSA.out.1 HSA.out.2).mono ?_; rintro e w9 ⟨rfl, F3, hr3, hsw3, hso3, hk3⟩; go_wp2_with fail; go_end0
               refine ⟨rfl, _, hr3, ?_, ?_, HK2.out.trans hk3⟩
               · exact (HSWG.out.mono (by omega) (by omega)).trans ((HSW2.out.mono (by omega) (by omega)).trans (Sw.mono hsw3 (by omega) (by omega)))
               · exact (HSO2.out.kept hsw3 (.inl (by omega))).join hso3 (cross_kept HCR.out HSW2.out hsw3)
             · have q6 : ¬ ((E : Nat) : Int) < b := by omega
               obtain rfl : E = b := by omega
               go_wp2_with fail; go_end0
               refine ⟨rfl, _, HR2.out, ?_, ?_, HK2.out⟩
               · exact (HSWG.out.mono (by omega) (by omega)).trans ((HSW2.out.mono (by omega) (by omega)).trans (Sw.mono (Sw.refl (a := mid) (b := E) (f := F2)) (by omega) (by omega)))
               · exact (HSO2.out.kept (Sw.refl (a := mid) (b := E) (f := F2)) (.inl (by omega))).join HSA.out.1 (cross_kept HCR.out HSW2.out (Sw.refl (a := mid) (b := E) (f := F2)))
           · have q5 : ¬ ((mid : Nat) : Int) < E := by omega
             obtain rfl : mid = E := by omega
             go_wp2_with fail; go_end0
             refine ⟨rfl, _, HR2.out, ?_, ?_, HK2.out⟩
             · exact (HSWG.out.mono (by omega) (by omega)).trans ((HSW2.out.mono (by omega) (by omega)).trans (Sw.mono (Sw.refl (a := mid) (b := b) (f := F2)) (by omega) (by omega)))
             · exact (HSO2.out.kept (Sw.refl (a := mid) (b := b) (f := F2)) (.inl (by omega))).join HSA.out.2 (cross_kept HCR.out HSW2.out (Sw.refl (a := mid) (b := b) (f := F2)))
         · have q4 : ¬ ((s : Nat) : Int) < mid := by omega
           obtain rfl : mid = s := by omega
           obtain ⟨F2, hF2⟩ := Ex G; have HR2 : Hid (RowS _ g cap n F2) := Hd (by rw [← hF2]; exact HRG.out); have HSW2 : Hid (Sw a mid G F2) := Hd (by rw [← hF2]; exact .refl); have HSO2 : Hid (SOn ltK a mid F2) := Hd (by rw [← hF2]; exact HS1.out); have HK2 := Hd HKG.out; have HF2 := Hd hF2; clear hF2
           have HSA : Hid (SOn ltK mid E F2 ∧ SOn ltK E b F2) := Hd ⟨HS3.out.kept HSW2.out (.inr (by omega)), HS4.out.kept HSW2.out (.inr (by omega))⟩; by_cases h5 : mid < E
           · have q5 : ((mid : Nat) : Int) < E := by omega
             by_cases h6 : E < b
             · have q6 : ((E : Nat) : Int) < b := by omega
               go_wp2_with fail; refine (IH.out g cap n F2 mid E b _ (by omega) HR2.out h5 h6 hb hn HSA.out.1 HSA.out.2).mono ?_; rintro e w9 ⟨rfl, F3, hr3, hsw3, hso3, hk3⟩; go_wp2_with fail; go_end0
               refine ⟨rfl, _, hr3, ?_, ?_, HK2.out.trans hk3⟩
               · exact (HSWG.out.mono (by omega) (by omega)).trans ((HSW2.out.mono (by omega) (by omega)).trans (Sw.mono hsw3 (by omega) (by omega)))
               · exact (HSO2.out.kept hsw3 (.inl (by omega))).join hso3 (cross_kept HCR.out HSW2.out hsw3)
             · have q6 : ¬ ((E : Nat) : Int) < b := by omega
               obtain rfl : E = b := by omega
               go_wp2_with fail; go_end0
               refine ⟨rfl, _, HR2.out, ?_, ?_, HK2.out⟩
               · exact (HSWG.out.mono (by omega) (by omega)).trans ((HSW2.out.mono (by omega) (by omega)).trans (Sw.mono (Sw.refl (a := mid) (b := E) (f := F2)) (by omega) (by omega)))
               · exact (HSO2.out.kept (Sw.refl (a := mid) (b := E) (f := F2)) (.inl (by omega))).join HSA.out.1 (cross_kept HCR.out HSW2.out (Sw.refl (a := mid) (b := E) (f := F2)))
           · have q5 : ¬ ((mid : Nat) : Int) < E := by omega
             obtain rfl : mid = E := by omega
             go_wp2_with fail; go_end0
             refine ⟨rfl, _, HR2.out, ?_, ?_, HK2.out⟩
             · exact (HSWG.out.mono (by omega) (by omega)).trans ((HSW2.out.mono (by omega) (by omega)).trans (Sw.mono (Sw.refl (a := mid) (b := b) (f := F2)) (by omega) (by omega)))
             · exact (HSO2.out.kept (Sw.refl (a := mid) (b := b) (f := F2)) (.inl (by omega))).join HSA.out.2 (cross_kept HCR.out HSW2.out (Sw.refl (a := mid) (b := b) (f := F2)))
       · have q3 : ¬ ((a : Nat) : Int) < s := by omega
         obtain rfl : a = s := by omega
         obtain ⟨F2, hF2⟩ := Ex G; have HR2 : Hid (RowS _ g cap n F2) := Hd (by rw [← hF2]; exact HRG.out); have HSW2 : Hid (Sw a mid G F2) := Hd (by rw [← hF2]; exact .refl); have HSO2 : Hid (SOn ltK a mid F2) := Hd (by rw [← hF2]; exact HS2.out); have HK2 := Hd HKG.out; have HF2 := Hd hF2; clear hF2
         have HSA : Hid (SOn ltK mid E F2 ∧ SOn ltK E b F2) := Hd ⟨HS3.out.kept HSW2.out (.inr (by omega)), HS4.out.kept HSW2.out (.inr (by omega))⟩; by_cases h5 : mid < E
         · have q5 : ((mid : Nat) : Int) < E := by omega
           by_cases h6 : E < b
           · have q6 : ((E : Nat) : Int) < b := by omega
             go_wp2_with fail; refine (IH.out g cap n F2 mid E b _ (by omega) HR2.out h5 h6 hb hn HSA.out.1 HSA.out.2).mono ?_; rintro e w9 ⟨rfl, F3, hr3, hsw3, hso3, hk3⟩; go_wp2_with fail; go_end0
             refine ⟨rfl, _, hr3, ?_, ?_, HK2.out.trans hk3⟩
             · exact (HSWG.out.mono (by omega) (by omega)).trans ((HSW2.out.mono (by omega) (by omega)).trans (Sw.mono hsw3 (by omega) (by omega)))
             · exact (HSO2.out.kept hsw3 (.inl (by omega))).join hso3 (cross_kept HCR.out HSW2.out hsw3)
           · have q6 : ¬ ((E : Nat) : Int) < b := by omega
             obtain rfl : E = b := by omega
             go_wp2_with fail; go_end0
             refine ⟨rfl, _, HR2.out, ?_, ?_, HK2.out⟩
             · exact (HSWG.out.mono (by omega) (by omega)).trans ((HSW2.out.mono (by omega) (by omega)).trans (Sw.mono (Sw.refl (a := mid) (b := E) (f := F2)) (by omega) (by omega)))
             · exact (HSO2.out.kept (Sw.refl (a := mid) (b := E) (f := F2)) (.inl (by omega))).join HSA.out.1 (cross_kept HCR.out HSW2.out (Sw.refl (a := mid) (b := E) (f := F2)))
         · have q5 : ¬ ((mid : Nat) : Int) < E := by omega
           obtain rfl : mid = E := by omega
           go_wp2_with fail; go_end0
           refine ⟨rfl, _, HR2.out, ?_, ?_, HK2.out⟩
           · exact (HSWG.out.mono (by omega) (by omega)).trans ((HSW2.out.mono (by omega) (by omega)).trans (Sw.mono (Sw.refl (a := mid) (b := b) (f := F2)) (by omega) (by omega)))
           · exact (HSO2.out.kept (Sw.refl (a := mid) (b := b) (f := F2)) (.inl (by omega))).join HSA.out.2 (cross_kept HCR.out HSW2.out (Sw.refl (a := mid) (b := b) (f := F2)))
theorem sym_step (D : Nat) (ih : SymOk D) : SymOk (D + 1) := by
 intro g cap n f a m b w hD h ham hmb hb hn h1 h2; by_cases hma : m = a + 1
 · exact sym_a D ih g cap n f a m b w hD h ham hmb hb hn h1 h2 hma
 · by_cases hbm : b = m + 1
   · exact sym_b D ih g cap n f a m b w hD h ham hmb hb hn h1 h2 hma hbm
   · exact sym_cd D ih g cap n f a m b w hD h ham hmb hb hn h1 h2 hma hbm
theorem sym_any : ∀ D, SymOk D
 | 0 => fun _ _ _ _ _ _ _ _ h => by omega
 | D + 1 => sym_step D (sym_any D)
theorem sym_law (g cap n : Nat) (f : Nat → MC) (a m b : Nat) (w : World) (h : RowS w g cap n f) (ham : a < m) (hmb : m < b) (hb : b ≤ n) (hn : n ≤ 1000000) (h1 : SOn ltK a m f) (h2 : SOn ltK m b f) :
 Calls Tryz.prog 110 #[.slice (some ⟨g, 0, none⟩) n cap, .int .i64 a, .int .i64 m, .int .i64 b, .func (.func 70) #[] #[]] w (fun e w' => e = .returned (.tuple #[]) ∧ ∃ f', RowS w' g cap n f' ∧ Sw a b f f' ∧ SOn ltK a b f' ∧ KeptP g w w') :=
 sym_any (b - a + 1) g cap n f a m b w (by omega) h ham hmb hb hn h1 h2
set_option maxHeartbeats 6400000 in
theorem stable_any (g cap n : Nat) (f : Nat → MC) (w : World) (h : RowS w g cap n f) (hn : n ≤ 1000000) :
 Calls Tryz.prog 90 #[.slice (some ⟨g, 0, none⟩) n cap, .int .i64 n, .func (.func 70) #[] #[]] w (fun e w' => e = .returned (.tuple #[]) ∧ ∃ f', RowS w' g cap n f' ∧ Sw 0 n f f' ∧ SOn ltK 0 n f' ∧ KeptP g w w') := by
 have H := Hd h; clear h; go_enter Tryz.func90, Tryz.ntmps90
 go_wp2_with fail; go_loopw [7, 8] (fun av bv wr => ∃ (a b : Nat) (F : Nat → MC), av = .int .i64 a ∧ bv = .int .i64 b ∧ b ≤ a + 20 ∧ a + 20 ≤ b ∧ a ≤ n ∧ RunsTo ltK 20 F a ∧ Sw 0 n f F ∧ RowS wr g cap n F ∧ KeptP g w wr) (fun av _ _ => n + 1 - (intOf av).toNat)
 case atStart => exact ⟨0, 20, f, rfl, rfl, by omega, by omega, by omega, .zero, .refl, H.out, KeptP.refl _ _⟩
 case round =>
  obtain ⟨a, b, F, rfl, rfl, hb1, hb2, han, hrt, hsw, hr, hk⟩ := hrel; have HRT := Hd hrt; have HSW := Hd hsw; have HR := Hd hr; have HK := Hd hk; clear hrt hsw hr hk H; by_cases hle : b ≤ n
  · have q1 : ((b : Nat) : Int) ≤ n := by omega
    have w1 : IntKind.i64.wrap ((b : Int) + 20) = ((b + 20 : Nat) : Int) := by rw [IntWalk.i64_in _ (by omega)]; omega
    go_wp2_with fail; refine (insSort_any g cap n F a b _ HR.out (by omega) hle hn).mono ?_; rintro e w2 ⟨rfl, F2, hr2, hsw2, hso2, hk2⟩; go_wp2_with fail; go_roundw
    case rel =>
     obtain rfl : b = a + 20 := by omega
     exact ⟨a + 20, a + 20 + 20, F2, by first | rfl | go_num, by first | rfl | go_num, by omega, by omega, by omega, .step (HRT.out.kept hsw2 (Nat.le_refl _)) hso2, HSW.out.trans (hsw2.mono (by omega) (by omega)), hr2, HK.out.trans hk2⟩
    case measure => simp [intOf]; omega
  · have q1 : ¬ ((b : Nat) : Int) ≤ n := by omega
    go_wp2_with fail; refine (insSort_any g cap n F a n _ HR.out han (Nat.le_refl _) hn).mono ?_; rintro e w2 ⟨rfl, F2, hr2, hsw2, hso2, hk2⟩; have HR2 := Hd hr2; have HK2 := Hd (HK.out.trans hk2); have HSW2 := Hd (HSW.out.trans (hsw2.mono (by omega) (by omega)))
    have HRUN : Hid (Runs ltK 20 n F2 0) := Hd (RunsTo.le (HRT.out.kept hsw2 (Nat.le_refl _)) (.step (by rw [Nat.min_eq_right (by omega)]; exact hso2) (.done (by omega))) han); clear hr2 hsw2 hso2 hk2 HRT HSW HR HK; go_wp2_with fail
    go_loopw [6] (fun sv wr => ∃ (s : Nat) (F : Nat → MC), sv = .int .i64 s ∧ 20 ≤ s ∧ s ≤ 4000000 ∧ Runs ltK s n F 0 ∧ Sw 0 n f F ∧ RowS wr g cap n F ∧ KeptP g w wr) (fun sv _ => n - (intOf sv).toNat)
    case atStart => exact ⟨20, F2, rfl, by omega, by omega, HRUN.out, HSW2.out, HR2.out, HK2.out⟩
    case round =>
     obtain ⟨s, F3, rfl, hs0, hs1, hrun, hsw, hr, hk⟩ := hrel; have HRUN3 := Hd hrun; have HSW3 := Hd hsw; have HR3 := Hd hr; have HK3 := Hd hk; clear hrun hsw hr hk; by_cases hlt : s < n
     · have q2 : ((s : Nat) : Int) < n := by omega
       have w2 : IntKind.i64.wrap (2 * (s : Int)) = ((2 * s : Nat) : Int) := by rw [IntWalk.i64_in _ (by omega)]; omega
       have w3 : IntKind.i64.wrap ((s : Int) * 2) = ((2 * s : Nat) : Int) := by rw [IntWalk.i64_in _ (by omega)]; omega
       go_wp2_with fail; go_loopw [7, 8] (fun av bv wr => ∃ (a b : Nat) (F : Nat → MC), av = .int .i64 a ∧ bv = .int .i64 b ∧ b ≤ a + 2 * s ∧ a + 2 * s ≤ b ∧ a ≤ n ∧ RunsTo ltK (2 * s) F a ∧ Runs ltK s n F a ∧ Sw 0 n f F ∧ RowS wr g cap n F ∧ KeptP g w wr) (fun av _ _ => n + 1 - (intOf av).toNat)
       case atStart => exact ⟨0, 2 * s, F3, by first | rfl | go_num, by first | rfl | go_num, by omega, by omega, by omega, .zero, HRUN3.out, HSW3.out, HR3.out, HK3.out⟩
       case round =>
        obtain ⟨c, d, F4, rfl, rfl, hd1, hd2, hcn, hrt, hrun, hsw, hr, hk⟩ := hrel; have HRT4 := Hd hrt; have HRUN4 := Hd hrun; have HSW4 := Hd hsw; have HR4 := Hd hr; have HK4 := Hd hk; clear hrt hrun hsw hr hk; obtain ⟨m, hm⟩ := Ex (c + s); have w4 : IntKind.i64.wrap ((c : Int) + s) = (m : Int) := by rw [IntWalk.i64_in _ (by omega)]; omega
        have m1 := Nat.le_of_eq hm; have m2 := Nat.le_of_eq hm.symm; have HM := Hd hm; clear hm; by_cases hle2 : d ≤ n
        · have q3 : ((d : Nat) : Int) ≤ n := by omega
          obtain ⟨d2, hd2e⟩ := Ex (d + 2 * s); have w5 : IntKind.i64.wrap ((d : Int) + ((2 * s : Nat) : Int)) = (d2 : Int) := by rw [IntWalk.i64_in _ (by omega)]; omega
          have w6 : IntKind.i64.wrap ((d : Int) + (2 * (s : Int))) = (d2 : Int) := by rw [IntWalk.i64_in _ (by omega)]; omega
          have d3 := Nat.le_of_eq hd2e; have d4 := Nat.le_of_eq hd2e.symm; clear hd2e; obtain ⟨r1, r2⟩ := Runs.inv HRUN4.out (by omega : c < n); rw [HM.out, Nat.min_eq_left (by omega)] at r1; rw [HM.out] at r2; obtain ⟨r3, r4⟩ := Runs.inv r2 (by omega : m < n); rw [show m + s = d by omega, Nat.min_eq_left (by omega)] at r3; rw [show m + s = d by omega] at r4; have HR1 := Hd r1; have HR3' := Hd r3
          have HR4' := Hd r4; clear r1 r2 r3 r4; go_wp2_with fail; refine (sym_law g cap n F4 c m d _ HR4.out (by omega) (by omega) hle2 hn HR1.out HR3'.out).mono ?_; rintro e w7 ⟨rfl, F5, hr5, hsw5, hso5, hk5⟩; go_wp2_with fail; go_roundw
          case rel =>
           refine ⟨d, d2, F5, by first | rfl | go_num, by first | rfl | go_num, by omega, by omega, hle2, ?_, HR4'.out.kept hsw5 (Nat.le_refl _), HSW4.out.trans (hsw5.mono (by omega) (by omega)), hr5, HK4.out.trans hk5⟩; have := RunsTo.step (s := 2 * s) (HRT4.out.kept hsw5 (Nat.le_refl _)) (by rw [show c + 2 * s = d by omega]; exact hso5); rwa [show c + 2 * s = d by omega] at this
          case measure => simp [intOf]; omega
        · have q3 : ¬ ((d : Nat) : Int) ≤ n := by omega
          by_cases hmn : m < n
          · have q4 : ((m : Nat) : Int) < n := by omega
            obtain ⟨r1, r2⟩ := Runs.inv HRUN4.out (by omega : c < n); rw [HM.out, Nat.min_eq_left (by omega)] at r1; rw [HM.out] at r2; obtain ⟨r3, r4⟩ := Runs.inv r2 hmn; rw [Nat.min_eq_right (by omega)] at r3; have HR1 := Hd r1; have HR3' := Hd r3; clear r1 r2 r3 r4; go_wp2_with fail; refine (sym_law g cap n F4 c m n _ HR4.out (by omega) hmn (Nat.le_refl _) hn HR1.out HR3'.out).mono ?_
            rintro e w7 ⟨rfl, F5, hr5, hsw5, hso5, hk5⟩; go_wp2_with fail; go_roundw
            case rel =>
             refine ⟨2 * s, F5, by first | rfl | go_num, by omega, by omega, ?_, HSW4.out.trans (hsw5.mono (by omega) (by omega)), hr5, HK4.out.trans hk5⟩; exact RunsTo.le (HRT4.out.kept hsw5 (Nat.le_refl _)) (.step (by rw [Nat.min_eq_right (by omega)]; exact hso5) (.done (by omega))) hcn
            case measure => simp [intOf]; omega
          · have q4 : ¬ ((m : Nat) : Int) < n := by omega
            go_wp2_with fail; go_roundw
            case rel =>
             exact ⟨2 * s, F4, by first | rfl | go_num, by omega, by omega, RunsTo.le HRT4.out (HRUN4.out.rest (by omega)) hcn, HSW4.out, HR4.out, HK4.out⟩
            case measure => simp [intOf]; omega
     · have q2 : ¬ ((s : Nat) : Int) < n := by omega
       go_wp2_with fail; go_end0
       exact ⟨rfl, F3, HR3.out, HSW3.out, HRUN3.out.last (by omega), HK3.out⟩
theorem ins_nil (v : Value) (c : Nat) (w : World) (h : ∃ a n k, v = .slice a n k) :
 Calls Tryz.prog 109 #[v, .int .i64 0, .int .i64 0, .func (.func 70) #[] #[]] w (fun e w' => e = .returned (.tuple #[]) ∧ w' = w) := by
 obtain ⟨a, n, k, rfl⟩ := h; go_enter Tryz.func109, Tryz.ntmps109
 go_wp2_with fail; go_loopw [8] (fun iv wr => iv = .int .i64 1 ∧ wr = w) (fun iv _ => 0)
 case atStart => exact ⟨rfl, rfl⟩
 case round =>
  obtain ⟨rfl, rfl⟩ := hrel; go_wp2_with fail; go_end0
  exact ⟨rfl, rfl⟩
theorem sortM_none (w : World) :
 Calls Tryz.prog 69 #[.slice none 0 0, .func (.func 70) #[] #[]] w (fun e w' => e = .returned (.tuple #[]) ∧ w' = w) := by
 go_enter Tryz.func69, Tryz.ntmps69
 have key : Calls Tryz.prog 90 #[.slice none 0 0, .int .i64 0, .func (.func 70) #[] #[]] w (fun e w' => e = .returned (.tuple #[]) ∧ w' = w) := by
  go_enter Tryz.func90, Tryz.ntmps90
  go_wp2_with fail; go_loopw [7, 8] (fun av bv wr => av = .int .i64 0 ∧ bv = .int .i64 20 ∧ wr = w) (fun av _ _ => 0)
  case atStart => exact ⟨rfl, rfl, rfl⟩
  case round =>
   obtain ⟨rfl, rfl, rfl⟩ := hrel; go_wp2_with fail; refine (ins_nil _ 0 _ ⟨_, _, _, rfl⟩).mono ?_; rintro e w2 ⟨rfl, rfl⟩; go_wp2_with fail; go_loopw [6] (fun av wr => av = .int .i64 20 ∧ wr = w2) (fun av _ => 0)
   case atStart => exact ⟨rfl, rfl⟩
   case round =>
    obtain ⟨rfl, rfl⟩ := hrel; go_wp2_with fail; go_end0
    exact ⟨rfl, rfl⟩
 have KEY := Hd key; clear key; go_wp2_with fail; refine KEY.out.mono ?_; rintro e w2 ⟨rfl, rfl⟩; go_wp2_with fail; go_end0
 exact ⟨rfl, rfl⟩
theorem sortS_any (g cap n : Nat) (f : Nat → MC) (w : World) (h : RowS w g cap n f) (hn : n ≤ 1000000) :
 Calls Tryz.prog 69 #[.slice (some ⟨g, 0, none⟩) n cap, .func (.func 70) #[] #[]] w (fun e w' => e = .returned (.tuple #[]) ∧ ∃ f', RowS w' g cap n f' ∧ Sw 0 n f f' ∧ SOn ltK 0 n f' ∧ KeptP g w w') := by
 have KEY := Hd (stable_any g cap n f w h hn); clear h; go_enter Tryz.func69, Tryz.ntmps69
 go_wp2_with fail; refine KEY.out.mono ?_; rintro e w2 ⟨rfl, h2⟩; go_wp2_with fail; go_end0
 exact ⟨rfl, h2⟩
end Go.Proofs.YtjapbjmeoaagmaaGreatDoor
end

section
set_option maxRecDepth 100000
namespace Orange
theorem Sw.comp {α β : Type} {a b : Nat} {s : Nat → α} (h : α → β) {f : Nat → α} (hs : Sw a b f s) : Sw a b (fun i => h (f i)) (fun i => h (s i)) := by
 induction hs with
 | refl => exact .refl
 | @step g i j _ e1 e2 e3 e4 ih =>
   have e : (fun k => h (sw g i j k)) = sw (fun k => h (g k)) i j := by
    funext k; simp only [sw]; split
    · rfl
    · split <;> rfl
   rw [e]; exact .step ih e1 e2 e3 e4
theorem Sw.ids {α : Type} {a b : Nat} {f g : Nat → α} (h : Sw a b f g) : ∃ s : Nat → Nat, Sw a b (fun i => i) s ∧ g = fun i => f (s i) := by
 induction h with
 | refl => exact ⟨fun i => i, .refl, rfl⟩
 | @step g i j _ e1 e2 e3 e4 ih =>
   obtain ⟨s, h1, h2⟩ := ih; refine ⟨sw s i j, .step h1 e1 e2 e3 e4, ?_⟩; rw [h2]; funext k; simp only [sw]; split
   · rfl
   · split <;> rfl
end Orange
namespace Go.Proofs.YtjapbjmeoaagmaaGreatDoor
open Go.RowKit Go.Mem Orange
theorem ownsRow_same {w w' : World} {base : Nat} {e : TypeId} {z n : Nat} {v : Value} {cs : List Value} (h : w.ownsRow base e z v n cs) (hk : ∀ g, v.ownBlock = some g → w'.heap[g]? = w.heap[g]?) : w'.ownsRow base e z v n cs := by
 obtain ⟨h1, h2⟩ := h; refine ⟨h1, ?_⟩; rcases h2 with h2 | ⟨g, cap, cur, rfl, hbg, hg, r⟩
 · exact .inl h2
 · exact .inr ⟨g, cap, cur, rfl, hbg, by rw [hk g rfl]; exact hg, r⟩
def OwL (base : Nat) (v : Value) (acc : List Tree) (w : World) : Prop :=
 ∃ cs, w.ownsRow base 27 8 v acc.length cs ∧ TL w (fun g => base ≤ g ∧ v.ownBlock ≠ some g) acc cs
def OwM (base : Nat) (v : Value) (acc : List Mem1) (w : World) : Prop :=
 ∃ cs, w.ownsRow base 43 9 v acc.length cs ∧ TM w (fun g => base ≤ g ∧ v.ownBlock ≠ some g) acc cs
theorem OwL.nil (base : Nat) (w : World) : OwL base (.slice none 0 0) [] w := ⟨[], World.ownsRow_nil _ _ _ _, .nil⟩
theorem OwM.nil (base : Nat) (w : World) : OwM base (.slice none 0 0) [] w := ⟨[], World.ownsRow_nil _ _ _ _, .nil⟩
theorem OwL.same {base : Nat} {v : Value} {acc : List Tree} {w w' : World} (h : OwL base v acc w) (hs : w.heap.size ≤ w'.heap.size) (hk : ∀ g, base ≤ g → g < w.heap.size → w'.heap[g]? = w.heap[g]?) : OwL base v acc w' := by
 obtain ⟨cs, h1, h2⟩ := h; exact ⟨cs, ownsRow_same h1 (fun g e => hk g (h1.lt g e).1 (h1.lt g e).2), h2.keep hs (fun g hg hlt => ⟨hg, hk g hg.1 hlt⟩)⟩
theorem OwM.same {base : Nat} {v : Value} {acc : List Mem1} {w w' : World} (h : OwM base v acc w) (hs : w.heap.size ≤ w'.heap.size) (hk : ∀ g, base ≤ g → g < w.heap.size → w'.heap[g]? = w.heap[g]?) : OwM base v acc w' := by
 obtain ⟨cs, h1, h2⟩ := h; exact ⟨cs, ownsRow_same h1 (fun g e => hk g (h1.lt g e).1 (h1.lt g e).2), h2.keep hs (fun g hg hlt => ⟨hg, hk g hg.1 hlt⟩)⟩
theorem OwL.ext {base : Nat} {v : Value} {acc : List Tree} {w w' : World} (h : OwL base v acc w) (hx : Ext w w') : OwL base v acc w' := h.same hx.size (fun g _ hg => hx.block g hg)
theorem OwM.ext {base : Nat} {v : Value} {acc : List Mem1} {w w' : World} (h : OwM base v acc w) (hx : Ext w w') : OwM base v acc w' := h.same hx.size (fun g _ hg => hx.block g hg)
theorem OwL.shape {base : Nat} {v : Value} {acc : List Tree} {w : World} (h : OwL base v acc w) : ∃ a c, v = .slice a acc.length c := by
 obtain ⟨cs, h1, h2⟩ := h; rcases h1.2 with ⟨rfl, e⟩ | ⟨g, cap, cur, e, _⟩
 · exact ⟨none, 0, by rw [e]⟩
 · exact ⟨_, _, e⟩
theorem OwM.shape {base : Nat} {v : Value} {acc : List Mem1} {w : World} (h : OwM base v acc w) : ∃ a c, v = .slice a acc.length c := by
 obtain ⟨cs, h1, h2⟩ := h; rcases h1.2 with ⟨rfl, e⟩ | ⟨g, cap, cur, e, _⟩
 · exact ⟨none, 0, by rw [e]⟩
 · exact ⟨_, _, e⟩
theorem OwL.push {base n : Nat} {acc : List Tree} {cs : List Value} {t : Tree} {c : Array Value} {v v' : Value} {w3 w4 : World} (hown : w3.ownsRow base 27 8 v n cs) (htl : TL w3 (fun g => base ≤ g ∧ v.ownBlock ≠ some g) acc cs) (hn : n = acc.length)
 (htv : TV w3 (fun g => base ≤ g ∧ v.ownBlock ≠ some g) t c) (hown4 : w4.ownsRow base 27 8 v' (n + 1) (cs ++ c.toList)) (hgr : w3.grownBy w4 v.ownBlock) (hor : v'.ownBlock = v.ownBlock ∨ v'.ownBlock = some w3.heap.size) : OwL base v' (acc ++ [t]) w4 := by
 subst hn; have hk : ∀ g, base ≤ g ∧ v.ownBlock ≠ some g → g < w3.heap.size → (base ≤ g ∧ v'.ownBlock ≠ some g) ∧ w4.heap[g]? = w3.heap[g]? := fun g hg hlt =>
  ⟨⟨hg.1, fun e => by
    rcases hor with h | h
    · rw [h] at e; exact hg.2 e
    · rw [h] at e; simp only [Option.some.injEq] at e; omega⟩, hgr.block g hlt (Ne.symm hg.2)⟩
 exact ⟨_, by rw [List.length_append]; exact hown4, TL.append (htl.keep hgr.size hk) (htv.keep hgr.size hk)⟩
theorem OwM.push {base n : Nat} {acc : List Mem1} {cs : List Value} {key : List UInt8} {t : Tree} {c : Array Value} {v v' : Value} {w3 w4 : World} (hown : w3.ownsRow base 43 9 v n cs) (htl : TM w3 (fun g => base ≤ g ∧ v.ownBlock ≠ some g) acc cs) (hn : n = acc.length)
 (htv : TV w3 (fun g => base ≤ g ∧ v.ownBlock ≠ some g) t c) (hown4 : w4.ownsRow base 43 9 v' (n + 1) (cs ++ .string ⟨key.toArray⟩ :: c.toList)) (hgr : w3.grownBy w4 v.ownBlock) (hor : v'.ownBlock = v.ownBlock ∨ v'.ownBlock = some w3.heap.size) : OwM base v' (acc ++ [(key, t)]) w4 := by
 subst hn; have hk : ∀ g, base ≤ g ∧ v.ownBlock ≠ some g → g < w3.heap.size → (base ≤ g ∧ v'.ownBlock ≠ some g) ∧ w4.heap[g]? = w3.heap[g]? := fun g hg hlt =>
  ⟨⟨hg.1, fun e => by
    rcases hor with h | h
    · rw [h] at e; exact hg.2 e
    · rw [h] at e; simp only [Option.some.injEq] at e; omega⟩, hgr.block g hlt (Ne.symm hg.2)⟩
 exact ⟨_, by rw [List.length_append]; exact hown4, TM.append (htl.keep hgr.size hk) (htv.keep hgr.size hk)⟩
section
variable {G0 G1 : World → World → Prop} {sp p B : Nat}
def specNewL (h0 : ∀ w w', G0 w w' → KeptP p w w') (h1 : ∀ w w', G1 w w' → KeptP p w w') (hp : p < B) (t : Tree) : GrowS.Spec (GrowS.gS sp G0 G1) :=
 ⟨fun v => ∃ g, v = .slice (some ⟨g, 0, none⟩) 1 1, fun v w => ∃ g c, v = .slice (some ⟨g, 0, none⟩) 1 1 ∧ B ≤ g ∧ w.heap[g]? = some (.cells c 27 (0, 0)) ∧ TV w (fun g => B ≤ g) t c, ⟨_, 0, rfl⟩,
   fun i v w w' ⟨g, c, e, hg, h, ht⟩ hG => by
    have hk : KeptP p w w' := by unfold GrowS.gS at hG; split at hG; exact h1 _ _ hG; exact h0 _ _ hG
    exact ⟨g, c, e, hg, by rw [hk.block g (Array.getElem?_eq_some_iff.1 h).1 (by omega)]; exact h, ht.kept hk hp⟩⟩
def specNewM (h0 : ∀ w w', G0 w w' → KeptP p w w') (h1 : ∀ w w', G1 w w' → KeptP p w w') (hp : p < B) (key : List UInt8) (t : Tree) : GrowS.Spec (GrowS.gS sp G0 G1) :=
 ⟨fun v => ∃ g, v = .slice (some ⟨g, 0, none⟩) 1 1, fun v w => ∃ g c, v = .slice (some ⟨g, 0, none⟩) 1 1 ∧ B ≤ g ∧ w.heap[g]? = some (.cells (.string ⟨key.toArray⟩ :: c.toList).toArray 43 (0, 0)) ∧ TV w (fun g => B ≤ g) t c, ⟨_, 0, rfl⟩,
   fun i v w w' ⟨g, c, e, hg, h, ht⟩ hG => by
    have hk : KeptP p w w' := by unfold GrowS.gS at hG; split at hG; exact h1 _ _ hG; exact h0 _ _ hG
    exact ⟨g, c, e, hg, by rw [hk.block g (Array.getElem?_eq_some_iff.1 h).1 (by omega)]; exact h, ht.kept hk hp⟩⟩
end
theorem sorted_row {w w' : World} {base g cap : Nat} {m : List Mem1} {ms : List (List Value)} {A : Nat → Prop} {f' : Nat → MC} (hm : TMc w A m ms) (hnd : (m.map (·.1)).Nodup) (hAg : ∀ b, A b → b ≠ g) (f : Nat → MC) (hf : ∀ i, (h : i < m.length) → (f i).1 = m[i].1 ∧ TV w A m[i].2 (f i).2)
 (hr : RowS w' g cap m.length f') (hsw : Sw 0 m.length f f') (hso : SOn ltK 0 m.length f') (hk : KeptP g w w') :
 (sortM m).length = m.length ∧ ∃ cs, TM w' A (sortM m) cs ∧ ∀ A' : Nat → Prop, A' g → RowAt w' A' 9 (.slice (some ⟨g, 0, none⟩) m.length cap) m.length cs := by
 obtain ⟨s, h1, rfl⟩ := hsw.ids; have hs : ∀ i, i < m.length → s i < m.length := fun i hi => by
  obtain ⟨j, e1, e2, _⟩ := h1.any i; rw [e1]; exact (e2 (Nat.zero_le _) hi).2
 have hsi : ∀ i j, i < m.length → j < m.length → s i = s j → i = j := by
  have hp := h1.perm (n := m.length) (Nat.le_refl _); have hn : (listF s m.length).Nodup := hp.nodup_iff.2 (by simpa [listF] using List.nodup_range); intro i j hi hj e; have := (List.nodup_iff_pairwise_ne.1 hn)
  have h2 := List.pairwise_iff_getElem.1 this; rcases Nat.lt_trichotomy i j with h | h | h
  · exact absurd e (by have := h2 i j (by simpa [listF] using hi) (by simpa [listF] using hj) h; simpa [listF_get] using this)
  · exact h
  · exact absurd e.symm (by have := h2 j i (by simpa [listF] using hj) (by simpa [listF] using hi) h; simpa [listF_get] using this)
 obtain ⟨m', hm'⟩ : ∃ m' : List Mem1, m' = listF (fun i => m.getD (s i) ([], tNull)) m.length := ⟨_, rfl⟩
 have hlen : m'.length = m.length := by rw [hm', listF_length]
 have hget : ∀ i, (h : i < m'.length) → m'[i] = m[s i]'(hs i (by omega)) := fun i h => by
  subst hm'; rw [listF_get, List.getD_eq_getElem?_getD, List.getElem?_eq_getElem (hs i (by simpa [listF] using h))]; rfl
 have hperm : m'.Perm m := by
  have h2 := (Sw.comp (fun i => m.getD i ([], tNull)) h1).perm (n := m.length) (Nat.le_refl _); rw [← hm'] at h2; have e : listF (fun i => m.getD i ([], tNull)) m.length = m := by
   apply List.ext_getElem
   · rw [listF_length]
   · intro i a b; rw [listF_get, List.getD_eq_getElem?_getD, List.getElem?_eq_getElem b]; rfl
  rw [e] at h2; exact h2
 have hrise : Rise m' := by
  refine List.pairwise_iff_getElem.2 (fun i j hi hj hij => ?_); have e := hso i j (Nat.zero_le _) hij (by omega); have hi' := hs i (by omega); have hj' := hs j (by omega); rw [hget i hi, hget j hj]; have e2 : keyLess m[s j].1 m[s i].1 = false := by
   have : ltK (f (s j)) (f (s i)) = false := e; unfold ltK at this; rw [(hf _ hj').1, (hf _ hi').1] at this; exact this
  refine keyLess_not e2 (fun ek => ?_); have h2 := List.pairwise_iff_getElem.1 (List.nodup_iff_pairwise_ne.1 hnd); have hne : s i ≠ s j := fun e => by have := hsi i j (by omega) (by omega) e; omega
  rcases Nat.lt_or_gt_of_ne hne with h | h
  · have := h2 (s i) (s j) (by simpa using hi') (by simpa using hj') h; simp at this; exact this ek.symm
  · have := h2 (s j) (s i) (by simpa using hj') (by simpa using hi') h; simp at this; exact this ek
 have hsort := sortM_unique hrise hperm; rw [← hsort]; refine ⟨hlen, _, TMc.tm (ms := listF (fun i => cellsMC (f (s i))) m.length) ⟨by rw [hlen, listF_length], fun i hi hi' => ?_⟩, fun A' hA' => ?_⟩
 · rw [hget i hi, listF_get]; have hf2 := hf (s i) (hs i (by omega)); refine ⟨(f (s i)).2, hf2.2.keep hk.size (fun b hb hlt => ⟨hb, hk.block b hlt (hAg b hb)⟩), ?_⟩; rw [cellsMC, hf2.1]
 · have := RowC.row hr.1 hA' (by rw [listF_length]); exact this
def SrtOk (t : Tree) : Prop := ∀ (c : Array Value) (A : Nat → Prop) (w : World), TV w A t c → weightT t ≤ 1000000 → distT t →
 Calls Tryz.prog 32 #[.agg c] w (fun e w' => ∃ c', e = .returned (.agg c') ∧ TV w' (fun g => w.heap.size ≤ g) (sortedT t) c' ∧ Ext w w')
theorem wlenL : ∀ l : List Tree, l.length ≤ weightL l
 | [] => by simp [weightL]
 | t :: l => by
   have h1 := wlenL l; have h2 := count_weight t; have h3 : 0 < countT t := by cases t; rw [countT]; omega
   rw [weightL, List.length_cons]; omega
theorem wlenM : ∀ l : List Mem1, l.length ≤ weightM l
 | [] => by simp [weightM]
 | (k, t) :: l => by
   have h1 := wlenM l; have h2 := count_weight t; have h3 : 0 < countT t := by cases t; rw [countT]; omega
   rw [weightM, List.length_cons]; omega
theorem setc_size {w : World} {q i : Nat} {u : Value} : (w.setCell ⟨q, i, none⟩ u).heap.size = w.heap.size := by simp [World.setCell]
theorem setc_block {w : World} {q i : Nat} {u : Value} {g : Nat} (hg : g ≠ q) : (w.setCell ⟨q, i, none⟩ u).heap[g]? = w.heap[g]? := by
 by_cases h : g < w.heap.size
 · exact (Kept.setCell (B := w.heap.size) u).block g h hg
 · rw [Array.getElem?_eq_none (by rw [setc_size]; omega), Array.getElem?_eq_none (by omega)]
theorem OwL.setc {base q i : Nat} {v u : Value} {acc : List Tree} {w : World} (h : OwL base v acc w) (hq : q < base) : OwL base v acc (w.setCell ⟨q, i, none⟩ u) :=
 h.same (Nat.le_of_eq setc_size.symm) (fun g hg _ => setc_block (by omega))
theorem OwM.setc {base q i : Nat} {v u : Value} {acc : List Mem1} {w : World} (h : OwM base v acc w) (hq : q < base) : OwM base v acc (w.setCell ⟨q, i, none⟩ u) :=
 h.same (Nat.le_of_eq setc_size.symm) (fun g hg _ => setc_block (by omega))
def LFix (base : Nat) (vL v : Value) (l : List Tree) (w : World) : Prop :=
 ∃ cs, TL w (fun g => base ≤ g ∧ v.ownBlock ≠ some g) l cs ∧ RowAt w (fun g => base ≤ g ∧ v.ownBlock ≠ some g) 8 vL l.length cs
theorem LFix.ofOwn {base : Nat} {vL : Value} {l : List Tree} {w : World} (h : OwL base vL l w) : LFix base vL (.slice none 0 0) l w := by
 obtain ⟨cs, h1, h2⟩ := h; exact ⟨cs, h2.keep (Nat.le_refl _) (fun g hg _ => ⟨⟨hg.1, by simp [Value.ownBlock]⟩, rfl⟩), RowAt.own h1 (by decide) (fun g e hg _ => ⟨hg, by simp [Value.ownBlock]⟩)⟩
theorem LFix.same {base : Nat} {vL v : Value} {l : List Tree} {w w' : World} (h : LFix base vL v l w) (hs : w.heap.size ≤ w'.heap.size) (hk : ∀ g, base ≤ g → v.ownBlock ≠ some g → g < w.heap.size → w'.heap[g]? = w.heap[g]?) : LFix base vL v l w' := by
 obtain ⟨cs, h1, h2⟩ := h; exact ⟨cs, h1.keep hs (fun g hg hlt => ⟨hg, hk g hg.1 hg.2 hlt⟩), h2.keep hs (fun g hg hlt => ⟨hg, hk g hg.1 hg.2 hlt⟩)⟩
theorem LFix.ext {base : Nat} {vL v : Value} {l : List Tree} {w w' : World} (h : LFix base vL v l w) (hx : Ext w w') : LFix base vL v l w' := h.same hx.size (fun g _ _ hg => hx.block g hg)
theorem LFix.setc {base q i : Nat} {vL v u : Value} {l : List Tree} {w : World} (h : LFix base vL v l w) (hq : q < base) : LFix base vL v l (w.setCell ⟨q, i, none⟩ u) :=
 h.same (Nat.le_of_eq setc_size.symm) (fun g hg _ _ => setc_block (by omega))
theorem LFix.push {base : Nat} {vL v v' : Value} {l : List Tree} {w3 w4 : World} (h : LFix base vL v l w3) (hgr : w3.grownBy w4 v.ownBlock) (hor : v'.ownBlock = v.ownBlock ∨ v'.ownBlock = some w3.heap.size) : LFix base vL v' l w4 := by
 obtain ⟨cs, h1, h2⟩ := h; have hk : ∀ g, base ≤ g ∧ v.ownBlock ≠ some g → g < w3.heap.size → (base ≤ g ∧ v'.ownBlock ≠ some g) ∧ w4.heap[g]? = w3.heap[g]? := fun g hg hlt =>
  ⟨⟨hg.1, fun e => by
    rcases hor with h | h
    · rw [h] at e; exact hg.2 e
    · rw [h] at e; simp only [Option.some.injEq] at e; omega⟩, hgr.block g hlt (Ne.symm hg.2)⟩
 exact ⟨cs, h1.keep hgr.size hk, h2.keep hgr.size hk⟩
theorem TMc.fn {w : World} {A : Nat → Prop} {m : List Mem1} {ms : List (List Value)} (h : TMc w A m ms) : ∃ f : Nat → MC, ms = listF (fun i => cellsMC (f i)) m.length ∧ ∀ i, (hi : i < m.length) → (f i).1 = m[i].1 ∧ TV w A m[i].2 (f i).2 := by
 refine ⟨fun i => ((m.getD i ([], tNull)).1, ⟨(ms.getD i []).tail⟩), ?_, fun i hi => ?_⟩
 · apply List.ext_getElem
   · rw [listF_length]; exact h.1.symm
   · intro i a b; rw [listF_get]; have hi : i < m.length := by simpa [listF] using b
     obtain ⟨c, _, e⟩ := h.2 i hi a; simp only [cellsMC, List.getD_eq_getElem?_getD, List.getElem?_eq_getElem hi, List.getElem?_eq_getElem a, Option.getD_some]; rw [e]; rfl
 · obtain ⟨c, hc, e⟩ := h.2 i hi (by rw [← h.1]; exact hi); have e2 : (ms.getD i []) = .string ⟨m[i].1.toArray⟩ :: c.toList := by
    rw [List.getD_eq_getElem?_getD, List.getElem?_eq_getElem (by rw [← h.1]; exact hi)]; exact e
   refine ⟨by simp [List.getD_eq_getElem?_getD, hi], ?_⟩; show TV w A m[i].2 ⟨(ms.getD i []).tail⟩; rw [e2]; exact hc
theorem OwM.rowS {base : Nat} {v : Value} {m : List Mem1} {w : World} (h : OwM base v m w) (h0 : 0 < m.length) (hk : ∀ p ∈ m, p.1.length ≤ 35184372088000) :
 ∃ g cap f ms, v = .slice (some ⟨g, 0, none⟩) m.length cap ∧ base ≤ g ∧ RowS w g cap m.length f ∧ TMc w (fun b => base ≤ b ∧ b ≠ g) m ms ∧ ∀ i, (hi : i < m.length) → (f i).1 = m[i].1 ∧ TV w (fun b => base ≤ b ∧ b ≠ g) m[i].2 (f i).2 := by
 obtain ⟨cs, h1, h2⟩ := h; obtain ⟨ms, rfl, h3⟩ := TMc.of h2; obtain ⟨g, cap, rfl, hg, hr⟩ := RowC.ofOwn h1 h3.nine h3.1.symm h0; have h4 : TMc w (fun b => base ≤ b ∧ b ≠ g) m ms := h3.keep (Nat.le_refl _) (fun b hb _ => ⟨⟨hb.1, fun e => hb.2 (by rw [e]; rfl)⟩, rfl⟩); obtain ⟨f, hf, hf2⟩ := h4.fn; rw [hf] at hr
 exact ⟨g, cap, f, ms, rfl, hg, ⟨hr, fun i hi => ⟨by rw [(hf2 i hi).1]; exact hk _ (List.getElem_mem hi), (hf2 i hi).2.eight⟩⟩, h4, hf2⟩
set_option maxHeartbeats 6400000 in
theorem srt_step (t : Tree) (ih : ∀ x ∈ t.ins, SrtOk x) : SrtOk t := by
 intro c A w h hwt hdist; obtain ⟨kk, bb, d, ss, la, ln, lc, ma, mn, mc, rfl⟩ := h.eight; obtain ⟨cl, cm, htl, hrl, htm, hrm, hk, hb, hd1, hd2, hd3, hss⟩ := tv_rows h; obtain ⟨_, a1, c1, ea, hl1, hl2, -⟩ := id hrl; simp only [Value.slice.injEq] at ea; obtain ⟨rfl, eln, rfl⟩ := ea; subst eln; obtain ⟨_, a2, c2, ea, hm1, hm2, -⟩ := id hrm; simp only [Value.slice.injEq] at ea
 obtain ⟨rfl, emn, rfl⟩ := ea; subst emn; obtain ⟨tk, tb, tn, ts, tl, tm⟩ := t; obtain ⟨d1, d2, d3⟩ := d; obtain ⟨n1, n2, n3⟩ := tn; simp only [Tree.kind, Tree.bit, Tree.num, Tree.str, Tree.list, Tree.mems] at hk hb hd1 hd2 hd3 hss htl hrl htm hrm hl1 hm1 h ⊢; subst hk hb hd1 hd2 hd3 hss; rw [distT] at hdist; obtain ⟨hnd, hdl, hdm⟩ := hdist; rw [weightT] at hwt; have hwl := wlenL tl
 have hwm := wlenM tm; have hll : tl.length ≤ 1000000 := by omega
 have hml : tm.length ≤ 1000000 := by omega
 have IHL : Hid (∀ x ∈ tl, SrtOk x ∧ weightT x ≤ 1000000 ∧ distT x) := Hd (fun x hx => by
  refine ⟨ih x (List.mem_append_left _ hx), ?_, (distL_iff tl).1 hdl x hx⟩; obtain ⟨i, hi, rfl⟩ := List.getElem_of_mem hx; have := weightL_mem hi; omega)
 have IHM : Hid (∀ x ∈ tm, SrtOk x.2 ∧ weightT x.2 ≤ 1000000 ∧ distT x.2 ∧ x.1.length ≤ 1000000) := Hd (fun x hx => by
  obtain ⟨i, hi, rfl⟩ := List.getElem_of_mem hx; have := weightM_mem hi; exact ⟨ih _ (List.mem_append_right _ (List.mem_map.2 ⟨_, hx, rfl⟩)), by omega, (distM_iff tm).1 hdm _ hx, by omega⟩)
 have HND := Hd hnd; clear ih hdl hdm hwl hwm hwt hnd; obtain ⟨wA, ewA⟩ : ∃ W, w.alloc (.cells (cellsV kk bb ⟨d1, d2, d3⟩ ss (.slice la tl.length lc) (.slice ma tm.length mc)) 27) = W := ⟨_, rfl⟩
 have nwA : wA.heap[w.heap.size]? = some (.cells (cellsV kk bb ⟨d1, d2, d3⟩ ss (.slice la tl.length lc) (.slice ma tm.length mc)) 27) := by rw [← ewA]; exact heap_alloc_new _ _
 have xwA : Ext w wA := by rw [← ewA]; exact (ext_refl _).alloc (Nat.le_refl _) _
 have swA : wA.heap.size = w.heap.size + 1 := by rw [← ewA]; simp
 obtain ⟨wB, ewB⟩ : ∃ W, wA.alloc (.cells zeroV 27) = W := ⟨_, rfl⟩
 have nwB : wB.heap[wA.heap.size]? = some (.cells zeroV 27) := by rw [← ewB]; exact heap_alloc_new _ _
 have xwB : Ext wA wB := by rw [← ewB]; exact (ext_refl _).alloc (Nat.le_refl _) _
 have swB : wB.heap.size = wA.heap.size + 1 := by rw [← ewB]; simp
 have hE := ext_trans xwA xwB; rw [swA] at nwB; have HC : Hid (VAt wB w.heap.size (cellsV kk bb ⟨d1, d2, d3⟩ ss (.slice la tl.length lc) (.slice ma tm.length mc))) := Hd (VAt.ext nwA xwB); have HV : Hid (VAt wB (w.heap.size + 1) zeroV) := Hd nwB; have HTL := Hd (htl.keep (w' := wB) (A' := fun g => g < w.heap.size) hE.size (fun g hg hlt => ⟨hlt, hE.block g hlt⟩))
 have HRL := Hd (hrl.keep (w' := wB) (A' := fun g => g < w.heap.size) hE.size (fun g hg hlt => ⟨hlt, hE.block g hlt⟩)); have HTM := Hd (htm.keep (w' := wB) (A' := fun g => g < w.heap.size) hE.size (fun g hg hlt => ⟨hlt, hE.block g hlt⟩)); have HRM := Hd (hrm.keep (w' := wB) (A' := fun g => g < w.heap.size) hE.size (fun g hg hlt => ⟨hlt, hE.block g hlt⟩)); have EA := Hd ewA; have EB := Hd ewB
 have HE := Hd hE; have hBsz : wB.heap.size = w.heap.size + 2 := by rw [swB, swA]
 clear htl hrl htm hrm h hE nwA nwB xwA xwB ewA ewB swA swB; simp only [cellsV, zeroV, noL, Num.zero] at HC HV EA EB ⊢; go_enter Tryz.func32, Tryz.ntmps32
 go_upto_region 1 with fail; rw [EA.out, EB.out]; obtain ⟨S, hS⟩ := Ex w.heap.size; rw [hS] at HC HV HTL HRL HTM HRM hBsz ⊢; have HS := Hd hS; clear hS EA EB; obtain ⟨c0, c1, c2, c3, c4, c5, c6, c7⟩ := HC.out.c8; go_upto_region 3 with fail; clear c0 c1 c2 c3 c4 c5 c6 c7
 have hx1 : Ext wB (wB.alloc (.cells (cellsV kk bb ⟨d1, d2, d3⟩ ss (.slice none 0 0) noL) 27)) := (ext_refl _).alloc (Nat.le_refl _) _; have hq1 := VAt.new wB (cellsV kk bb ⟨d1, d2, d3⟩ ss (.slice none 0 0) noL); have hsz1 : (wB.alloc (.cells (cellsV kk bb ⟨d1, d2, d3⟩ ss (.slice none 0 0) noL) 27)).heap.size = S + 3 := by simp [hBsz]
 rw [hBsz] at hq1; simp only [cellsV, noL] at hx1 hq1 hsz1; generalize wB.alloc (.cells #[.int .i64 kk, .bool bb, .bool d1, .string ⟨d2.toArray⟩, .int .i64 d3, .string ⟨ss.toArray⟩, .slice none 0 0, .slice none 0 0] 27) = w1 at *; have HX1 := Hd hx1; have HQ1 := Hd hq1; have HC1 := Hd (HC.out.ext hx1); have HBS := Hd hBsz; clear hx1 hq1 hBsz; have c6 := HC1.out.cell 6; simp at c6; go_wp2_with fail
 clear c6; go_loopw [14] (fun iv wr => ∃ (i : Nat) (vL : Value), iv = .int .i64 i ∧ i ≤ tl.length ∧ VAt wr (S + 2) #[.int .i64 kk, .bool bb, .bool d1, .string ⟨d2.toArray⟩, .int .i64 d3, .string ⟨ss.toArray⟩, vL, .slice none 0 0] ∧ OwL (S + 3) vL (sortedL (tl.take i)) wr ∧ Kept (S + 3) (S + 2) w1 wr) (fun iv _ => 2000000 - (intOf iv).toNat)
 case atStart => exact ⟨0, .slice none 0 0, rfl, by omega, HQ1.out, by rw [List.take_zero, sortedL]; exact OwL.nil _ _, Kept.refl _ _ _⟩
 case round =>
  obtain ⟨i, vL, rfl, hi, hv, how, hkp⟩ := hrel; have HV1 := Hd hv; have HOW := Hd how; have HKP := Hd hkp; clear hv how hkp; by_cases hlt : i < tl.length
  · have hlti : (i : Int) < tl.length := by omega
    have hi0 : (0 : Int) ≤ i := by omega
    obtain ⟨vA, vC, hvL⟩ := HOW.out.shape; rw [show (sortedL (tl.take i)).length = i by rw [sortedL_map, List.length_map, List.length_take]; omega] at hvL; subst hvL; have hblk : ∀ g, g < S → g < wB.heap.size → wr.heap[g]? = wB.heap[g]? := fun g hg hlt => (HKP.out.block g (by omega) (by omega)).trans (HX1.out.block g hlt)
    obtain ⟨g, o, xk, xb, xd, xs, xa1, xn1, xc1, xa2, xn2, xc2, rfl, htx, hcell⟩ := row_elem HRL.out HTL.out rfl i hlt; obtain ⟨x0, x1, x2, x3, x4, x5, x6, x7⟩ := hcell wr hblk; have htx2 := htx.keep (w' := wr) (A' := fun _ => True) (Nat.le_trans HX1.out.size HKP.out.size) (fun g hg hlt => ⟨trivial, hblk g hg hlt⟩); have HTX := Hd htx2; have HIH := Hd (IHL.out tl[i] (List.getElem_mem hlt))
    have HTK : Hid (sortedL (tl.take (i + 1)) = sortedL (tl.take i) ++ [sortedT tl[i]]) := Hd (by rw [sortedL_map, sortedL_map, List.take_succ_eq_append_getElem hlt, List.map_append]; rfl); clear hblk htx hcell htx2; generalize tl[i] = x at *
    have HC2 : Hid (VAt wr S #[.int .i64 kk, .bool bb, .bool d1, .string ⟨d2.toArray⟩, .int .i64 d3, .string ⟨ss.toArray⟩, .slice (some ⟨g, o, none⟩) tl.length lc, .slice ma tm.length mc]) := Hd (by unfold VAt; rw [HKP.out.block S (by omega) (by omega)]; exact HC1.out)
    have hx5 : Ext wr (wr.alloc (.cells (cellsV xk xb xd xs (.slice xa1 xn1 xc1) (.slice xa2 xn2 xc2)) 27)) := (ext_refl _).alloc (Nat.le_refl _) _; have hn5 := VAt.new wr (cellsV xk xb xd xs (.slice xa1 xn1 xc1) (.slice xa2 xn2 xc2)); have hrs : S + 3 ≤ wr.heap.size := Nat.le_trans (Nat.le_of_eq hsz1.symm) HKP.out.size; obtain ⟨P5, hP5⟩ := Ex wr.heap.size; rw [hP5] at hn5 hrs
    simp only [cellsV] at hx5 hn5; go_upto_region 6 with fail; clear x0 x1 x2 x3 x4 x5 x6 x7; generalize wr.alloc (.cells #[.int .i64 xk, .bool xb, .bool xd.neg, .string ⟨xd.digits.toArray⟩, .int .i64 xd.exp, .string ⟨xs.toArray⟩, .slice xa1 xn1 xc1, .slice xa2 xn2 xc2] 27) = w5 at *; have hr5 : P5 ≤ w5.heap.size := by rw [← hP5]; exact hx5.size
    have HN5 := Hd hn5; have HV5 := Hd (HV1.out.ext hx5); have HOW5 := Hd (HOW.out.ext hx5); have HK5 := Hd (HKP.out.trans (Kept.ofBelow (hx5.mono (by omega)))); have HP5 := Hd hP5
    have HCALL : Hid (∀ w', Ext w5 w' → Calls Tryz.prog 32 #[.agg #[.int .i64 xk, .bool xb, .bool xd.neg, .string ⟨xd.digits.toArray⟩, .int .i64 xd.exp, .string ⟨xs.toArray⟩, .slice xa1 xn1 xc1, .slice xa2 xn2 xc2]] w' (fun e w'' => ∃ c', e = .returned (.agg c') ∧ TV w'' (fun g => w'.heap.size ≤ g) (sortedT x) c' ∧ Ext w' w'')) := Hd (fun w' hw =>
     HIH.out.1 _ (fun _ => True) w' (HTX.out.keep (ext_trans hx5 hw).size (fun g _ hlt => ⟨trivial, (ext_trans hx5 hw).block g hlt⟩)) HIH.out.2.1 HIH.out.2.2)
    obtain ⟨T, hT⟩ := Ex (sortedT x); rw [hT] at HCALL HTK; have hq1 : S + 2 < w5.heap.size := by omega
    clear hP5 hx5 hn5 HTX HIH hT HOW HKP HV1; have h0 : ∀ w w', Ext w w' → KeptP (S + 2) w w' := fun _ _ => KeptP.ofExt; refine GrowS.wp_region_restT (G0 := Ext) (G1 := Ext) (B0 := fun w' => Ext w5 w') (B1 := fun w' => Ext w5 w') (E := fun _ _ => False) (anc := fun j => if j = 4 then [3] else if j = 99 then [3] else [])
     (I := fun j => if j = 3 then some (specTV h0 h0 hq1 T True) else if j = 4 then some (specNewL h0 h0 hq1 T) else none) 3 5 (fun j => ([[], [0], [], [2], [2, 3], [0, 1, 2, 3, 4], [0, 1, 2, 3, 4, 5], [0, 1, 2, 3, 4, 5, 6]] : List (List Nat)).getD j []) #[true, true, true, true, true, false, false, false]
     (by kernel_rfl) (by kernel_rfl) (by kernel_rfl) (by kernel_rfl) (by kernel_rfl) (by kernel_rfl) ?_ ?_ ?_ ?_ ?_ ?_
    · exact fun w w' h hg => ext_trans h hg
    · exact fun w w' h hg => ext_trans h hg
    · exact fun w w' h hg => ext_trans h hg
    · exact fun _ _ _ _ h => h.elim
    · exact (ext_refl _).drew
    have HBK : Hid (∀ {k : Nat} w', GrowS.atS 3 (fun w' => Ext w5 w') (fun w' => Ext w5 w') k w' → Ext w5 w') := Hd (fun w' h => by
     unfold GrowS.atS at h; split at h
     · exact h
     · rcases h with h | h <;> exact h)
    simp only [List.take_succ_cons, List.take_zero, List.drop_succ_cons, List.drop_zero]; repeat
     (refine GrowS.Wk.step (fun K hK => ?_)
      first
      | (refine GrowS.step_read (by rfl) (by rfl) (fun w => ext_refl w) ?_
         apply Exists.intro; refine ⟨fun w hB hF => ?_, ?_⟩
         · replace hB := HBK.out w hB
           have q6 := (HV5.out.ext hB).cell 6; have f6 := (HV5.out.ext hB).free 6; have n0 := (HN5.out.ext hB).cell 0; have n1 := (HN5.out.ext hB).cell 1; have n2 := (HN5.out.ext hB).cell 2; have n3 := (HN5.out.ext hB).cell 3; have n4 := (HN5.out.ext hB).cell 4; have n5 := (HN5.out.ext hB).cell 5; have n6 := (HN5.out.ext hB).cell 6; have n7 := (HN5.out.ext hB).cell 7; simp at q6 n0 n1 n2 n3 n4 n5 n6 n7
           go_simp; try exact rfl
         go_simp; refine hK _ _ ?_; clear hK K)
      | (refine GrowS.step_off (by rfl) ?_
         go_simp; refine hK _ _ ?_; clear hK K))
    refine GrowS.Wk.step (fun K hK => ?_); refine GrowS.step_rel (by rfl) (by rfl) (fun w' hB hF => ?_) (fun v hv => ?_)
    · replace hB := HBK.out w' hB; go_simp; refine GrowS.relUpon_enter ((HCALL.out w' hB).mono ?_); rintro e w'' ⟨c', rfl, htv, hx⟩; obtain ⟨rk, rb, rd, rs, ra1, rn1, rc1, ra2, rn2, rc2, rfl⟩ := htv.eight; exact .inl ⟨_, rfl, hx, ⟨_, _, _, _, _, _, _, _, _, _, rfl⟩, trivial, _, rfl, htv.keep (Nat.le_refl _) (fun g hg _ => ⟨Nat.le_trans hB.size hg, rfl⟩)⟩
    obtain ⟨rk, rb, rd, rs, ra1, rn1, rc1, ra2, rn2, rc2, rfl⟩ := hv; go_simp; refine hK _ _ ?_; clear hK K; refine GrowS.Wk.step (fun K hK => ?_); refine GrowS.step_rel (by rfl) (by rfl) (fun w' hB hF => ?_) (fun v hv => ?_)
    · replace hB := HBK.out w' hB; obtain ⟨_, c', ec, htv⟩ : True ∧ ∃ c', Value.agg (cellsV rk rb rd rs (.slice ra1 rn1 rc1) (.slice ra2 rn2 rc2)) = .agg c' ∧ TV w' (fun g => w5.heap.size ≤ g) T c' := hF 3 (by simp); simp only [Value.agg.injEq] at ec; subst ec
      have HTVN := Hd (htv.keep (w' := w'.alloc (.cells (cellsV rk rb rd rs (.slice ra1 rn1 rc1) (.slice ra2 rn2 rc2)) 27)) (A' := fun g => w5.heap.size ≤ g) (by simp) (fun g hg hlt => ⟨hg, ((ext_refl w').alloc (Nat.le_refl _) _).block g hlt⟩)); clear htv hF; simp only [cellsV] at HTVN ⊢; go_simp
      exact GrowS.relUpon_value ((ext_refl w').alloc (Nat.le_refl _) _) ⟨_, rfl⟩ ⟨_, _, rfl, hB.size, heap_alloc_new _ _, HTVN.out⟩
    obtain ⟨gn, rfl⟩ := hv; go_simp; refine hK _ _ ?_; clear hK K; refine GrowS.Wk.nil ?_; intro w3 hB hF; replace hB : Ext w5 w3 := hB; obtain ⟨gn', cn, eg, hgn, hnew, htv⟩ := hF 4; simp only [Value.slice.injEq, Option.some.injEq, Addr.mk.injEq, and_true] at eg; subst eg; clear hF HBK h0; obtain ⟨cs, hown, htl⟩ := HOW5.out.ext hB
    rw [show (sortedL (tl.take i)).length = i by rw [sortedL_map, List.length_map, List.length_take]; omega] at hown; show wpAny _ _ _ _ (2 + 1) _ _ _; refine wpAny_one 5 (by kernel_rfl) ?_
    refine wpOp_append rfl (by rfl) _ _ _ _ rfl (S + 3) 27 _ _ 8 112 (by kernel_rfl) (by rfl) (by rfl) (by rfl) (by kernel_rfl) (by rfl) (by decide) _ i cs (by rfl) hown _ 1 cn.toList (by rfl) (src_one (e' := 27) (by kernel_rfl) hnew htv.size (TV.one htv)) (by simp only [maxLen]; omega) (by omega) (Nat.le_trans (Nat.le_trans hrs hr5) hB.size) ?_; intro v' w4 hown4 hgr hor
    have hqo : some (S + 2) ≠ (Value.slice vA i vC).ownBlock := fun e => by have := (hown.lt _ e.symm).1; omega
    have hv3 := HV5.out.ext hB; have hv4 : VAt w4 (S + 2) #[.int .i64 kk, .bool bb, .bool d1, .string ⟨d2.toArray⟩, .int .i64 d3, .string ⟨ss.toArray⟩, .slice vA i vC, .slice none 0 0] := by
     unfold VAt; rw [hgr.block (S + 2) hv3.lt hqo]; exact hv3
    have hlt5 : ∀ k, (Value.slice vA i vC).ownBlock = some k → k < w5.heap.size := fun k e => by
     obtain ⟨cs', h1, _⟩ := HOW5.out; exact (h1.lt k e).2
    have how4 : OwL (S + 3) v' (sortedL (tl.take (i + 1))) w4 := by
     rw [HTK.out]; refine OwL.push hown htl (by rw [sortedL_map, List.length_map, List.length_take]; omega) (htv.keep (Nat.le_refl _) (fun g hg _ => ⟨⟨by omega, fun e => by have := hlt5 g e; omega⟩, rfl⟩)) hown4 hgr hor
    obtain ⟨v4A, v4C, ev4⟩ := how4.shape; rw [show (sortedL (tl.take (i + 1))).length = i + 1 by rw [sortedL_map, List.length_map, List.length_take]; omega] at ev4; subst ev4
    have hk4 : Kept (S + 3) (S + 2) w1 w4 := (HK5.out.trans (Kept.ofBelow (hB.mono (by omega)))).trans ⟨hgr.os, hgr.tape, hgr.output, hgr.size, fun k hk _ => hgr.block k (by have := hB.size; omega) (fun e => by have := (hown.lt k e.symm).1; omega)⟩; have HV4 := Hd (hv4.set1 6 (.slice v4A (i + 1) v4C)); have HOW4 := Hd (how4.setc (q := S + 2) (i := 6) (u := .slice v4A (i + 1) v4C) (by omega))
    have HK4 := Hd (hk4.trans (Kept.setCell (B := S + 3) (p := S + 2) (o := 6) (.slice v4A (i + 1) v4C))); have f6 := hv4.free 6; have q6 := hv4.cell 6; simp at q6; clear hv3 hv4 how4 hk4 hown4 hgr hor hqo hlt5 hown htl htv hnew hB; refine wpAny_one 6 (by kernel_rfl) ?_; refine wpOp_now rfl (by rfl) ?_; unfold Oper.wp; go_simp; refine wpAny_one 7 (by kernel_rfl) ?_; refine wpOp_now rfl (by rfl) ?_
    unfold Oper.wp; go_simp; show wpAny _ _ _ _ 0 _ _ _; refine ⟨by decide +kernel, ?_⟩; have w9 : IntKind.i64.wrap ((i : Int) + 1) = ((i + 1 : Nat) : Int) := by rw [IntWalk.i64_in _ (by omega)]; omega
    clear q6 f6; go_wp2_with fail; go_roundw
    case rel => exact ⟨i + 1, _, by go_num, by omega, by simpa using HV4.out, HOW4.out, HK4.out⟩
    case measure => simp [intOf]; omega
  · have hnlt : ¬ ((i : Int) < tl.length) := by omega
    obtain rfl : i = tl.length := by omega
    have how2 := HOW.out; rw [List.take_length] at how2; obtain ⟨vA, vC, hvL⟩ := how2.shape; rw [show (sortedL tl).length = tl.length by rw [sortedL_map, List.length_map]] at hvL; subst hvL; have HLF := Hd (LFix.ofOwn how2); clear how2 HOW; have HC2 : Hid (VAt wr S _) := Hd (by unfold VAt; rw [HKP.out.block S (by omega) (by omega)]; exact HC1.out); have c7 := HC2.out.cell 7; simp at c7
    go_wp2_with fail; clear c7
    go_loopw [29] (fun iv wx => ∃ (i : Nat) (vM : Value), iv = .int .i64 i ∧ i ≤ tm.length ∧ VAt wx (S + 2) #[.int .i64 kk, .bool bb, .bool d1, .string ⟨d2.toArray⟩, .int .i64 d3, .string ⟨ss.toArray⟩, .slice vA tl.length vC, vM] ∧ OwM (S + 3) vM (sortedM (tm.take i)) wx ∧ LFix (S + 3) (.slice vA tl.length vC) vM (sortedL tl) wx ∧ (i = 0 → vM = .slice none 0 0) ∧ Kept (S + 3) (S + 2) w1 wx) (fun iv _ => 2000000 - (intOf iv).toNat)
    case atStart => exact ⟨0, .slice none 0 0, rfl, by omega, HV1.out, by rw [List.take_zero, sortedM]; exact OwM.nil _ _, HLF.out, fun _ => rfl, HKP.out⟩
    case round =>
     clear HV1 HLF HKP; obtain ⟨i, vM, rfl, hi, hv, how, hlf, hz, hkp⟩ := hrel; have HV1 := Hd hv; have HOW := Hd how; have HLF := Hd hlf; have HZ := Hd hz; have HKP := Hd hkp; clear hv how hlf hz hkp; by_cases hlt : i < tm.length
     · have hlti : (i : Int) < tm.length := by omega
       have hi0 : (0 : Int) ≤ i := by omega
       obtain ⟨mA, mC, hvM⟩ := HOW.out.shape; rw [(show (sortedM (tm.take i)).length = i by rw [sortedM_map, List.length_map, List.length_take]; omega)] at hvM; subst hvM; have hblk : ∀ g, g < S → g < wB.heap.size → wr.heap[g]? = wB.heap[g]? := fun g hg hlt => (HKP.out.block g (by omega) (by omega)).trans (HX1.out.block g hlt)
       obtain ⟨g, o, xk, xb, xd, xs, xa1, xn1, xc1, xa2, xn2, xc2, rfl, htx, hcell⟩ := mem_elem HRM.out HTM.out rfl i hlt; obtain ⟨x0, x1, x2, x3, x4, x5, x6, x7, x8⟩ := hcell wr hblk; have htx2 := htx.keep (w' := wr) (A' := fun _ => True) (Nat.le_trans HX1.out.size HKP.out.size) (fun g hg hlt => ⟨trivial, hblk g hg hlt⟩); have HTX := Hd htx2; have HIH := Hd (IHM.out tm[i] (List.getElem_mem hlt))
       have HTK : Hid (sortedM (tm.take (i + 1)) = sortedM (tm.take i) ++ [(tm[i].1, sortedT tm[i].2)]) := Hd (by rw [sortedM_map, sortedM_map, List.take_succ_eq_append_getElem hlt, List.map_append]; rfl); clear hblk htx hcell htx2; generalize tm[i].1 = key at *; generalize tm[i].2 = x at *
       have HC2 : Hid (VAt wr S #[.int .i64 kk, .bool bb, .bool d1, .string ⟨d2.toArray⟩, .int .i64 d3, .string ⟨ss.toArray⟩, .slice la tl.length lc, .slice (some ⟨g, o, none⟩) tm.length mc]) := Hd (by unfold VAt; rw [HKP.out.block S (by omega) (by omega)]; exact HC1.out)
       have hx5 : Ext wr (wr.alloc (.cells #[.string ⟨key.toArray⟩, .int .i64 xk, .bool xb, .bool xd.neg, .string ⟨xd.digits.toArray⟩, .int .i64 xd.exp, .string ⟨xs.toArray⟩, .slice xa1 xn1 xc1, .slice xa2 xn2 xc2] 43)) := (ext_refl _).alloc (Nat.le_refl _) _
       have hn5 := MAt.new wr #[.string ⟨key.toArray⟩, .int .i64 xk, .bool xb, .bool xd.neg, .string ⟨xd.digits.toArray⟩, .int .i64 xd.exp, .string ⟨xs.toArray⟩, .slice xa1 xn1 xc1, .slice xa2 xn2 xc2]; have hrs : S + 3 ≤ wr.heap.size := Nat.le_trans (Nat.le_of_eq hsz1.symm) HKP.out.size; obtain ⟨P5, hP5⟩ := Ex wr.heap.size; rw [hP5] at hn5 hrs; go_upto_region 11 with fail
       clear x0 x1 x2 x3 x4 x5 x6 x7 x8; generalize wr.alloc (.cells #[.string ⟨key.toArray⟩, .int .i64 xk, .bool xb, .bool xd.neg, .string ⟨xd.digits.toArray⟩, .int .i64 xd.exp, .string ⟨xs.toArray⟩, .slice xa1 xn1 xc1, .slice xa2 xn2 xc2] 43) = w5 at *; have hr5 : P5 ≤ w5.heap.size := by rw [← hP5]; exact hx5.size
       have HN5 := Hd hn5; have HV5 := Hd (HV1.out.ext hx5); have HOW5 := Hd (HOW.out.ext hx5); have HLF5 := Hd (HLF.out.ext hx5); have HK5 := Hd (HKP.out.trans (Kept.ofBelow (hx5.mono (by omega)))); have HP5 := Hd hP5
       have HCALL : Hid (∀ w', Ext w5 w' → Calls Tryz.prog 32 #[.agg #[.int .i64 xk, .bool xb, .bool xd.neg, .string ⟨xd.digits.toArray⟩, .int .i64 xd.exp, .string ⟨xs.toArray⟩, .slice xa1 xn1 xc1, .slice xa2 xn2 xc2]] w' (fun e w'' => ∃ c', e = .returned (.agg c') ∧ TV w'' (fun g => w'.heap.size ≤ g) (sortedT x) c' ∧ Ext w' w'')) := Hd (fun w' hw =>
        HIH.out.1 _ (fun _ => True) w' (HTX.out.keep (ext_trans hx5 hw).size (fun g _ hlt => ⟨trivial, (ext_trans hx5 hw).block g hlt⟩)) HIH.out.2.1 HIH.out.2.2.1)
       obtain ⟨T, hT⟩ := Ex (sortedT x); rw [hT] at HCALL HTK; have hq1 : S + 2 < w5.heap.size := by omega
       clear hP5 hx5 hn5 HTX HIH hT HOW HKP HV1 HLF; have h0 : ∀ w w', Ext w w' → KeptP (S + 2) w w' := fun _ _ => KeptP.ofExt; refine GrowS.wp_region_restT (G0 := Ext) (G1 := Ext) (B0 := fun w' => Ext w5 w') (B1 := fun w' => Ext w5 w') (E := fun _ _ => False) (anc := fun j => if j = 8 then [6] else if j = 7 then [6] else [])
        (I := fun j => if j = 6 then some (specTV h0 h0 hq1 T True) else if j = 8 then some (specNewM h0 h0 hq1 key T) else none) 6 9 (fun j => ([[], [0], [], [2], [], [4], [4, 5], [2, 3, 4, 5, 6], [2, 3, 4, 5, 6, 7], [0, 1, 2, 3, 4, 5, 6, 7, 8], [0, 1, 2, 3, 4, 5, 6, 7, 8, 9], [0, 1, 2, 3, 4, 5, 6, 7, 8, 9, 10]] : List (List Nat)).getD j []) #[true, true, true, true, true, true, true, true, true, false, false, false]
        (by kernel_rfl) (by kernel_rfl) (by kernel_rfl) (by kernel_rfl) (by kernel_rfl) (by kernel_rfl) ?_ ?_ ?_ ?_ ?_ ?_
       · exact fun w w' h hg => ext_trans h hg
       · exact fun w w' h hg => ext_trans h hg
       · exact fun w w' h hg => ext_trans h hg
       · exact fun _ _ _ _ h => h.elim
       · exact (ext_refl _).drew
       have HBK : Hid (∀ {k : Nat} w', GrowS.atS 6 (fun w' => Ext w5 w') (fun w' => Ext w5 w') k w' → Ext w5 w') := Hd (fun w' h => by
        unfold GrowS.atS at h; split at h
        · exact h
        · rcases h with h | h <;> exact h)
       simp only [List.take_succ_cons, List.take_zero, List.drop_succ_cons, List.drop_zero]; repeat
        (refine GrowS.Wk.step (fun K hK => ?_)
         first
         | (refine GrowS.step_read (by rfl) (by rfl) (fun w => ext_refl w) ?_
            apply Exists.intro; refine ⟨fun w hB hF => ?_, ?_⟩
            · replace hB := HBK.out w hB
              have q7 := (HV5.out.ext hB).cell 7; have f7 := (HV5.out.ext hB).free 7; have n0 := (HN5.out.ext hB).cell 0; have n1 := (HN5.out.ext hB).cell 1; have n2 := (HN5.out.ext hB).cell 2; have n3 := (HN5.out.ext hB).cell 3; have n4 := (HN5.out.ext hB).cell 4; have n5 := (HN5.out.ext hB).cell 5; have n6 := (HN5.out.ext hB).cell 6; have n7 := (HN5.out.ext hB).cell 7; have n8 := (HN5.out.ext hB).cell 8; simp at q7 n0 n1 n2 n3 n4 n5 n6 n7 n8
              go_simp; try exact rfl
            go_simp; refine hK _ _ ?_; clear hK K)
         | (refine GrowS.step_off (by rfl) ?_
            go_simp; refine hK _ _ ?_; clear hK K))
       refine GrowS.Wk.step (fun K hK => ?_); refine GrowS.step_rel (by rfl) (by rfl) (fun w' hB hF => ?_) (fun v hv => ?_)
       · replace hB := HBK.out w' hB; go_simp; refine GrowS.relUpon_enter ((HCALL.out w' hB).mono ?_); rintro e w'' ⟨c', rfl, htv, hx⟩; obtain ⟨rk, rb, rd, rs, ra1, rn1, rc1, ra2, rn2, rc2, rfl⟩ := htv.eight; exact .inl ⟨_, rfl, hx, ⟨_, _, _, _, _, _, _, _, _, _, rfl⟩, trivial, _, rfl, htv.keep (Nat.le_refl _) (fun g hg _ => ⟨Nat.le_trans hB.size hg, rfl⟩)⟩
       obtain ⟨rk, rb, rd, rs, ra1, rn1, rc1, ra2, rn2, rc2, rfl⟩ := hv; go_simp; refine hK _ _ ?_; clear hK K; repeat
        (refine GrowS.Wk.step (fun K hK => ?_)
         first
         | (refine GrowS.step_read (by rfl) (by rfl) (fun w => ext_refl w) ?_
            apply Exists.intro; refine ⟨fun w hB hF => ?_, ?_⟩
            · replace hB := HBK.out w hB; skip
              go_simp; try exact rfl
            go_simp; refine hK _ _ ?_; clear hK K)
         | (refine GrowS.step_off (by rfl) ?_
            go_simp; refine hK _ _ ?_; clear hK K))
       refine GrowS.Wk.step (fun K hK => ?_); refine GrowS.step_rel (by rfl) (by rfl) (fun w' hB hF => ?_) (fun v hv => ?_)
       · replace hB := HBK.out w' hB; obtain ⟨_, c', ec, htv⟩ : True ∧ ∃ c', Value.agg (cellsV rk rb rd rs (.slice ra1 rn1 rc1) (.slice ra2 rn2 rc2)) = .agg c' ∧ TV w' (fun g => w5.heap.size ≤ g) T c' := hF 6 (by simp); simp only [Value.agg.injEq] at ec; subst ec
         have HTVN := Hd (htv.keep (w' := w'.alloc (.cells (.string ⟨key.toArray⟩ :: (cellsV rk rb rd rs (.slice ra1 rn1 rc1) (.slice ra2 rn2 rc2)).toList).toArray 43)) (A' := fun g => w5.heap.size ≤ g) (by simp) (fun g hg hlt => ⟨hg, ((ext_refl w').alloc (Nat.le_refl _) _).block g hlt⟩)); clear htv hF; simp only [cellsV] at HTVN ⊢; go_simp
         exact GrowS.relUpon_value ((ext_refl w').alloc (Nat.le_refl _) _) ⟨_, rfl⟩ ⟨_, _, rfl, hB.size, heap_alloc_new _ _, HTVN.out⟩
       obtain ⟨gn, rfl⟩ := hv; go_simp; refine hK _ _ ?_; clear hK K; refine GrowS.Wk.nil ?_; intro w3 hB hF; replace hB : Ext w5 w3 := hB; obtain ⟨gn', cn, eg, hgn, hnew, htv⟩ := hF 8; simp only [Value.slice.injEq, Option.some.injEq, Addr.mk.injEq, and_true] at eg; subst eg; clear hF HBK h0; obtain ⟨cs, hown, htl⟩ := HOW5.out.ext hB
       rw [(show (sortedM (tm.take i)).length = i by rw [sortedM_map, List.length_map, List.length_take]; omega)] at hown; show wpAny _ _ _ _ (2 + 1) _ _ _; refine wpAny_one 9 (by kernel_rfl) ?_
       refine wpOp_append rfl (by rfl) _ _ _ _ rfl (S + 3) 43 _ _ 9 128 (by kernel_rfl) (by rfl) (by rfl) (by rfl) (by kernel_rfl) (by rfl) (by decide) _ i cs (by rfl) hown _ 1 (.string ⟨key.toArray⟩ :: cn.toList) (by rfl) (src_one (e' := 43) (by kernel_rfl) hnew (by simp [htv.size]) (fun u hu => by
        rcases List.mem_cons.1 hu with rfl | hu
        · rfl
        · exact TV.one htv u hu)) (by simp only [maxLen]; omega) (by omega) (Nat.le_trans (Nat.le_trans hrs hr5) hB.size) ?_
       intro v' w4 hown4 hgr hor; have hqo : some (S + 2) ≠ (Value.slice mA i mC).ownBlock := fun e => by have := (hown.lt _ e.symm).1; omega
       have hv3 := HV5.out.ext hB; have hv4 : VAt w4 (S + 2) #[.int .i64 kk, .bool bb, .bool d1, .string ⟨d2.toArray⟩, .int .i64 d3, .string ⟨ss.toArray⟩, .slice vA tl.length vC, .slice mA i mC] := by
        unfold VAt; rw [hgr.block (S + 2) hv3.lt hqo]; exact hv3
       have hlt5 : ∀ k, (Value.slice mA i mC).ownBlock = some k → k < w5.heap.size := fun k e => by
        obtain ⟨cs', h1, _⟩ := HOW5.out; exact (h1.lt k e).2
       have how4 : OwM (S + 3) v' (sortedM (tm.take (i + 1))) w4 := by
        rw [HTK.out]; refine OwM.push hown htl (by rw [sortedM_map, List.length_map, List.length_take]; omega) (htv.keep (Nat.le_refl _) (fun g hg _ => ⟨⟨by omega, fun e => by have := hlt5 g e; omega⟩, rfl⟩)) hown4 hgr hor
       have hlf4 := (HLF5.out.ext hB).push hgr hor; obtain ⟨v4A, v4C, ev4⟩ := how4.shape; rw [show (sortedM (tm.take (i + 1))).length = i + 1 by rw [sortedM_map, List.length_map, List.length_take]; omega] at ev4; subst ev4
       have hk4 : Kept (S + 3) (S + 2) w1 w4 := (HK5.out.trans (Kept.ofBelow (hB.mono (by omega)))).trans ⟨hgr.os, hgr.tape, hgr.output, hgr.size, fun k hk _ => hgr.block k (by have := hB.size; omega) (fun e => by have := (hown.lt k e.symm).1; omega)⟩; have HV4 := Hd (hv4.set1 7 (.slice v4A (i + 1) v4C)); have HOW4 := Hd (how4.setc (q := S + 2) (i := 7) (u := .slice v4A (i + 1) v4C) (by omega))
       have HLF4 := Hd (hlf4.setc (q := S + 2) (i := 7) (u := .slice v4A (i + 1) v4C) (by omega)); have HK4 := Hd (hk4.trans (Kept.setCell (B := S + 3) (p := S + 2) (o := 7) (.slice v4A (i + 1) v4C))); have f7 := hv4.free 7; have q7 := hv4.cell 7; simp at q7; clear hv3 hv4 how4 hk4 hlf4 hown4 hgr hor hqo hlt5 hown htl htv hnew hB; refine wpAny_one 10 (by kernel_rfl) ?_; refine wpOp_now rfl (by rfl) ?_
       unfold Oper.wp; go_simp; refine wpAny_one 11 (by kernel_rfl) ?_; refine wpOp_now rfl (by rfl) ?_; unfold Oper.wp; go_simp; show wpAny _ _ _ _ 0 _ _ _; refine ⟨by decide +kernel, ?_⟩; have w9 : IntKind.i64.wrap ((i : Int) + 1) = ((i + 1 : Nat) : Int) := by rw [IntWalk.i64_in _ (by omega)]; omega
       clear q7 f7; go_wp2_with fail; go_roundw
       case rel => exact ⟨i + 1, _, by go_num, by omega, by simpa using HV4.out, HOW4.out, HLF4.out, fun e => by omega, HK4.out⟩
       case measure => simp [intOf]; omega
     · have hnlt : ¬ ((i : Int) < tm.length) := by omega
       obtain rfl : i = tm.length := by omega
       have how2 := HOW.out; rw [List.take_length] at how2; replace HOW := Hd how2; clear how2; have HR1 : Hid (VAt wr (S + 1) _) := Hd (by unfold VAt; rw [HKP.out.block (S + 1) (by omega) (by omega)]; exact HV.out.ext HX1.out); cases htm : tm with
       | nil =>
         subst htm; obtain rfl := HZ.out rfl; obtain ⟨cs, htl, hrl⟩ := HLF.out; have HTVF : Hid (TV wr (fun g => S + 3 ≤ g) (.mk kk bb ⟨d1, d2, d3⟩ ss (sortedL tl) (sortM (sortedM []))) (cellsV kk bb ⟨d1, d2, d3⟩ ss (.slice vA tl.length vC) (.slice none 0 0))) := Hd (by
          have hll : (sortedL tl).length = tl.length := by rw [sortedL_map, List.length_map]
          rw [hll] at hrl; refine TV.mk (htl.keep (Nat.le_refl _) (fun g hg _ => ⟨hg.1, rfl⟩)) (by rw [hll]; exact hrl.keep (Nat.le_refl _) (fun g hg _ => ⟨hg.1, rfl⟩)) ?_ ?_ (cm := [])
          · rw [sortedM]; exact .nil
          · rw [sortedM]; exact RowAt.nil _ _ _ _ _ (by omega))
         clear htl hrl HLF HOW HZ; have q7 := HV1.out.cell 7; simp at q7; go_wp2_with fail; refine (sortM_none wr).mono ?_; rintro e w9 ⟨rfl, rfl⟩; have HR9 := HR1; clear q7; obtain ⟨v0, v1, v2, v3, v4, v5, v6, v7⟩ := HV1.out.c8; obtain ⟨u0, u1, u2, u3, u4, u5, u6, u7⟩ := HR9.out.c8; obtain ⟨f0, f1, f2, f3, f4, f5, f6, f7⟩ := HR9.out.f8; go_wp2_with fail
         clear v0 v1 v2 v3 v4 v5 v6 v7 u0 u1 u2 u3 u4 u5 u6 u7 f0 f1 f2 f3 f4 f5 f6 f7; have hV := VAt.store8 HR9.out (.int .i64 kk) (.bool bb) (.bool d1) (.string ⟨d2.toArray⟩) (.int .i64 d3) (.string ⟨ss.toArray⟩) (.slice vA tl.length vC) (.slice none 0 0); have HV := Hd hV; obtain ⟨v0, v1, v2, v3, v4, v5, v6, v7⟩ := HV.out.c8
         refine bodyPost_ret (v := .agg #[.int .i64 kk, .bool bb, .bool d1, .string ⟨d2.toArray⟩, .int .i64 d3, .string ⟨ss.toArray⟩, .slice vA tl.length vC, .slice none 0 0]) (by simp [results, Tryz.results32, go_sem, v0, v1, v2, v3, v4, v5, v6, v7]) rfl ?_; rw [sortedT]
         exact ⟨_, rfl, HTVF.out.keep (by simp [World.setCell]) (fun g hg hlt => ⟨by rw [HS.out]; omega, heap8 (by omega)⟩), ext_set8 ((ext_trans HE.out HX1.out).trans (by rw [HS.out]; exact (HKP.out.mono (by omega)).below (by omega))) (by rw [HS.out]; omega)⟩
       | cons p0 m0 =>
         have htm0 : 0 < tm.length := by rw [htm]; simp
         rw [← htm]; clear htm; have hsm : (sortedM tm).length = tm.length := by rw [sortedM_map, List.length_map]
         have hkeys : ∀ p ∈ sortedM tm, p.1.length ≤ 35184372088000 := fun p hp => by
          rw [sortedM_map] at hp; obtain ⟨q, hq, rfl⟩ := List.mem_map.1 hp; have := (IHM.out q hq).2.2.2; simp only; omega
         obtain ⟨g, cap, f, ms, evM, hg, hrs, htmc, hf⟩ := HOW.out.rowS (by omega) hkeys; rw [hsm] at evM hrs; subst evM; have hg2 : g ≠ S + 2 := by omega
         have HRS := Hd hrs; have HTMC := Hd htmc; have HF := Hd hf; have HSM := Hd hsm; clear hrs htmc hf hsm hkeys HOW HZ; have q7 := HV1.out.cell 7; simp at q7; go_wp2_with fail; refine (sortS_any g cap tm.length f wr HRS.out hml).mono ?_; rintro e w9 ⟨rfl, f', hr', hsw, hso, hk⟩
         have hsr := sorted_row (base := 0) (m := sortedM tm) HTMC.out (by rw [keys_sortedM]; exact HND.out) (fun b hb => hb.2) f HF.out (by rw [HSM.out]; exact hr') (by rw [HSM.out]; exact hsw) (by rw [HSM.out]; exact hso) hk; obtain ⟨hsl, csm, htm, hrowm⟩ := hsr; rw [HSM.out] at hsl
         have HTVF : Hid (TV w9 (fun g => S + 3 ≤ g) (.mk kk bb ⟨d1, d2, d3⟩ ss (sortedL tl) (sortM (sortedM tm))) (cellsV kk bb ⟨d1, d2, d3⟩ ss (.slice vA tl.length vC) (.slice (some ⟨g, 0, none⟩) tm.length cap))) := Hd (by
          have hll : (sortedL tl).length = tl.length := by rw [sortedL_map, List.length_map]
          obtain ⟨cs, htl, hrl⟩ := HLF.out; rw [hll] at hrl; have hkk : ∀ b, (S + 3 ≤ b ∧ (Value.slice (some ⟨g, 0, none⟩) tm.length cap).ownBlock ≠ some b) → b < wr.heap.size → S + 3 ≤ b ∧ w9.heap[b]? = wr.heap[b]? := fun b hb hlt => ⟨hb.1, hk.block b hlt (fun e => hb.2 (by rw [e]; rfl))⟩
          refine TV.mk (htl.keep hk.size hkk) (by rw [hll]; exact hrl.keep hk.size hkk) (htm.keep (Nat.le_refl _) (fun b hb _ => ⟨hb.1, rfl⟩)) (by rw [hsl]; have := hrowm (fun g => S + 3 ≤ g) hg; rw [HSM.out] at this; exact this))
         have HV9 : Hid (VAt w9 (S + 2) _) := Hd (HV1.out.kept hk (Ne.symm hg2)); have HR9 : Hid (VAt w9 (S + 1) _) := Hd (HR1.out.kept hk (by omega)); have HK9 : Hid (Ext w w9) := Hd ((ext_trans HE.out HX1.out).trans (by rw [HS.out]; exact ((HKP.out.mono (by omega)).below (by omega)).trans ((hk.mono (show S ≤ wr.heap.size by have := HR1.out.lt; omega)).below (by omega))))
         clear q7 hr' hsw hso hk hsl htm hrowm HLF HV1 HR1 HKP HRS HTMC HF; obtain ⟨v0, v1, v2, v3, v4, v5, v6, v7⟩ := HV9.out.c8; obtain ⟨u0, u1, u2, u3, u4, u5, u6, u7⟩ := HR9.out.c8; obtain ⟨f0, f1, f2, f3, f4, f5, f6, f7⟩ := HR9.out.f8; go_wp2_with fail; clear v0 v1 v2 v3 v4 v5 v6 v7 u0 u1 u2 u3 u4 u5 u6 u7 f0 f1 f2 f3 f4 f5 f6 f7
         have hV := VAt.store8 HR9.out (.int .i64 kk) (.bool bb) (.bool d1) (.string ⟨d2.toArray⟩) (.int .i64 d3) (.string ⟨ss.toArray⟩) (.slice vA tl.length vC) (.slice (some ⟨g, 0, none⟩) tm.length cap); have HV := Hd hV; obtain ⟨v0, v1, v2, v3, v4, v5, v6, v7⟩ := HV.out.c8
         refine bodyPost_ret (v := .agg #[.int .i64 kk, .bool bb, .bool d1, .string ⟨d2.toArray⟩, .int .i64 d3, .string ⟨ss.toArray⟩, .slice vA tl.length vC, .slice (some ⟨g, 0, none⟩) tm.length cap]) (by simp [results, Tryz.results32, go_sem, v0, v1, v2, v3, v4, v5, v6, v7]) rfl ?_; rw [sortedT]
         exact ⟨_, rfl, HTVF.out.keep (by simp [World.setCell]) (fun g hg hlt => ⟨by rw [HS.out]; omega, heap8 (by omega)⟩), ext_set8 HK9.out (by rw [HS.out]; omega)⟩
theorem srt_all : ∀ (N : Nat) (t : Tree), SizeOf.sizeOf t < N → SrtOk t
 | 0, _, h => by omega
 | N + 1, t, h => srt_step t (fun x hx => srt_all N x (by have := ins_size hx; omega))
theorem sorted_any (t : Tree) (c : Array Value) (A : Nat → Prop) (w : World) (h : TV w A t c) (hw : weightT t ≤ 1000000) (hd : distT t) :
 Calls Tryz.prog 32 #[.agg c] w (fun e w' => ∃ c', e = .returned (.agg c') ∧ TV w' (fun g => w.heap.size ≤ g) (sortedT t) c' ∧ Ext w w') :=
 srt_all _ t (Nat.lt_succ_self _) c A w h hw hd
end Go.Proofs.YtjapbjmeoaagmaaGreatDoor
end

section
set_option maxRecDepth 100000
namespace Orange
mutual
def fewT : Nat → Int → Tree → Int
 | deep, left, .mk _ _ d s l m => if 150 < deep then -1 else fewM (deep + 1) (fewL (deep + 1) (left - 1 - s.length - d.digits.length) l) m
def fewL : Nat → Int → List Tree → Int
 | _, left, [] => left
 | deep, left, t :: l => if 0 ≤ left then fewL deep (fewT deep left t) l else left
def fewM : Nat → Int → List Mem1 → Int
 | _, left, [] => left
 | deep, left, (k, t) :: m => if 0 ≤ left then fewM deep (fewT deep (left - k.length) t) m else left
end
theorem fewL_cons (deep : Nat) (left : Int) (t : Tree) (l : List Tree) : fewL deep left (t :: l) = if 0 ≤ left then fewL deep (fewT deep left t) l else left := by rw [fewL]
theorem fewM_cons (deep : Nat) (left : Int) (k : List UInt8) (t : Tree) (l : List Mem1) : fewM deep left ((k, t) :: l) = if 0 ≤ left then fewM deep (fewT deep (left - k.length) t) l else left := by rw [fewM]
theorem fewL_neg (deep : Nat) (left : Int) (l : List Tree) (h : left < 0) : fewL deep left l = left := by
 cases l with
 | nil => rw [fewL]
 | cons t l => rw [fewL, if_neg (by omega)]
theorem fewM_neg (deep : Nat) (left : Int) (l : List Mem1) (h : left < 0) : fewM deep left l = left := by
 cases l with
 | nil => rw [fewM]
 | cons t l => obtain ⟨k, t⟩ := t; rw [fewM, if_neg (by omega)]
mutual
theorem fewT_weight : ∀ (t : Tree) (deep : Nat) (left : Int), 0 ≤ fewT deep left t → fewT deep left t + weightT t = left
 | .mk _ _ d s l m, deep, left, h => by
   rw [fewT] at h ⊢; split at h
   · omega
   · next hd =>
     rw [if_neg hd, weightT]; have h2 := fewM_weight m (deep + 1) _ h; have h1 : 0 ≤ fewL (deep + 1) (left - 1 - s.length - d.digits.length) l := by
      rcases Int.lt_or_le (fewL (deep + 1) (left - 1 - s.length - d.digits.length) l) 0 with h0 | h0
      · rw [fewM_neg _ _ _ h0] at h; omega
      · exact h0
     have h3 := fewL_weight l (deep + 1) _ h1; omega
theorem fewL_weight : ∀ (l : List Tree) (deep : Nat) (left : Int), 0 ≤ fewL deep left l → fewL deep left l + weightL l = left
 | [], deep, left, h => by rw [fewL, weightL]; omega
 | t :: l, deep, left, h => by
   rw [fewL] at h ⊢; split at h
   · next h0 =>
     rw [if_pos h0, weightL]; have h2 := fewL_weight l deep _ h; have h1 : 0 ≤ fewT deep left t := by
      rcases Int.lt_or_le (fewT deep left t) 0 with h3 | h3
      · rw [fewL_neg _ _ _ h3] at h; omega
      · exact h3
     have := fewT_weight t deep left h1; omega
   · omega
theorem fewM_weight : ∀ (l : List Mem1) (deep : Nat) (left : Int), 0 ≤ fewM deep left l → fewM deep left l + weightM l = left
 | [], deep, left, h => by rw [fewM, weightM]; omega
 | (k, t) :: l, deep, left, h => by
   rw [fewM] at h ⊢; split at h
   · next h0 =>
     rw [if_pos h0, weightM]; have h2 := fewM_weight l deep _ h; have h1 : 0 ≤ fewT deep (left - k.length) t := by
      rcases Int.lt_or_le (fewT deep (left - k.length) t) 0 with h3 | h3
      · rw [fewM_neg _ _ _ h3] at h; omega
      · exact h3
     have := fewT_weight t deep _ h1; omega
   · omega
end
mutual
theorem fewT_bd : ∀ (t : Tree) (deep : Nat) (left : Int), okT t → -140737488355328 ≤ left → -600000000000000 ≤ fewT deep left t ∧ fewT deep left t ≤ max left 0
 | .mk _ _ d s l m, deep, left, h, hl => by
   rw [okT] at h; obtain ⟨_, _, h1, h2, _, _, h3, h4⟩ := h; rw [fewT]; split
   · omega
   · have a := fewL_bd l (deep + 1) (left - 1 - s.length - d.digits.length) h3 (by omega); have b := fewM_bd m (deep + 1) (fewL (deep + 1) (left - 1 - s.length - d.digits.length) l) h4 (by omega); omega
theorem fewL_bd : ∀ (l : List Tree) (deep : Nat) (left : Int), okL l → -600000000000000 ≤ left → -600000000000000 ≤ fewL deep left l ∧ fewL deep left l ≤ max left 0
 | [], deep, left, h, hl => by rw [fewL]; omega
 | t :: l, deep, left, h, hl => by
   rw [okL] at h; rw [fewL]; split
   · have a := fewT_bd t deep left h.1 (by omega); have b := fewL_bd l deep (fewT deep left t) h.2 (by omega); omega
   · omega
theorem fewM_bd : ∀ (l : List Mem1) (deep : Nat) (left : Int), okM l → -600000000000000 ≤ left → -600000000000000 ≤ fewM deep left l ∧ fewM deep left l ≤ max left 0
 | [], deep, left, h, hl => by rw [fewM]; omega
 | (k, t) :: l, deep, left, h, hl => by
   rw [okM] at h; rw [fewM]; split
   · have a := fewT_bd t deep (left - k.length) h.2.1 (by omega); have b := fewM_bd l deep (fewT deep (left - k.length) t) h.2.2 (by omega); omega
   · omega
end
theorem fewL_take (deep : Nat) : ∀ (l : List Tree) (left : Int) (i : Nat) (h : i < l.length), fewL deep left (l.take (i + 1)) = if 0 ≤ fewL deep left (l.take i) then fewT deep (fewL deep left (l.take i)) l[i] else fewL deep left (l.take i)
 | t :: l, left, 0, h => by simp [fewL]
 | t :: l, left, i + 1, h => by
   have e : fewL deep left ((t :: l).take (i + 1)) = if 0 ≤ left then fewL deep (fewT deep left t) (l.take i) else left := by rw [List.take_succ_cons, fewL_cons]
   rw [e, List.take_succ_cons, fewL_cons, List.getElem_cons_succ]; by_cases h0 : 0 ≤ left
   · rw [if_pos h0, if_pos h0, fewL_take deep l _ i (by simpa using h)]
   · rw [if_neg h0, if_neg h0, if_neg h0]
theorem fewM_take (deep : Nat) : ∀ (l : List Mem1) (left : Int) (i : Nat) (h : i < l.length), fewM deep left (l.take (i + 1)) = if 0 ≤ fewM deep left (l.take i) then fewT deep (fewM deep left (l.take i) - l[i].1.length) l[i].2 else fewM deep left (l.take i)
 | (k, t) :: l, left, 0, h => by simp [fewM]
 | (k, t) :: l, left, i + 1, h => by
   have e : fewM deep left (((k, t) :: l).take (i + 1)) = if 0 ≤ left then fewM deep (fewT deep (left - k.length) t) (l.take i) else left := by rw [List.take_succ_cons, fewM_cons]
   rw [e, List.take_succ_cons, fewM_cons, List.getElem_cons_succ]; by_cases h0 : 0 ≤ left
   · rw [if_pos h0, if_pos h0, fewM_take deep l _ i (by simpa using h)]
   · rw [if_neg h0, if_neg h0, if_neg h0]
theorem fewL_stop (deep : Nat) (l : List Tree) (left : Int) (i : Nat) (h : fewL deep left (l.take i) < 0) : fewL deep left l = fewL deep left (l.take i) := by
 have : ∀ (a b : List Tree) (left : Int), fewL deep left (a ++ b) = fewL deep (fewL deep left a) b := by
  intro a; induction a with
  | nil => intro b left; rw [List.nil_append, fewL]
  | cons t a ih =>
    intro b left; rw [List.cons_append, fewL_cons, fewL_cons]; by_cases h0 : 0 ≤ left
    · rw [if_pos h0, if_pos h0, ih]
    · rw [if_neg h0, if_neg h0, fewL_neg _ _ _ (by omega)]
 conv => lhs; rw [← List.take_append_drop i l, this, fewL_neg _ _ _ h]
theorem fewM_stop (deep : Nat) (l : List Mem1) (left : Int) (i : Nat) (h : fewM deep left (l.take i) < 0) : fewM deep left l = fewM deep left (l.take i) := by
 have : ∀ (a b : List Mem1) (left : Int), fewM deep left (a ++ b) = fewM deep (fewM deep left a) b := by
  intro a; induction a with
  | nil => intro b left; rw [List.nil_append, fewM]
  | cons t a ih =>
    intro b left; obtain ⟨k, t⟩ := t; rw [List.cons_append, fewM_cons, fewM_cons]; by_cases h0 : 0 ≤ left
    · rw [if_pos h0, if_pos h0, ih]
    · rw [if_neg h0, if_neg h0, fewM_neg _ _ _ (by omega)]
 conv => lhs; rw [← List.take_append_drop i l, this, fewM_neg _ _ _ h]
end Orange
end
