/- parse: the laws' own head: awake. -/
import Derived.Test.YtckpndbmpigegaaDoorPaY
import Derived.Test.YtckpndbmpigegaaDoorApp
import Derived.Lib.SlBytesConst
set_option linter.unusedVariables false
set_option linter.unusedSimpArgs false
set_option maxRecDepth 100000
namespace Orange
def Tree.bit : Tree → Bool | .mk _ b _ _ _ _ => b
def Tree.num : Tree → Num | .mk _ _ d _ _ _ => d
def awakeA : List UInt8 := [91, 49, 44, 32, 123, 34, 97, 34, 58, 32, 110, 117, 108, 108, 125, 93]
theorem awakeA_is : (parseP awakeA).2.1 = 0 ∧ (parseP awakeA).2.2 = 16 ∧ (parseP awakeA).1.kind = 4 ∧ (parseP awakeA).1.list.length = 2 := by decide +kernel
theorem awakeB_is : (parseP [91, 49, 44, 93]).2.1 = 2 ∧ (parseP [91, 49, 44, 93]).2.2 = 3 := by decide +kernel
end Orange
namespace Go.Proofs.YtckpndbmpigegaaDoor
open Go.RowKit Go.Mem Orange
theorem TV.shape {w : World} {A : Nat → Prop} {t : Tree} {c : Array Value} (h : TV w A t c) : ∃ a1 c1 a2 c2, c = cellsV t.kind t.bit t.num t.str (.slice a1 t.list.length c1) (.slice a2 t.mems.length c2) := by
  cases h with
  | mk h1 h2 h3 h4 =>
    obtain ⟨_, a1, c1, rfl, _⟩ := h2
    obtain ⟨_, a2, c2, rfl, _⟩ := h4
    exact ⟨_, _, _, _, rfl⟩
theorem bytes_newF (w : World) (cs : Array Value) (e : TypeId) (xs : List UInt8) (h : cs.toList = cells8 xs) (n : Nat) (hn : n = xs.length) (hl : n ≤ 140737488355328) {fr : Nat × Nat} :
    Bytes (w.alloc (.cells cs e fr)) (.slice (some ⟨w.heap.size, 0, none⟩) n n) xs := by
  refine Bytes.mk ?_ hn (Nat.le_refl _) (by omega) hl
  intro _
  refine ⟨_, _, rfl, by simp, fun i hi => ?_⟩
  rw [cell_of_cells (heap_alloc_new w (.cells cs e fr)), show 0 + i = i by omega]
  have : cs.toList[i]? = some (.int .u8 xs[i].toNat) := by rw [h]; simp [cells8, hi]
  simpa using this
set_option maxHeartbeats 6400000 in
theorem pawake (w : World) : Calls Tryd.prog 10 #[] w fun e w' => e = .returned (.bool true) ∧ Ext w w' := by
  obtain ⟨h0, h16, hk, h2⟩ := awakeA_is
  obtain ⟨g0, g3⟩ := awakeB_is
  have kc := fun (w : World) (C : Array Value) (n c : Nat) => Lib.run_convert_bytes_const (P := Tryd.prog) w 22 5 C n c Tryd.underlying22 Tryd.underlying5
  go_enter Tryd.func10, Tryd.ntmps10
  go_wp2_with fail
  refine (top_any _ awakeA _ (bytes_newF _ _ _ _ rfl _ rfl (by simp [awakeA]))).mono ?_
  intro e w1 hend
  obtain ⟨c, rfl, htv, hw1⟩ := hend
  obtain ⟨a1, c1, a2, c2, rfl⟩ := htv.shape
  rw [h0, h16, hk, h2]
  have hx1 : Ext w w1 := ((ext_refl w).alloc (Nat.le_refl _) _).trans (hw1.mono (by simp))
  have hv1 := VAt.new w1 (cellsV 4 (parseP awakeA).1.bit (parseP awakeA).1.num (parseP awakeA).1.str (.slice a1 2 c1) (.slice a2 (parseP awakeA).1.mems.length c2))
  have hx2 : Ext w1 (w1.alloc (.cells (cellsV 4 (parseP awakeA).1.bit (parseP awakeA).1.num (parseP awakeA).1.str (.slice a1 2 c1) (.slice a2 (parseP awakeA).1.mems.length c2)) 29)) := (ext_refl _).alloc (Nat.le_refl _) _
  have HX := Lib.hid (ext_trans hx1 hx2)
  clear htv hw1 hx1 hx2
  simp only [cellsV] at hv1 HX ⊢
  generalize (parseP awakeA).1.bit = tb at *
  generalize (parseP awakeA).1.num = td at *
  generalize (parseP awakeA).1.str = ts at *
  generalize (parseP awakeA).1.mems.length = tm at *
  go_upto_region 2 with fail
  obtain ⟨P, hP⟩ : ∃ P, w1.heap.size = P := ⟨_, rfl⟩
  rw [hP] at hv1 ⊢
  have hsz : (w1.alloc (.cells #[.int .i64 4, .bool tb, .bool td.neg, .string ⟨td.digits.toArray⟩, .int .i64 td.exp, .string ⟨ts.toArray⟩, .slice a1 2 c1, .slice a2 tm c2] 29)).heap.size = P + 1 := by rw [← hP]; simp
  generalize w1.alloc (.cells #[.int .i64 4, .bool tb, .bool td.neg, .string ⟨td.digits.toArray⟩, .int .i64 td.exp, .string ⟨ts.toArray⟩, .slice a1 2 c1, .slice a2 tm c2] 29) = w2 at *
  clear hP hsz
  have HV := Lib.hid hv1
  clear hv1
  go_wp2_with fail
  refine (top_any _ [91, 49, 44, 93] _ (bytes_newF _ _ _ _ rfl _ rfl (by simp))).mono ?_
  intro e w3 hend
  obtain ⟨c, rfl, htv, hw3⟩ := hend
  rw [g0, g3]
  obtain ⟨b1, d1, b2, d2, rfl⟩ := htv.shape
  have hx3 : Ext w2 w3 := ((ext_refl w2).alloc (Nat.le_refl _) _).trans (hw3.mono (by simp))
  generalize (parseP [91, 49, 44, 93]).1 = tB at *
  obtain ⟨kb, bb, db, sb, lb, mb⟩ := tB
  simp only [Tree.kind, Tree.bit, Tree.num, Tree.str, Tree.list, Tree.mems, cellsV]
  generalize lb.length = ll at *
  generalize mb.length = ml at *
  have hx4 : Ext w3 (w3.alloc (.cells #[.int .i64 kb, .bool bb, .bool db.neg, .string ⟨db.digits.toArray⟩, .int .i64 db.exp, .string ⟨sb.toArray⟩, .slice b1 ll d1, .slice b2 ml d2] 29)) := (ext_refl _).alloc (Nat.le_refl _) _
  replace HX := Lib.hid (ext_trans (ext_trans HX.out hx3) hx4)
  replace HV := Lib.hid ((HV.out.ext hx3).ext hx4)
  clear htv hx3 hx4 hw3
  go_upto_region 3 with fail
  generalize w3.alloc (.cells #[.int .i64 kb, .bool bb, .bool db.neg, .string ⟨db.digits.toArray⟩, .int .i64 db.exp, .string ⟨sb.toArray⟩, .slice b1 ll d1, .slice b2 ml d2] 29) = w4 at *
  have v0 := HV.out.cell 0; have v6 := HV.out.cell 6
  simp at v0 v6
  go_wp2_with fail
  go_ret
  exact ⟨rfl, HX.out⟩
end Go.Proofs.YtckpndbmpigegaaDoor
