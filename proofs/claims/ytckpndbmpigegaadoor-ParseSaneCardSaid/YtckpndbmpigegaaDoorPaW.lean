/- parse: what One and Value do. -/
import Derived.Test.YtckpndbmpigegaaDoorPaV
import Derived.Defers
import Derived.Recover
import Derived.Laws.Pointers
set_option linter.unusedVariables false
set_option linter.unusedSimpArgs false
set_option maxRecDepth 100000
namespace Go.Proofs.YtckpndbmpigegaaDoor
open Go.RowKit Go.Mem Orange
/-- three variables' blocks alone have turned -/
structure KeptT (S : Nat) (w w' : World) : Prop where
  os : w'.os = w.os
  tape : w'.tape = w.tape
  output : w'.output = w.output
  size : w.heap.size ≤ w'.heap.size
  block : ∀ k, k < w.heap.size → k ≠ S → k ≠ S + 1 → k ≠ S + 2 → w'.heap[k]? = w.heap[k]?
theorem KeptT.trans {S : Nat} {a b c : World} (h : KeptT S a b) (k : KeptT S b c) : KeptT S a c :=
  ⟨k.os.trans h.os, k.tape.trans h.tape, k.output.trans h.output, Nat.le_trans h.size k.size, fun i h1 h2 h3 h4 => (k.block i (Nat.lt_of_lt_of_le h1 h.size) h2 h3 h4).trans (h.block i h1 h2 h3 h4)⟩
theorem KeptT.ofExt {S : Nat} {a b : World} (h : Ext a b) : KeptT S a b := ⟨h.os, h.tape, h.output, h.size, fun k hk _ _ _ => h.block k hk⟩
theorem KeptT.set {S q o : Nat} {u : Value} (w : World) (hq : q = S ∨ q = S + 1 ∨ q = S + 2) : KeptT S w (w.setCell ⟨q, o, none⟩ u) :=
  ⟨rfl, rfl, rfl, by simp [World.setCell], fun k _ h1 h2 h3 => Below.heap_setCell _ _ _ _ (by show k ≠ q; omega)⟩
/-- the three variables on their way to c, u1, u2 -/
structure G3 (S : Nat) (c : Array Value) (u1 u2 : Value) (w w' : World) : Prop where
  kept : KeptT S w w'
  v : VAt w S c → VAt w' S c
  a : Box1 w (S + 1) 3 u1 → Box1 w' (S + 1) 3 u1
  e : Box1 w (S + 2) 30 u2 → Box1 w' (S + 2) 30 u2
  a0 : (∃ u, Box1 w (S + 1) 3 u) → ∃ u, Box1 w' (S + 1) 3 u
  e0 : (∃ u, Box1 w (S + 2) 30 u) → ∃ u, Box1 w' (S + 2) 30 u
theorem G3.trans {S : Nat} {c : Array Value} {u1 u2 : Value} {w w1 w2 : World} (h : G3 S c u1 u2 w w1) (k : G3 S c u1 u2 w1 w2) : G3 S c u1 u2 w w2 :=
  ⟨h.kept.trans k.kept, fun x => k.v (h.v x), fun x => k.a (h.a x), fun x => k.e (h.e x), fun x => k.a0 (h.a0 x), fun x => k.e0 (h.e0 x)⟩
theorem G3.refl {S : Nat} {c : Array Value} {u1 u2 : Value} (w : World) : G3 S c u1 u2 w w := ⟨KeptT.ofExt (ext_refl w), id, id, id, id, id⟩
theorem Box1.ext {w w' : World} {q : Nat} {ty : TypeId} {u : Value} (h : Box1 w q ty u) (hb : Ext w w') : Box1 w' q ty u := by
  unfold Box1; rw [hb.block _ h.lt]; exact h
theorem G3.drew {S : Nat} {c : Array Value} {u1 u2 : Value} (w : World) : G3 S c u1 u2 w w.drew := ⟨KeptT.ofExt (ext_refl w).drew, id, id, id, id, id⟩
theorem Box1.set {w : World} {q : Nat} {ty : TypeId} {u u' : Value} (h : Box1 w q ty u) : Box1 (w.setCell ⟨q, 0, none⟩ u') q ty u' := setCell_heap_self h
theorem Box1.setO {w : World} {q q' o : Nat} {ty : TypeId} {u u' : Value} (h : Box1 w q ty u) (hq : q ≠ q') : Box1 (w.setCell ⟨q', o, none⟩ u') q ty u := by
  unfold Box1; rw [Below.heap_setCell _ _ _ _ hq]; exact h
theorem VAt.setO {w : World} {q q' o : Nat} {c : Array Value} {u' : Value} (h : VAt w q c) (hq : q ≠ q') : VAt (w.setCell ⟨q', o, none⟩ u') q c := by
  unfold VAt; rw [Below.heap_setCell _ _ _ _ hq]; exact h
theorem g3_setA {S : Nat} {c : Array Value} {u1 u2 : Value} {w : World} (h : ∃ u, Box1 w (S + 1) 3 u) : G3 S c u1 u2 w (w.setCell ⟨S + 1, 0, none⟩ u1) :=
  ⟨KeptT.set w (by omega), fun x => x.setO (by omega), fun x => x.set, fun x => x.setO (by omega), fun ⟨_, x⟩ => ⟨_, x.set⟩, fun ⟨_, x⟩ => ⟨_, x.setO (by omega)⟩⟩
theorem g3_setE {S : Nat} {c : Array Value} {u1 u2 : Value} {w : World} (h : ∃ u, Box1 w (S + 2) 30 u) : G3 S c u1 u2 w (w.setCell ⟨S + 2, 0, none⟩ u2) :=
  ⟨KeptT.set w (by omega), fun x => x.setO (by omega), fun x => x.setO (by omega), fun x => x.set, fun ⟨_, x⟩ => ⟨_, x.setO (by omega)⟩, fun ⟨_, x⟩ => ⟨_, x.set⟩⟩
theorem g3_setV {S : Nat} {y0 y1 y2 y3 y4 y5 y6 y7 u1 u2 : Value} {w : World} (h : VAt w S #[y0, y1, y2, y3, y4, y5, y6, y7]) :
    G3 S #[y0, y1, y2, y3, y4, y5, y6, y7] u1 u2 w ((((((((w.setCell ⟨S, 0, none⟩ y0).setCell ⟨S, 1, none⟩ y1).setCell ⟨S, 2, none⟩ y2).setCell ⟨S, 3, none⟩ y3).setCell ⟨S, 4, none⟩ y4).setCell ⟨S, 5, none⟩ y5).setCell ⟨S, 6, none⟩ y6).setCell ⟨S, 7, none⟩ y7) := by
  have hk : KeptT S w ((((((((w.setCell ⟨S, 0, none⟩ y0).setCell ⟨S, 1, none⟩ y1).setCell ⟨S, 2, none⟩ y2).setCell ⟨S, 3, none⟩ y3).setCell ⟨S, 4, none⟩ y4).setCell ⟨S, 5, none⟩ y5).setCell ⟨S, 6, none⟩ y6).setCell ⟨S, 7, none⟩ y7) :=
    (((((((KeptT.set _ (.inl rfl)).trans (KeptT.set _ (.inl rfl))).trans (KeptT.set _ (.inl rfl))).trans (KeptT.set _ (.inl rfl))).trans (KeptT.set _ (.inl rfl))).trans (KeptT.set _ (.inl rfl))).trans (KeptT.set _ (.inl rfl))).trans (KeptT.set _ (.inl rfl))
  have hb : ∀ q ty u, q ≠ S → Box1 w q ty u → Box1 ((((((((w.setCell ⟨S, 0, none⟩ y0).setCell ⟨S, 1, none⟩ y1).setCell ⟨S, 2, none⟩ y2).setCell ⟨S, 3, none⟩ y3).setCell ⟨S, 4, none⟩ y4).setCell ⟨S, 5, none⟩ y5).setCell ⟨S, 6, none⟩ y6).setCell ⟨S, 7, none⟩ y7) q ty u := fun q ty u hq hx => by
    unfold Box1; rw [heap8 hq]; exact hx
  exact ⟨hk, fun _ => VAt.store8 h y0 y1 y2 y3 y4 y5 y6 y7, hb _ _ _ (by omega), hb _ _ _ (by omega), fun ⟨_, x⟩ => ⟨_, hb _ _ _ (by omega) x⟩, fun ⟨_, x⟩ => ⟨_, hb _ _ _ (by omega) x⟩⟩
def spec3A (S : Nat) (c : Array Value) (u1 u2 : Value) : Grow.Spec (G3 S c u1 u2) := ⟨fun v => v = undef, fun _ w => Box1 w (S + 1) 3 u1, ⟨_, rfl⟩, fun _ _ _ h hg => hg.a h⟩
def spec3E (S : Nat) (c : Array Value) (u1 u2 : Value) : Grow.Spec (G3 S c u1 u2) := ⟨fun v => v = undef, fun _ w => Box1 w (S + 2) 30 u2, ⟨_, rfl⟩, fun _ _ _ h hg => hg.e h⟩
def spec3V (S : Nat) (c : Array Value) (u1 u2 : Value) : Grow.Spec (G3 S c u1 u2) := ⟨fun v => v = undef, fun _ w => True, ⟨_, rfl⟩, fun _ _ _ h hg => trivial⟩
/-- what is known in a region that lays the three -/
structure B3 (S : Nat) (c : Array Value) (u1 u2 : Value) (w1 w : World) : Prop where
  g : G3 S c u1 u2 w1 w
  v : VAt w S c
  a : ∃ u, Box1 w (S + 1) 3 u
  e : ∃ u, Box1 w (S + 2) 30 u
theorem B3.next {S : Nat} {c : Array Value} {u1 u2 : Value} {w1 w w' : World} (h : B3 S c u1 u2 w1 w) (hg : G3 S c u1 u2 w w') : B3 S c u1 u2 w1 w' := ⟨h.g.trans hg, hg.v h.v, hg.a0 h.a, hg.e0 h.e⟩
-- reads of a region that lays the three; $1: facts
set_option maxHeartbeats 6400000 in
theorem one1_panicking (S : Nat) (er : Int) (b : Nat) (w : World) (h0 : VAt w S zeroV) (h1 : Box1 w (S + 1) 3 (.int .i64 0)) (h2 : Box1 w (S + 2) 30 (.int .i64 0)) :
    CallsD Tryd.prog 20 #[.pointer (some ⟨S, 0, none⟩), .pointer (some ⟨S + 1, 0, none⟩), .pointer (some ⟨S + 2, 0, none⟩)] (.panicking (wrongV er b)) w fun e u' w' =>
      e = .returned (.tuple #[]) ∧ u' = .panicking [{ v := .iface 52 (.agg #[.int .i64 er, .int .i64 b]), recovered := true }] ∧ VAt w' S zeroV ∧ Box1 w' (S + 1) 3 (.int .i64 b) ∧ Box1 w' (S + 2) 30 (.int .i64 er) ∧ KeptT S w w' := by
  have hta : ∀ (x : Value) (w : World), (Instr.typeAssert (.iface 52 x) 20 52 true).run Tryd.prog w = .ok (.tuple #[x, .bool true]) w := fun x w => by rfl
  refine callsD_of_wpS Tryd.func20 rfl fun c₀ cs hu => ?_
  apply wpS_seq
  apply wpS_region
  simp [wpOpsS, go_sem, recoverD, hu, Tryd.ntmps20, Exit.thenS]
  refine wpS_of_wp ?_
  simp only [Array.replicate_succ, Array.replicate_zero, List.push_toArray, List.append_toArray, List.nil_append, List.cons_append, List.setIfInBounds_toArray, List.set_cons_succ, List.set_cons_zero]
  go_wp2_with fail
  go_upto_region 5 with fail
  have hnw := heap_alloc_new w (.cells #[.int .i64 er, .int .i64 b] 52)
  have hE : Ext w (w.alloc (.cells #[.int .i64 er, .int .i64 b] 52)) := (ext_refl w).alloc (Nat.le_refl _) _
  have l0 := h0.lt
  have l1 := h1.lt
  have l2 := h2.lt
  replace h0 := h0.ext hE
  replace h1 := h1.kept (KeptP.ofExt (p := w.heap.size) hE) (by omega)
  replace h2 := h2.kept (KeptP.ofExt (p := w.heap.size) hE) (by omega)
  obtain ⟨P, hP⟩ : ∃ P, w.heap.size = P := ⟨_, rfl⟩
  rw [hP] at hnw l0 l1 l2 ⊢
  generalize w.alloc (.cells #[.int .i64 er, .int .i64 b] 52) = w1 at *
  have HE := Lib.hid hE
  have HNW := Lib.hid hnw
  have H0 := Lib.hid h0
  have H1 := Lib.hid h1
  have H2 := Lib.hid h2
  have HS := Lib.hid hP
  clear hE hnw h0 h1 h2 hP
  refine Grow.wp_region_litW (G := G3 S zeroV (.int .i64 b) (.int .i64 er)) (B := fun w' => B3 S zeroV (.int .i64 b) (.int .i64 er) w1 w') (anc := fun _ => []) (I := fun j => if j = 5 then some (spec3V _ _ _ _) else if j = 6 then some (spec3A _ _ _ _) else if j = 7 then some (spec3E _ _ _ _) else none) (by kernel_rfl) (by kernel_rfl) (by kernel_rfl) ?_ ?_ ?_
  · exact fun w w' h hg => h.next hg
  · exact ⟨G3.drew _, H0.out, ⟨_, H1.out⟩, ⟨_, H2.out⟩⟩
  repeat
    (refine Grow.Wk.step (fun K hK => ?_)
     first
     | (refine Grow.step_read (by rfl) (by rfl) (fun w => G3.refl w) ?_
        apply Exists.intro
        refine ⟨fun w hB hF => ?_, ?_⟩
        · have hw2 : w.heap[P]? = some (.cells #[.int .i64 er, .int .i64 b] 52 (0, 0)) := (hB.g.kept.block P (Array.getElem?_eq_some_iff.1 HNW.out).1 (by omega) (by omega) (by omega)).trans HNW.out; have d0 := cell_of_cells (i := 0) hw2; have d1 := cell_of_cells (i := 1) hw2; simp at d0 d1
          go_simp
          try exact rfl
        go_simp
        refine hK _ _ ?_
        clear hK K)
     | (refine Grow.step_off (by rfl) ?_
        go_simp
        refine hK _ _ ?_
        clear hK K))
  refine Grow.Wk.step (fun K hK => ?_)
  refine Grow.step_rel (by rfl) (by rfl) (fun w' hB hF => ?_) (fun v hv => ?_)
  · have HR := Lib.hid hB.v; have r0 := HR.out.cell 0; have r1 := HR.out.cell 1; have r2 := HR.out.cell 2; have r3 := HR.out.cell 3; have r4 := HR.out.cell 4; have r5 := HR.out.cell 5; have r6 := HR.out.cell 6; have r7 := HR.out.cell 7; have s0 := HR.out.free 0; have s1 := HR.out.free 1; have s2 := HR.out.free 2; have s3 := HR.out.free 3; have s4 := HR.out.free 4; have s5 := HR.out.free 5; have s6 := HR.out.free 6; have s7 := HR.out.free 7; simp at r0 r1 r2 r3 r4 r5 r6 r7
    go_simp
    exact ⟨g3_setV HR.out, rfl, trivial⟩
  obtain rfl : v = _ := hv
  go_simp
  refine hK _ _ ?_
  clear hK K
  refine Grow.Wk.step (fun K hK => ?_)
  refine Grow.step_rel (by rfl) (by rfl) (fun w' hB hF => ?_) (fun v hv => ?_)
  · obtain ⟨ua, hua⟩ := hB.a; have HUA := Lib.hid hua; have r0 := hua.cell; have s0 := hua.free; clear hua
    go_simp
    exact ⟨g3_setA ⟨_, HUA.out⟩, rfl, HUA.out.set⟩
  obtain rfl : v = _ := hv
  go_simp
  refine hK _ _ ?_
  clear hK K
  refine Grow.Wk.step (fun K hK => ?_)
  refine Grow.step_rel (by rfl) (by rfl) (fun w' hB hF => ?_) (fun v hv => ?_)
  · obtain ⟨ua, hua⟩ := hB.e; have HUA := Lib.hid hua; have r0 := hua.cell; have s0 := hua.free; clear hua
    go_simp
    exact ⟨g3_setE ⟨_, HUA.out⟩, rfl, HUA.out.set⟩
  obtain rfl : v = _ := hv
  go_simp
  refine hK _ _ ?_
  clear hK K
  refine Grow.Wk.nil ?_
  intro w3 hB hF
  have ha : Box1 w3 (S + 1) 3 (.int .i64 b) := hF 6
  have he : Box1 w3 (S + 2) 30 (.int .i64 er) := hF 7
  go_wp2_with fail
  have hkt : KeptT S w w3 := (KeptT.ofExt HE.out).trans hB.g.kept
  refine ⟨rfl, _, rfl, .tuple #[], by simp [results, Tryd.results20], rfl, rfl, hB.v, ha, he, hkt⟩
theorem one1_idle (a0 a1 a2 : Value) (w : World) :
    CallsD Tryd.prog 20 #[a0, a1, a2] .returning w fun e u' w' => e = .returned (.tuple #[]) ∧ u' = .returning ∧ w' = w := by
  refine callsD_of_wpS Tryd.func20 rfl fun c₀ cs hu => ?_
  apply wpS_seq
  apply wpS_region
  simp [wpOpsS, go_sem, recoverD, hu, Tryd.ntmps20, Exit.thenS]
  refine wpS_of_wp ?_
  simp only [Array.replicate_succ, Array.replicate_zero, List.push_toArray, List.append_toArray, List.nil_append, List.cons_append, List.setIfInBounds_toArray, List.set_cons_succ, List.set_cons_zero]
  go_wp2_with fail
  simp [bodyPostS, results, Tryd.results20]
  cases c₀
  simp_all
theorem ext_one {w w1 w2 w3 : World} (h1 : Ext w w1) (h2 : KeptP (w.heap.size + 3) w1 w2) (h3 : KeptT w.heap.size w2 w3) : Ext w w3 :=
  ⟨h3.os.trans (h2.os.trans h1.os), h3.tape.trans (h2.tape.trans h1.tape), h3.output.trans (h2.output.trans h1.output), Nat.le_trans h1.size (Nat.le_trans h2.size h3.size), fun k hk => by
    rw [h3.block k (by have := h1.size; have := h2.size; omega) (by omega) (by omega) (by omega), h2.block k (by have := h1.size; omega) (by omega)]
    exact h1.block k hk⟩
def EndOne (w : World) (e : Ending) (w' : World) : PR Tree → Prop
  | .ok t a n => ∃ c, e = .returned (.tuple #[.agg c, .int .i64 a, .int .i64 0]) ∧ TV w' (fun g => w.heap.size ≤ g) t c ∧ Ext w w'
  | .err er b => e = .returned (.tuple #[.agg zeroV, .int .i64 b, .int .i64 er]) ∧ Ext w w'
set_option maxHeartbeats 6400000 in
theorem one_any (v : Value) (xs : List UInt8) (at0 : Int) (w : World) (hb : Bytes w v xs) (hl : xs.length ≤ 65536) :
    Calls Tryd.prog 13 #[v, .int .i64 at0] w (fun e w' => EndOne w e w' (oneP xs at0)) := by
  obtain ⟨T, hT⟩ : ∃ T, oneP xs at0 = T := ⟨_, rfl⟩
  rw [hT]
  replace hT := Lib.hid hT
  have hmf : ∀ (fn : Fn) (first cap : Array Value) (w : World), (Instr.makeFunc fn first cap).run Tryd.prog w = .ok (.func fn first cap) w := fun _ _ _ _ => rfl
  have hcl := clampN_eq xs.length at0
  obtain ⟨va, vc, rfl, hnc, hcm, _, _⟩ := id hb
  have HB := Lib.hid hb
  clear hb
  go_enter_defers Tryd.func13, Tryd.ntmps13
  go_wp2_with fail
  obtain ⟨S, hS⟩ : ∃ S, w.heap.size = S := ⟨_, rfl⟩
  simp only [Nat.add_assoc, Nat.reduceAdd, hS]
  generalize hw1 : (((w.alloc (.cells #[.int .i64 0, .bool false, .bool false, .string ⟨#[]⟩, .int .i64 0, .string ⟨#[]⟩, .slice none 0 0, .slice none 0 0] 29)).alloc (.cells #[.int .i64 0] 3)).alloc (.cells #[.int .i64 0] 30)).alloc (.cells #[.slice va xs.length vc, .int .i64 (clampN xs.length at0 : Nat), .int .i64 0] 50) = w1 at *
  have hE : Ext w w1 := by
    rw [← hw1]
    exact ((((ext_refl w).alloc (by simp) _).alloc (by simp) _).alloc (by simp <;> omega) _).alloc (by simp <;> omega) _
  have hsz : w1.heap.size = S + 4 := by rw [← hw1]; simp [hS]
  have hv0 : VAt w1 S zeroV := by
    unfold VAt; rw [← hw1, ← hS, heap_alloc_old _ _ (by simp <;> omega), heap_alloc_old _ _ (by simp <;> omega), heap_alloc_old _ _ (by simp)]; exact heap_alloc_new _ _
  have hb1 : Box1 w1 (S + 1) 3 (.int .i64 0) := by
    unfold Box1; rw [← hw1, ← hS, heap_alloc_old _ _ (by simp), heap_alloc_old _ _ (by simp)]
    have := heap_alloc_new (w.alloc (.cells zeroV 29)) (.cells #[.int .i64 0] 3); rw [alloc_size1] at this; exact this
  have hb2 : Box1 w1 (S + 2) 30 (.int .i64 0) := by
    unfold Box1; rw [← hw1, ← hS, heap_alloc_old _ _ (by simp)]
    have := heap_alloc_new ((w.alloc (.cells zeroV 29)).alloc (.cells #[.int .i64 0] 3)) (.cells #[.int .i64 0] 30); rw [alloc_size1, alloc_size1] at this; exact this
  have hp1 : PAt w1 (S + 3) (.slice va xs.length vc) (clampN xs.length at0 : Nat) (0 : Nat) := by
    unfold PAt; rw [← hw1, ← hS]
    have := heap_alloc_new (((w.alloc (.cells zeroV 29)).alloc (.cells #[.int .i64 0] 3)).alloc (.cells #[.int .i64 0] 30)) (.cells #[.slice va xs.length vc, .int .i64 (clampN xs.length at0 : Nat), .int .i64 0] 50); rw [alloc_size1, alloc_size1, alloc_size1] at this; exact this
  clear hw1
  have hbn : BytesN (S + 3) w1 (.slice va xs.length vc) xs := by
    obtain ⟨a, cap, e, h1, h2, h3, h4⟩ := HB.out
    refine ⟨a, cap, e, h1, h2, hl, fun hn => ?_⟩
    obtain ⟨b, o, rfl, hlt, hc⟩ := h4 hn
    exact ⟨b, o, rfl, by omega, Nat.lt_of_lt_of_le hlt hE.size, BytesAt.ext (fun _ => ⟨b, o, rfl, hlt, hc⟩) hE⟩
  have hps : PS w1 (S + 3) (.slice va xs.length vc) xs (clampN xs.length at0) 0 := ⟨hp1, hbn, clampN_le _ _⟩
  have H0 := Lib.hid hv0
  have H1 := Lib.hid hb1
  have H2 := Lib.hid hb2
  have HE := Lib.hid hE
  have HS := Lib.hid hS
  clear hv0 hb1 hb2 hE hS hp1 hbn
  refine (value_any 65 0 (by omega) (by omega) (S + 3) _ xs (clampN xs.length at0) 0 _ hps (by omega)).mono ?_
  intro e w2 hend
  rw [show valueP xs 65 0 (clampN xs.length at0) 0 = T from hT.out] at hend
  clear hT hps
  cases T with
  | err er b =>
    obtain ⟨rfl, hk⟩ := hend
    have q0 := H0.out.kept hk (by omega)
    have q1 := H1.out.kept hk (by omega)
    have q2 := H2.out.kept hk (by omega)
    go_wp2_with fail
    refine leaves_cons (f := 20) (args := #[.pointer (some ⟨S, 0, none⟩), .pointer (some ⟨S + 1, 0, none⟩), .pointer (some ⟨S + 2, 0, none⟩)]) (by simp) (by simp [go_sem]) ?_
    refine (one1_panicking S er b _ q0 q1 q2).mono ?_
    rintro e u' w3 ⟨rfl, rfl, hv, ha, he, hkt⟩
    have HV := Lib.hid hv
    have a0 := ha.cell
    have e0 := he.cell
    have v0 := HV.out.cell 0; have v1 := HV.out.cell 1; have v2 := HV.out.cell 2; have v3 := HV.out.cell 3; have v4 := HV.out.cell 4; have v5 := HV.out.cell 5; have v6 := HV.out.cell 6; have v7 := HV.out.cell 7
    simp at v0 v1 v2 v3 v4 v5 v6 v7
    have hext : Ext w w3 := ext_one HE.out (by rw [HS.out]; exact hk) (by rw [HS.out]; exact hkt)
    refine ⟨.tuple #[.agg zeroV, .int .i64 b, .int .i64 er], ?_, rfl, hext⟩
    simp [results, Tryd.results13, go_sem, a0, e0, v0, v1, v2, v3, v4, v5, v6, v7]
  | ok t a n =>
    obtain ⟨c, rfl, htv, hp2, hk⟩ := hend
    have hr0 := H0.out.kept hk (by omega)
    have HR := Lib.hid hr0
    have hq1 := H1.out.kept hk (by omega)
    have hq2 := H2.out.kept hk (by omega)
    obtain ⟨k, b, d, s, la, ln, lc, ma, mn, mc, rfl⟩ := htv.eight
    have r0 := HR.out.cell 0; have r1 := HR.out.cell 1; have r2 := HR.out.cell 2; have r3 := HR.out.cell 3; have r4 := HR.out.cell 4; have r5 := HR.out.cell 5; have r6 := HR.out.cell 6; have r7 := HR.out.cell 7
    have s0 := HR.out.free 0; have s1 := HR.out.free 1; have s2 := HR.out.free 2; have s3 := HR.out.free 3; have s4 := HR.out.free 4; have s5 := HR.out.free 5; have s6 := HR.out.free 6; have s7 := HR.out.free 7
    simp at r0 r1 r2 r3 r4 r5 r6 r7
    clear hr0
    have hsz2 := hk.size
    go_upto_region 4 with fail
    have hV := VAt.store8 HR.out (.int .i64 k) (.bool b) (.bool d.neg) (.string ⟨d.digits.toArray⟩) (.int .i64 d.exp) (.string ⟨s.toArray⟩) (.slice la ln lc) (.slice ma mn mc)
    have hG : KeptT S w2 ((((((((w2.setCell ⟨S, 0, none⟩ (.int .i64 k)).setCell ⟨S, 1, none⟩ (.bool b)).setCell ⟨S, 2, none⟩ (.bool d.neg)).setCell ⟨S, 3, none⟩ (.string ⟨d.digits.toArray⟩)).setCell ⟨S, 4, none⟩ (.int .i64 d.exp)).setCell ⟨S, 5, none⟩ (.string ⟨s.toArray⟩)).setCell ⟨S, 6, none⟩ (.slice la ln lc)).setCell ⟨S, 7, none⟩ (.slice ma mn mc)) :=
      (((((((KeptT.set _ (.inl rfl)).trans (KeptT.set _ (.inl rfl))).trans (KeptT.set _ (.inl rfl))).trans (KeptT.set _ (.inl rfl))).trans (KeptT.set _ (.inl rfl))).trans (KeptT.set _ (.inl rfl))).trans (KeptT.set _ (.inl rfl))).trans (KeptT.set _ (.inl rfl))
    have hq1' : Box1 ((((((((w2.setCell ⟨S, 0, none⟩ (.int .i64 k)).setCell ⟨S, 1, none⟩ (.bool b)).setCell ⟨S, 2, none⟩ (.bool d.neg)).setCell ⟨S, 3, none⟩ (.string ⟨d.digits.toArray⟩)).setCell ⟨S, 4, none⟩ (.int .i64 d.exp)).setCell ⟨S, 5, none⟩ (.string ⟨s.toArray⟩)).setCell ⟨S, 6, none⟩ (.slice la ln lc)).setCell ⟨S, 7, none⟩ (.slice ma mn mc)) (S + 1) 3 (.int .i64 0) := by
      unfold Box1; rw [heap8 (by omega)]; exact hq1
    have hq2' : Box1 ((((((((w2.setCell ⟨S, 0, none⟩ (.int .i64 k)).setCell ⟨S, 1, none⟩ (.bool b)).setCell ⟨S, 2, none⟩ (.bool d.neg)).setCell ⟨S, 3, none⟩ (.string ⟨d.digits.toArray⟩)).setCell ⟨S, 4, none⟩ (.int .i64 d.exp)).setCell ⟨S, 5, none⟩ (.string ⟨s.toArray⟩)).setCell ⟨S, 6, none⟩ (.slice la ln lc)).setCell ⟨S, 7, none⟩ (.slice ma mn mc)) (S + 2) 30 (.int .i64 0) := by
      unfold Box1; rw [heap8 (by omega)]; exact hq2
    clear r0 r1 r2 r3 r4 r5 r6 r7 s0 s1 s2 s3 s4 s5 s6 s7 hq1 hq2
    generalize ((((((((w2.setCell ⟨S, 0, none⟩ (.int .i64 k)).setCell ⟨S, 1, none⟩ (.bool b)).setCell ⟨S, 2, none⟩ (.bool d.neg)).setCell ⟨S, 3, none⟩ (.string ⟨d.digits.toArray⟩)).setCell ⟨S, 4, none⟩ (.int .i64 d.exp)).setCell ⟨S, 5, none⟩ (.string ⟨s.toArray⟩)).setCell ⟨S, 6, none⟩ (.slice la ln lc)).setCell ⟨S, 7, none⟩ (.slice ma mn mc)) = w3 at *
    have hp3 : PAt w3 (S + 3) (.slice va xs.length vc) a n := by
      have hl := hp2.1.cells.2.2.2.2.2.2
      unfold PAt; rw [hG.block (S + 3) hl (by omega) (by omega) (by omega)]; exact hp2.1
    have HV3 := Lib.hid hV
    have HP3 := Lib.hid hp3
    have HG := Lib.hid hG
    have HQ1 := Lib.hid hq1'
    have HQ2 := Lib.hid hq2'
    have HTV := Lib.hid htv
    have HK := Lib.hid hk
    clear hV hp3 hG hq1' hq2' htv hk HR hp2
    refine Grow.wp_region_litW (G := G3 S (cellsV k b d s (.slice la ln lc) (.slice ma mn mc)) (.int .i64 a) (.int .i64 0)) (B := fun w' => B3 S (cellsV k b d s (.slice la ln lc) (.slice ma mn mc)) (.int .i64 a) (.int .i64 0) w3 w') (anc := fun _ => []) (I := fun j => if j = 5 then some (spec3V _ _ _ _) else if j = 6 then some (spec3A _ _ _ _) else if j = 7 then some (spec3E _ _ _ _) else none) (by kernel_rfl) (by kernel_rfl) (by kernel_rfl) ?_ ?_ ?_
    · exact fun w w' h hg => h.next hg
    · exact ⟨G3.drew _, HV3.out, ⟨_, HQ1.out⟩, ⟨_, HQ2.out⟩⟩
    repeat
      (refine Grow.Wk.step (fun K hK => ?_)
       first
       | (refine Grow.step_read (by rfl) (by rfl) (fun w => G3.refl w) ?_
          apply Exists.intro
          refine ⟨fun w hB hF => ?_, ?_⟩
          · have hp9 : PAt w (S + 3) (.slice va xs.length vc) a n := (by unfold PAt; rw [hB.g.kept.block (S + 3) HP3.out.cells.2.2.2.2.2.2 (by omega) (by omega) (by omega)]; exact HP3.out); obtain ⟨d0, d1, d2, _, _, _, _⟩ := hp9.cells; clear hp9; have HR := Lib.hid hB.v; have r0 := HR.out.cell 0; have r1 := HR.out.cell 1; have r2 := HR.out.cell 2; have r3 := HR.out.cell 3; have r4 := HR.out.cell 4; have r5 := HR.out.cell 5; have r6 := HR.out.cell 6; have r7 := HR.out.cell 7; simp at r0 r1 r2 r3 r4 r5 r6 r7
            go_simp
            try exact rfl
          go_simp
          refine hK _ _ ?_
          clear hK K)
       | (refine Grow.step_off (by rfl) ?_
          go_simp
          refine hK _ _ ?_
          clear hK K))
    refine Grow.Wk.step (fun K hK => ?_)
    refine Grow.step_rel (by rfl) (by rfl) (fun w' hB hF => ?_) (fun v hv => ?_)
    · have HR := Lib.hid hB.v; have r0 := HR.out.cell 0; have r1 := HR.out.cell 1; have r2 := HR.out.cell 2; have r3 := HR.out.cell 3; have r4 := HR.out.cell 4; have r5 := HR.out.cell 5; have r6 := HR.out.cell 6; have r7 := HR.out.cell 7; have s0 := HR.out.free 0; have s1 := HR.out.free 1; have s2 := HR.out.free 2; have s3 := HR.out.free 3; have s4 := HR.out.free 4; have s5 := HR.out.free 5; have s6 := HR.out.free 6; have s7 := HR.out.free 7; simp at r0 r1 r2 r3 r4 r5 r6 r7
      go_simp
      exact ⟨g3_setV HR.out, rfl, trivial⟩
    obtain rfl : v = _ := hv
    go_simp
    refine hK _ _ ?_
    clear hK K
    refine Grow.Wk.step (fun K hK => ?_)
    refine Grow.step_rel (by rfl) (by rfl) (fun w' hB hF => ?_) (fun v hv => ?_)
    · obtain ⟨ua, hua⟩ := hB.a; have HUA := Lib.hid hua; have r0 := hua.cell; have s0 := hua.free; clear hua
      go_simp
      exact ⟨g3_setA ⟨_, HUA.out⟩, rfl, HUA.out.set⟩
    obtain rfl : v = _ := hv
    go_simp
    refine hK _ _ ?_
    clear hK K
    refine Grow.Wk.step (fun K hK => ?_)
    refine Grow.step_rel (by rfl) (by rfl) (fun w' hB hF => ?_) (fun v hv => ?_)
    · obtain ⟨ua, hua⟩ := hB.e; have HUA := Lib.hid hua; have r0 := hua.cell; have s0 := hua.free; clear hua
      go_simp
      exact ⟨g3_setE ⟨_, HUA.out⟩, rfl, HUA.out.set⟩
    obtain rfl : v = _ := hv
    go_simp
    refine hK _ _ ?_
    clear hK K
    refine Grow.Wk.nil ?_
    intro w4 hB hF
    have ha : Box1 w4 (S + 1) 3 (.int .i64 a) := hF 6
    have he : Box1 w4 (S + 2) 30 (.int .i64 0) := hF 7
    have HV := Lib.hid hB.v
    have a0 := ha.cell
    have e0 := he.cell
    have v0 := HV.out.cell 0; have v1 := HV.out.cell 1; have v2 := HV.out.cell 2; have v3 := HV.out.cell 3; have v4 := HV.out.cell 4; have v5 := HV.out.cell 5; have v6 := HV.out.cell 6; have v7 := HV.out.cell 7
    simp at v0 v1 v2 v3 v4 v5 v6 v7
    go_wp2_with fail
    refine leaves_cons (f := 20) (args := #[.pointer (some ⟨S, 0, none⟩), .pointer (some ⟨S + 1, 0, none⟩), .pointer (some ⟨S + 2, 0, none⟩)]) (by simp) (by simp [go_sem]) ?_
    refine (one1_idle _ _ _ _).mono ?_
    rintro e u' w5 ⟨rfl, rfl, rfl⟩
    have hkt : KeptT S w2 w5 := HG.out.trans hB.g.kept
    have hext : Ext w w5 := ext_one HE.out (by rw [HS.out]; exact HK.out) (by rw [HS.out]; exact hkt)
    have hs1 : w1.heap.size = S + 4 := hsz
    refine ⟨.tuple #[.agg (cellsV k b d s (.slice la ln lc) (.slice ma mn mc)), .int .i64 a, .int .i64 0], ?_, _, rfl, HTV.out.keep hkt.size (fun g hg hlt => ⟨?_, hkt.block g hlt (by omega) (by omega) (by omega)⟩), hext⟩
    · simp [results, Tryd.results13, go_sem, a0, e0, v0, v1, v2, v3, v4, v5, v6, v7]
    · show w.heap.size ≤ g
      have := HS.out; omega
end Go.Proofs.YtckpndbmpigegaaDoor
