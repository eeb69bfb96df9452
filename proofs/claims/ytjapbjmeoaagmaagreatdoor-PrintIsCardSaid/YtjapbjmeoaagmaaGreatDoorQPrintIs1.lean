/- Several texts of this proof in one. -/
import Derived.Test.YtjapbjmeoaagmaaGreatDoorEPrintIsPaV
import Derived.Defers
import Derived.Recover
import Derived.Laws.Pointers
import Derived.Test.YtjapbjmeoaagmaaGreatDoorEPrintIsPaS
import Derived.Test.YtjapbjmeoaagmaaGreatDoorEPrintIsApp
import Derived.Test.YtjapbjmeoaagmaaGreatDoorEPrintIsUtfM
import Derived.Test.YtjapbjmeoaagmaaGreatDoorEPrintIsWEscB
import Derived.Test.YtjapbjmeoaagmaaGreatDoorEPrintIsDecP
import Derived.Shelf.Strings.Trim
import Derived.Shelf.Small.Utf8
import Derived.Shelf.Small.Strs
import Derived.Shelf.Small.Wraps
import Derived.Shelf.Strconv.Itoa0
import Derived.Shelf.Strconv.Itoa1
import Derived.Shelf.LaysM
import Derived.Shelf.Strconv.Itoa2
import Derived.Shelf.Strconv.Itoa3
import Derived.Shelf.Strings.Search1
import Derived.Shelf.Strings.Search2
import Derived.Shelf.Strings.Search3
import Derived.Shelf.Strings.Count
import Derived.Shelf.Strings.Shaped
import Derived.Shelf.Strings.Prefix
import Derived.Shelf.Strings.Runes
import Derived.Shelf.Strings.AsciiSet
import Derived.Shelf.Bits.Mul64
import Derived.Shelf.Strings.Repeat
import Derived.Shelf.Unicode.DecodeSlow
import Derived.Shelf.Unicode.DecodeAny
import Derived.Shelf.Unicode.DecodeLast
import Derived.Test.YtjapbjmeoaagmaaGreatDoorProg
import Derived.Test.YtjapbjmeoaagmaaGreatDoorEPrintIsShelf
import Derived.Test.YtjapbjmeoaagmaaGreatDoorEPrintIsMem
import Derived.ProofKit
import Derived.SizedLaws
import Derived.OpenShut
import Derived.Test.YtjapbjmeoaagmaaGreatDoorEPrintIsGrowS
import Derived.Test.YtjapbjmeoaagmaaGreatDoorEPrintIsBd
import Derived.Test.YtjapbjmeoaagmaaGreatDoorEPrintIsWBldS
import Derived.Test.YtjapbjmeoaagmaaGreatDoorEPrintIsDecA
import Derived.Test.YtjapbjmeoaagmaaGreatDoorEPrintIsDecC
import Derived.Test.YtjapbjmeoaagmaaGreatDoorEPrintIsStr
import Derived.Lib.AppendIntMem
import Derived.Test.YtjapbjmeoaagmaaGreatDoorEPrintIsSh
import Derived.Test.YtjapbjmeoaagmaaGreatDoorEPrintIsSi
set_option linter.unusedVariables false
set_option linter.unusedSimpArgs false
set_option maxRecDepth 100000
section
set_option maxRecDepth 100000
namespace Go.Proofs.YtjapbjmeoaagmaaGreatDoor
open Go.RowKit Go.Mem Orange
def Fine {α : Type} (xs : List UInt8) : PR α → Prop
 | .ok _ a _ => a ≤ xs.length
 | .err e b => e ≠ 0 ∧ b ≤ xs.length
theorem Fine.map {α β : Type} {xs : List UInt8} {f : α → β} {r : PR α} (h : Fine xs r) : Fine xs (r.map f) := by cases r <;> exact h
theorem textL_fine (xs : List UInt8) (n : Nat) : ∀ (f a : Nat) (out : List UInt8), a ≤ xs.length → Fine xs (textL xs n f a out)
 | 0, a, _, h => ⟨by decide, h⟩
 | f + 1, a, out, h => by
   rw [textL]; split
   · rename_i h1
     exact (peekP_some h1 (by decide)).2
   split
   · exact ⟨by decide, h⟩
   rename_i h2
   have hne : (xs.drop a) ≠ [] := fun e => by rw [e] at h2; exact h2 (fun h => absurd h.1 (by decide))
   have hlt : a < xs.length := by
    rcases Nat.lt_or_ge a xs.length with h' | h'
    · exact h'
    · exact absurd (List.drop_of_length_le h') hne
   split
   · split
     · exact ⟨by decide, h⟩
     · refine textL_fine xs n f _ _ ?_; have := escape_le (xs.drop (a + 1)); rw [List.length_drop] at this; omega
   · refine textL_fine xs n f _ _ ?_; have := next_le (xs.drop a); rw [List.length_drop] at this; omega
theorem textP_fine {xs : List UInt8} {a n : Nat} (h : a ≤ xs.length) : Fine xs (textP xs a n) := by
 rw [textP]; split
 · rename_i h1
   obtain ⟨hl, _⟩ := List.getElem?_eq_some_iff.1 h1; exact textL_fine xs n _ _ _ hl
 · exact ⟨by decide, h⟩
theorem listP_fine {σ : Type} {xs : List UInt8} {c : UInt8} {item : σ → Nat → Nat → PR σ} (hi : ∀ s a n, a ≤ xs.length → Fine xs (item s a n)) : ∀ (f : Nat) (s : σ) (a n : Nat), a ≤ xs.length → Fine xs (listP xs c item f s a n)
 | 0, _, _, _, h => ⟨by decide, h⟩
 | f + 1, s, a, n, h => by
   rw [listP]; have h1 := hi s a n h; cases hr : item s a n with
   | err e b => rw [hr] at h1; exact h1
   | ok s1 a1 n1 =>
     simp only
     split
     · rename_i h44
       exact listP_fine hi f _ _ _ (peekP_some h44 (by decide)).2
     split
     · rename_i hc
       obtain ⟨hl, _⟩ := List.getElem?_eq_some_iff.1 hc; exact hl
     · exact ⟨by decide, whiteN_le _ _⟩
theorem openP_fine {σ : Type} {xs : List UInt8} {c : UInt8} (hc : c ≠ 0) {item : σ → Nat → Nat → PR σ} (hi : ∀ s a n, a ≤ xs.length → Fine xs (item s a n)) (s : σ) (a n : Nat) : Fine xs (openP xs c item s a n) := by
 rw [openP]; split
 · rename_i h1
   exact (peekP_some h1 hc).2
 · exact listP_fine hi _ _ _ _ (whiteN_le _ _)
theorem itemA_fine {xs : List UInt8} {r : Nat → Nat → PR Tree} (hr : ∀ a n, a ≤ xs.length → Fine xs (r a n)) (acc : List Tree) (a n : Nat) (h : a ≤ xs.length) : Fine xs (itemA r acc a n) := (hr a n h).map
theorem itemO_fine {xs : List UInt8} {r : Nat → Nat → PR Tree} (hr : ∀ a n, a ≤ xs.length → Fine xs (r a n)) (acc : List (List UInt8 × Tree)) (a n : Nat) (h : a ≤ xs.length) : Fine xs (itemO xs r acc a n) := by
 unfold itemO; have h1 := textP_fine (n := n) (whiteN_le xs a); cases ht : textP xs (whiteN xs a) n with
 | err e b => rw [ht] at h1; exact h1
 | ok key a1 n1 =>
   simp only
   split
   · exact ⟨by decide, whiteN_le _ _⟩
   split
   · rename_i h58
     obtain ⟨hl, _⟩ := List.getElem?_eq_some_iff.1 h58; exact (hr _ _ hl).map
   · exact ⟨by decide, whiteN_le _ _⟩
theorem valueP_fine {xs : List UInt8} : ∀ (f deep a n : Nat), a ≤ xs.length → Fine xs (valueP xs f deep a n)
 | 0, _, _, _, h => ⟨by decide, h⟩
 | f + 1, deep, a, n, h => by
   have hwl := whiteN_le xs a; have hword : ∀ (s : List UInt8) t0, Fine xs (wordP xs s t0 (whiteN xs a) (n + 1)) := fun s t0 => by
    unfold wordP; split
    · rename_i h1
      have := congrArg List.length h1; rw [List.length_take, List.length_drop] at this; show _ ≤ _; omega
    · exact ⟨by decide, hwl⟩
   rw [valueP]; split
   · exact ⟨by decide, hwl⟩
   split
   · exact ⟨by decide, hwl⟩
   split
   · exact hword _ _
   split
   · exact hword _ _
   split
   · exact hword _ _
   split
   · exact (textP_fine hwl).map
   split
   · split
     · exact ⟨by decide, hwl⟩
     · exact (openP_fine (by decide) (fun s a n h => itemA_fine (fun a n h => valueP_fine f _ _ _ h) s a n h) _ _ _).map
   split
   · split
     · exact ⟨by decide, hwl⟩
     · exact (openP_fine (by decide) (fun s a n h => itemO_fine (fun a n h => valueP_fine f _ _ _ h) s a n h) _ _ _).map
   · unfold numP; simp only
     split
     · exact (numEnd_bd xs _ hwl).2
     · rename_i h9
       exact ⟨h9, hwl⟩
theorem oneP_fine (xs : List UInt8) (a : Int) : Fine xs (oneP xs a) := valueP_fine 65 0 _ _ (clampN_le _ _)
def SameR {α : Type} (r : PR α) (x : Except Int Nat) (v : α) (a : Nat) : Prop :=
 match x with
 | .ok m => r = .ok v a m
 | .error e => ∃ p, r = .err e p
theorem SameR.map {α β : Type} {f : α → β} {r : PR α} {x : Except Int Nat} {v : α} {a : Nat} (h : SameR r x v a) : SameR (r.map f) x (f v) a := by
 cases x with
 | ok m => have h : r = .ok v a m := h; rw [h]; exact rfl
 | error e => obtain ⟨p, h⟩ := h; rw [h]; exact ⟨p, rfl⟩
structure KeptT (S : Nat) (w w' : World) : Prop where
 os : w'.os = w.os
 tape : w'.tape = w.tape
 output : w'.output = w.output
 size : w.heap.size ≤ w'.heap.size
 block : ∀ k, k < w.heap.size → k ≠ S → k ≠ S + 1 → k ≠ S + 2 → w'.heap[k]? = w.heap[k]?
theorem KeptT.trans {S : Nat} {a b c : World} (h : KeptT S a b) (k : KeptT S b c) : KeptT S a c :=
 ⟨k.os.trans h.os, k.tape.trans h.tape, k.output.trans h.output, Nat.le_trans h.size k.size, fun i h1 h2 h3 h4 => (k.block i (Nat.lt_of_lt_of_le h1 h.size) h2 h3 h4).trans (h.block i h1 h2 h3 h4)⟩
theorem KeptT.ofExt {S : Nat} {a b : World} (h : Ext a b) : KeptT S a b := ⟨h.os, h.tape, h.output, h.size, fun k hk _ _ _ => h.block k hk⟩
theorem KeptT.set {S q o : Nat} {u : Value} (w : World) (hq : q = S ∨ q = S + 1 ∨ q = S + 2) : KeptT S w (w.setCell ⟨q, o, none⟩ u) :=
 ⟨rfl, rfl, rfl, by simp [World.setCell], fun k _ h1 h2 h3 => Below.heap_setCell _ _ _ _ (by show k ≠ q; omega)⟩
structure G3 (S : Nat) (c : Array Value) (u1 u2 : Value) (w w' : World) : Prop where
 kept : KeptT S w w'
 v : VAt w S c → VAt w' S c
 a : Box1 w (S + 1) 3 u1 → Box1 w' (S + 1) 3 u1
 e : Box1 w (S + 2) 32 u2 → Box1 w' (S + 2) 32 u2
 a0 : (∃ u, Box1 w (S + 1) 3 u) → ∃ u, Box1 w' (S + 1) 3 u
 e0 : (∃ u, Box1 w (S + 2) 32 u) → ∃ u, Box1 w' (S + 2) 32 u
theorem G3.trans {S : Nat} {c : Array Value} {u1 u2 : Value} {w w1 w2 : World} (h : G3 S c u1 u2 w w1) (k : G3 S c u1 u2 w1 w2) : G3 S c u1 u2 w w2 :=
 ⟨h.kept.trans k.kept, fun x => k.v (h.v x), fun x => k.a (h.a x), fun x => k.e (h.e x), fun x => k.a0 (h.a0 x), fun x => k.e0 (h.e0 x)⟩
theorem G3.refl {S : Nat} {c : Array Value} {u1 u2 : Value} (w : World) : G3 S c u1 u2 w w := ⟨KeptT.ofExt (ext_refl w), id, id, id, id, id⟩
theorem Box1.ext {w w' : World} {q : Nat} {ty : TypeId} {u : Value} (h : Box1 w q ty u) (hb : Ext w w') : Box1 w' q ty u := by
 unfold Box1; rw [hb.block _ h.lt]; exact h
theorem G3.drew {S : Nat} {c : Array Value} {u1 u2 : Value} (w : World) : G3 S c u1 u2 w w.drew := ⟨KeptT.ofExt (ext_refl w).drew, id, id, id, id, id⟩
theorem Box1.set {w : World} {q : Nat} {ty : TypeId} {u u' : Value} (h : Box1 w q ty u) : Box1 (w.setCell ⟨q, 0, none⟩ u') q ty u' := setCell_heap_self h
theorem Box1.setO {w : World} {q q' o : Nat} {ty : TypeId} {u u' : Value} (h : Box1 w q ty u) (hq : q ≠ q') : Box1 (w.setCell ⟨q', o, none⟩ u') q ty u := by
 unfold Box1; rw [Below.heap_setCell _ _ _ _ hq]; exact h
theorem VAt.setO {w : World} {q q' o : Nat} {c : Array Value} {u' : Value} (h : VAt w q c) (hq : q ≠ q') : VAt (w.setCell ⟨q', o, none⟩ u') q c := by
 unfold VAt; rw [Below.heap_setCell _ _ _ _ hq]; exact h
theorem g3_setA {S : Nat} {c : Array Value} {u1 u2 : Value} {w : World} (h : ∃ u, Box1 w (S + 1) 3 u) : G3 S c u1 u2 w (w.setCell ⟨S + 1, 0, none⟩ u1) :=
 ⟨KeptT.set w (by omega), fun x => x.setO (by omega), fun x => x.set, fun x => x.setO (by omega), fun ⟨_, x⟩ => ⟨_, x.set⟩, fun ⟨_, x⟩ => ⟨_, x.setO (by omega)⟩⟩
theorem g3_setE {S : Nat} {c : Array Value} {u1 u2 : Value} {w : World} (h : ∃ u, Box1 w (S + 2) 32 u) : G3 S c u1 u2 w (w.setCell ⟨S + 2, 0, none⟩ u2) :=
 ⟨KeptT.set w (by omega), fun x => x.setO (by omega), fun x => x.setO (by omega), fun x => x.set, fun ⟨_, x⟩ => ⟨_, x.setO (by omega)⟩, fun ⟨_, x⟩ => ⟨_, x.set⟩⟩
theorem g3_setV {S : Nat} {y0 y1 y2 y3 y4 y5 y6 y7 u1 u2 : Value} {w : World} (h : VAt w S #[y0, y1, y2, y3, y4, y5, y6, y7]) :
 G3 S #[y0, y1, y2, y3, y4, y5, y6, y7] u1 u2 w ((((((((w.setCell ⟨S, 0, none⟩ y0).setCell ⟨S, 1, none⟩ y1).setCell ⟨S, 2, none⟩ y2).setCell ⟨S, 3, none⟩ y3).setCell ⟨S, 4, none⟩ y4).setCell ⟨S, 5, none⟩ y5).setCell ⟨S, 6, none⟩ y6).setCell ⟨S, 7, none⟩ y7) := by
 have hk : KeptT S w ((((((((w.setCell ⟨S, 0, none⟩ y0).setCell ⟨S, 1, none⟩ y1).setCell ⟨S, 2, none⟩ y2).setCell ⟨S, 3, none⟩ y3).setCell ⟨S, 4, none⟩ y4).setCell ⟨S, 5, none⟩ y5).setCell ⟨S, 6, none⟩ y6).setCell ⟨S, 7, none⟩ y7) :=
  (((((((KeptT.set _ (.inl rfl)).trans (KeptT.set _ (.inl rfl))).trans (KeptT.set _ (.inl rfl))).trans (KeptT.set _ (.inl rfl))).trans (KeptT.set _ (.inl rfl))).trans (KeptT.set _ (.inl rfl))).trans (KeptT.set _ (.inl rfl))).trans (KeptT.set _ (.inl rfl))
 have hb : ∀ q ty u, q ≠ S → Box1 w q ty u → Box1 ((((((((w.setCell ⟨S, 0, none⟩ y0).setCell ⟨S, 1, none⟩ y1).setCell ⟨S, 2, none⟩ y2).setCell ⟨S, 3, none⟩ y3).setCell ⟨S, 4, none⟩ y4).setCell ⟨S, 5, none⟩ y5).setCell ⟨S, 6, none⟩ y6).setCell ⟨S, 7, none⟩ y7) q ty u := fun q ty u hq hx => by
  unfold Box1; rw [heap8 hq]; exact hx
 exact ⟨hk, fun _ => VAt.store8 h y0 y1 y2 y3 y4 y5 y6 y7, hb _ _ _ (by omega), hb _ _ _ (by omega), fun ⟨_, x⟩ => ⟨_, hb _ _ _ (by omega) x⟩, fun ⟨_, x⟩ => ⟨_, hb _ _ _ (by omega) x⟩⟩
def spec3A (S : Nat) (c : Array Value) (u1 u2 : Value) : Grow.Spec (G3 S c u1 u2) := ⟨fun v => v = undef, fun _ w => Box1 w (S + 1) 3 u1, ⟨_, rfl⟩, fun _ _ _ h hg => hg.a h⟩
def spec3E (S : Nat) (c : Array Value) (u1 u2 : Value) : Grow.Spec (G3 S c u1 u2) := ⟨fun v => v = undef, fun _ w => Box1 w (S + 2) 32 u2, ⟨_, rfl⟩, fun _ _ _ h hg => hg.e h⟩
def spec3V (S : Nat) (c : Array Value) (u1 u2 : Value) : Grow.Spec (G3 S c u1 u2) := ⟨fun v => v = undef, fun _ w => True, ⟨_, rfl⟩, fun _ _ _ h hg => trivial⟩
structure B3 (S : Nat) (c : Array Value) (u1 u2 : Value) (w1 w : World) : Prop where
 g : G3 S c u1 u2 w1 w
 v : VAt w S c
 a : ∃ u, Box1 w (S + 1) 3 u
 e : ∃ u, Box1 w (S + 2) 32 u
theorem B3.next {S : Nat} {c : Array Value} {u1 u2 : Value} {w1 w w' : World} (h : B3 S c u1 u2 w1 w) (hg : G3 S c u1 u2 w w') : B3 S c u1 u2 w1 w' := ⟨h.g.trans hg, hg.v h.v, hg.a0 h.a, hg.e0 h.e⟩
set_option maxHeartbeats 6400000 in
theorem one1_panicking (S : Nat) (er : Int) (b : Nat) (w : World) (h0 : VAt w S zeroV) (h1 : Box1 w (S + 1) 3 (.int .i64 0)) (h2 : Box1 w (S + 2) 32 (.int .i64 0)) :
 CallsD Tryz.prog 93 #[.pointer (some ⟨S, 0, none⟩), .pointer (some ⟨S + 1, 0, none⟩), .pointer (some ⟨S + 2, 0, none⟩)] (.panicking (wrongV er b)) w fun e u' w' =>
  e = .returned (.tuple #[]) ∧ u' = .panicking [{ v := .iface 115 (.agg #[.int .i64 er, .int .i64 b]), recovered := true }] ∧ VAt w' S zeroV ∧ Box1 w' (S + 1) 3 (.int .i64 b) ∧ Box1 w' (S + 2) 32 (.int .i64 er) ∧ KeptT S w w' := by
 have hta : ∀ (x : Value) (w : World), (Instr.typeAssert (.iface 115 x) 20 115 true).run Tryz.prog w = .ok (.tuple #[x, .bool true]) w := fun x w => by rfl
 refine callsD_of_wpS Tryz.func93 rfl fun c₀ cs hu => ?_; apply wpS_seq
 apply wpS_region
 simp [wpOpsS, go_sem, recoverD, hu, Tryz.ntmps93, Exit.thenS]
 refine wpS_of_wp ?_; simp only [Array.replicate_succ, Array.replicate_zero, List.push_toArray, List.append_toArray, List.nil_append, List.cons_append, List.setIfInBounds_toArray, List.set_cons_succ, List.set_cons_zero]; go_wp2_with fail; go_upto_region 5 with fail; have hnw := heap_alloc_new w (.cells #[.int .i64 er, .int .i64 b] 115)
 have hE : Ext w (w.alloc (.cells #[.int .i64 er, .int .i64 b] 115)) := (ext_refl w).alloc (Nat.le_refl _) _; have l0 := h0.lt; have l1 := h1.lt; have l2 := h2.lt; replace h0 := h0.ext hE; replace h1 := h1.kept (KeptP.ofExt (p := w.heap.size) hE) (by omega); replace h2 := h2.kept (KeptP.ofExt (p := w.heap.size) hE) (by omega); obtain ⟨P, hP⟩ := Ex w.heap.size; rw [hP] at hnw l0 l1 l2 ⊢
 generalize w.alloc (.cells #[.int .i64 er, .int .i64 b] 115) = w1 at *; have HE := Hd hE; have HNW := Hd hnw; have H0 := Hd h0; have H1 := Hd h1; have H2 := Hd h2; have HS := Hd hP; clear hE hnw h0 h1 h2 hP
 refine Grow.wp_region_litW (G := G3 S zeroV (.int .i64 b) (.int .i64 er)) (B := fun w' => B3 S zeroV (.int .i64 b) (.int .i64 er) w1 w') (anc := fun _ => []) (I := fun j => if j = 5 then some (spec3V _ _ _ _) else if j = 6 then some (spec3A _ _ _ _) else if j = 7 then some (spec3E _ _ _ _) else none) (by kernel_rfl) (by kernel_rfl) (by kernel_rfl) ?_ ?_ ?_
 · exact fun w w' h hg => h.next hg
 · exact ⟨G3.drew _, H0.out, ⟨_, H1.out⟩, ⟨_, H2.out⟩⟩
 repeat
  (refine Grow.Wk.step (fun K hK => ?_)
   first
   | (refine Grow.step_read (by rfl) (by rfl) (fun w => G3.refl w) ?_
      apply Exists.intro; refine ⟨fun w hB hF => ?_, ?_⟩
      · have hw2 : w.heap[P]? = some (.cells #[.int .i64 er, .int .i64 b] 115 (0, 0)) := (hB.g.kept.block P (Array.getElem?_eq_some_iff.1 HNW.out).1 (by omega) (by omega) (by omega)).trans HNW.out; have d0 := cell_of_cells (i := 0) hw2; have d1 := cell_of_cells (i := 1) hw2; simp at d0 d1; go_simp; try exact rfl
      go_simp; refine hK _ _ ?_; clear hK K)
   | (refine Grow.step_off (by rfl) ?_
      go_simp; refine hK _ _ ?_; clear hK K))
 refine Grow.Wk.step (fun K hK => ?_); refine Grow.step_rel (by rfl) (by rfl) (fun w' hB hF => ?_) (fun v hv => ?_)
 · have HR := Hd hB.v; have r0 := HR.out.cell 0; have r1 := HR.out.cell 1; have r2 := HR.out.cell 2; have r3 := HR.out.cell 3; have r4 := HR.out.cell 4; have r5 := HR.out.cell 5; have r6 := HR.out.cell 6; have r7 := HR.out.cell 7; obtain ⟨s0, s1, s2, s3, s4, s5, s6, s7⟩ := HR.out.f8; simp at r0 r1 r2 r3 r4 r5 r6 r7; go_simp; exact ⟨g3_setV HR.out, rfl, trivial⟩
 obtain rfl : v = _ := hv; go_simp; refine hK _ _ ?_; clear hK K; refine Grow.Wk.step (fun K hK => ?_); refine Grow.step_rel (by rfl) (by rfl) (fun w' hB hF => ?_) (fun v hv => ?_)
 · obtain ⟨ua, hua⟩ := hB.a; have HUA := Hd hua; have r0 := hua.cell; have s0 := hua.free; clear hua; go_simp; exact ⟨g3_setA ⟨_, HUA.out⟩, rfl, HUA.out.set⟩
 obtain rfl : v = _ := hv; go_simp; refine hK _ _ ?_; clear hK K; refine Grow.Wk.step (fun K hK => ?_); refine Grow.step_rel (by rfl) (by rfl) (fun w' hB hF => ?_) (fun v hv => ?_)
 · obtain ⟨ua, hua⟩ := hB.e; have HUA := Hd hua; have r0 := hua.cell; have s0 := hua.free; clear hua; go_simp; exact ⟨g3_setE ⟨_, HUA.out⟩, rfl, HUA.out.set⟩
 obtain rfl : v = _ := hv; go_simp; refine hK _ _ ?_; clear hK K; refine Grow.Wk.nil ?_; intro w3 hB hF; have ha : Box1 w3 (S + 1) 3 (.int .i64 b) := hF 6; have he : Box1 w3 (S + 2) 32 (.int .i64 er) := hF 7; go_wp2_with fail; have hkt : KeptT S w w3 := (KeptT.ofExt HE.out).trans hB.g.kept; refine ⟨rfl, _, rfl, .tuple #[], by simp [results, Tryz.results93], rfl, rfl, hB.v, ha, he, hkt⟩
theorem one1_idle (a0 a1 a2 : Value) (w : World) :
 CallsD Tryz.prog 93 #[a0, a1, a2] .returning w fun e u' w' => e = .returned (.tuple #[]) ∧ u' = .returning ∧ w' = w := by
 refine callsD_of_wpS Tryz.func93 rfl fun c₀ cs hu => ?_; apply wpS_seq
 apply wpS_region
 simp [wpOpsS, go_sem, recoverD, hu, Tryz.ntmps93, Exit.thenS]
 refine wpS_of_wp ?_; simp only [Array.replicate_succ, Array.replicate_zero, List.push_toArray, List.append_toArray, List.nil_append, List.cons_append, List.setIfInBounds_toArray, List.set_cons_succ, List.set_cons_zero]; go_wp2_with fail; simp [bodyPostS, results, Tryz.results93]
 cases c₀
 simp_all
theorem ext_one {w w1 w2 w3 : World} (h1 : Ext w w1) (h2 : KeptP (w.heap.size + 3) w1 w2) (h3 : KeptT w.heap.size w2 w3) : Ext w w3 :=
 ⟨h3.os.trans (h2.os.trans h1.os), h3.tape.trans (h2.tape.trans h1.tape), h3.output.trans (h2.output.trans h1.output), Nat.le_trans h1.size (Nat.le_trans h2.size h3.size), fun k hk => by
   rw [h3.block k (by have := h1.size; have := h2.size; omega) (by omega) (by omega) (by omega), h2.block k (by have := h1.size; omega) (by omega)]; exact h1.block k hk⟩
def EndOne (w : World) (e : Ending) (w' : World) : PR Tree → Prop
 | .ok t a n => ∃ c, e = .returned (.tuple #[.agg c, .int .i64 a, .int .i64 0]) ∧ TV w' (fun g => w.heap.size ≤ g) t c ∧ Ext w w'
 | .err er b => e = .returned (.tuple #[.agg zeroV, .int .i64 b, .int .i64 er]) ∧ Ext w w'
set_option maxHeartbeats 6400000 in
theorem one_any (v : Value) (xs : List UInt8) (at0 : Int) (w : World) (hb : Bytes w v xs) (hl : xs.length ≤ 65536) :
 Calls Tryz.prog 74 #[v, .int .i64 at0] w (fun e w' => EndOne w e w' (oneP xs at0)) := by
 obtain ⟨T, hT⟩ := Ex (oneP xs at0); rw [hT]; replace hT := Hd hT; have hmf : ∀ (fn : Fn) (first cap : Array Value) (w : World), (Instr.makeFunc fn first cap).run Tryz.prog w = .ok (.func fn first cap) w := fun _ _ _ _ => rfl; have hcl := clampN_eq xs.length at0; obtain ⟨va, vc, rfl, hnc, hcm, _, _⟩ := id hb; have HB := Hd hb; clear hb; go_enter_defers Tryz.func74, Tryz.ntmps74
 go_wp2_with fail; obtain ⟨S, hS⟩ := Ex w.heap.size; simp only [Nat.add_assoc, Nat.reduceAdd, hS]
 generalize hw1 : (((w.alloc (.cells #[.int .i64 0, .bool false, .bool false, .string ⟨#[]⟩, .int .i64 0, .string ⟨#[]⟩, .slice none 0 0, .slice none 0 0] 27)).alloc (.cells #[.int .i64 0] 3)).alloc (.cells #[.int .i64 0] 32)).alloc (.cells #[.slice va xs.length vc, .int .i64 (clampN xs.length at0 : Nat), .int .i64 0] 113) = w1 at *; have hE : Ext w w1 := by
  rw [← hw1]; exact ((((ext_refl w).alloc (by simp) _).alloc (by simp) _).alloc (by simp <;> omega) _).alloc (by simp <;> omega) _
 have hsz : w1.heap.size = S + 4 := by rw [← hw1]; simp [hS]
 have hv0 : VAt w1 S zeroV := by
  unfold VAt; rw [← hw1, ← hS, heap_alloc_old _ _ (by simp <;> omega), heap_alloc_old _ _ (by simp <;> omega), heap_alloc_old _ _ (by simp)]; exact heap_alloc_new _ _
 have hb1 : Box1 w1 (S + 1) 3 (.int .i64 0) := by
  unfold Box1; rw [← hw1, ← hS, heap_alloc_old _ _ (by simp), heap_alloc_old _ _ (by simp)]; have := heap_alloc_new (w.alloc (.cells zeroV 27)) (.cells #[.int .i64 0] 3); rw [alloc_size1] at this; exact this
 have hb2 : Box1 w1 (S + 2) 32 (.int .i64 0) := by
  unfold Box1; rw [← hw1, ← hS, heap_alloc_old _ _ (by simp)]; have := heap_alloc_new ((w.alloc (.cells zeroV 27)).alloc (.cells #[.int .i64 0] 3)) (.cells #[.int .i64 0] 32); rw [alloc_size1, alloc_size1] at this; exact this
 have hp1 : PAt w1 (S + 3) (.slice va xs.length vc) (clampN xs.length at0 : Nat) (0 : Nat) := by
  unfold PAt; rw [← hw1, ← hS]; have := heap_alloc_new (((w.alloc (.cells zeroV 27)).alloc (.cells #[.int .i64 0] 3)).alloc (.cells #[.int .i64 0] 32)) (.cells #[.slice va xs.length vc, .int .i64 (clampN xs.length at0 : Nat), .int .i64 0] 113); rw [alloc_size1, alloc_size1, alloc_size1] at this; exact this
 clear hw1; have hbn : BytesN (S + 3) w1 (.slice va xs.length vc) xs := by
  obtain ⟨a, cap, e, h1, h2, h3, h4⟩ := HB.out; refine ⟨a, cap, e, h1, h2, hl, fun hn => ?_⟩; obtain ⟨b, o, rfl, hlt, hc⟩ := h4 hn; exact ⟨b, o, rfl, by omega, Nat.lt_of_lt_of_le hlt hE.size, BytesAt.ext (fun _ => ⟨b, o, rfl, hlt, hc⟩) hE⟩
 have hps : PS w1 (S + 3) (.slice va xs.length vc) xs (clampN xs.length at0) 0 := ⟨hp1, hbn, clampN_le _ _⟩
 have H0 := Hd hv0; have H1 := Hd hb1; have H2 := Hd hb2; have HE := Hd hE; have HS := Hd hS; clear hv0 hb1 hb2 hE hS hp1 hbn; refine (value_any 65 0 (by omega) (by omega) (S + 3) _ xs (clampN xs.length at0) 0 _ hps (by omega)).mono ?_; intro e w2 hend; rw [show valueP xs 65 0 (clampN xs.length at0) 0 = T from hT.out] at hend; clear hT hps; cases T with
 | err er b =>
   obtain ⟨rfl, hk⟩ := hend; have q0 := H0.out.kept hk (by omega); have q1 := H1.out.kept hk (by omega); have q2 := H2.out.kept hk (by omega); go_wp2_with fail; refine leaves_cons (f := 93) (args := #[.pointer (some ⟨S, 0, none⟩), .pointer (some ⟨S + 1, 0, none⟩), .pointer (some ⟨S + 2, 0, none⟩)]) (by simp) (by simp [go_sem]) ?_; refine (one1_panicking S er b _ q0 q1 q2).mono ?_
   rintro e u' w3 ⟨rfl, rfl, hv, ha, he, hkt⟩; have HV := Hd hv; have a0 := ha.cell; have e0 := he.cell; obtain ⟨v0, v1, v2, v3, v4, v5, v6, v7⟩ := HV.out.c8; have hext : Ext w w3 := ext_one HE.out (by rw [HS.out]; exact hk) (by rw [HS.out]; exact hkt); refine ⟨.tuple #[.agg zeroV, .int .i64 b, .int .i64 er], ?_, rfl, hext⟩
   simp [results, Tryz.results74, go_sem, a0, e0, v0, v1, v2, v3, v4, v5, v6, v7]
 | ok t a n =>
   obtain ⟨c, rfl, htv, hp2, hk⟩ := hend; have hr0 := H0.out.kept hk (by omega); have HR := Hd hr0; have hq1 := H1.out.kept hk (by omega); have hq2 := H2.out.kept hk (by omega); obtain ⟨k, b, d, s, la, ln, lc, ma, mn, mc, rfl⟩ := htv.eight
   have r0 := HR.out.cell 0; have r1 := HR.out.cell 1; have r2 := HR.out.cell 2; have r3 := HR.out.cell 3; have r4 := HR.out.cell 4; have r5 := HR.out.cell 5; have r6 := HR.out.cell 6; have r7 := HR.out.cell 7; obtain ⟨s0, s1, s2, s3, s4, s5, s6, s7⟩ := HR.out.f8; simp at r0 r1 r2 r3 r4 r5 r6 r7; clear hr0; have hsz2 := hk.size; go_upto_region 4 with fail
   have hV := VAt.store8 HR.out (.int .i64 k) (.bool b) (.bool d.neg) (.string ⟨d.digits.toArray⟩) (.int .i64 d.exp) (.string ⟨s.toArray⟩) (.slice la ln lc) (.slice ma mn mc)
   have hG : KeptT S w2 ((((((((w2.setCell ⟨S, 0, none⟩ (.int .i64 k)).setCell ⟨S, 1, none⟩ (.bool b)).setCell ⟨S, 2, none⟩ (.bool d.neg)).setCell ⟨S, 3, none⟩ (.string ⟨d.digits.toArray⟩)).setCell ⟨S, 4, none⟩ (.int .i64 d.exp)).setCell ⟨S, 5, none⟩ (.string ⟨s.toArray⟩)).setCell ⟨S, 6, none⟩ (.slice la ln lc)).setCell ⟨S, 7, none⟩ (.slice ma mn mc)) :=
    (((((((KeptT.set _ (.inl rfl)).trans (KeptT.set _ (.inl rfl))).trans (KeptT.set _ (.inl rfl))).trans (KeptT.set _ (.inl rfl))).trans (KeptT.set _ (.inl rfl))).trans (KeptT.set _ (.inl rfl))).trans (KeptT.set _ (.inl rfl))).trans (KeptT.set _ (.inl rfl))
   have hq1' : Box1 ((((((((w2.setCell ⟨S, 0, none⟩ (.int .i64 k)).setCell ⟨S, 1, none⟩ (.bool b)).setCell ⟨S, 2, none⟩ (.bool d.neg)).setCell ⟨S, 3, none⟩ (.string ⟨d.digits.toArray⟩)).setCell ⟨S, 4, none⟩ (.int .i64 d.exp)).setCell ⟨S, 5, none⟩ (.string ⟨s.toArray⟩)).setCell ⟨S, 6, none⟩ (.slice la ln lc)).setCell ⟨S, 7, none⟩ (.slice ma mn mc)) (S + 1) 3 (.int .i64 0) := by
    unfold Box1; rw [heap8 (by omega)]; exact hq1
   have hq2' : Box1 ((((((((w2.setCell ⟨S, 0, none⟩ (.int .i64 k)).setCell ⟨S, 1, none⟩ (.bool b)).setCell ⟨S, 2, none⟩ (.bool d.neg)).setCell ⟨S, 3, none⟩ (.string ⟨d.digits.toArray⟩)).setCell ⟨S, 4, none⟩ (.int .i64 d.exp)).setCell ⟨S, 5, none⟩ (.string ⟨s.toArray⟩)).setCell ⟨S, 6, none⟩ (.slice la ln lc)).setCell ⟨S, 7, none⟩ (.slice ma mn mc)) (S + 2) 32 (.int .i64 0) := by
    unfold Box1; rw [heap8 (by omega)]; exact hq2
   clear r0 r1 r2 r3 r4 r5 r6 r7 s0 s1 s2 s3 s4 s5 s6 s7 hq1 hq2
   generalize ((((((((w2.setCell ⟨S, 0, none⟩ (.int .i64 k)).setCell ⟨S, 1, none⟩ (.bool b)).setCell ⟨S, 2, none⟩ (.bool d.neg)).setCell ⟨S, 3, none⟩ (.string ⟨d.digits.toArray⟩)).setCell ⟨S, 4, none⟩ (.int .i64 d.exp)).setCell ⟨S, 5, none⟩ (.string ⟨s.toArray⟩)).setCell ⟨S, 6, none⟩ (.slice la ln lc)).setCell ⟨S, 7, none⟩ (.slice ma mn mc)) = w3 at *
   have hp3 : PAt w3 (S + 3) (.slice va xs.length vc) a n := by
    have hl := hp2.1.cells.2.2.2.2.2.2; unfold PAt; rw [hG.block (S + 3) hl (by omega) (by omega) (by omega)]; exact hp2.1
   have HV3 := Hd hV; have HP3 := Hd hp3; have HG := Hd hG; have HQ1 := Hd hq1'; have HQ2 := Hd hq2'; have HTV := Hd htv; have HK := Hd hk; clear hV hp3 hG hq1' hq2' htv hk HR hp2
   refine Grow.wp_region_litW (G := G3 S (cellsV k b d s (.slice la ln lc) (.slice ma mn mc)) (.int .i64 a) (.int .i64 0)) (B := fun w' => B3 S (cellsV k b d s (.slice la ln lc) (.slice ma mn mc)) (.int .i64 a) (.int .i64 0) w3 w') (anc := fun _ => []) (I := fun j => if j = 5 then some (spec3V _ _ _ _) else if j = 6 then some (spec3A _ _ _ _) else if j = 7 then some (spec3E _ _ _ _) else none) (by kernel_rfl) (by kernel_rfl) (by kernel_rfl) ?_ ?_ ?_
   · exact fun w w' h hg => h.next hg
   · exact ⟨G3.drew _, HV3.out, ⟨_, HQ1.out⟩, ⟨_, HQ2.out⟩⟩
   repeat
    (refine Grow.Wk.step (fun K hK => ?_)
     first
     | (refine Grow.step_read (by rfl) (by rfl) (fun w => G3.refl w) ?_
        apply Exists.intro; refine ⟨fun w hB hF => ?_, ?_⟩
        · have hp9 : PAt w (S + 3) (.slice va xs.length vc) a n := (by unfold PAt; rw [hB.g.kept.block (S + 3) HP3.out.cells.2.2.2.2.2.2 (by omega) (by omega) (by omega)]; exact HP3.out); obtain ⟨d0, d1, d2, _, _, _, _⟩ := hp9.cells; clear hp9; have HR := Hd hB.v; obtain ⟨r0, r1, r2, r3, r4, r5, r6, r7⟩ := HR.out.c8; go_simp; try exact rfl
        go_simp; refine hK _ _ ?_; clear hK K)
     | (refine Grow.step_off (by rfl) ?_
        go_simp; refine hK _ _ ?_; clear hK K))
   refine Grow.Wk.step (fun K hK => ?_); refine Grow.step_rel (by rfl) (by rfl) (fun w' hB hF => ?_) (fun v hv => ?_)
   · have HR := Hd hB.v; have r0 := HR.out.cell 0; have r1 := HR.out.cell 1; have r2 := HR.out.cell 2; have r3 := HR.out.cell 3; have r4 := HR.out.cell 4; have r5 := HR.out.cell 5; have r6 := HR.out.cell 6; have r7 := HR.out.cell 7; obtain ⟨s0, s1, s2, s3, s4, s5, s6, s7⟩ := HR.out.f8; simp at r0 r1 r2 r3 r4 r5 r6 r7; go_simp; exact ⟨g3_setV HR.out, rfl, trivial⟩
   obtain rfl : v = _ := hv; go_simp; refine hK _ _ ?_; clear hK K; refine Grow.Wk.step (fun K hK => ?_); refine Grow.step_rel (by rfl) (by rfl) (fun w' hB hF => ?_) (fun v hv => ?_)
   · obtain ⟨ua, hua⟩ := hB.a; have HUA := Hd hua; have r0 := hua.cell; have s0 := hua.free; clear hua; go_simp; exact ⟨g3_setA ⟨_, HUA.out⟩, rfl, HUA.out.set⟩
   obtain rfl : v = _ := hv; go_simp; refine hK _ _ ?_; clear hK K; refine Grow.Wk.step (fun K hK => ?_); refine Grow.step_rel (by rfl) (by rfl) (fun w' hB hF => ?_) (fun v hv => ?_)
   · obtain ⟨ua, hua⟩ := hB.e; have HUA := Hd hua; have r0 := hua.cell; have s0 := hua.free; clear hua; go_simp; exact ⟨g3_setE ⟨_, HUA.out⟩, rfl, HUA.out.set⟩
   obtain rfl : v = _ := hv; go_simp; refine hK _ _ ?_; clear hK K; refine Grow.Wk.nil ?_; intro w4 hB hF; have ha : Box1 w4 (S + 1) 3 (.int .i64 a) := hF 6; have he : Box1 w4 (S + 2) 32 (.int .i64 0) := hF 7; have HV := Hd hB.v; have a0 := ha.cell; have e0 := he.cell; obtain ⟨v0, v1, v2, v3, v4, v5, v6, v7⟩ := HV.out.c8; go_wp2_with fail
   refine leaves_cons (f := 93) (args := #[.pointer (some ⟨S, 0, none⟩), .pointer (some ⟨S + 1, 0, none⟩), .pointer (some ⟨S + 2, 0, none⟩)]) (by simp) (by simp [go_sem]) ?_; refine (one1_idle _ _ _ _).mono ?_; rintro e u' w5 ⟨rfl, rfl, rfl⟩; have hkt : KeptT S w2 w5 := HG.out.trans hB.g.kept; have hext : Ext w w5 := ext_one HE.out (by rw [HS.out]; exact HK.out) (by rw [HS.out]; exact hkt)
   have hs1 : w1.heap.size = S + 4 := hsz; refine ⟨.tuple #[.agg (cellsV k b d s (.slice la ln lc) (.slice ma mn mc)), .int .i64 a, .int .i64 0], ?_, _, rfl, HTV.out.keep hkt.size (fun g hg hlt => ⟨?_, hkt.block g hlt (by omega) (by omega) (by omega)⟩), hext⟩
   · simp [results, Tryz.results74, go_sem, a0, e0, v0, v1, v2, v3, v4, v5, v6, v7]
   · show w.heap.size ≤ g; have := HS.out; omega
def EndTop (w : World) (e : Ending) (w' : World) (r : Tree × Int × Nat) : Prop :=
 ∃ c, e = .returned (.tuple #[.agg c, .int .i64 r.2.1, .int .i64 r.2.2]) ∧ TV w' (fun g => w.heap.size ≤ g) r.1 c ∧ Ext w w'
theorem ext_set8 {w w2 : World} {S : Nat} {a b c d e f g i : Value} (h : Ext w w2) (hS : w.heap.size ≤ S) : Ext w ((((((((w2.setCell ⟨S, 0, none⟩ a).setCell ⟨S, 1, none⟩ b).setCell ⟨S, 2, none⟩ c).setCell ⟨S, 3, none⟩ d).setCell ⟨S, 4, none⟩ e).setCell ⟨S, 5, none⟩ f).setCell ⟨S, 6, none⟩ g).setCell ⟨S, 7, none⟩ i) := below_store8 h hS a b c d e f g i
theorem top_end {w w2 : World} {S : Nat} {t : Tree} {y0 y1 y2 y3 y4 y5 y6 y7 : Value} {er : Int} {k : Nat} (hE : Ext w w2) (hS : w.heap.size ≤ S) (htv : TV w2 (fun g => S + 1 ≤ g) t #[y0, y1, y2, y3, y4, y5, y6, y7]) :
 EndTop w (.returned (.tuple #[.agg #[y0, y1, y2, y3, y4, y5, y6, y7], .int .i64 er, .int .i64 k])) ((((((((w2.setCell ⟨S, 0, none⟩ y0).setCell ⟨S, 1, none⟩ y1).setCell ⟨S, 2, none⟩ y2).setCell ⟨S, 3, none⟩ y3).setCell ⟨S, 4, none⟩ y4).setCell ⟨S, 5, none⟩ y5).setCell ⟨S, 6, none⟩ y6).setCell ⟨S, 7, none⟩ y7) (t, er, k) :=
 ⟨_, rfl, htv.keep (by simp [World.setCell]) (fun g hg hlt => ⟨by omega, heap8 (by omega)⟩), ext_set8 hE hS⟩
set_option maxHeartbeats 6400000 in
theorem top_any (v : Value) (xs : List UInt8) (w : World) (hb : Bytes w v xs) :
 Calls Tryz.prog 35 #[v] w (fun e w' => EndTop w e w' (parseP xs)) := by
 obtain ⟨T, hT⟩ := Ex (parseP xs); rw [hT]; rw [parseP] at hT; replace hT := Hd hT; obtain ⟨va, vc, rfl, hnc, hcm, hl47, _⟩ := id hb; have HB := Hd hb; clear hb; have hr := VAt.new w zeroV; have hE : Ext w (w.alloc (.cells zeroV 27)) := (ext_refl w).alloc (Nat.le_refl _) _; simp only [zeroV, cellsV, Num.zero] at hr hE; go_enter Tryz.func35, Tryz.ntmps35
 by_cases hlen : 65536 < xs.length
 · have hd : decide (65536 < (xs.length : Int)) = true := by simp; omega
   have hres : Hid (T = (tNull, 4, 0)) := Hd (by rw [← hT.out, if_pos hlen]); go_wp2_with fail; refine bodyPost_ret (v := .tuple #[.agg zeroV, .int .i64 4, .int .i64 (0 : Nat)]) (by simp [results, Tryz.results35, go_sem, Num.zero]) rfl ?_; rw [hres.out]; exact ⟨_, rfl, TV.leaf _ _ 0 false Num.zero [], hE⟩
 · have hd : decide (65536 < (xs.length : Int)) = false := by simp; omega
   have hT1 := hT.out; rw [if_neg hlen] at hT1; replace hT := Hd hT1; clear hT1; go_wp2_with fail; obtain ⟨S, hS⟩ := Ex w.heap.size; rw [hS] at hr ⊢; have hsz : (w.alloc (.cells #[.int .i64 0, .bool false, .bool false, .string ⟨#[]⟩, .int .i64 0, .string ⟨#[]⟩, .slice none 0 0, .slice none 0 0] 27)).heap.size = S + 1 := by rw [← hS]; simp
   generalize w.alloc (.cells #[.int .i64 0, .bool false, .bool false, .string ⟨#[]⟩, .int .i64 0, .string ⟨#[]⟩, .slice none 0 0, .slice none 0 0] 27) = w1 at *; have HR := Hd hr; have HE := Hd hE; have HS := Hd hS; clear hr hE hS; refine (one_any _ xs 0 _ (HB.out.ext HE.out) (by omega)).mono ?_; intro e w2 hend; cases hop : oneP xs 0 with
   | err er b =>
     rw [hop] at hend; obtain ⟨rfl, hw⟩ := hend; have hres : Hid (T = (tNull, er, b)) := Hd (by rw [← hT.out, hop]); replace HR := Hd (HR.out.ext hw); replace HE := Hd (ext_trans HE.out hw); have hsz2 := hw.size; clear hw hT; have hf := oneP_fine xs 0; rw [hop] at hf; have her : (er != 0) = true := by simpa using hf.1
     have ht0 := VAt.new w2 zeroV; have hx : Ext w2 (w2.alloc (.cells zeroV 27)) := (ext_refl w2).alloc (Nat.le_refl _) _; clear hf hop; simp only [zeroV, cellsV, Num.zero] at ht0 hx; replace HR := Hd (HR.out.ext hx); replace HE := Hd (ext_trans HE.out hx); clear hx ht0; simp only [zeroV, cellsV, Num.zero] at HR ⊢; go_upto_region 4 with fail
     generalize w2.alloc (.cells #[.int .i64 0, .bool false, .bool false, .string ⟨#[]⟩, .int .i64 0, .string ⟨#[]⟩, .slice none 0 0, .slice none 0 0] 27) = w3 at *; have r0 := HR.out.cell 0; have r1 := HR.out.cell 1; have r2 := HR.out.cell 2; have r3 := HR.out.cell 3; have r4 := HR.out.cell 4; have r5 := HR.out.cell 5; have r6 := HR.out.cell 6; have r7 := HR.out.cell 7
     obtain ⟨s0, s1, s2, s3, s4, s5, s6, s7⟩ := HR.out.f8; simp at r0 r1 r2 r3 r4 r5 r6 r7; go_wp2_with fail; have hV := VAt.store8 HR.out (.int .i64 0) (.bool false) (.bool false) (.string ⟨#[]⟩) (.int .i64 0) (.string ⟨#[]⟩) (.slice none 0 0) (.slice none 0 0); have HV := Hd hV; obtain ⟨v0, v1, v2, v3, v4, v5, v6, v7⟩ := HV.out.c8
     refine bodyPost_ret (v := .tuple #[.agg #[.int .i64 0, .bool false, .bool false, .string ⟨#[]⟩, .int .i64 0, .string ⟨#[]⟩, .slice none 0 0, .slice none 0 0], .int .i64 er, .int .i64 b]) (by simp [results, Tryz.results35, go_sem, v0, v1, v2, v3, v4, v5, v6, v7]) rfl ?_; rw [hres.out]; exact top_end HE.out (by rw [HS.out]; exact Nat.le_refl _) (TV.leaf _ _ 0 false Num.zero [])
   | ok t a n =>
     rw [hop] at hend; obtain ⟨c, rfl, htv, hw⟩ := hend; have hT1 : (if whiteN xs a < xs.length then (tNull, (2 : Int), whiteN xs a) else (t, 0, whiteN xs a)) = T := by rw [← hT.out, hop]
     replace hT := Hd hT1; have hf := oneP_fine xs 0; rw [hop] at hf; have hal : a ≤ xs.length := hf; clear hT1 hf hop; obtain ⟨k, b, d, s, la, ln, lc, ma, mn, mc, rfl⟩ := htv.eight; have hsz2 := hw.size; have ht0 := VAt.new w2 (cellsV k b d s (.slice la ln lc) (.slice ma mn mc))
     have hx : Ext w2 (w2.alloc (.cells (cellsV k b d s (.slice la ln lc) (.slice ma mn mc)) 27)) := (ext_refl w2).alloc (Nat.le_refl _) _; have htv3 := TV.keep (A' := fun g => S + 1 ≤ g) hx.size (fun g hg hlt => ⟨by omega, hx.block g hlt⟩) htv; replace HR := Hd ((HR.out.ext hw).ext hx); replace HE := Hd (ext_trans (ext_trans HE.out hw) hx); have hP2 : w2.heap.size ≠ S := by omega
     obtain ⟨P, hP⟩ := Ex w2.heap.size; rw [hP] at ht0 hP2; have HP2 := Hd hP; clear hx hw htv; simp only [zeroV, cellsV, Num.zero] at HR ht0 HE htv3 ⊢; go_upto_region 6 with fail; clear hP; generalize w2.alloc (.cells #[.int .i64 k, .bool b, .bool d.neg, .string ⟨d.digits.toArray⟩, .int .i64 d.exp, .string ⟨s.toArray⟩, .slice la ln lc, .slice ma mn mc] 27) = w3 at *; have HT0 := Hd ht0
     have HTV := Hd htv3; clear ht0 htv3; go_wp2_with fail; refine (white_any _ xs a _ (HB.out.ext HE.out)).mono ?_; rintro e w4 ⟨rfl, hw⟩; rw [clampN_nat xs.length a hal]; obtain ⟨m, hm⟩ := Ex (whiteN xs a); have hT1 := hT.out; rw [hm] at hT1 ⊢; replace hT := Hd hT1; have htv4 := TV.keep (A' := fun g => S + 1 ≤ g) hw.size (fun g hg hlt => ⟨hg, hw.block g hlt⟩) HTV.out
     replace HT0 := Hd (HT0.out.ext hw); replace HR := Hd (HR.out.ext hw); replace HE := Hd (ext_trans HE.out hw); replace HTV := Hd htv4; clear hm hT1 htv4 hw; have r0 := HR.out.cell 0; have r1 := HR.out.cell 1; have r2 := HR.out.cell 2; have r3 := HR.out.cell 3; have r4 := HR.out.cell 4; have r5 := HR.out.cell 5; have r6 := HR.out.cell 6; have r7 := HR.out.cell 7
     obtain ⟨s0, s1, s2, s3, s4, s5, s6, s7⟩ := HR.out.f8; simp at r0 r1 r2 r3 r4 r5 r6 r7; obtain ⟨t0, t1, t2, t3, t4, t5, t6, t7⟩ := HT0.out.c8; by_cases hml : m < xs.length
     · have hmi : (m : Int) < xs.length := by omega
       have hT1 := hT.out; rw [if_pos hml] at hT1; have hres := Hd hT1.symm; clear hT1 hT hml; go_wp2_with fail; have hV := VAt.store8 HR.out (.int .i64 0) (.bool false) (.bool false) (.string ⟨#[]⟩) (.int .i64 0) (.string ⟨#[]⟩) (.slice none 0 0) (.slice none 0 0); have HV := Hd hV; obtain ⟨v0, v1, v2, v3, v4, v5, v6, v7⟩ := HV.out.c8
       refine bodyPost_ret (v := .tuple #[.agg #[.int .i64 0, .bool false, .bool false, .string ⟨#[]⟩, .int .i64 0, .string ⟨#[]⟩, .slice none 0 0, .slice none 0 0], .int .i64 2, .int .i64 m]) (by simp [results, Tryz.results35, go_sem, v0, v1, v2, v3, v4, v5, v6, v7]) rfl ?_; rw [hres.out]; exact top_end HE.out (by rw [HS.out]; exact Nat.le_refl _) (TV.leaf _ _ 0 false Num.zero [])
     · have hmi : ¬ (m : Int) < xs.length := by omega
       have hT1 := hT.out; rw [if_neg hml] at hT1; have hres := Hd hT1.symm; clear hT1 hT hml; go_wp2_with fail; have hV := VAt.store8 HR.out (.int .i64 k) (.bool b) (.bool d.neg) (.string ⟨d.digits.toArray⟩) (.int .i64 d.exp) (.string ⟨s.toArray⟩) (.slice la ln lc) (.slice ma mn mc); have HV := Hd hV; obtain ⟨v0, v1, v2, v3, v4, v5, v6, v7⟩ := HV.out.c8
       refine bodyPost_ret (v := .tuple #[.agg #[.int .i64 k, .bool b, .bool d.neg, .string ⟨d.digits.toArray⟩, .int .i64 d.exp, .string ⟨s.toArray⟩, .slice la ln lc, .slice ma mn mc], .int .i64 0, .int .i64 m]) (by simp [results, Tryz.results35, go_sem, v0, v1, v2, v3, v4, v5, v6, v7]) rfl ?_; rw [hres.out]; exact top_end HE.out (by rw [HS.out]; exact Nat.le_refl _) HTV.out
end Go.Proofs.YtjapbjmeoaagmaaGreatDoor
end

section
set_option maxRecDepth 100000
namespace Orange
def Tree.bit : Tree → Bool | .mk _ b _ _ _ _ => b
def Tree.num : Tree → Num | .mk _ _ d _ _ _ => d
end Orange
namespace Go.Proofs.YtjapbjmeoaagmaaGreatDoor
open Go.RowKit Go.Mem Orange
theorem TV.shape {w : World} {A : Nat → Prop} {t : Tree} {c : Array Value} (h : TV w A t c) : ∃ a1 c1 a2 c2, c = cellsV t.kind t.bit t.num t.str (.slice a1 t.list.length c1) (.slice a2 t.mems.length c2) := by
 cases h with
 | mk h1 h2 h3 h4 =>
   obtain ⟨_, a1, c1, rfl, _⟩ := h2; obtain ⟨_, a2, c2, rfl, _⟩ := h4; exact ⟨_, _, _, _, rfl⟩
theorem TL.at {w : World} {A : Nat → Prop} : ∀ {l : List Tree} {cs : List Value} (i : Nat) (hi : i < l.length), TL w A l cs → ∃ c, TV w A l[i] c ∧ ∀ j, j < 8 → cs[i * 8 + j]? = c[j]?
 | t :: l, _, 0, hi, .cons (c := c) h1 h2 => ⟨c, h1, fun j hj => by
     rw [Nat.zero_mul, Nat.zero_add, List.getElem?_append_left (by rw [Array.length_toList, h1.size]; exact hj)]; simp⟩
 | t :: l, _, i + 1, hi, .cons (c := c0) h1 h2 => by
   obtain ⟨c, h3, h4⟩ := TL.at i (by simpa using hi) h2; refine ⟨c, h3, fun j hj => ?_⟩; rw [List.getElem?_append_right (by rw [Array.length_toList, h1.size]; omega), Array.length_toList, h1.size, ← h4 j hj]; congr 1; omega
theorem TM.at {w : World} {A : Nat → Prop} : ∀ {l : List (List UInt8 × Tree)} {cs : List Value} (i : Nat) (hi : i < l.length), TM w A l cs → ∃ c, TV w A l[i].2 c ∧ cs[i * 9]? = some (.string ⟨l[i].1.toArray⟩) ∧ ∀ j, j < 8 → cs[i * 9 + 1 + j]? = c[j]?
 | (k, t) :: l, _, 0, hi, .cons (c := c) h1 h2 => ⟨c, h1, by simp, fun j hj => by
     rw [Nat.zero_mul, Nat.zero_add, List.cons_append, Nat.add_comm 1 j, List.getElem?_cons_succ, List.getElem?_append_left (by rw [Array.length_toList, h1.size]; exact hj)]; simp⟩
 | (k, t) :: l, _, i + 1, hi, .cons (c := c0) h1 h2 => by
   obtain ⟨c, h3, h4, h5⟩ := TM.at i (by simpa using hi) h2; have hlen : (Value.string ⟨k.toArray⟩ :: c0.toList).length = 9 := by simp [h1.size]
   refine ⟨c, h3, ?_, fun j hj => ?_⟩
   · rw [List.getElem?_append_right (by rw [hlen]; omega), hlen, show (i + 1) * 9 - 9 = i * 9 by omega]; simpa using h4
   · rw [List.getElem?_append_right (by rw [hlen]; omega), hlen, ← h5 j hj]; congr 1; omega
theorem RowAt.cells {w : World} {A : Nat → Prop} {z n : Nat} {a : Option Addr} {m cap : Nat} {cs : List Value} (h : RowAt w A z (.slice a m cap) n cs) (hn : 0 < n) : ∃ g o, a = some ⟨g, o, none⟩ ∧ g < w.heap.size ∧ ∀ i u, cs[i]? = some u → w.cell? ⟨g, o + i, none⟩ = some u := by
 obtain ⟨h0, a', c', e, h1, h2, h3⟩ := h; simp only [Value.slice.injEq] at e; obtain ⟨rfl, _, _⟩ := e; obtain ⟨g, o, rfl, _, hlt, hc⟩ := h3 hn; refine ⟨g, o, rfl, hlt, fun i u hu => ?_⟩; obtain ⟨hi, rfl⟩ := List.getElem?_eq_some_iff.1 hu; exact hc i hi
set_option maxHeartbeats 1600000 in
theorem neq_num (a b : Num) (w : World) : (binOp .neq 23 (.agg #[.bool a.neg, .string ⟨a.digits.toArray⟩, .int .i64 a.exp]) (.agg #[.bool b.neg, .string ⟨b.digits.toArray⟩, .int .i64 b.exp])).run Tryz.prog w = .ok (.bool (!decide (a = b))) w := by
 obtain ⟨a3, a4, a5⟩ := a; obtain ⟨b3, b4, b5⟩ := b; simp only [Num.mk.injEq]; by_cases h3 : a3 = b3
 · by_cases h4 : a4 = b4
   · by_cases h5 : a5 = b5
     · subst h3; subst h4; subst h5; go_simp
     · have q5 : (a5 == b5) = false := by simpa using h5
       subst h3; subst h4; go_simp
   · have q4 : (a4 == b4) = false := by simpa using h4
     subst h3; go_simp
 · have q3 : (a3 == b3) = false := by simpa using h3
   go_simp
theorem snd_lt (p : List UInt8 × Tree) : SizeOf.sizeOf p.2 < SizeOf.sizeOf p := by
 cases p
 simp only [Prod.mk.sizeOf_spec]; omega
theorem mem_size (m : List (List UInt8 × Tree)) (i : Nat) (h : i < m.length) {N : Nat} (hN : SizeOf.sizeOf m < N) : SizeOf.sizeOf m[i].2 < N :=
 Nat.lt_trans (Nat.lt_trans (snd_lt m[i]) (List.sizeOf_lt_of_mem (List.getElem_mem h))) hN
theorem mem_sizeL (m : List Tree) (i : Nat) (h : i < m.length) {N : Nat} (hN : SizeOf.sizeOf m < N) : SizeOf.sizeOf m[i] < N :=
 Nat.lt_trans (List.sizeOf_lt_of_mem (List.getElem_mem h)) hN
end Go.Proofs.YtjapbjmeoaagmaaGreatDoor
end

section
set_option maxRecDepth 100000
namespace Orange
def Tree.ins (t : Tree) : List Tree := t.list ++ t.mems.map (·.2)
end Orange
namespace Go.Proofs.YtjapbjmeoaagmaaGreatDoor
open Go.RowKit Go.Mem Orange
theorem tv_rows {w : World} {A : Nat → Prop} {t : Tree} {k : Int} {b : Bool} {d : Num} {s : List UInt8} {vL vM : Value} (h : TV w A t (cellsV k b d s vL vM)) : ∃ cl cm, TL w A t.list cl ∧ RowAt w A 8 vL t.list.length cl ∧ TM w A t.mems cm ∧ RowAt w A 9 vM t.mems.length cm ∧ k = t.kind ∧ b = t.bit ∧ d.neg = t.num.neg ∧ d.digits = t.num.digits ∧ d.exp = t.num.exp ∧ s = t.str := by
 generalize hc : cellsV k b d s vL vM = c at h; cases h with
 | mk h1 h2 h3 h4 =>
   simp only [cellsV, Array.mk.injEq, List.cons.injEq, Value.int.injEq, Value.bool.injEq, Value.string.injEq, ByteArray.mk.injEq, and_true, true_and] at hc; obtain ⟨rfl, rfl, h5, h6, h7, h8, rfl, rfl⟩ := hc; exact ⟨_, _, h1, h2, h3, h4, rfl, rfl, h5, h6, h7, h8⟩
mutual
theorem TV.one {w : World} {A : Nat → Prop} : ∀ {t : Tree} {c : Array Value}, TV w A t c → ∀ u ∈ c.toList, u.oneCell' = true
 | _, _, .mk h1 h2 h3 h4 => by
   obtain ⟨_, a1, c1, rfl, _⟩ := h2; obtain ⟨_, a2, c2, rfl, _⟩ := h4; simp [cellsV, Value.oneCell']
theorem TL.one {w : World} {A : Nat → Prop} : ∀ {l : List Tree} {cs : List Value}, TL w A l cs → ∀ u ∈ cs, u.oneCell' = true
 | _, _, .nil => by simp
 | _, _, .cons h1 h2 => by
   intro u hu; rcases List.mem_append.1 hu with h | h
   · exact TV.one h1 u h
   · exact TL.one h2 u h
end
theorem RowAt.src {P : Program} {w : World} {A : Nat → Prop} {z n : Nat} {v : Value} {cs : List Value} (h : RowAt w A z v n cs) {tx e' : TypeId} (hk : P.underlying tx = some (.slice e')) (hz : 0 < z) (h1 : ∀ u ∈ cs, u.oneCell' = true) : Src P z tx v n cs w := by
 obtain ⟨h0, a, cap, rfl, h2, h3, h4⟩ := h; by_cases hn : 0 < n
 · obtain ⟨g, o, rfl, _, hlt, hc⟩ := h4 hn; refine Src.ofSlice w hk _ _ cap _ h0 (fun j u hu => ?_) h1; obtain ⟨hj, rfl⟩ := List.getElem?_eq_some_iff.1 hu; rw [show (⟨g, o, none⟩ : Addr).add j = ⟨g, o + j, none⟩ by simp only [Addr.add]; split <;> simp_all]; exact hc j hj
 · obtain rfl : n = 0 := by omega
   obtain rfl : cs = [] := List.eq_nil_of_length_eq_zero (by simpa using h0); cases a with
   | none => 
     have := Src.ofNil w (P := P) (size := z) hk cap; exact this
   | some a => exact Src.ofSlice w hk a 0 cap [] (by simp) (by simp) (by simp)
set_option maxHeartbeats 1600000 in
theorem clone_any (v : Value) (n : Nat) (cs : List Value) (A : Nat → Prop) (w : World) (h : RowAt w A 8 v n cs) (h1 : ∀ u ∈ cs, u.oneCell' = true) (hn : n ≤ 1000000) :
 Calls Tryz.prog 48 #[v] w (fun e w' => ∃ v', e = .returned v' ∧ w'.ownsRow w.heap.size 27 8 v' n cs ∧ Ext w w') := by
 have hq : ∀ (w : World) (a : Option Addr) (n c : Nat), (binOp .eql 24 (.slice a n c) (.slice none 0 0)).run Tryz.prog w = .ok (.bool a.isNone) w := fun w a n c => Lib.run_eql_slice_nil w _ _ a n c 0 0 Tryz.underlying24; obtain ⟨h0, a, cap, rfl, h2, h3, h4⟩ := id h; cases a with
 | none =>
   have hn0 : n = 0 := by
    rcases Nat.eq_zero_or_pos n with h' | h'
    · exact h'
    · obtain ⟨g, o, e, _⟩ := h4 h'; cases e
   subst hn0; obtain rfl : cs = [] := List.eq_nil_of_length_eq_zero (by simpa using h0); clear h h4 h0 h1; go_enter Tryz.func48, Tryz.ntmps48
   go_wp2_with fail; go_ret; exact ⟨_, rfl, World.ownsRow_nil _ _ _ _, ext_refl _⟩
 | some a =>
   have HR := Hd h; have HO := Hd h1; clear h h4 h0 h1; go_enter Tryz.func48, Tryz.ntmps48
   have hx : Ext w (w.alloc (.cells #[] 27)) := (ext_refl w).alloc (Nat.le_refl _) _; have hown : (w.alloc (.cells #[] 27)).ownsRow w.heap.size 27 8 (.slice (some ⟨w.heap.size, 0, none⟩) 0 0) 0 [] :=
    ⟨rfl, .inr ⟨w.heap.size, 0, #[], rfl, Nat.le_refl _, heap_alloc_new _ _, Nat.le_refl _, by simp only [maxLen]; omega, rfl, rfl⟩⟩
   have hsrc := (HR.out.keep (A' := fun _ => True) hx.size (fun g _ hlt => ⟨trivial, hx.block g hlt⟩)).src (P := Tryz.prog) (tx := 24) (e' := 27) (by kernel_rfl) (by decide) HO.out; go_wp2_with (first
    | (at_builtin; refine wpList_append_src _ rfl _ _ 24 24 rfl w.heap.size 27 _ _ 8 112 (by kernel_rfl) (by rfl) (by rfl) (by rfl) (by kernel_rfl) (by rfl) (by decide) _ 0 [] rfl hown _ n cs rfl hsrc (by simp only [maxLen]; omega) (by omega) hx.size ?_; intro v' w' ho' hg)
    | fail)
   go_ret; exact ⟨_, rfl, by simpa using ho', hx.trans (Below.ofGrown hg hown hx.size)⟩
def MAt (w : World) (q : Nat) (c : Array Value) : Prop := w.heap[q]? = some (.cells c 43 (0, 0))
theorem MAt.new (w : World) (c : Array Value) : MAt (w.alloc (.cells c 43)) w.heap.size c := heap_alloc_new _ _
theorem MAt.lt {w : World} {q : Nat} {c : Array Value} (h : MAt w q c) : q < w.heap.size := (Array.getElem?_eq_some_iff.1 h).1
theorem MAt.ext {w w' : World} {q : Nat} {c : Array Value} (h : MAt w q c) (hb : Ext w w') : MAt w' q c := by
 unfold MAt; rw [hb.block _ h.lt]; exact h
theorem MAt.cell {w : World} {q : Nat} {c : Array Value} (h : MAt w q c) (i : Nat) : w.cell? ⟨q, i, none⟩ = c[i]? := cell_of_cells h
theorem ownsRow_ext {w w' : World} {base : Nat} {e : TypeId} {z : Nat} {v : Value} {n : Nat} {cs : List Value} (h : w.ownsRow base e z v n cs) (hb : Ext w w') : w'.ownsRow base e z v n cs := by
 obtain ⟨h1, h2⟩ := h; refine ⟨h1, ?_⟩; rcases h2 with h2 | ⟨g, cap, cur, rfl, hbg, hg, r⟩
 · exact .inl h2
 · exact .inr ⟨g, cap, cur, rfl, hbg, by rw [hb.block g (Array.getElem?_eq_some_iff.1 hg).1]; exact hg, r⟩
set_option maxHeartbeats 6400000 in
theorem inside_any (t : Tree) (c : Array Value) (A : Nat → Prop) (w : World) (h : TV w A t c) (hn : t.list.length + t.mems.length ≤ 1000000) :
 Calls Tryz.prog 49 #[.agg c] w (fun e w' => ∃ v cs, e = .returned v ∧ w'.ownsRow w.heap.size 27 8 v t.ins.length cs ∧ TL w' A t.ins cs ∧ Ext w w') := by
 obtain ⟨k, b, d, s, la, ln, lc, ma, mn, mc, rfl⟩ := h.eight; obtain ⟨cl, cm, htl, hrl, htm, hrm, -⟩ := tv_rows h; obtain ⟨tk, tb, tn, ts, L, M⟩ := t; simp only [Tree.list, Tree.mems] at htl hrl htm hrm hn; have hins : (Tree.mk tk tb tn ts L M).ins = L ++ M.map (·.2) := rfl; rw [hins]; have hlen : (L ++ M.map (·.2)).length = L.length + M.length := by simp
 rw [hlen]; obtain ⟨_, a1, c1, ea, -⟩ := id hrl; simp only [Value.slice.injEq] at ea; obtain ⟨rfl, rfl, rfl⟩ := ea; obtain ⟨_, a2, c2, ea, hm1, hm2, -⟩ := id hrm; simp only [Value.slice.injEq] at ea; obtain ⟨rfl, rfl, rfl⟩ := ea; have hv := VAt.new w (cellsV k b d s (.slice la L.length lc) (.slice ma M.length mc))
 have hx : Ext w (w.alloc (.cells (cellsV k b d s (.slice la L.length lc) (.slice ma M.length mc)) 27)) := (ext_refl w).alloc (Nat.le_refl _) _; simp only [cellsV] at hv hx ⊢; clear hins hlen h; go_enter Tryz.func49, Tryz.ntmps49
 go_upto_region 1 with fail; generalize w.alloc (.cells #[.int .i64 k, .bool b, .bool d.neg, .string ⟨d.digits.toArray⟩, .int .i64 d.exp, .string ⟨s.toArray⟩, .slice la L.length lc, .slice ma M.length mc] 27) = w1 at *; obtain ⟨S, hS⟩ := Ex w.heap.size; have HTM := Hd (htm.keep (w' := w1) (A' := fun g => A g ∧ g < S) hx.size (fun g hg hlt => ⟨⟨hg, by omega⟩, hx.block g hlt⟩))
 have HRM := Hd (hrm.keep (w' := w1) (A' := fun g => A g ∧ g < S) hx.size (fun g hg hlt => ⟨⟨hg, by omega⟩, hx.block g hlt⟩)); have HTL := Hd (htl.keep (w' := w1) (A' := fun g => A g ∧ g < S) hx.size (fun g hg hlt => ⟨⟨hg, by omega⟩, hx.block g hlt⟩)); have HRL := Hd (hrl.keep (w' := w1) (A' := fun g => A g ∧ g < S) hx.size (fun g hg hlt => ⟨⟨hg, by omega⟩, hx.block g hlt⟩)); have HE := Hd hx
 rw [hS] at hv ⊢; have HV := Hd hv; have HS := Hd hS; clear htm hrm htl hrl hx hS; have c6 := HV.out.cell 6; have c7 := HV.out.cell 7; simp at c6 c7; clear hv; go_wp2_with fail; refine (clone_any _ L.length cl _ w1 HRL.out HTL.out.one (by omega)).mono ?_; rintro e w2 ⟨v2, rfl, hown2, hw2⟩; have hbase : S ≤ w1.heap.size := by rw [← HS.out]; exact HE.out.size
 have hown2' : w2.ownsRow S 27 8 v2 L.length cl := by
  obtain ⟨h1, h2⟩ := hown2; refine ⟨h1, ?_⟩; rcases h2 with h2 | ⟨g, cap, cur, e1, hbg, r⟩
  · exact .inl h2
  · exact .inr ⟨g, cap, cur, e1, Nat.le_trans hbase hbg, r⟩
 clear hown2 c6 c7; replace HV := Hd (HV.out.ext hw2); have c7 := HV.out.cell 7; simp at c7; go_wp2_with fail; clear c7; have hbel2 : Below S w1 w2 := hw2.mono hbase
 go_loopw [3, 12] (fun v iv wr => ∃ (i : Nat) (cs : List Value), iv = .int .i64 i ∧ i ≤ M.length ∧ wr.ownsRow S 27 8 v (L.length + i) cs ∧ TL wr (fun g => A g ∧ g < S) (L ++ (M.take i).map (·.2)) cs ∧ Below S w1 wr) (fun _ iv _ => 2000000 - (intOf iv).toNat)
 case atStart => exact ⟨0, cl, rfl, by omega, hown2', by simpa using HTL.out.keep (A' := fun g => A g ∧ g < S) hbel2.size (fun g hg hlt => ⟨hg, hbel2.block g hg.2⟩), hbel2⟩
 case round =>
  obtain ⟨i, cs, rfl, hi, hown, htl, hE⟩ := hrel; rename_i vo _
  have HO := Hd hown; have HT := Hd htl; have HX := Hd hE; clear hown htl hE; by_cases hlt : i < M.length
  · have hlti : (i : Int) < M.length := by omega
    have hi0 : (0 : Int) ≤ i := by omega
    obtain ⟨x, htx, hkx, hcx⟩ := HTM.out.at i hlt; obtain ⟨_, a', c', e', _, _, hrow⟩ := HRM.out; simp only [Value.slice.injEq] at e'; obtain ⟨rfl, -, rfl⟩ := e'; obtain ⟨g, o, rfl, hgS, hgl, hgc0⟩ := hrow (by omega); have hgc : ∀ j u, cm[j]? = some u → w1.cell? ⟨g, o + j, none⟩ = some u := fun j u hu => by
     obtain ⟨hj, rfl⟩ := List.getElem?_eq_some_iff.1 hu; exact hgc0 j hj
    obtain ⟨xk, xb, xd, xs, xa1, xn1, xc1, xa2, xn2, xc2, rfl⟩ := htx.eight; have h9 : wr.cell? ⟨g, o + i * 9, none⟩ = some (.string ⟨M[i].1.toArray⟩) ∧ ∀ j, j < 8 → wr.cell? ⟨g, o + i * 9 + (j + 1), none⟩ = (cellsV xk xb xd xs (.slice xa1 xn1 xc1) (.slice xa2 xn2 xc2))[j]? := by
     refine ⟨by rw [HX.out.cell (p := ⟨g, o + i * 9, none⟩) hgS.2]; exact hgc _ _ hkx, fun j hj => ?_⟩; rw [Nat.add_assoc, HX.out.cell (p := ⟨g, o + (i * 9 + (j + 1)), none⟩) hgS.2]; have h1 := hcx j hj; rw [show i * 9 + 1 + j = i * 9 + (j + 1) by omega] at h1
     have h2 : (cellsV xk xb xd xs (.slice xa1 xn1 xc1) (.slice xa2 xn2 xc2))[j]? = some (cellsV xk xb xd xs (.slice xa1 xn1 xc1) (.slice xa2 xn2 xc2))[j] := by simp [cellsV, hj]
     rw [h2]; exact hgc _ _ (h1.trans h2)
    obtain ⟨x0, hx8⟩ := h9; have x1 := hx8 0 (by omega); have x2 := hx8 1 (by omega); have x3 := hx8 2 (by omega); have x4 := hx8 3 (by omega); have x5 := hx8 4 (by omega); have x6 := hx8 5 (by omega); have x7 := hx8 6 (by omega); have x8 := hx8 7 (by omega); simp [cellsV] at x1 x2 x3 x4 x5 x6 x7 x8
    clear hx8 hcx hkx hgc hgc0 hgl hgS hrow; obtain ⟨ky, hky⟩ := Ex (M[i].1); rw [hky] at x0; have HTX := Hd (htx.keep (w' := wr) (A' := fun g => A g ∧ g < S) HX.out.size (fun g hg hlt => ⟨hg, HX.out.block g hg.2⟩)); clear htx hky
    have hm9 := MAt.new wr #[.string ⟨ky.toArray⟩, .int .i64 xk, .bool xb, .bool xd.neg, .string ⟨xd.digits.toArray⟩, .int .i64 xd.exp, .string ⟨xs.toArray⟩, .slice xa1 xn1 xc1, .slice xa2 xn2 xc2]
    have hx3 : Ext wr (wr.alloc (.cells #[.string ⟨ky.toArray⟩, .int .i64 xk, .bool xb, .bool xd.neg, .string ⟨xd.digits.toArray⟩, .int .i64 xd.exp, .string ⟨xs.toArray⟩, .slice xa1 xn1 xc1, .slice xa2 xn2 xc2] 43)) := (ext_refl wr).alloc (Nat.le_refl _) _; obtain ⟨P, hP⟩ := Ex wr.heap.size; rw [hP] at hm9; go_upto_region 5 with fail; clear x0 x1 x2 x3 x4 x5 x6 x7 x8 hP
    generalize wr.alloc (.cells #[.string ⟨ky.toArray⟩, .int .i64 xk, .bool xb, .bool xd.neg, .string ⟨xd.digits.toArray⟩, .int .i64 xd.exp, .string ⟨xs.toArray⟩, .slice xa1 xn1 xc1, .slice xa2 xn2 xc2] 43) = w3 at *; have x1 := hm9.cell 1; have x2 := hm9.cell 2; have x3 := hm9.cell 3; have x4 := hm9.cell 4; have x5 := hm9.cell 5; have x6 := hm9.cell 6; have x7 := hm9.cell 7; have x8 := hm9.cell 8
    simp at x1 x2 x3 x4 x5 x6 x7 x8; have hx4 : Ext w3 (w3.alloc (.cells #[.int .i64 xk, .bool xb, .bool xd.neg, .string ⟨xd.digits.toArray⟩, .int .i64 xd.exp, .string ⟨xs.toArray⟩, .slice xa1 xn1 xc1, .slice xa2 xn2 xc2] 27)) := (ext_refl w3).alloc (Nat.le_refl _) _; have hown4 := ownsRow_ext HO.out (ext_trans hx3 hx4); have hsS : S ≤ wr.heap.size := Nat.le_trans hbase HX.out.size
    have hs4 : S ≤ (w3.alloc (.cells #[.int .i64 xk, .bool xb, .bool xd.neg, .string ⟨xd.digits.toArray⟩, .int .i64 xd.exp, .string ⟨xs.toArray⟩, .slice xa1 xn1 xc1, .slice xa2 xn2 xc2] 27)).heap.size := Nat.le_trans hsS (ext_trans hx3 hx4).size
    have hsrc := src_one (P := Tryz.prog) (tx := 24) (e' := 27) (by kernel_rfl) (heap_alloc_new w3 (.cells #[.int .i64 xk, .bool xb, .bool xd.neg, .string ⟨xd.digits.toArray⟩, .int .i64 xd.exp, .string ⟨xs.toArray⟩, .slice xa1 xn1 xc1, .slice xa2 xn2 xc2] 27)) rfl (by simp [Value.oneCell']); have hE4 := (ext_trans hx3 hx4).mono hsS; go_wp2_with (first
     | (at_builtin; refine wpList_append_src _ rfl _ _ 24 24 rfl S 27 _ _ 8 112 (by kernel_rfl) (by rfl) (by rfl) (by rfl) (by kernel_rfl) (by rfl) (by decide) _ (L.length + i) cs rfl hown4 _ 1 _ rfl hsrc (by simp only [maxLen]; omega) (by omega) hs4 ?_; intro v' w' ho' hg; have hb5 := hE4.trans (Below.ofGrown hg hown4 hs4); clear x1 x2 x3 x4 x5 x6 x7 x8 hx3 hx4 hm9 hown4 hsrc hg)
     | fail)
    have e9 : IntKind.i64.wrap ((i : Int) + 1) = ((i + 1 : Nat) : Int) := by rw [IntWalk.i64_in _ (by omega)]; omega
    go_roundw
    case rel =>
     refine ⟨i + 1, _, by go_num, by omega, ho', ?_, HX.out.trans hb5⟩; have h1 := (HT.out.keep (A' := fun g => A g ∧ g < S) hb5.size (fun g hg hlt => ⟨hg, hb5.block g hg.2⟩)).append (HTX.out.keep (A' := fun g => A g ∧ g < S) hb5.size (fun g hg hlt => ⟨hg, hb5.block g hg.2⟩))
     rw [show L ++ (M.take (i + 1)).map (·.2) = (L ++ (M.take i).map (·.2)) ++ [M[i].2] by rw [List.take_add_one, List.getElem?_eq_getElem hlt]; simp only [Option.toList_some, List.map_append, List.map_cons, List.map_nil, List.append_assoc]]; exact h1
    case measure => simp [intOf]; omega
  · obtain rfl : i = M.length := by omega
    have hnlt : ¬ ((M.length : Int) < (M.length : Int)) := by omega
    go_wp2_with fail; go_ret; refine ⟨_, rfl, cs, by rw [HS.out]; exact HO.out, ?_, HE.out.trans (HX.out.mono (by rw [HS.out]; exact Nat.le_refl _))⟩; have h1 := HT.out.keep (A' := A) (Nat.le_refl _) (fun g hg hlt => ⟨hg.1, rfl⟩); rwa [List.take_length] at h1
end Go.Proofs.YtjapbjmeoaagmaaGreatDoor
end

section
set_option maxRecDepth 100000
namespace Orange
mutual
def countT : Tree → Nat
 | .mk _ _ _ _ l m => countL l + countM m + 1
def countL : List Tree → Nat
 | [] => 0
 | t :: l => countT t + countL l
def countM : List (List UInt8 × Tree) → Nat
 | [] => 0
 | (_, t) :: l => countT t + countM l
end
theorem countL_append : ∀ (l l' : List Tree), countL (l ++ l') = countL l + countL l'
 | [], l' => by rw [List.nil_append, countL]; omega
 | t :: l, l' => by rw [List.cons_append, countL, countL, countL_append l l']; omega
theorem countM_map : ∀ m : List (List UInt8 × Tree), countM m = countL (m.map (·.2))
 | [] => by rw [countM, List.map_nil, countL]
 | (k, t) :: m => by rw [countM, List.map_cons, countL, countM_map m]
theorem countT_ins (t : Tree) : countT t = countL t.ins + 1 := by
 cases t with
 | mk k b d s l m => rw [countT, countM_map]; show _ = countL (l ++ m.map (·.2)) + 1; rw [countL_append]
theorem countT_pos (t : Tree) : 1 ≤ countT t := by rw [countT_ins]; omega
theorem countL_len : ∀ l : List Tree, l.length ≤ countL l
 | [] => by simp
 | t :: l => by have := countL_len l; have := countT_pos t; rw [countL, List.length_cons]; omega
theorem countL_mem {l : List Tree} {i : Nat} (h : i < l.length) : countT l[i] ≤ countL l := by
 have := countL_append (l.take i) (l.drop i); rw [List.take_append_drop] at this; rw [this, List.drop_eq_getElem_cons h, countL]; omega
theorem countL_take (l : List Tree) (i : Nat) (h : i < l.length) : countL (l.take (i + 1)) = countL (l.take i) + countT l[i] := by
 rw [List.take_add_one, List.getElem?_eq_getElem h, Option.toList_some, countL_append, countL, countL]; omega
theorem countL_take_le (l : List Tree) (i : Nat) : countL (l.take i) ≤ countL l := by
 have := countL_append (l.take i) (l.drop i); rw [List.take_append_drop] at this; omega
theorem ins_size {t x : Tree} (h : x ∈ t.ins) : SizeOf.sizeOf x < SizeOf.sizeOf t := by
 cases t with
 | mk k b d s l m =>
   have h : x ∈ l ++ m.map (·.2) := h; rw [List.mem_append] at h; simp only [Tree.mk.sizeOf_spec]; rcases h with h | h
   · have := List.sizeOf_lt_of_mem h; omega
   · obtain ⟨p, hp, rfl⟩ := List.mem_map.1 h; have h1 := List.sizeOf_lt_of_mem hp; cases p
     simp only [Prod.mk.sizeOf_spec] at h1 ⊢; omega
theorem ins_len (t : Tree) : t.ins.length = t.list.length + t.mems.length := by simp [Tree.ins]
end Orange
namespace Go.Proofs.YtjapbjmeoaagmaaGreatDoor
open Go.RowKit Go.Mem Orange
theorem row_elem {w : World} {A : Nat → Prop} {a : Option Addr} {n m cap : Nat} {l : List Tree} {cs : List Value} (hr : RowAt w A 8 (.slice a m cap) n cs) (ht : TL w A l cs) (hl : n = l.length) (i : Nat) (hi : i < l.length) :
 ∃ g o k b d s a1 n1 c1 a2 n2 c2, a = some ⟨g, o, none⟩ ∧ TV w A l[i] (cellsV k b d s (.slice a1 n1 c1) (.slice a2 n2 c2)) ∧ ∀ w' : World, (∀ g, A g → g < w.heap.size → w'.heap[g]? = w.heap[g]?) →
   w'.cell? ⟨g, o + i * 8, none⟩ = some (.int .i64 k) ∧ w'.cell? ⟨g, o + i * 8 + 1, none⟩ = some (.bool b) ∧ w'.cell? ⟨g, o + i * 8 + 2, none⟩ = some (.bool d.neg) ∧ w'.cell? ⟨g, o + i * 8 + 3, none⟩ = some (.string ⟨d.digits.toArray⟩) ∧
   w'.cell? ⟨g, o + i * 8 + 4, none⟩ = some (.int .i64 d.exp) ∧ w'.cell? ⟨g, o + i * 8 + 5, none⟩ = some (.string ⟨s.toArray⟩) ∧ w'.cell? ⟨g, o + i * 8 + 6, none⟩ = some (.slice a1 n1 c1) ∧ w'.cell? ⟨g, o + i * 8 + 7, none⟩ = some (.slice a2 n2 c2) := by
 obtain ⟨c, h1, h2⟩ := ht.at i hi; obtain ⟨h0, a', c', e, _, _, hrow⟩ := hr; simp only [Value.slice.injEq] at e; obtain ⟨rfl, -, rfl⟩ := e; obtain ⟨g, o, rfl, hA, hg, hc0⟩ := hrow (by omega); obtain ⟨k, b, d, s, a1, n1, c1, a2, n2, c2, rfl⟩ := h1.eight
 have key : ∀ w' : World, (∀ g, A g → g < w.heap.size → w'.heap[g]? = w.heap[g]?) → ∀ j, j < 8 → ∀ u, (cellsV k b d s (.slice a1 n1 c1) (.slice a2 n2 c2))[j]? = some u → w'.cell? ⟨g, o + (i * 8 + j), none⟩ = some u := fun w' hw j hj u hu => by
  rw [World.cell?_of_block (w := w) (a := ⟨g, o + (i * 8 + j), none⟩) (hw g hA hg)]; obtain ⟨hj2, e2⟩ := List.getElem?_eq_some_iff.1 ((h2 j hj).trans hu); rw [← e2]; exact hc0 _ hj2
 refine ⟨g, o, k, b, d, s, a1, n1, c1, a2, n2, c2, rfl, h1, fun w' hw => ?_⟩; simp only [Nat.add_assoc]; exact ⟨key w' hw 0 (by omega) _ rfl, key w' hw 1 (by omega) _ rfl, key w' hw 2 (by omega) _ rfl, key w' hw 3 (by omega) _ rfl, key w' hw 4 (by omega) _ rfl, key w' hw 5 (by omega) _ rfl, key w' hw 6 (by omega) _ rfl, key w' hw 7 (by omega) _ rfl⟩
theorem ownsRow_shape {w : World} {base : Nat} {e : TypeId} {z : Nat} {v : Value} {n : Nat} {cs : List Value} (h : w.ownsRow base e z v n cs) : ∃ a c, v = .slice a n c := by
 rcases h.2 with ⟨rfl, h0⟩ | ⟨g, cap, cur, rfl, _⟩
 · exact ⟨_, _, by rw [h0]⟩
 · exact ⟨_, _, rfl⟩
end Go.Proofs.YtjapbjmeoaagmaaGreatDoor
end

section
set_option maxRecDepth 100000
namespace Orange
def fIdx {α : Type} (p : α → Bool) (l : List α) : Int := match l.findIdx? p with | some i => i | none => -1
theorem fIdx_hit {α : Type} {p : α → Bool} {l : List α} {i : Nat} (hi : i < l.length) (h1 : ∀ j (hj : j < i), p (l[j]'(by omega)) = false) (h2 : p l[i] = true) : fIdx p l = i := by
 unfold fIdx; have : l.findIdx? p = some i := by
  rw [List.findIdx?_eq_some_iff_getElem]; exact ⟨hi, h2, fun j hj => by simpa using h1 j hj⟩
 rw [this]
theorem fIdx_none {α : Type} {p : α → Bool} {l : List α} (h : ∀ j (hj : j < l.length), p l[j] = false) : fIdx p l = -1 := by
 unfold fIdx; have : l.findIdx? p = none := by
  rw [List.findIdx?_eq_none_iff]; intro x hx; obtain ⟨j, hj, rfl⟩ := List.mem_iff_getElem.1 hx; exact h j hj
 rw [this]
theorem fIdx_any {α : Type} (p : α → Bool) (l : List α) : decide (fIdx p l ≥ 0) = l.any p := by
 unfold fIdx; cases h : l.findIdx? p with
 | none =>
   rw [List.findIdx?_eq_none_iff] at h; have : l.any p = false := by rw [List.any_eq_false]; intro x hx; simp [h x hx]
   rw [this]; decide
 | some i =>
   rw [List.findIdx?_eq_some_iff_getElem] at h; obtain ⟨hi, h2, _⟩ := h; have : l.any p = true := List.any_eq_true.2 ⟨_, List.getElem_mem hi, h2⟩; rw [this]; simp
mutual
def weightT : Tree → Nat
 | .mk _ _ d s l m => 1 + s.length + d.digits.length + weightL l + weightM m
def weightL : List Tree → Nat
 | [] => 0
 | t :: l => weightT t + weightL l
def weightM : List (List UInt8 × Tree) → Nat
 | [] => 0
 | (k, t) :: l => k.length + weightT t + weightM l
end
mutual
theorem count_weight : ∀ t : Tree, countT t ≤ weightT t
 | .mk k b d s l m => by rw [countT, weightT]; have := countL_weight l; have := countM_weight m; omega
theorem countL_weight : ∀ l : List Tree, countL l ≤ weightL l
 | [] => by rw [countL, weightL]; omega
 | t :: l => by rw [countL, weightL]; have := count_weight t; have := countL_weight l; omega
theorem countM_weight : ∀ l : List (List UInt8 × Tree), countM l ≤ weightM l
 | [] => by rw [countM, weightM]; omega
 | (_, t) :: l => by rw [countM, weightM]; have := count_weight t; have := countM_weight l; omega
end
theorem weightM_mem {l : List (List UInt8 × Tree)} {i : Nat} (h : i < l.length) : l[i].1.length ≤ weightM l ∧ weightT l[i].2 ≤ weightM l := by
 have : ∀ (l : List (List UInt8 × Tree)) (p : List UInt8 × Tree), p ∈ l → p.1.length ≤ weightM l ∧ weightT p.2 ≤ weightM l := by
  intro l; induction l with
  | nil => intro p hp; cases hp
  | cons a l ih =>
    intro p hp; obtain ⟨k, t⟩ := a; rw [weightM]; rcases List.mem_cons.1 hp with rfl | hp
    · exact ⟨by simp; omega, by simp; omega⟩
    · have := ih p hp; omega
 exact this l _ (List.getElem_mem h)
theorem weightL_mem {l : List Tree} {i : Nat} (h : i < l.length) : weightT l[i] ≤ weightL l := by
 have : ∀ (l : List Tree) (p : Tree), p ∈ l → weightT p ≤ weightL l := by
  intro l; induction l with
  | nil => intro p hp; cases hp
  | cons a l ih =>
    intro p hp; rw [weightL]; rcases List.mem_cons.1 hp with rfl | hp
    · omega
    · have := ih p hp; omega
 exact this l _ (List.getElem_mem h)
theorem weight_ins {t : Tree} {i : Nat} (h : i < t.ins.length) : weightT t.ins[i] ≤ weightT t := by
 cases t with
 | mk k b d s l m =>
   have hm : (Tree.mk k b d s l m).ins[i] ∈ l ++ m.map (·.2) := List.getElem_mem h; generalize (Tree.mk k b d s l m).ins[i] = x at hm; rw [weightT]; rcases List.mem_append.1 hm with hm | hm
   · obtain ⟨j, hj, rfl⟩ := List.mem_iff_getElem.1 hm; have := weightL_mem hj; omega
   · obtain ⟨p, hp, rfl⟩ := List.mem_map.1 hm; obtain ⟨j, hj, rfl⟩ := List.mem_iff_getElem.1 hp; have := weightM_mem hj; omega
theorem countM_len (l : List (List UInt8 × Tree)) : l.length ≤ countM l := by
 rw [countM_map]; have := countL_len (l.map (·.2)); simpa using this
end Orange
namespace Go.Proofs.YtjapbjmeoaagmaaGreatDoor
open Go.RowKit Go.Mem Orange
theorem mem_elem {w : World} {A : Nat → Prop} {a : Option Addr} {n m cap : Nat} {l : List (List UInt8 × Tree)} {cs : List Value} (hr : RowAt w A 9 (.slice a m cap) n cs) (ht : TM w A l cs) (hl : n = l.length) (i : Nat) (hi : i < l.length) :
 ∃ g o k b d s a1 n1 c1 a2 n2 c2, a = some ⟨g, o, none⟩ ∧ TV w A l[i].2 (cellsV k b d s (.slice a1 n1 c1) (.slice a2 n2 c2)) ∧ ∀ w' : World, (∀ g, A g → g < w.heap.size → w'.heap[g]? = w.heap[g]?) →
   w'.cell? ⟨g, o + i * 9, none⟩ = some (.string ⟨l[i].1.toArray⟩) ∧ w'.cell? ⟨g, o + i * 9 + 1, none⟩ = some (.int .i64 k) ∧ w'.cell? ⟨g, o + i * 9 + 2, none⟩ = some (.bool b) ∧ w'.cell? ⟨g, o + i * 9 + 3, none⟩ = some (.bool d.neg) ∧ w'.cell? ⟨g, o + i * 9 + 4, none⟩ = some (.string ⟨d.digits.toArray⟩) ∧
   w'.cell? ⟨g, o + i * 9 + 5, none⟩ = some (.int .i64 d.exp) ∧ w'.cell? ⟨g, o + i * 9 + 6, none⟩ = some (.string ⟨s.toArray⟩) ∧ w'.cell? ⟨g, o + i * 9 + 7, none⟩ = some (.slice a1 n1 c1) ∧ w'.cell? ⟨g, o + i * 9 + 8, none⟩ = some (.slice a2 n2 c2) := by
 obtain ⟨c, h1, hk, h2⟩ := ht.at i hi; obtain ⟨h0, a', c', e, _, _, hrow⟩ := hr; simp only [Value.slice.injEq] at e; obtain ⟨rfl, -, rfl⟩ := e; obtain ⟨g, o, rfl, hA, hg, hc0⟩ := hrow (by omega); have hc : ∀ j u, cs[j]? = some u → w.cell? ⟨g, o + j, none⟩ = some u := fun j u hu => by
  obtain ⟨hj, rfl⟩ := List.getElem?_eq_some_iff.1 hu; exact hc0 j hj
 obtain ⟨k, b, d, s, a1, n1, c1, a2, n2, c2, rfl⟩ := h1.eight; have key : ∀ w' : World, (∀ g, A g → g < w.heap.size → w'.heap[g]? = w.heap[g]?) → ∀ j, j < 8 → ∀ u, (cellsV k b d s (.slice a1 n1 c1) (.slice a2 n2 c2))[j]? = some u → w'.cell? ⟨g, o + (i * 9 + (1 + j)), none⟩ = some u := fun w' hw j hj u hu => by
  rw [World.cell?_of_block (w := w) (a := ⟨g, o + (i * 9 + (1 + j)), none⟩) (hw g hA hg), show i * 9 + (1 + j) = i * 9 + 1 + j by omega]; exact hc _ _ ((h2 j hj).trans hu)
 refine ⟨g, o, k, b, d, s, a1, n1, c1, a2, n2, c2, rfl, h1, fun w' hw => ?_⟩; simp only [Nat.add_assoc]
 exact ⟨by rw [World.cell?_of_block (w := w) (a := ⟨g, o + i * 9, none⟩) (hw g hA hg)]; exact hc _ _ hk, key w' hw 0 (by omega) _ rfl, key w' hw 1 (by omega) _ rfl, key w' hw 2 (by omega) _ rfl, key w' hw 3 (by omega) _ rfl, key w' hw 4 (by omega) _ rfl, key w' hw 5 (by omega) _ rfl, key w' hw 6 (by omega) _ rfl, key w' hw 7 (by omega) _ rfl⟩
set_option maxHeartbeats 1600000 in
theorem keybad_any (k : List UInt8) (x1 x2 x3 x4 x5 x6 x7 x8 : Value) (w : World) (hk : k.length ≤ 1000000) :
 Calls Tryz.prog 103 #[.agg #[.string ⟨k.toArray⟩, x1, x2, x3, x4, x5, x6, x7, x8]] w (fun e w' => e = .returned (.bool (decide (0 ≤ check k))) ∧ Ext w w') := by
 have hm := MAt.new w #[.string ⟨k.toArray⟩, x1, x2, x3, x4, x5, x6, x7, x8]; have hx : Ext w (w.alloc (.cells #[.string ⟨k.toArray⟩, x1, x2, x3, x4, x5, x6, x7, x8] 43)) := (ext_refl w).alloc (Nat.le_refl _) _; obtain ⟨K, hK⟩ := Ex (check k); rw [hK]; have HK := Hd hK; clear hK; go_enter Tryz.func103, Tryz.ntmps103
 go_upto_region 1 with fail; generalize w.alloc (.cells #[.string ⟨k.toArray⟩, x1, x2, x3, x4, x5, x6, x7, x8] 43) = w1 at *; have x0 := hm.cell 0; simp at x0; have hs : (ByteArray.mk k.toArray).size ≤ 140737488355328 := by show k.toArray.size ≤ _; simp; omega
 have hsz : (ByteArray.mk k.toArray).size = k.length := by show k.toArray.size = _; simp
 obtain ⟨S, hS⟩ := Ex w.heap.size; rw [hS] at x0 ⊢; clear hm hS; have HSZ := Hd hsz; clear hsz; go_wp2_with (first
  | (refine wpList_bytes_of_string w1 rfl 9 56 5 _ rfl ⟨k.toArray⟩ rfl Tryz.underlying9 Tryz.underlying56 Tryz.underlying5 hs ?_; intro capA wA hEA hcapA hcmA hszA hatA; rw [HSZ.out] at hcapA)
  | fail)
 refine (check_any _ k _ (Bytes.mk hatA (by first | rfl | exact HSZ.out) (by simpa using hcapA) hcmA (by omega))).mono ?_; rintro e w3 ⟨rfl, hw3⟩; rw [HK.out]; have HE := Hd (ext_trans hx (ext_trans hEA hw3)); clear hx hEA hw3 hatA x0; go_wp2_with fail; go_ret; exact ⟨ret_bool (by first | rfl | (congr 1; done) | simp), HE.out⟩
def badKey (p : List UInt8 × Tree) : Bool := decide (0 ≤ check p.1)
set_option maxHeartbeats 1600000 in
theorem index_bad (v : Value) (m : List (List UInt8 × Tree)) (cs : List Value) (A : Nat → Prop) (w : World) (hr : RowAt w A 9 v m.length cs) (ht : TM w A m cs) (hm : m.length ≤ 1000000) (hk : ∀ p ∈ m, p.1.length ≤ 1000000) :
 Calls Tryz.prog 82 #[v, .func (.func 103) #[] #[]] w (fun e w' => e = .returned (.int .i64 (fIdx badKey m)) ∧ Ext w w') := by
 obtain ⟨_, a, cap, rfl, hcap, hcm, -⟩ := id hr; have HR := Hd hr; have HT := Hd ht; have HK := Hd hk; clear hr ht hk; obtain ⟨R, hR⟩ := Ex (fIdx badKey m); rw [hR]; have HRR := Hd hR; clear hR; go_enter Tryz.func82, Tryz.ntmps82
 go_wp2_with fail; go_loopw [8] (fun iv wr => ∃ i : Nat, iv = .int .i64 i ∧ i ≤ m.length ∧ (∀ j (hj : j < m.length), j < i → badKey m[j] = false) ∧ Ext w wr) (fun iv _ => 2000000 - (intOf iv).toNat)
 case atStart => exact ⟨0, rfl, by omega, fun j _ h => by omega, ext_refl _⟩
 case round =>
  obtain ⟨i, rfl, hi, hall, hE⟩ := hrel; have HA := Hd hall; have HX := Hd hE; clear hall hE; by_cases hlt : i < m.length
  · have hlti : (i : Int) < m.length := by omega
    have hi0 : (0 : Int) ≤ i := by omega
    obtain ⟨g, o, xk, xb, xd, xs, xa1, xn1, xc1, xa2, xn2, xc2, rfl, htx, hcell⟩ := mem_elem HR.out HT.out rfl i hlt; obtain ⟨x0, x1, x2, x3, x4, x5, x6, x7, x8⟩ := hcell wr (fun g _ hg => HX.out.block g hg); have HKI := Hd (HK.out m[i] (List.getElem_mem hlt)); have HHIT : Hid (badKey m[i] = true → R = i) := Hd (fun h => by rw [← HRR.out]; exact fIdx_hit hlt (fun j hj => HA.out j (by omega) hj) h)
    have HMISS : Hid (badKey m[i] = false → ∀ j (hj : j < m.length), j < i + 1 → badKey m[j] = false) := Hd (fun h j hj hji => by
     by_cases e : j = i
     · subst e; exact h
     · exact HA.out j hj (by omega))
    obtain ⟨B, hB⟩ := Ex (badKey m[i]); rw [hB] at HHIT HMISS; have HB := Hd hB; obtain ⟨ky, hky⟩ := Ex (m[i].1); rw [hky] at x0 HKI; have HKY := Hd hky; clear htx hcell hB hky; have e9 : IntKind.i64.wrap ((i : Int) + 1) = ((i + 1 : Nat) : Int) := by rw [IntWalk.i64_in _ (by omega)]; omega
    go_wp2_with fail; refine (keybad_any ky _ _ _ _ _ _ _ _ wr HKI.out).mono ?_; rintro e w4 ⟨rfl, hw4⟩; rw [show decide (0 ≤ check ky) = B from by rw [← HB.out, ← HKY.out]; rfl]; have HE4 := Hd (ext_trans HX.out hw4); clear hw4 x0 x1 x2 x3 x4 x5 x6 x7 x8; cases B with
    | true =>
      go_wp2_with fail; go_ret; exact ⟨ret_int (HHIT.out (by first | rfl | trivial)).symm, HE4.out⟩
    | false =>
      go_wp2_with fail; go_roundw
      case rel => exact ⟨i + 1, by go_num, by omega, HMISS.out (by first | rfl | trivial), HE4.out⟩
      case measure => simp [intOf]; omega
  · obtain rfl : i = m.length := by omega
    have hnlt : ¬ ((m.length : Int) < (m.length : Int)) := by omega
    have HF : Hid (R = -1) := Hd (by rw [← HRR.out]; exact fIdx_none (fun j hj => HA.out j hj hj)); go_wp2_with fail; go_ret; exact ⟨ret_int HF.out.symm, HX.out⟩
set_option maxHeartbeats 1600000 in
theorem contains_bad (v : Value) (m : List (List UInt8 × Tree)) (cs : List Value) (A : Nat → Prop) (w : World) (hr : RowAt w A 9 v m.length cs) (ht : TM w A m cs) (hm : m.length ≤ 1000000) (hk : ∀ p ∈ m, p.1.length ≤ 1000000) :
 Calls Tryz.prog 102 #[v, .func (.func 103) #[] #[]] w (fun e w' => e = .returned (.bool (m.any badKey)) ∧ Ext w w') := by
 have hany := fIdx_any badKey m; have HC := Hd (index_bad v m cs A w hr ht hm hk); obtain ⟨_, a, cap, rfl, hcap, hcm, -⟩ := id hr; obtain ⟨R, hR⟩ := Ex (fIdx badKey m); obtain ⟨B, hB⟩ := Ex (m.any badKey); have hc := HC.out; rw [hR] at hany hc; rw [hB] at hany ⊢; replace HC := Hd hc; have HANY := Hd hany; clear hr ht hk hc hR hB hany; go_enter Tryz.func102, Tryz.ntmps102
 go_wp2_with fail; refine (HC.out).mono ?_; rintro e w2 ⟨rfl, hw2⟩; go_wp2_with fail; go_ret; exact ⟨ret_bool (by rw [← HANY.out]), hw2⟩
def twiceP : List (List UInt8) → List (List UInt8) → Bool
 | _, [] => false
 | met, k :: l => met.contains k || twiceP (k :: met) l
set_option maxHeartbeats 6400000 in
theorem twice_any (v : Value) (m : List (List UInt8 × Tree)) (cs : List Value) (A : Nat → Prop) (w : World) (hr : RowAt w A 9 v m.length cs) (ht : TM w A m cs) (hm : m.length ≤ 1000000) (hk : ∀ p ∈ m, p.1.length ≤ 1000000) :
 Calls Tryz.prog 81 #[v] w (fun e w' => e = .returned (.bool (twiceP [] (m.map (·.1)))) ∧ Ext w w') := by
 obtain ⟨_, a, cap, rfl, hcap, hcm, -⟩ := id hr; have hmm := @run_makeMap Tryz.prog; have hx : Ext w (w.alloc (.map #[] 0)) := (ext_refl w).alloc (Nat.le_refl _) _; obtain ⟨S, hS⟩ := Ex w.heap.size; have HS := Hd hS; have HR := Hd (hr.keep (w' := w.alloc (.map #[] 0)) (A' := fun g => g < S) hx.size (fun g _ hlt => ⟨by omega, hx.block g hlt⟩))
 have HT := Hd (ht.keep (w' := w.alloc (.map #[] 0)) (A' := fun g => g < S) hx.size (fun g _ hlt => ⟨by omega, hx.block g hlt⟩)); have HK := Hd hk; clear hr ht hk hS; obtain ⟨R, hR⟩ := Ex (twiceP [] (m.map (·.1))); rw [hR]; have HRR := Hd hR; clear hR; have hs0 := SetAt.new w; rw [HS.out] at hs0; go_enter Tryz.func81, Tryz.ntmps81
 go_upto_region 2 with fail; rw [HS.out]; generalize w.alloc (.map #[] 0) = w1 at *; have HSA := Hd hs0; have HE := Hd hx; clear hs0 hx hmm; go_wp2_with fail; go_loopw [9] (fun iv wr => ∃ (i : Nat) (ks : List (List UInt8)), iv = .int .i64 i ∧ i ≤ m.length ∧ ks.length ≤ i ∧ SetAt wr S ks ∧ twiceP ks ((m.drop i).map (·.1)) = R ∧ Below S w1 wr) (fun iv _ => 2000000 - (intOf iv).toNat)
 case atStart => exact ⟨0, [], rfl, by omega, by simp, HSA.out, by rw [List.drop_zero]; exact HRR.out, Below.refl _ _⟩
 case round =>
  obtain ⟨i, ks, rfl, hi, hkl, hset, htw, hE⟩ := hrel; have HX := Hd hE; have HSE := Hd hset; have HTW := Hd htw; clear hE hset htw; by_cases hlt : i < m.length
  · have hlti : (i : Int) < m.length := by omega
    have hi0 : (0 : Int) ≤ i := by omega
    obtain ⟨g, o, xk, xb, xd, xs, xa1, xn1, xc1, xa2, xn2, xc2, rfl, htx, hcell⟩ := mem_elem HR.out HT.out rfl i hlt; obtain ⟨x0, x1, x2, x3, x4, x5, x6, x7, x8⟩ := hcell wr (fun g hg _ => HX.out.block g hg); have hki := HK.out m[i] (List.getElem_mem hlt); have htw := HTW.out; rw [List.drop_eq_getElem_cons hlt, List.map_cons, twiceP] at htw; obtain ⟨ky, hky⟩ := Ex (m[i].1); rw [hky] at x0 hki htw
    replace HTW := Hd htw; clear htx hcell hky htw; have hm9 := MAt.new wr #[.string ⟨ky.toArray⟩, .int .i64 xk, .bool xb, .bool xd.neg, .string ⟨xd.digits.toArray⟩, .int .i64 xd.exp, .string ⟨xs.toArray⟩, .slice xa1 xn1 xc1, .slice xa2 xn2 xc2]
    have hx3 : Ext wr (wr.alloc (.cells #[.string ⟨ky.toArray⟩, .int .i64 xk, .bool xb, .bool xd.neg, .string ⟨xd.digits.toArray⟩, .int .i64 xd.exp, .string ⟨xs.toArray⟩, .slice xa1 xn1 xc1, .slice xa2 xn2 xc2] 43)) := (ext_refl wr).alloc (Nat.le_refl _) _; obtain ⟨P, hP⟩ := Ex wr.heap.size; have hSP : S < P := by rw [← hP]; exact HSE.out.lt
    rw [hP] at hm9; go_upto_region 5 with fail; clear x0 x1 x2 x3 x4 x5 x6 x7 x8 hP; generalize wr.alloc (.cells #[.string ⟨ky.toArray⟩, .int .i64 xk, .bool xb, .bool xd.neg, .string ⟨xd.digits.toArray⟩, .int .i64 xd.exp, .string ⟨xs.toArray⟩, .slice xa1 xn1 xc1, .slice xa2 xn2 xc2] 43) = w3 at *; have hs3 := HSE.out.same (w' := w3) (hx3.block _ HSE.out.lt); have x0 := hm9.cell 0; simp at x0
    have hkm : ky.length ≤ maxLen := by simp only [maxLen]; omega
    have hlk := hs3.look ky hkm; have hb3 : Below S w1 w3 := HX.out.trans (hx3.mono (by have := HSE.out.lt; omega)); by_cases hc : ks.contains ky = true
    · rw [hc] at hlk; have HF : Hid (R = true) := Hd (by rw [← HTW.out, hc]; rfl); have HB3 := Hd hb3; clear hb3 hx3 hm9 hs3; go_wp2_with fail; go_ret; exact ⟨ret_bool HF.out.symm, HE.out.trans (HB3.out.mono (by rw [HS.out]; exact Nat.le_refl _))⟩
    · have hcf : ks.contains ky = false := by simpa using hc
      rw [hcf] at hlk; obtain ⟨w4, hup, hs4, hg4⟩ := hs3.put ky hkm (by simp only [maxLen]; omega); have HF : Hid (twiceP (ky :: ks) ((m.drop (i + 1)).map (·.1)) = R) := Hd (by rw [← HTW.out, hcf, Bool.false_or]); have hb4 : Below S w3 w4 := ⟨hg4.1, hg4.2, hg4.3, hg4.4, fun k hk => hg4.5 k (Nat.lt_of_lt_of_le hk (by have := hs3.lt; omega)) (by simp; omega)⟩
      have HB4 := Hd (hb3.trans hb4); have HS4 := Hd hs4; have e9 : IntKind.i64.wrap ((i : Int) + 1) = ((i + 1 : Nat) : Int) := by rw [IntWalk.i64_in _ (by omega)]; omega
      clear hc hb4 hb3 hx3 hm9 hs3 hs4 hg4; go_wp2_with fail; go_roundw
      case rel => exact ⟨i + 1, ky :: ks, by go_num, by omega, by simp; omega, HS4.out, HF.out, HB4.out⟩
      case measure => simp [intOf]; omega
  · obtain rfl : i = m.length := by omega
    have hnlt : ¬ ((m.length : Int) < (m.length : Int)) := by omega
    have HF : Hid (R = false) := Hd (by rw [← HTW.out, List.drop_length]; rfl); go_wp2_with fail; go_ret; exact ⟨ret_bool HF.out.symm, HE.out.trans (HX.out.mono (by rw [HS.out]; exact Nat.le_refl _))⟩
def fieldsT (t : Tree) : Bool :=
 match t with
 | .mk k b d s l m =>
   (if k = 0 then true else if k = 1 then true else if k = 2 then sane d else if k = 3 then decide (check s < 0) else if k = 4 then true else if k = 5 then !(m.any badKey) else false) &&
   (decide (k = 1) || !b) && (decide (k = 2) || decide (d = Num.zero)) && (decide (k = 3) || s.isEmpty) && ((decide (k = 4) || l.isEmpty) && (decide (k = 5) || m.isEmpty))
theorem eql_num (a b : Num) (w : World) : (binOp .eql 23 (.agg #[.bool a.neg, .string ⟨a.digits.toArray⟩, .int .i64 a.exp]) (.agg #[.bool b.neg, .string ⟨b.digits.toArray⟩, .int .i64 b.exp])).run Tryz.prog w = .ok (.bool (decide (a = b))) w := by
 obtain ⟨a3, a4, a5⟩ := a; obtain ⟨b3, b4, b5⟩ := b; simp only [Num.mk.injEq]; by_cases h3 : a3 = b3
 · by_cases h4 : a4 = b4
   · by_cases h5 : a5 = b5
     · subst h3; subst h4; subst h5; go_simp
     · have q5 : (a5 == b5) = false := by simpa using h5
       subst h3; subst h4; go_simp
   · have q4 : (a4 == b4) = false := by simpa using h4
     subst h3; go_simp
 · have q3 : (a3 == b3) = false := by simpa using h3
   go_simp
theorem VAt.set1 {w : World} {q : Nat} {c : Array Value} (h : VAt w q c) (i : Nat) (u : Value) : VAt (w.setCell ⟨q, i, none⟩ u) q (c.setIfInBounds i u) := setCell_heap_self h
theorem VAt.oth {w : World} {q p i : Nat} {u : Value} {c : Array Value} (h : VAt w q c) (hq : q ≠ p) : VAt (w.setCell ⟨p, i, none⟩ u) q c := by
 unfold VAt; rw [Below.heap_setCell _ _ _ _ hq]; exact h
set_option maxHeartbeats 6400000 in
theorem fields_any (t : Tree) (c : Array Value) (A : Nat → Prop) (w : World) (h : TV w A t c) (hw : weightT t ≤ 1000000) :
 Calls Tryz.prog 80 #[.agg c] w (fun e w' => e = .returned (.bool (fieldsT t)) ∧ Ext w w') := by
 obtain ⟨k, b, d, s, la, ln, lc, ma, mn, mc, rfl⟩ := h.eight; obtain ⟨cl, cm, -, hrl, htm, hrm, hk, hb, hd1, hd2, hd3, hs⟩ := tv_rows h; obtain ⟨tk, tb, tn, ts, L, M⟩ := t; obtain ⟨tn1, tn2, tn3⟩ := tn; obtain ⟨dn1, dn2, dn3⟩ := d; simp only [Tree.kind, Tree.bit, Tree.num, Tree.str, Tree.list, Tree.mems] at hk hb hd1 hd2 hd3 hs hrl htm hrm; subst hk hb hd1 hd2 hd3 hs
 obtain ⟨_, a1, c1, ea, -⟩ := id hrl; simp only [Value.slice.injEq] at ea; obtain ⟨rfl, rfl, rfl⟩ := ea; obtain ⟨_, a2, c2, ea, -⟩ := id hrm; simp only [Value.slice.injEq] at ea; obtain ⟨rfl, rfl, rfl⟩ := ea; rw [weightT] at hw; have hcm := countM_len M; have hcw := countM_weight M; have hlw := countL_weight L; have hll := countL_len L; have hMl : M.length ≤ 1000000 := by omega
 have hLl : L.length ≤ 1000000 := by omega
 have hsl : s.length ≤ 1000000 := by omega
 have hdl : dn2.length ≤ 1000000 := by simp at hw; omega
 have HKS : Hid (∀ p ∈ M, p.1.length ≤ 1000000) := Hd (fun p hp => by obtain ⟨j, hj, rfl⟩ := List.mem_iff_getElem.1 hp; have := weightM_mem hj; omega); clear hw hcm hcw hlw hll h; obtain ⟨R, hR⟩ := Ex (fieldsT (.mk k b ⟨dn1, dn2, dn3⟩ s L M)); rw [hR]; rw [fieldsT] at hR; have HRR := Hd hR; clear hR; have hq := fun (w : World) => eql_num ⟨dn1, dn2, dn3⟩ Num.zero w
 obtain ⟨Z, hZ⟩ : ∃ Z, decide ((⟨dn1, dn2, dn3⟩ : Num) = Num.zero) = Z := ⟨_, rfl⟩
 have hrr := HRR.out; rw [hZ] at hrr; simp only [hZ] at hq; replace HRR := Hd hrr; clear hrr hZ; simp only [Num.zero] at hq; have hv := VAt.new w (cellsV k b ⟨dn1, dn2, dn3⟩ s (.slice la L.length lc) (.slice ma M.length mc)); have hx : Ext w (w.alloc (.cells (cellsV k b ⟨dn1, dn2, dn3⟩ s (.slice la L.length lc) (.slice ma M.length mc)) 27)) := (ext_refl w).alloc (Nat.le_refl _) _
 simp only [cellsV] at hv hx ⊢; go_enter Tryz.func80, Tryz.ntmps80
 go_upto_region 1 with fail; obtain ⟨S, hS⟩ := Ex w.heap.size; rw [hS] at hv ⊢; have hsz : (w.alloc (.cells #[.int .i64 k, .bool b, .bool dn1, .string ⟨dn2.toArray⟩, .int .i64 dn3, .string ⟨s.toArray⟩, .slice la L.length lc, .slice ma M.length mc] 27)).heap.size = S + 1 := by rw [← hS]; simp
 generalize w.alloc (.cells #[.int .i64 k, .bool b, .bool dn1, .string ⟨dn2.toArray⟩, .int .i64 dn3, .string ⟨s.toArray⟩, .slice la L.length lc, .slice ma M.length mc] 27) = w1 at *; obtain ⟨c0, c1, c2, c3, c4, c5, c6, c7⟩ := hv.c8; have hv2 := VAt.new w1 #[.int .i64 k, .bool b, .bool dn1, .string ⟨dn2.toArray⟩, .int .i64 dn3, .string ⟨s.toArray⟩, .slice la L.length lc, .slice ma M.length mc]
 have hx2 : Ext w1 (w1.alloc (.cells #[.int .i64 k, .bool b, .bool dn1, .string ⟨dn2.toArray⟩, .int .i64 dn3, .string ⟨s.toArray⟩, .slice la L.length lc, .slice ma M.length mc] 27)) := (ext_refl w1).alloc (Nat.le_refl _) _; rw [hsz] at hv2; have hv1 := hv.ext hx2; go_upto_region 2 with fail
 generalize w1.alloc (.cells #[.int .i64 k, .bool b, .bool dn1, .string ⟨dn2.toArray⟩, .int .i64 dn3, .string ⟨s.toArray⟩, .slice la L.length lc, .slice ma M.length mc] 27) = w2 at *; have HE := Hd (ext_trans hx hx2); have HTM := Hd (htm.keep (w' := w2) (A' := fun g => g < S) HE.out.size (fun g _ hlt => ⟨by omega, HE.out.block g hlt⟩))
 have HRM := Hd (hrm.keep (w' := w2) (A' := fun g => g < S) HE.out.size (fun g _ hlt => ⟨by omega, HE.out.block g hlt⟩)); have HV1 := Hd hv1; have HV2 := Hd hv2; have HS := Hd hS; clear hv hv1 hv2 hx hx2 hrl htm hrm hsz hS c0 c1 c2 c3 c4 c5 c6 c7; have e6 : IntKind.i64.wrap ((L.length : Int) + (M.length : Int)) = ((L.length + M.length : Nat) : Int) := by rw [IntWalk.i64_in _ (by omega)]; omega
 have hem : (((L.length : Int) + (M.length : Int)) == 0) = (L.isEmpty && M.isEmpty) := by cases L <;> cases M <;> simp <;> omega
 by_cases h0 : k = 0
 · subst h0; have HR0 : Hid (R = (!b && Z && s.isEmpty && (L.isEmpty && M.isEmpty))) := Hd (by rw [← HRR.out]; simp); have c0 := HV1.out.cell 0; simp at c0; have c1 := HV2.out.cell 1; have c2 := HV2.out.cell 2; have c3 := HV2.out.cell 3; have c4 := HV2.out.cell 4; have c5 := HV2.out.cell 5; have c6 := HV2.out.cell 6; have c7 := HV2.out.cell 7; simp at c1 c2 c3 c4 c5 c6 c7; cases b with
   | true =>
     have HF : Hid (R = false) := Hd (by rw [HR0.out]; simp); go_wp2_with fail; go_ret; exact ⟨ret_bool HF.out.symm, HE.out⟩
   | false =>
     cases Z with
     | false =>
       have HF : Hid (R = false) := Hd (by rw [HR0.out]; simp); go_wp2_with fail; go_ret; exact ⟨ret_bool HF.out.symm, HE.out⟩
     | true =>
       cases s with
       | cons x s =>
         have HF : Hid (R = false) := Hd (by rw [HR0.out]; simp); go_wp2_with fail; go_ret; exact ⟨ret_bool HF.out.symm, HE.out⟩
       | nil =>
         go_wp2_with fail; go_ret; exact ⟨ret_bool (by rw [HR0.out]; simp), HE.out⟩
 by_cases h1 : k = 1
 · subst h1; have HR0 : Hid (R = (Z && s.isEmpty && (L.isEmpty && M.isEmpty))) := Hd (by rw [← HRR.out]; simp); have c0 := HV1.out.cell 0; simp at c0; have f1 := HV2.out.free 1; have c1 := HV2.out.cell 1; simp at c1; go_upto_region 19 with fail; replace HE := Hd (HE.out.setCell (p := ⟨S + 1, 1, none⟩) (show w.heap.size ≤ S + 1 by rw [HS.out]; omega) (.bool false))
   have hv2 := HV2.out.set1 1 (.bool false); clear c0 c1 f1 HV1 HTM HRM HV2; generalize w2.setCell ⟨S + 1, 1, none⟩ (.bool false) = w3 at *; have HV2 : Hid (VAt w3 (S + 1) #[.int .i64 1, .bool false, .bool dn1, .string ⟨dn2.toArray⟩, .int .i64 dn3, .string ⟨s.toArray⟩, .slice la L.length lc, .slice ma M.length mc]) := Hd hv2; clear hv2
   have c1 := HV2.out.cell 1; have c2 := HV2.out.cell 2; have c3 := HV2.out.cell 3; have c4 := HV2.out.cell 4; have c5 := HV2.out.cell 5; have c6 := HV2.out.cell 6; have c7 := HV2.out.cell 7; simp at c1 c2 c3 c4 c5 c6 c7; cases Z with
   | false =>
     have HF : Hid (R = false) := Hd (by rw [HR0.out]; simp); go_wp2_with fail; go_ret; exact ⟨ret_bool HF.out.symm, HE.out⟩
   | true =>
     cases s with
     | cons x s =>
       have HF : Hid (R = false) := Hd (by rw [HR0.out]; simp); go_wp2_with fail; go_ret; exact ⟨ret_bool HF.out.symm, HE.out⟩
     | nil =>
       go_wp2_with fail; go_ret; exact ⟨ret_bool (by rw [HR0.out]; simp), HE.out⟩
 by_cases h2 : k = 2
 · subst h2; have HR0 : Hid (R = (sane ⟨dn1, dn2, dn3⟩ && !b && s.isEmpty && (L.isEmpty && M.isEmpty))) := Hd (by rw [← HRR.out]; simp); have c0 := HV1.out.cell 0; simp at c0; have f2 := HV2.out.free 2; have f3 := HV2.out.free 3; have f4 := HV2.out.free 4; have c2 := HV2.out.cell 2; have c3 := HV2.out.cell 3; have c4 := HV2.out.cell 4; simp at c2 c3 c4; go_upto_region 10 with fail
   replace HE := Hd (((HE.out.setCell (p := ⟨S + 1, 2, none⟩) (show w.heap.size ≤ S + 1 by rw [HS.out]; omega) (.bool false)).setCell (p := ⟨S + 1, 3, none⟩) (show w.heap.size ≤ S + 1 by rw [HS.out]; omega) (.string ⟨#[]⟩)).setCell (p := ⟨S + 1, 4, none⟩) (show w.heap.size ≤ S + 1 by rw [HS.out]; omega) (.int .i64 0))
   have hv2 := ((HV2.out.set1 2 (.bool false)).set1 3 (.string ⟨#[]⟩)).set1 4 (.int .i64 0); have hv1 := ((HV1.out.oth (p := S + 1) (i := 2) (u := .bool false) (by omega)).oth (p := S + 1) (i := 3) (u := .string ⟨#[]⟩) (by omega)).oth (p := S + 1) (i := 4) (u := .int .i64 0) (by omega); clear c0 c2 c3 c4 f2 f3 f4 HV1 HTM HRM HV2
   generalize ((w2.setCell ⟨S + 1, 2, none⟩ (.bool false)).setCell ⟨S + 1, 3, none⟩ (.string ⟨#[]⟩)).setCell ⟨S + 1, 4, none⟩ (.int .i64 0) = w3 at *; have HV2 : Hid (VAt w3 (S + 1) #[.int .i64 2, .bool b, .bool false, .string ⟨#[]⟩, .int .i64 0, .string ⟨s.toArray⟩, .slice la L.length lc, .slice ma M.length mc]) := Hd hv2; have d2 := hv1.cell 2; have d3 := hv1.cell 3; have d4 := hv1.cell 4
   simp at d2 d3 d4; clear hv1 hv2; go_wp2_with fail; refine (sane_any ⟨dn1, dn2, dn3⟩ w3 (by simp; omega)).mono ?_; rintro e w4 ⟨rfl, hw4⟩; obtain ⟨B, hB⟩ := Ex (sane ⟨dn1, dn2, dn3⟩); have hr0 := HR0.out; rw [hB] at hr0 ⊢; replace HR0 := Hd hr0; replace HV2 := Hd (HV2.out.ext hw4); replace HE := Hd (ext_trans HE.out hw4); clear hr0 hB d2 d3 d4 hw4; cases B with
   | false =>
     have HF : Hid (R = false) := Hd (by rw [HR0.out]; simp); go_wp2_with fail; go_ret; exact ⟨ret_bool HF.out.symm, HE.out⟩
   | true =>
     have c1 := HV2.out.cell 1; have c2 := HV2.out.cell 2; have c3 := HV2.out.cell 3; have c4 := HV2.out.cell 4; have c5 := HV2.out.cell 5; have c6 := HV2.out.cell 6; have c7 := HV2.out.cell 7; simp at c1 c2 c3 c4 c5 c6 c7; cases b with
     | true =>
       have HF : Hid (R = false) := Hd (by rw [HR0.out]; simp); go_wp2_with fail; go_ret; exact ⟨ret_bool HF.out.symm, HE.out⟩
     | false =>
       cases s with
       | cons x s =>
         have HF : Hid (R = false) := Hd (by rw [HR0.out]; simp); go_wp2_with fail; go_ret; exact ⟨ret_bool HF.out.symm, HE.out⟩
       | nil =>
         go_wp2_with fail; go_ret; exact ⟨ret_bool (by rw [HR0.out]; simp), HE.out⟩
 by_cases h3 : k = 3
 · subst h3; have HR0 : Hid (R = (decide (check s < 0) && !b && Z && (L.isEmpty && M.isEmpty))) := Hd (by rw [← HRR.out]; simp); have c0 := HV1.out.cell 0; simp at c0; have f5 := HV2.out.free 5; have c5 := HV2.out.cell 5; simp at c5; go_upto_region 13 with fail; replace HE := Hd (HE.out.setCell (p := ⟨S + 1, 5, none⟩) (show w.heap.size ≤ S + 1 by rw [HS.out]; omega) (.string ⟨#[]⟩))
   have hv2 := HV2.out.set1 5 (.string ⟨#[]⟩); have hv1 := HV1.out.oth (p := S + 1) (i := 5) (u := .string ⟨#[]⟩) (by omega); clear c0 c5 f5 HV1 HTM HRM HV2; generalize w2.setCell ⟨S + 1, 5, none⟩ (.string ⟨#[]⟩) = w3 at *; have HV2 : Hid (VAt w3 (S + 1) #[.int .i64 3, .bool b, .bool dn1, .string ⟨dn2.toArray⟩, .int .i64 dn3, .string ⟨#[]⟩, .slice la L.length lc, .slice ma M.length mc]) := Hd hv2
   have d5 := hv1.cell 5; simp at d5; clear hv1 hv2; have hss : (ByteArray.mk s.toArray).size ≤ 140737488355328 := by show s.toArray.size ≤ _; simp; omega
   have hsz : (ByteArray.mk s.toArray).size = s.length := by show s.toArray.size = _; simp
   have HSZ := Hd hsz; clear hsz; go_wp2_with (first
    | (refine wpList_bytes_of_string w3 rfl 9 56 5 _ rfl ⟨s.toArray⟩ rfl Tryz.underlying9 Tryz.underlying56 Tryz.underlying5 hss ?_; intro capA wA hEA hcapA hcmA hszA hatA; rw [HSZ.out] at hcapA)
    | fail)
   refine (check_any _ s _ (Bytes.mk hatA (by first | rfl | exact HSZ.out) (by simpa using hcapA) hcmA (by omega))).mono ?_; rintro e w4 ⟨rfl, hw4⟩; obtain ⟨C, hC⟩ := Ex (check s); have hr0 := HR0.out; rw [hC] at hr0 ⊢; replace HR0 := Hd hr0; replace HV2 := Hd (HV2.out.ext (ext_trans hEA hw4)); replace HE := Hd (ext_trans HE.out (ext_trans hEA hw4)); clear hr0 hC d5 hw4 hEA hatA; by_cases hc0 : C < 0
   · have hdc : decide (C < 0) = true := by simpa using hc0
     have c1 := HV2.out.cell 1; have c2 := HV2.out.cell 2; have c3 := HV2.out.cell 3; have c4 := HV2.out.cell 4; have c5 := HV2.out.cell 5; have c6 := HV2.out.cell 6; have c7 := HV2.out.cell 7; simp at c1 c2 c3 c4 c5 c6 c7; cases b with
     | true =>
       have HF : Hid (R = false) := Hd (by rw [HR0.out]; simp); go_wp2_with fail; go_ret; exact ⟨ret_bool HF.out.symm, HE.out⟩
     | false =>
       cases Z with
       | false =>
         have HF : Hid (R = false) := Hd (by rw [HR0.out]; simp); go_wp2_with fail; go_ret; exact ⟨ret_bool HF.out.symm, HE.out⟩
       | true =>
         go_wp2_with fail; go_ret; exact ⟨ret_bool (by rw [HR0.out, hdc]; simp), HE.out⟩
   · have hdc : decide (C < 0) = false := by simpa using hc0
     have HDC := Hd hdc; have HF : Hid (R = false) := Hd (by rw [HR0.out]; rw [HDC.out]; simp); go_wp2_with fail; go_ret; exact ⟨ret_bool HF.out.symm, HE.out⟩
 by_cases h4 : k = 4
 · subst h4; have HR0 : Hid (R = (!b && Z && s.isEmpty && M.isEmpty)) := Hd (by rw [← HRR.out]; simp); have c0 := HV1.out.cell 0; simp at c0; have f6 := HV2.out.free 6; have c6 := HV2.out.cell 6; simp at c6; go_upto_region 19 with fail; replace HE := Hd (HE.out.setCell (p := ⟨S + 1, 6, none⟩) (show w.heap.size ≤ S + 1 by rw [HS.out]; omega) (.slice none 0 0))
   have hv2 := HV2.out.set1 6 (.slice none 0 0); clear c0 c6 f6 HV1 HTM HRM HV2; generalize w2.setCell ⟨S + 1, 6, none⟩ (.slice none 0 0) = w3 at *; have HV2 : Hid (VAt w3 (S + 1) #[.int .i64 4, .bool b, .bool dn1, .string ⟨dn2.toArray⟩, .int .i64 dn3, .string ⟨s.toArray⟩, .slice none 0 0, .slice ma M.length mc]) := Hd hv2; clear hv2
   have hem2 : ((M.length : Int) == 0) = M.isEmpty := by cases M <;> simp <;> omega
   have c1 := HV2.out.cell 1; have c2 := HV2.out.cell 2; have c3 := HV2.out.cell 3; have c4 := HV2.out.cell 4; have c5 := HV2.out.cell 5; have c6 := HV2.out.cell 6; have c7 := HV2.out.cell 7; simp at c1 c2 c3 c4 c5 c6 c7; cases b with
   | true =>
     have HF : Hid (R = false) := Hd (by rw [HR0.out]; simp); go_wp2_with fail; go_ret; exact ⟨ret_bool HF.out.symm, HE.out⟩
   | false =>
     cases Z with
     | false =>
       have HF : Hid (R = false) := Hd (by rw [HR0.out]; simp); go_wp2_with fail; go_ret; exact ⟨ret_bool HF.out.symm, HE.out⟩
     | true =>
       cases s with
       | cons x s =>
         have HF : Hid (R = false) := Hd (by rw [HR0.out]; simp); go_wp2_with fail; go_ret; exact ⟨ret_bool HF.out.symm, HE.out⟩
       | nil =>
         go_wp2_with fail; go_ret; exact ⟨ret_bool (by rw [HR0.out]; simp), HE.out⟩
 by_cases h5 : k = 5
 · subst h5; have HR0 : Hid (R = (!(M.any badKey) && !b && Z && s.isEmpty && L.isEmpty)) := Hd (by rw [← HRR.out]; simp); have c0 := HV1.out.cell 0; simp at c0; have f7 := HV2.out.free 7; have c7 := HV2.out.cell 7; simp at c7; go_upto_region 18 with fail; replace HE := Hd (HE.out.setCell (p := ⟨S + 1, 7, none⟩) (show w.heap.size ≤ S + 1 by rw [HS.out]; omega) (.slice none 0 0))
   have hv2 := HV2.out.set1 7 (.slice none 0 0); have hv1 := HV1.out.oth (p := S + 1) (i := 7) (u := .slice none 0 0) (by omega); have htm := HTM.out.keep (w' := w2.setCell ⟨S + 1, 7, none⟩ (.slice none 0 0)) (A' := fun _ => True) (by simp [World.setCell]) (fun g hg _ => ⟨trivial, Below.heap_setCell _ _ _ _ (show g ≠ S + 1 by omega)⟩)
   have hrm := HRM.out.keep (w' := w2.setCell ⟨S + 1, 7, none⟩ (.slice none 0 0)) (A' := fun _ => True) (by simp [World.setCell]) (fun g hg _ => ⟨trivial, Below.heap_setCell _ _ _ _ (show g ≠ S + 1 by omega)⟩); clear c0 c7 f7 HV1 HTM HRM HV2; generalize w2.setCell ⟨S + 1, 7, none⟩ (.slice none 0 0) = w3 at *
   have HV2 : Hid (VAt w3 (S + 1) #[.int .i64 5, .bool b, .bool dn1, .string ⟨dn2.toArray⟩, .int .i64 dn3, .string ⟨s.toArray⟩, .slice la L.length lc, .slice none 0 0]) := Hd hv2; have HC := Hd (contains_bad _ M cm _ w3 hrm htm hMl HKS.out); have d7 := hv1.cell 7; simp at d7; clear hv1 hv2 htm hrm; go_wp2_with fail; refine (HC.out).mono ?_; rintro e w4 ⟨rfl, hw4⟩; obtain ⟨C, hC⟩ := Ex (M.any badKey)
   have hr0 := HR0.out; rw [hC] at hr0 ⊢; replace HR0 := Hd hr0; replace HV2 := Hd (HV2.out.ext hw4); replace HE := Hd (ext_trans HE.out hw4); clear hr0 hC d7 hw4; have hem2 : ((L.length : Int) == 0) = L.isEmpty := by cases L <;> simp <;> omega
   cases C with
   | true =>
     have HF : Hid (R = false) := Hd (by rw [HR0.out]; simp); go_wp2_with fail; go_ret; exact ⟨ret_bool HF.out.symm, HE.out⟩
   | false =>
     have c1 := HV2.out.cell 1; have c2 := HV2.out.cell 2; have c3 := HV2.out.cell 3; have c4 := HV2.out.cell 4; have c5 := HV2.out.cell 5; have c6 := HV2.out.cell 6; have c7 := HV2.out.cell 7; simp at c1 c2 c3 c4 c5 c6 c7; cases b with
     | true =>
       have HF : Hid (R = false) := Hd (by rw [HR0.out]; simp); go_wp2_with fail; go_ret; exact ⟨ret_bool HF.out.symm, HE.out⟩
     | false =>
       cases Z with
       | false =>
         have HF : Hid (R = false) := Hd (by rw [HR0.out]; simp); go_wp2_with fail; go_ret; exact ⟨ret_bool HF.out.symm, HE.out⟩
       | true =>
         cases s with
         | cons x s =>
           have HF : Hid (R = false) := Hd (by rw [HR0.out]; simp); go_wp2_with fail; go_ret; exact ⟨ret_bool HF.out.symm, HE.out⟩
         | nil =>
           go_wp2_with fail; go_ret; exact ⟨ret_bool (by rw [HR0.out]; simp), HE.out⟩
 · have HF : Hid (R = false) := Hd (by rw [← HRR.out]; simp [h0, h1, h2, h3, h4, h5]); have q0 : (k == 0) = false := by simpa using h0
   have q1 : (k == 1) = false := by simpa using h1
   have q2 : (k == 2) = false := by simpa using h2
   have q3 : (k == 3) = false := by simpa using h3
   have q4 : (k == 4) = false := by simpa using h4
   have q5 : (k == 5) = false := by simpa using h5
   have c0 := HV1.out.cell 0; simp at c0; go_wp2_with fail; go_ret; exact ⟨ret_bool HF.out.symm, HE.out⟩
mutual
def saneT : Nat → Nat → Tree → Int × Nat
 | deep, n, .mk k b d s l m =>
   if fieldsT (.mk k b d s l m) = false then (1, n + 1)
   else if twiceP [] (m.map (·.1)) = true then (7, n + 1)
   else if 4 ≤ k ∧ 64 ≤ deep then (3, n + 1)
   else if 4096 < n + 1 then (4, n + 1)
   else match saneL (deep + 1) (n + 1) l with
    | (e, n') => if e = 0 then saneM (deep + 1) n' m else (e, n')
def saneL : Nat → Nat → List Tree → Int × Nat
 | _, n, [] => (0, n)
 | deep, n, t :: l => match saneT deep n t with
   | (e, n') => if e = 0 then saneL deep n' l else (e, n')
def saneM : Nat → Nat → List (List UInt8 × Tree) → Int × Nat
 | _, n, [] => (0, n)
 | deep, n, (_, t) :: l => match saneT deep n t with
   | (e, n') => if e = 0 then saneM deep n' l else (e, n')
end
theorem saneM_map (deep : Nat) : ∀ (m : List (List UInt8 × Tree)) (n : Nat), saneM deep n m = saneL deep n (m.map (·.2))
 | [], n => by rw [saneM, List.map_nil, saneL]
 | (k, t) :: m, n => by
   rw [saneM, List.map_cons, saneL]; cases saneT deep n t with
   | mk e n' => simp only [saneM_map deep m n']
theorem saneL_append (deep : Nat) : ∀ (l l' : List Tree) (n : Nat), saneL deep n (l ++ l') = (if (saneL deep n l).1 = 0 then saneL deep (saneL deep n l).2 l' else saneL deep n l)
 | [], l', n => by rw [List.nil_append, saneL, if_pos rfl]
 | t :: l, l', n => by
   rw [List.cons_append, saneL, saneL]; cases saneT deep n t with
   | mk e n' =>
     simp only
     by_cases he : e = 0
     · rw [if_pos he, if_pos he, saneL_append deep l l' n']
     · rw [if_neg he, if_neg he, if_neg he]
theorem saneT_ins (deep n : Nat) (t : Tree) : saneT deep n t = if fieldsT t = false then (1, n + 1) else if twiceP [] (t.mems.map (·.1)) = true then (7, n + 1) else if 4 ≤ t.kind ∧ 64 ≤ deep then (3, n + 1) else if 4096 < n + 1 then (4, n + 1) else saneL (deep + 1) (n + 1) t.ins := by
 cases t with
 | mk k b d s l m =>
   rw [saneT]; show _ = (if fieldsT (.mk k b d s l m) = false then (1, n + 1) else if twiceP [] (m.map (·.1)) = true then (7, n + 1) else if 4 ≤ k ∧ 64 ≤ deep then (3, n + 1) else if 4096 < n + 1 then (4, n + 1) else saneL (deep + 1) (n + 1) (l ++ m.map (·.2)))
   rw [saneL_append]; simp only [saneM_map]
theorem saneL_at (deep n : Nat) {l : List Tree} {i : Nat} (h : i < l.length) (h0 : (saneL deep n (l.take i)).1 = 0) : saneL deep n l = if (saneT deep (saneL deep n (l.take i)).2 l[i]).1 = 0 then saneL deep (saneT deep (saneL deep n (l.take i)).2 l[i]).2 (l.drop (i + 1)) else saneT deep (saneL deep n (l.take i)).2 l[i] := by
 conv => lhs; rw [← List.take_append_drop i l, saneL_append, if_pos h0, List.drop_eq_getElem_cons h, saneL]
theorem saneL_take (deep n : Nat) {l : List Tree} {i : Nat} (h : i < l.length) (h0 : (saneL deep n (l.take i)).1 = 0) : saneL deep n (l.take (i + 1)) = saneT deep (saneL deep n (l.take i)).2 l[i] := by
 rw [List.take_add_one, List.getElem?_eq_getElem h, Option.toList_some, saneL_append, if_pos h0, saneL]; cases saneT deep (saneL deep n (l.take i)).2 l[i] with
 | mk e n' =>
   simp only
   by_cases he : e = 0
   · rw [if_pos he, saneL, he]
   · rw [if_neg he]
mutual
theorem saneT_bd : ∀ (t : Tree) (deep n : Nat), (saneT deep n t).2 ≤ n + countT t
 | .mk k b d s l m, deep, n => by
   rw [saneT, countT]; split
   · show n + 1 ≤ _; omega
   split
   · show n + 1 ≤ _; omega
   split
   · show n + 1 ≤ _; omega
   split
   · show n + 1 ≤ _; omega
   · have h1 := saneL_bd l (deep + 1) (n + 1); cases hl : saneL (deep + 1) (n + 1) l with
     | mk e n' =>
       rw [hl] at h1; simp only at h1 ⊢; split
       · have := saneM_bd m (deep + 1) n'; omega
       · simp only; omega
theorem saneL_bd : ∀ (l : List Tree) (deep n : Nat), (saneL deep n l).2 ≤ n + countL l
 | [], deep, n => by rw [saneL, countL]; simp
 | t :: l, deep, n => by
   rw [saneL, countL]; have h1 := saneT_bd t deep n; cases hl : saneT deep n t with
   | mk e n' =>
     rw [hl] at h1; simp only at h1 ⊢; split
     · have := saneL_bd l deep n'; omega
     · simp only; omega
theorem saneM_bd : ∀ (l : List (List UInt8 × Tree)) (deep n : Nat), (saneM deep n l).2 ≤ n + countM l
 | [], deep, n => by rw [saneM, countM]; simp
 | (_, t) :: l, deep, n => by
   rw [saneM, countM]; have h1 := saneT_bd t deep n; cases hl : saneT deep n t with
   | mk e n' =>
     rw [hl] at h1; simp only at h1 ⊢; split
     · have := saneM_bd l deep n'; omega
     · simp only; omega
end
def NAt (w : World) (p n : Nat) : Prop := w.heap[p]? = some (.cells #[.int .i64 (n : Nat)] 69 (0, 0))
theorem NAt.lt {w : World} {p n : Nat} (h : NAt w p n) : p < w.heap.size := (Array.getElem?_eq_some_iff.1 h).1
theorem NAt.ext {w w' : World} {p n : Nat} (h : NAt w p n) (hb : Ext w w') : NAt w' p n := by
 unfold NAt; rw [hb.block _ h.lt]; exact h
theorem NAt.cell {w : World} {p n : Nat} (h : NAt w p n) : w.cell? ⟨p, 0, none⟩ = some (.int .i64 (n : Nat)) ∧ w.frozen? ⟨p, 0, none⟩ = false := ⟨by rw [cell_of_cells h]; rfl, free_of_cells h⟩
theorem NAt.set {w : World} {p n : Nat} (h : NAt w p n) (m : Nat) : NAt (w.setCell ⟨p, 0, none⟩ (.int .i64 (m : Nat))) p m := setCell_heap_self h
theorem keptp {w w' : World} {p : Nat} (h : Kept w.heap.size p w w') (g : Nat) (hg : g ≠ p) (hlt : g < w.heap.size) : g ≠ p ∧ w'.heap[g]? = w.heap[g]? := ⟨hg, h.block g hlt hg⟩
set_option maxHeartbeats 6400000 in
theorem sane_step (N : Nat) (ih : ∀ (t : Tree) (c : Array Value) (deep n p : Nat) (w : World), SizeOf.sizeOf t < N → weightT t ≤ 1000000 → deep + countT t ≤ 1000000000 → n + countT t ≤ 1000000000 → TV w (fun g => g ≠ p) t c → NAt w p n →
 Calls Tryz.prog 51 #[.pointer (some ⟨p, 0, none⟩), .agg c, .int .i64 (deep : Nat)] w (fun e w' => e = .returned (.int .i64 (saneT deep n t).1) ∧ NAt w' p (saneT deep n t).2 ∧ Kept w.heap.size p w w')) :
 ∀ (t : Tree) (c : Array Value) (deep n p : Nat) (w : World), SizeOf.sizeOf t < N + 1 → weightT t ≤ 1000000 → deep + countT t ≤ 1000000000 → n + countT t ≤ 1000000000 → TV w (fun g => g ≠ p) t c → NAt w p n →
 Calls Tryz.prog 51 #[.pointer (some ⟨p, 0, none⟩), .agg c, .int .i64 (deep : Nat)] w (fun e w' => e = .returned (.int .i64 (saneT deep n t).1) ∧ NAt w' p (saneT deep n t).2 ∧ Kept w.heap.size p w w') := by
 intro t c deep n p w hN hwt hdp hnn h hc; have IH := Hd ih; clear ih; obtain ⟨R, hR⟩ := Ex (saneT deep n t); rw [hR]; rw [saneT_ins] at hR; have HRR := Hd hR; clear hR; obtain ⟨k, b, d, s, la, ln, lc, ma, mn, mc, rfl⟩ := h.eight; have hplt := hc.lt; have hpos := countT_pos t; have hv := VAt.new w (cellsV k b d s (.slice la ln lc) (.slice ma mn mc))
 have hx : Ext w (w.alloc (.cells (cellsV k b d s (.slice la ln lc) (.slice ma mn mc)) 27)) := (ext_refl w).alloc (Nat.le_refl _) _; simp only [cellsV] at hv hx ⊢; go_enter Tryz.func51, Tryz.ntmps51
 go_upto_region 1 with fail; obtain ⟨S, hS⟩ := Ex w.heap.size; rw [hS] at hv hplt ⊢; generalize w.alloc (.cells #[.int .i64 k, .bool b, .bool d.neg, .string ⟨d.digits.toArray⟩, .int .i64 d.exp, .string ⟨s.toArray⟩, .slice la ln lc, .slice ma mn mc] 27) = w1 at *; have HS := Hd hS; have hc1 := hc.ext hx; obtain ⟨r0, f0⟩ := hc1.cell
 have e8 : IntKind.i64.wrap ((n : Int) + 1) = ((n + 1 : Nat) : Int) := by rw [IntWalk.i64_in _ (by omega)]; omega
 have hc2 : NAt (w1.setCell ⟨p, 0, none⟩ (.int .i64 ((n : Int) + 1))) p (n + 1) := by rw [show ((n : Int) + 1) = ((n + 1 : Nat) : Int) by omega]; exact hc1.set (n + 1)
 have hv2 := hv.oth (p := p) (i := 0) (u := .int .i64 ((n : Int) + 1)) (by omega); have hk2 : Kept w.heap.size p w (w1.setCell ⟨p, 0, none⟩ (.int .i64 ((n : Int) + 1))) := (Kept.ofBelow hx).trans (Kept.setCell _); go_upto_region 2 with fail; clear r0 f0 hc1; generalize w1.setCell ⟨p, 0, none⟩ (.int .i64 ((n : Int) + 1)) = w2 at *
 have HT := Hd (h.keep (w' := w2) (A' := fun g => g ≠ p) hk2.size (fun g hg hlt => keptp hk2 g hg hlt)); have HC := Hd hc2; have HV := Hd hv2; have HK := Hd hk2; have HWT := Hd hwt; have HB : Hid (deep + countT t ≤ 1000000000 ∧ n + countT t ≤ 1000000000 ∧ SizeOf.sizeOf t < N + 1) := Hd ⟨hdp, hnn, hN⟩; clear h hc hv hx hS hc2 hv2 hk2 hN; obtain ⟨c0, c1, c2, c3, c4, c5, c6, c7⟩ := HV.out.c8
 go_wp2_with fail; refine (fields_any t _ _ w2 HT.out HWT.out).mono ?_; rintro e w3 ⟨rfl, hw3⟩; clear c0 c1 c2 c3 c4 c5 c6 c7; replace HT := Hd (HT.out.keep (w' := w3) (A' := fun g => g ≠ p) hw3.size (fun g hg hlt => ⟨hg, hw3.block g hlt⟩)); replace HC := Hd (HC.out.ext hw3); replace HV := Hd (HV.out.ext hw3); replace HK := Hd (HK.out.trans (Kept.ofBelow (hw3.mono HK.out.size))); clear hw3
 have hrr := HRR.out; obtain ⟨B, hB⟩ := Ex (fieldsT t); rw [hB] at hrr ⊢; clear hB; cases B with
 | false =>
   have HF : Hid (R = (1, n + 1)) := Hd (by rw [← hrr, if_pos rfl]); clear hrr; go_wp2_with fail; go_ret; rw [HF.out]; exact ⟨rfl, HC.out, HK.out⟩
 | true =>
 rw [if_neg (by decide)] at hrr; replace HRR := Hd hrr; clear hrr; obtain ⟨cl, cm, htl, hrl, htm, hrm, hk, -⟩ := tv_rows HT.out; obtain ⟨_, a2, c2, ea, -⟩ := id hrm; simp only [Value.slice.injEq] at ea; obtain ⟨rfl, rfl, rfl⟩ := ea; have hcl := countT_ins t; have hll := countL_len t.ins; have hil := ins_len t; have hcw := count_weight t; have hMl : t.mems.length ≤ 1000000 := by omega
 have hcb : t.list.length + t.mems.length ≤ 1000000 := by omega
 have hks : ∀ q ∈ t.mems, q.1.length ≤ 1000000 := fun q hq => by
  obtain ⟨j, hj, rfl⟩ := List.mem_iff_getElem.1 hq; have h1 := weightM_mem hj; have h2 := HWT.out; cases t with
  | mk k0 b0 d0 s0 l0 m0 => rw [weightT] at h2; have h1 : (m0[j]'hj).1.length ≤ weightM m0 := h1.1; show (m0[j]'hj).1.length ≤ _; omega
 have HTW := Hd (twice_any _ t.mems cm _ w3 hrm htm hMl hks); have HKK := Hd hk; have HCB := Hd hcb; clear hcl hll hil hcw hMl hks htl hrl htm hrm hcb hk; have c7 := HV.out.cell 7; simp at c7; go_wp2_with fail; refine (HTW.out).mono ?_; rintro e w4 ⟨rfl, hw4⟩; clear c7 HTW; replace HT := Hd (HT.out.keep (w' := w4) (A' := fun g => g ≠ p) hw4.size (fun g hg hlt => ⟨hg, hw4.block g hlt⟩))
 replace HC := Hd (HC.out.ext hw4); replace HV := Hd (HV.out.ext hw4); replace HK := Hd (HK.out.trans (Kept.ofBelow (hw4.mono HK.out.size))); clear hw4; have hrr := HRR.out; obtain ⟨B, hB⟩ := Ex (twiceP [] (t.mems.map (·.1))); rw [hB] at hrr ⊢; clear hB; cases B with
 | true =>
   have HF : Hid (R = (7, n + 1)) := Hd (by rw [← hrr, if_pos rfl]); clear hrr; go_wp2_with fail; go_ret; rw [HF.out]; exact ⟨rfl, HC.out, HK.out⟩
 | false =>
 rw [if_neg (by decide), ← HKK.out] at hrr; replace HRR := Hd hrr; clear hrr; have c0 := HV.out.cell 0; simp at c0; by_cases hkd : 4 ≤ k ∧ 64 ≤ deep
 · have HF : Hid (R = (3, n + 1)) := Hd (by rw [← HRR.out, if_pos hkd]); obtain ⟨hk4, hd64⟩ := hkd; have hdi : (64 : Int) ≤ deep := by omega
   go_wp2_with fail; go_ret; rw [HF.out]; exact ⟨rfl, HC.out, HK.out⟩
 have hrr := HRR.out; rw [if_neg hkd] at hrr; replace HRR := Hd hrr; clear hrr; obtain ⟨r0, f0⟩ := HC.out.cell; by_cases hn4 : 4096 < n + 1
 · have HF : Hid (R = (4, n + 1)) := Hd (by rw [← HRR.out, if_pos hn4]); have hni : (4096 : Int) < (n + 1 : Nat) := by omega
   by_cases hk4 : 4 ≤ k
   · have hd64 : ¬ (64 : Int) ≤ deep := by omega
     go_wp2_with fail; go_ret; rw [HF.out]; exact ⟨rfl, HC.out, HK.out⟩
   · go_wp2_with fail; go_ret; rw [HF.out]; exact ⟨rfl, HC.out, HK.out⟩
 have hrr := HRR.out; rw [if_neg hn4] at hrr; replace HRR := Hd hrr; clear hrr; have hni : ¬ (4096 : Int) < (n + 1 : Nat) := by omega
 have HRR3 := HRR; have c1 := HV.out.cell 1; have c2 := HV.out.cell 2; have c3 := HV.out.cell 3; have c4 := HV.out.cell 4; have c5 := HV.out.cell 5; have c6 := HV.out.cell 6; have c7 := HV.out.cell 7; simp at c1 c2 c3 c4 c5 c6 c7; have HN4 := Hd hn4
 have HIN : Hid (∀ w', Below w4.heap.size w4 w' → Calls Tryz.prog 49 #[.agg (cellsV k b d s (.slice la ln lc) (.slice ma t.mems.length mc))] w' (fun e w'' => ∃ v cs, e = .returned v ∧ w''.ownsRow w'.heap.size 27 8 v t.ins.length cs ∧ TL w'' (fun g => g ≠ p) t.ins cs ∧ Ext w' w'')) := Hd (fun w' hw => inside_any t _ _ w' (HT.out.keep (w' := w') (A' := fun g => g ≠ p) hw.size (fun g hg hlt => ⟨hg, hw.block g hlt⟩)) HCB.out)
 have hin := HIN.out w4 (Below.refl _ _); simp only [cellsV] at hin; replace HIN := Hd hin; have HNS : Hid (∀ i (hi : i < t.ins.length), SizeOf.sizeOf t.ins[i] < N ∧ weightT t.ins[i] ≤ 1000000 ∧ deep + 1 + countT t.ins[i] ≤ 1000000000 ∧ n + 1 + countL (t.ins.take i) + countT t.ins[i] ≤ 1000000000) := Hd (fun i hi => by
  have h1 := ins_size (List.getElem_mem hi); have h2 := HB.out; have h3 := weight_ins hi; have h4 := HWT.out; have h5 := countL_mem hi; have h6 := countT_ins t; have h7 := countL_take t.ins i hi; have h8 := countL_take_le t.ins (i + 1); exact ⟨by omega, by omega, by omega, by omega⟩)
 have HLEN : Hid (t.ins.length ≤ 1000000) := Hd (by
  have h1 := countL_len t.ins; have h2 := countT_ins t; have h3 := count_weight t; have h4 := HWT.out; omega)
 have HSB : Hid (∀ i, (saneL (deep + 1) (n + 1) (t.ins.take i)).2 ≤ n + 1 + countL (t.ins.take i)) := Hd (fun i => saneL_bd _ _ _); have hdd : deep ≤ 1000000000 := by have := HB.out; omega
 have HPS : Hid (p < S) := Hd hplt; have HKD : Hid (¬ (4 ≤ k ∧ 64 ≤ deep)) := Hd hkd; clear hin hn4 hkd hwt hplt; generalize t.ins = l at *; have LOOP : True := trivial; by_cases hk4 : 4 ≤ k
 · have hd64 : ¬ (64 : Int) ≤ deep := by have := HKD.out; omega
   go_wp2_with fail; refine (HIN.out).mono ?_; rintro e w5 ⟨v5, cs, rfl, hown, htl, hw5⟩; obtain ⟨a5, cc5, rfl⟩ := ownsRow_shape hown; have hs4 : S ≤ w4.heap.size := by have := HK.out.size; have := HS.out; omega
   have HR := Hd (RowAt.own hown (by decide) (A := fun g => g ≠ p) (fun g _ hb _ => by have := HPS.out; omega)); have HTL := Hd htl; have HC5 := Hd (HC.out.ext hw5); have HK5 := Hd (HK.out.trans (Kept.ofBelow (hw5.mono HK.out.size))); clear hown htl hw5 c0 c1 c2 c3 c4 c5 c6 c7 r0 f0 hni; go_wp2_with fail
   go_loopw [42] (fun iv wr => ∃ i : Nat, iv = .int .i64 i ∧ i ≤ l.length ∧ (saneL (deep + 1) (n + 1) (l.take i)).1 = 0 ∧ NAt wr p (saneL (deep + 1) (n + 1) (l.take i)).2 ∧ Kept w5.heap.size p w5 wr) (fun iv _ => 2000000 - (intOf iv).toNat)
   case atStart => exact ⟨0, rfl, by omega, by rw [List.take_zero, saneL], by rw [List.take_zero, saneL]; exact HC5.out, Kept.refl _ _ _⟩
   case round =>
    obtain ⟨i, rfl, hi, hz, hc, hE⟩ := hrel; have HX := Hd hE; have HCR := Hd hc; have HZ := Hd hz; clear hE hc hz; have hll := HLEN.out; by_cases hlt : i < l.length
    · have hlti : (i : Int) < l.length := by omega
      have hi0 : (0 : Int) ≤ i := by omega
      obtain ⟨g, o, xk, xb, xd, xs, xa1, xn1, xc1, xa2, xn2, xc2, rfl, htx, hcell⟩ := row_elem HR.out HTL.out rfl i hlt; obtain ⟨x0, x1, x2, x3, x4, x5, x6, x7⟩ := hcell wr (fun g hg hlt => HX.out.block g hlt hg); have HTX := Hd (htx.keep (w' := wr) (A' := fun g => g ≠ p) HX.out.size (fun g hg hlt => ⟨hg, HX.out.block g hlt hg⟩)); have HNI := Hd (HNS.out i hlt); have HSI := Hd (HSB.out i)
      have HTK := Hd (saneL_take (deep + 1) (n + 1) hlt HZ.out); have HAT := Hd (saneL_at (deep + 1) (n + 1) hlt HZ.out); clear htx hcell; generalize l[i] = x at *; obtain ⟨ni, hni⟩ := Ex ((saneL (deep + 1) (n + 1) (l.take i)).2); have hcr := HCR.out; have hsi := HSI.out; have htk := HTK.out; have hat := HAT.out; rw [hni] at hcr hsi htk hat; replace HCR := Hd hcr; replace HSI := Hd hsi
      replace HTK := Hd htk; replace HAT := Hd hat; clear hni hcr hsi htk hat; have hv3 := VAt.new wr #[.int .i64 xk, .bool xb, .bool xd.neg, .string ⟨xd.digits.toArray⟩, .int .i64 xd.exp, .string ⟨xs.toArray⟩, .slice xa1 xn1 xc1, .slice xa2 xn2 xc2]
      have hx3 : Ext wr (wr.alloc (.cells #[.int .i64 xk, .bool xb, .bool xd.neg, .string ⟨xd.digits.toArray⟩, .int .i64 xd.exp, .string ⟨xs.toArray⟩, .slice xa1 xn1 xc1, .slice xa2 xn2 xc2] 27)) := (ext_refl wr).alloc (Nat.le_refl _) _; obtain ⟨P, hP⟩ := Ex wr.heap.size; rw [hP] at hv3; go_upto_region 13 with fail; clear x0 x1 x2 x3 x4 x5 x6 x7 hP
      generalize wr.alloc (.cells #[.int .i64 xk, .bool xb, .bool xd.neg, .string ⟨xd.digits.toArray⟩, .int .i64 xd.exp, .string ⟨xs.toArray⟩, .slice xa1 xn1 xc1, .slice xa2 xn2 xc2] 27) = w6 at *; obtain ⟨c0, c1, c2, c3, c4, c5, c6, c7⟩ := hv3.c8; clear hv3; have HX6 := Hd hx3; clear hx3
      have HCALL := Hd (IH.out x _ (deep + 1) ni p w6 HNI.out.1 HNI.out.2.1 (by have := HNI.out; omega) (by have := HNI.out; have := HSI.out; omega) (HTX.out.keep (A' := fun g => g ≠ p) HX6.out.size (fun g hg hlt => ⟨hg, HX6.out.block g hlt⟩)) (HCR.out.ext HX6.out)); have hcall := HCALL.out; simp only [cellsV] at hcall; rw [show ((deep + 1 : Nat) : Int) = (deep : Int) + 1 by omega] at hcall
      replace HCALL := Hd hcall; clear hcall; have e9 : IntKind.i64.wrap ((i : Int) + 1) = ((i + 1 : Nat) : Int) := by rw [IntWalk.i64_in _ (by omega)]; omega
      go_wp2_with fail; refine (HCALL.out).mono ?_; rintro e w7 ⟨rfl, hc7, hk7⟩; have HK7 := Hd (HX.out.trans ((Kept.ofBelow (HX6.out.mono HX.out.size)).trans (hk7.mono (Nat.le_trans HX.out.size HX6.out.size)))); have HC7 := Hd hc7; clear hc7 hk7 c0 c1 c2 c3 c4 c5 c6 c7; obtain ⟨Q, hQ⟩ := Ex (saneT (deep + 1) ni x); have hc7 := HC7.out; have htk := HTK.out; have hat := HAT.out; rw [hQ] at hc7 htk hat ⊢
      replace HC7 := Hd hc7; replace HTK := Hd htk; replace HAT := Hd hat; clear hQ hc7 htk hat; obtain ⟨er, n2⟩ := Q; simp only at HC7 HAT HTK ⊢; by_cases her : er = 0
      · subst her; go_wp2_with fail; go_roundw
        case rel => exact ⟨i + 1, by go_num, by omega, by rw [HTK.out], by rw [HTK.out]; exact HC7.out, HK7.out⟩
        case measure => simp [intOf]; omega
      · have hern : (er != 0) = true := by simpa using her
        have HF : Hid (R = (er, n2)) := Hd (by rw [← HRR3.out, HAT.out, if_neg her]); go_wp2_with fail; go_ret; rw [HF.out]; exact ⟨rfl, HC7.out, HK5.out.trans (HK7.out.mono HK5.out.size)⟩
    · obtain rfl : i = l.length := by omega
      have hnlt : ¬ ((l.length : Int) < (l.length : Int)) := by omega
      have HF : Hid (R.1 = 0 ∧ NAt wr p R.2) := Hd (by
       have h1 := HZ.out; have h2 := HCR.out; rw [List.take_length] at h1 h2; rw [← HRR3.out]; exact ⟨h1, h2⟩)
      go_wp2_with fail; go_ret; exact ⟨ret_int HF.out.1.symm, HF.out.2, HK5.out.trans (HX.out.mono HK5.out.size)⟩
 · go_wp2_with fail; refine (HIN.out).mono ?_; rintro e w5 ⟨v5, cs, rfl, hown, htl, hw5⟩; obtain ⟨a5, cc5, rfl⟩ := ownsRow_shape hown; have hs4 : S ≤ w4.heap.size := by have := HK.out.size; have := HS.out; omega
   have HR := Hd (RowAt.own hown (by decide) (A := fun g => g ≠ p) (fun g _ hb _ => by have := HPS.out; omega)); have HTL := Hd htl; have HC5 := Hd (HC.out.ext hw5); have HK5 := Hd (HK.out.trans (Kept.ofBelow (hw5.mono HK.out.size))); clear hown htl hw5 c0 c1 c2 c3 c4 c5 c6 c7 r0 f0 hni; go_wp2_with fail
   go_loopw [42] (fun iv wr => ∃ i : Nat, iv = .int .i64 i ∧ i ≤ l.length ∧ (saneL (deep + 1) (n + 1) (l.take i)).1 = 0 ∧ NAt wr p (saneL (deep + 1) (n + 1) (l.take i)).2 ∧ Kept w5.heap.size p w5 wr) (fun iv _ => 2000000 - (intOf iv).toNat)
   case atStart => exact ⟨0, rfl, by omega, by rw [List.take_zero, saneL], by rw [List.take_zero, saneL]; exact HC5.out, Kept.refl _ _ _⟩
   case round =>
    obtain ⟨i, rfl, hi, hz, hc, hE⟩ := hrel; have HX := Hd hE; have HCR := Hd hc; have HZ := Hd hz; clear hE hc hz; have hll := HLEN.out; by_cases hlt : i < l.length
    · have hlti : (i : Int) < l.length := by omega
      have hi0 : (0 : Int) ≤ i := by omega
      obtain ⟨g, o, xk, xb, xd, xs, xa1, xn1, xc1, xa2, xn2, xc2, rfl, htx, hcell⟩ := row_elem HR.out HTL.out rfl i hlt; obtain ⟨x0, x1, x2, x3, x4, x5, x6, x7⟩ := hcell wr (fun g hg hlt => HX.out.block g hlt hg); have HTX := Hd (htx.keep (w' := wr) (A' := fun g => g ≠ p) HX.out.size (fun g hg hlt => ⟨hg, HX.out.block g hlt hg⟩)); have HNI := Hd (HNS.out i hlt); have HSI := Hd (HSB.out i)
      have HTK := Hd (saneL_take (deep + 1) (n + 1) hlt HZ.out); have HAT := Hd (saneL_at (deep + 1) (n + 1) hlt HZ.out); clear htx hcell; generalize l[i] = x at *; obtain ⟨ni, hni⟩ := Ex ((saneL (deep + 1) (n + 1) (l.take i)).2); have hcr := HCR.out; have hsi := HSI.out; have htk := HTK.out; have hat := HAT.out; rw [hni] at hcr hsi htk hat; replace HCR := Hd hcr; replace HSI := Hd hsi
      replace HTK := Hd htk; replace HAT := Hd hat; clear hni hcr hsi htk hat; have hv3 := VAt.new wr #[.int .i64 xk, .bool xb, .bool xd.neg, .string ⟨xd.digits.toArray⟩, .int .i64 xd.exp, .string ⟨xs.toArray⟩, .slice xa1 xn1 xc1, .slice xa2 xn2 xc2]
      have hx3 : Ext wr (wr.alloc (.cells #[.int .i64 xk, .bool xb, .bool xd.neg, .string ⟨xd.digits.toArray⟩, .int .i64 xd.exp, .string ⟨xs.toArray⟩, .slice xa1 xn1 xc1, .slice xa2 xn2 xc2] 27)) := (ext_refl wr).alloc (Nat.le_refl _) _; obtain ⟨P, hP⟩ := Ex wr.heap.size; rw [hP] at hv3; go_upto_region 13 with fail; clear x0 x1 x2 x3 x4 x5 x6 x7 hP
      generalize wr.alloc (.cells #[.int .i64 xk, .bool xb, .bool xd.neg, .string ⟨xd.digits.toArray⟩, .int .i64 xd.exp, .string ⟨xs.toArray⟩, .slice xa1 xn1 xc1, .slice xa2 xn2 xc2] 27) = w6 at *; obtain ⟨c0, c1, c2, c3, c4, c5, c6, c7⟩ := hv3.c8; clear hv3; have HX6 := Hd hx3; clear hx3
      have HCALL := Hd (IH.out x _ (deep + 1) ni p w6 HNI.out.1 HNI.out.2.1 (by have := HNI.out; omega) (by have := HNI.out; have := HSI.out; omega) (HTX.out.keep (A' := fun g => g ≠ p) HX6.out.size (fun g hg hlt => ⟨hg, HX6.out.block g hlt⟩)) (HCR.out.ext HX6.out)); have hcall := HCALL.out; simp only [cellsV] at hcall; rw [show ((deep + 1 : Nat) : Int) = (deep : Int) + 1 by omega] at hcall
      replace HCALL := Hd hcall; clear hcall; have e9 : IntKind.i64.wrap ((i : Int) + 1) = ((i + 1 : Nat) : Int) := by rw [IntWalk.i64_in _ (by omega)]; omega
      go_wp2_with fail; refine (HCALL.out).mono ?_; rintro e w7 ⟨rfl, hc7, hk7⟩; have HK7 := Hd (HX.out.trans ((Kept.ofBelow (HX6.out.mono HX.out.size)).trans (hk7.mono (Nat.le_trans HX.out.size HX6.out.size)))); have HC7 := Hd hc7; clear hc7 hk7 c0 c1 c2 c3 c4 c5 c6 c7; obtain ⟨Q, hQ⟩ := Ex (saneT (deep + 1) ni x); have hc7 := HC7.out; have htk := HTK.out; have hat := HAT.out; rw [hQ] at hc7 htk hat ⊢
      replace HC7 := Hd hc7; replace HTK := Hd htk; replace HAT := Hd hat; clear hQ hc7 htk hat; obtain ⟨er, n2⟩ := Q; simp only at HC7 HAT HTK ⊢; by_cases her : er = 0
      · subst her; go_wp2_with fail; go_roundw
        case rel => exact ⟨i + 1, by go_num, by omega, by rw [HTK.out], by rw [HTK.out]; exact HC7.out, HK7.out⟩
        case measure => simp [intOf]; omega
      · have hern : (er != 0) = true := by simpa using her
        have HF : Hid (R = (er, n2)) := Hd (by rw [← HRR3.out, HAT.out, if_neg her]); go_wp2_with fail; go_ret; rw [HF.out]; exact ⟨rfl, HC7.out, HK5.out.trans (HK7.out.mono HK5.out.size)⟩
    · obtain rfl : i = l.length := by omega
      have hnlt : ¬ ((l.length : Int) < (l.length : Int)) := by omega
      have HF : Hid (R.1 = 0 ∧ NAt wr p R.2) := Hd (by
       have h1 := HZ.out; have h2 := HCR.out; rw [List.take_length] at h1 h2; rw [← HRR3.out]; exact ⟨h1, h2⟩)
      go_wp2_with fail; go_ret; exact ⟨ret_int HF.out.1.symm, HF.out.2, HK5.out.trans (HX.out.mono HK5.out.size)⟩
theorem Sane_any (t : Tree) (c : Array Value) (A : Nat → Prop) (w : World) (hw : weightT t ≤ 1000000) (h : TV w A t c) :
 Calls Tryz.prog 22 #[.agg c] w (fun e w' => e = .returned (.int .i64 (saneT 0 0 t).1) ∧ Ext w w') := by
 have key : ∀ N : Nat, ∀ (t : Tree) (c : Array Value) (deep n p : Nat) (w : World), SizeOf.sizeOf t < N → weightT t ≤ 1000000 → deep + countT t ≤ 1000000000 → n + countT t ≤ 1000000000 → TV w (fun g => g ≠ p) t c → NAt w p n →
  Calls Tryz.prog 51 #[.pointer (some ⟨p, 0, none⟩), .agg c, .int .i64 (deep : Nat)] w (fun e w' => e = .returned (.int .i64 (saneT deep n t).1) ∧ NAt w' p (saneT deep n t).2 ∧ Kept w.heap.size p w w') := by
  intro N; induction N with
  | zero => intro t c deep n p w h; omega
  | succ N ih => exact sane_step N ih
 have hcw := count_weight t; obtain ⟨k, b, d, s, la, ln, lc, ma, mn, mc, rfl⟩ := h.eight
 have HKEY : Hid (∀ (p : Nat) (w' : World), TV w' (fun g => g ≠ p) t (cellsV k b d s (.slice la ln lc) (.slice ma mn mc)) → NAt w' p 0 → Calls Tryz.prog 51 #[.pointer (some ⟨p, 0, none⟩), .agg (cellsV k b d s (.slice la ln lc) (.slice ma mn mc)), .int .i64 (0 : Nat)] w' (fun e w'' => e = .returned (.int .i64 (saneT 0 0 t).1) ∧ NAt w'' p (saneT 0 0 t).2 ∧ Kept w'.heap.size p w' w'')) := Hd (fun p w' h1 h2 => key _ t _ 0 0 p w' (Nat.lt_succ_self _) hw (by omega) (by omega) h1 h2)
 clear key hcw hw; obtain ⟨R, hR⟩ := Ex (saneT 0 0 t); rw [hR] at HKEY ⊢; clear hR; have hv := VAt.new w (cellsV k b d s (.slice la ln lc) (.slice ma mn mc)); have hx : Ext w (w.alloc (.cells (cellsV k b d s (.slice la ln lc) (.slice ma mn mc)) 27)) := (ext_refl w).alloc (Nat.le_refl _) _; simp only [cellsV] at hv hx HKEY ⊢; go_enter Tryz.func22, Tryz.ntmps22
 go_upto_region 1 with fail; obtain ⟨S, hS⟩ := Ex w.heap.size; have hsz : (w.alloc (.cells #[.int .i64 k, .bool b, .bool d.neg, .string ⟨d.digits.toArray⟩, .int .i64 d.exp, .string ⟨s.toArray⟩, .slice la ln lc, .slice ma mn mc] 27)).heap.size = S + 1 := by rw [← hS]; simp
 rw [hS] at hv ⊢; generalize w.alloc (.cells #[.int .i64 k, .bool b, .bool d.neg, .string ⟨d.digits.toArray⟩, .int .i64 d.exp, .string ⟨s.toArray⟩, .slice la ln lc, .slice ma mn mc] 27) = w1 at *; have hn : NAt (w1.alloc (.cells #[.int .i64 0] 69)) (S + 1) 0 := by have := heap_alloc_new w1 (.cells #[.int .i64 0] 69); rw [hsz] at this; exact this
 have hx2 : Ext w1 (w1.alloc (.cells #[.int .i64 0] 69)) := (ext_refl w1).alloc (Nat.le_refl _) _; have hv2 := hv.ext hx2; go_upto_region 2 with fail; generalize w1.alloc (.cells #[.int .i64 0] 69) = w2 at *; have hE := ext_trans hx hx2; have hcall := HKEY.out (S + 1) w2 (h.keep (w' := w2) (A' := fun g => g ≠ S + 1) hE.size (fun g _ hlt => ⟨by omega, hE.block g hlt⟩)) hn; have HCALL := Hd hcall
 have HE := Hd hE; have HS := Hd hS; obtain ⟨c0, c1, c2, c3, c4, c5, c6, c7⟩ := hv2.c8; clear hcall hE hx hx2 hv hv2 hn hsz h HKEY hS; go_wp2_with fail; refine (HCALL.out).mono ?_; rintro e w3 ⟨rfl, _, hk⟩; have HK := Hd hk; clear hk; go_wp2_with fail; go_ret; exact ⟨rfl, HE.out.trans ((HK.out.mono HE.out.size).below (by rw [HS.out]; omega))⟩
end Go.Proofs.YtjapbjmeoaagmaaGreatDoor
end

section
set_option maxRecDepth 100000
namespace Orange
theorem lessL_irrefl : ∀ l : List Int, lessL l l = false
 | [] => rfl
 | a :: l => by rw [lessL, if_pos rfl]; exact lessL_irrefl l
theorem lessL_asymm : ∀ l m : List Int, lessL l m = true → lessL m l = false
 | [], [], h => by simp [lessL] at h
 | [], b :: m, _ => by simp [lessL]
 | a :: l, [], h => by simp [lessL] at h
 | a :: l, b :: m, h => by
   rw [lessL] at h ⊢; by_cases e : a = b
   · rw [if_pos e] at h; rw [if_pos e.symm]; exact lessL_asymm l m h
   · rw [if_neg e] at h; rw [if_neg (fun x => e x.symm)]; simp only [decide_eq_true_eq] at h; simp only [decide_eq_false_iff_not]; omega
theorem lessL_tri : ∀ l m : List Int, lessL l m = false → lessL m l = false → l = m
 | [], [], _, _ => rfl
 | [], b :: m, h, _ => by simp [lessL] at h
 | a :: l, [], _, h => by simp [lessL] at h
 | a :: l, b :: m, h, k => by
   rw [lessL] at h k; by_cases e : a = b
   · rw [if_pos e] at h; rw [if_pos e.symm] at k; rw [e, lessL_tri l m h k]
   · rw [if_neg e] at h; rw [if_neg (fun x => e x.symm)] at k; simp only [decide_eq_false_iff_not] at h k; omega
theorem lessL_trans : ∀ l m n : List Int, lessL l m = true → lessL m n = true → lessL l n = true
 | [], m, [], h, k => by cases m <;> simp [lessL] at h k
 | [], _, _ :: _, _, _ => by simp [lessL]
 | a :: l, [], _, h, _ => by simp [lessL] at h
 | a :: l, b :: m, [], _, k => by simp [lessL] at k
 | a :: l, b :: m, c :: n, h, k => by
   rw [lessL] at h k ⊢; by_cases e : a = b
   · rw [if_pos e] at h; by_cases e2 : b = c
     · rw [if_pos e2] at k; rw [if_pos (e.trans e2)]; exact lessL_trans l m n h k
     · rw [if_neg e2] at k; rw [if_neg (by rw [e]; exact e2), e]; exact k
   · rw [if_neg e] at h; simp only [decide_eq_true_eq] at h; by_cases e2 : b = c
     · rw [if_neg (by omega)]; simp only [decide_eq_true_eq]; omega
     · rw [if_neg e2] at k; simp only [decide_eq_true_eq] at k; rw [if_neg (by omega)]; simp only [decide_eq_true_eq]; omega
def un (r : Int) : List UInt8 := if 2097152 ≤ r then [byte (r - 2097152)] else enc r
theorem marks_un : ∀ (n : Nat) (b : List UInt8), b.length ≤ n → (marks b).flatMap un = b
 | _, [], _ => by rw [marks_nil]; rfl
 | 0, _ :: _, h => by simp at h
 | n + 1, x :: t, h => by
   have hmk : mark (x :: t) = if (next (x :: t)).2 = 0 then 2097152 + (x.toNat : Int) else (next (x :: t)).1 := rfl
   have hx := x.toNat_lt; simp only [List.length_cons] at h; rw [marks_cons, List.flatMap_cons]; rcases next_spec (x :: t) with hz | ⟨hs, hn, t', ht⟩
   · have ha : adv (x :: t) = 1 := by simp [adv, hz]
     rw [ha, hmk, hz, if_pos rfl]; have hu : un (2097152 + (x.toNat : Int)) = [x] := by
      rw [un, if_pos (by omega), byte_of (c := x) (by omega)]
     rw [hu, List.drop_succ_cons, List.drop_zero, marks_un n t (by omega)]; rfl
   · have hbd := next_bd (x :: t); obtain ⟨c, hcc⟩ := Ex ((next (x :: t)).1); rw [hcc] at hs hn ht hbd hmk; have hp := enc_pos c; have ha : adv (x :: t) = (next (x :: t)).2 := by simp [adv]; omega
     rw [ha, hmk, if_neg (by omega)]; have hu : un c = enc c := by rw [un, if_neg (by omega)]
     have hd : (x :: t).drop (next (x :: t)).2 = t' := by
      rw [hn, ht, List.drop_left]
     have hl := congrArg List.length ht; simp only [List.length_cons, List.length_append] at hl; rw [hu, hd, marks_un n t' (by omega)]; exact ht.symm
theorem marks_inj {a b : List UInt8} (h : marks a = marks b) : a = b := by
 rw [← marks_un _ a (Nat.le_refl _), ← marks_un _ b (Nat.le_refl _), h]
def encs (l : List Int) : List UInt8 := l.flatMap enc
theorem enc_cons {r : Int} (h : sound r = true) : ∃ x t, enc r = x :: t := by
 have hp := enc_pos r; cases hx : enc r with
 | nil => rw [hx] at hp; simp at hp
 | cons x t => exact ⟨x, t, rfl⟩
theorem checkL_enc {r : Int} (h : sound r = true) (t : List UInt8) (i : Int) : checkL (enc r ++ t) i = checkL t (i + (enc r).length) := by
 have hn := next_enc h t; have hp := enc_pos r; obtain ⟨x, u, hx⟩ := enc_cons h; have e : enc r ++ t = x :: (u ++ t) := by rw [hx]; rfl
 rw [e, checkL_cons, ← e, hn, if_neg (by simp only; omega)]; simp only [List.drop_left]
theorem checkL_encs : ∀ (l : List Int), (∀ r ∈ l, sound r = true) → ∀ (t : List UInt8) (i : Int), checkL (encs l ++ t) i = checkL t (i + (encs l).length)
 | [], _, t, i => by simp [encs]
 | r :: l, h, t, i => by
   have e : encs (r :: l) = enc r ++ encs l := rfl; rw [e, List.append_assoc, checkL_enc (h r (List.mem_cons_self ..)), checkL_encs l (fun x hx => h x (List.mem_cons_of_mem _ hx))]; congr 1
   rw [List.length_append]; omega
def lexB : List UInt8 → List UInt8 → Bool
 | [], [] => false
 | [], _ :: _ => true
 | _ :: _, [] => false
 | a :: l, b :: m => if a.toNat = b.toNat then lexB l m else decide (a.toNat < b.toNat)
end Orange
end

section
set_option maxRecDepth 100000
namespace Go.Proofs.YtjapbjmeoaagmaaGreatDoor
open Go.RowKit Go.Mem Orange
def Good (out : List UInt8) : Prop := ∃ l : List Int, (∀ r ∈ l, sound r = true) ∧ out = encs l
theorem Good.nil : Good [] := ⟨[], by simp, rfl⟩
theorem Good.put {out : List UInt8} (h : Good out) (r : Int) : Good (out ++ encP r) := by
 obtain ⟨l, hl, rfl⟩ := h; obtain ⟨s, hs, he⟩ : ∃ s, sound s = true ∧ encP r = enc s := by
  unfold encP; by_cases hr : sound r = true
  · exact ⟨r, hr, by rw [if_pos hr]⟩
  · exact ⟨65533, by decide, by rw [if_neg hr]⟩
 refine ⟨l ++ [s], fun x hx => ?_, by rw [he]; simp [encs]⟩; rcases List.mem_append.1 hx with hx | hx
 · exact hl x hx
 · rw [List.mem_singleton.1 hx]; exact hs
theorem Good.check {out : List UInt8} (h : Good out) : check out < 0 := by
 obtain ⟨l, hl, rfl⟩ := h; have := checkL_encs l hl [] 0; rw [List.append_nil, checkL_nil] at this; unfold Orange.check; rw [this]; decide
end Go.Proofs.YtjapbjmeoaagmaaGreatDoor
end

section
namespace Orange
structure PStep where
 name : List UInt8
 pos : Int
 named : Bool
abbrev Mem1 := List UInt8 × Tree
def findM (key : List UInt8) : List Mem1 → Option Tree
 | [] => none
 | (k, t) :: m => if k = key then some t else findM key m
def Tree.withL : Tree → List Tree → Tree | .mk k b d s _ m, l => .mk k b d s l m
def Tree.withM : Tree → List Mem1 → Tree | .mk k b d s l _, m => .mk k b d s l m
def getT (t : Tree) (key : List UInt8) : Option Tree := if t.kind = 5 then findM key t.mems else none
def stepT (t : Tree) (s : PStep) : Option Tree :=
 if s.named = true then getT t s.name
 else if t.kind = 4 ∧ 0 ≤ s.pos ∧ s.pos < t.list.length then t.list[s.pos.toNat]? else none
theorem findM_mem {key : List UInt8} {x : Tree} : ∀ {m : List Mem1}, findM key m = some x → (key, x) ∈ m
 | [], h => by cases h
 | (k, t) :: m, h => by
   rw [findM] at h; by_cases e : k = key
   · rw [if_pos e] at h; cases h; rw [e]; exact List.mem_cons_self
   · rw [if_neg e] at h; exact List.mem_cons_of_mem _ (findM_mem h)
@[simp] theorem kind_withL (t : Tree) (l : List Tree) : (t.withL l).kind = t.kind := by cases t; rfl
@[simp] theorem kind_withM (t : Tree) (m : List Mem1) : (t.withM m).kind = t.kind := by cases t; rfl
@[simp] theorem list_withL (t : Tree) (l : List Tree) : (t.withL l).list = l := by cases t; rfl
@[simp] theorem mems_withM (t : Tree) (m : List Mem1) : (t.withM m).mems = m := by cases t; rfl
@[simp] theorem list_withM (t : Tree) (m : List Mem1) : (t.withM m).list = t.list := by cases t; rfl
@[simp] theorem mems_withL (t : Tree) (l : List Tree) : (t.withL l).mems = t.mems := by cases t; rfl
@[simp] theorem withL_withL (t : Tree) (l l' : List Tree) : (t.withL l).withL l' = t.withL l' := by cases t; rfl
@[simp] theorem withM_withM (t : Tree) (m m' : List Mem1) : (t.withM m).withM m' = t.withM m' := by cases t; rfl
@[simp] theorem withL_list (t : Tree) : t.withL t.list = t := by cases t; rfl
@[simp] theorem withM_mems (t : Tree) : t.withM t.mems = t := by cases t; rfl
def sameStep (s r : PStep) : Prop := s.named = r.named ∧ (s.named = true → s.name = r.name) ∧ (s.named = false → s.pos = r.pos)
instance (s r : PStep) : Decidable (sameStep s r) := inferInstanceAs (Decidable (_ ∧ _ ∧ _))
def SaneP (t : Tree) : Prop := ∃ deep n, (Go.Proofs.YtjapbjmeoaagmaaGreatDoor.saneT deep n t).1 = 0
theorem twiceP_nodup : ∀ (l met : List (List UInt8)), Go.Proofs.YtjapbjmeoaagmaaGreatDoor.twiceP met l = false → l.Nodup ∧ ∀ k ∈ l, k ∉ met
 | [], _, _ => ⟨List.nodup_nil, by simp⟩
 | k :: l, met, h => by
   rw [Go.Proofs.YtjapbjmeoaagmaaGreatDoor.twiceP, Bool.or_eq_false_iff] at h; obtain ⟨h1, h2⟩ := twiceP_nodup l (k :: met) h.2; have hk : k ∉ met := by simpa using h.1
   refine ⟨List.nodup_cons.2 ⟨fun hm => h2 k hm List.mem_cons_self, h1⟩, fun x hx => ?_⟩; rcases List.mem_cons.1 hx with rfl | hx
   · exact hk
   · exact fun hm => h2 x hx (List.mem_cons_of_mem _ hm)
theorem saneL_mem : ∀ (l : List Tree) (deep n : Nat), (Go.Proofs.YtjapbjmeoaagmaaGreatDoor.saneL deep n l).1 = 0 → ∀ x ∈ l, ∃ n', (Go.Proofs.YtjapbjmeoaagmaaGreatDoor.saneT deep n' x).1 = 0
 | [], _, _, _ => by simp
 | t :: l, deep, n, h => by
   rw [Go.Proofs.YtjapbjmeoaagmaaGreatDoor.saneL] at h; cases ht : Go.Proofs.YtjapbjmeoaagmaaGreatDoor.saneT deep n t with
   | mk e n' =>
     rw [ht] at h; simp only at h; by_cases he : e = 0
     · rw [if_pos he] at h; intro x hx; rcases List.mem_cons.1 hx with rfl | hx
       · exact ⟨n, by rw [ht]; exact he⟩
       · exact saneL_mem l deep n' h x hx
     · rw [if_neg he] at h; exact absurd h he
theorem SaneP.parts {t : Tree} (h : SaneP t) : Go.Proofs.YtjapbjmeoaagmaaGreatDoor.fieldsT t = true ∧ (t.mems.map (·.1)).Nodup ∧ ∀ x ∈ t.ins, SaneP x := by
 obtain ⟨deep, n, h⟩ := h; rw [Go.Proofs.YtjapbjmeoaagmaaGreatDoor.saneT_ins] at h; split at h
 · exact absurd h (by simp)
 · next h1 =>
   split at h
   · exact absurd h (by simp)
   · next h2 =>
     split at h
     · exact absurd h (by simp)
     · split at h
       · exact absurd h (by simp)
       · exact ⟨by simpa using h1, (twiceP_nodup _ [] (by simpa using h2)).1, fun x hx => by
          obtain ⟨n', h'⟩ := saneL_mem _ _ _ h x hx; exact ⟨_, n', h'⟩⟩
theorem SaneP.step {t x : Tree} {s : PStep} (h : SaneP t) (hs : stepT t s = some x) : SaneP x := by
 refine h.parts.2.2 x ?_; unfold stepT getT at hs; unfold Tree.ins; split at hs
 · split at hs
   · exact List.mem_append_right _ (List.mem_map.2 ⟨_, findM_mem hs, rfl⟩)
   · cases hs
 · split at hs
   · exact List.mem_append_left _ (List.mem_of_getElem? hs)
   · cases hs
def keyLess (a b : List UInt8) : Bool := lessL (marks a) (marks b)
theorem keyLess_irrefl (a : List UInt8) : keyLess a a = false := lessL_irrefl _
theorem keyLess_asymm {a b : List UInt8} (h : keyLess a b = true) : keyLess b a = false := lessL_asymm _ _ h
theorem keyLess_trans {a b c : List UInt8} (h : keyLess a b = true) (k : keyLess b c = true) : keyLess a c = true := lessL_trans _ _ _ h k
theorem keyLess_tri {a b : List UInt8} (h : keyLess a b = false) (k : keyLess b a = false) : a = b := marks_inj (lessL_tri _ _ h k)
theorem keyLess_not {a b : List UInt8} (h : keyLess a b = false) (hne : a ≠ b) : keyLess b a = true := by
 cases k : keyLess b a with
 | true => rfl
 | false => exact absurd (keyLess_tri h k) hne
def insM (x : Mem1) : List Mem1 → List Mem1
 | [] => [x]
 | y :: m => if keyLess x.1 y.1 = true then x :: y :: m else y :: insM x m
def sortM (m : List Mem1) : List Mem1 := m.foldl (fun acc x => insM x acc) []
mutual
def sortedT : Tree → Tree
 | .mk k b d s l m => .mk k b d s (sortedL l) (sortM (sortedM m))
def sortedL : List Tree → List Tree
 | [] => []
 | t :: l => sortedT t :: sortedL l
def sortedM : List Mem1 → List Mem1
 | [] => []
 | (k, t) :: m => (k, sortedT t) :: sortedM m
end
theorem sortedL_map : ∀ l : List Tree, sortedL l = l.map sortedT
 | [] => by rw [sortedL, List.map_nil]
 | t :: l => by rw [sortedL, List.map_cons, sortedL_map l]
theorem sortedM_map : ∀ m : List Mem1, sortedM m = m.map (fun p => (p.1, sortedT p.2))
 | [] => by rw [sortedM, List.map_nil]
 | (k, t) :: m => by rw [sortedM, List.map_cons, sortedM_map m]
theorem insM_perm (x : Mem1) : ∀ m : List Mem1, (insM x m).Perm (x :: m)
 | [] => List.Perm.refl _
 | y :: m => by
   rw [insM]; split
   · exact List.Perm.refl _
   · exact (List.Perm.cons y (insM_perm x m)).trans (List.Perm.swap x y m)
theorem foldl_perm : ∀ (m acc : List Mem1), (m.foldl (fun acc x => insM x acc) acc).Perm (acc ++ m)
 | [], acc => by simp
 | x :: m, acc => by
   rw [List.foldl_cons]; refine (foldl_perm m (insM x acc)).trans ?_; refine ((insM_perm x acc).append_right m).trans ?_; exact (List.perm_middle (l₁ := acc) (a := x) (l₂ := m)).symm
theorem sortM_perm (m : List Mem1) : (sortM m).Perm m := by simpa [sortM] using foldl_perm m []
def Rise (m : List Mem1) : Prop := m.Pairwise (fun x y => keyLess x.1 y.1 = true)
theorem insM_rise (x : Mem1) : ∀ m : List Mem1, Rise m → x.1 ∉ m.map (·.1) → Rise (insM x m)
 | [], _, _ => List.pairwise_singleton _ _
 | y :: m, h, hx => by
   simp only [List.map_cons, List.mem_cons, not_or] at hx; obtain ⟨h1, h2⟩ := List.pairwise_cons.1 h; rw [insM]; split
   · next hl =>
     refine List.pairwise_cons.2 ⟨fun z hz => ?_, h⟩; rcases List.mem_cons.1 hz with rfl | hz
     · exact hl
     · exact keyLess_trans hl (h1 z hz)
   · next hl =>
     refine List.pairwise_cons.2 ⟨fun z hz => ?_, insM_rise x m h2 hx.2⟩; rcases List.mem_cons.1 ((insM_perm x m).mem_iff.1 hz) with rfl | hz
     · exact keyLess_not (by simpa using hl) hx.1
     · exact h1 z hz
theorem foldl_rise : ∀ (m acc : List Mem1), Rise acc → (m.map (·.1)).Nodup → (∀ k ∈ m.map (·.1), k ∉ acc.map (·.1)) → Rise (m.foldl (fun acc x => insM x acc) acc)
 | [], _, h, _, _ => h
 | x :: m, acc, h, hn, hd => by
   simp only [List.map_cons, List.nodup_cons] at hn; rw [List.foldl_cons]; refine foldl_rise m _ (insM_rise x acc h (hd x.1 (by simp))) hn.2 (fun k hk hm => ?_); have := ((insM_perm x acc).map (·.1)).mem_iff.1 hm; rcases List.mem_cons.1 this with rfl | h'
   · exact hn.1 hk
   · exact hd k (by simp only [List.map_cons, List.mem_cons]; exact .inr hk) h'
theorem sortM_rise {m : List Mem1} (h : (m.map (·.1)).Nodup) : Rise (sortM m) := foldl_rise m [] List.Pairwise.nil h (by simp)
theorem rise_eq : ∀ (l m : List Mem1), Rise l → Rise m → l.Perm m → l = m
 | [], m, _, _, h => by rw [List.nil_perm.1 h]
 | x :: l, m, hl, hm, h => by
   cases m with
   | nil => exact absurd h.length_eq (by simp)
   | cons y m =>
     obtain ⟨h1, h2⟩ := List.pairwise_cons.1 hl; obtain ⟨k1, k2⟩ := List.pairwise_cons.1 hm; have hxy : x = y := by
      rcases List.mem_cons.1 (h.mem_iff.1 (List.mem_cons_self (a := x) (l := l))) with e | e
      · exact e
      · rcases List.mem_cons.1 (h.mem_iff.2 (List.mem_cons_self (a := y) (l := m))) with e' | e'
        · exact e'.symm
        · have a := k1 x e; have b := h1 y e'; rw [keyLess_asymm a] at b; cases b
     subst hxy; rw [rise_eq l m h2 k2 (List.Perm.cons_inv h)]
theorem rise_nodup {m : List Mem1} (h : Rise m) : (m.map (·.1)).Nodup := by
 refine List.pairwise_map.2 (h.imp (fun {a b} hab e => ?_)); rw [e, keyLess_irrefl] at hab; cases hab
theorem sortM_of_rise {m : List Mem1} (h : Rise m) : sortM m = m := rise_eq _ _ (sortM_rise (rise_nodup h)) h (sortM_perm m)
theorem sortM_unique {m l : List Mem1} (h : Rise l) (hp : l.Perm m) : l = sortM m :=
 rise_eq _ _ h (sortM_rise ((hp.map (·.1)).nodup_iff.1 (rise_nodup h))) (hp.trans (sortM_perm m).symm)
mutual
def distT : Tree → Prop
 | .mk _ _ _ _ l m => (m.map (·.1)).Nodup ∧ distL l ∧ distM m
def distL : List Tree → Prop
 | [] => True
 | t :: l => distT t ∧ distL l
def distM : List Mem1 → Prop
 | [] => True
 | (_, t) :: m => distT t ∧ distM m
end
theorem distL_iff : ∀ l : List Tree, distL l ↔ ∀ t ∈ l, distT t
 | [] => by simp [distL]
 | t :: l => by simp [distL, distL_iff l]
theorem distM_iff : ∀ l : List Mem1, distM l ↔ ∀ p ∈ l, distT p.2
 | [] => by simp [distM]
 | (k, t) :: l => by simp [distM, distM_iff l]
theorem SaneP.dist : ∀ (N : Nat) (t : Tree), SizeOf.sizeOf t < N → SaneP t → distT t
 | 0, _, h, _ => by omega
 | N + 1, t, hN, h => by
   obtain ⟨_, h2, h3⟩ := h.parts; cases t with
   | mk k b d s l m =>
     rw [distT]; refine ⟨h2, (distL_iff l).2 (fun x hx => ?_), (distM_iff m).2 (fun p hp => ?_)⟩
     · have hi : x ∈ (Tree.mk k b d s l m).ins := List.mem_append_left _ hx; have := ins_size hi; exact SaneP.dist N x (by omega) (h3 x hi)
     · have hi : p.2 ∈ (Tree.mk k b d s l m).ins := List.mem_append_right _ (List.mem_map.2 ⟨p, hp, rfl⟩); have := ins_size hi; exact SaneP.dist N p.2 (by omega) (h3 p.2 hi)
theorem keys_sortedM (m : List Mem1) : (sortedM m).map (·.1) = m.map (·.1) := by
 rw [sortedM_map, List.map_map]; rfl
theorem dist_sorted : ∀ (N : Nat) (v : Tree), SizeOf.sizeOf v < N → distT v → distT (sortedT v) ∧ sortedT (sortedT v) = sortedT v ∧ countT (sortedT v) = countT v
 | 0, _, h, _ => by omega
 | N + 1, .mk k b d s l m, hN, hv => by
   rw [distT] at hv; obtain ⟨v1, v2, v3⟩ := hv; have hl : ∀ t ∈ l, distT (sortedT t) ∧ sortedT (sortedT t) = sortedT t ∧ countT (sortedT t) = countT t := fun t ht => by
    have hi : t ∈ (Tree.mk k b d s l m).ins := List.mem_append_left _ ht; have := ins_size hi; exact dist_sorted N t (by omega) ((distL_iff l).1 v2 t ht)
   have hm : ∀ p ∈ m, distT (sortedT p.2) ∧ sortedT (sortedT p.2) = sortedT p.2 ∧ countT (sortedT p.2) = countT p.2 := fun p hp => by
    have hi : p.2 ∈ (Tree.mk k b d s l m).ins := List.mem_append_right _ (List.mem_map.2 ⟨p, hp, rfl⟩); have := ins_size hi; exact dist_sorted N p.2 (by omega) ((distM_iff m).1 v3 p hp)
   have hr : Rise (sortM (sortedM m)) := sortM_rise (by rw [keys_sortedM]; exact v1); have hpm : ∀ p ∈ sortM (sortedM m), ∃ q ∈ m, p = (q.1, sortedT q.2) := fun p hp => by
    have := (sortM_perm _).mem_iff.1 hp; rw [sortedM_map] at this; obtain ⟨q, hq, rfl⟩ := List.mem_map.1 this; exact ⟨q, hq, rfl⟩
   have hid : sortedM (sortM (sortedM m)) = sortM (sortedM m) := by
    rw [sortedM_map]; conv => rhs; rw [← List.map_id (sortM (sortedM m))]
    refine List.map_congr_left (fun p hp => ?_); obtain ⟨q, hq, rfl⟩ := hpm p hp; simp [(hm q hq).2.1]
   have cntL : ∀ (l : List Tree), (∀ t ∈ l, countT (sortedT t) = countT t) → countL (sortedL l) = countL l := by
    intro l; induction l with
    | nil => intro _; rw [sortedL]
    | cons t l ih => intro h; rw [sortedL, countL, countL, h t List.mem_cons_self, ih (fun x hx => h x (List.mem_cons_of_mem _ hx))]
   have cntP : ∀ {a b : List Tree}, a.Perm b → countL a = countL b := fun {a b} h => by
    induction h with
    | nil => rfl
    | cons x _ ih => rw [countL, countL, ih]
    | swap x y l => rw [countL, countL, countL, countL]; omega
    | trans _ _ h1 h2 => rw [h1, h2]
   rw [sortedT]; refine ⟨?_, ?_, ?_⟩
   · rw [distT]; refine ⟨rise_nodup hr, (distL_iff _).2 (fun t ht => ?_), (distM_iff _).2 (fun p hp => ?_)⟩
     · rw [sortedL_map] at ht; obtain ⟨u, hu, rfl⟩ := List.mem_map.1 ht; exact (hl u hu).1
     · obtain ⟨q, hq, rfl⟩ := hpm p hp; exact (hm q hq).1
   · rw [sortedT, hid, sortM_of_rise hr, sortedL_map, sortedL_map, List.map_map]; congr 1
     exact List.map_congr_left (fun t ht => (hl t ht).2.1)
   · rw [countT, countT, cntL l (fun t ht => (hl t ht).2.2), countM_map, countM_map, cntP ((sortM_perm (sortedM m)).map (·.2)), sortedM_map, List.map_map]; have : (m.map ((·.2) ∘ fun p : Mem1 => (p.1, sortedT p.2))) = sortedL (m.map (·.2)) := by
      rw [sortedL_map, List.map_map]; rfl
     rw [this, cntL _ (fun t ht => by
      obtain ⟨p, hp, rfl⟩ := List.mem_map.1 ht; exact (hm p hp).2.2)]
def quoC (c : UInt8) : List UInt8 :=
 if c = 34 ∨ c = 92 then [92, c] else if c = 8 then [92, 98] else if c = 9 then [92, 116] else if c = 10 then [92, 110] else if c = 12 then [92, 102] else if c = 13 then [92, 114]
 else if c.toNat < 32 then [92, 117, 48, 48, hexs[c.toNat / 16]?.getD 0, hexs[c.toNat % 16]?.getD 0] else [c]
def quoL (l : List UInt8) : List UInt8 := l.flatMap quoC
def quote (l : List UInt8) : List UInt8 := 34 :: (quoL l ++ [34])
theorem quoC_len (c : UInt8) : (quoC c).length ≤ 6 := by
 unfold quoC; repeat' split
 all_goals simp
theorem quoL_len (l : List UInt8) : (quoL l).length ≤ 6 * l.length := by
 induction l with
 | nil => simp [quoL]
 | cons c t ih => have := quoC_len c; simp only [quoL, List.flatMap_cons, List.length_append, List.length_cons] at *; omega
theorem take_snoc (s : ByteArray) (k : Nat) (h : k < s.size) : s.data.toList.take (k + 1) = s.data.toList.take k ++ [s[k]] := by
 rw [List.take_succ_eq_append_getElem (by simpa using h)]; rfl
theorem quoL_snoc (s : ByteArray) (k : Nat) (h : k < s.size) (c : UInt8) (hc : s[k] = c) : quoL (s.data.toList.take (k + 1)) = quoL (s.data.toList.take k) ++ quoC c := by
 rw [take_snoc s k h, hc]; simp [quoL]
def decD (n : Nat) : List UInt8 := if n = 0 then [48] else digs n
def itoaP (n : Int) : List UInt8 := if n < 0 then 45 :: decD n.natAbs else decD n.toNat
def writtenP (d : Num) : List UInt8 :=
 if (d.digits.length : Int) ≤ height d ∧ height d ≤ 21 then d.digits ++ zeros (height d - d.digits.length).toNat
 else if 1 ≤ height d ∧ height d ≤ 21 then d.digits.take (height d).toNat ++ 46 :: d.digits.drop (height d).toNat
 else if -5 ≤ height d ∧ height d < 1 then 48 :: 46 :: (zeros (-height d).toNat ++ d.digits)
 else d.digits.take 1 ++ ((if 1 < d.digits.length then 46 :: d.digits.drop 1 else []) ++ ((if 0 < height d then [101, 43] else [101]) ++ itoaP (height d - 1)))
def printP (d : Num) : List UInt8 := if sane d = true then (if d.digits = [] then [48] else if d.neg then 45 :: writtenP d else writtenP d) else []
theorem digs_len (k : Nat) : ∀ N, N < 10 ^ k → (digs N).length ≤ k := by
 induction k with
 | zero => intro N h; have : N = 0 := by simpa using h
           subst this; rw [digs_zero]; simp
 | succ k ih =>
   intro N h; by_cases h0 : N = 0
   · subst h0; rw [digs_zero]; simp
   · rw [digs_pos h0, List.length_append, List.length_singleton]; have := ih (N / 10) (by rw [Nat.pow_succ] at h; omega); omega
theorem decD_all (n : Nat) : allD (decD n) := by
 unfold decD; split
 · intro c hc; have := List.mem_singleton.1 hc; subst this; rfl
 · exact digs_all n
theorem decD_val (n : Nat) : val (decD n) = n := by
 unfold decD; split
 · rename_i h; rw [h]; rfl
 · exact digs_val n
theorem decD_ne (n : Nat) : decD n ≠ [] := by
 unfold decD; split
 · simp
 · rename_i h; exact digs_ne h
theorem decD_len (k n : Nat) (hk : 1 ≤ k) (h : n < 10 ^ k) : (decD n).length ≤ k := by
 unfold decD; split
 · simpa using hk
 · exact digs_len k n h
theorem tw (W R : List UInt8) (hW : allD W) (hR : (R.head?.map isDig).getD false = false) : (W ++ R).takeWhile isDig = W ∧ (W ++ R).dropWhile isDig = R := by
 induction W with
 | nil =>
   cases R with
   | nil => exact ⟨rfl, rfl⟩
   | cons c t =>
     have : isDig c = false := by simpa using hR
     rw [List.nil_append, List.takeWhile_cons, List.dropWhile_cons, this]; exact ⟨rfl, rfl⟩
 | cons c t ih =>
   have h1 := ih hW.cons.2; rw [List.cons_append, List.takeWhile_cons, List.dropWhile_cons, hW.cons.1]; simp only [if_true]; rw [h1.1, h1.2]; exact ⟨rfl, rfl⟩
theorem dig_digV {c : UInt8} (h : isDig c = true) : dig c = (digV c : Nat) := by
 have := (isDig_iff c).1 h; unfold dig digV; omega
theorem small_val : ∀ (l : List UInt8) (n : Nat), allD l → n * 10 ^ l.length + val l ≤ 1000000 → small l n = ((n * 10 ^ l.length + val l : Nat) : Int)
 | [], n, _, _ => by simp [small, val_nil]
 | c :: t, n, h, hb => by
   rw [val_cons, List.length_cons, Nat.pow_succ] at hb ⊢; have hp := pow_pos10 t.length; rw [small, dig_digV h.cons.1]; have e : n * (10 ^ t.length * 10) + (digV c * 10 ^ t.length + val t) = (n * 10 + digV c) * 10 ^ t.length + val t := by
    generalize 10 ^ t.length = p; generalize digV c = d; grind
   rw [e] at hb ⊢; have hle : n * 10 + digV c ≤ 1000000 := by
    have : (n * 10 + digV c) * 1 ≤ (n * 10 + digV c) * 10 ^ t.length := Nat.mul_le_mul_left _ hp; omega
   have hm : min ((n : Int) * 10 + (digV c : Nat)) 1000000 = ((n * 10 + digV c : Nat) : Int) := by omega
   rw [hm]; exact small_val t _ h.cons.2 hb
theorem small_decD (n : Nat) (h : n ≤ 1000000) : small (decD n) 0 = n := by
 have := small_val (decD n) 0 (decD_all n) (by rw [decD_val]; omega); rw [decD_val] at this; simpa using this
theorem sane_normN {d : Num} (h : sane d = true) (h0 : d.digits ≠ []) : normN d.neg (val d.digits) d.exp = d := by
 have h1 := sane_norm h; have hv : val d.digits ≠ 0 := by
  rcases sane_parts h with e | e
  · subst e; exact absurd rfl h0
  · exact val_pos e.2.1 h0 e.2.2.2.2.2.2.2.1
 have e : zv d d.exp = sgn d * (val d.digits : Nat) := by unfold zv; simp
 rw [e] at h1; unfold normZ at h1; have e2 : (sgn d * ((val d.digits : Nat) : Int)).natAbs = val d.digits := by unfold sgn; cases d.neg <;> simp
 have e3 : decide (sgn d * ((val d.digits : Nat) : Int) < 0) = d.neg := by unfold sgn; cases d.neg <;> simp <;> omega
 rw [e2, e3] at h1; exact h1
theorem mid_plain {neg : Bool} {W : List UInt8} (hW : allD W) (h0 : W ≠ []) (hz : ¬ (1 < W.length ∧ W.head? = some 48)) (R : List UInt8) (hR : (R.head?.map isDig).getD false = false) (h46 : R.head? ≠ some 46) :
 midP neg (W ++ R) = tailE neg W 0 R := by
 obtain ⟨t1, t2⟩ := tw W R hW hR; unfold midP; rw [t1, t2]; have hh : (W ++ R).head? = W.head? := by cases W with | nil => exact absurd rfl h0 | cons c t => rfl
 rw [hh, if_neg (fun h => h.elim h0 hz), if_neg h46]
theorem mid_point {neg : Bool} {W P : List UInt8} (hW : allD W) (h0 : W ≠ []) (hz : ¬ (1 < W.length ∧ W.head? = some 48)) (hP : allD P) (hP0 : P ≠ []) (R : List UInt8) (hR : (R.head?.map isDig).getD false = false) :
 midP neg (W ++ 46 :: (P ++ R)) = tailE neg (W ++ P) (-(P.length : Int)) R := by
 obtain ⟨t1, t2⟩ := tw W (46 :: (P ++ R)) hW rfl; obtain ⟨t3, t4⟩ := tw P R hP hR; unfold midP; rw [t1, t2]; have hh : (W ++ 46 :: (P ++ R)).head? = W.head? := by cases W with | nil => exact absurd rfl h0 | cons c t => rfl
 rw [hh, if_neg (fun h => h.elim h0 hz), List.head?_cons, if_pos rfl, List.drop_succ_cons, List.drop_zero, t3, t4, if_neg hP0]
theorem tail_nil (neg : Bool) (all : List UInt8) (x : Int) (ha : allD all) : tailE neg all x [] = toldP (normN neg (val all) x) := by
 unfold tailE; have e : expP [] = (0, [], true) := rfl; rw [e]; simp only [Int.add_zero]; rw [formP_told, formR_norm _ _ _ ha]; rfl
theorem tail_plus (neg : Bool) (all : List UInt8) (x : Int) (ha : allD all) (k : Nat) (hk : k ≤ 1000000) (e : UInt8) (he : isE e = true) : tailE neg all x (e :: 43 :: decD k) = toldP (normN neg (val all) (x + k)) := by
 unfold tailE; have t := tw (decD k) [] (decD_all k) rfl; rw [List.append_nil] at t; rw [expP_yes e (43 :: decD k) (decD k) he (by simp), t.1, t.2, small_decD k hk]; have h0 := decD_ne k; have h1 : (decD k).isEmpty = false := by simpa using h0
 simp only [h1]; rw [if_neg (by decide), if_neg (show ¬ ((43 : UInt8) :: decD k).head? = some 45 by simp), formP_told, formR_norm _ _ _ ha]
theorem tail_minus (neg : Bool) (all : List UInt8) (x : Int) (ha : allD all) (k : Nat) (hk : k ≤ 1000000) (e : UInt8) (he : isE e = true) : tailE neg all x (e :: 45 :: decD k) = toldP (normN neg (val all) (x - k)) := by
 unfold tailE; have t := tw (decD k) [] (decD_all k) rfl; rw [List.append_nil] at t; rw [expP_yes e (45 :: decD k) (decD k) he (by simp), t.1, t.2, small_decD k hk]; have h0 := decD_ne k; have h1 : (decD k).isEmpty = false := by simpa using h0
 simp only [h1]; rw [if_neg (by decide), if_pos (show ((45 : UInt8) :: decD k).head? = some 45 from rfl), formP_told, formR_norm _ _ _ ha]; rfl
theorem written_back {d : Num} (h : sane d = true) (h0 : d.digits ≠ []) : midP d.neg (writtenP d) = (d, 0) ∧ (writtenP d).length ≤ 100 ∧ (writtenP d).head? ≠ some 45 := by
 have hN := sane_normN h h0; have hT := toldP_sane h; rcases sane_parts h with e | ⟨_, ha, hl, hh1, hh2, hx1, hx2, hh, hg⟩
 · subst e; exact absurd rfl h0
 obtain ⟨neg, l, x⟩ := d; simp only at *; have hhd : height ⟨neg, l, x⟩ = (l.length : Int) + x := rfl; obtain ⟨c, t, rfl⟩ : ∃ c t, l = c :: t := by cases l with | nil => exact absurd rfl h0 | cons c t => exact ⟨c, t, rfl⟩
 have hc48 : c ≠ 48 := by simpa using hh
 have hc45 : c ≠ 45 := fun e => by have := ha.cons.1; rw [e] at this; exact absurd this (by decide)
 have hlen : (c :: t).length = t.length + 1 := rfl; obtain ⟨H, hH⟩ := Ex (height ⟨neg, c :: t, x⟩); rw [hH] at hh1 hh2 hhd; have hnz : ∀ W : List UInt8, W.head? = some c → ¬ (1 < W.length ∧ W.head? = some 48) := fun W hW hz => by
  rw [hW] at hz; exact hc48 (by simpa using hz.2)
 unfold writtenP; simp only [hH]; split
 · rename_i h1
   obtain ⟨k, hk⟩ : ∃ k : Nat, (H - (c :: t).length).toNat = k := ⟨_, rfl⟩
   rw [hk]; have hkx : x = k := by omega
   have hall : allD (c :: t ++ zeros k) := ha.app (allD_zeros k); have := mid_plain (neg := neg) hall (by simp) (hnz _ rfl) [] rfl (by simp); rw [List.append_nil] at this; refine ⟨?_, by rw [List.length_append, zeros_len]; omega, by simpa using hc45⟩; rw [this, tail_nil _ _ _ hall, val_app, val_zeros, zeros_len, Nat.add_zero, normN_pow, Int.zero_add, ← hkx, hN, hT]
 · rename_i h1
   split
   · rename_i h2
     obtain ⟨k, hk⟩ : ∃ k : Nat, H.toNat = k := ⟨_, rfl⟩
     rw [hk]; have hkn : k < (c :: t).length := by omega
     have hk1 : 1 ≤ k := by omega
     have htk : ((c :: t).take k).head? = some c := by obtain ⟨k, rfl⟩ : ∃ j, k = j + 1 := ⟨k - 1, by omega⟩; rfl
     have hd0 : (c :: t).drop k ≠ [] := fun e => by have := congrArg List.length e; simp only [List.length_drop, List.length_nil] at this; omega
     have := mid_point (neg := neg) (W := (c :: t).take k) (P := (c :: t).drop k) (ha.sub (fun x hx => List.mem_of_mem_take hx)) (fun e => by rw [e] at htk; cases htk) (hnz _ htk) (ha.sub (fun x hx => List.mem_of_mem_drop hx)) hd0 [] rfl; rw [List.append_nil] at this; refine ⟨?_, by simp only [List.length_append, List.length_cons, List.length_take, List.length_drop]; omega, ?_⟩
     · rw [this, List.take_append_drop, tail_nil _ _ _ ha]; have e : -(((c :: t).drop k).length : Int) = x := by rw [List.length_drop]; omega
       rw [e, hN, hT]
     · rw [List.head?_append, htk]; simpa using hc45
   · rename_i h2
     split
     · rename_i h3
       obtain ⟨k, hk⟩ : ∃ k : Nat, (-H).toNat = k := ⟨_, rfl⟩
       rw [hk]; have hall : allD (zeros k ++ c :: t) := (allD_zeros k).app ha; have := mid_point (neg := neg) (W := [48]) (P := zeros k ++ c :: t) (fun c hc => by rw [List.mem_singleton.1 hc]; rfl) (by simp) (by simp) hall (by simp) [] rfl; rw [List.append_nil] at this; refine ⟨?_, by simp only [List.length_append, List.length_cons, zeros_len]; omega, by simp⟩
       have e48 : allD [48] := fun c hc => by rw [List.mem_singleton.1 hc]; rfl
       have e : midP neg (48 :: 46 :: (zeros k ++ c :: t)) = _ := this; rw [e, tail_nil _ _ _ (e48.app hall)]; have ev : val ([48] ++ (zeros k ++ c :: t)) = val (c :: t) := by
        rw [val_app, val_app, val_zeros]; have : val [48] = 0 := rfl; rw [this]; simp
       have ee : -((zeros k ++ c :: t).length : Int) = x := by rw [List.length_append, zeros_len]; omega
       rw [ev, ee, hN, hT]
     · rename_i h3
       have hbig : 21 < H ∨ H < -5 := by omega
       obtain ⟨E, hE⟩ := Ex ((if 0 < H then [101, 43] else [101]) ++ itoaP (H - 1)); rw [hE]; have c1 : allD [c] := fun y hy => by rw [List.mem_singleton.1 hy]; exact ha.cons.1
       have hEl : E.length ≤ 10 ∧ (E.head?.map isDig).getD false = false ∧ E.head? ≠ some 46 := by
        rw [← hE]; have hl1 := decD_len 4 (H - 1).toNat (by omega) (by omega); have hl2 := decD_len 4 (H - 1).natAbs (by omega) (by omega); unfold itoaP; generalize decD (H - 1).natAbs = D1 at *; generalize decD (H - 1).toNat = D2 at *; split <;> split <;> exact ⟨by simp; omega, by rfl, by simp⟩
       have key : ∀ y : Int, tailE neg (c :: t) y E = toldP (normN neg (val (c :: t)) (y + (H - 1))) := fun y => by
        rw [← hE]; rcases hbig with hb | hb
        · rw [if_pos (by omega)]; unfold itoaP; rw [if_neg (by omega)]; show tailE neg (c :: t) y (101 :: 43 :: decD (H - 1).toNat) = _; rw [tail_plus neg _ y ha _ (by omega) 101 (by decide)]; congr 2; omega
        · rw [if_neg (by omega)]; unfold itoaP; rw [if_pos (by omega)]; show tailE neg (c :: t) y (101 :: 45 :: decD (H - 1).natAbs) = _; rw [tail_minus neg _ y ha _ (by omega) 101 (by decide)]; congr 2; omega
       rw [List.take_succ_cons, List.take_zero, List.drop_succ_cons, List.drop_zero]; by_cases h4 : 1 < (c :: t).length
       · rw [if_pos h4]; have ht0 : t ≠ [] := fun e => by rw [e] at h4; simp at h4
         have := mid_point (neg := neg) (W := [c]) (P := t) c1 (by simp) (hnz _ rfl) ha.cons.2 ht0 E hEl.2.1; refine ⟨?_, by simp only [List.length_append, List.length_cons, List.length_nil]; omega, by simpa using hc45⟩; have e : midP neg (c :: ([] ++ (46 :: t ++ E))) = _ := this; show midP neg (c :: ([] ++ (46 :: t ++ E))) = _; rw [e]; show tailE neg (c :: t) _ E = _; rw [key]
         have ee : -(t.length : Int) + (H - 1) = x := by omega
         rw [ee, hN, hT]
       · rw [if_neg h4, List.nil_append]; have ht0 : t = [] := List.eq_nil_of_length_eq_zero (by omega); subst ht0; have := mid_plain (neg := neg) c1 (by simp) (hnz _ rfl) E hEl.2.1 hEl.2.2; refine ⟨?_, by simp only [List.length_append, List.length_cons, List.length_nil]; omega, by simpa using hc45⟩; rw [this, key]; have ee : (0 : Int) + (H - 1) = x := by simp at hlen hhd; omega
         rw [ee, hN, hT]
def gapP (by' : Int) (k : Nat) : List UInt8 := if by' < 0 then [] else 10 :: List.replicate (by'.toNat * k) 32
def blankP (by' : Int) : List UInt8 := if by' < 0 then [] else [32]
mutual
def outT (by' : Int) (k : Nat) : Tree → List UInt8
 | .mk kd b d s l m =>
   if kd = 0 then [110, 117, 108, 108]
   else if kd = 1 then (if b = true then [116, 114, 117, 101] else [102, 97, 108, 115, 101])
   else if kd = 2 then printP d
   else if kd = 3 then quote s
   else if kd = 4 then 91 :: (outL by' (k + 1) true l ++ ((if l.length = 0 then [] else gapP by' k) ++ [93]))
   else 123 :: (outM by' (k + 1) true m ++ ((if m.length = 0 then [] else gapP by' k) ++ [125]))
def outL (by' : Int) (k : Nat) : Bool → List Tree → List UInt8
 | _, [] => []
 | first, t :: l => (if first = true then [] else [44]) ++ (gapP by' k ++ (outT by' k t ++ outL by' k false l))
def outM (by' : Int) (k : Nat) : Bool → List Mem1 → List UInt8
 | _, [] => []
 | first, (key, t) :: m => (if first = true then [] else [44]) ++ (gapP by' k ++ (quote key ++ (58 :: (blankP by' ++ (outT by' k t ++ outM by' k false m)))))
end
end Orange
end

section
namespace Go.Proofs
open Go.Shelf
def Tryz.lays105_ren : Go.Shelf.Ren := ⟨fun | 105 => 187 | 212 => 211 | 99 => 212 | 165 => 213 | 166 => 63 | 170 => 214 | 169 => 66 | 263 => 230 | 264 => 231 | 206 => 232 | 240 => 85 | 241 => 233 | 276 => 104 | 277 => 244 | n => n, fun | 9 => 9 | 3 => 3 | 4 => 4 | 20 => 20 | 0 => 0 | 46 => 130 | 109 => 251 | 5 => 5 | 72 => 80 | 76 => 84 | 51 => 135 | 146 => 268 | 53 => 178 | 148 => 270 | 70 => 78 | 37 => 56 | 75 => 82 | 127 => 104 | 164 => 127 | 80 => 88 | n => n, fun | n => n⟩
theorem Tryz.lays105 : Go.Proofs.Lays.n105 Tryz.prog Tryz.lays105_ren := {
 mixed := by kernel_rfl
 f99 := Tryz.func212.trans (congrArg some (by kernel_rfl))
 f105 := Tryz.func187.trans (congrArg some (by kernel_rfl))
 f165 := Tryz.func213.trans (congrArg some (by kernel_rfl))
 f166 := Tryz.func63.trans (congrArg some (by kernel_rfl))
 f169 := Tryz.func66.trans (congrArg some (by kernel_rfl))
 f170 := Tryz.func214.trans (congrArg some (by kernel_rfl))
 f206 := Tryz.func232.trans (congrArg some (by kernel_rfl))
 f212 := Tryz.func211.trans (congrArg some (by kernel_rfl))
 f240 := Tryz.func85.trans (congrArg some (by kernel_rfl))
 f241 := Tryz.func233.trans (congrArg some (by kernel_rfl))
 f263 := Tryz.func230.trans (congrArg some (by kernel_rfl))
 f264 := Tryz.func231.trans (congrArg some (by kernel_rfl))
 f276 := Tryz.func104.trans (congrArg some (by kernel_rfl))
 f277 := Tryz.func244.trans (congrArg some (by kernel_rfl))
 t0 := Tryz.underlying0
 a0 := Tryz.isAgg0
 z0 := Tryz.sizeOf0
 v0 := Tryz.zeroValue0
 t3 := Tryz.underlying3
 a3 := Tryz.isAgg3
 z3 := Tryz.sizeOf3
 v3 := Tryz.zeroValue3
 t4 := Tryz.underlying4
 a4 := Tryz.isAgg4
 z4 := Tryz.sizeOf4
 v4 := Tryz.zeroValue4
 t5 := Tryz.underlying5
 a5 := Tryz.isAgg5
 z5 := Tryz.sizeOf5
 v5 := Tryz.zeroValue5
 t9 := Tryz.underlying9
 a9 := Tryz.isAgg9
 z9 := Tryz.sizeOf9
 v9 := Tryz.zeroValue9
 t20 := Tryz.underlying20
 a20 := Tryz.isAgg20
 z20 := Tryz.sizeOf20
 v20 := Tryz.zeroValue20
 t37 := Tryz.underlying56
 a37 := Tryz.isAgg56
 z37 := Tryz.sizeOf56
 v37 := Tryz.zeroValue56
 t46 := Tryz.underlying130
 a46 := Tryz.isAgg130
 z46 := Tryz.sizeOf130
 v46 := Tryz.zeroValue130
 t51 := Tryz.underlying135
 a51 := Tryz.isAgg135
 z51 := Tryz.sizeOf135
 v51 := Tryz.zeroValue135
 t53 := Tryz.underlying178
 a53 := Tryz.isAgg178
 z53 := Tryz.sizeOf178
 v53 := Tryz.zeroValue178
 t70 := Tryz.underlying78
 a70 := Tryz.isAgg78
 z70 := Tryz.sizeOf78
 v70 := Tryz.zeroValue78
 t72 := Tryz.underlying80
 a72 := Tryz.isAgg80
 z72 := Tryz.sizeOf80
 v72 := Tryz.zeroValue80
 t75 := Tryz.underlying82
 a75 := Tryz.isAgg82
 z75 := Tryz.sizeOf82
 v75 := Tryz.zeroValue82
 t76 := Tryz.underlying84
 a76 := Tryz.isAgg84
 z76 := Tryz.sizeOf84
 v76 := Tryz.zeroValue84
 t109 := Tryz.underlying251
 a109 := Tryz.isAgg251
 z109 := Tryz.sizeOf251
 v109 := Tryz.zeroValue251
 t127 := Tryz.underlying104
 a127 := Tryz.isAgg104
 z127 := Tryz.sizeOf104
 v127 := Tryz.zeroValue104
 t146 := Tryz.underlying268
 a146 := Tryz.isAgg268
 z146 := Tryz.sizeOf268
 v146 := Tryz.zeroValue268
 t148 := Tryz.underlying270
 a148 := Tryz.isAgg270
 z148 := Tryz.sizeOf270
 v148 := Tryz.zeroValue270
 t164 := Tryz.underlying127
 a164 := Tryz.isAgg127
 z164 := Tryz.sizeOf127
 v164 := Tryz.zeroValue127 }
theorem Tryz.Builder_Extra_105 : Builder.Extra Tryz.prog Tryz.lays105_ren := {
 sizeBuilder := by kernel_rfl
 liesBuilder := by kernel_rfl
 t5 := Tryz.underlying5
 a5 := Tryz.isAgg5
 z5 := Tryz.sizeOf5
 v5 := Tryz.zeroValue5
 infoByte := by kernel_rfl
 cellsByte := by kernel_rfl
 sizeByte := by kernel_rfl
 neB5 := by decide }
open Go.RowKit Go.Lib in
theorem Tryz.strings_Repeat (s : ByteArray) (c : Nat) (w : World) (hc : c ≤ 9223372036854775807) (hlen : s.size * c ≤ 140737488355328) :
 Calls Tryz.prog 187 #[.string s, .int .i64 c] w fun e w' => e = .returned (.string ⟨(Lib.repeatL s.data.toList c).toArray⟩) ∧ Below w.heap.size w w' := Any.strings_Repeat Tryz.lays105 Tryz.Builder_Extra_105 s c w hc hlen
end Go.Proofs
end

section
set_option maxRecDepth 100000
namespace Orange
end Orange
namespace Go.Proofs.YtjapbjmeoaagmaaGreatDoor
open Go.RowKit Go.Mem Orange
end Go.Proofs.YtjapbjmeoaagmaaGreatDoor
end

section
set_option maxRecDepth 100000
namespace Go.Proofs.YtjapbjmeoaagmaaGreatDoor
open Go.ChangeShapes Go.WideShapes Go.ChangeAt Go.RowKit Go.Mem
end Go.Proofs.YtjapbjmeoaagmaaGreatDoor
end

section
set_option maxRecDepth 100000
namespace Orange
def i64R (n : Int) : Prop := -9223372036854775808 ≤ n ∧ n ≤ 9223372036854775807
mutual
def okT : Tree → Prop
 | .mk k _ d s l m => i64R k ∧ i64R d.exp ∧ d.digits.length ≤ 140737488355328 ∧ s.length ≤ 140737488355328 ∧ l.length ≤ 140737488355328 ∧ m.length ≤ 140737488355328 ∧ okL l ∧ okM m
def okL : List Tree → Prop
 | [] => True
 | t :: l => okT t ∧ okL l
def okM : List Mem1 → Prop
 | [] => True
 | (k, t) :: m => k.length ≤ 140737488355328 ∧ okT t ∧ okM m
end
theorem okL_iff : ∀ l : List Tree, okL l ↔ ∀ t ∈ l, okT t
 | [] => by simp [okL]
 | t :: l => by simp [okL, okL_iff l]
theorem okM_iff : ∀ l : List Mem1, okM l ↔ ∀ p ∈ l, p.1.length ≤ 140737488355328 ∧ okT p.2
 | [] => by simp [okM]
 | (k, t) :: l => by simp [okM, okM_iff l, and_assoc]
end Orange
namespace Go.Proofs.YtjapbjmeoaagmaaGreatDoor
open Go.RowKit Go.Mem Orange Go.ChangeShapes Go.WideShapes Go.ChangeAt
theorem tl_build {W : World} {A : Nat → Prop} {g o : Nat} : ∀ n : Nat, (∀ i, i < n → ∃ t c, TV W A t c ∧ okT t ∧ ∀ j, j < 8 → W.cell? ⟨g, o + i * 8 + j, none⟩ = c[j]?) →
 ∃ l cs, l.length = n ∧ TL W A l cs ∧ okL l ∧ ∀ i, (h : i < cs.length) → W.cell? ⟨g, o + i, none⟩ = some cs[i]
 | 0, _ => ⟨[], [], rfl, .nil, trivial, fun i h => absurd h (by simp)⟩
 | n + 1, H => by
   obtain ⟨l, cs, h1, h2, h3, h4⟩ := tl_build n (fun i hi => H i (by omega)); obtain ⟨t, c, k1, k2, k3⟩ := H n (by omega); have hl := h2.length; have hc := k1.size; refine ⟨l ++ [t], cs ++ c.toList, by simp [h1], TL.append h2 k1, (okL_iff _).2 (fun x hx => ?_), fun i hi => ?_⟩
   · rcases List.mem_append.1 hx with hx | hx
     · exact (okL_iff l).1 h3 x hx
     · rw [List.mem_singleton.1 hx]; exact k2
   · simp only [List.length_append, Array.length_toList] at hi; by_cases hlt : i < cs.length
     · rw [h4 i hlt, List.getElem_append_left hlt]
     · have := k3 (i - cs.length) (by omega); rw [show o + n * 8 + (i - cs.length) = o + i by omega] at this; rw [this, List.getElem_append_right (by omega), Array.getElem_toList]; simp [Array.getElem?_eq_getElem (show i - cs.length < c.size by omega)]
theorem tm_build {W : World} {A : Nat → Prop} {g o : Nat} : ∀ n : Nat, (∀ i, i < n → ∃ (k : List UInt8) (t : Tree) (c : Array Value), TV W A t c ∧ k.length ≤ 140737488355328 ∧ okT t ∧ W.cell? ⟨g, o + i * 9, none⟩ = some (.string ⟨k.toArray⟩) ∧ ∀ j, j < 8 → W.cell? ⟨g, o + i * 9 + 1 + j, none⟩ = c[j]?) →
 ∃ l cs, l.length = n ∧ TM W A l cs ∧ okM l ∧ ∀ i, (h : i < cs.length) → W.cell? ⟨g, o + i, none⟩ = some cs[i]
 | 0, _ => ⟨[], [], rfl, .nil, trivial, fun i h => absurd h (by simp)⟩
 | n + 1, H => by
   obtain ⟨l, cs, h1, h2, h3, h4⟩ := tm_build n (fun i hi => H i (by omega)); obtain ⟨k, t, c, k1, k2, k3, k4, k5⟩ := H n (by omega); have hl := h2.length; have hc := k1.size; refine ⟨l ++ [(k, t)], cs ++ .string ⟨k.toArray⟩ :: c.toList, by simp [h1], TM.append h2 k1, (okM_iff _).2 (fun x hx => ?_), fun i hi => ?_⟩
   · rcases List.mem_append.1 hx with hx | hx
     · exact (okM_iff l).1 h3 x hx
     · rw [List.mem_singleton.1 hx]; exact ⟨k2, k3⟩
   · simp only [List.length_append, List.length_cons, Array.length_toList] at hi; by_cases hlt : i < cs.length
     · rw [h4 i hlt, List.getElem_append_left hlt]
     · by_cases he : i = cs.length
       · subst he; rw [show o + cs.length = o + n * 9 by omega, k4, List.getElem_append_right (Nat.le_refl _)]; simp
       · have := k5 (i - cs.length - 1) (by omega); rw [show o + n * 9 + 1 + (i - cs.length - 1) = o + i by omega] at this; rw [this, List.getElem_append_right (by omega)]; obtain ⟨j, hj⟩ : ∃ j, i - cs.length = j + 1 := ⟨i - cs.length - 1, by omega⟩
         simp only [hj, List.getElem_cons_succ, Array.getElem_toList, Nat.add_sub_cancel]; simp [Array.getElem?_eq_getElem (show j < c.size by omega)]
theorem trod_slice {H : Type} {enc : TypeId × Value → H} {P : Program} {W : World} {fuel : Nat} {t e : TypeId} {cs : List Value} {d : DataW H} {ps : List MemPlace} (ht : P.underlying t = some (.slice e)) (hz : 0 < P.cellsOf e)
 (h : DataW.trod enc P W 0 (fun _ => true) true (fuel + 1) t cs = some (d, ps)) :
 (cs = [.slice none 0 0] ∧ d = .nil) ∨ ∃ a n cap elems spare, cs = [.slice (some a) n cap] ∧ n ≤ cap ∧ cap ≤ maxLen ∧ d = .slice elems spare ∧ elems.length = n ∧
   ∀ i, i < n → ∃ x c ps', elems[i]? = some x ∧ DataW.trod enc P W 0 (fun _ => true) true fuel e c = some (x, ps') ∧ c.length = P.cellsOf e ∧ (∀ j, j < P.cellsOf e → W.cell? ((a.add (i * P.cellsOf e)).add j) = c[j]?) := by
 unfold DataW.trod at h; rw [ht] at h; match cs, h with
 | [.slice none 0 0], h => simp at h; exact .inl ⟨rfl, h.1.symm⟩
 | [.slice (some a) n cap], h =>
   right
   simp only at h; split at h
   · next hc =>
     obtain ⟨_, h1, h2⟩ := hc; rw [Option.bind_eq_some_iff] at h; obtain ⟨elems, he, h⟩ := h; rw [Option.map_eq_some_iff] at h; obtain ⟨rest, hr, h⟩ := h; simp only [Prod.mk.injEq] at h; refine ⟨a, n, cap, elems.map (·.1), rest.map (·.1), rfl, h1, h2, h.1.symm, by simpa using mapM_some_length he, fun i hi => ?_⟩; have hg := mapM_some_get he i i (by simp [hi]); have hlen := mapM_some_length he
     simp only [List.length_range] at hlen; rw [List.getElem?_eq_getElem (by omega), Option.bind_eq_some_iff] at hg; obtain ⟨c, hc, hg⟩ := hg; obtain ⟨_, hcl, hcc⟩ := World.cells?_some hc; exact ⟨elems[i].1, c, elems[i].2, by simp [List.getElem?_eq_getElem (show i < elems.length by omega)], hg, hcl, hcc⟩
   · cases h
theorem add_plain (g o i : Nat) : (⟨g, o, none⟩ : Addr).add i = ⟨g, o + i, none⟩ := by simp only [Addr.add]; split <;> simp_all
theorem weightsAll_mem {H : Type} {P : Program} {e : TypeId} : ∀ {l : List (DataW H)} {x : DataW H}, x ∈ l → ∀ n ∈ x.weights P e, n ∈ DataW.weightsAll P e l
 | y :: l, x, h, n, hn => by
   rw [DataW.weightsAll]; rcases List.mem_cons.1 h with rfl | h
   · exact List.mem_append_left _ hn
   · exact List.mem_append_right _ (weightsAll_mem h n hn)
section
variable {H : Type} {enc : TypeId × Value → H} {W : World}
noncomputable abbrev trodV (enc : TypeId × Value → H) (W : World) (fuel : Nat) (t : TypeId) (cs : List Value) : Option (DataW H × List MemPlace) := DataW.trod enc Tryz.prog W 0 (fun _ => true) true fuel t cs
theorem cells_val : Tryz.prog.cellsOf 27 = 8 := by kernel_rfl
theorem cells_mem : Tryz.prog.cellsOf 43 = 9 := by kernel_rfl
theorem bytes_val : Tryz.prog.bytesOf 27 = 112 := by kernel_rfl
theorem bytes_mem : Tryz.prog.bytesOf 43 = 128 := by kernel_rfl
theorem trod_dec {fuel : Nat} {cs : List Value} {d : DataW H} {ps : List MemPlace} (h : trodV enc W fuel 23 cs = some (d, ps)) (hw : ∀ n ∈ d.weights Tryz.prog 23, n ≤ reachBytes) :
 ∃ x : Num, cs = [.bool x.neg, .string ⟨x.digits.toArray⟩, .int .i64 x.exp] ∧ i64R x.exp ∧ x.digits.length ≤ 140737488355328 := by
 cases fuel with
 | zero => simp [trodV, DataW.trod] at h
 | succ fuel =>
   unfold trodV DataW.trod at h; rw [Tryz.underlying23] at h; simp only at h; split at h
   · next hc =>
     rw [Option.map_eq_some_iff] at h; obtain ⟨xs, hm, h⟩ := h; simp only [List.mapM_cons, List.mapM_nil, Option.bind_eq_bind, Option.bind_eq_some_iff, Option.pure_def, Option.some.injEq] at hm; obtain ⟨x0, h0, r0, ⟨x1, h1, r1, ⟨x2, h2, r2, rfl, rfl⟩, rfl⟩, rfl⟩ := hm; obtain ⟨b, e0, rfl⟩ := DataW.trod_bool Tryz.underlying4 h0; obtain ⟨s, e1, rfl, hs⟩ := DataW.trod_string Tryz.underlying9 h1
     obtain ⟨n, e2, rfl, hn⟩ := DataW.trod_int Tryz.underlying3 h2; have c3 : Tryz.prog.cellsOf 23 = 3 := by kernel_rfl
     have cb : Tryz.prog.cellsOf 4 = 1 := by kernel_rfl
     have cs' : Tryz.prog.cellsOf 9 = 1 := by kernel_rfl
     have ci : Tryz.prog.cellsOf 3 = 1 := by kernel_rfl
     rw [c3] at hc; rw [cb] at e0; rw [cs'] at e1; rw [ci] at e2; match cs, hc with
     | [y0, y1, y2], _ =>
       simp at e0 e1 e2; subst e0 e1 e2; simp only [Prod.mk.injEq] at h; have hsl : s.data.toList.length ≤ reachBytes := hw _ (by
        rw [← h.1, DataW.weights, Tryz.underlying23]; simp [DataW.weightsEach, DataW.weights])
       refine ⟨⟨b, s.data.toList, n⟩, by simp, ?_, Nat.le_trans hsl (by decide)⟩; simpa [Lit.wf, IntKind.min, IntKind.max, IntKind.signed, IntKind.bits, i64R] using hn
   · cases h
theorem trod_val (W : World) : ∀ (fuel : Nat) (cs : List Value) (d : DataW H) (ps : List MemPlace), trodV enc W fuel 27 cs = some (d, ps) → (∀ n ∈ d.weights Tryz.prog 27, n ≤ reachBytes) → ∃ t, TV W (fun _ => True) t ⟨cs⟩ ∧ okT t := by
 intro fuel; induction fuel using Nat.strongRecOn with
 | ind fuel ih =>
 intro cs d ps h hw; cases fuel with
 | zero => simp [trodV, DataW.trod] at h
 | succ fuel =>
   unfold trodV DataW.trod at h; rw [Tryz.underlying27] at h; simp only at h; split at h
   · next hc =>
     rw [Option.map_eq_some_iff] at h; obtain ⟨xs, hm, h⟩ := h; simp only [List.mapM_cons, List.mapM_nil, Option.bind_eq_bind, Option.bind_eq_some_iff, Option.pure_def, Option.some.injEq] at hm; obtain ⟨x0, h0, r0, ⟨x1, h1, r1, ⟨x2, h2, r2, ⟨x3, h3, r3, ⟨x4, h4, r4, ⟨x5, h5, r5, rfl, rfl⟩, rfl⟩, rfl⟩, rfl⟩, rfl⟩, rfl⟩ := hm; simp only [Prod.mk.injEq] at h
     have hwd : ∀ n ∈ DataW.weightsEach Tryz.prog [3, 4, 23, 9, 24, 25] [x0.1, x1.1, x2.1, x3.1, x4.1, x5.1], n ≤ reachBytes := fun n hn => hw n (by
      rw [← h.1, DataW.weights, Tryz.underlying27]; exact hn)
     simp only [DataW.weightsEach, List.append_nil, List.mem_append] at hwd; rw [cells_val] at hc; match cs, hc with
     | [y0, y1, y2, y3, y4, y5, y6, y7], _ =>
     have cb : Tryz.prog.cellsOf 4 = 1 := by kernel_rfl
     have cs' : Tryz.prog.cellsOf 9 = 1 := by kernel_rfl
     have ci : Tryz.prog.cellsOf 3 = 1 := by kernel_rfl
     have cd : Tryz.prog.cellsOf 23 = 3 := by kernel_rfl
     have cl : Tryz.prog.cellsOf 24 = 1 := by kernel_rfl
     have cm : Tryz.prog.cellsOf 25 = 1 := by kernel_rfl
     rw [ci] at h0; rw [cb] at h1; rw [cd] at h2; rw [cs'] at h3; rw [cl] at h4; rw [cm] at h5; simp only [List.drop_zero, List.drop_succ_cons, List.take_succ_cons, List.take_zero] at h0 h1 h2 h3 h4 h5; obtain ⟨n, e0, rfl, hn⟩ := DataW.trod_int Tryz.underlying3 h0; obtain ⟨b, e1, rfl⟩ := DataW.trod_bool Tryz.underlying4 h1
     obtain ⟨x, e2, hx1, hx2⟩ := trod_dec (d := x2.1) (ps := x2.2) h2 (fun n hn => hwd n (.inr (.inr (.inl hn)))); obtain ⟨s, e3, rfl, hs⟩ := DataW.trod_string Tryz.underlying9 h3; simp only [List.cons.injEq, and_true] at e0 e1 e2 e3; obtain ⟨rfl, rfl, rfl⟩ := e2; subst e0 e1 e3; have hsl : s.data.toList.length ≤ reachBytes := hwd _ (.inr (.inr (.inr (.inl (by simp [DataW.weights])))))
     have hk : i64R n := by simpa [Lit.wf, IntKind.min, IntKind.max, IntKind.signed, IntKind.bits, i64R] using hn
     have hL : ∃ l cl, TL W (fun _ => True) l cl ∧ RowAt W (fun _ => True) 8 y6 l.length cl ∧ okL l ∧ l.length ≤ 140737488355328 := by
      cases fuel with
      | zero => simp [DataW.trod] at h4
      | succ fuel =>
        rcases trod_slice (d := x4.1) (ps := x4.2) Tryz.underlying24 (by rw [cells_val]; decide) h4 with ⟨e, _⟩ | ⟨a, n, cap, elems, spare, e, hnc, hcm, hd, hel, hcell⟩
        · simp only [List.cons.injEq, and_true] at e; subst e; exact ⟨[], [], .nil, RowAt.nil _ _ _ _ _ (by omega), trivial, by simp⟩
        · simp only [List.cons.injEq, and_true] at e; subst e; have hwl : (elems.length + spare.length) * Tryz.prog.bytesOf 27 ≤ reachBytes ∧ ∀ n ∈ DataW.weightsAll Tryz.prog 27 elems, n ≤ reachBytes := by
           have h6 : ∀ n ∈ (x4.1).weights Tryz.prog 24, n ≤ reachBytes := fun n hn => hwd n (.inr (.inr (.inr (.inr (.inl hn))))); rw [hd, DataW.weights, Tryz.underlying24] at h6; exact ⟨h6 _ List.mem_cons_self, fun n hn => h6 n (List.mem_cons_of_mem _ (List.mem_append_left _ hn))⟩
          rw [bytes_val] at hwl; have hn47 : n ≤ 140737488355328 := by have := hwl.1; rw [hel] at this; simp only [reachBytes] at this; omega
          rcases Nat.eq_zero_or_pos n with hz | hz
          · subst hz; exact ⟨[], [], .nil, RowAt.nil _ _ _ _ _ (by simp only [maxLen] at hcm; omega), trivial, by simp⟩
          · obtain ⟨_, c0, _, _, _, hc0, hcell0⟩ := hcell 0 hz; rw [cells_val] at hcell0 hc0; have hsp : a.spot = none := by
             have := hcell0 0 (by omega); rw [List.getElem?_eq_getElem (by omega)] at this; have := World.cell?_spot this; simpa [Addr.add] using this
            obtain ⟨g, o, sp⟩ := a; simp only at hsp; subst hsp; have hg : g < W.heap.size := by
             have := hcell0 0 (by omega); rw [List.getElem?_eq_getElem (by omega)] at this; have := World.block_lt_of_cell? _ _ this; simpa [Addr.add] using this
            obtain ⟨l, cl, h7, h8, h9, h10⟩ := tl_build (W := W) (A := fun _ => True) (g := g) (o := o) n (fun i hi => by
             obtain ⟨x, c, ps', hxe, htx, hcl, hcc⟩ := hcell i hi; obtain ⟨t, ht1, ht2⟩ := ih fuel (by omega) c x ps' htx (fun n hn => hwl.2 n (weightsAll_mem (List.mem_of_getElem? hxe) n hn)); refine ⟨t, ⟨c⟩, ht1, ht2, fun j hj => ?_⟩; rw [cells_val] at hcc; have := hcc j hj; rw [add_plain, add_plain] at this; rw [this]; simp)
            refine ⟨l, cl, h8, ⟨by rw [h8.length], some ⟨g, o, none⟩, cap, by rw [h7], by omega, by simp only [maxLen] at hcm; omega, fun _ => ⟨g, o, rfl, trivial, hg, h10⟩⟩, h9, by omega⟩
     have hM : ∃ m cm, TM W (fun _ => True) m cm ∧ RowAt W (fun _ => True) 9 y7 m.length cm ∧ okM m ∧ m.length ≤ 140737488355328 := by
      cases fuel with
      | zero => simp [DataW.trod] at h5
      | succ fuel =>
        rcases trod_slice (d := x5.1) (ps := x5.2) Tryz.underlying25 (by rw [cells_mem]; decide) h5 with ⟨e, _⟩ | ⟨a, n, cap, elems, spare, e, hnc, hcm, hd, hel, hcell⟩
        · simp only [List.cons.injEq, and_true] at e; subst e; exact ⟨[], [], .nil, RowAt.nil _ _ _ _ _ (by omega), trivial, by simp⟩
        · simp only [List.cons.injEq, and_true] at e; subst e; have hwl : (elems.length + spare.length) * Tryz.prog.bytesOf 43 ≤ reachBytes ∧ ∀ n ∈ DataW.weightsAll Tryz.prog 43 elems, n ≤ reachBytes := by
           have h6 : ∀ n ∈ (x5.1).weights Tryz.prog 25, n ≤ reachBytes := fun n hn => hwd n (.inr (.inr (.inr (.inr (.inr hn))))); rw [hd, DataW.weights, Tryz.underlying25] at h6; exact ⟨h6 _ List.mem_cons_self, fun n hn => h6 n (List.mem_cons_of_mem _ (List.mem_append_left _ hn))⟩
          rw [bytes_mem] at hwl; have hn47 : n ≤ 140737488355328 := by have := hwl.1; rw [hel] at this; simp only [reachBytes] at this; omega
          rcases Nat.eq_zero_or_pos n with hz | hz
          · subst hz; exact ⟨[], [], .nil, RowAt.nil _ _ _ _ _ (by simp only [maxLen] at hcm; omega), trivial, by simp⟩
          · obtain ⟨_, c0, _, _, _, hc0, hcell0⟩ := hcell 0 hz; rw [cells_mem] at hcell0 hc0; have hsp : a.spot = none := by
             have := hcell0 0 (by omega); rw [List.getElem?_eq_getElem (by omega)] at this; have := World.cell?_spot this; simpa [Addr.add] using this
            obtain ⟨g, o, sp⟩ := a; simp only at hsp; subst hsp; have hg : g < W.heap.size := by
             have := hcell0 0 (by omega); rw [List.getElem?_eq_getElem (by omega)] at this; have := World.block_lt_of_cell? _ _ this; simpa [Addr.add] using this
            obtain ⟨l, cl, h7, h8, h9, h10⟩ := tm_build (W := W) (A := fun _ => True) (g := g) (o := o) n (fun i hi => by
             obtain ⟨x, c, ps', hxe, htx, hcl, hcc⟩ := hcell i hi; rw [cells_mem] at hcc hcl; have hwx : ∀ n ∈ x.weights Tryz.prog 43, n ≤ reachBytes := fun n hn => hwl.2 n (weightsAll_mem (List.mem_of_getElem? hxe) n hn); cases fuel with
             | zero => simp [DataW.trod] at htx
             | succ fuel =>
               unfold DataW.trod at htx; rw [Tryz.underlying43] at htx; simp only at htx; split at htx
               · rw [Option.map_eq_some_iff] at htx; obtain ⟨xs, hm, htx⟩ := htx; simp only [List.mapM_cons, List.mapM_nil, Option.bind_eq_bind, Option.bind_eq_some_iff, Option.pure_def, Option.some.injEq] at hm; obtain ⟨z0, k0, _, ⟨z1, k1, _, rfl, rfl⟩, rfl⟩ := hm; rw [cs'] at k0; rw [cells_val] at k1; match c, hcl with
                 | [u0, u1, u2, u3, u4, u5, u6, u7, u8], _ =>
                 simp only [List.drop_zero, List.drop_succ_cons, List.take_succ_cons, List.take_zero] at k0 k1; obtain ⟨s, e3, rfl, hs⟩ := DataW.trod_string Tryz.underlying9 k0; simp only [List.cons.injEq, and_true] at e3; subst e3; simp only [Prod.mk.injEq] at htx; have hwm : ∀ n ∈ DataW.weightsEach Tryz.prog [9, 27] [(DataW.lit (Lit.string s.data.toList) : DataW H), z1.1], n ≤ reachBytes := fun n hn => hwx n (by
                  rw [← htx.1, DataW.weights, Tryz.underlying43]; exact hn)
                 simp only [DataW.weightsEach, List.append_nil, List.mem_append] at hwm; have hkl : s.data.toList.length ≤ reachBytes := hwm _ (.inl (by simp [DataW.weights])); obtain ⟨t, ht1, ht2⟩ := ih fuel (by omega) _ z1.1 z1.2 k1 (fun n hn => hwm n (.inr hn)); refine ⟨s.data.toList, t, _, ht1, Nat.le_trans hkl (by decide), ht2, ?_, fun j hj => ?_⟩
                 · have := hcc 0 (by omega); rw [add_plain, add_plain] at this; simpa using this
                 · have := hcc (j + 1) (by omega); rw [add_plain, add_plain] at this; rw [show o + i * 9 + 1 + j = o + i * 9 + (j + 1) by omega, this]; simp
               · cases htx)
            refine ⟨l, cl, h8, ⟨by rw [h8.length], some ⟨g, o, none⟩, cap, by rw [h7], by omega, by simp only [maxLen] at hcm; omega, fun _ => ⟨g, o, rfl, trivial, hg, h10⟩⟩, h9, by omega⟩
     obtain ⟨l, cl', a1, a2, a3, a4⟩ := hL; obtain ⟨m, cm', b1, b2, b3, b4⟩ := hM; refine ⟨.mk n b x s.data.toList l m, ?_, ?_⟩
     · have := TV.mk (k := n) (b := b) (d := x) (s := s.data.toList) a1 a2 b1 b2; simpa [cellsV] using this
     · rw [okT]; exact ⟨hk, hx1, hx2, Nat.le_trans hsl (by decide), a4, b4, a3, b3⟩
   · cases h
end
end Go.Proofs.YtjapbjmeoaagmaaGreatDoor
end

section
set_option maxRecDepth 100000
namespace Go.Proofs.YtjapbjmeoaagmaaGreatDoor
open Go.RowKit Go.Mem Orange
abbrev cellsS (s : PStep) : Array Value := #[.string ⟨s.name.toArray⟩, .int .i64 s.pos, .bool s.named]
def SpAt (w : World) (q : Nat) (s : PStep) : Prop := w.heap[q]? = some (.cells (cellsS s) 46 (0, 0))
theorem SpAt.ext {w w' : World} {q : Nat} {s : PStep} (h : SpAt w q s) (hb : Ext w w') : SpAt w' q s := by
 unfold SpAt; rw [hb.block _ (Array.getElem?_eq_some_iff.1 h).1]; exact h
theorem SpAt.cell {w : World} {q : Nat} {s : PStep} (h : SpAt w q s) : w.cell? ⟨q, 0, none⟩ = some (.string ⟨s.name.toArray⟩) ∧ w.cell? ⟨q, 1, none⟩ = some (.int .i64 s.pos) ∧ w.cell? ⟨q, 2, none⟩ = some (.bool s.named) := ⟨by rw [cell_of_cells h]; rfl, by rw [cell_of_cells h]; rfl, by rw [cell_of_cells h]; rfl⟩
end Go.Proofs.YtjapbjmeoaagmaaGreatDoor
end

section
set_option maxRecDepth 100000
namespace Go.GrowS
open Go.Mem Go.RowKit
section
variable {P : Program} {ops : Array Oper} {md : Region.Mode} {G : Nat → World → World → Prop} {E : List PanicEntry → World → Prop} {B : Nat → World → Prop} {anc : Nat → List Nat} {I : Nat → Act → Option (Spec G)}
theorem not_readyF {n i t : Nat} {listed : Array Bool} {wt : Nat → List Nat} (hW : ancOk md ops wt = true) (hwt : ∀ t i, n ≤ t → i < n → t < ops.size → i ∈ wt t) (hi : i < n) (hun : listed.getD i true = false) (ht : n ≤ t) (inv : Closed md ops listed) : t ∉ Region.ready md ops listed := by
 intro hr; obtain ⟨hun', ot, hot, hall⟩ := mem_ready.1 hr; have h1 := anc_listed hW inv t ot hot hall i (hwt t i ht hi (Array.getElem?_eq_some_iff.1 hot).1); rw [getD_both hun] at h1; cases h1
theorem anyGL_firstF {n i : Nat} {oi : Oper} {u : Value → Prop} {f : Env → Value → Env} {L : Array Bool → Act → Env → Prop} (hk : Keeps ops anc I) (hA : ancOk md ops anc = true) (hi : ops[i]? = some oi) (hsel : ∀ (j : Nat) (o : Oper) cs b, ops[j]? = some o → o.op ≠ .select cs b)
 {wt : Nat → List Nat} (hW : ancOk md ops wt = true) (hwt : ∀ t i, n ≤ t → i < n → t < ops.size → i ∈ wt t) (hin : i < n)
 (hdone : ∀ listed a F, L listed a F → ∀ j ∈ Region.ready md ops listed, n ≤ j) :
 ∀ (fuel : Nat) (listed : Array Bool) (a : Act) (F : Env), Closed md ops listed →
   (∀ j oj, ops[j]? = some oj → j ≠ i → listed.getD j true = false → (∀ e ∈ oj.after, Region.binds md e = true → e.on ≠ i) → oi.apart ops oj = true) →
   i ∈ Region.ready md ops listed → Shows P ops G E B anc I i oi a F u f →
   (∀ v, u v → anyGL P md ops G E B anc I n L fuel (listed.setIfInBounds i true) (a.put oi.dst v) (f F v)) → anyGL P md ops G E B anc I n L (fuel + 1) listed a F := by
 intro fuel; induction fuel with
 | zero =>
   intro listed a F inv _ hr hy H; have hun := (mem_ready.1 hr).1; refine ⟨fun h => (by rw [h] at hr; cases hr), fun j hj => ?_⟩; have hjn : j < n := by
    rcases Nat.lt_or_ge j n with h | h
    · exact h
    · exact absurd hj (not_readyF hW hwt hin hun h inv)
   refine ⟨hjn, ?_⟩; by_cases hji : j = i
   · subst hji; exact hy.opG hi H
   · obtain ⟨v, hv⟩ := hy.inh; have := hdone _ _ _ (H v hv) j (ready_mono hj hji); omega
 | succ fuel ih =>
   intro listed a F inv hfree hr hy H; have hun := (mem_ready.1 hr).1; refine ⟨fun h => (by rw [h] at hr; cases hr), fun j hj => ?_⟩; have hjn : j < n := by
    rcases Nat.lt_or_ge j n with h | h
    · exact h
    · exact absurd hj (not_readyF hW hwt hin hun h inv)
   refine ⟨hjn, ?_⟩; by_cases hji : j = i
   · subst hji; exact hy.opG hi H
   · obtain ⟨hjun, oj, hoj, hall⟩ := mem_ready.1 hj; have hnot : ∀ e ∈ oj.after, Region.binds md e = true → e.on ≠ i := fun e he hb heq => by
      have h1 := hall e he hb; rw [heq, getD_both hun] at h1; cases h1
     have h2 := opG_put hk hi (Ne.symm hji) hoj (hfree j oj hoj hji hjun hnot) (fun cs b => hsel i oi cs b hi) (fun cs b => hsel j oj cs b hoj) (anc_not hA inv hr hj) (anc_not hA inv hj hr) hy
      (fun v hv => ((H v hv).2 j (ready_mono hj hji)).2)
     have hfree' : ∀ k ok, ops[k]? = some ok → k ≠ i → (listed.setIfInBounds j true).getD k true = false →
      (∀ e ∈ ok.after, Region.binds md e = true → e.on ≠ i) → oi.apart ops ok = true := fun k ok hk hki hun hno => by
      refine hfree k ok hk hki ?_ hno; by_cases hjk : j = k
      · subst hjk; exact hjun
      · rw [getD_set_ne true hjk] at hun; exact hun
     refine opG_mono (fun a' F' h3 => ih (listed.setIfInBounds j true) a' F' (inv.set hj) hfree' (ready_mono hr (Ne.symm hji)) h3.1 ?_) h2; rw [Array.setIfInBounds_comm _ _ hji]; exact h3.2
theorem anyGL_lexF {n : Nat} {target : Array Bool} {Lq : Act → Env → Prop} (hkk : Keeps ops anc I) (hA : ancOk md ops anc = true) (hsel : Region.noSelect ops = true) {wt : Nat → List Nat} (hW : ancOk md ops wt = true) (hwt : ∀ t i, n ≤ t → i < n → t < ops.size → i ∈ wt t) (hrd : ∀ j ∈ Region.ready md ops target, n ≤ j) :
 ∀ (l : List Oper) (k : Nat) (listed : Array Bool) (a : Act) (F : Env), (∀ j, j < l.length → l[j]? = ops[k + j]?) → k + l.length = n → Closed md ops listed →
 lexRest md ops target l.length k listed = true → walk P ops G E B anc I Lq l k a F →
 anyGL P md ops G E B anc I n (fun listed' a' F' => listed' = target ∧ Lq a' F') l.length listed a F
 | [], k, listed, a, F, _, hk, _, hB, h => by
   have : k = n := by simpa using hk
   subst this; exact ⟨by simpa [lexRest] using hB, h⟩
 | o :: l, k, listed, a, F, hl, hk, inv, hB, h => by
   have h0 : ops[k]? = some o := by simpa using (hl 0 (by simp)).symm
   simp only [List.length_cons, lexRest, Bool.and_eq_true] at hB; obtain ⟨⟨hr, hf⟩, hB'⟩ := hB; have hkn : k < n := by simp only [List.length_cons] at hk; omega
   have hr' : k ∈ Region.ready md ops listed := by simpa using hr
   obtain ⟨u, f, hy, hK⟩ := shows_of (P := P) (ops := ops) (G := G) (B := B) (anc := anc) (I := I) (K := walk P ops G E B anc I Lq l (k + 1)) h; exact anyGL_firstF hkk hA h0 (Region.noSelect_spec hsel) hW hwt hkn (fun listed' a' F' hL => (by rw [hL.1]; exact hrd)) l.length listed a F inv (Region.free_spec h0 hf) hr' hy
    (fun v hv => anyGL_lexF hkk hA hsel hW hwt hrd l (k + 1) _ _ _ (fun j hj => by have := hl (j + 1) (by simp; omega); simpa [Nat.add_assoc, Nat.add_comm 1 j] using this) (by simp only [List.length_cons] at hk; omega) (inv.set hr') hB' (hK v hv))
def restTB (md : Region.Mode) (ops : Array Oper) (n : Nat) (wt : Nat → List Nat) (target : Array Bool) : Bool :=
 Region.noSelect ops && decide (n ≤ ops.size) && ((List.range ops.size).all fun t => decide (t < n) || (List.range n).all fun i => (wt t).contains i) && ((Region.ready md ops target).all fun j => decide (n ≤ j)) && lexRest md ops target n 0 (Array.replicate ops.size false) && ancOk md ops wt
theorem wp_region_restTA {id : Nat} {Q : Exit → Act → World → Prop} {a : Act} {w : World} {l : List Oper} (n : Nat) (wt : Nat → List Nat) (target : Array Bool) (hkk : Keeps l.toArray anc I) (hm : P.follows .mixedOrders = true) (hB : restTB .any l.toArray n wt target = true) (hA : ancOk .any l.toArray anc = true)
 {Inv : Array Bool → World → Prop} (hI0 : InvOk .any l.toArray G B Inv) (hE : ∀ ch a' w, a'.defers = a.defers → E ch w → Q (.panic ch) a' w) (hw : Inv (Array.replicate l.length false) w.drew)
 (h : walk P l.toArray G E B anc I (fun a' F => ∀ w', Inv target w' → (∀ k, F k w') → wpAny P .any l.toArray Q (l.length - n) target a' w') (l.take n) 0 a (fun _ _ => True)) : (Code.region id l.toArray true).wp P Q a w := by
 simp only [restTB, Bool.and_eq_true, decide_eq_true_eq] at hB; obtain ⟨⟨⟨⟨⟨hsel, hn⟩, hwt0⟩, hrd0⟩, hlex⟩, hW⟩ := hB; have hn' : n ≤ l.length := by simpa using hn
 have htl : (l.take n).length = n := by simp; omega
 have hrd : ∀ j ∈ Region.ready .any l.toArray target, n ≤ j := fun j hj => by have := List.all_eq_true.1 hrd0 j hj; simpa using this
 have hwt : ∀ t i, n ≤ t → i < n → t < l.toArray.size → i ∈ wt t := fun t i ht hi hts => by
  have h1 := List.all_eq_true.1 hwt0 t (List.mem_range.2 hts); simp only [Bool.or_eq_true, decide_eq_true_eq] at h1; rcases h1 with h1 | h1
  · omega
  · simpa using List.all_eq_true.1 h1 i (List.mem_range.2 hi)
 have inv0 : Closed .any l.toArray (Array.replicate l.toArray.size false) := fun j oj _ hl => (by rw [getD_replicate_false] at hl; cases hl); have H := anyGL_lexF (P := P) (G := G) (E := E) (B := B) (anc := anc) (I := I) (md := .any) (target := target) hkk hA hsel hW hwt hrd (l.take n) 0 _ a (fun _ _ => True) (fun j hj => by
  have hj' : j < n := by rw [htl] at hj; exact hj
  simp [hj']) (by simpa using htl) inv0 (by rw [htl]; exact hlex) h
 refine wp_region_any hm ?_; have := wpAny_of_headG (Q' := Q) (g := l.toArray.size - n) hI0 hE (fun listed a' F' w' hb hf hL => by
  obtain ⟨rfl, h2⟩ := hL; have := h2 w' hb hf; simpa using this) _ _ _ (fun _ _ => True) _ rfl (by simpa using hw) (fun _ => trivial) (fun _ _ _ _ _ _ => trivial) H
 rw [htl, show n + (l.toArray.size - n) = l.toArray.size by omega] at this; exact this
end
section
variable {P : Program} {G : Nat → World → World → Prop} {E : List PanicEntry → World → Prop} {B : Nat → World → Prop} {anc : Nat → List Nat}
theorem wp_region_restT {id : Nat} {Q : Exit → Act → World → Prop} {a : Act} {w : World} {l : List Oper} (sp : Nat) {B0 B1 : World → Prop} {G0 G1 : World → World → Prop} {I : Nat → Option (Spec (gS sp G0 G1))} (n : Nat) (wt : Nat → List Nat) (target : Array Bool) (hm : P.follows .mixedOrders = true) (hB : restTB .any l.toArray n wt target = true) (hA : ancOk .any l.toArray anc = true)
 (hg : unguardedB l.toArray sp = true) (hsp0 : (Array.replicate l.length false).getD sp true = false) (hsp1 : target.getD sp true = true)
 (h00 : ∀ w w', B0 w → G0 w w' → B0 w') (h11 : ∀ w w', B1 w → G0 w w' → B1 w') (h01 : ∀ w w', B0 w → G1 w w' → B1 w') (hE : ∀ ch a' w, a'.defers = a.defers → E ch w → Q (.panic ch) a' w) (hw : B0 w.drew)
 (h : Wk P l.toArray (gS sp G0 G1) E (atS sp B0 B1) anc (fun j _ => I j) (fun a' F => ∀ w', B1 w' → (∀ k, F k w') → wpAny P .any l.toArray Q (l.length - n) target a' w') (l.take n) 0 a (fun _ _ => True)) : (Code.region id l.toArray true).wp P Q a w := by
 refine wp_region_restTA (I := fun j _ => I j) (Inv := invS sp B0 B1) n wt target (fun _ _ _ _ _ _ _ _ _ _ => rfl) hm hB hA (invS_ok hg h00 h11 h01) hE ?_ ?_
 · unfold invS; rw [hsp0]; exact hw
 · have : invS sp B0 B1 target = B1 := by funext w; unfold invS; rw [hsp1]; rfl
   rw [this]; exact h.out
end
section
variable {P : Program} {ops : Array Oper} {md : Region.Mode} {G : Nat → World → World → Prop} {E : List PanicEntry → World → Prop} {B : Nat → World → Prop} {anc : Nat → List Nat} {I : Nat → Act → Option (Spec G)}
theorem any_restTA {Q : Exit → Act → World → Prop} {a : Act} {w : World} {l : List Oper} (n : Nat) (wt : Nat → List Nat) (target : Array Bool) (hkk : Keeps l.toArray anc I) (hB : restTB .any l.toArray n wt target = true) (hA : ancOk .any l.toArray anc = true)
 {Inv : Array Bool → World → Prop} (hI0 : InvOk .any l.toArray G B Inv) (hE : ∀ ch a' w, a'.defers = a.defers → E ch w → Q (.panic ch) a' w) (hw : Inv (Array.replicate l.length false) w.drew)
 (h : walk P l.toArray G E B anc I (fun a' F => ∀ w', Inv target w' → (∀ k, F k w') → wpAny P .any l.toArray Q (l.length - n) target a' w') (l.take n) 0 a (fun _ _ => True)) : wpAny P .any l.toArray Q l.toArray.size (Array.replicate l.toArray.size false) a w.drew := by
 simp only [restTB, Bool.and_eq_true, decide_eq_true_eq] at hB; obtain ⟨⟨⟨⟨⟨hsel, hn⟩, hwt0⟩, hrd0⟩, hlex⟩, hW⟩ := hB; have hn' : n ≤ l.length := by simpa using hn
 have htl : (l.take n).length = n := by simp; omega
 have hrd : ∀ j ∈ Region.ready .any l.toArray target, n ≤ j := fun j hj => by have := List.all_eq_true.1 hrd0 j hj; simpa using this
 have hwt : ∀ t i, n ≤ t → i < n → t < l.toArray.size → i ∈ wt t := fun t i ht hi hts => by
  have h1 := List.all_eq_true.1 hwt0 t (List.mem_range.2 hts); simp only [Bool.or_eq_true, decide_eq_true_eq] at h1; rcases h1 with h1 | h1
  · omega
  · simpa using List.all_eq_true.1 h1 i (List.mem_range.2 hi)
 have inv0 : Closed .any l.toArray (Array.replicate l.toArray.size false) := fun j oj _ hl => (by rw [getD_replicate_false] at hl; cases hl); have H := anyGL_lexF (P := P) (G := G) (E := E) (B := B) (anc := anc) (I := I) (md := .any) (target := target) hkk hA hsel hW hwt hrd (l.take n) 0 _ a (fun _ _ => True) (fun j hj => by
  have hj' : j < n := by rw [htl] at hj; exact hj
  simp [hj']) (by simpa using htl) inv0 (by rw [htl]; exact hlex) h
 have := wpAny_of_headG (Q' := Q) (g := l.toArray.size - n) hI0 hE (fun listed a' F' w' hb hf hL => by
  obtain ⟨rfl, h2⟩ := hL; have := h2 w' hb hf; simpa using this) _ _ _ (fun _ _ => True) _ rfl (by simpa using hw) (fun _ => trivial) (fun _ _ _ _ _ _ => trivial) H
 rw [htl, show n + (l.toArray.size - n) = l.toArray.size by omega] at this; exact this
end
section
variable {P : Program} {G : Nat → World → World → Prop} {E : List PanicEntry → World → Prop} {B : Nat → World → Prop} {anc : Nat → List Nat}
end
section
variable {P : Program} {G : Nat → World → World → Prop} {E : List PanicEntry → World → Prop} {B : Nat → World → Prop} {anc : Nat → List Nat}
theorem walk_monoQ {ops : Array Oper} {I : Nat → Act → Option (Spec G)} {Q Q' : Act → Env → Prop} (hq : ∀ a F, Q a F → Q' a F) : ∀ {l : List Oper} {k : Nat} {a : Act} {F : Env}, walk P ops G E B anc I Q l k a F → walk P ops G E B anc I Q' l k a F
 | [], _, _, _, h => hq _ _ h
 | o :: l, k, a, F, h => by
   unfold walk at h ⊢; split
   · next hw =>
     rw [if_pos hw] at h; cases hI : I k a with
     | none =>
       rw [hI] at h; simp only at h ⊢; obtain ⟨v, h1, h2⟩ := h; exact ⟨v, h1, walk_monoQ hq h2⟩
     | some s =>
       rw [hI] at h; simp only at h ⊢; exact ⟨h.1, fun v hv => walk_monoQ hq (h.2 v hv)⟩
   · next hw =>
     rw [if_neg hw] at h; exact walk_monoQ hq h
def atW (sp : Nat) (wt : Nat → List Nat) (B0 B1 : World → Prop) : Nat → World → Prop := fun i w => if i = sp ∨ (wt sp).contains i = true then B0 w else B0 w ∨ B1 w
theorem invW_ok {md : Region.Mode} {ops : Array Oper} {sp : Nat} {wt : Nat → List Nat} {B0 B1 : World → Prop} {G0 G1 : World → World → Prop} (hW : ancOk md ops wt = true) (hg : unguardedB ops sp = true) (h00 : ∀ w w', B0 w → G0 w w' → B0 w') (h11 : ∀ w w', B1 w → G0 w w' → B1 w') (h01 : ∀ w w', B0 w → G1 w w' → B1 w') :
 InvOk md ops (gS sp G0 G1) (atW sp wt B0 B1) (fun listed w => invS sp B0 B1 listed w ∧ Closed md ops listed ∧ listed.size = ops.size) := by
 have h := invS_ok (md := md) (ops := ops) hg h00 h11 h01; refine ⟨fun listed i w hw hi => ?_, fun listed i w w' hw hi hg' => ⟨h.last listed i w w' hw.1 hi hg', hw.2.1.set hi, by simpa using hw.2.2⟩, fun listed i o w hw hi ho hgo => ⟨h.skip listed i o w hw.1 hi ho hgo, hw.2.1.set hi, by simpa using hw.2.2⟩⟩; have h1 := h.pre listed i w hw.1 hi; unfold atW; unfold atS at h1; by_cases e : i = sp
 · rw [if_pos (.inl e)]; rwa [if_pos e] at h1
 · rw [if_neg e] at h1; by_cases hc : (wt sp).contains i = true
   · rw [if_pos (.inr hc)]; have h2 := hw.1; unfold invS at h2; split at h2
     · next hl =>
       exfalso
       have hos : ∃ o, ops[sp]? = some o := by
        unfold unguardedB at hg; cases ho : ops[sp]? with
        | none => rw [ho] at hg; cases hg
        | some o => exact ⟨o, rfl⟩
       obtain ⟨o, ho⟩ := hos; have hsz : sp < listed.size := by rw [hw.2.2]; exact (Array.getElem?_eq_some_iff.1 ho).1
       have h3 := anc_listed hW hw.2.1 sp o ho (hw.2.1 sp o ho (by simpa [Array.getD, hsz] using hl)) i (by simpa using hc); have h4 := (mem_ready.1 hi).1; by_cases hb : i < listed.size
       · simp [Array.getD, hb] at h3 h4; rw [h3] at h4; cases h4
       · simp [Array.getD, hb] at h3
     · exact h2
   · rw [if_neg (by simp only [not_or]; exact ⟨e, hc⟩)]; exact h1
theorem any_restW {Q : Exit → Act → World → Prop} {a : Act} {w : World} {l : List Oper} (sp : Nat) {B0 B1 : World → Prop} {G0 G1 : World → World → Prop} {I : Nat → Option (Spec (gS sp G0 G1))} (n : Nat) (wt : Nat → List Nat) (target : Array Bool) (hB : restTB .any l.toArray n wt target = true) (hA : ancOk .any l.toArray anc = true)
 (hg : unguardedB l.toArray sp = true) (hsp0 : (Array.replicate l.length false).getD sp true = false) (hsp1 : target.getD sp true = true)
 (h00 : ∀ w w', B0 w → G0 w w' → B0 w') (h11 : ∀ w w', B1 w → G0 w w' → B1 w') (h01 : ∀ w w', B0 w → G1 w w' → B1 w') (hE : ∀ ch a' w, a'.defers = a.defers → E ch w → Q (.panic ch) a' w) (hw : B0 w.drew)
 (h : Wk P l.toArray (gS sp G0 G1) E (atW sp wt B0 B1) anc (fun j _ => I j) (fun a' F => ∀ w', B1 w' → (∀ k, F k w') → wpAny P .any l.toArray Q (l.length - n) target a' w') (l.take n) 0 a (fun _ _ => True)) : wpAny P .any l.toArray Q l.toArray.size (Array.replicate l.toArray.size false) a w.drew := by
 have hW : ancOk .any l.toArray wt = true := by
  simp only [restTB, Bool.and_eq_true] at hB; exact hB.2
 refine any_restTA (I := fun j _ => I j) (Inv := fun listed w => invS sp B0 B1 listed w ∧ Closed .any l.toArray listed ∧ listed.size = l.toArray.size) n wt target (fun _ _ _ _ _ _ _ _ _ _ => rfl) hB hA (invW_ok hW hg h00 h11 h01) hE ⟨?_, ?_, by simp⟩ ?_
 · unfold invS; rw [hsp0]; exact hw
 · exact fun j oj _ hl => (by rw [getD_replicate_false] at hl; cases hl)
 · refine walk_monoQ (fun a' F hq w' hi hF => hq w' ?_ hF) h.out; have h1 := hi.1; unfold invS at h1; rwa [if_pos hsp1] at h1
theorem wp_region_restW {id : Nat} {Q : Exit → Act → World → Prop} {a : Act} {w : World} {l : List Oper} (sp : Nat) {B0 B1 : World → Prop} {G0 G1 : World → World → Prop} {I : Nat → Option (Spec (gS sp G0 G1))} (n : Nat) (wt : Nat → List Nat) (target : Array Bool) (hm : P.follows .mixedOrders = true) (hB : restTB .any l.toArray n wt target = true) (hA : ancOk .any l.toArray anc = true)
 (hg : unguardedB l.toArray sp = true) (hsp0 : (Array.replicate l.length false).getD sp true = false) (hsp1 : target.getD sp true = true)
 (h00 : ∀ w w', B0 w → G0 w w' → B0 w') (h11 : ∀ w w', B1 w → G0 w w' → B1 w') (h01 : ∀ w w', B0 w → G1 w w' → B1 w') (hE : ∀ ch a' w, a'.defers = a.defers → E ch w → Q (.panic ch) a' w) (hw : B0 w.drew)
 (h : Wk P l.toArray (gS sp G0 G1) E (atW sp wt B0 B1) anc (fun j _ => I j) (fun a' F => ∀ w', B1 w' → (∀ k, F k w') → wpAny P .any l.toArray Q (l.length - n) target a' w') (l.take n) 0 a (fun _ _ => True)) : (Code.region id l.toArray true).wp P Q a w :=
 wp_region_any hm (any_restW sp n wt target hB hA hg hsp0 hsp1 h00 h11 h01 hE hw h)
end
def OrdOk (md : Region.Mode) (ops : Array Oper) : Array Bool → List Nat → Prop
 | listed, [] => Region.ready md ops listed = []
 | listed, i :: l => i ∈ Region.ready md ops listed ∧ OrdOk md ops (listed.setIfInBounds i true) l
section
variable {P : Program} {md : Region.Mode} {Q : Exit → Act → World → Prop}
theorem wpOps_of_any {ops : Array Oper} : ∀ (fuel : Nat) (listed : Array Bool) (l : List Nat) (a : Act) (w : World), wpAny P md ops Q fuel listed a w → OrdOk md ops listed l → wpOps P ops Q l a w
 | 0, listed, [], a, w, h, _ => h.2
 | 0, listed, i :: l, a, w, h, ho => by
   have := ho.1; rw [h.1] at this; cases this
 | fuel + 1, listed, [], a, w, h, ho => h.1 ho
 | fuel + 1, listed, i :: l, a, w, h, ho => by
   rw [wpOps_cons]; exact wpOp_mono (fun a w h' => wpOps_of_any fuel _ l a w h' ho.2) (h.2 i ho.1)
theorem ordOk_go {ops : Array Oper} : ∀ (fuel t : Nat) (listed : Array Bool), (∀ l : List Nat, l.Nodup → (∀ i ∈ l, listed.getD i true = false) → l.length ≤ fuel) → OrdOk md ops listed (Region.linearise.go md ops fuel t listed [])
 | 0, t, listed, h => by
   simp only [Region.linearise.go, List.reverse_nil]; show Region.ready md ops listed = []
   cases hr : Region.ready md ops listed with
   | nil => rfl
   | cons i r =>
     have hi : i ∈ Region.ready md ops listed := by rw [hr]; exact List.mem_cons_self
     have := h [i] (by simp) (by intro j hj; rw [List.mem_singleton.1 hj]; exact (mem_ready.1 hi).1); simp at this
 | fuel + 1, t, listed, h => by
   simp only [Region.linearise.go]; change OrdOk md ops listed (match (Region.ready md ops listed)[t % (Region.ready md ops listed).length]? with
    | some i => Region.linearise.go md ops fuel (t / (Region.ready md ops listed).length) (listed.setIfInBounds i true) [i]
    | none => [].reverse)
   cases hi : (Region.ready md ops listed)[t % (Region.ready md ops listed).length]? with
   | none =>
     show Region.ready md ops listed = []
     cases hr : Region.ready md ops listed with
     | nil => rfl
     | cons x xs =>
       rw [hr] at hi; have hlt : t % (x :: xs).length < (x :: xs).length := Nat.mod_lt _ (by simp); simp at hi; simp at hlt; omega
   | some i =>
     simp only
     rw [linearise_go_acc, List.reverse_singleton, List.singleton_append]; have hir := List.mem_of_getElem? hi; refine ⟨hir, ordOk_go fuel _ _ (fun l hn hl => ?_)⟩; have hun := (mem_ready.1 hir).1; have hne : i ∉ l := fun hm => by
      have := hl i hm; by_cases hb : i < listed.size
      · simp [Array.getD, hb] at this
      · rw [Array.setIfInBounds_eq_of_size_le (by omega)] at this; simp [Array.getD, hb] at hun
     have := h (i :: l) (List.nodup_cons.2 ⟨hne, hn⟩) (fun j hj => by
      rcases List.mem_cons.1 hj with rfl | hj
      · exact hun
      · have h2 := hl j hj; rwa [getD_set_ne true (fun e => hne (by rw [e]; exact hj))] at h2)
     simp at this; omega
end
def more (ops : Array Oper) (i on : Nat) : Array Oper := ops.modify i fun o => { o with after := o.after.push { on := on, ground := .data } }
def moreL (ops : List Oper) (i on : Nat) : List Oper := ops.modify i fun o => { o with after := o.after.push { on := on, ground := .data } }
section
variable {P : Program} {Q : Exit → Act → World → Prop}
theorem more_get (ops : Array Oper) (i on j : Nat) : (more ops i on)[j]? = (ops[j]?).map fun o => if i = j then { o with after := o.after.push { on := on, ground := .data } } else o := by
 unfold more; rw [Array.getElem?_modify]; split
 · next h => simp [h]
 · next h => simp [h]
theorem more_yielded (ops : Array Oper) (i on : Nat) (t : Array Value) : yielded (more ops i on) t = yielded ops t := by
 funext j
 unfold yielded; rw [more_get]; cases ops[j]? with
 | none => rfl
 | some o =>
   have e3 : (if i = j then ({ o with after := o.after.push { on := on, ground := .data } } : Oper) else o).dst = o.dst := by split <;> rfl
   simp only [Option.map_some, Option.bind_some, e3]
theorem more_wpOps (ops : Array Oper) (i on : Nat) : ∀ (l : List Nat) (a : Act) (w : World), wpOps P (more ops i on) Q l a w → wpOps P ops Q l a w
 | [], a, w, h => h
 | j :: l, a, w, h => by
   rw [wpOps_cons] at h ⊢; unfold wpOp at h ⊢; rw [more_get, more_yielded] at h; cases ho : ops[j]? with
   | none => rw [ho] at h; exact more_wpOps ops i on l a w h
   | some o =>
     rw [ho] at h; simp only [Option.map_some] at h ⊢; have e : ∀ (b : Bool) (K : Act → World → Prop), ((if i = j then ({ o with after := o.after.push { on := on, ground := .data } } : Oper) else o).wp P a w K Q) = o.wp P a w K Q := by
      intro b K; split <;> rfl
     have e1 : ∀ y, Region.wanted (if i = j then ({ o with after := o.after.push { on := on, ground := .data } } : Oper) else o) y = Region.wanted o y := by
      intro y; split <;> rfl
     have e2 : ((if i = j then ({ o with after := o.after.push { on := on, ground := .data } } : Oper) else o).asks P a w) = o.asks P a w := by
      split <;> rfl
     have e3 : (if i = j then ({ o with after := o.after.push { on := on, ground := .data } } : Oper) else o).dst = o.dst := by split <;> rfl
     rw [e1, e true, e2, e3] at h; split at h
     · next hw =>
       rw [if_pos hw]; exact h.imp (Oper.wp_mono (fun a w h' => more_wpOps ops i on l a w h')) id
     · next hw =>
       rw [if_neg hw]; exact more_wpOps ops i on l _ _ h
theorem more_ready {ops : Array Oper} {i on j : Nat} {listed : Array Bool} (h : j ∈ Region.ready .any ops listed) (hi : i = j → listed.getD on false = true) : j ∈ Region.ready .any (more ops i on) listed := by
 obtain ⟨h1, o, ho, h2⟩ := mem_ready.1 h; refine mem_ready.2 ⟨h1, _, by rw [more_get, ho]; rfl, fun e he hb => ?_⟩; split at he
 · next hij =>
   rcases Array.mem_push.1 he with he | he
   · exact h2 e he hb
   · rw [he]; exact hi hij
 · exact h2 e he hb
theorem ready_more {ops : Array Oper} {i on j : Nat} {listed : Array Bool} (h : j ∈ Region.ready .any (more ops i on) listed) : j ∈ Region.ready .any ops listed := by
 obtain ⟨h1, o', ho, h2⟩ := mem_ready.1 h; rw [more_get, Option.map_eq_some_iff] at ho; obtain ⟨o, ho, rfl⟩ := ho; refine mem_ready.2 ⟨h1, o, ho, fun e he hb => h2 e ?_ hb⟩; split
 · exact Array.mem_push.2 (.inl he)
 · exact he
theorem ordOk_more {ops : Array Oper} {i on : Nat} (hs : on < ops.size) : ∀ (l : List Nat) (listed : Array Bool), listed.size = ops.size → OrdOk .any ops listed l → (∀ l1 l2, l = l1 ++ i :: l2 → listed.getD on false = true ∨ on ∈ l1) → OrdOk .any (more ops i on) listed l
 | [], listed, _, h, _ => by
   show Region.ready .any (more ops i on) listed = []
   cases hr : Region.ready .any (more ops i on) listed with
   | nil => rfl
   | cons j r =>
     have := ready_more (by rw [hr]; exact List.mem_cons_self (a := j)); rw [show Region.ready .any ops listed = [] from h] at this; cases this
 | j :: l, listed, hz, h, hp => by
   refine ⟨more_ready h.1 (fun e => ?_), ordOk_more hs l _ (by simpa using hz) h.2 (fun l1 l2 e => ?_)⟩
   · rcases hp [] l (by rw [e]; rfl) with h' | h'
     · exact h'
     · cases h'
   · rcases hp (j :: l1) l2 (by rw [e]; rfl) with h' | h'
     · left
       by_cases hj : on = j
       · subst hj; simp [Array.getD, hz, hs]
       · simp only [Array.getD_eq_getD_getElem?, Array.getElem?_setIfInBounds_ne (Ne.symm hj)] at h' ⊢; exact h'
     · rcases List.mem_cons.1 h' with rfl | h'
       · left; simp [Array.getD, hz, hs]
       · right; exact h'
theorem len_of_subset {α : Type} : ∀ {l m : List α}, l.Nodup → (∀ x ∈ l, x ∈ m) → l.length ≤ m.length
 | [], m, _, _ => by simp
 | x :: l, m, hn, hs => by
   obtain ⟨a, b, rfl⟩ := List.append_of_mem (hs x List.mem_cons_self); obtain ⟨h1, h2⟩ := List.nodup_cons.1 hn; have ih : l.length ≤ (a ++ b).length := len_of_subset h2 (fun y hy => by
    rcases List.mem_append.1 (hs y (List.mem_cons_of_mem _ hy)) with h' | h'
    · exact List.mem_append_left _ h'
    · rcases List.mem_cons.1 h' with rfl | h'
      · exact absurd hy h1
      · exact List.mem_append_right _ h')
   simp at ih ⊢; omega
theorem wp_region_two {id : Nat} {a : Act} {w : World} {l : List Oper} (i j : Nat) (hij : i ≠ j) (hi : i < l.length) (hj : j < l.length) (hm : P.follows .mixedOrders = true)
 (h1 : wpAny P .any (moreL l i j).toArray Q (moreL l i j).toArray.size (Array.replicate (moreL l i j).toArray.size false) a w.drew)
 (h2 : wpAny P .any (moreL l j i).toArray Q (moreL l j i).toArray.size (Array.replicate (moreL l j i).toArray.size false) a w.drew) : (Code.region id l.toArray true).wp P Q a w := by
 have e1 : ∀ i j, (moreL l i j).toArray = more l.toArray i j := fun i j => by
  unfold moreL more; simp
 rw [e1] at h1 h2; refine wp_region_draw fun t => ?_; simp only [Region.schedule, hm, Bool.true_or, if_true]; have ho : OrdOk .any l.toArray (Array.replicate l.toArray.size false) (Region.linearise.go .any l.toArray l.toArray.size t (Array.replicate l.toArray.size false) []) := ordOk_go _ _ _ (fun m hn hm => by
  have : ∀ k ∈ m, k < l.toArray.size := fun k hk => by
   have := hm k hk; rcases Nat.lt_or_ge k l.toArray.size with h | h
   · exact h
   · rw [Array.getD_eq_getD_getElem?, Array.getElem?_eq_none (by simpa using h)] at this; cases this
  have h3 : m.length ≤ (List.range l.toArray.size).length := len_of_subset hn (fun k hk => List.mem_range.2 (this k hk)); simpa using h3)
 show wpOps P l.toArray Q (Region.linearise.go .any l.toArray l.toArray.size t (Array.replicate l.toArray.size false) []) a w.drew; generalize Region.linearise.go .any l.toArray l.toArray.size t (Array.replicate l.toArray.size false) [] = s at *; have ms : ∀ i j, (more l.toArray i j).size = l.toArray.size := fun i j => by simp [more]
 by_cases hp : ∀ l1 l2, s = l1 ++ i :: l2 → j ∈ l1
 · refine more_wpOps _ i j s a _ (wpOps_of_any _ _ _ _ _ (by rw [ms] at h1; exact h1) (ordOk_more (by simpa using hj) s _ (by simp) ho (fun l1 l2 e => .inr (hp l1 l2 e))))
 · refine more_wpOps _ j i s a _ (wpOps_of_any _ _ _ _ _ (by rw [ms] at h2; exact h2) (ordOk_more (by simpa using hi) s _ (by simp) ho (fun m1 m2 e => .inr ?_))); obtain ⟨l1, hp⟩ := Classical.not_forall.1 hp; obtain ⟨l2, hp⟩ := Classical.not_forall.1 hp; obtain ⟨e', hn⟩ := Classical.not_imp.1 hp; rw [e'] at e; rcases List.append_eq_append_iff.1 e with ⟨q, e1, e2⟩ | ⟨q, e1, e2⟩
   · cases q with
     | nil =>
       simp only [List.nil_append, List.cons.injEq] at e2; exact absurd e2.1 hij
     | cons x q =>
       simp only [List.cons_append, List.cons.injEq] at e2; rw [e1, e2.1]; simp
   · cases q with
     | nil =>
       simp only [List.nil_append, List.cons.injEq] at e2; exact absurd e2.1.symm hij
     | cons x q =>
       simp only [List.cons_append, List.cons.injEq] at e2; rw [e1, e2.1] at hn; exact absurd (by simp) hn
end
end Go.GrowS
end

section
set_option maxRecDepth 100000
namespace Go.Proofs.YtjapbjmeoaagmaaGreatDoor
open Go.RowKit Go.Mem Orange
def PlAt (w : World) (A : Nat → Prop) (v : Value) (l : List PStep) : Prop := RowAt w A 3 v l.length (l.flatMap fun s => (cellsS s).toList) ∧ ∀ s ∈ l, i64R s.pos
theorem flat3_get : ∀ (l : List PStep) (i : Nat) (h : i < l.length) (j : Nat) (hj : j < 3), (l.flatMap fun s => (cellsS s).toList)[i * 3 + j]? = (cellsS l[i])[j]?
 | s :: l, 0, h, j, hj => by
   rw [List.flatMap_cons, Nat.zero_mul, Nat.zero_add, List.getElem?_append_left (by simp; omega)]; simp
 | s :: l, i + 1, h, j, hj => by
   rw [List.flatMap_cons, List.getElem?_append_right (by simp; omega)]; have := flat3_get l i (by simpa using h) j hj; rw [show (i + 1) * 3 + j - (cellsS s).toList.length = i * 3 + j by simp; omega]; exact this
theorem PlAt.keep {w w' : World} {A A' : Nat → Prop} {v : Value} {l : List PStep} (h : PlAt w A v l) (hs : w.heap.size ≤ w'.heap.size) (hA : ∀ g, A g → g < w.heap.size → A' g ∧ w'.heap[g]? = w.heap[g]?) : PlAt w' A' v l := ⟨h.1.keep hs hA, h.2⟩
theorem PlAt.elem {w : World} {A : Nat → Prop} {a : Option Addr} {m cap : Nat} {l : List PStep} (h : PlAt w A (.slice a m cap) l) (i : Nat) (hi : i < l.length) :
 ∃ g o, a = some ⟨g, o, none⟩ ∧ A g ∧ ∀ w' : World, (∀ g, A g → g < w.heap.size → w'.heap[g]? = w.heap[g]?) →
   w'.cell? ⟨g, o + i * 3, none⟩ = some (.string ⟨l[i].name.toArray⟩) ∧ w'.cell? ⟨g, o + i * 3 + 1, none⟩ = some (.int .i64 l[i].pos) ∧ w'.cell? ⟨g, o + i * 3 + 2, none⟩ = some (.bool l[i].named) := by
 obtain ⟨h0, a', c', e, _, _, hrow⟩ := h.1; simp only [Value.slice.injEq] at e; obtain ⟨rfl, -, rfl⟩ := e; obtain ⟨g, o, rfl, hA, hg, hc0⟩ := hrow (by omega); have key : ∀ w' : World, (∀ g, A g → g < w.heap.size → w'.heap[g]? = w.heap[g]?) → ∀ j, j < 3 → ∀ u, (cellsS l[i])[j]? = some u → w'.cell? ⟨g, o + (i * 3 + j), none⟩ = some u := fun w' hw j hj u hu => by
  rw [World.cell?_of_block (w := w) (a := ⟨g, o + (i * 3 + j), none⟩) (hw g hA hg)]; obtain ⟨hj2, e2⟩ := List.getElem?_eq_some_iff.1 ((flat3_get l i hi j hj).trans hu); rw [← e2]; exact hc0 _ hj2
 refine ⟨g, o, rfl, hA, fun w' hw => ?_⟩; simp only [Nat.add_assoc]; exact ⟨key w' hw 0 (by omega) _ rfl, key w' hw 1 (by omega) _ rfl, key w' hw 2 (by omega) _ rfl⟩
section
variable {G0 G1 : World → World → Prop} {sp p B : Nat}
end
theorem KeptP.store8 {q : Nat} {w : World} (a b c d e f g i : Value) : KeptP q w ((((((((w.setCell ⟨q, 0, none⟩ a).setCell ⟨q, 1, none⟩ b).setCell ⟨q, 2, none⟩ c).setCell ⟨q, 3, none⟩ d).setCell ⟨q, 4, none⟩ e).setCell ⟨q, 5, none⟩ f).setCell ⟨q, 6, none⟩ g).setCell ⟨q, 7, none⟩ i) :=
 (((((((KeptP.set a).trans (KeptP.set b)).trans (KeptP.set c)).trans (KeptP.set d)).trans (KeptP.set e)).trans (KeptP.set f)).trans (KeptP.set g)).trans (KeptP.set i)
theorem ext_keptP {w w1 w2 : World} {p : Nat} (h : Ext w w1) (k : KeptP p w1 w2) (hp : w.heap.size ≤ p) : Ext w w2 :=
 ⟨k.os.trans h.os, k.tape.trans h.tape, k.output.trans h.output, Nat.le_trans h.size k.size, fun b hb => by
   rw [k.block b (Nat.lt_of_lt_of_le hb h.size) (by omega)]; exact h.block b hb⟩
end Go.Proofs.YtjapbjmeoaagmaaGreatDoor
end

section
set_option maxRecDepth 100000
namespace Go.Mem
open Go.RowKit
theorem putL_list : ∀ (us : List Value) (cur : Array Value) (k : Nat), k + us.length ≤ cur.size → (putL cur k us).toList = cur.toList.take k ++ us ++ cur.toList.drop (k + us.length)
 | [], cur, k, h => by simp [putL]
 | u :: us, cur, k, h => by
   simp only [List.length_cons] at h; rw [putL, putL_list us _ (k + 1) (by simp; omega), Array.toList_setIfInBounds]; have h1 : (cur.toList.set k u).take (k + 1) = cur.toList.take k ++ [u] := by
    rw [List.take_add_one, List.take_set_of_le (Nat.le_refl _), List.getElem?_set_self (by simp; omega)]; rfl
   rw [h1, List.drop_set_of_lt (by omega)]; simp only [List.length_cons, List.append_assoc, List.singleton_append, List.cons_append, List.nil_append]; rw [show k + 1 + us.length = k + (us.length + 1) by omega]
def RowC (w : World) (g : Nat) (z : Nat) (e : TypeId) (cap : Nat) (ms : List (List Value)) : Prop :=
 ∃ cur : Array Value, w.heap[g]? = some (.cells cur e (0, 0)) ∧ cur.size = cap * z ∧ ms.length ≤ cap ∧ cap ≤ maxLen ∧ (∀ c ∈ ms, c.length = z) ∧ cur.toList.take (ms.length * z) = ms.flatten
theorem flat_len {z : Nat} : ∀ {ms : List (List Value)}, (∀ c ∈ ms, c.length = z) → ms.flatten.length = ms.length * z
 | [], _ => by simp
 | c :: ms, h => by
   rw [List.flatten_cons, List.length_append, h c List.mem_cons_self, flat_len (fun d hd => h d (List.mem_cons_of_mem _ hd)), List.length_cons, Nat.add_mul]; omega
theorem flat_get {z : Nat} : ∀ {ms : List (List Value)} (h : ∀ c ∈ ms, c.length = z) (i : Nat) (hi : i < ms.length) (j : Nat) (hj : j < z), ms.flatten[i * z + j]? = ms[i][j]?
 | c :: ms, h, 0, hi, j, hj => by
   rw [List.flatten_cons, Nat.zero_mul, Nat.zero_add, List.getElem?_append_left (by rw [h c List.mem_cons_self]; exact hj)]; simp
 | c :: ms, h, i + 1, hi, j, hj => by
   have hc := h c List.mem_cons_self; rw [List.flatten_cons, List.getElem?_append_right (by rw [hc, Nat.add_mul]; omega), hc, show (i + 1) * z + j - z = i * z + j by rw [Nat.add_mul]; omega, flat_get (fun d hd => h d (List.mem_cons_of_mem _ hd)) i (by simpa using hi) j hj]; simp
theorem flat_set {z : Nat} : ∀ {ms : List (List Value)} (h : ∀ c ∈ ms, c.length = z) (i : Nat) (hi : i < ms.length) (a b : Nat) (us : List Value) (hab : a + us.length = b) (hb : b ≤ z), (ms.set i (ms[i].take a ++ us ++ ms[i].drop b)).flatten = ms.flatten.take (i * z + a) ++ us ++ ms.flatten.drop (i * z + b)
 | c :: ms, h, 0, hi, a, b, us, hab, hb => by
   have hc := h c List.mem_cons_self; simp only [List.set_cons_zero, List.getElem_cons_zero, List.flatten_cons, Nat.zero_mul, Nat.zero_add]; rw [List.take_append_of_le_length (by omega), List.drop_append_of_le_length (by omega)]; simp only [List.append_assoc]
 | c :: ms, h, i + 1, hi, a, b, us, hab, hb => by
   have hc := h c List.mem_cons_self; simp only [List.set_cons_succ, List.getElem_cons_succ, List.flatten_cons]; rw [flat_set (fun d hd => h d (List.mem_cons_of_mem _ hd)) i (by simpa using hi) a b us hab hb]; have e1 : c.take (c.length + (i * z + a)) = c := List.take_of_length_le (by omega); have e2 : c.drop (c.length + (i * z + b)) = [] := List.drop_of_length_le (by omega)
   rw [show (i + 1) * z + a = c.length + (i * z + a) by rw [hc, Nat.add_mul]; omega, show (i + 1) * z + b = c.length + (i * z + b) by rw [hc, Nat.add_mul]; omega, List.take_append, List.drop_append, e1, e2]; simp
theorem RowC.lt {w : World} {g z cap : Nat} {e : TypeId} {ms : List (List Value)} (h : RowC w g z e cap ms) : g < w.heap.size := by
 obtain ⟨cur, h1, _⟩ := h; exact (Array.getElem?_eq_some_iff.1 h1).1
theorem RowC.keep {w w' : World} {g z cap : Nat} {e : TypeId} {ms : List (List Value)} (h : RowC w g z e cap ms) (hb : w'.heap[g]? = w.heap[g]?) : RowC w' g z e cap ms := by
 obtain ⟨cur, h1, h2⟩ := h; exact ⟨cur, hb.trans h1, h2⟩
theorem RowC.cell {w : World} {g z cap : Nat} {e : TypeId} {ms : List (List Value)} (h : RowC w g z e cap ms) {i : Nat} (hi : i < ms.length) {j : Nat} (hj : j < z) : w.cell? ⟨g, i * z + j, none⟩ = ms[i][j]? := by
 obtain ⟨cur, h1, h2, h3, h4, h5, h6⟩ := h; rw [cell_of_cells h1, ← flat_get h5 i hi j hj, ← h6, List.getElem?_take, if_pos (by
  have : (i + 1) * z ≤ ms.length * z := Nat.mul_le_mul_right _ hi; rw [Nat.add_mul] at this; omega)]
 simp
theorem RowC.free {w : World} {g z cap : Nat} {e : TypeId} {ms : List (List Value)} (h : RowC w g z e cap ms) (o : Nat) : w.frozen? ⟨g, o, none⟩ = false := by
 obtain ⟨cur, h1, _⟩ := h; exact free_of_cells h1
theorem RowC.store {w : World} {g z cap : Nat} {e : TypeId} {ms : List (List Value)} (h : RowC w g z e cap ms) {i : Nat} (hi : i < ms.length) (a b : Nat) (us : List Value) (hab : a + us.length = b) (hb : b ≤ z) : RowC (storeL w g (i * z + a) us) g z e cap (ms.set i (ms[i].take a ++ us ++ ms[i].drop b)) := by
 obtain ⟨cur, h1, h2, h3, h4, h5, h6⟩ := h; have hfl := flat_len h5; have hiz : (i + 1) * z ≤ ms.length * z := Nat.mul_le_mul_right _ hi; have hmz : ms.length * z ≤ cap * z := Nat.mul_le_mul_right _ h3; rw [Nat.add_mul] at hiz; refine ⟨putL cur (i * z + a) us, storeL_self us h1, by rw [putL_size]; exact h2, by simpa using h3, h4, fun c hc => ?_, ?_⟩
 · rcases List.mem_or_eq_of_mem_set hc with hc | rfl
   · exact h5 c hc
   · have := h5 ms[i] (List.getElem_mem hi); simp; omega
 · rw [List.length_set, putL_list us cur _ (by omega), flat_set h5 i hi a b us hab hb, ← h6]; have hl : cur.toList.length = cap * z := by simpa using h2
   rw [List.take_append, List.take_of_length_le (by simp; omega)]; simp only [List.length_append, List.length_take, hl]; rw [Nat.min_eq_left (by omega), List.take_take, Nat.min_eq_left (by omega), List.take_drop, show i * z + a + us.length + (ms.length * z - (i * z + a + us.length)) = ms.length * z by omega]; rw [show i * z + b = i * z + a + us.length by omega]
end Go.Mem
namespace Go.Proofs.YtjapbjmeoaagmaaGreatDoor
open Go.RowKit Go.Mem Orange
def TMc (w : World) (A : Nat → Prop) (l : List Mem1) (ms : List (List Value)) : Prop :=
 l.length = ms.length ∧ ∀ i, (h : i < l.length) → (h' : i < ms.length) → ∃ c, TV w A l[i].2 c ∧ ms[i] = .string ⟨l[i].1.toArray⟩ :: c.toList
theorem TMc.of {w : World} {A : Nat → Prop} : ∀ {l : List Mem1} {cs : List Value}, TM w A l cs → ∃ ms, cs = ms.flatten ∧ TMc w A l ms
 | _, _, .nil => ⟨[], rfl, rfl, fun i h => absurd h (by simp)⟩
 | _, _, .cons (k := k) (c := c) h1 h2 => by
   obtain ⟨ms, rfl, h3, h4⟩ := TMc.of h2; refine ⟨(.string ⟨k.toArray⟩ :: c.toList) :: ms, by simp, by simp [h3], fun i hi hi' => ?_⟩; cases i with
   | zero => exact ⟨c, h1, rfl⟩
   | succ i => exact h4 i (by simpa using hi) (by simpa using hi')
theorem TMc.tm {w : World} {A : Nat → Prop} : ∀ {l : List Mem1} {ms : List (List Value)}, TMc w A l ms → TM w A l ms.flatten
 | [], [], _ => .nil
 | (k, t) :: l, m :: ms, h => by
   obtain ⟨h1, h2⟩ := h; obtain ⟨c, h3, h4⟩ := h2 0 (by simp) (by simp); have h4' : m = .string ⟨k.toArray⟩ :: c.toList := h4; rw [List.flatten_cons, h4']; exact .cons h3 (TMc.tm ⟨by simpa using h1, fun i hi hi' => h2 (i + 1) (by simpa using hi) (by simpa using hi')⟩)
 | [], m :: ms, h => by simp [TMc] at h
 | _ :: l, [], h => by simp [TMc] at h
theorem TMc.nine {w : World} {A : Nat → Prop} {l : List Mem1} {ms : List (List Value)} (h : TMc w A l ms) : ∀ c ∈ ms, c.length = 9 := by
 intro c hc; obtain ⟨i, hi, rfl⟩ := List.mem_iff_getElem.1 hc; obtain ⟨c', h1, h2⟩ := h.2 i (by rw [h.1]; exact hi) hi; rw [h2]; simp [h1.size]
theorem TMc.keep {w w' : World} {A A' : Nat → Prop} {l : List Mem1} {ms : List (List Value)} (h : TMc w A l ms) (hs : w.heap.size ≤ w'.heap.size) (hA : ∀ g, A g → g < w.heap.size → A' g ∧ w'.heap[g]? = w.heap[g]?) : TMc w' A' l ms :=
 ⟨h.1, fun i hi hi' => by obtain ⟨c, h1, h2⟩ := h.2 i hi hi'; exact ⟨c, h1.keep hs hA, h2⟩⟩
theorem TMc.set {w : World} {A : Nat → Prop} {l : List Mem1} {ms : List (List Value)} (h : TMc w A l ms) (i : Nat) {k : List UInt8} {x : Tree} {c : Array Value} (hx : TV w A x c) : TMc w A (l.set i (k, x)) (ms.set i (.string ⟨k.toArray⟩ :: c.toList)) := by
 refine ⟨by simp [h.1], fun j hj hj' => ?_⟩; by_cases e : i = j
 · subst e; rw [List.getElem_set_self, List.getElem_set_self]; exact ⟨c, hx, rfl⟩
 · rw [List.getElem_set_ne e, List.getElem_set_ne e]; exact h.2 j (by simpa using hj) (by simpa using hj')
def TLc (w : World) (A : Nat → Prop) (l : List Tree) (ms : List (List Value)) : Prop :=
 l.length = ms.length ∧ ∀ i, (h : i < l.length) → (h' : i < ms.length) → ∃ c, TV w A l[i] c ∧ ms[i] = c.toList
theorem TLc.of {w : World} {A : Nat → Prop} : ∀ {l : List Tree} {cs : List Value}, TL w A l cs → ∃ ms, cs = ms.flatten ∧ TLc w A l ms
 | _, _, .nil => ⟨[], rfl, rfl, fun i h => absurd h (by simp)⟩
 | _, _, .cons (c := c) h1 h2 => by
   obtain ⟨ms, rfl, h3, h4⟩ := TLc.of h2; refine ⟨c.toList :: ms, by simp, by simp [h3], fun i hi hi' => ?_⟩; cases i with
   | zero => exact ⟨c, h1, rfl⟩
   | succ i => exact h4 i (by simpa using hi) (by simpa using hi')
theorem TLc.tl {w : World} {A : Nat → Prop} : ∀ {l : List Tree} {ms : List (List Value)}, TLc w A l ms → TL w A l ms.flatten
 | [], [], _ => .nil
 | t :: l, m :: ms, h => by
   obtain ⟨h1, h2⟩ := h; obtain ⟨c, h3, h4⟩ := h2 0 (by simp) (by simp); have h4' : m = c.toList := h4; rw [List.flatten_cons, h4']; exact .cons h3 (TLc.tl ⟨by simpa using h1, fun i hi hi' => h2 (i + 1) (by simpa using hi) (by simpa using hi')⟩)
 | [], m :: ms, h => by simp [TLc] at h
 | _ :: l, [], h => by simp [TLc] at h
theorem TLc.eight {w : World} {A : Nat → Prop} {l : List Tree} {ms : List (List Value)} (h : TLc w A l ms) : ∀ c ∈ ms, c.length = 8 := by
 intro c hc; obtain ⟨i, hi, rfl⟩ := List.mem_iff_getElem.1 hc; obtain ⟨c', h1, h2⟩ := h.2 i (by rw [h.1]; exact hi) hi; rw [h2]; simp [h1.size]
theorem TLc.keep {w w' : World} {A A' : Nat → Prop} {l : List Tree} {ms : List (List Value)} (h : TLc w A l ms) (hs : w.heap.size ≤ w'.heap.size) (hA : ∀ g, A g → g < w.heap.size → A' g ∧ w'.heap[g]? = w.heap[g]?) : TLc w' A' l ms :=
 ⟨h.1, fun i hi hi' => by obtain ⟨c, h1, h2⟩ := h.2 i hi hi'; exact ⟨c, h1.keep hs hA, h2⟩⟩
theorem TLc.set {w : World} {A : Nat → Prop} {l : List Tree} {ms : List (List Value)} (h : TLc w A l ms) (i : Nat) {x : Tree} {c : Array Value} (hx : TV w A x c) : TLc w A (l.set i x) (ms.set i c.toList) := by
 refine ⟨by simp [h.1], fun j hj hj' => ?_⟩; by_cases e : i = j
 · subst e; rw [List.getElem_set_self, List.getElem_set_self]; exact ⟨c, hx, rfl⟩
 · rw [List.getElem_set_ne e, List.getElem_set_ne e]; exact h.2 j (by simpa using hj) (by simpa using hj')
theorem RowC.ofOwn {w : World} {base z n : Nat} {e : TypeId} {v : Value} {ms : List (List Value)} (h : w.ownsRow base e z v n ms.flatten) (hm : ∀ c ∈ ms, c.length = z) (hn : ms.length = n) (h0 : 0 < n) : ∃ g cap, v = .slice (some ⟨g, 0, none⟩) n cap ∧ base ≤ g ∧ RowC w g z e cap ms := by
 obtain ⟨h1, h2 | ⟨g, cap, cur, rfl, hb, hg, hnc, hcm, hcs, ht⟩⟩ := h
 · exact absurd h2.2 (by omega)
 · exact ⟨g, cap, rfl, hb, cur, hg, hcs, by omega, hcm, hm, by rw [hn]; exact ht⟩
theorem RowC.row {w : World} {A : Nat → Prop} {g z cap n : Nat} {e : TypeId} {ms : List (List Value)} (h : RowC w g z e cap ms) (hA : A g) (hn : ms.length = n) : RowAt w A z (.slice (some ⟨g, 0, none⟩) n cap) n ms.flatten := by
 obtain ⟨cur, h1, h2, h3, h4, h5, h6⟩ := h; have hfl := flat_len h5; refine ⟨by rw [hfl, hn], _, cap, rfl, by omega, by simpa [maxLen] using h4, fun _ => ⟨g, 0, rfl, hA, (Array.getElem?_eq_some_iff.1 h1).1, fun i hi => ?_⟩⟩; rw [Nat.zero_add, cell_of_cells h1]; have : ms.flatten[i]? = some ms.flatten[i] := by simp [hi]
 rw [← this, ← h6, List.getElem?_take, if_pos (by omega)]; simp
theorem TM.one {w : World} {A : Nat → Prop} : ∀ {m : List Mem1} {cs : List Value}, TM w A m cs → ∀ u ∈ cs, u.oneCell' = true
 | _, _, .nil => fun u h => by cases h
 | _, _, .cons h1 h2 => fun u h => by
   simp only [List.mem_cons, List.mem_append] at h; rcases h with (rfl | h) | h
   · simp [Value.oneCell']
   · exact TV.one h1 u h
   · exact TM.one h2 u h
theorem KeptP.storeL {q : Nat} {w : World} (us : List Value) (k : Nat) : KeptP q w (storeL w q k us) := by
 induction us generalizing w k with
 | nil => exact KeptP.refl _ _
 | cons u us ih => exact (KeptP.set u).trans (ih (k + 1))
theorem bldT_writer : BldT 109 4 := ⟨by kernel_rfl, by decide⟩
abbrev Wr (w : World) (b : Nat) (by' : Int) (k : Nat) (l : List UInt8) (o : Option Nat) : Prop := Bd w b 109 [.int .i64 by', .int .i64 k] l o
theorem repeatL_one : ∀ c : Nat, Lib.repeatL [32] c = List.replicate c 32
 | 0 => rfl
 | c + 1 => by rw [Lib.repeatL, repeatL_one c, List.replicate_succ]; rfl
theorem spaces_any (c : Nat) (hc : c ≤ 1000000000) (w : World) :
 Calls Tryz.prog 187 #[.string ⟨#[32]⟩, .int .i64 c] w (fun e w' => e = .returned (.string ⟨(List.replicate c (32 : UInt8)).toArray⟩) ∧ Ext w w') := by
 have h := Tryz.strings_Repeat ⟨#[32]⟩ c w (by omega) (by show 1 * c ≤ _; omega); have e : Lib.repeatL (ByteArray.mk #[32]).data.toList c = List.replicate c 32 := repeatL_one c; rw [e] at h; exact h
theorem wStr (b : Nat) (t : TypeId) (ex : List Value) (l : List UInt8) (o : Option Nat) (s : List UInt8) (w : World) (ht : BldT t (ex.length + 2)) (h : Bd w b t ex l o) (hl : l.length + s.length ≤ 140737488355328) :
 Calls Tryz.prog 63 #[.pointer (some ⟨b, 0, none⟩), .string ⟨s.toArray⟩] w (fun e w' => e = .returned (.tuple #[.int .i64 s.length, .nilIface]) ∧ ∃ o', Bd w' b t ex (l ++ s) o' ∧ KB b o o' w w') := by
 have h1 := wString b t ex l o ⟨s.toArray⟩ w ht h (by simpa [ByteArray.size] using hl); simpa [ByteArray.size] using h1
set_option maxHeartbeats 1600000 in
theorem line_any (b : Nat) (by' : Int) (k : Nat) (l : List UInt8) (o : Option Nat) (w : World) (h : Wr w b by' k l o) (h0 : -1 ≤ by') (h1 : by' ≤ 16) (hk : k ≤ 1000000) (hl : l.length + (gapP by' k).length ≤ 140737488355328) :
 Calls Tryz.prog 150 #[.pointer (some ⟨b, 0, none⟩)] w (fun e w' => e = .returned (.tuple #[]) ∧ ∃ o', Wr w' b by' k (l ++ gapP by' k) o' ∧ KB b o o' w w') := by
 have hT := bldT_writer; have c2 : w.cell? ⟨b, 2, none⟩ = some (.int .i64 by') := h.cell 0; have H := Hd h; clear h; by_cases hb : by' = -1
 · subst hb; go_enter Tryz.func150, Tryz.ntmps150
   go_wp2_with fail; go_end0
   refine ⟨rfl, o, ?_, KB.refl _ _ _⟩; rw [show gapP (-1) k = [] from rfl, List.append_nil]; exact H.out
 · have q : (by' != -1) = true := by simpa using hb
   have hg : gapP by' k = 10 :: List.replicate (by'.toNat * k) 32 := by unfold gapP; rw [if_neg (by omega)]
   rw [hg] at hl ⊢; simp only [List.length_cons, List.length_replicate] at hl; have hm : by'.toNat * k ≤ 16 * 1000000 := Nat.mul_le_mul (by omega) hk
   have w1 : IntKind.i64.wrap (by' * (k : Int)) = ((by'.toNat * k : Nat) : Int) := by
    have e : by' * (k : Int) = ((by'.toNat * k : Nat) : Int) := by
     rw [Int.natCast_mul, Int.toNat_of_nonneg (by omega)]
    rw [e, IntWalk.i64_in _ (by omega)]
   obtain ⟨N, hN⟩ := Ex (by'.toNat * k); rw [hN] at w1 hl hm hg ⊢; clear hN; go_enter Tryz.func150, Tryz.ntmps150
   go_wp2_with fail; refine (wByte b _ _ l o 10 10 _ rfl hT H.out (by omega)).mono ?_; rintro e w2 ⟨rfl, o2, hB2, hK2⟩; have c2 : w2.cell? ⟨b, 2, none⟩ = some (.int .i64 by') := hB2.cell 0; have c3 : w2.cell? ⟨b, 3, none⟩ = some (.int .i64 k) := hB2.cell 1; go_upto_region 2 with fail; have HB2 := Hd hB2
   have hsz : (l ++ [10]).length + (ByteArray.mk (List.replicate (N) (32 : UInt8)).toArray).size ≤ 140737488355328 := by simp [ByteArray.size]; omega
   have HS := Hd hsz; clear hB2 c2 c3 hsz
   refine GrowS.wp_region_restW (G0 := Ext) (G1 := fun w1 w' => ∃ o', Wr w' b by' k ((l ++ [10]) ++ List.replicate (N) 32) o' ∧ KB b o2 o' w1 w') (B0 := fun w' => Ext w2 w') (B1 := fun w' => ∃ o', Wr w' b by' k ((l ++ [10]) ++ List.replicate (N) 32) o' ∧ KB b o2 o' w2 w') (E := fun _ _ => False) (anc := fun j => []) (I := fun j => if j = 12 then some (GrowS.Spec.val _ (.string ⟨(List.replicate (N) (32 : UInt8)).toArray⟩)) else if j = 13 then some (GrowS.Spec.val _ (.tuple #[.int .i64 ((ByteArray.mk (List.replicate (N) (32 : UInt8)).toArray).size : Nat), .nilIface])) else none) 13 14 (fun j => ([[], [0], [0, 1], [], [3], [3, 4], [3, 4, 5], [], [7], [7, 8], [7, 8, 9], [3, 4, 5, 6, 7, 8, 9, 10], [3, 4, 5, 6, 7, 8, 9, 10, 11], [0, 1, 2, 3, 4, 5, 6, 7, 8, 9, 10, 11, 12]] : List (List Nat)).getD j []) (Array.replicate 14 true) (by kernel_rfl) (by kernel_rfl) (by kernel_rfl) (by kernel_rfl) (by kernel_rfl) (by kernel_rfl) ?_ ?_ ?_ ?_ ?_ ?_
   · exact fun w w' h hg => ext_trans h hg
   · rintro w1 w' ⟨o1, h, hk⟩ hg; exact ⟨o1, h.ext hg, hk.ext hg⟩
   · rintro w1 w' h ⟨o1, hg, hk⟩; exact ⟨o1, hg, (KB.ofExt h).trans hk⟩
   · exact fun _ _ _ _ h => h.elim
   · exact (ext_refl _).drew
   simp only [List.take_succ_cons, List.take_zero, List.drop_succ_cons, List.drop_zero]; repeat
    (refine GrowS.Wk.step (fun K hK => ?_)
     first
     | (refine GrowS.step_read (by rfl) (by rfl) (fun w => ext_refl w) ?_
        apply Exists.intro; refine ⟨fun w hB hF => ?_, ?_⟩
        · replace hB : Ext _ w := hB; have c2 : w.cell? ⟨b, 2, none⟩ = some (.int .i64 by') := (HB2.out.ext hB).cell 0; have c3 : w.cell? ⟨b, 3, none⟩ = some (.int .i64 k) := (HB2.out.ext hB).cell 1; go_simp; try exact rfl
        go_simp; refine hK _ _ ?_; clear hK K)
     | (refine GrowS.step_off (by rfl) ?_
        go_simp; refine hK _ _ ?_; clear hK K))
   refine GrowS.Wk.step (fun K hK => ?_); refine GrowS.step_rel (by rfl) (by rfl) (fun w' hB hF => ?_) (fun v hv => ?_)
   · replace hB : Ext w2 w' := hB; go_simp; refine GrowS.relUpon_enter ((spaces_any (N) (by omega) w').mono ?_); rintro e w'' ⟨rfl, hw''⟩; exact .inl ⟨_, rfl, hw'', rfl, trivial⟩
   obtain rfl : v = (.string ⟨(List.replicate (N) (32 : UInt8)).toArray⟩) := hv; go_simp; refine hK _ _ ?_; clear hK K; refine GrowS.Wk.step (fun K hK => ?_); refine GrowS.step_rel (by rfl) (by rfl) (fun w' hB hF => ?_) (fun v hv => ?_)
   · replace hB : Ext w2 w' := hB; go_simp; refine GrowS.relUpon_enter (((wStr b _ _ _ o2 (List.replicate N 32) w' hT (HB2.out.ext hB) HS.out).mono (by rw [List.length_replicate]; exact fun _ _ h => h)).mono ?_); rintro e w'' ⟨rfl, o2, h2, k2⟩; exact .inl ⟨_, rfl, ⟨o2, (by simpa using h2), k2⟩, rfl, trivial⟩
   obtain rfl : v = (.tuple #[.int .i64 ((ByteArray.mk (List.replicate (N) (32 : UInt8)).toArray).size : Nat), .nilIface]) := hv; go_simp; refine hK _ _ ?_; clear hK K; refine GrowS.Wk.nil ?_; intro w4 hB hF; show wpAny _ _ _ _ 0 _ _ _; refine ⟨by decide +kernel, ?_⟩; obtain ⟨o4, h4, k4⟩ := hB; clear hF; go_wp2_with fail; go_end0
   refine ⟨rfl, o4, ?_, hK2.trans k4⟩; simpa using h4
end Go.Proofs.YtjapbjmeoaagmaaGreatDoor
end

section
set_option maxRecDepth 100000
namespace Orange
def itemsT (by' : Int) (k : Nat) (it : Nat → List UInt8) : Nat → List UInt8
 | 0 => []
 | j + 1 => itemsT by' k it j ++ ((if j = 0 then [] else [44]) ++ (gapP by' k ++ it j))
theorem itemsT_le (by' : Int) (k : Nat) (it : Nat → List UInt8) : ∀ (n j : Nat), j ≤ n → (itemsT by' k it j).length ≤ (itemsT by' k it n).length
 | 0, j, h => by obtain rfl : j = 0 := by omega
                 exact Nat.le_refl _
 | n + 1, j, h => by
   by_cases e : j = n + 1
   · rw [e]; exact Nat.le_refl _
   · refine Nat.le_trans (itemsT_le by' k it n j (by omega)) ?_; rw [itemsT, List.length_append]; omega
theorem outL_snoc (by' : Int) (k : Nat) (t : Tree) : ∀ (l : List Tree) (f : Bool), outL by' k f (l ++ [t]) = outL by' k f l ++ ((if f = true ∧ l = [] then [] else [44]) ++ (gapP by' k ++ outT by' k t))
 | [], f => by
   rw [List.nil_append, outL, outL, outL]; cases f <;> simp
 | x :: l, f => by
   rw [List.cons_append, outL, outL_snoc by' k t l false, outL]; simp
theorem outM_snoc (by' : Int) (k : Nat) (key : List UInt8) (t : Tree) : ∀ (l : List Mem1) (f : Bool), outM by' k f (l ++ [(key, t)]) = outM by' k f l ++ ((if f = true ∧ l = [] then [] else [44]) ++ (gapP by' k ++ (quote key ++ (58 :: (blankP by' ++ outT by' k t)))))
 | [], f => by
   rw [List.nil_append, outM, outM, outM]; cases f <;> simp
 | (kx, x) :: l, f => by
   rw [List.cons_append, outM, outM_snoc by' k key t l false, outM]; simp
theorem outL_items (by' : Int) (k : Nat) (l : List Tree) : ∀ j, j ≤ l.length → itemsT by' k (fun i => (l[i]?).elim [] (outT by' k)) j = outL by' k true (l.take j)
 | 0, _ => by rw [List.take_zero, outL]; rfl
 | j + 1, h => by
   rw [itemsT, outL_items by' k l j (by omega), List.take_add_one, List.getElem?_eq_getElem (by omega), Option.toList_some, outL_snoc]; congr 1
   have e : (l.take j = []) ↔ j = 0 := by
    rw [← List.length_eq_zero_iff, List.length_take]; omega
   by_cases h0 : j = 0
   · rw [if_pos h0, if_pos ⟨rfl, e.2 h0⟩]; rfl
   · rw [if_neg h0, if_neg (fun hh => h0 (e.1 hh.2))]; rfl
theorem outM_items (by' : Int) (k : Nat) (l : List Mem1) : ∀ j, j ≤ l.length → itemsT by' k (fun i => (l[i]?).elim [] (fun p => quote p.1 ++ (58 :: (blankP by' ++ outT by' k p.2)))) j = outM by' k true (l.take j)
 | 0, _ => by rw [List.take_zero, outM]; rfl
 | j + 1, h => by
   obtain ⟨p, hp⟩ := Ex (l[j]'(by omega)); rw [itemsT, outM_items by' k l j (by omega), List.take_add_one, List.getElem?_eq_getElem (by omega), hp, Option.toList_some]; obtain ⟨key, t⟩ := p; rw [outM_snoc]; congr 1
   have e : (l.take j = []) ↔ j = 0 := by
    rw [← List.length_eq_zero_iff, List.length_take]; omega
   by_cases h0 : j = 0
   · rw [if_pos h0, if_pos ⟨rfl, e.2 h0⟩]; rfl
   · rw [if_neg h0, if_neg (fun hh => h0 (e.1 hh.2))]; rfl
end Orange
namespace Go.Proofs.YtjapbjmeoaagmaaGreatDoor
open Go.RowKit Go.Mem Orange
theorem Wr.set {w : World} {b : Nat} {by' : Int} {k : Nat} {l : List UInt8} {o : Option Nat} (h : Wr w b by' k l o) (k' : Nat) : Wr (w.setCell ⟨b, 3, none⟩ (.int .i64 k')) b by' k' l o ∧ KB b o o w (w.setCell ⟨b, 3, none⟩ (.int .i64 k')) := Bd.set h 1 (.int .i64 k')
set_option maxHeartbeats 3200000 in
theorem wlist_any (b : Nat) (by' : Int) (k : Nat) (l : List UInt8) (o : Option Nat) (F : FuncId) (p1 p2 : Nat) (op cl : UInt8) (n : Nat) (it : Nat → List UInt8) (w : World)
 (he : ∀ (i : Int) w, (callFunc F #[.int .i64 i, .pointer (some ⟨p1, 0, none⟩), .pointer (some ⟨p2, 0, none⟩)]).run Tryz.prog w = .ok (.enter F #[.int .i64 i, .pointer (some ⟨p1, 0, none⟩), .pointer (some ⟨p2, 0, none⟩)]) w)
 (h : Wr w b by' k l o) (h0 : -1 ≤ by') (h1 : by' ≤ 16) (hk : k + 1 ≤ 1000000) (hn : n ≤ 1000000)
 (hl : l.length + (itemsT by' (k + 1) it n).length + (if n = 0 then ([] : List UInt8) else gapP by' k).length + 2 ≤ 140737488355328)
 (hit : ∀ (i : Nat) (l1 : List UInt8) (o1 : Option Nat) (W : World), i < n → Wr W b by' (k + 1) l1 o1 → KB b o o1 w W → l1.length + (it i).length ≤ 140737488355328 →
   Calls Tryz.prog F #[.int .i64 i, .pointer (some ⟨p1, 0, none⟩), .pointer (some ⟨p2, 0, none⟩)] W (fun e W' => e = .returned (.tuple #[]) ∧ ∃ o2, Wr W' b by' (k + 1) (l1 ++ it i) o2 ∧ KB b o1 o2 W W')) :
 Calls Tryz.prog 115 #[.pointer (some ⟨b, 0, none⟩), .int .u8 op.toNat, .int .u8 cl.toNat, .int .i64 n, .func (.func F) #[] #[.pointer (some ⟨p1, 0, none⟩), .pointer (some ⟨p2, 0, none⟩)]] w (fun e w' => e = .returned (.tuple #[]) ∧ ∃ o', Wr w' b by' k (l ++ op :: (itemsT by' (k + 1) it n ++ ((if n = 0 then [] else gapP by' k) ++ [cl]))) o' ∧ KB b o o' w w') := by
 have hT := bldT_writer; have HI := Hd hit; have HE := Hd he; have H := Hd h; have hlt := h.lt; clear hit he h; have e1 : IntKind.i64.wrap ((k : Int) + 1) = ((k + 1 : Nat) : Int) := by rw [IntWalk.i64_in _ (by omega)]; omega
 have e2 : IntKind.i64.wrap (((k + 1 : Nat) : Int) - 1) = ((k : Nat) : Int) := by rw [IntWalk.i64_in _ (by omega)]; omega
 go_enter Tryz.func115, Tryz.ntmps115
 go_wp2_with fail; refine (wByte b _ _ l o _ op _ rfl hT H.out (by omega)).mono ?_; rintro e w1 ⟨rfl, o1, hB1, hK1⟩; have c3 : w1.cell? ⟨b, 3, none⟩ = some (.int .i64 k) := hB1.cell 1; have f3 : w1.frozen? ⟨b, 3, none⟩ = false := hB1.free 3; have HB1 := Hd hB1; have HK1 := Hd hK1; clear hB1 hK1; go_wp2_with fail; obtain ⟨hB2, hK2⟩ := Wr.set HB1.out (k + 1)
 have ec : ((k + 1 : Nat) : Int) = (k : Int) + 1 := by omega
 rw [ec] at hB2 hK2; generalize w1.setCell ⟨b, 3, none⟩ (.int .i64 ((k : Int) + 1)) = w2 at *; clear ec; have HB2 := Hd hB2; have HK2 := Hd (HK1.out.trans hK2); clear hB2 hK2 HB1 HK1 c3 f3; go_loopw [24] (fun kv wr => ∃ (j : Nat) (o3 : Option Nat), kv = .int .i64 j ∧ j ≤ n ∧ Wr wr b by' (k + 1) (l ++ op :: itemsT by' (k + 1) it j) o3 ∧ KB b o o3 w wr) (fun kv _ => n - (intOf kv).toNat)
 case atStart => exact ⟨0, o1, rfl, by omega, by simpa [itemsT] using HB2.out, HK2.out⟩
 case round =>
  obtain ⟨j, o3, rfl, hj, hB3, hK3⟩ := hrel; have HB3 := Hd hB3; have HK3 := Hd hK3; clear hB3 hK3 HB2 HK2; by_cases hlt : j < n
  · have hle := itemsT_le by' (k + 1) it n (j + 1) (by omega)
    have hst : itemsT by' (k + 1) it (j + 1) = itemsT by' (k + 1) it j ++ ((if j = 0 then [] else [44]) ++ (gapP by' (k + 1) ++ it j)) := rfl
    rw [hst] at hle; simp only [List.length_append] at hle; by_cases hj0 : j = 0
    · subst hj0; rw [if_pos rfl] at hst hle; have HST := Hd hst; clear hst; simp only [List.length_nil] at hle; go_wp2_with fail; refine (line_any b by' (k + 1) _ o3 _ HB3.out h0 h1 hk (by simp [itemsT]; omega)).mono ?_; rintro e w4 ⟨rfl, o4, hB4, hK4⟩; go_wp2_with fail; rw [HE.out]; refine (HI.out 0 _ o4 _ hlt hB4 (HK3.out.trans hK4) (by simp [itemsT]; omega)).mono ?_; rintro e w5 ⟨rfl, o5, hB5, hK5⟩
      go_wp2_with fail; go_roundw
      case rel =>
       refine ⟨1, o5, by go_num, by omega, ?_, (HK3.out.trans hK4).trans hK5⟩; rw [HST.out]; simpa [itemsT] using hB5
      case measure => simp [intOf]; omega
    · rw [if_neg hj0] at hst hle; have HST := Hd hst; clear hst; simp only [List.length_cons, List.length_nil] at hle; go_wp2_with fail; refine (wByte b _ _ _ o3 44 44 _ rfl hT HB3.out (by simp; omega)).mono ?_; rintro e w6 ⟨rfl, o6, hB6, hK6⟩; go_wp2_with fail; refine (line_any b by' (k + 1) _ o6 _ hB6 h0 h1 hk (by simp; omega)).mono ?_; rintro e w4 ⟨rfl, o4, hB4, hK4⟩; go_wp2_with fail; rw [HE.out]
      refine (HI.out j _ o4 _ hlt hB4 ((HK3.out.trans hK6).trans hK4) (by simp; omega)).mono ?_; rintro e w5 ⟨rfl, o5, hB5, hK5⟩; go_wp2_with fail; go_roundw
      case rel =>
       refine ⟨j + 1, o5, by go_num, by omega, ?_, ((HK3.out.trans hK6).trans hK4).trans hK5⟩; rw [HST.out]; simpa using hB5
      case measure => simp [intOf]; omega
  · obtain rfl : j = n := by omega
    have c3 : wr.cell? ⟨b, 3, none⟩ = some (.int .i64 ((k + 1 : Nat) : Int)) := HB3.out.cell 1; have f3 : wr.frozen? ⟨b, 3, none⟩ = false := HB3.out.free 3; obtain ⟨hB4, hK4⟩ := Wr.set HB3.out k; have HB4 := Hd hB4; have HK4 := Hd (HK3.out.trans hK4); clear hB4 hK4; by_cases hj0 : j = 0
    · subst hj0; go_wp2_with fail; refine (wByte b _ _ _ o3 _ cl _ rfl hT HB4.out (by simp [itemsT]; omega)).mono ?_; rintro e w5 ⟨rfl, o5, hB5, hK5⟩; go_wp2_with fail; go_end0
      refine ⟨rfl, o5, ?_, HK4.out.trans hK5⟩; simpa [itemsT] using hB5
    · rw [if_neg hj0] at hl; go_wp2_with fail; refine (line_any b by' k _ o3 _ HB4.out h0 h1 (by omega) (by simp; omega)).mono ?_; rintro e w6 ⟨rfl, o6, hB6, hK6⟩; go_wp2_with fail; refine (wByte b _ _ _ o6 _ cl _ rfl hT hB6 (by simp; omega)).mono ?_; rintro e w5 ⟨rfl, o5, hB5, hK5⟩; go_wp2_with fail; go_end0
      refine ⟨rfl, o5, ?_, (HK4.out.trans hK6).trans hK5⟩; simpa using hB5
theorem fields_shape {t : Tree} (h : fieldsT t = true) : t = tNull ∨ (∃ b, t = tBool b) ∨ (∃ d, sane d = true ∧ t = tNum d) ∨ (∃ s, check s < 0 ∧ t = tStr s) ∨ (∃ l, t = tArr l) ∨ (∃ m : List Mem1, (∀ p ∈ m, check p.1 < 0) ∧ t = tObj m) := by
 cases t with
 | mk k b d s l m =>
   unfold fieldsT at h; simp only [Bool.and_eq_true, Bool.or_eq_true, decide_eq_true_eq, Bool.not_eq_true', List.isEmpty_iff] at h; obtain ⟨⟨⟨⟨h1, h2⟩, h3⟩, h4⟩, h5, h6⟩ := h; by_cases k0 : k = 0
   · subst k0; rw [Or.resolve_left h2 (by decide), Or.resolve_left h3 (by decide), Or.resolve_left h4 (by decide), Or.resolve_left h5 (by decide), Or.resolve_left h6 (by decide)]; exact .inl rfl
   by_cases k1 : k = 1
   · subst k1; rw [Or.resolve_left h3 (by decide), Or.resolve_left h4 (by decide), Or.resolve_left h5 (by decide), Or.resolve_left h6 (by decide)]; exact .inr (.inl ⟨b, rfl⟩)
   by_cases k2 : k = 2
   · subst k2; rw [Or.resolve_left h2 (by decide), Or.resolve_left h4 (by decide), Or.resolve_left h5 (by decide), Or.resolve_left h6 (by decide)]; rw [if_neg (by decide), if_neg (by decide), if_pos rfl] at h1; exact .inr (.inr (.inl ⟨d, h1, rfl⟩))
   by_cases k3 : k = 3
   · subst k3; rw [Or.resolve_left h2 (by decide), Or.resolve_left h3 (by decide), Or.resolve_left h5 (by decide), Or.resolve_left h6 (by decide)]; rw [if_neg (by decide), if_neg (by decide), if_neg (by decide), if_pos rfl] at h1; exact .inr (.inr (.inr (.inl ⟨s, by simpa using h1, rfl⟩)))
   by_cases k4 : k = 4
   · subst k4; rw [Or.resolve_left h2 (by decide), Or.resolve_left h3 (by decide), Or.resolve_left h4 (by decide), Or.resolve_left h6 (by decide)]; exact .inr (.inr (.inr (.inr (.inl ⟨l, rfl⟩))))
   by_cases k5 : k = 5
   · subst k5; rw [Or.resolve_left h2 (by decide), Or.resolve_left h3 (by decide), Or.resolve_left h4 (by decide), Or.resolve_left h5 (by decide)]; rw [if_neg (by decide), if_neg (by decide), if_neg (by decide), if_neg (by decide), if_neg (by decide), if_pos rfl] at h1; refine .inr (.inr (.inr (.inr (.inr ⟨m, fun p hp => ?_, rfl⟩)))); have h7 : m.any badKey = false := by simpa using h1
     have h8 := List.any_eq_false.1 h7 p hp; simp only [badKey, decide_eq_true_eq] at h8; omega
   · rw [if_neg k0, if_neg k1, if_neg k2, if_neg k3, if_neg k4, if_neg k5] at h1; cases h1
theorem dig_head {d : Num} (h : sane d = true) (h0 : d.digits ≠ []) : ∃ c T, d.digits = c :: T ∧ isDig c = true := by
 cases hd : d.digits with
 | nil => exact absurd hd h0
 | cons c T =>
   refine ⟨c, T, rfl, ?_⟩; unfold sane at h; rw [hd, if_neg (by simp)] at h; split at h
   · cases h
   · next h1 =>
     simp only [Bool.or_eq_true, not_or, Bool.not_eq_true', Bool.not_eq_false] at h1; have := List.all_eq_true.1 (by simpa using h1.2) c List.mem_cons_self; exact this
theorem num_head {d : Num} (h : sane d = true) : ∃ c T, printP d = c :: T ∧ (c = 45 ∨ isDig c = true) := by
 have hw : d.digits ≠ [] → ∃ c T, writtenP d = c :: T ∧ isDig c = true := fun h0 => by
  obtain ⟨c, T, hd, hc⟩ := dig_head h h0; unfold writtenP; split
  · exact ⟨c, T ++ _, by rw [hd]; rfl, hc⟩
  · split
    · next h2 =>
      obtain ⟨k, hk⟩ : ∃ k, (height d).toNat = k + 1 := ⟨(height d).toNat - 1, by omega⟩
      exact ⟨c, T.take k ++ _, by rw [hk, hd]; rfl, hc⟩
    · split
      · exact ⟨48, _, rfl, rfl⟩
      · exact ⟨c, _, by rw [hd]; rfl, hc⟩
 unfold printP; rw [if_pos h]; split
 · exact ⟨48, [], rfl, .inr rfl⟩
 · next h0 =>
   split
   · exact ⟨45, _, rfl, .inl rfl⟩
   · obtain ⟨c, T, h1, h2⟩ := hw h0; exact ⟨c, T, h1, .inr h2⟩
theorem out_head (by' : Int) (k : Nat) {t : Tree} (h : fieldsT t = true) : ∃ c T, outT by' k t = c :: T ∧ begs.contains c = true ∧ c ≠ 0 ∧ isWhite c = false ∧ c ≠ 93 ∧ c ≠ 125 := by
 have num : ∀ c : UInt8, (c = 45 ∨ isDig c = true) → begs.contains c = true ∧ c ≠ 0 ∧ isWhite c = false ∧ c ≠ 93 ∧ c ≠ 125 := by
  have : ∀ c : Fin 256, ((UInt8.ofFin c) = 45 ∨ isDig (UInt8.ofFin c) = true) → begs.contains (UInt8.ofFin c) = true ∧ (UInt8.ofFin c) ≠ 0 ∧ isWhite (UInt8.ofFin c) = false ∧ (UInt8.ofFin c) ≠ 93 ∧ (UInt8.ofFin c) ≠ 125 := by decide +kernel
  exact fun c => this c.toFin
 rcases fields_shape h with rfl | ⟨b, rfl⟩ | ⟨d, hd, rfl⟩ | ⟨s, hs, rfl⟩ | ⟨l, rfl⟩ | ⟨m, hm, rfl⟩
 · exact ⟨110, [117, 108, 108], by rw [tNull, outT, if_pos rfl], by decide⟩
 · cases b
   · exact ⟨102, [97, 108, 115, 101], by rw [tBool, outT, if_neg (by decide), if_pos rfl, if_neg (by decide)], by decide⟩
   · exact ⟨116, [114, 117, 101], by rw [tBool, outT, if_neg (by decide), if_pos rfl, if_pos rfl], by decide⟩
 · obtain ⟨c, T, h1, h2⟩ := num_head hd; exact ⟨c, T, by rw [tNum, outT, if_neg (by decide), if_neg (by decide), if_pos rfl, h1], num c h2⟩
 · exact ⟨34, _, by rw [tStr, outT, if_neg (by decide), if_neg (by decide), if_neg (by decide), if_pos rfl]; rfl, by decide⟩
 · exact ⟨91, _, by rw [tArr, outT, if_neg (by decide), if_neg (by decide), if_neg (by decide), if_neg (by decide), if_pos rfl], by decide⟩
 · exact ⟨123, _, by rw [tObj, outT, if_neg (by decide), if_neg (by decide), if_neg (by decide), if_neg (by decide), if_neg (by decide)], by decide⟩
end Go.Proofs.YtjapbjmeoaagmaaGreatDoor
end

section
set_option maxRecDepth 100000
namespace Orange
open Go.Proofs.YtjapbjmeoaagmaaGreatDoor (saneT saneL saneM fieldsT twiceP saneT_ins saneT_bd badKey)
inductive OkT : Nat → Tree → Prop
 | mk {deep : Nat} {t : Tree} : fieldsT t = true → twiceP [] (t.mems.map (·.1)) = false → ¬ (4 ≤ t.kind ∧ 64 ≤ deep) → (∀ x ∈ t.ins, OkT (deep + 1) x) → OkT deep t
theorem OkT.fields {deep : Nat} {t : Tree} (h : OkT deep t) : fieldsT t = true := by cases h with | mk h1 h2 h3 h4 => exact h1
theorem OkT.twice {deep : Nat} {t : Tree} (h : OkT deep t) : twiceP [] (t.mems.map (·.1)) = false := by cases h with | mk h1 h2 h3 h4 => exact h2
theorem OkT.depth {deep : Nat} {t : Tree} (h : OkT deep t) : ¬ (4 ≤ t.kind ∧ 64 ≤ deep) := by cases h with | mk h1 h2 h3 h4 => exact h3
theorem OkT.ins {deep : Nat} {t : Tree} (h : OkT deep t) : ∀ x ∈ t.ins, OkT (deep + 1) x := by cases h with | mk h1 h2 h3 h4 => exact h4
theorem countL_ins (t : Tree) : countT t = 1 + countL t.ins := by
 cases t with
 | mk k b d s l m =>
   rw [countT, countM_map]; show _ = 1 + countL (l ++ m.map (·.2)); rw [countL_append]; omega
theorem saneL_zero {N : Nat} : ∀ (l : List Tree) (deep n m : Nat), (∀ x ∈ l, SizeOf.sizeOf x < N) → (∀ (t : Tree) (deep n m : Nat), SizeOf.sizeOf t < N → saneT deep n t = (0, m) → OkT deep t ∧ m = n + countT t ∧ m ≤ 4096) → n ≤ 4096 → saneL deep n l = (0, m) → (∀ x ∈ l, OkT deep x) ∧ m = n + countL l ∧ m ≤ 4096
 | [], deep, n, m, _, _, hn, h => by
   rw [saneL, Prod.mk.injEq] at h; exact ⟨by simp, by rw [countL]; omega, by omega⟩
 | t :: l, deep, n, m, hN, ih, hn, h => by
   rw [saneL] at h; cases hc : saneT deep n t with
   | mk e n' =>
     rw [hc] at h; simp only at h; by_cases he : e = 0
     · subst he; rw [if_pos rfl] at h; obtain ⟨h1, h2, h3⟩ := ih t deep n n' (hN t List.mem_cons_self) hc; obtain ⟨h4, h5, h6⟩ := saneL_zero l deep n' m (fun x hx => hN x (List.mem_cons_of_mem _ hx)) ih h3 h; refine ⟨fun x hx => ?_, by rw [countL]; omega, h6⟩; rcases List.mem_cons.1 hx with rfl | hx
       · exact h1
       · exact h4 x hx
     · rw [if_neg he] at h; exact absurd (congrArg Prod.fst h) he
theorem sane_ok : ∀ (N : Nat) (t : Tree) (deep n m : Nat), SizeOf.sizeOf t < N → saneT deep n t = (0, m) → OkT deep t ∧ m = n + countT t ∧ m ≤ 4096
 | 0, _, _, _, _, h, _ => by omega
 | N + 1, t, deep, n, m, hN, h => by
   rw [saneT_ins] at h; split at h
   · exact absurd (congrArg Prod.fst h) (by simp)
   · next h1 =>
     split at h
     · exact absurd (congrArg Prod.fst h) (by simp)
     · next h2 =>
       split at h
       · exact absurd (congrArg Prod.fst h) (by simp)
       · next h3 =>
         split at h
         · exact absurd (congrArg Prod.fst h) (by simp)
         · next h4 =>
           obtain ⟨h5, h6, h7⟩ := saneL_zero (N := N) t.ins (deep + 1) (n + 1) m (fun x hx => by have := ins_size hx; omega) (fun t deep n m h h' => sane_ok N t deep n m h h') (by omega) h; exact ⟨.mk (by simpa using h1) (by simpa using h2) h3 h5, by rw [countL_ins]; omega, h7⟩
theorem saneL_of {N : Nat} : ∀ (l : List Tree) (deep n : Nat), (∀ x ∈ l, SizeOf.sizeOf x < N) → (∀ (t : Tree) (deep n : Nat), SizeOf.sizeOf t < N → OkT deep t → (saneT deep n t = (0, n + countT t) ∧ n + countT t ≤ 4096) ∨ (4096 < n + countT t ∧ (saneT deep n t).1 = 4)) → (∀ x ∈ l, OkT deep x) → n ≤ 4096 →
 (saneL deep n l = (0, n + countL l) ∧ n + countL l ≤ 4096) ∨ (4096 < n + countL l ∧ (saneL deep n l).1 = 4)
 | [], deep, n, _, _, _, hn => .inl ⟨by rw [saneL, countL]; rfl, by rw [countL]; omega⟩
 | t :: l, deep, n, hN, ih, hk, hn => by
   rw [saneL, countL]; rcases ih t deep n (hN t List.mem_cons_self) (hk t List.mem_cons_self) with ⟨h1, h2⟩ | ⟨h1, h2⟩
   · rw [h1]; simp only [if_true]; have := saneL_of l deep (n + countT t) (fun x hx => hN x (List.mem_cons_of_mem _ hx)) ih (fun x hx => hk x (List.mem_cons_of_mem _ hx)) h2; rw [Nat.add_assoc] at this; exact this
   · cases hc : saneT deep n t with
     | mk e n' =>
       rw [hc] at h2; simp only at h2; subst h2; right
       exact ⟨by omega, by simp⟩
theorem ok_sane : ∀ (N : Nat) (t : Tree) (deep n : Nat), SizeOf.sizeOf t < N → OkT deep t → (saneT deep n t = (0, n + countT t) ∧ n + countT t ≤ 4096) ∨ (4096 < n + countT t ∧ (saneT deep n t).1 = 4)
 | 0, _, _, _, h, _ => by omega
 | N + 1, t, deep, n, hN, h => by
   rw [saneT_ins, if_neg (by rw [h.fields]; decide), if_neg (by rw [h.twice]; decide), if_neg h.depth, countL_ins]; by_cases h4 : 4096 < n + 1
   · rw [if_pos h4]; exact .inr ⟨by omega, rfl⟩
   · rw [if_neg h4]; have := saneL_of (N := N) t.ins (deep + 1) (n + 1) (fun x hx => by have := ins_size hx; omega) (fun t deep n h h' => ok_sane N t deep n h h') h.ins (by omega); rw [Nat.add_assoc] at this; exact this
theorem sane_iff {deep n m : Nat} {t : Tree} : saneT deep n t = (0, m) ↔ OkT deep t ∧ m = n + countT t ∧ m ≤ 4096 := by
 constructor
 · exact sane_ok _ t deep n m (Nat.lt_succ_self _)
 · rintro ⟨h1, rfl, h2⟩; rcases ok_sane _ t deep n (Nat.lt_succ_self _) h1 with ⟨h, _⟩ | ⟨h, _⟩
   · exact h
   · omega
theorem nodup_twiceP : ∀ (l met : List (List UInt8)), l.Nodup → (∀ k ∈ l, k ∉ met) → twiceP met l = false
 | [], _, _, _ => rfl
 | k :: l, met, h, hd => by
   obtain ⟨h1, h2⟩ := List.nodup_cons.1 h; rw [twiceP, Bool.or_eq_false_iff]; refine ⟨by simpa using hd k List.mem_cons_self, nodup_twiceP l (k :: met) h2 (fun x hx hm => ?_)⟩; rcases List.mem_cons.1 hm with rfl | hm
   · exact h1 hx
   · exact hd x (List.mem_cons_of_mem _ hx) hm
theorem fields_sorted {t : Tree} (h : fieldsT t = true) : fieldsT (sortedT t) = true := by
 cases t with
 | mk k b d s l m =>
   rw [sortedT]; unfold fieldsT at h ⊢; simp only at h ⊢; have e1 : (sortedL l).isEmpty = l.isEmpty := by rw [sortedL_map]; cases l <;> rfl
   have hp := sortM_perm (sortedM m); have e2 : (sortM (sortedM m)).isEmpty = m.isEmpty := by
    have h1 := hp.length_eq; rw [sortedM_map, List.length_map] at h1; rw [← sortedM_map] at h1; cases m with
    | nil => rfl
    | cons p m =>
      cases hs : sortM (sortedM (p :: m)) with
      | nil => rw [hs] at h1; simp at h1
      | cons q l => rfl
   have e3 : (sortM (sortedM m)).any badKey = m.any badKey := by
    rw [Bool.eq_iff_iff, List.any_eq_true, List.any_eq_true]; constructor
    · rintro ⟨p, hp1, hp2⟩; have := hp.mem_iff.1 hp1; rw [sortedM_map] at this; obtain ⟨q, hq, rfl⟩ := List.mem_map.1 this; exact ⟨q, hq, hp2⟩
    · rintro ⟨q, hq, hq2⟩; refine ⟨(q.1, sortedT q.2), hp.mem_iff.2 ?_, hq2⟩; rw [sortedM_map]; exact List.mem_map.2 ⟨q, hq, rfl⟩
   rw [e1, e2, e3]; exact h
theorem ok_sorted : ∀ (N : Nat) (t : Tree) (deep : Nat), SizeOf.sizeOf t < N → OkT deep t → OkT deep (sortedT t)
 | 0, _, _, h, _ => by omega
 | N + 1, t, deep, hN, h => by
   have hf := fields_sorted h.fields; have h2 := h.twice; have h3 := h.depth; have h4 := h.ins; have hsz : ∀ x ∈ t.ins, SizeOf.sizeOf x < N := fun x hx => by have := ins_size hx; omega
   cases t with
   | mk k b d s l m =>
     have hnd : (m.map (·.1)).Nodup := (twiceP_nodup _ [] h2).1; rw [sortedT] at hf ⊢; have hp := sortM_perm (sortedM m); refine .mk hf ?_ h3 ?_
     · have hn2 : ((sortM (sortedM m)).map (·.1)).Nodup := by
        refine ((hp.map (·.1)).nodup_iff).2 ?_; rw [keys_sortedM]; exact hnd
       exact nodup_twiceP _ [] hn2 (by simp)
     · intro x hx; rcases List.mem_append.1 hx with hx | hx
       · have hx' : x ∈ sortedL l := hx; rw [sortedL_map] at hx'; obtain ⟨u, hu, rfl⟩ := List.mem_map.1 hx'; have hi : u ∈ (Tree.mk k b d s l m).ins := List.mem_append_left _ hu; exact ok_sorted N u _ (hsz u hi) (h4 u hi)
       · obtain ⟨p, hp1, rfl⟩ := List.mem_map.1 hx; have := hp.mem_iff.1 hp1; rw [sortedM_map] at this; obtain ⟨q, hq, rfl⟩ := List.mem_map.1 this; have hi : q.2 ∈ (Tree.mk k b d s l m).ins := List.mem_append_right _ (List.mem_map.2 ⟨q, hq, rfl⟩); exact ok_sorted N q.2 _ (hsz _ hi) (h4 _ hi)
theorem OkT.saneP {t : Tree} {n m : Nat} {deep : Nat} (h : saneT deep n t = (0, m)) : SaneP t := ⟨deep, n, by rw [h]⟩
theorem sane_sorted {deep n m : Nat} {t : Tree} (h : saneT deep n t = (0, m)) : saneT deep n (sortedT t) = (0, m) ∧ sortedT (sortedT t) = sortedT t := by
 obtain ⟨h1, h2, h3⟩ := sane_iff.1 h; have hs : SaneP t := OkT.saneP h; obtain ⟨_, e2, e3⟩ := dist_sorted _ t (Nat.lt_succ_self _) (SaneP.dist _ t (Nat.lt_succ_self _) hs); exact ⟨sane_iff.2 ⟨ok_sorted _ t deep (Nat.lt_succ_self _) h1, by rw [e3]; exact h2, h3⟩, e2⟩
def toldT (by' : Int) (t : Tree) : List UInt8 × Int := if (saneT 0 0 t).1 ≠ 0 then ([], (saneT 0 0 t).1) else (outT by' 0 (sortedT t), 0)
def shortT (r : List UInt8 × Int) : List UInt8 × Int := if r.2 ≠ 0 then ([], r.2) else if 65536 < r.1.length then ([], 4) else r
def printT (t : Tree) : List UInt8 × Int := shortT (toldT (-1) t)
def prettyT (t : Tree) (by' : Int) : List UInt8 × Int := if by' < 0 ∨ 16 < by' then ([], 1) else shortT (toldT by' t)
theorem blankP_flat : blankP (-1) = [] := rfl
end Orange
end

section
set_option maxRecDepth 100000
namespace Go.Proofs.YtjapbjmeoaagmaaGreatDoor
open Go.RowKit Go.Mem Orange
theorem hexget (n : Nat) (h : n < 16) : hexs[n]?.getD 0 = (ByteArray.mk #[48, 49, 50, 51, 52, 53, 54, 55, 56, 57, 97, 98, 99, 100, 101, 102])[n]'h := by
 have : n = 0 ∨ n = 1 ∨ n = 2 ∨ n = 3 ∨ n = 4 ∨ n = 5 ∨ n = 6 ∨ n = 7 ∨ n = 8 ∨ n = 9 ∨ n = 10 ∨ n = 11 ∨ n = 12 ∨ n = 13 ∨ n = 14 ∨ n = 15 := by omega
 rcases this with rfl | rfl | rfl | rfl | rfl | rfl | rfl | rfl | rfl | rfl | rfl | rfl | rfl | rfl | rfl | rfl <;> rfl
theorem wbyte (base b : Nat) (t : TypeId) (ex : List Value) (l : List UInt8) (n : Int) (c : UInt8) (w : World) (hn : (c.toNat : Int) = n) (ht : BldT t (ex.length + 2)) (h : Bld w base b t ex l) (hl : l.length + 1 ≤ 140737488355328) (hbase : base ≤ w.heap.size) :
 Calls Tryz.prog 62 #[.pointer (some ⟨b, 0, none⟩), .int .u8 n] w fun e w' => e = .returned .nilIface ∧ Bld w' base b t ex (l ++ [c]) ∧ Kept base b w w' ∧ w.heap.size ≤ w'.heap.size := by
 subst hn; refine (writeByte_any base b t ex l c w ht h hl hbase).mono ?_; rintro e w' ⟨rfl, h1, h2⟩; exact ⟨rfl, h1, h2, h2.size⟩
set_option maxHeartbeats 3200000 in
theorem quote_any (s : ByteArray) (w : World) (hl : s.size ≤ 1000000000) :
 Calls Tryz.prog 86 #[.string s] w fun e w' => e = .returned (.string ⟨(quote s.data.toList).toArray⟩) ∧ Ext w w' := by
 have hT := bldT_plain; go_enter Tryz.func86, Tryz.ntmps86
 go_wp2_with fail; have hb0 : (w.alloc (.cells #[.pointer none, .slice none 0 0] 80)).heap[w.heap.size]? = some (.cells #[.pointer none, .slice none 0 0] 80 (0, 0)) := heap_alloc_new _ _; have hB0 : Bld (w.alloc (.cells #[.pointer none, .slice none 0 0] 80)) (w.heap.size + 1) w.heap.size 80 [] [] := ⟨_, _, hb0, .inl rfl, by omega, OwnB.nil _ _ _⟩
 have hs0 : (w.alloc (.cells #[.pointer none, .slice none 0 0] 80)).heap.size = w.heap.size + 1 := by simp
 have hx0 : Ext w (w.alloc (.cells #[.pointer none, .slice none 0 0] 80)) := (ext_refl w).alloc (Nat.le_refl _) _; refine (wbyte _ _ _ [] _ _ 34 _ rfl hT hB0 (by simp) (by omega)).mono ?_; rintro e w1 ⟨rfl, hB1, hK1, hs1⟩; simp only [List.nil_append] at hB1; go_wp2_with fail; have hx1 : Ext w w1 := hx0.trans ((hK1.mono (by omega : w.heap.size ≤ w.heap.size + 1)).below (Nat.le_refl _))
 go_loopw [10] (fun iv wr => ∃ k : Nat, k ≤ s.size ∧ iv = .int .i64 k ∧ Bld wr (w.heap.size + 1) w.heap.size 80 [] (34 :: quoL (s.data.toList.take k)) ∧ Kept (w.heap.size + 1) w.heap.size w1 wr ∧ w.heap.size + 1 ≤ wr.heap.size) (fun iv _ => s.size - (intOf iv).toNat)
 case atStart => exact ⟨0, by omega, rfl, hB1, Kept.refl _ _ _, by omega⟩
 case round =>
  obtain ⟨k, hk, rfl, hB1, hKr, hs1⟩ := hrel; have hq := quoL_len (s.data.toList.take k); have hq2 : (s.data.toList.take k).length ≤ k := List.length_take_le _ _; clear hB0 hb0 hs0 hx0 hK1; by_cases hlt : k < s.size
  · obtain ⟨c, hc⟩ := Ex (s[k]); have hsn := quoL_snoc s k hlt c hc; have hc8 := c.toNat_lt; by_cases hA : c = 34 ∨ c = 92
    · have hqc : quoC c = [92, c] := by rw [quoC, if_pos hA]
      rw [hqc] at hsn; have HQ := Hd hsn; have hix : Lib.indexByte [8, 9, 10, 12, 13] c = -1 := by rcases hA with rfl | rfl <;> decide
      clear hsn hqc; rcases hA with rfl | rfl
      · go_wp2_with fail; refine (idx_eq _ 34 _ _ hix).mono ?_; rintro e w' ⟨rfl, rfl⟩; go_wp2_with fail; refine (wbyte _ _ _ [] _ _ 92 _ (rfl) hT hB1 (by simp; omega) (by omega)).mono ?_; rintro e w2 ⟨rfl, hB2, hK2, hs2⟩; go_wp2_with fail; refine (wbyte _ _ _ [] _ _ 34 _ (rfl) hT hB2 (by simp; omega) (by omega)).mono ?_; rintro e w3 ⟨rfl, hB3, hK3, hs3⟩; go_wp2_with fail; go_roundw
        case rel => exact ⟨k + 1, by omega, by go_num, by rw [HQ.out]; simpa using hB3, ((hKr).trans hK2).trans hK3, by omega⟩
        case measure => simp [intOf]; omega
      · go_wp2_with fail; refine (idx_eq _ 92 _ _ hix).mono ?_; rintro e w' ⟨rfl, rfl⟩; go_wp2_with fail; refine (wbyte _ _ _ [] _ _ 92 _ (rfl) hT hB1 (by simp; omega) (by omega)).mono ?_; rintro e w2 ⟨rfl, hB2, hK2, hs2⟩; go_wp2_with fail; refine (wbyte _ _ _ [] _ _ 92 _ (rfl) hT hB2 (by simp; omega) (by omega)).mono ?_; rintro e w3 ⟨rfl, hB3, hK3, hs3⟩; go_wp2_with fail; go_roundw
        case rel => exact ⟨k + 1, by omega, by go_num, by rw [HQ.out]; simpa using hB3, ((hKr).trans hK2).trans hK3, by omega⟩
        case measure => simp [intOf]; omega
    by_cases hN : c = 8 ∨ c = 9 ∨ c = 10 ∨ c = 12 ∨ c = 13
    · rcases hN with rfl | rfl | rfl | rfl | rfl
      · have hqc : quoC 8 = [92, 98] := by decide
        rw [hqc] at hsn; have HQ := Hd hsn; have hix : Lib.indexByte [8, 9, 10, 12, 13] 8 = 0 := by decide
        clear hsn hqc hA; go_wp2_with fail; refine (idx_eq _ 8 _ _ hix).mono ?_; rintro e w' ⟨rfl, rfl⟩; go_wp2_with fail; refine (wbyte _ _ _ [] _ _ 92 _ (rfl) hT hB1 (by simp; omega) (by omega)).mono ?_; rintro e w2 ⟨rfl, hB2, hK2, hs2⟩; go_wp2_with fail; refine (wbyte _ _ _ [] _ _ 98 _ (rfl) hT hB2 (by simp; omega) (by omega)).mono ?_; rintro e w3 ⟨rfl, hB3, hK3, hs3⟩; go_wp2_with fail; go_roundw
        case rel => exact ⟨k + 1, by omega, by go_num, by rw [HQ.out]; simpa using hB3, ((hKr).trans hK2).trans hK3, by omega⟩
        case measure => simp [intOf]; omega
      · have hqc : quoC 9 = [92, 116] := by decide
        rw [hqc] at hsn; have HQ := Hd hsn; have hix : Lib.indexByte [8, 9, 10, 12, 13] 9 = 1 := by decide
        clear hsn hqc hA; go_wp2_with fail; refine (idx_eq _ 9 _ _ hix).mono ?_; rintro e w' ⟨rfl, rfl⟩; go_wp2_with fail; refine (wbyte _ _ _ [] _ _ 92 _ (rfl) hT hB1 (by simp; omega) (by omega)).mono ?_; rintro e w2 ⟨rfl, hB2, hK2, hs2⟩; go_wp2_with fail; refine (wbyte _ _ _ [] _ _ 116 _ (rfl) hT hB2 (by simp; omega) (by omega)).mono ?_; rintro e w3 ⟨rfl, hB3, hK3, hs3⟩; go_wp2_with fail; go_roundw
        case rel => exact ⟨k + 1, by omega, by go_num, by rw [HQ.out]; simpa using hB3, ((hKr).trans hK2).trans hK3, by omega⟩
        case measure => simp [intOf]; omega
      · have hqc : quoC 10 = [92, 110] := by decide
        rw [hqc] at hsn; have HQ := Hd hsn; have hix : Lib.indexByte [8, 9, 10, 12, 13] 10 = 2 := by decide
        clear hsn hqc hA; go_wp2_with fail; refine (idx_eq _ 10 _ _ hix).mono ?_; rintro e w' ⟨rfl, rfl⟩; go_wp2_with fail; refine (wbyte _ _ _ [] _ _ 92 _ (rfl) hT hB1 (by simp; omega) (by omega)).mono ?_; rintro e w2 ⟨rfl, hB2, hK2, hs2⟩; go_wp2_with fail; refine (wbyte _ _ _ [] _ _ 110 _ (rfl) hT hB2 (by simp; omega) (by omega)).mono ?_; rintro e w3 ⟨rfl, hB3, hK3, hs3⟩; go_wp2_with fail; go_roundw
        case rel => exact ⟨k + 1, by omega, by go_num, by rw [HQ.out]; simpa using hB3, ((hKr).trans hK2).trans hK3, by omega⟩
        case measure => simp [intOf]; omega
      · have hqc : quoC 12 = [92, 102] := by decide
        rw [hqc] at hsn; have HQ := Hd hsn; have hix : Lib.indexByte [8, 9, 10, 12, 13] 12 = 3 := by decide
        clear hsn hqc hA; go_wp2_with fail; refine (idx_eq _ 12 _ _ hix).mono ?_; rintro e w' ⟨rfl, rfl⟩; go_wp2_with fail; refine (wbyte _ _ _ [] _ _ 92 _ (rfl) hT hB1 (by simp; omega) (by omega)).mono ?_; rintro e w2 ⟨rfl, hB2, hK2, hs2⟩; go_wp2_with fail; refine (wbyte _ _ _ [] _ _ 102 _ (rfl) hT hB2 (by simp; omega) (by omega)).mono ?_; rintro e w3 ⟨rfl, hB3, hK3, hs3⟩; go_wp2_with fail; go_roundw
        case rel => exact ⟨k + 1, by omega, by go_num, by rw [HQ.out]; simpa using hB3, ((hKr).trans hK2).trans hK3, by omega⟩
        case measure => simp [intOf]; omega
      · have hqc : quoC 13 = [92, 114] := by decide
        rw [hqc] at hsn; have HQ := Hd hsn; have hix : Lib.indexByte [8, 9, 10, 12, 13] 13 = 4 := by decide
        clear hsn hqc hA; go_wp2_with fail; refine (idx_eq _ 13 _ _ hix).mono ?_; rintro e w' ⟨rfl, rfl⟩; go_wp2_with fail; refine (wbyte _ _ _ [] _ _ 92 _ (rfl) hT hB1 (by simp; omega) (by omega)).mono ?_; rintro e w2 ⟨rfl, hB2, hK2, hs2⟩; go_wp2_with fail; refine (wbyte _ _ _ [] _ _ 114 _ (rfl) hT hB2 (by simp; omega) (by omega)).mono ?_; rintro e w3 ⟨rfl, hB3, hK3, hs3⟩; go_wp2_with fail; go_roundw
        case rel => exact ⟨k + 1, by omega, by go_num, by rw [HQ.out]; simpa using hB3, ((hKr).trans hK2).trans hK3, by omega⟩
        case measure => simp [intOf]; omega
    have hix : Lib.indexByte [8, 9, 10, 12, 13] c = -1 := idx_none _ _ (by
     intro y hy e; simp only [List.mem_cons, List.not_mem_nil, or_false] at hy; apply hN; rw [← e]; exact hy)
    have hd1 : (((c.toNat : Nat) : Int) == 34) = false := by
     simp only [beq_eq_false_iff_ne, ne_eq]; intro e; exact hA (.inl (UInt8.toNat.inj (by simpa using (by omega : c.toNat = 34))))
    have hd2 : (((c.toNat : Nat) : Int) == 92) = false := by
     simp only [beq_eq_false_iff_ne, ne_eq]; intro e; exact hA (.inr (UInt8.toNat.inj (by simpa using (by omega : c.toNat = 92))))
    have hq1 : quoC c = if c.toNat < 32 then [92, 117, 48, 48, hexs[c.toNat / 16]?.getD 0, hexs[c.toNat % 16]?.getD 0] else [c] := by
     simp only [not_or] at hN; rw [quoC, if_neg hA, if_neg hN.1, if_neg hN.2.1, if_neg hN.2.2.1, if_neg hN.2.2.2.1, if_neg hN.2.2.2.2]
    clear hA hN; by_cases h32 : c.toNat < 32
    · rw [hq1, if_pos h32] at hsn; have HQ := Hd hsn; clear hsn hq1; have hd3 : decide (((c.toNat : Nat) : Int) < 32) = true := by simp; omega
      go_wp2_with fail; refine (idx_eq _ c _ _ hix).mono ?_; rintro e w' ⟨rfl, rfl⟩; go_wp2_with fail; refine (writeString_any _ _ _ [] _ _ _ hT hB1 (by show (34 :: quoL (s.data.toList.take k)).length + 4 ≤ 140737488355328; simp; omega) (by omega)).mono ?_; rintro e w2 ⟨rfl, hB2, hK2⟩; have hs2 := hK2.size; go_wp2_with fail
      refine (wbyte _ _ _ [] _ _ (hexs[c.toNat / 16]?.getD 0) _ (by rw [hexget _ (by omega)]) hT hB2 (by simp; omega) (by omega)).mono ?_; rintro e w3 ⟨rfl, hB3, hK3, hs3⟩; go_wp2_with fail; refine (wbyte _ _ _ [] _ _ (hexs[c.toNat % 16]?.getD 0) _ (by rw [hexget _ (by omega)]) hT hB3 (by simp; omega) (by omega)).mono ?_; rintro e w4 ⟨rfl, hB4, hK4, hs4⟩; go_wp2_with fail; go_roundw
      case rel => exact ⟨k + 1, by omega, by go_num, by rw [HQ.out]; simpa using hB4, (((hKr).trans hK2).trans hK3).trans hK4, by omega⟩
      case measure => simp [intOf]; omega
    · rw [hq1, if_neg h32] at hsn; have HQ := Hd hsn; clear hsn hq1; have hd3 : decide (((c.toNat : Nat) : Int) < 32) = false := by simp; omega
      go_wp2_with fail; refine (idx_eq _ c _ _ hix).mono ?_; rintro e w' ⟨rfl, rfl⟩; go_wp2_with fail; refine (wbyte _ _ _ [] _ _ c _ (rfl) hT hB1 (by simp; omega) (by omega)).mono ?_; rintro e w2 ⟨rfl, hB2, hK2, hs2⟩; go_wp2_with fail; go_roundw
      case rel => exact ⟨k + 1, by omega, by go_num, by rw [HQ.out]; simpa using hB2, (hKr).trans hK2, by omega⟩
      case measure => simp [intOf]; omega
  · obtain rfl : k = s.size := by omega
    go_wp2_with fail; refine (wbyte _ _ _ [] _ _ 34 _ rfl hT hB1 (by simp; omega) (by omega)).mono ?_; rintro e w2 ⟨rfl, hB2, hK2, hs2⟩; go_wp2_with fail; refine (builderString_any _ _ _ [] _ _ hB2 (by simp; omega) (by simp)).mono ?_; rintro e w3 ⟨rfl, hb3⟩; go_wp2_with fail; go_ret
    have hfull : s.data.toList.take s.size = s.data.toList := List.take_of_length_le (by rw [Array.length_toList]; exact Nat.le_refl _); refine ⟨?_, hx1.trans (((hKr.trans hK2).mono (by omega : w.heap.size ≤ w.heap.size + 1)).below (Nat.le_refl _) |>.trans ((hb3.mono (by omega : w.heap.size ≤ w.heap.size + 1))))⟩; rw [hfull]; rfl
def Tab (w : World) : Prop := Lib.TabIs Tryz.prog w "internal/strconv.uint64pow10" .u64 Lib.pow10Tab
theorem Tab.ext {w w' : World} (h : Tab w) (hb : Ext w w') : Tab w' := by
 unfold Tab Lib.TabIs at h ⊢; have hc : ∃ g, Tryz.prog.globalNamed "internal/strconv.uint64pow10" = some g ∧ g < w.heap.size := by
  cases hq : Tryz.prog.globalNamed "internal/strconv.uint64pow10" with
  | none => simp [World.var?, hq] at h
  | some g => exact ⟨g, rfl, World.block_lt_of_cell? w _ (Lib.TabIs.cell h hq 0 (by decide))⟩
 obtain ⟨g, hg, hlt⟩ := hc; exact var?_below hb hg hlt h
theorem decDigits_eq : ∀ u, Lib.decDigits u = decD u := by
 intro u; induction u using Nat.strongRecOn with
 | _ u ih =>
   rw [Lib.decDigits]; split
   · rename_i h
     unfold decD; split
     · rename_i h0; subst h0; rfl
     · rename_i h0
       rw [digs_pos h0, show u / 10 = 0 by omega, digs_zero, show u % 10 = u by omega]; rfl
   · rename_i h
     rw [ih (u / 10) (by omega)]; unfold decD; rw [if_neg (by omega), if_neg (by omega), digs_pos (N := u) (by omega)]; rfl
theorem itoa_eq (n : Int) : Lib.itoa n = itoaP n := by
 unfold Lib.itoa itoaP; rw [decDigits_eq, decDigits_eq]
theorem itoa_any (n : Int) (w : World) (hT : Tab w) (h0 : -9223372036854775808 ≤ n) (h1 : n ≤ 9223372036854775807) :
 Calls Tryz.prog 65 #[.int .i64 n] w fun e w' => e = .returned (.string ⟨(itoaP n).toArray⟩) ∧ Ext w w' := by
 refine (Tryz.strconv_Itoa n h0 h1 w hT).mono ?_; rintro e w' ⟨rfl, k, os, rfl⟩; exact ⟨by rw [itoa_eq], Lib.below_grow _ w (Nat.le_refl _) k os⟩
theorem hasPrefix_n (l p : List UInt8) (w : World) :
 Calls Tryz.prog 212 #[.string ⟨l.toArray⟩, .string ⟨p.toArray⟩] w fun e w' => e = .returned (.bool (p.isPrefixOf l)) ∧ w = w' := by
 refine (Tryz.strings_HasPrefix ⟨l.toArray⟩ ⟨p.toArray⟩ w).mono ?_; rintro e w' ⟨rfl, rfl⟩; exact ⟨rfl, rfl⟩
set_option maxHeartbeats 1600000 in
theorem repeat_any (c : Nat) (hc : c ≤ 40) (w : World) :
 Calls Tryz.prog 187 #[.string ⟨#[48]⟩, .int .i64 c] w fun e w' => e = .returned (.string ⟨(zeros c).toArray⟩) ∧ Ext w w' := by
 by_cases h0 : c = 0
 · subst h0; go_enter Tryz.func187, Tryz.ntmps187
   go_wp2_with fail; go_ret; exact ⟨rfl, ext_refl w⟩
 · by_cases h1 : c = 1
   · subst h1; go_enter Tryz.func187, Tryz.ntmps187
     go_wp2_with fail; go_ret; exact ⟨rfl, ext_refl w⟩
   · have q0 : ((c : Int) == 0) = false := by simp; omega
     have q1 : ((c : Int) == 1) = false := by simp; omega
     have u1 : IntKind.u64.wrap (c : Int) = c := by simp [IntKind.wrap, IntKind.bits, IntKind.signed]; omega
     have u2 : IntKind.i64.wrap (c : Int) = c := IntWalk.i64_in _ (by omega); go_enter Tryz.func187, Tryz.ntmps187
     go_wp2_with fail; have e1 : ((1 * c / 18446744073709551616 : Nat) : Int) = 0 := by omega
     have e2 : ((1 * c % 18446744073709551616 : Nat) : Int) = c := by omega
     refine (Tryz.bits_Mul 1 c (by decide) (by omega) w).mono ?_; rintro e w1 ⟨rfl, rfl⟩; rw [e1, e2]; clear e1 e2; go_wp2_with fail; refine (hasPrefix_n _ [48] _).mono ?_; rintro e w1 ⟨rfl, rfl⟩; go_wp2_with fail; refine (hasPrefix_n _ [48] _).mono ?_; rintro e w1 ⟨rfl, rfl⟩; go_wp2_with fail; refine (hasPrefix_n _ [48] _).mono ?_; rintro e w1 ⟨rfl, rfl⟩; go_wp2_with fail; go_ret
     refine ⟨?_, ext_refl _⟩; have ez : (zeros 64).take c = zeros c := by unfold zeros; rw [List.take_replicate, show min c 64 = c by omega]
     show Ending.returned (.string (ByteArray.extract ⟨(zeros 64).toArray⟩ 0 c)) = _; rw [sx_take, ez]
end Go.Proofs.YtjapbjmeoaagmaaGreatDoor
end
