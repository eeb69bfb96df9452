/- A text of this proof. -/
import Derived.Test.YtjapbjmeoaagmaaGreatDoorEValueAtPaV
import Derived.Defers
import Derived.Recover
import Derived.Laws.Pointers
set_option linter.unusedVariables false
set_option linter.unusedSimpArgs false
set_option maxRecDepth 100000
namespace Go.Proofs.YtjapbjmeoaagmaaGreatDoor
open Go.RowKit Go.Mem Orange
structure KeptT (S : Nat) (w w' : World) : Prop where
 os : w'.os = w.os
 tape : w'.tape = w.tape
 output : w'.output = w.output
 size : w.heap.size ≤ w'.heap.size
 block : ∀ k, k < w.heap.size → k ≠ S → k ≠ S + 1 → k ≠ S + 2 → w'.heap[k]? = w.heap[k]?
theorem KeptT.trans {S : Nat} {a b c : World} (h : KeptT S a b) (k : KeptT S b c) : KeptT S a c :=
 ⟨k.os.trans h.os, k.tape.trans h.tape, k.output.trans h.output, Nat.le_trans h.size k.size, fun i h1 h2 h3 h4 => (k.block i (Nat.lt_of_lt_of_le h1 h.size) h2 h3 h4).trans (h.block i h1 h2 h3 h4)⟩
theorem KeptT.ofExt {S : Nat} {a b : World} (h : Ext a b) : KeptT S a b := ⟨h.os, h.tape, h.output, h.size, fun k hk _ _ _ => h.block k hk⟩
theorem KeptT.set {S q o : Nat} {u : Value} (w : World) (hq : q = S ∨ q = S + 1 ∨ q = S + 2) : KeptT S w (w.setCell ⟨q, o, none⟩ u) :=
 ⟨rfl, rfl, rfl, by simp [World.setCell], fun k _ h1 h2 h3 => Below.heap_setCell _ _ _ _ (by show k ≠ q; omega)⟩
structure G3 (S : Nat) (c : Array Value) (u1 u2 : Value) (w w' : World) : Prop where
 kept : KeptT S w w'
 v : VAt w S c → VAt w' S c
 a : Box1 w (S + 1) 3 u1 → Box1 w' (S + 1) 3 u1
 e : Box1 w (S + 2) 32 u2 → Box1 w' (S + 2) 32 u2
 a0 : (∃ u, Box1 w (S + 1) 3 u) → ∃ u, Box1 w' (S + 1) 3 u
 e0 : (∃ u, Box1 w (S + 2) 32 u) → ∃ u, Box1 w' (S + 2) 32 u
theorem G3.trans {S : Nat} {c : Array Value} {u1 u2 : Value} {w w1 w2 : World} (h : G3 S c u1 u2 w w1) (k : G3 S c u1 u2 w1 w2) : G3 S c u1 u2 w w2 :=
 ⟨h.kept.trans k.kept, fun x => k.v (h.v x), fun x => k.a (h.a x), fun x => k.e (h.e x), fun x => k.a0 (h.a0 x), fun x => k.e0 (h.e0 x)⟩
theorem G3.refl {S : Nat} {c : Array Value} {u1 u2 : Value} (w : World) : G3 S c u1 u2 w w := ⟨KeptT.ofExt (ext_refl w), id, id, id, id, id⟩
theorem Box1.ext {w w' : World} {q : Nat} {ty : TypeId} {u : Value} (h : Box1 w q ty u) (hb : Ext w w') : Box1 w' q ty u := by
 unfold Box1; rw [hb.block _ h.lt]; exact h
theorem G3.drew {S : Nat} {c : Array Value} {u1 u2 : Value} (w : World) : G3 S c u1 u2 w w.drew := ⟨KeptT.ofExt (ext_refl w).drew, id, id, id, id, id⟩
theorem Box1.set {w : World} {q : Nat} {ty : TypeId} {u u' : Value} (h : Box1 w q ty u) : Box1 (w.setCell ⟨q, 0, none⟩ u') q ty u' := setCell_heap_self h
structure B3 (S : Nat) (c : Array Value) (u1 u2 : Value) (w1 w : World) : Prop where
 g : G3 S c u1 u2 w1 w
 v : VAt w S c
 a : ∃ u, Box1 w (S + 1) 3 u
 e : ∃ u, Box1 w (S + 2) 32 u
theorem B3.next {S : Nat} {c : Array Value} {u1 u2 : Value} {w1 w w' : World} (h : B3 S c u1 u2 w1 w) (hg : G3 S c u1 u2 w w') : B3 S c u1 u2 w1 w' := ⟨h.g.trans hg, hg.v h.v, hg.a0 h.a, hg.e0 h.e⟩
end Go.Proofs.YtjapbjmeoaagmaaGreatDoor
