/- A text of this proof. -/
import Derived.Test.YtjapbjmeoaagmaaGreatDoorEValueAtPaL
import Derived.Test.YtjapbjmeoaagmaaGreatDoorEValueAtPaR
set_option linter.unusedVariables false
set_option linter.unusedSimpArgs false
set_option maxRecDepth 100000
namespace Go.Proofs.YtjapbjmeoaagmaaGreatDoor
open Go.RowKit Go.Mem Orange
def Box1 (w : World) (q : Nat) (ty : TypeId) (u : Value) : Prop := w.heap[q]? = some (.cells #[u] ty (0, 0))
theorem Box1.lt {w : World} {q : Nat} {ty : TypeId} {u : Value} (h : Box1 w q ty u) : q < w.heap.size := (Array.getElem?_eq_some_iff.1 h).1
theorem Box1.kept {w w' : World} {p q : Nat} {ty : TypeId} {u : Value} (h : Box1 w q ty u) (hb : KeptP p w w') (hq : q ≠ p) : Box1 w' q ty u := by
 unfold Box1; rw [hb.block _ h.lt hq]; exact h
theorem Box1.cell {w : World} {q : Nat} {ty : TypeId} {u : Value} (h : Box1 w q ty u) : w.cell? ⟨q, 0, none⟩ = some u := by rw [cell_of_cells h]; rfl
theorem Box1.free {w : World} {q : Nat} {ty : TypeId} {u : Value} (h : Box1 w q ty u) : w.frozen? ⟨q, 0, none⟩ = false := free_of_cells h
def StA (base q : Nat) (acc : List Tree) (w : World) : Prop :=
 ∃ vL cs, VAt w q (cellsV 4 false Num.zero [] vL noL) ∧ w.ownsRow base 27 8 vL acc.length cs ∧ TL w (fun g => base ≤ g ∧ vL.ownBlock ≠ some g) acc cs
theorem ownsRow_kept {w w' : World} {base p : Nat} {e : TypeId} {z n : Nat} {v : Value} {cs : List Value} (h : w.ownsRow base e z v n cs) (hk : KeptP p w w') (hp : p < base) : w'.ownsRow base e z v n cs := by
 obtain ⟨h1, h2⟩ := h; refine ⟨h1, ?_⟩; rcases h2 with h2 | ⟨g, cap, cur, rfl, hbg, hg, r⟩
 · exact .inl h2
 · exact .inr ⟨g, cap, cur, rfl, hbg, by rw [hk.block g (Array.getElem?_eq_some_iff.1 hg).1 (by omega)]; exact hg, r⟩
theorem StA.kept {base q p : Nat} {acc : List Tree} {w w' : World} (h : StA base q acc w) (hk : KeptP p w w') (hp : p < base) (hq : q ≠ p) : StA base q acc w' := by
 obtain ⟨vL, cs, h1, h2, h3⟩ := h; exact ⟨vL, cs, h1.kept hk hq, ownsRow_kept h2 hk hp, h3.keep hk.size (fun g hg hlt => ⟨hg, hk.block g hlt (by omega)⟩)⟩
theorem TV.kept {w w' : World} {B p : Nat} {t : Tree} {c : Array Value} (h : TV w (fun g => B ≤ g) t c) (hk : KeptP p w w') (hp : p < B) : TV w' (fun g => B ≤ g) t c :=
 h.keep hk.size (fun g hg hlt => ⟨hg, hk.block g hlt (by omega)⟩)
structure KeptQ (base p q : Nat) (w w' : World) : Prop where
 os : w'.os = w.os
 tape : w'.tape = w.tape
 output : w'.output = w.output
 size : w.heap.size ≤ w'.heap.size
 block : ∀ k, k < base → k ≠ p → k ≠ q → w'.heap[k]? = w.heap[k]?
theorem KeptQ.kept {base p q B : Nat} {w w' : World} (h : KeptQ base p q w w') (hb : B ≤ base) (hq : B ≤ q) : Kept B p w w' :=
 ⟨h.os, h.tape, h.output, h.size, fun k hk hp => h.block k (by omega) hp (by omega)⟩
theorem KeptQ.box {base p q b : Nat} {w w' : World} {ty : TypeId} {u : Value} (h : KeptQ base p q w w') (hb : Box1 w b ty u) (h1 : b < base) (h2 : b ≠ p) (h3 : b ≠ q) : Box1 w' b ty u := by
 unfold Box1; rw [h.block b h1 h2 h3]; exact hb
theorem StA.push {w w3 w4 W : World} {p base q g cap : Nat} {acc : List Tree} {cs : List Value} {t : Tree} {c : Array Value} {vL : Value} {zs : List Value} {cur : Array Value} (hbs : base ≤ w.heap.size) (hk3 : KeptP p w w3) (hqb : q < base)
 (hlt : ∀ k, vL.ownBlock = some k → k < w.heap.size) (htl : TL w3 (fun g => base ≤ g ∧ vL.ownBlock ≠ some g) acc cs) (htv : TV w3 (fun g => w.heap.size ≤ g) t c) (hgr : w3.grownBy w4 vL.ownBlock)
 (hown : w4.ownsRow base 27 8 (.slice (some ⟨g, 0, none⟩) (acc.length + 1) cap) (acc.length + 1) (cs ++ zs)) (hg : w4.heap[g]? = some (.cells cur 27 (0, 0))) (hbg : base ≤ g)
 (hor : some g = vL.ownBlock ∨ g = w3.heap.size) (h2 : Two w4 W g q (.cells (putL cur (acc.length * 8) c.toList) 27 (0, 0)) (.cells (cellsV 4 false Num.zero [] (.slice (some ⟨g, 0, none⟩) (acc.length + 1) cap) noL) 27 (0, 0))) : StA base q (acc ++ [t]) W := by
 have hs := hk3.size; have hsz : w3.heap.size ≤ W.heap.size := by rw [h2.size]; exact hgr.size
 have same : ∀ k, base ≤ k → vL.ownBlock ≠ some k → k < w3.heap.size → W.heap[k]? = w3.heap[k]? := fun k hk hne hkl => by
  rw [h2.block k (by rintro rfl; rcases hor with h | h; exact hne h.symm; omega) (by omega)]; exact hgr.block k hkl (Ne.symm hne)
 refine ⟨_, cs ++ c.toList, h2.atQ, ?_, ?_⟩
 · rw [List.length_append]; exact ownsRow_put hown hg (by have := htl.length; omega) (by simpa using htv.size) h2
 · refine TL.append (htl.keep hsz (fun k hk hkl => ⟨⟨hk.1, ?_⟩, same k hk.1 hk.2 hkl⟩)) (htv.keep hsz (fun k hk hkl => ⟨⟨by omega, ?_⟩, same k (by omega) (fun e => by have := hlt k e; omega) hkl⟩))
   · simp only [Value.ownBlock, ne_eq, Option.some.injEq]; rintro rfl; rcases hor with h | h
     · exact hk.2 h.symm
     · omega
   · simp only [Value.ownBlock, ne_eq, Option.some.injEq]; rintro rfl; rcases hor with h | h
     · have := hlt g h.symm; omega
     · omega
abbrev zeroV : Array Value := cellsV 0 false Num.zero [] noL noL
section
variable {G0 G1 : World → World → Prop} {sp p B : Nat}
end
end Go.Proofs.YtjapbjmeoaagmaaGreatDoor
