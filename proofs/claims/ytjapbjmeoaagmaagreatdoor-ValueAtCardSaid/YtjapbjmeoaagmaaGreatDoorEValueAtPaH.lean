/- A text of this proof. -/
import Derived.Test.YtjapbjmeoaagmaaGreatDoorEValueAtPaX
set_option linter.unusedVariables false
set_option linter.unusedSimpArgs false
namespace Go.Proofs.YtjapbjmeoaagmaaGreatDoor
open Go.RowKit Go.Mem Orange
def RowAt (w : World) (A : Nat → Prop) (z : Nat) (v : Value) (n : Nat) (cs : List Value) : Prop :=
 cs.length = n * z ∧ ∃ a cap, v = .slice a n cap ∧ n ≤ cap ∧ cap ≤ 9223372036854775807 ∧ (0 < n → ∃ g o, a = some ⟨g, o, none⟩ ∧ A g ∧ g < w.heap.size ∧ ∀ i, (h : i < cs.length) → w.cell? ⟨g, o + i, none⟩ = some cs[i])
mutual
inductive TV (w : World) (A : Nat → Prop) : Tree → Array Value → Prop
 | mk {k : Int} {b : Bool} {d : Num} {s : List UInt8} {l : List Tree} {m : List (List UInt8 × Tree)} {vL vM : Value} {cl cm : List Value} :
    TL w A l cl → RowAt w A 8 vL l.length cl → TM w A m cm → RowAt w A 9 vM m.length cm → TV w A (.mk k b d s l m) (cellsV k b d s vL vM)
inductive TL (w : World) (A : Nat → Prop) : List Tree → List Value → Prop
 | nil : TL w A [] []
 | cons {t : Tree} {l : List Tree} {c : Array Value} {cs : List Value} : TV w A t c → TL w A l cs → TL w A (t :: l) (c.toList ++ cs)
inductive TM (w : World) (A : Nat → Prop) : List (List UInt8 × Tree) → List Value → Prop
 | nil : TM w A [] []
 | cons {k : List UInt8} {t : Tree} {l : List (List UInt8 × Tree)} {c : Array Value} {cs : List Value} : TV w A t c → TM w A l cs → TM w A ((k, t) :: l) (.string ⟨k.toArray⟩ :: c.toList ++ cs)
end
theorem RowAt.nil (w : World) (A : Nat → Prop) (z : Nat) (a : Option Addr) (cap : Nat) (h : cap ≤ 9223372036854775807) : RowAt w A z (.slice a 0 cap) 0 [] :=
 ⟨by simp, a, cap, rfl, by omega, h, fun h => absurd h (by omega)⟩
theorem RowAt.keep {w w' : World} {A A' : Nat → Prop} {z n : Nat} {v : Value} {cs : List Value} (h : RowAt w A z v n cs) (hs : w.heap.size ≤ w'.heap.size) (hA : ∀ g, A g → g < w.heap.size → A' g ∧ w'.heap[g]? = w.heap[g]?) : RowAt w' A' z v n cs := by
 obtain ⟨h0, a, cap, rfl, h1, h2, h3⟩ := h; refine ⟨h0, a, cap, rfl, h1, h2, fun hn => ?_⟩; obtain ⟨g, o, rfl, hg, hlt, hc⟩ := h3 hn; obtain ⟨h4, h5⟩ := hA g hg hlt; refine ⟨g, o, rfl, h4, Nat.lt_of_lt_of_le hlt hs, fun i hi => ?_⟩; rw [World.cell?_of_block (w := w) (a := ⟨g, o + i, none⟩) h5]; exact hc i hi
mutual
theorem TV.keep {w w' : World} {A A' : Nat → Prop} (hs : w.heap.size ≤ w'.heap.size) (hA : ∀ g, A g → g < w.heap.size → A' g ∧ w'.heap[g]? = w.heap[g]?) {t : Tree} {c : Array Value} (h : TV w A t c) : TV w' A' t c := by
 cases h with
 | mk h1 h2 h3 h4 => exact .mk (TL.keep hs hA h1) (h2.keep hs hA) (TM.keep hs hA h3) (h4.keep hs hA)
theorem TL.keep {w w' : World} {A A' : Nat → Prop} (hs : w.heap.size ≤ w'.heap.size) (hA : ∀ g, A g → g < w.heap.size → A' g ∧ w'.heap[g]? = w.heap[g]?) {l : List Tree} {c : List Value} (h : TL w A l c) : TL w' A' l c := by
 cases h with
 | nil => exact .nil
 | cons h1 h2 => exact .cons (TV.keep hs hA h1) (TL.keep hs hA h2)
theorem TM.keep {w w' : World} {A A' : Nat → Prop} (hs : w.heap.size ≤ w'.heap.size) (hA : ∀ g, A g → g < w.heap.size → A' g ∧ w'.heap[g]? = w.heap[g]?) {l : List (List UInt8 × Tree)} {c : List Value} (h : TM w A l c) : TM w' A' l c := by
 cases h with
 | nil => exact .nil
 | cons h1 h2 => exact .cons (TV.keep hs hA h1) (TM.keep hs hA h2)
end
theorem TV.size {w : World} {A : Nat → Prop} {t : Tree} {c : Array Value} (h : TV w A t c) : c.size = 8 := by cases h; rfl
theorem TV.eight {w : World} {A : Nat → Prop} {t : Tree} {c : Array Value} (h : TV w A t c) : ∃ k b d s a1 n1 c1 a2 n2 c2, c = cellsV k b d s (.slice a1 n1 c1) (.slice a2 n2 c2) := by
 cases h with
 | mk h1 h2 h3 h4 =>
   obtain ⟨_, a1, c1, rfl, _⟩ := h2; obtain ⟨_, a2, c2, rfl, _⟩ := h4; exact ⟨_, _, _, _, _, _, _, _, _, _, rfl⟩
theorem TL.append {w : World} {A : Nat → Prop} {t : Tree} {c : Array Value} : ∀ {l : List Tree} {cs : List Value}, TL w A l cs → TV w A t c → TL w A (l ++ [t]) (cs ++ c.toList)
 | _, _, .nil, ht => by have := TL.cons ht (TL.nil (w := w) (A := A)); simpa using this
 | _, _, .cons h1 h2, ht => by have := TL.cons h1 (TL.append h2 ht); simpa using this
theorem TM.append {w : World} {A : Nat → Prop} {k : List UInt8} {t : Tree} {c : Array Value} : ∀ {l : List (List UInt8 × Tree)} {cs : List Value}, TM w A l cs → TV w A t c → TM w A (l ++ [(k, t)]) (cs ++ .string ⟨k.toArray⟩ :: c.toList)
 | _, _, .nil, ht => by have := TM.cons (k := k) ht (TM.nil (w := w) (A := A)); simpa using this
 | _, _, .cons (k := k') h1 h2, ht => by have := TM.cons (k := k') h1 (TM.append (k := k) h2 ht); simpa using this
theorem TL.length {w : World} {A : Nat → Prop} : ∀ {l : List Tree} {cs : List Value}, TL w A l cs → cs.length = l.length * 8
 | _, _, .nil => rfl
 | _, _, .cons h1 h2 => by have := TL.length h2; have := h1.size; simp; omega
theorem TM.length {w : World} {A : Nat → Prop} : ∀ {l : List (List UInt8 × Tree)} {cs : List Value}, TM w A l cs → cs.length = l.length * 9
 | _, _, .nil => rfl
 | _, _, .cons h1 h2 => by have := TM.length h2; have := h1.size; simp; omega
theorem TV.leaf (w : World) (A : Nat → Prop) (k : Int) (b : Bool) (d : Num) (s : List UInt8) : TV w A (.mk k b d s [] []) (cellsV k b d s noL noL) :=
 .mk .nil (RowAt.nil w A 8 none 0 (by omega)) .nil (RowAt.nil w A 9 none 0 (by omega))
theorem RowAt.own {w : World} {A : Nat → Prop} {base : Nat} {e : TypeId} {z : Nat} {v : Value} {n : Nat} {cs : List Value} (h : w.ownsRow base e z v n cs) (hz : 0 < z) (hA : ∀ g, v.ownBlock = some g → base ≤ g → g < w.heap.size → A g) : RowAt w A z v n cs := by
 obtain ⟨h1, h2⟩ := h; rcases h2 with ⟨rfl, rfl⟩ | ⟨g, cap, cur, rfl, hb, hg, hnc, hcm, hcs, ht⟩
 · exact ⟨h1, none, 0, rfl, by omega, by omega, fun h => absurd h (by omega)⟩
 · have hlt := (Array.getElem?_eq_some_iff.1 hg).1; refine ⟨h1, _, cap, rfl, hnc, by simpa [maxLen] using hcm, fun hn => ⟨g, 0, rfl, hA g rfl hb hlt, hlt, fun i hi => ?_⟩⟩; have hc : cs[i]? = some cs[i] := by simp [hi]
   conv at hc => lhs; rw [← ht]
   rw [List.getElem?_take] at hc; have hi2 : i < n * z := by omega
   simp only [hi2, if_true, Array.getElem?_toList] at hc; simp [World.cell?, hg, hc]
end Go.Proofs.YtjapbjmeoaagmaaGreatDoor
