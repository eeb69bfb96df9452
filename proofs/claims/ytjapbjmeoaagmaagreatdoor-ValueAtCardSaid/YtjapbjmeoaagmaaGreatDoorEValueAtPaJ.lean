/- A text of this proof. -/
import Derived.Test.YtjapbjmeoaagmaaGreatDoorEValueAtPaB
import Derived.Test.YtjapbjmeoaagmaaGreatDoorEValueAtPaS
set_option linter.unusedVariables false
set_option linter.unusedSimpArgs false
set_option maxRecDepth 100000
namespace Go.Proofs.YtjapbjmeoaagmaaGreatDoor
open Go.RowKit Go.Mem Orange
structure ObjAt (p base q qp qd qm bm deep : Nat) (vM : Value) (cs : List Value) (acc : List (List UInt8 × Tree)) (keys : List (List UInt8)) (w : World) : Prop where
 v : VAt w q (cellsV 5 false Num.zero [] noL vM)
 own : w.ownsRow base 43 9 vM acc.length cs
 tm : TM w (fun g => base ≤ g ∧ vM.ownBlock ≠ some g) acc cs
 bp : Box1 w qp 111 (.pointer (some ⟨p, 0, none⟩))
 bd : Box1 w qd 3 (.int .i64 deep)
 bx : Box1 w qm 126 (.map (some bm))
 set : SetAt w bm keys
structure ObjLay (p B base q qp qd qm bm : Nat) : Prop where
 pB : p < B
 l1 : B ≤ q ∧ q < base
 l2 : B ≤ qp ∧ qp < base
 l3 : B ≤ qd ∧ qd < base
 l4 : B ≤ qm ∧ qm < base
 l5 : B ≤ bm ∧ bm < base
 l6 : q ≠ qp ∧ q ≠ qd ∧ q ≠ qm ∧ q ≠ bm ∧ bm ≠ qp ∧ bm ≠ qd ∧ bm ≠ qm
theorem ObjAt.kept {p B base q qp qd qm bm deep : Nat} {vM : Value} {cs : List Value} {acc : List (List UInt8 × Tree)} {keys : List (List UInt8)} {w w' : World} (L : ObjLay p B base q qp qd qm bm) (h : ObjAt p base q qp qd qm bm deep vM cs acc keys w) (hk : KeptP p w w') : ObjAt p base q qp qd qm bm deep vM cs acc keys w' := by
 have l0 := L.pB; have l1 := L.l1; have l2 := L.l2; have l3 := L.l3; have l4 := L.l4; have l5 := L.l5; exact ⟨h.v.kept hk (by omega), ownsRow_kept h.own hk (by omega), h.tm.keep hk.size (fun g hg hlt => ⟨hg, hk.block g hlt (by omega)⟩), h.bp.kept hk (by omega), h.bd.kept hk (by omega), h.bx.kept hk (by omega), h.set.same (hk.block bm h.set.lt (by omega))⟩
theorem ObjAt.put {p B base q qp qd qm bm deep : Nat} {vM : Value} {cs : List Value} {acc : List (List UInt8 × Tree)} {keys keys' : List (List UInt8)} {w w' : World} (L : ObjLay p B base q qp qd qm bm) (h : ObjAt p base q qp qd qm bm deep vM cs acc keys w) (hg : w.grownBy w' (some bm)) (hs : SetAt w' bm keys') : ObjAt p base q qp qd qm bm deep vM cs acc keys' w' := by
 have l1 := L.l1; have l2 := L.l2; have l3 := L.l3; have l4 := L.l4; have l5 := L.l5; have l6 := L.l6; have same : ∀ k, k < w.heap.size → k ≠ bm → w'.heap[k]? = w.heap[k]? := fun k hk hne => hg.block k hk (fun e => hne (by simpa using e)); refine ⟨?_, ?_, h.tm.keep hg.size (fun g hg hlt => ⟨hg, same g hlt (by omega)⟩), ?_, ?_, ?_, hs⟩
 · unfold VAt; rw [same q h.v.lt (by omega)]; exact h.v
 · obtain ⟨h1, h2⟩ := h.own; refine ⟨h1, ?_⟩; rcases h2 with h2 | ⟨g, cap, cur, rfl, hbg, hgg, r⟩
   · exact .inl h2
   · exact .inr ⟨g, cap, cur, rfl, hbg, by rw [same g (Array.getElem?_eq_some_iff.1 hgg).1 (by omega)]; exact hgg, r⟩
 · unfold Box1; rw [same qp h.bp.lt (by omega)]; exact h.bp
 · unfold Box1; rw [same qd h.bd.lt (by omega)]; exact h.bd
 · unfold Box1; rw [same qm h.bx.lt (by omega)]; exact h.bx
theorem PS.put {p bm n a : Nat} {v : Value} {xs : List UInt8} {w0 w w' : World} (h : PS w p v xs a n) (hg : w.grownBy w' (some bm)) (hp : p ≠ bm) (hb : BytesN p w0 v xs) (hk : Kept w0.heap.size p w0 w') : PS w' p v xs a n := by
 refine ⟨?_, hb.kept hk, h.2.2⟩; unfold PAt; rw [hg.block p h.1.cells.2.2.2.2.2.2 (fun e => hp (by simpa using e))]; exact h.1
def StO (p base q qp qd qm bm deep : Nat) (acc : List (List UInt8 × Tree)) (w : World) : Prop :=
 ∃ vM cs keys, ObjAt p base q qp qd qm bm deep vM cs acc keys w ∧ keys.length ≤ acc.length ∧ ∀ k, keys.contains k = acc.any (fun x => x.1 == k)
structure KeptR (base p q m : Nat) (w w' : World) : Prop where
 os : w'.os = w.os
 tape : w'.tape = w.tape
 output : w'.output = w.output
 size : w.heap.size ≤ w'.heap.size
 block : ∀ k, k < base → k ≠ p → k ≠ q → k ≠ m → w'.heap[k]? = w.heap[k]?
theorem KeptR.kept {base p q m B : Nat} {w w' : World} (h : KeptR base p q m w w') (hb : B ≤ base) (hq : B ≤ q) (hm : B ≤ m) : Kept B p w w' :=
 ⟨h.os, h.tape, h.output, h.size, fun k hk hp => h.block k (by omega) hp (by omega) (by omega)⟩
theorem KeptR.trans {base p q m : Nat} {a b c : World} (h : KeptR base p q m a b) (k : KeptR base p q m b c) : KeptR base p q m a c :=
 ⟨k.os.trans h.os, k.tape.trans h.tape, k.output.trans h.output, Nat.le_trans h.size k.size, fun i h1 h2 h3 h4 => (k.block i h1 h2 h3 h4).trans (h.block i h1 h2 h3 h4)⟩
theorem StO.push {p B base q qp qd qm bm deep g cap : Nat} {w w3 w4 W : World} {vM : Value} {cs : List Value} {acc : List (List UInt8 × Tree)} {keys : List (List UInt8)} {key : List UInt8} {t : Tree} {c : Array Value} {zs : List Value} {cur : Array Value} (L : ObjLay p B base q qp qd qm bm) (hob : ObjAt p base q qp qd qm bm deep vM cs acc (key :: keys) w) (hkl : keys.length ≤ acc.length) (hkeys : ∀ k, keys.contains k = acc.any (fun x => x.1 == k)) (hbs : base ≤ w.heap.size) (hk3 : KeptP p w w3)
 (htv : TV w3 (fun g => w.heap.size ≤ g) t c) (hgr : w3.grownBy w4 vM.ownBlock)
 (hown : w4.ownsRow base 43 9 (.slice (some ⟨g, 0, none⟩) (acc.length + 1) cap) (acc.length + 1) (cs ++ zs)) (hg : w4.heap[g]? = some (.cells cur 43 (0, 0))) (hbg : base ≤ g)
 (hor : some g = vM.ownBlock ∨ g = w3.heap.size) (h2 : Two w4 W g q (.cells (putL cur (acc.length * 9) (.string ⟨key.toArray⟩ :: c.toList)) 43 (0, 0)) (.cells (cellsV 5 false Num.zero [] noL (.slice (some ⟨g, 0, none⟩) (acc.length + 1) cap)) 27 (0, 0))) : StO p base q qp qd qm bm deep (acc ++ [(key, t)]) W := by
 have hs := hk3.size; have l0 := L.pB; have l1 := L.l1; have l2 := L.l2; have l3 := L.l3; have l4 := L.l4; have l5 := L.l5; have l6 := L.l6; have hlt : ∀ k, vM.ownBlock = some k → base ≤ k ∧ k < w.heap.size := fun k hk => hob.own.lt k hk; have hsz : w3.heap.size ≤ W.heap.size := by rw [h2.size]; exact hgr.size
 have ob3 := hob.kept L hk3; have same : ∀ k, base ≤ k → vM.ownBlock ≠ some k → k < w3.heap.size → W.heap[k]? = w3.heap[k]? := fun k hk hne hkl => by
  rw [h2.block k (by rintro rfl; rcases hor with h | h; exact hne h.symm; omega) (by omega)]; exact hgr.block k hkl (Ne.symm hne)
 have low : ∀ k, k < base → k ≠ q → W.heap[k]? = w3.heap[k]? := fun k hk hq => by
  rw [h2.block k (by omega) hq]; exact hgr.block k (by omega) (fun e => by have := hlt k e.symm; omega)
 refine ⟨_, cs ++ (.string ⟨key.toArray⟩ :: c.toList), key :: keys, ⟨h2.atQ, ?_, ?_, ?_, ?_, ?_, ob3.set.same (low bm (by omega) (by omega))⟩, by simp; omega, fun k => ?_⟩
 · rw [List.length_append]; exact ownsRow_put hown hg (by have := hob.tm.length; omega) (by simp [htv.size]) h2
 · refine TM.append (ob3.tm.keep hsz (fun k hk hkl => ⟨⟨hk.1, ?_⟩, same k hk.1 hk.2 hkl⟩)) (htv.keep hsz (fun k hk hkl => ⟨⟨by omega, ?_⟩, same k (by omega) (fun e => by have := hlt k e; omega) hkl⟩))
   · simp only [Value.ownBlock, ne_eq, Option.some.injEq]; rintro rfl; rcases hor with h | h
     · exact hk.2 h.symm
     · omega
   · simp only [Value.ownBlock, ne_eq, Option.some.injEq]; rintro rfl; rcases hor with h | h
     · have := hlt g h.symm; omega
     · omega
 · unfold Box1; rw [low qp (by omega) (by omega)]; exact ob3.bp
 · unfold Box1; rw [low qd (by omega) (by omega)]; exact ob3.bd
 · unfold Box1; rw [low qm (by omega) (by omega)]; exact ob3.bx
 · rw [List.any_append, ← hkeys k, List.contains_cons]; simp only [List.any_cons, List.any_nil, Bool.or_false]; rw [Bool.or_comm]; congr 1
   by_cases e : k = key
   · subst e; simp
   · have : (key == k) = false := by simpa using fun h => e h.symm
     simp [e, this]
end Go.Proofs.YtjapbjmeoaagmaaGreatDoor
