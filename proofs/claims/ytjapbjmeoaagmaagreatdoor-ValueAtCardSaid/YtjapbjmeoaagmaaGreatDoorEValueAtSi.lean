/- Short words: the eight cells of a value. -/
import Derived.Test.YtjapbjmeoaagmaaGreatDoorEValueAtPaN
namespace Go.Proofs.YtjapbjmeoaagmaaGreatDoor
open Go.RowKit Go.Mem Orange
theorem VAt.c8 {w : World} {q : Nat} {a b c d e f g i : Value} (h : VAt w q #[a, b, c, d, e, f, g, i]) : w.cell? ⟨q, 0, none⟩ = some a ∧ w.cell? ⟨q, 1, none⟩ = some b ∧ w.cell? ⟨q, 2, none⟩ = some c ∧ w.cell? ⟨q, 3, none⟩ = some d ∧ w.cell? ⟨q, 4, none⟩ = some e ∧ w.cell? ⟨q, 5, none⟩ = some f ∧ w.cell? ⟨q, 6, none⟩ = some g ∧ w.cell? ⟨q, 7, none⟩ = some i :=
 ⟨h.cell 0, h.cell 1, h.cell 2, h.cell 3, h.cell 4, h.cell 5, h.cell 6, h.cell 7⟩
theorem VAt.f8 {w : World} {q : Nat} {c : Array Value} (h : VAt w q c) : w.frozen? ⟨q, 0, none⟩ = false ∧ w.frozen? ⟨q, 1, none⟩ = false ∧ w.frozen? ⟨q, 2, none⟩ = false ∧ w.frozen? ⟨q, 3, none⟩ = false ∧ w.frozen? ⟨q, 4, none⟩ = false ∧ w.frozen? ⟨q, 5, none⟩ = false ∧ w.frozen? ⟨q, 6, none⟩ = false ∧ w.frozen? ⟨q, 7, none⟩ = false :=
 ⟨h.free 0, h.free 1, h.free 2, h.free 3, h.free 4, h.free 5, h.free 6, h.free 7⟩
end Go.Proofs.YtjapbjmeoaagmaaGreatDoor
