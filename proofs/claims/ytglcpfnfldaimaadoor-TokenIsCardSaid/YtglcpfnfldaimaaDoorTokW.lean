/- the laws' own head: awake. -/
import Derived.Test.YtglcpfnfldaimaaDoorTokH
set_option linter.unusedVariables false
set_option linter.unusedSimpArgs false
set_option maxRecDepth 100000
namespace Go.Proofs.YtglcpfnfldaimaaDoor
open Go.RowKit Go.Mem Orange

/-- the cells of a token in a slice of tokens -/
theorem Toks.at' {w : World} {a : Option Addr} {n c : Nat} {ts : List Tok} (h : Toks w (.slice a n c) ts) (hn : 0 < ts.length) : ∃ g, a = some ⟨g, 0, none⟩ ∧ g < w.heap.size ∧ ∀ i, (hi : i < ts.length) →
    w.cell? ⟨g, i * 7, none⟩ = some (.int .i64 ts[i].kind) ∧ w.cell? ⟨g, i * 7 + 1, none⟩ = some (.string ⟨ts[i].s.toArray⟩) ∧ w.cell? ⟨g, i * 7 + 2, none⟩ = some (.bool ts[i].n.neg) ∧ w.cell? ⟨g, i * 7 + 3, none⟩ = some (.string ⟨ts[i].n.digits.toArray⟩) ∧
    w.cell? ⟨g, i * 7 + 4, none⟩ = some (.int .i64 ts[i].n.exp) ∧ w.cell? ⟨g, i * 7 + 5, none⟩ = some (.int .i64 ts[i].fr) ∧ w.cell? ⟨g, i * 7 + 6, none⟩ = some (.int .i64 ts[i].upto) := by
  obtain ⟨a', cap, e, h1, h2, h3⟩ := h
  simp only [Value.slice.injEq] at e
  obtain ⟨rfl, _, _⟩ := e
  obtain ⟨g, rfl, hlt, hc⟩ := h3 hn
  refine ⟨g, rfl, hlt, fun i hi => ⟨?_, ?_, ?_, ?_, ?_, ?_, ?_⟩⟩
  · have := hc i 0 hi (by omega); simpa [tokCells] using this
  · have := hc i 1 hi (by omega); simpa [tokCells] using this
  · have := hc i 2 hi (by omega); simpa [tokCells] using this
  · have := hc i 3 hi (by omega); simpa [tokCells] using this
  · have := hc i 4 hi (by omega); simpa [tokCells] using this
  · have := hc i 5 hi (by omega); simpa [tokCells] using this
  · have := hc i 6 hi (by omega); simpa [tokCells] using this
theorem Toks.shape {w : World} {v : Value} {ts : List Tok} (h : Toks w v ts) : ∃ a c, v = .slice a ts.length c ∧ ts.length ≤ c := by
  obtain ⟨a, c, e, h1, _⟩ := h; exact ⟨a, c, e, h1⟩

def awakeL : List UInt8 := [36, 46, 46, 97, 91, 63, 64, 46, 120, 60, 61, 45, 49, 46, 53, 93]
theorem awake_all : (allP awakeL).2 = 0 ∧ (allP awakeL).1.length = 11 ∧ ((allP awakeL).1[1]?).map (·.s) = some [46, 46] ∧ ((allP awakeL).1[9]?).map (·.n) = some ⟨true, [49, 53], -1⟩ := by decide +kernel
theorem awake_quote : tquote [97, 39] = [39, 97, 92, 39, 39] := by decide +kernel

set_option maxHeartbeats 3200000 in
theorem tawake (w : World) : Calls Tryd.prog 9 #[] w fun e w' => e = .returned (.bool true) ∧ Ext w w' := by
  obtain ⟨h0, h11, h1, h9⟩ := awake_all
  go_enter Tryd.func9, Tryd.ntmps9
  go_wp2_with fail
  refine (all_any awakeL _ (by decide)).mono ?_
  rintro e w1 ⟨⟨v, rfl, ht⟩, hw1⟩
  rw [h0]
  generalize (allP awakeL).1 = ts at *
  obtain ⟨a, c, rfl, hcap⟩ := ht.shape
  obtain ⟨g, rfl, hg, hc⟩ := ht.at' (by omega)
  have s1 := (hc 1 (by omega)).2.1
  have n2 := (hc 9 (by omega)).2.2.1
  have n3 := (hc 9 (by omega)).2.2.2.1
  have n4 := (hc 9 (by omega)).2.2.2.2.1
  have e1 : ts[1].s = [46, 46] := by
    rw [List.getElem?_eq_getElem (by omega)] at h1; simpa using h1
  have e9 : ts[9].n = ⟨true, [49, 53], -1⟩ := by
    rw [List.getElem?_eq_getElem (by omega)] at h9; simpa using h9
  rw [e1] at s1
  rw [e9] at n2 n3 n4
  have s1 : w1.cell? ⟨g, 8, none⟩ = some (.string ⟨#[46, 46]⟩) := s1
  have n2 : w1.cell? ⟨g, 65, none⟩ = some (.bool true) := n2
  have n3 : w1.cell? ⟨g, 66, none⟩ = some (.string ⟨#[49, 53]⟩) := n3
  have n4 : w1.cell? ⟨g, 67, none⟩ = some (.int .i64 (-1)) := n4
  rw [h11] at hcap ⊢
  clear h1 h9 e1 e9 hc ht h11 h0
  go_wp2_with fail
  refine (tquote_any [97, 39] _ (by decide)).mono ?_
  rintro e w2 ⟨rfl, hw2⟩
  rw [awake_quote]
  go_wp2_with fail
  go_ret
  exact ⟨rfl, ext_trans hw1 hw2⟩
end Go.Proofs.YtglcpfnfldaimaaDoor
