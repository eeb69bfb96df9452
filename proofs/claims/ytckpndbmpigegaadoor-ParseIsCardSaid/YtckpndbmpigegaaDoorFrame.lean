/- What a row's argument of bytes says of the memory. -/
import Derived.Test.YtckpndbmpigegaaDoorMem
import Derived.ProofKit
set_option linter.unusedVariables false
set_option maxRecDepth 100000
namespace Go.Proofs.YtckpndbmpigegaaDoor
open Go.ChangeShapes Go.WideShapes Go.ChangeAt Go.RowKit Go.Mem

theorem bytes_of_trod {H : Type} {enc : TypeId × Value → H} {P : Program} {t e : TypeId} (ht : P.underlying t = some (.slice e)) (he : P.underlying e = some (.int .u8)) (hc : P.cellsOf e = 1) {W : World} {a0 : Option Addr} {len cap : Nat} {d0 : DataW H} {p : List MemPlace}
    (h0 : DataW.Trod enc P W 0 (fun _ => true) true t (.slice a0 len cap) d0 p) (hsz : ∀ elems spare, d0 = .slice elems spare → elems.length + spare.length ≤ 140737488355328) : ∃ xs : List UInt8, Bytes W (.slice a0 len cap) xs := by
  obtain ⟨fuel, hf⟩ := h0
  rcases open_ints ht he hc hf with ⟨hcs, hx⟩ | ⟨a, len', cap', zs, hcs, _, hl, hm, hz, hx, hcell, hwz⟩
  · simp [Value.cells] at hcs
    obtain ⟨rfl, rfl, rfl⟩ := hcs
    exact ⟨[], Bytes.nil _ _ _ (by omega)⟩
  · simp [Value.cells] at hcs
    obtain ⟨rfl, rfl, rfl⟩ := hcs
    simp only [if_true] at hz
    simp only [Prod.mk.injEq] at hx
    have hsz' := hsz _ _ hx.1
    simp only [lits, List.length_map, List.length_take, List.length_drop] at hsz'
    unfold maxLen at hm
    have hlen : ((zs.take len).map fun z => UInt8.ofNat z.toNat).length = len := by rw [List.length_map, List.length_take]; omega
    refine ⟨(zs.take len).map fun z => UInt8.ofNat z.toNat, some a, cap, by rw [hlen], by rw [hlen]; omega, by omega, by rw [hlen]; omega, ?_⟩
    intro hn
    simp only [List.length_map, List.length_take] at hn
    have h0 := hcell 0 (by omega)
    obtain ⟨b, o, s⟩ := a
    obtain rfl : s = none := by simpa [Addr.add] using World.cell?_spot h0
    refine ⟨b, o, rfl, ?_, fun i hi => ?_⟩
    · have := World.block_lt_of_cell? _ _ h0
      simpa [Addr.add] using this
    · simp only [List.length_map, List.length_take] at hi
      have h1 := hcell i (by omega)
      have hzi : zs.getD i 0 = zs[i]'(by omega) := by simp [List.getD, (by omega : i < zs.length)]
      rw [hzi] at h1
      have hw := hwz (zs[i]'(by omega)) (List.getElem_mem _)
      have h2 : (0 : Int) ≤ zs[i]'(by omega) ∧ zs[i]'(by omega) < 256 := by
        have e1 : IntKind.u8.min = 0 := rfl
        have e2 : IntKind.u8.max = 255 := rfl
        simp only [Lit.wf, Bool.and_eq_true, decide_eq_true_eq] at hw
        omega
      have h3 : ((((zs.take len).map fun z => UInt8.ofNat z.toNat)[i]'(by simp; omega)).toNat : Int) = zs[i]'(by omega) := by
        simp only [List.getElem_map, List.getElem_take, UInt8.toNat_ofNat']
        omega
      rw [h3, ← h1]
      congr 1
      by_cases hi0 : i = 0
      · subst hi0; simp [Addr.add]
      · simp [Addr.add, hi0]
end Go.Proofs.YtckpndbmpigegaaDoor
