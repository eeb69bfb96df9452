/- token: what sign does. -/
import Derived.Test.YtglcpfnfldaimaaDoorTokC
set_option linter.unusedVariables false
set_option linter.unusedSimpArgs false
set_option maxRecDepth 100000
namespace Orange
open Go
def twosL : List (List UInt8) := [[46, 46], [61, 61], [33, 61], [60, 61], [62, 61], [38, 38], [124, 124], [58, 61]]
def onesL : List UInt8 := [36, 64, 46, 44, 58, 59, 63, 42, 91, 93, 40, 41, 123, 125, 60, 62, 33, 61, 43, 45]
def isTwo (l : List UInt8) : Bool := twosL.any fun p => p.isPrefixOf l
/-- how long the sign is that a text begins with; 0: there is none -/
def signP (l : List UInt8) : Nat := if isTwo l then 2 else if 0 ≤ Lib.indexByte onesL (l.headD 0) then 1 else 0
end Orange
namespace Go.Proofs.YtglcpfnfldaimaaDoor
open Go.RowKit Go.Mem Orange

theorem hasPrefix_l (l p : List UInt8) (w : World) :
    Calls Tryd.prog 61 #[.string ⟨l.toArray⟩, .string ⟨p.toArray⟩] w fun e w' => e = .returned (.bool (p.isPrefixOf l)) ∧ w = w' := by
  refine (Tryd.strings_HasPrefix ⟨l.toArray⟩ ⟨p.toArray⟩ w).mono ?_
  rintro e w' ⟨rfl, rfl⟩
  exact ⟨rfl, rfl⟩
theorem signFn (b : Nat) (l p : List UInt8) (w : World) (h : w.cell? ⟨b, 0, none⟩ = some (.string ⟨l.toArray⟩)) :
    Calls Tryd.prog 70 #[.string ⟨p.toArray⟩, .pointer (some ⟨b, 0, none⟩)] w fun e w' => e = .returned (.bool (p.isPrefixOf l)) ∧ w = w' := by
  go_enter Tryd.func70, Tryd.ntmps70
  go_wp2_with fail
  refine (hasPrefix_l l p _).mono ?_
  rintro e w1 ⟨rfl, rfl⟩
  go_wp2_with fail
  go_ret
  exact ⟨rfl, rfl⟩

set_option maxHeartbeats 800000 in
theorem indexFunc_any (g b : Nat) (l : List UInt8) (w : World) (hb : w.cell? ⟨b, 0, none⟩ = some (.string ⟨l.toArray⟩)) (hg : ∀ i, (h : i < twosL.length) → w.cell? ⟨g, i, none⟩ = some (.string ⟨twosL[i].toArray⟩)) :
    Calls Tryd.prog 86 #[.slice (some ⟨g, 0, none⟩) 8 8, .func (.func 70) #[] #[.pointer (some ⟨b, 0, none⟩)]] w fun e w' => (∃ n : Int, e = .returned (.int .i64 n) ∧ decide (0 ≤ n) = isTwo l) ∧ w = w' := by
  have HG := Lib.hid hg
  clear hg
  go_enter Tryd.func86, Tryd.ntmps86
  go_wp2_with fail
  go_loop [8] (fun kv => ∃ k : Nat, k ≤ 8 ∧ kv = .int .i64 k ∧ isTwo l = (twosL.drop k).any fun p => p.isPrefixOf l) (fun kv => 8 - (intOf kv).toNat)
  case atStart => exact ⟨0, by omega, rfl, rfl⟩
  case round =>
    obtain ⟨k, hk, rfl, hr⟩ := hrel
    have HR := Lib.hid hr
    clear hr
    by_cases hlt : k < 8
    · have hck := HG.out k hlt
      have hdk : twosL.drop k = twosL[k]'hlt :: twosL.drop (k + 1) := List.drop_eq_getElem_cons hlt
      generalize twosL[k]'hlt = p at *
      have HDK := Lib.hid hdk
      clear hdk
      go_wp2_with fail
      refine (signFn b l p _ hb).mono ?_
      rintro e w1 ⟨rfl, rfl⟩
      cases hp : p.isPrefixOf l with
      | true =>
        have hfin : Hid (isTwo l = true) := Lib.hid (by rw [HR.out, HDK.out, List.any_cons, hp]; rfl)
        go_wp2_with fail
        go_ret
        exact ⟨⟨k, rfl, by rw [hfin.out]; simp⟩, rfl⟩
      | false =>
        have hst : Hid (isTwo l = (twosL.drop (k + 1)).any fun p => p.isPrefixOf l) := Lib.hid (by rw [HR.out, HDK.out, List.any_cons, hp]; rfl)
        go_wp2_with fail
        go_round
        case rel => exact ⟨k + 1, by omega, by go_num, hst.out⟩
        case measure => simp [intOf]; omega
    · obtain rfl : k = 8 := by omega
      have hfin : Hid (isTwo l = false) := Lib.hid (by rw [HR.out]; rfl)
      go_wp2_with fail
      go_ret
      exact ⟨⟨-1, rfl, by rw [hfin.out]; rfl⟩, rfl⟩

set_option maxHeartbeats 800000 in
theorem containsFunc_any (g b : Nat) (l : List UInt8) (w : World) (hb : w.cell? ⟨b, 0, none⟩ = some (.string ⟨l.toArray⟩)) (hg : ∀ i, (h : i < twosL.length) → w.cell? ⟨g, i, none⟩ = some (.string ⟨twosL[i].toArray⟩)) :
    Calls Tryd.prog 68 #[.slice (some ⟨g, 0, none⟩) 8 8, .func (.func 70) #[] #[.pointer (some ⟨b, 0, none⟩)]] w fun e w' => e = .returned (.bool (isTwo l)) ∧ w = w' := by
  have HG := Lib.hid hg
  clear hg
  go_enter Tryd.func68, Tryd.ntmps68
  go_wp2_with fail
  refine (indexFunc_any g b l _ hb HG.out).mono ?_
  rintro e w1 ⟨⟨n, rfl, hn⟩, rfl⟩
  have HN := Lib.hid hn
  clear hn
  go_wp2_with fail
  go_ret
  exact ⟨ret_bool (by rw [← HN.out]), rfl⟩

theorem twos_any (w : World) :
    Calls Tryd.prog 69 #[] w fun e w' => e = .returned (.slice (some ⟨w.heap.size, 0, none⟩) 8 8) ∧ Ext w w' ∧ ∀ i, (h : i < twosL.length) → w'.cell? ⟨w.heap.size, i, none⟩ = some (.string ⟨twosL[i].toArray⟩) := by
  go_enter Tryd.func69, Tryd.ntmps69
  go_wp2_with fail
  go_ret
  refine ⟨rfl, (ext_refl w).alloc (Nat.le_refl _) _, fun i hi => ?_⟩
  have hi8 : i < 8 := hi
  rw [cell_of_cells (heap_alloc_new _ _)]
  rcases (by omega : i = 0 ∨ i = 1 ∨ i = 2 ∨ i = 3 ∨ i = 4 ∨ i = 5 ∨ i = 6 ∨ i = 7) with rfl | rfl | rfl | rfl | rfl | rfl | rfl | rfl <;> rfl

set_option maxHeartbeats 1600000 in
theorem sign_any (l : List UInt8) (w : World) (h0 : 0 < l.length) (hl : l.length ≤ 1000000000) :
    Calls Tryd.prog 46 #[.string ⟨l.toArray⟩] w fun e w' => e = .returned (.int .i64 (signP l)) ∧ Ext w w' := by
  obtain ⟨c, t, rfl⟩ : ∃ c t, l = c :: t := by cases l with | nil => simp at h0 | cons c t => exact ⟨c, t, rfl⟩
  have hS : signP (c :: t) = if isTwo (c :: t) then 2 else if 0 ≤ Lib.indexByte onesL c then 1 else 0 := rfl
  have HS := Lib.hid hS
  have h0g := get0 c t
  clear hS
  go_enter Tryd.func46, Tryd.ntmps46
  go_wp2_with fail
  have hw0 : Ext w (w.alloc (.cells #[.string ⟨(c :: t).toArray⟩] 9)) := (ext_refl w).alloc (Nat.le_refl _) _
  have hb0 : (w.alloc (.cells #[.string ⟨(c :: t).toArray⟩] 9)).heap[w.heap.size]? = some (.cells #[.string ⟨(c :: t).toArray⟩] 9 (0, 0)) := heap_alloc_new _ _
  generalize w.alloc (.cells #[.string ⟨(c :: t).toArray⟩] 9) = w0 at *
  have hlt := (Array.getElem?_eq_some_iff.1 hb0).1
  refine (twos_any _).mono ?_
  rintro e w1 ⟨rfl, hw1, hg⟩
  have hb1 : w1.cell? ⟨w.heap.size, 0, none⟩ = some (.string ⟨(c :: t).toArray⟩) := by rw [hw1.cell (p := ⟨w.heap.size, 0, none⟩) hlt, cell_of_cells hb0]; rfl
  have HG := Lib.hid hg
  clear hg hb0
  go_wp2_with fail
  refine (containsFunc_any w0.heap.size w.heap.size (c :: t) _ hb1 HG.out).mono ?_
  rintro e w2 ⟨rfl, rfl⟩
  have hE := ext_trans hw0 hw1
  cases h2 : isTwo (c :: t) with
  | true =>
    have hS : Hid (signP (c :: t) = 2) := Lib.hid (by rw [HS.out, if_pos h2])
    go_wp2_with fail
    go_ret
    exact ⟨ret_int (by rw [hS.out]; rfl), hE⟩
  | false =>
    have hS : Hid (signP (c :: t) = if 0 ≤ Lib.indexByte onesL c then 1 else 0) := Lib.hid (by rw [HS.out, if_neg (by rw [h2]; decide)])
    go_wp2_with fail
    refine (idx_eq _ c _ _ rfl).mono ?_
    rintro e w3 ⟨rfl, rfl⟩
    have e : (ByteArray.mk #[36, 64, 46, 44, 58, 59, 63, 42, 91, 93, 40, 41, 123, 125, 60, 62, 33, 61, 43, 45]).data.toList = onesL := rfl
    rw [e]
    clear e
    by_cases hi : 0 ≤ Lib.indexByte onesL c
    · have hS2 : Hid (signP (c :: t) = 1) := Lib.hid (by rw [hS.out, if_pos hi])
      go_wp2_with fail
      go_ret
      exact ⟨ret_int (by rw [hS2.out]; rfl), hE⟩
    · have hS2 : Hid (signP (c :: t) = 0) := Lib.hid (by rw [hS.out, if_neg hi])
      go_wp2_with fail
      go_ret
      exact ⟨ret_int (by rw [hS2.out]; rfl), hE⟩
end Go.Proofs.YtglcpfnfldaimaaDoor
