/- A text of this proof. -/
import Derived.WalkKit
import Derived.WalkSpells
import Derived.WalkLawsBesides
import Derived.BigQuiet
import Derived.Deep.QuietTactic
import Derived.Lib.Hide
set_option linter.unusedVariables false
set_option linter.unusedSimpArgs false
set_option maxRecDepth 100000
namespace Go.Mem
open Go.RowKit
abbrev Ext (w w' : World) : Prop := Below w.heap.size w w'
theorem ext_refl (w : World) : Ext w w := Below.refl _ _
theorem ext_trans {a b c : World} (h : Ext a b) (k : Ext b c) : Ext a c := h.trans (k.mono h.size)
def BytesAt (w : World) (a : Option Addr) (xs : List UInt8) : Prop :=
 0 < xs.length → ∃ b o, a = some ⟨b, o, none⟩ ∧ b < w.heap.size ∧ ∀ i, (h : i < xs.length) → w.cell? ⟨b, o + i, none⟩ = some (.int .u8 xs[i].toNat)
theorem BytesAt.nil (w : World) (a : Option Addr) : BytesAt w a [] := fun h => absurd h (by simp)
theorem BytesAt.below {w w' : World} {a : Option Addr} {xs : List UInt8} (h : BytesAt w a xs) {B : Nat} (hb : Below B w w') (hB : ∀ x, a = some x → x.block < B) : BytesAt w' a xs := by
 intro hn; obtain ⟨b, o, rfl, hlt, hc⟩ := h hn; refine ⟨b, o, rfl, Nat.lt_of_lt_of_le hlt hb.size, fun i hi => ?_⟩; have hbB : b < B := hB _ rfl; rw [hb.cell (p := ⟨b, o + i, none⟩) hbB]; exact hc i hi
theorem BytesAt.ext {w w' : World} {a : Option Addr} {xs : List UInt8} (h : BytesAt w a xs) (hb : Ext w w') : BytesAt w' a xs := by
 intro hn; obtain ⟨b, o, rfl, hlt, hc⟩ := h hn; refine ⟨b, o, rfl, Nat.lt_of_lt_of_le hlt hb.size, fun i hi => ?_⟩; rw [hb.cell (p := ⟨b, o + i, none⟩) hlt]; exact hc i hi
theorem BytesAt.drop {w : World} {b o : Nat} {xs : List UInt8} (h : BytesAt w (some ⟨b, o, none⟩) xs) (k : Nat) : BytesAt w (some ⟨b, o + k, none⟩) (xs.drop k) := by
 intro hn; have hk : k < xs.length := by simp at hn; omega
 obtain ⟨b', o', e, hlt, hc⟩ := h (by omega); simp only [Option.some.injEq, Addr.mk.injEq, and_true] at e; obtain ⟨rfl, rfl⟩ := e; refine ⟨b, o + k, rfl, hlt, fun i hi => ?_⟩; have hi' : k + i < xs.length := by simp at hi; omega
 rw [show o + k + i = o + (k + i) by omega, hc (k + i) hi']; simp
theorem BytesAt.take {w : World} {a : Option Addr} {xs : List UInt8} (h : BytesAt w a xs) (k : Nat) : BytesAt w a (xs.take k) := by
 intro hn; obtain ⟨b, o, rfl, hlt, hc⟩ := h (by simp at hn; omega); refine ⟨b, o, rfl, hlt, fun i hi => ?_⟩; have hi' : i < xs.length := by simp at hi; omega
 rw [hc i hi']; simp
def Bytes (w : World) (v : Value) (xs : List UInt8) : Prop :=
 ∃ a cap, v = .slice a xs.length cap ∧ xs.length ≤ cap ∧ cap ≤ 9223372036854775807 ∧ xs.length ≤ 140737488355328 ∧ BytesAt w a xs
theorem Bytes.ext {w w' : World} {v : Value} {xs : List UInt8} (h : Bytes w v xs) (hb : Ext w w') : Bytes w' v xs := by
 obtain ⟨a, cap, e, h1, h2, h3, h4⟩ := h; exact ⟨a, cap, e, h1, h2, h3, h4.ext hb⟩
theorem Bytes.cases {w : World} {v : Value} {xs : List UInt8} (h : Bytes w v xs) :
 (xs = [] ∧ ∃ a cap, v = .slice a 0 cap ∧ cap ≤ 9223372036854775807) ∨
 (∃ x t b o cap, xs = x :: t ∧ v = .slice (some ⟨b, o, none⟩) (t.length + 1) cap ∧ t.length + 1 ≤ cap ∧ cap ≤ 9223372036854775807 ∧ t.length + 1 ≤ 140737488355328 ∧ b < w.heap.size ∧
   w.cell? ⟨b, o, none⟩ = some (.int .u8 x.toNat) ∧ (∀ i, (h : i < t.length) → w.cell? ⟨b, o + 1 + i, none⟩ = some (.int .u8 t[i].toNat)) ∧ BytesAt w (some ⟨b, o, none⟩) (x :: t)) := by
 obtain ⟨a, cap, e, h1, h2, h3, h4⟩ := h; match xs with
 | [] => exact .inl ⟨rfl, a, cap, e, h2⟩
 | x :: t =>
   obtain ⟨b, o, rfl, hlt, hc⟩ := h4 (by simp); refine .inr ⟨x, t, b, o, cap, rfl, e, by simpa using h1, h2, by simpa using h3, hlt, ?_, fun i hi => ?_, h4⟩
   · have := hc 0 (by simp); simpa using this
   · have := hc (i + 1) (by simpa using hi); rw [show o + 1 + i = o + (i + 1) by omega, this]; simp
theorem Bytes.mk {w : World} {b o n cap : Nat} {xs : List UInt8} (h : BytesAt w (some ⟨b, o, none⟩) xs) (hn : n = xs.length) (h1 : n ≤ cap) (h2 : cap ≤ 9223372036854775807) (h3 : n ≤ 140737488355328) : Bytes w (.slice (some ⟨b, o, none⟩) n cap) xs := by
 subst hn; exact ⟨_, _, rfl, h1, h2, h3, h⟩
theorem Bytes.nil (w : World) (a : Option Addr) (cap : Nat) (h : cap ≤ 9223372036854775807) : Bytes w (.slice a 0 cap) [] := ⟨a, cap, rfl, by simp, h, by simp, .nil _ _⟩
theorem cell_of_cells {w : World} {b i : Nat} {c : Array Value} {t : TypeId} {fr : Nat × Nat} (h : w.heap[b]? = some (.cells c t fr)) : w.cell? ⟨b, i, none⟩ = c[i]? := by simp [World.cell?, h]
theorem free_of_cells {w : World} {b i : Nat} {c : Array Value} {t : TypeId} (h : w.heap[b]? = some (.cells c t (0, 0))) : w.frozen? ⟨b, i, none⟩ = false := by simp [World.frozen?, h]
theorem ret_eq {v u : Value} (h : v = u) : Ending.returned v = Ending.returned u := by rw [h]
theorem ret_int {k : IntKind} {a b : Int} (h : a = b) : Ending.returned (.int k a) = .returned (.int k b) := by rw [h]
theorem ret_bool {a b : Bool} (h : a = b) : Ending.returned (.bool a) = .returned (.bool b) := by rw [h]
end Go.Mem
