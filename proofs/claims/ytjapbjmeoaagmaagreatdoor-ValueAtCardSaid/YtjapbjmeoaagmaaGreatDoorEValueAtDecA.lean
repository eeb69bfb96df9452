/- A text of this proof. -/
import Derived.Test.YtjapbjmeoaagmaaGreatDoorEValueAtDec
import Derived.Test.YtjapbjmeoaagmaaGreatDoorEValueAtShelf
import Derived.Test.YtjapbjmeoaagmaaGreatDoorEValueAtConv
import Derived.Test.YtjapbjmeoaagmaaGreatDoorEValueAtEsc
import Derived.Shelf.Strings.SlTrimAscii
import Derived.IntWalk
set_option linter.unusedVariables false
set_option linter.unusedSimpArgs false
set_option maxRecDepth 100000
namespace Go.Proofs.YtjapbjmeoaagmaaGreatDoor
open Go.RowKit Go.Mem Orange
abbrev str (l : List UInt8) : Value := .string ⟨l.toArray⟩
abbrev Num.val (d : Num) : Value := .agg #[.bool d.neg, .string ⟨d.digits.toArray⟩, .int .i64 d.exp]
def figs : List UInt8 := [48, 49, 50, 51, 52, 53, 54, 55, 56, 57]
theorem figs_dig : (fun b => figs.contains b) = isDig := by
 funext b
 have h := u8f (p := fun n => figs.contains (UInt8.ofNat n) == isDig (UInt8.ofNat n)) (by decide +kernel) b; rw [UInt8.ofNat_toNat, beq_iff_eq] at h; exact h
theorem info116c : (Tryz.prog.info? (Tryz.lays160_ren.t 116)).map (fun i => (i.zero, i.size)) = some (some (.agg (Array.replicate 256 (.bool false))), 256) := by kernel_rfl
theorem dropWhile_nil {p : UInt8 → Bool} : ∀ {l : List UInt8}, l.dropWhile p = [] ↔ ∀ x ∈ l, p x = true
 | [] => by simp
 | x :: t => by
   rw [List.dropWhile_cons]; cases h : p x
   · simp [h]
   · simp [h, dropWhile_nil]
theorem trim_empty (l : List UInt8) : (Lib.trimS l figs).isEmpty = l.all isDig := by
 have hf : (fun b => figs.contains b) = isDig := figs_dig; have h1 : Lib.trimRightS l figs = (l.reverse.dropWhile isDig).reverse := by rw [← hf]; rfl
 have h2 : Lib.trimS l figs = ((l.reverse.dropWhile isDig).reverse).dropWhile isDig := by rw [← h1, ← hf]; rfl
 rw [h2, Bool.eq_iff_iff]; simp only [List.isEmpty_iff, List.all_eq_true, dropWhile_nil, List.mem_reverse]; constructor
 · intro h; cases hd : l.reverse.dropWhile isDig with
   | nil =>
     intro x hx; exact dropWhile_nil.1 hd x (List.mem_reverse.2 hx)
   | cons y t =>
     have hy : isDig y = true := h y (by rw [hd]; simp); have := List.head?_dropWhile_not isDig l.reverse; rw [hd] at this; simp only [List.head?_cons] at this; rw [hy] at this; cases this
 · intro h x hx; have := (List.dropWhile_sublist (p := isDig) (l := l.reverse)).subset hx; exact h x (List.mem_reverse.1 this)
theorem trim_dig (l : List UInt8) (w : World) (hl : l.length ≤ 9223372036854775807) :
 Calls Tryz.prog 137 #[.string ⟨l.toArray⟩, .string ⟨#[48, 49, 50, 51, 52, 53, 54, 55, 56, 57]⟩] w fun e w' => (∃ r : List UInt8, e = .returned (.string ⟨r.toArray⟩) ∧ r.isEmpty = l.all isDig) ∧ Ext w w' := by
 have := Any.strings_Trim_laid Tryz.lays160 info116c ⟨l.toArray⟩ ⟨#[48, 49, 50, 51, 52, 53, 54, 55, 56, 57]⟩ w (by show l.toArray.size ≤ _; simpa using hl) (by decide) (ascii_of_all (by decide)); refine this.mono ?_; rintro e w' ⟨rfl, h⟩; exact ⟨⟨Lib.trimS l figs, rfl, trim_empty l⟩, h⟩
theorem get0 (c : UInt8) (t : List UInt8) : (ByteArray.mk (c :: t).toArray)[0]'(by show 0 < (c :: t).toArray.size; simp) = c := rfl
end Go.Proofs.YtjapbjmeoaagmaaGreatDoor
