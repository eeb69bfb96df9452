/- Short words. -/
import Derived.Lib.Hide
theorem Hd {p : Prop} (h : p) : Go.RowKit.Hid p := Go.Lib.hid h
theorem Ex {α : Sort _} (a : α) : ∃ b, a = b := ⟨a, rfl⟩
