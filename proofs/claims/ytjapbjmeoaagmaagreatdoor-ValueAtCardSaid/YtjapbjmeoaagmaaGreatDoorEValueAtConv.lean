/- A text of this proof. -/
import Derived.Test.YtjapbjmeoaagmaaGreatDoorEValueAtOwn
set_option linter.unusedVariables false
set_option linter.unusedSimpArgs false
set_option maxRecDepth 100000
namespace Go.Mem
open Go.RowKit
section
variable {P : Program} (w : World)
theorem bytes_of_string_at (s : ByteArray) (e : TypeId) (cap : Nat) (fr : Nat × Nat) (hc : s.size ≤ cap) : BytesAt (w.alloc (.cells (bytesRow s cap) e fr)) (some ⟨w.heap.size, 0, none⟩) s.data.toList := by
 intro hn; refine ⟨_, _, rfl, by simp, fun i hi => ?_⟩; have hi' : i < s.data.size := by simpa using hi
 rw [World.cell?_alloc_mark, show 0 + i = i by omega, bytesRow_at s cap i hi']; simp
theorem wpList_bytes_of_string {ops : Array Oper} {rest : List Oper} {o : Oper} {a : Act} {Q : Exit → Act → World → Prop} (hgd : Region.wanted o (yielded ops a.tmps) = true) (src dst e : TypeId) (x : Operand) (ho : o.op = .convert src dst x)
 (s : ByteArray) (hx : a.eval x = .string s) (hs : P.underlying src = some .string) (hd : P.underlying dst = some (.slice e)) (he : P.underlying e = some (.int .u8)) (hl : s.size ≤ 140737488355328)
 (h : ∀ cap w', Ext w w' → s.size ≤ cap → cap ≤ 9223372036854775807 → w'.heap.size = w.heap.size + 1 → BytesAt w' (some ⟨w.heap.size, 0, none⟩) s.data.toList → wpList P ops Q rest (a.put o.dst (.slice (some ⟨w.heap.size, 0, none⟩) s.size cap)) w') : wpList P ops Q (o :: rest) a w := by
 unfold wpList; rw [if_pos hgd]; refine .inl ?_; unfold Oper.wp execOp; have hr := run_bytes_of_string (P := P) w src dst e s hs hd he; simp only [ho, Sem.run_bind, Sem.run_pure, hx, hr, Result.andThen_ok]; have hge := grownCap_ge w s.size 0 e; have hm := grownCap_le_maxLen w s.size 0 e (by simp only [maxLen]; omega)
 exact h _ _ (((ext_refl w).drew).alloc (by simp) _) hge (by simpa [maxLen] using hm) (by simp) (bytes_of_string_at w.drew s e _ _ hge)
theorem run_string_of_bytes {v : Value} {xs : List UInt8} (h : Bytes w v xs) (src dst e : TypeId) (hs : P.underlying src = some (.slice e)) (he : P.underlying e = some (.int .u8)) (hd : P.underlying dst = some .string) :
 (convert src dst v).run P w = .ok (.string ⟨xs.toArray⟩) w := by
 obtain ⟨a, cap, rfl, h1, h2, h3, h4⟩ := h; cases xs with
 | nil =>
   cases a with
   | none => exact run_convert_bytes_nil w src e hs he 0 cap dst hd
   | some a => simpa using run_convert_bytes_back (P := P) w src dst e a cap [] hs he hd (by simp)
 | cons x t =>
   obtain ⟨b, o, rfl, hlt, hc⟩ := h4 (by simp); refine run_convert_bytes_back (P := P) w src dst e _ cap (x :: t) hs he hd (fun j hj => ?_); rw [show (⟨b, o, none⟩ : Addr).add j = ⟨b, o + j, none⟩ by simp only [Addr.add]; split <;> simp_all]; exact hc j hj
end
structure Kept (B p : Nat) (w w' : World) : Prop where
 os : w'.os = w.os
 tape : w'.tape = w.tape
 output : w'.output = w.output
 size : w.heap.size ≤ w'.heap.size
 block : ∀ k, k < B → k ≠ p → w'.heap[k]? = w.heap[k]?
theorem Kept.refl (B p : Nat) (w : World) : Kept B p w w := ⟨rfl, rfl, rfl, Nat.le_refl _, fun _ _ _ => rfl⟩
theorem Kept.trans {B p : Nat} {a b c : World} (h : Kept B p a b) (k : Kept B p b c) : Kept B p a c :=
 ⟨k.os.trans h.os, k.tape.trans h.tape, k.output.trans h.output, Nat.le_trans h.size k.size, fun i hi hp => (k.block i hi hp).trans (h.block i hi hp)⟩
theorem Kept.ofBelow {B p : Nat} {w w' : World} (h : Below B w w') : Kept B p w w' := ⟨h.os, h.tape, h.output, h.size, fun k hk _ => h.block k hk⟩
theorem Kept.mono {B B' p : Nat} {w w' : World} (h : Kept B p w w') (hB : B' ≤ B) : Kept B' p w w' := ⟨h.os, h.tape, h.output, h.size, fun k hk hp => h.block k (Nat.lt_of_lt_of_le hk hB) hp⟩
theorem Kept.below {B p : Nat} {w w' : World} (h : Kept B p w w') (hp : B ≤ p) : Below B w w' := ⟨h.os, h.tape, h.output, h.size, fun k hk => h.block k hk (by omega)⟩
theorem Kept.setCell {B p o : Nat} {w : World} (u : Value) : Kept B p w (w.setCell ⟨p, o, none⟩ u) :=
 ⟨rfl, rfl, rfl, by simp [World.setCell], fun k _ hp => Below.heap_setCell _ _ _ _ hp⟩
theorem BytesAt.kept {w w' : World} {b o : Nat} {xs : List UInt8} (h : BytesAt w (some ⟨b, o, none⟩) xs) {B p : Nat} (hb : Kept B p w w') (hB : b < B) (hp : b ≠ p) : BytesAt w' (some ⟨b, o, none⟩) xs := by
 intro hn; obtain ⟨b', o', e, hlt, hc⟩ := h hn; simp only [Option.some.injEq, Addr.mk.injEq, and_true] at e; obtain ⟨rfl, rfl⟩ := e; refine ⟨b, o, rfl, Nat.lt_of_lt_of_le hlt hb.size, fun i hi => ?_⟩; have e1 : w'.cell? ⟨b, o + i, none⟩ = w.cell? ⟨b, o + i, none⟩ := World.cell?_of_block (w := w) (a := ⟨b, o + i, none⟩) (hb.block b hB hp); rw [e1]; exact hc i hi
end Go.Mem
