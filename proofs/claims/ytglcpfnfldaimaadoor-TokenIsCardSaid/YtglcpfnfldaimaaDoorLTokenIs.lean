/- TokenIs: which token any text has at any place, all of them, a text in signs, and whether it is a name, is what the document says: whatever the input, the law returns true and the input reads as it did. No condition. -/
import Derived.Test.YtglcpfnfldaimaaDoorRows
import Derived.Test.YtglcpfnfldaimaaDoorCards
import Derived.Test.YtglcpfnfldaimaaDoorTie
import Derived.Test.YtglcpfnfldaimaaDoorR15D
import Derived.Test.YtglcpfnfldaimaaDoorTokW
import Derived.Test.YtglcpfnfldaimaaDoorFrame
import Derived.ProofKit
import Derived.SizedLaws
import Derived.OpenShut
import Derived.Lay
import Derived.LaidMore
import Derived.SevenTiedAt
import Derived.IntWalk
import Derived.Laws.BitsLemmas
set_option linter.unusedVariables false
set_option linter.unusedSimpArgs false
set_option maxRecDepth 100000
namespace Go.Proofs.YtglcpfnfldaimaaDoor.tokenIs
open Go.ChangeShapes Go.WideShapes Go.ChangeAt Go.RowKit Go.Mem Orange

def specToks (ts : List Orange.Tok) : Grow.Spec Ext := ⟨fun v => ∃ a c, v = .slice a ts.length c, fun v w => Toks w v ts, ⟨_, none, 0, rfl⟩, fun v w w' h hg => h.ext hg⟩
theorem toks_one {w : World} {b : Nat} {t : Orange.Tok} {ty : TypeId} {fr : Nat × Nat} (h : w.heap[b]? = some (.cells (tokCells t) ty fr)) : Toks w (.slice (some ⟨b, 0, none⟩) 1 1) [t] := by
  refine ⟨_, 1, rfl, by simp, by omega, fun _ => ⟨b, rfl, (Array.getElem?_eq_some_iff.1 h).1, fun i j hi hj => ?_⟩⟩
  obtain rfl : i = 0 := by simp at hi; omega
  rw [cell_of_cells h]; simp
theorem allL_len (l : List UInt8) : ∀ (f k : Nat) (acc : List Orange.Tok), acc.length ≤ k → k ≤ l.length → (allL l f k acc).1.length ≤ l.length
  | 0, _, _, _, _ => by simp [allL]
  | f + 1, k, acc, h, hk => by
    rw [allL]
    split
    · simp
    · rename_i h0
      split
      · show acc.length ≤ l.length; omega
      · rename_i h1
        rcases nextAt_end l k hk (by simpa using h0) with h2 | ⟨h2, h3, _⟩
        · exact absurd h2 h1
        · exact allL_len l f _ _ (by rw [List.length_append, List.length_singleton]; omega) (by omega)
theorem allP_len (l : List UInt8) : (allP l).1.length ≤ l.length := by
  unfold allP
  split
  · simp
  · exact allL_len l _ 0 [] (by simp) (by omega)
set_option maxHeartbeats 12800000 in
theorem walk (s : ByteArray) (hs : s.size ≤ 140737488351232) (n : Int) (hn0 : -9223372036854775808 ≤ n) (hn1 : n ≤ 9223372036854775807) (w : World) :
    Calls Tryd.prog 6 #[.string s, .int .i64 n] w fun e w' => e = .returned (.bool true) ∧ Ext w w' := by
  obtain ⟨l, rfl⟩ := sx_of s
  rw [sx_size] at hs
  go_enter Tryd.func6, Tryd.ntmps6
  go_wp2_with fail
  refine (tawake _).mono ?_
  rintro e w1 ⟨rfl, hw1⟩
  by_cases hlen : l.length ≤ 1000
  · have hd : decide (1000 < (l.length : Int)) = false := by simp; omega
    go_wp2_with fail
    refine (next_tok l n _ (by omega) hn0 hn1).mono ?_
    rintro e w2 ⟨rfl, hw2⟩
    obtain ⟨X, hX⟩ : ∃ X, nextP l n = X := ⟨_, rfl⟩
    rw [hX]
    have HX := Lib.hid hX
    obtain ⟨⟨tk, ts, ⟨tn, td, te⟩, tf, tu⟩, er⟩ := X
    simp only [tokCells]
    have hE2 := ext_trans hw1 hw2
    clear hX hw1 hw2
    have ht2 := heap_alloc_new w2 (.cells #[.int .i64 tk, .string ⟨ts.toArray⟩, .bool tn, .string ⟨td.toArray⟩, .int .i64 te, .int .i64 tf, .int .i64 tu] 30)
    have hx2 : Ext w2 (w2.alloc (.cells #[.int .i64 tk, .string ⟨ts.toArray⟩, .bool tn, .string ⟨td.toArray⟩, .int .i64 te, .int .i64 tf, .int .i64 tu] 30)) := (ext_refl w2).alloc (Nat.le_refl _) _
    go_wp2_with fail
    generalize hg2 : w2.heap.size = g2 at *
    generalize w2.alloc (.cells #[.int .i64 tk, .string ⟨ts.toArray⟩, .bool tn, .string ⟨td.toArray⟩, .int .i64 te, .int .i64 tf, .int .i64 tu] 30) = w3 at *
    have hE3 := ext_trans hE2 hx2
    clear hg2 hx2 hE2
    refine (r15next_any l n _ (by omega) hn0 hn1).mono ?_
    rintro e w4 ⟨rfl, hw4⟩
    rw [HX.out]
    simp only [tokCells]
    have hE4 := ext_trans hE3 hw4
    have ht4 : TokAt w4 g2 ⟨tk, ts, ⟨tn, td, te⟩, tf, tu⟩ := TokAt.ext (t := ⟨tk, ts, ⟨tn, td, te⟩, tf, tu⟩) ht2 hw4
    have ht5 := heap_alloc_new w4 (.cells #[.int .i64 tk, .string ⟨ts.toArray⟩, .bool tn, .string ⟨td.toArray⟩, .int .i64 te, .int .i64 tf, .int .i64 tu] 36)
    have hx5 : Ext w4 (w4.alloc (.cells #[.int .i64 tk, .string ⟨ts.toArray⟩, .bool tn, .string ⟨td.toArray⟩, .int .i64 te, .int .i64 tf, .int .i64 tu] 36)) := (ext_refl w4).alloc (Nat.le_refl _) _
    clear ht2 hw4 hE3
    go_wp2_with fail
    generalize hg4 : w4.heap.size = g4 at *
    generalize w4.alloc (.cells #[.int .i64 tk, .string ⟨ts.toArray⟩, .bool tn, .string ⟨td.toArray⟩, .int .i64 te, .int .i64 tf, .int .i64 tu] 36) = w5 at *
    have hE5 := ext_trans hE4 hx5
    have ht5' := ht4.ext hx5
    clear hg4 hx5 hE4 ht4
    refine (all_any l _ (by omega)).mono ?_
    rintro e w6 ⟨⟨va, rfl, hva⟩, hw6⟩
    obtain ⟨Y, hY⟩ : ∃ Y, allP l = Y := ⟨_, rfl⟩
    rw [hY] at hva ⊢
    have HY := Lib.hid hY
    have HAL : Hid (Y.1.length ≤ 1000000000) := Lib.hid (by
      rw [← hY]; have := allP_len l; omega)
    obtain ⟨ys, ey⟩ := Y
    simp only at hva HAL ⊢
    obtain ⟨aa, ca, rfl, _⟩ := hva.shape
    have hE6 := ext_trans hE5 hw6
    have ht6 := ht5'.ext hw6
    have hr6 : RAt w6 g4 ⟨tk, ts, ⟨tn, td, te⟩, tf, tu⟩ := RAt.ext (t := ⟨tk, ts, ⟨tn, td, te⟩, tf, tu⟩) ht5 hw6
    clear hY ht5 ht5' hw6 hE5
    go_wp2_with fail
    refine (r15all_any l _ (by omega)).mono ?_
    rintro e w7 ⟨⟨vb, rfl, hvb⟩, hw7⟩
    rw [HY.out] at hvb ⊢
    simp only at hvb ⊢
    obtain ⟨ab, cb, rfl, _⟩ := hvb.shape
    have hE7 := ext_trans hE6 hw7
    have ht7 := ht6.ext hw7
    have hr7 := hr6.ext hw7
    have HVA := Lib.hid (hva.ext hw7)
    have HVB := Lib.hid hvb
    clear hw7 hE6 ht6 hr6 hva hvb
    go_wp2_with fail
    have HT7 := Lib.hid ht7
    have HR7 := Lib.hid hr7
    clear ht7 hr7
    refine Grow.wp_region_lit (G := Ext) (B := fun w' => Ext w7 w') (anc := fun j => if j = 4 then [3] else if j = 7 then [4, 6] else if j = 18 then [16] else []) (I := fun j => if j = 3 then some (Grow.Spec.slice 1 1 (.cells (tokCells ⟨tk, ts, ⟨tn, td, te⟩, tf, tu⟩) 30 (0, 0))) else if j = 4 then some (specToks [⟨tk, ts, ⟨tn, td, te⟩, tf, tu⟩]) else if j = 6 then some (Grow.Spec.slice 1 1 (.cells (tokCells ⟨tk, ts, ⟨tn, td, te⟩, tf, tu⟩) 36 (0, 0))) else if j = 7 then some (Grow.Spec.val Ext (.bool true)) else if j = 16 then some (specToks ys) else if j = 18 then some (Grow.Spec.val Ext (.bool true)) else if j = 27 then some (Grow.Spec.val Ext (.string ⟨(tquote l).toArray⟩)) else if j = 29 then some (Grow.Spec.val Ext (.string ⟨(tquote l).toArray⟩)) else if j = 34 then some (Grow.Spec.val Ext (.bool (isName l))) else if j = 36 then some (Grow.Spec.val Ext (.bool (isName l))) else none) (by kernel_rfl) (by kernel_rfl) (by kernel_rfl) ?_ ?_ ?_
    · exact fun w w' h hg => ext_trans h hg
    · exact (ext_refl _).drew
    repeat
      (refine Grow.walk_step (fun K hK => ?_)
       first
       | (refine Grow.step_read (by rfl) (by rfl) ext_refl ?_
          apply Exists.intro
          refine ⟨fun w hB hF => ?_, ?_⟩
          · obtain ⟨x0, x1, x2, x3, x4, x5, x6⟩ := (HT7.out.ext hB).cells; obtain ⟨y0, y1, y2, y3, y4, y5, y6⟩ := (HR7.out.ext hB).cells; simp only at x0 x1 x2 x3 x4 x5 x6 y0 y1 y2 y3 y4 y5 y6
            go_simp
            try exact rfl
          go_simp
          refine hK _ _ ?_
          clear hK K)
       | (refine Grow.step_off (by rfl) ?_
          go_simp
          refine hK _ _ ?_
          clear hK K))
    refine Grow.walk_step (fun K hK => ?_)
    refine Grow.step_rel (by rfl) (by rfl) (fun w hB hF => ?_) (fun v hv => ?_)
    · go_simp
      exact Grow.relUpon_value ((ext_refl _).alloc (Nat.le_refl _) _) ⟨_, rfl⟩ ⟨_, rfl, by simp, heap_alloc_new _ _⟩
    go_simp
    refine hK _ _ ?_
    clear hK K
    obtain ⟨b3, rfl⟩ := hv
    refine Grow.walk_step (fun K hK => ?_)
    refine Grow.step_rel (by rfl) (by rfl) (fun w' hB hF => ?_) (fun v hv => ?_)
    · have h3 : ∃ b, (Value.slice (some ⟨b3, 0, none⟩) 1 1 : Value) = .slice (some ⟨b, 0, none⟩) 1 1 ∧ b < w'.heap.size ∧ w'.heap[b]? = some (.cells (tokCells ⟨tk, ts, ⟨tn, td, te⟩, tf, tu⟩) 30 (0, 0)) := hF 3 (by simp)
      obtain ⟨b', e', _, hb'⟩ := h3
      obtain rfl : b3 = b' := by simpa using e'
      go_simp
      refine Grow.relUpon_enter ((theirs_any _ [⟨tk, ts, ⟨tn, td, te⟩, tf, tu⟩] w' (toks_one hb') (by simp)).mono ?_)
      rintro e w'' ⟨⟨v, rfl, ht⟩, hw''⟩
      obtain ⟨a', c', e2, _⟩ := ht.shape
      exact ⟨v, rfl, hw'', ⟨a', c', e2⟩, ht⟩
    obtain ⟨a4, c4, rfl⟩ := hv
    go_simp
    refine hK _ _ ?_
    clear hK K
    repeat
      (refine Grow.walk_step (fun K hK => ?_)
       first
       | (refine Grow.step_read (by rfl) (by rfl) ext_refl ?_
          apply Exists.intro
          refine ⟨fun w hB hF => ?_, ?_⟩
          · obtain ⟨x0, x1, x2, x3, x4, x5, x6⟩ := (HT7.out.ext hB).cells; obtain ⟨y0, y1, y2, y3, y4, y5, y6⟩ := (HR7.out.ext hB).cells; simp only at x0 x1 x2 x3 x4 x5 x6 y0 y1 y2 y3 y4 y5 y6
            go_simp
            try exact rfl
          go_simp
          refine hK _ _ ?_
          clear hK K)
       | (refine Grow.step_off (by rfl) ?_
          go_simp
          refine hK _ _ ?_
          clear hK K))
    refine Grow.walk_step (fun K hK => ?_)
    refine Grow.step_rel (by rfl) (by rfl) (fun w hB hF => ?_) (fun v hv => ?_)
    · go_simp
      exact Grow.relUpon_value ((ext_refl _).alloc (Nat.le_refl _) _) ⟨_, rfl⟩ ⟨_, rfl, by simp, heap_alloc_new _ _⟩
    go_simp
    refine hK _ _ ?_
    clear hK K
    obtain ⟨b6, rfl⟩ := hv
    refine Grow.walk_step (fun K hK => ?_)
    refine Grow.step_rel (by rfl) (by rfl) (fun w' hB hF => ?_) (fun v hv => ?_)
    · have h6 : ∃ b, (Value.slice (some ⟨b6, 0, none⟩) 1 1 : Value) = .slice (some ⟨b, 0, none⟩) 1 1 ∧ b < w'.heap.size ∧ w'.heap[b]? = some (.cells (tokCells ⟨tk, ts, ⟨tn, td, te⟩, tf, tu⟩) 36 (0, 0)) := hF 6 (by simp)
      have h4 : Toks w' _ [⟨tk, ts, ⟨tn, td, te⟩, tf, tu⟩] := hF 4 (by simp)
      obtain ⟨b', e', _, hb'⟩ := h6
      obtain rfl : b6 = b' := by simpa using e'
      go_simp
      refine Grow.relUpon_enter ((r15same_any _ _ [⟨tk, ts, ⟨tn, td, te⟩, tf, tu⟩] [⟨tk, ts, ⟨tn, td, te⟩, tf, tu⟩] w' h4 (toks_one hb')).mono ?_)
      rintro e w'' ⟨rfl, hw''⟩
      exact ⟨_, rfl, hw'', by rw [decide_eq_true rfl]; rfl, trivial⟩
    obtain rfl : v = _ := hv
    go_simp
    refine hK _ _ ?_
    clear hK K
    repeat
      (refine Grow.walk_step (fun K hK => ?_)
       first
       | (refine Grow.step_read (by rfl) (by rfl) ext_refl ?_
          apply Exists.intro
          refine ⟨fun w hB hF => ?_, ?_⟩
          · obtain ⟨x0, x1, x2, x3, x4, x5, x6⟩ := (HT7.out.ext hB).cells
            go_simp
            try exact rfl
          go_simp
          refine hK _ _ ?_
          clear hK K)
       | (refine Grow.step_off (by rfl) ?_
          go_simp
          refine hK _ _ ?_
          clear hK K))
    refine Grow.walk_step (fun K hK => ?_)
    refine Grow.step_rel (by rfl) (by rfl) (fun w' hB hF => ?_) (fun v hv => ?_)
    · go_simp
      refine Grow.relUpon_enter ((theirs_any _ ys w' (HVA.out.ext hB) HAL.out).mono ?_)
      rintro e w'' ⟨⟨v, rfl, ht⟩, hw''⟩
      obtain ⟨a', c', e2, _⟩ := ht.shape
      exact ⟨v, rfl, hw'', ⟨a', c', e2⟩, ht⟩
    obtain ⟨a16, c16, rfl⟩ := hv
    go_simp
    refine hK _ _ ?_
    clear hK K
    repeat
      (refine Grow.walk_step (fun K hK => ?_)
       first
       | (refine Grow.step_read (by rfl) (by rfl) ext_refl ?_
          apply Exists.intro
          refine ⟨fun w hB hF => ?_, ?_⟩
          · obtain ⟨x0, x1, x2, x3, x4, x5, x6⟩ := (HT7.out.ext hB).cells
            go_simp
            try exact rfl
          go_simp
          refine hK _ _ ?_
          clear hK K)
       | (refine Grow.step_off (by rfl) ?_
          go_simp
          refine hK _ _ ?_
          clear hK K))
    refine Grow.walk_step (fun K hK => ?_)
    refine Grow.step_rel (by rfl) (by rfl) (fun w' hB hF => ?_) (fun v hv => ?_)
    · have h16 : Toks w' _ ys := hF 16 (by simp)
      go_simp
      refine Grow.relUpon_enter ((r15same_any _ _ ys ys w' h16 (HVB.out.ext hB)).mono ?_)
      rintro e w'' ⟨rfl, hw''⟩
      exact ⟨_, rfl, hw'', by rw [decide_eq_true rfl]; rfl, trivial⟩
    obtain rfl : v = _ := hv
    go_simp
    refine hK _ _ ?_
    clear hK K
    repeat
      (refine Grow.walk_step (fun K hK => ?_)
       first
       | (refine Grow.step_read (by rfl) (by rfl) ext_refl ?_
          apply Exists.intro
          refine ⟨fun w hB hF => ?_, ?_⟩
          · obtain ⟨x0, x1, x2, x3, x4, x5, x6⟩ := (HT7.out.ext hB).cells
            go_simp
            try exact rfl
          go_simp
          refine hK _ _ ?_
          clear hK K)
       | (refine Grow.step_off (by rfl) ?_
          go_simp
          refine hK _ _ ?_
          clear hK K))
    refine Grow.walk_step (fun K hK => ?_)
    refine Grow.step_rel (by rfl) (by rfl) (fun w' hB hF => ?_) (fun v hv => ?_)
    · go_simp
      refine Grow.relUpon_enter ((tquote_any l w' (by omega)).mono ?_)
      rintro e w'' ⟨rfl, hw''⟩
      exact ⟨_, rfl, hw'', rfl, trivial⟩
    obtain rfl : v = _ := hv
    go_simp
    refine hK _ _ ?_
    clear hK K
    repeat
      (refine Grow.walk_step (fun K hK => ?_)
       first
       | (refine Grow.step_read (by rfl) (by rfl) ext_refl ?_
          apply Exists.intro
          refine ⟨fun w hB hF => ?_, ?_⟩
          · obtain ⟨x0, x1, x2, x3, x4, x5, x6⟩ := (HT7.out.ext hB).cells
            go_simp
            try exact rfl
          go_simp
          refine hK _ _ ?_
          clear hK K)
       | (refine Grow.step_off (by rfl) ?_
          go_simp
          refine hK _ _ ?_
          clear hK K))
    refine Grow.walk_step (fun K hK => ?_)
    refine Grow.step_rel (by rfl) (by rfl) (fun w' hB hF => ?_) (fun v hv => ?_)
    · go_simp
      refine Grow.relUpon_enter ((r15quote_any l w' (by omega)).mono ?_)
      rintro e w'' ⟨rfl, hw''⟩
      exact ⟨_, rfl, hw'', rfl, trivial⟩
    obtain rfl : v = _ := hv
    go_simp
    refine hK _ _ ?_
    clear hK K
    repeat
      (refine Grow.walk_step (fun K hK => ?_)
       first
       | (refine Grow.step_read (by rfl) (by rfl) ext_refl ?_
          apply Exists.intro
          refine ⟨fun w hB hF => ?_, ?_⟩
          · obtain ⟨x0, x1, x2, x3, x4, x5, x6⟩ := (HT7.out.ext hB).cells
            go_simp
            try exact rfl
          go_simp
          refine hK _ _ ?_
          clear hK K)
       | (refine Grow.step_off (by rfl) ?_
          go_simp
          refine hK _ _ ?_
          clear hK K))
    refine Grow.walk_step (fun K hK => ?_)
    refine Grow.step_rel (by rfl) (by rfl) (fun w' hB hF => ?_) (fun v hv => ?_)
    · go_simp
      refine Grow.relUpon_enter ((isname_any l w' (by omega)).mono ?_)
      rintro e w'' ⟨rfl, hw''⟩
      exact ⟨_, rfl, hw'', rfl, trivial⟩
    obtain rfl : v = _ := hv
    go_simp
    refine hK _ _ ?_
    clear hK K
    repeat
      (refine Grow.walk_step (fun K hK => ?_)
       first
       | (refine Grow.step_read (by rfl) (by rfl) ext_refl ?_
          apply Exists.intro
          refine ⟨fun w hB hF => ?_, ?_⟩
          · obtain ⟨x0, x1, x2, x3, x4, x5, x6⟩ := (HT7.out.ext hB).cells
            go_simp
            try exact rfl
          go_simp
          refine hK _ _ ?_
          clear hK K)
       | (refine Grow.step_off (by rfl) ?_
          go_simp
          refine hK _ _ ?_
          clear hK K))
    refine Grow.walk_step (fun K hK => ?_)
    refine Grow.step_rel (by rfl) (by rfl) (fun w' hB hF => ?_) (fun v hv => ?_)
    · go_simp
      refine Grow.relUpon_enter ((r15isname_any l w' (by omega)).mono ?_)
      rintro e w'' ⟨rfl, hw''⟩
      exact ⟨_, rfl, hw'', rfl, trivial⟩
    obtain rfl : v = _ := hv
    go_simp
    refine hK _ _ ?_
    clear hK K
    repeat
      (refine Grow.walk_step (fun K hK => ?_)
       first
       | (refine Grow.step_read (by rfl) (by rfl) ext_refl ?_
          apply Exists.intro
          refine ⟨fun w hB hF => ?_, ?_⟩
          · obtain ⟨x0, x1, x2, x3, x4, x5, x6⟩ := (HT7.out.ext hB).cells
            go_simp
            try exact rfl
          go_simp
          refine hK _ _ ?_
          clear hK K)
       | (refine Grow.step_off (by rfl) ?_
          go_simp
          refine hK _ _ ?_
          clear hK K))
    refine Grow.walk_nil ?_
    intro w9 hB hF
    clear hF
    go_wp2_with fail
    go_ret
    exact ⟨rfl, ext_trans hE7 hB⟩
  · go_wp2_with fail
    go_ret
    exact ⟨rfl, hw1⟩
set_option linter.unusedSimpArgs false
theorem own : ownKnob Tryd.prog.godebug = none := by kernel_rfl
theorem laid : laidOutB Tryd.prog = true := by kernel_rfl
set_option maxHeartbeats 1600000 in
set_option maxRecDepth 100000 in
theorem lifted (os : Os) (started : os.Started) (H : Type) (enc : TypeId × Value → H) :
    ReturnsInHanded {} Tryd.checked os 6 .any (fun w args => (Rows.tokenIsSpec.pre enc Tryd.prog Tryd.f6 [] false w args ∧ laidMetH Tryd.prog Rows.tokenIsRow.laid w) ∧ sizedMet enc Tryd.prog Tryd.f6 (OpenSpec.ofChange Rows.tokenIsSpec) false w args) (Rows.tokenIsSpec.post enc Tryd.prog Tryd.f6 false true false false) := by
  refine returnsInHanded_of_change_and (C := Tryd.checked) (X := fun w _ => laidMetH Tryd.prog Rows.tokenIsRow.laid w) (fun _ _ _ hh h => h.of_heap hh) own started (by kernel_rfl) Tryd.func6
    (ChangeSpec.witness_shaped (enc := enc) (C := Tryd.checked) (os := os) (X := fun w _ => laidMetH Tryd.prog Rows.tokenIsRow.laid w) false (World.laidAll Tryd.prog os Rows.tokenIsRow.laid) #[.string ⟨#[]⟩, .int .i64 0] 8 (World.laidAll_os _ _ _)
      (World.shaped_of_ZipB (by kernel_rfl) (by kernel_rfl)) (by kernel_rfl) (by kernel_rfl) (by kernel_rfl)
      (by rw [MakeChecks.laidMetH_plain _ _ _ (by kernel_rfl)]; exact laidMet_laidAll _ (by kernel_rfl) (by kernel_rfl))) ?_
  intro W base args ds gs before hval0 hW _ hsz0 _ _
  have hsz : (DataW.weightsEach Tryd.prog (Tryd.f6.params.toList ++ Rows.tokenIsSpec.plain.varTypes Tryd.prog) (ds ++ gs)).all (· ≤ reachBytes) = true := hsz0
  clear hsz0
  have hval : ∀ (j : Nat) t v, Tryd.f6.params[j]? = some t → args[j]? = some v → Value.okWide Tryd.prog W .any base t v := hval0
  have hW' := hW
  obtain ⟨p, q, hA0, hV, rfl, _, _⟩ := hW
  have hA : DataW.TrodAll enc Tryd.prog W 0 (fun _ => true) true Tryd.f6.params.toList args.toList ds p := hA0
  rw [Tryd.params6] at hA hval hsz
  obtain ⟨v0, vs0, d0, ds0, p0, q0, ha0, rfl, rfl, h0, r0⟩ := trodAll_cons hA
  obtain ⟨v1, vs1, d1, ds1, p1, q1, ha1, rfl, rfl, h1, r1⟩ := trodAll_cons r0
  obtain ⟨hb2, rfl, rfl⟩ := trodAll_nil r1
  subst hb2
  subst ha1
  obtain rfl : args = #[v0, v1] := by cases args; simpa using ha0
  obtain ⟨rfl, rfl⟩ := trodVars_none hV
  have hk0 := h0
  obtain ⟨a0, rfl, rfl, rfl, _⟩ := Go.ChangeMaps.open_string Tryd.underlying9 (hval 0 9 v0 rfl rfl) h0
  have hs0 : a0.size ≤ 140737488351232 := by have := sized_string hsz (j := 0) rfl rfl; simpa [reachBytes] using this
  have hk1 := h1
  obtain ⟨a1, rfl, rfl, rfl, wf1⟩ := open_int Tryd.underlying3 (hval 1 3 v1 rfl rfl) h1
  have hr1 : -9223372036854775808 ≤ a1 ∧ a1 ≤ 9223372036854775807 := by simpa [Lit.wf, IntKind.min, IntKind.max, IntKind.signed, IntKind.bits] using wf1
  have hlt := fun x hx => hW'.lt x hx
  simp only [List.append_nil, List.nil_append] at hW' hlt
  refine (walk a0 hs0 a1 hr1.1 hr1.2 W ).mono fun e W' ⟨he, hb⟩ => ?_
  subst he
  have hargs := (trodAll_cons_mk (Below.trod laid (by kernel_rfl) (of_decide_eq_true (by kernel_rfl)) hk0 hb (fun x hx => by first | exact hlt x hx | exact absurd hx (List.not_mem_nil) | exact hlt x (by simp [hx]))) (trodAll_cons_mk (Below.trod laid (by kernel_rfl) (of_decide_eq_true (by kernel_rfl)) hk1 hb (fun x hx => by first | exact hlt x hx | exact absurd hx (List.not_mem_nil) | exact hlt x (by simp [hx]))) trodAll_mk0))
  exact ⟨_, rfl, _, _, _, [], _, [], hW', trodAll_cons_mk (shut_bool Tryd.underlying4 _) trodAll_mk0, hargs, rfl, hb.frame _, fun h => by cases h⟩

theorem held : Rows.TokenIsSaid :=
  OpenClaim.holds_of_wide 6 Tryd.f6 rfl rfl rfl rfl rfl rfl rfl ⟨rfl, rfl, rfl, rfl, rfl⟩ rfl rfl rfl rfl rfl (by kernel_rfl) Tryd.func6 (by kernel_rfl)
    (of_decide_eq_true (by kernel_rfl)) (by unfold Func.isWrapper; first | (rw [if_pos (by decide +kernel)]; kernel_rfl) | (rw [if_neg (by decide +kernel)]; exact ⟨rfl, rfl⟩))
    (fun os started H enc _ => lifted os started H enc)

theorem proved : Rows.TokenIsCardSaid :=
  Claim7.holds_tied_plain_at .later [] Rows.tokenIsCard.laidKinds true Rows.tokenIsCard.stood.harness false held (fun _ h => by cases h) (by kernel_rfl) (fun _ h => by cases h) tokenIs_row_tie rfl ⟨rfl, rfl⟩ (by kernel_rfl) rfl
    (fun f fn hf hfn => by
      obtain rfl : f = 6 := Option.some.inj ((show Tryd.prog.funcNamed "orangery/orangerylaw15.TokenIs" = some 6 by kernel_rfl).symm.trans hf) |>.symm
      obtain rfl : fn = Tryd.f6 := (Option.some.inj (Tryd.func6.symm.trans hfn)).symm
      exact ⟨by kernel_rfl, fun j t ht => by
        rw [Tryd.params6] at ht
        have hm : t ∈ [9, 3] := by simpa using Array.mem_of_getElem? ht
        have hall : ([9, 3].all fun u => !Tryd.prog.wantsStandIn u) = true := by kernel_rfl
        exact (show Tryd.prog.wantsStandIn t = false by simpa using List.all_eq_true.1 hall t hm)⟩)
    (by kernel_rfl)
end Go.Proofs.YtglcpfnfldaimaaDoor.tokenIs
