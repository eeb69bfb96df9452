/- token: what All does. -/
import Derived.Test.YtglcpfnfldaimaaDoorTokF
set_option linter.unusedVariables false
set_option linter.unusedSimpArgs false
set_option maxRecDepth 100000
namespace Orange
/-- all tokens from a place on, behind others -/
def allL (l : List UInt8) : Nat → Nat → List Tok → List Tok × Int
  | f + 1, k, acc =>
    if (nextAt l k).2 ≠ 0 then ([], (nextAt l k).2)
    else if (nextAt l k).1.kind = 0 then (acc, 0)
    else allL l f (nextAt l k).1.upto.toNat (acc ++ [(nextAt l k).1])
  | 0, _, _ => ([], 0)
def allP (l : List UInt8) : List Tok × Int := if 8192 < l.length then ([], 4) else allL l (l.length + 1) 0 []
end Orange
namespace Go.Proofs.YtglcpfnfldaimaaDoor
open Go.RowKit Go.Mem Orange
theorem readP_ok (l : List UInt8) (t : Tok) (h : (readP l t).2.2 = 0) : 0 < (readP l t).2.1 ∧ (readP l t).1.kind ≠ 0 := by
  unfold readP at h ⊢
  split
  · rename_i h1
    rw [if_pos h1] at h
    split
    · rename_i h2
      rw [if_pos h2] at h
      simp only at h ⊢
      split at h
      · cases h
      · exact ⟨by omega, by decide⟩
    · rename_i h2
      rw [if_neg h2] at h
      cases h
  · rename_i h1
    rw [if_neg h1] at h
    split
    · rename_i h2
      rw [if_pos h2] at h
      simp only at h ⊢
      split at h
      · cases h
      · rename_i h3; exact ⟨by omega, by decide⟩
    · rename_i h2
      rw [if_neg h2] at h
      split
      · rename_i h3
        rw [if_pos h3] at h
        simp only at h ⊢
        split at h
        · cases h
        · exact ⟨by omega, by decide⟩
      · rename_i h3
        rw [if_neg h3] at h
        simp only at h ⊢
        split at h
        · cases h
        · exact ⟨by omega, by decide⟩
theorem nextAt_end (l : List UInt8) (k : Nat) (hk : k ≤ l.length) (h0 : (nextAt l k).2 = 0) : (nextAt l k).1.kind = 0 ∨ ((k : Int) < (nextAt l k).1.upto ∧ (nextAt l k).1.upto ≤ l.length ∧ (nextAt l k).1.kind ≠ 0) := by
  have hd : ((l.drop k).dropWhile isW).length ≤ l.length - k := Nat.le_trans (List.dropWhile_sublist (p := isW) (l := l.drop k)).length_le (by simp)
  unfold nextAt at h0 ⊢
  generalize (l.drop k).dropWhile isW = R at *
  simp only at h0 ⊢
  by_cases hR : R = []
  · rw [if_pos hR]; exact .inl rfl
  · rw [if_neg hR] at h0 ⊢
    have hR0 : 0 < R.length := by cases R with | nil => exact absurd rfl hR | cons _ _ => simp
    by_cases he : (readP R ⟨0, [], Num.zero, (l.length : Int) - R.length, (l.length : Int) - R.length⟩).2.2 = 0
    · rw [if_pos he]
      have h1 := readP_ok R _ he
      have h2 := readP_le R ⟨0, [], Num.zero, (l.length : Int) - R.length, (l.length : Int) - R.length⟩ hR0
      refine .inr ⟨?_, ?_, h1.2⟩ <;> simp only <;> omega
    · rw [if_neg he] at h0; exact absurd h0 he

theorem infoT : (Tryd.prog.info? 30).map (fun i => (i.zero, i.size, i.bytes)) = some (some (.agg #[.int .i64 0, .string ⟨#[]⟩, .bool false, .string ⟨#[]⟩, .int .i64 0, .int .i64 0, .int .i64 0]), 7, 72) := by kernel_rfl
def tokRow (ts : List Tok) : List Value := ts.flatMap fun t => (tokCells t).toList
theorem tokRow_len (ts : List Tok) : (tokRow ts).length = ts.length * 7 := by
  induction ts with
  | nil => rfl
  | cons t ts ih => simp only [tokRow, List.flatMap_cons, List.length_append, List.length_cons] at ih ⊢; rw [ih]; simp [tokCells]; omega
theorem tokRow_at : ∀ (ts : List Tok) (i j : Nat) (hi : i < ts.length) (hj : j < 7), (tokRow ts)[i * 7 + j]? = (tokCells ts[i])[j]?
  | t :: ts, 0, j, _, hj => by
    have hl : (tokCells t).toList.length = 7 := rfl
    simp only [tokRow, List.flatMap_cons, List.getElem_cons_zero, Nat.zero_mul, Nat.zero_add]
    rw [List.getElem?_append_left (by rw [hl]; exact hj), Array.getElem?_toList]
  | t :: ts, i + 1, j, hi, hj => by
    have hl : (tokCells t).toList.length = 7 := rfl
    have := tokRow_at ts i j (by simpa using hi) hj
    simp only [tokRow, List.flatMap_cons] at this ⊢
    rw [List.getElem?_append_right (by rw [hl]; omega), hl, show (i + 1) * 7 + j - 7 = i * 7 + j by omega, this]
    simp
theorem tokRow_app (a : List Tok) (t : Tok) : tokRow (a ++ [t]) = tokRow a ++ (tokCells t).toList := by simp [tokRow]
theorem tok_one (t : Tok) : ∀ u ∈ (tokCells t).toList, u.oneCell' = true := by
  intro u hu
  simp [tokCells] at hu
  rcases hu with rfl | rfl | rfl | rfl | rfl | rfl | rfl <;> rfl
theorem cells_of_block {w : World} {b : Nat} {cs : Array Value} {t : TypeId} {fr : Nat × Nat} (h : w.heap[b]? = some (.cells cs t fr)) : ∀ (j : Nat) x, cs.toList[j]? = some x → w.cell? ((⟨b, 0, none⟩ : Addr).add j) = some x := by
  intro j x hj
  rw [Array.getElem?_toList] at hj
  have e : (⟨b, 0, none⟩ : Addr).add j = ⟨b, j, none⟩ := by simp only [Addr.add]; split <;> simp_all
  rw [e, cell_of_cells h, hj]
/-- a slice of tokens that the call owns -/
def OwnT (w : World) (base : Nat) (v : Value) (ts : List Tok) : Prop := w.ownsRow base 30 7 v ts.length (tokRow ts)
theorem OwnT.nil (w : World) (base : Nat) : OwnT w base (.slice none 0 0) [] := World.ownsRow_nil w base _ 7
theorem OwnT.ext {w w' : World} {base : Nat} {v : Value} {ts : List Tok} (h : OwnT w base v ts) (hb : Ext w w') : OwnT w' base v ts := by
  obtain ⟨h1, h2⟩ := h
  refine ⟨h1, ?_⟩
  rcases h2 with h2 | ⟨g, cap, cur, rfl, hbg, hg, r⟩
  · exact .inl h2
  · exact .inr ⟨g, cap, cur, rfl, hbg, by rw [hb.block g (Array.getElem?_eq_some_iff.1 hg).1]; exact hg, r⟩
theorem OwnT.shape {w : World} {base : Nat} {v : Value} {ts : List Tok} (h : OwnT w base v ts) : ∃ a c, v = .slice a ts.length c := by
  rcases h.2 with ⟨rfl, h0⟩ | ⟨g, cap, cur, rfl, _⟩
  · exact ⟨_, _, by rw [h0]⟩
  · exact ⟨_, _, rfl⟩
/-- a slice of tokens, to be read -/
def Toks (w : World) (v : Value) (ts : List Tok) : Prop :=
  ∃ a cap, v = .slice a ts.length cap ∧ ts.length ≤ cap ∧ cap ≤ 9223372036854775807 ∧
    (0 < ts.length → ∃ g, a = some ⟨g, 0, none⟩ ∧ g < w.heap.size ∧ ∀ i j, (hi : i < ts.length) → j < 7 → w.cell? ⟨g, i * 7 + j, none⟩ = (tokCells ts[i])[j]?)
theorem Toks.ext {w w' : World} {v : Value} {ts : List Tok} (h : Toks w v ts) (hb : Ext w w') : Toks w' v ts := by
  obtain ⟨a, cap, e, h1, h2, h3⟩ := h
  refine ⟨a, cap, e, h1, h2, fun hn => ?_⟩
  obtain ⟨g, rfl, hlt, hc⟩ := h3 hn
  refine ⟨g, rfl, Nat.lt_of_lt_of_le hlt hb.size, fun i j hi hj => ?_⟩
  rw [hb.cell (p := ⟨g, i * 7 + j, none⟩) hlt]
  exact hc i j hi hj
theorem OwnT.toks {w : World} {base : Nat} {v : Value} {ts : List Tok} (h : OwnT w base v ts) : Toks w v ts := by
  obtain ⟨h1, h2⟩ := h
  rcases h2 with ⟨rfl, h0⟩ | ⟨g, cap, cur, rfl, hb, hg, hnc, hcm, hcs, ht⟩
  · exact ⟨none, 0, by rw [h0], by omega, by omega, fun hn => by omega⟩
  · have hcm' : cap ≤ 9223372036854775807 := by simpa [maxLen] using hcm
    refine ⟨_, _, rfl, hnc, hcm', fun hn => ⟨g, rfl, (Array.getElem?_eq_some_iff.1 hg).1, fun i j hi hj => ?_⟩⟩
    rw [← tokRow_at ts i j hi hj, ← ht, List.getElem?_take, if_pos (by omega), Array.getElem?_toList]
    simp [World.cell?, hg]

set_option maxHeartbeats 3200000 in
theorem all_any (l : List UInt8) (w : World) (hl : l.length ≤ 1000000000) :
    Calls Tryd.prog 10 #[.string ⟨l.toArray⟩] w fun e w' => (∃ v, e = .returned (.tuple #[v, .int .i64 (allP l).2]) ∧ Toks w' v (allP l).1) ∧ Ext w w' := by
  by_cases hbig : 8192 < l.length
  · have hP : Hid (allP l = ([], 4)) := Lib.hid (by rw [allP, if_pos hbig])
    go_enter Tryd.func10, Tryd.ntmps10
    go_wp2_with fail
    go_ret2
    exact ⟨⟨_, by rw [hP.out]; rfl, by rw [hP.out]; exact (OwnT.nil w 0).toks⟩, ext_refl w⟩
  · have hP : Hid (allP l = allL l (l.length + 1) 0 []) := Lib.hid (by rw [allP, if_neg hbig])
    have hd : decide (8192 < (l.length : Int)) = false := by simp; omega
    obtain ⟨i0, hi, hz0, hz1, hz2⟩ := info_parts infoT
    go_enter Tryd.func10, Tryd.ntmps10
    go_wp2_with fail
    go_loopw [4, 5] (fun v kv wr => ∃ (k f : Nat) (acc : List Tok), kv = .int .i64 k ∧ k ≤ l.length ∧ l.length - k < f ∧ acc.length ≤ k ∧ OwnT wr w.heap.size v acc ∧ Ext w wr ∧ allP l = allL l f k acc) (fun _ kv _ => l.length - (intOf kv).toNat)
    case atStart => exact ⟨0, l.length + 1, [], rfl, by omega, by omega, by simp, OwnT.nil _ _, ext_refl w, hP.out⟩
    case round =>
      obtain ⟨k, f, acc, rfl, hk, hf, hacc, hown, hb, hr⟩ := hrel
      obtain ⟨f, rfl⟩ : ∃ f', f = f' + 1 := ⟨f - 1, by omega⟩
      have HR : Hid (allP l = if (nextAt l k).2 ≠ 0 then ([], (nextAt l k).2) else if (nextAt l k).1.kind = 0 then (acc, 0) else allL l f (nextAt l k).1.upto.toNat (acc ++ [(nextAt l k).1])) := Lib.hid (hr.trans (by rw [allL]))
      have hne := nextAt_end l k hk
      have hnp : nextP l k = nextAt l k := by rw [nextP, if_neg (by omega), Int.toNat_natCast]
      clear hr
      go_wp2_with fail
      refine (next_tok l k _ hl (by omega) (by omega)).mono ?_
      rintro e w2 ⟨rfl, hw2⟩
      rw [hnp]
      have hR := HR.out
      obtain ⟨X, hX⟩ : ∃ X, nextAt l k = X := ⟨_, rfl⟩
      rw [hX] at hR hne ⊢
      obtain ⟨⟨tk, ts, tn, tf, tu⟩, er⟩ := X
      simp only [tokCells] at hR hne ⊢
      have HR2 := Lib.hid hR
      clear hR HR hX hnp
      by_cases her : er = 0
      · subst her
        by_cases htk : tk = 0
        · subst htk
          have hfin : Hid (allP l = (acc, 0)) := Lib.hid (by rw [HR2.out]; rfl)
          go_wp2_with fail
          go_ret2
          have hx : Ext w2 (w2.alloc (.cells #[.int .i64 0, .string ⟨ts.toArray⟩, .bool tn.neg, .string ⟨tn.digits.toArray⟩, .int .i64 tn.exp, .int .i64 tf, .int .i64 tu] 30)) := (ext_refl w2).alloc (Nat.le_refl _) _
          exact ⟨⟨_, by rw [hfin.out]; rfl, by rw [hfin.out]; exact ((hown.ext hw2).ext hx).toks⟩, ext_trans hb (ext_trans hw2 hx)⟩
        · have hfin : Hid (allP l = allL l f tu.toNat (acc ++ [⟨tk, ts, tn, tf, tu⟩])) := Lib.hid (by rw [HR2.out]; simp [htk])
          have hk0 : (tk == 0) = false := by simpa using htk
          rcases hne rfl with h | ⟨hu1, hu2, _⟩
          · exact absurd h htk
          obtain ⟨u, rfl⟩ : ∃ u : Nat, tu = u := ⟨tu.toNat, by omega⟩
          clear HR2 hne htk
          have hx2 : Ext w2 (w2.alloc (.cells #[.int .i64 tk, .string ⟨ts.toArray⟩, .bool tn.neg, .string ⟨tn.digits.toArray⟩, .int .i64 tn.exp, .int .i64 tf, .int .i64 u] 30)) := (ext_refl w2).alloc (Nat.le_refl _) _
          have hx3 : Ext w2 ((w2.alloc (.cells #[.int .i64 tk, .string ⟨ts.toArray⟩, .bool tn.neg, .string ⟨tn.digits.toArray⟩, .int .i64 tn.exp, .int .i64 tf, .int .i64 u] 30)).alloc (.cells #[.int .i64 tk, .string ⟨ts.toArray⟩, .bool tn.neg, .string ⟨tn.digits.toArray⟩, .int .i64 tn.exp, .int .i64 tf, .int .i64 u] 30)) := hx2.alloc (by simp) _
          have hq2 : ((w2.alloc (.cells #[.int .i64 tk, .string ⟨ts.toArray⟩, .bool tn.neg, .string ⟨tn.digits.toArray⟩, .int .i64 tn.exp, .int .i64 tf, .int .i64 u] 30)).alloc (.cells #[.int .i64 tk, .string ⟨ts.toArray⟩, .bool tn.neg, .string ⟨tn.digits.toArray⟩, .int .i64 tn.exp, .int .i64 tf, .int .i64 u] 30)).heap[w2.heap.size]? = some (.cells #[.int .i64 tk, .string ⟨ts.toArray⟩, .bool tn.neg, .string ⟨tn.digits.toArray⟩, .int .i64 tn.exp, .int .i64 tf, .int .i64 u] 30 (0, 0)) := by
            rw [Below.heap_alloc _ _ _ (by simp)]; exact heap_alloc_new _ _
          have hq3 : ((w2.alloc (.cells #[.int .i64 tk, .string ⟨ts.toArray⟩, .bool tn.neg, .string ⟨tn.digits.toArray⟩, .int .i64 tn.exp, .int .i64 tf, .int .i64 u] 30)).alloc (.cells #[.int .i64 tk, .string ⟨ts.toArray⟩, .bool tn.neg, .string ⟨tn.digits.toArray⟩, .int .i64 tn.exp, .int .i64 tf, .int .i64 u] 30)).heap[w2.heap.size + 1]? = some (.cells #[.int .i64 tk, .string ⟨ts.toArray⟩, .bool tn.neg, .string ⟨tn.digits.toArray⟩, .int .i64 tn.exp, .int .i64 tf, .int .i64 u] 30 (0, 0)) := by
            have := heap_alloc_new (w2.alloc (.cells #[.int .i64 tk, .string ⟨ts.toArray⟩, .bool tn.neg, .string ⟨tn.digits.toArray⟩, .int .i64 tn.exp, .int .i64 tf, .int .i64 u] 30)) (.cells #[.int .i64 tk, .string ⟨ts.toArray⟩, .bool tn.neg, .string ⟨tn.digits.toArray⟩, .int .i64 tn.exp, .int .i64 tf, .int .i64 u] 30)
            simpa using this
          have hown3 := (hown.ext hw2).ext hx3
          have hbs : w.heap.size ≤ ((w2.alloc (.cells #[.int .i64 tk, .string ⟨ts.toArray⟩, .bool tn.neg, .string ⟨tn.digits.toArray⟩, .int .i64 tn.exp, .int .i64 tf, .int .i64 u] 30)).alloc (.cells #[.int .i64 tk, .string ⟨ts.toArray⟩, .bool tn.neg, .string ⟨tn.digits.toArray⟩, .int .i64 tn.exp, .int .i64 tf, .int .i64 u] 30)).heap.size := by have := hb.size; have := hw2.size; simp; omega
          have hll : acc.length + 1 ≤ 1000000001 := by omega
          have HQ2 := Lib.hid hq2
          have HQ3 := Lib.hid hq3
          have HX3 := Lib.hid hx3
          clear hq2 hq3 hx2 hx3
          go_wp2_with (at_builtin; refine wpList_append_src _ rfl _ _ 23 23 rfl w.heap.size 30 i0 (.agg #[.int .i64 0, .string ⟨#[]⟩, .bool false, .string ⟨#[]⟩, .int .i64 0, .int .i64 0, .int .i64 0]) 7 72 Tryd.underlying23 hi hz0 hz1 hz2 rfl (by decide) _ _ _ rfl hown3 _ 1 (tokCells ⟨tk, ts, tn, tf, u⟩).toList rfl (Src.ofSlice _ Tryd.underlying23 ⟨w2.heap.size + 1, 0, none⟩ 1 1 _ rfl (cells_of_block HQ3.out) (tok_one _)) (by simp only [maxLen]; omega) (by omega) hbs ?_; intro v5 w5 hown5 hg5; (have hq5 : w5.heap[w2.heap.size]? = some (.cells #[.int .i64 tk, .string ⟨ts.toArray⟩, .bool tn.neg, .string ⟨tn.digits.toArray⟩, .int .i64 tn.exp, .int .i64 tf, .int .i64 u] 30 (0, 0)) := by rw [hg5.block w2.heap.size (by simp; omega) (fun e => by have := (hown.lt _ e.symm).2; have := hw2.size; omega)]; exact HQ2.out); have hc6 : w5.cell? ⟨w2.heap.size, 6, none⟩ = some (.int .i64 u) := (by rw [cell_of_cells hq5]; rfl); have hownT : OwnT w5 w.heap.size v5 (acc ++ [⟨tk, ts, tn, tf, u⟩]) := (by unfold OwnT; rw [tokRow_app, List.length_append]; exact hown5); obtain ⟨a5, c5, rfl⟩ := hownT.shape; have hE5 : Ext w w5 := (hb.trans ((hw2.trans (HX3.out.mono hw2.size)).mono hb.size)).trans (Below.ofGrown hg5 hown3 hbs); clear hown5 hg5 hq5)
          go_roundw
          case rel =>
            exact ⟨u, f, acc ++ [⟨tk, ts, tn, tf, u⟩], rfl, by omega, by omega, by simp; omega, by simpa using hownT, hE5, by rw [hfin.out, Int.toNat_natCast]⟩
          case measure => simp [intOf]; omega
      · have hfin : Hid (allP l = ([], er)) := Lib.hid (by rw [HR2.out, if_pos her])
        have he0 : (er != 0) = true := by simpa using her
        clear HR2 her hne
        go_wp2_with fail
        go_ret2
        have hx : Ext w2 (w2.alloc (.cells #[.int .i64 tk, .string ⟨ts.toArray⟩, .bool tn.neg, .string ⟨tn.digits.toArray⟩, .int .i64 tn.exp, .int .i64 tf, .int .i64 tu] 30)) := (ext_refl w2).alloc (Nat.le_refl _) _
        exact ⟨⟨_, by rw [hfin.out]; rfl, by rw [hfin.out]; exact (OwnT.nil w 0).toks.ext (ext_trans hb (ext_trans hw2 hx))⟩, ext_trans hb (ext_trans hw2 hx)⟩
end Go.Proofs.YtglcpfnfldaimaaDoor
