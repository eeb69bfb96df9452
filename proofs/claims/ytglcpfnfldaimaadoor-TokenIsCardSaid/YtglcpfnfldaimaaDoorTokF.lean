/- token: what Next does. -/
import Derived.Test.YtglcpfnfldaimaaDoorTokE
set_option linter.unusedVariables false
set_option linter.unusedSimpArgs false
set_option maxRecDepth 100000
namespace Orange
def isW (c : UInt8) : Bool := decide (c = 9) || decide (c = 10) || decide (c = 13) || decide (c = 32)
def Tok.zero : Tok := ⟨0, [], Num.zero, 0, 0⟩
theorem readP_keep (l : List UInt8) (t : Tok) : (readP l t).1.upto = t.upto := by
  unfold readP
  split
  · split <;> rfl
  split
  · rfl
  split <;> rfl
/-- the token at a place k, at most the text's length -/
def nextAt (l : List UInt8) (k : Nat) : Tok × Int :=
  let rest := (l.drop k).dropWhile isW
  let f : Int := (l.length : Int) - rest.length
  let t : Tok := ⟨0, [], Num.zero, f, f⟩
  if rest = [] then (t, 0)
  else
    let r := readP rest t
    if r.2.2 = 0 then ({ r.1 with upto := f + r.2.1 }, 0) else (Tok.zero, r.2.2)
def nextP (l : List UInt8) (n : Int) : Tok × Int := if n < 0 ∨ (l.length : Int) < n then (Tok.zero, 1) else nextAt l n.toNat
end Orange
namespace Go.Proofs.YtglcpfnfldaimaaDoor
open Go.RowKit Go.Mem Orange

theorem textL_le (q : UInt8) : ∀ (f : Nat) (b : List UInt8) (p : List UInt8 × Nat), textL q f b = some p → p.2 ≤ b.length := by
  intro f
  induction f with
  | zero => intro b p h; cases b <;> simp [textL] at h
  | succ f ih =>
    intro b p h
    cases b with
    | nil => simp [textL] at h
    | cons x t =>
      rw [textL] at h
      split at h
      · simp at h; subst h; simp
      split at h
      · cases h
      · cases hh : textL q f ((x :: t).drop (textC q (x :: t)).2) with
        | none => rw [hh] at h; cases h
        | some r =>
          rw [hh] at h
          simp at h
          subst h
          have := ih _ _ hh
          simp only [List.length_drop] at this
          have h3 : (textC q (x :: t)).2 ≤ (x :: t).length := textC_le q (x :: t)
          simp only; omega
theorem readP_le (l : List UInt8) (t : Tok) (h : 0 < l.length) : (readP l t).2.1 ≤ l.length := by
  unfold readP
  split
  · split
    · exact nameLen_le l
    · simp
  split
  · exact numLen_le true l
  split
  · show (textP l).2 ≤ l.length
    cases l with
    | nil => simp at h
    | cons q u =>
      simp only [textP]
      split
      · simp
      · rename_i p hp
        have := textL_le q _ _ _ hp
        simp; omega
  · exact signP_le l h
theorem white_w : (fun b => ([9, 10, 13, 32] : List UInt8).contains b) = isW := by
  funext b
  have h := u8f (p := fun n => ([9, 10, 13, 32] : List UInt8).contains (UInt8.ofNat n) == isW (UInt8.ofNat n)) (by decide +kernel) b
  rw [UInt8.ofNat_toNat, beq_iff_eq] at h
  exact h
theorem trimLeft_w (l : List UInt8) (w : World) :
    Calls Tryd.prog 21 #[.string ⟨l.toArray⟩, .string ⟨#[9, 10, 13, 32]⟩] w fun e w' => e = .returned (.string ⟨(l.dropWhile isW).toArray⟩) ∧ Ext w w' := by
  have := Any.strings_TrimLeft_laid Tryd.lays161 info116 ⟨l.toArray⟩ ⟨#[9, 10, 13, 32]⟩ w (by decide) (ascii_of_all (by decide))
  refine this.mono ?_
  rintro e w' ⟨rfl, h⟩
  refine ⟨?_, h⟩
  have e : Lib.trimLeftS l [9, 10, 13, 32] = l.dropWhile isW := by rw [← white_w]; rfl
  rw [← e]
theorem TokAt.new (w : World) (t : Tok) : TokAt (w.alloc (.cells (tokCells t) 30)) w.heap.size t := heap_alloc_new _ _
theorem TokAt.store {w : World} {p : Nat} {t0 : Tok} (h : TokAt w p t0) (t : Tok) : TokAt (((((((w.setCell ⟨p, 0, none⟩ (.int .i64 t.kind)).setCell ⟨p, 1, none⟩ (.string ⟨t.s.toArray⟩)).setCell ⟨p, 2, none⟩ (.bool t.n.neg)).setCell ⟨p, 3, none⟩ (.string ⟨t.n.digits.toArray⟩)).setCell ⟨p, 4, none⟩ (.int .i64 t.n.exp)).setCell ⟨p, 5, none⟩ (.int .i64 t.fr)).setCell ⟨p, 6, none⟩ (.int .i64 t.upto)) p t := by
  unfold TokAt at h ⊢
  simp [World.setCell, Array.getElem?_modify, h, tokCells]
theorem TokAt.set6 {w : World} {p : Nat} {t : Tok} (h : TokAt w p t) (k : Int) : TokAt (w.setCell ⟨p, 6, none⟩ (.int .i64 k)) p { t with upto := k } := by
  unfold TokAt at h ⊢; simp [World.setCell, Array.getElem?_modify, h, tokCells]
theorem below_store7 {B p : Nat} {w w' : World} (h : Below B w w') (hp : B ≤ p) (a b c d e f g : Value) : Below B w (((((((w'.setCell ⟨p, 0, none⟩ a).setCell ⟨p, 1, none⟩ b).setCell ⟨p, 2, none⟩ c).setCell ⟨p, 3, none⟩ d).setCell ⟨p, 4, none⟩ e).setCell ⟨p, 5, none⟩ f).setCell ⟨p, 6, none⟩ g) :=
  ((((((h.setCell hp a).setCell hp b).setCell hp c).setCell hp d).setCell hp e).setCell hp f).setCell hp g
theorem TokAt.setOther {w : World} {p q i : Nat} {t : Tok} (h : TokAt w p t) (hq : p ≠ q) (u : Value) : TokAt (w.setCell ⟨q, i, none⟩ u) p t := by
  unfold TokAt at h ⊢; rw [Below.heap_setCell _ _ _ _ hq]; exact h

set_option maxHeartbeats 3200000 in
theorem next_tok (l : List UInt8) (n : Int) (w : World) (hl : l.length ≤ 1000000000) (hn0 : -9223372036854775808 ≤ n) (hn1 : n ≤ 9223372036854775807) :
    Calls Tryd.prog 11 #[.string ⟨l.toArray⟩, .int .i64 n] w fun e w' => e = .returned (.tuple #[.agg (tokCells (nextP l n).1), .int .i64 (nextP l n).2]) ∧ Ext w w' := by
  have hr0 := TokAt.new w Tok.zero
  have hw0 : Ext w (w.alloc (.cells (tokCells Tok.zero) 30)) := (ext_refl w).alloc (Nat.le_refl _) _
  by_cases hbad : n < 0 ∨ (l.length : Int) < n
  · have hP : Hid (nextP l n = (Tok.zero, 1)) := Lib.hid (by rw [nextP, if_pos hbad])
    obtain ⟨c0, c1, c2, c3, c4, c5, c6⟩ := hr0.cells
    simp only [Tok.zero, Num.zero, tokCells] at c0 c1 c2 c3 c4 c5 c6 hw0
    rcases Int.lt_or_le n 0 with h | h
    · go_enter Tryd.func11, Tryd.ntmps11
      go_wp2_with fail
      exact bodyPost_ret (v := .tuple #[.agg #[.int .i64 0, .string ⟨#[]⟩, .bool false, .string ⟨#[]⟩, .int .i64 0, .int .i64 0, .int .i64 0], .int .i64 1]) (by simp [results, Tryd.results11, go_sem, c0, c1, c2, c3, c4, c5, c6]) rfl ⟨by rw [hP.out]; rfl, hw0⟩
    · have h2 : (l.length : Int) < n := by omega
      go_enter Tryd.func11, Tryd.ntmps11
      go_wp2_with fail
      exact bodyPost_ret (v := .tuple #[.agg #[.int .i64 0, .string ⟨#[]⟩, .bool false, .string ⟨#[]⟩, .int .i64 0, .int .i64 0, .int .i64 0], .int .i64 1]) (by simp [results, Tryd.results11, go_sem, c0, c1, c2, c3, c4, c5, c6]) rfl ⟨by rw [hP.out]; rfl, hw0⟩
  · obtain ⟨k, rfl⟩ : ∃ k : Nat, n = k := ⟨n.toNat, by omega⟩
    have hkl : k ≤ l.length := by omega
    have hP : nextP l k = nextAt l k := by rw [nextP, if_neg hbad, Int.toNat_natCast]
    have HP := Lib.hid hP
    have hxk := drop_ext l k l.length rfl
    clear hbad hP hn0 hn1
    obtain ⟨S, hS⟩ : ∃ S, l.drop k = S := ⟨_, rfl⟩
    have hSl : S.length ≤ l.length := by rw [← hS]; simp
    rw [hS] at hxk
    have HSd := Lib.hid hS
    clear hS
    simp only [Tok.zero, Num.zero, tokCells] at hw0
    go_enter Tryd.func11, Tryd.ntmps11
    go_wp2_with fail
    refine (trimLeft_w S _).mono ?_
    rintro e w1 ⟨rfl, hw1⟩
    have hr1 := hr0.ext hw1
    have hE1 : Ext w w1 := ext_trans hw0 hw1
    have hRl : (S.dropWhile isW).length ≤ l.length := Nat.le_trans (List.dropWhile_sublist (p := isW) (l := S)).length_le hSl
    obtain ⟨R, hR⟩ : ∃ R, S.dropWhile isW = R := ⟨_, rfl⟩
    rw [hR] at hRl ⊢
    have hrlt := hr1.lt
    have hNA : nextAt l k = if R = [] then ((⟨0, [], Num.zero, (l.length : Int) - R.length, (l.length : Int) - R.length⟩ : Tok), 0) else
        if (readP R ⟨0, [], Num.zero, (l.length : Int) - R.length, (l.length : Int) - R.length⟩).2.2 = 0 then (({ (readP R ⟨0, [], Num.zero, (l.length : Int) - R.length, (l.length : Int) - R.length⟩).1 with upto := ((l.length : Int) - R.length) + (readP R ⟨0, [], Num.zero, (l.length : Int) - R.length, (l.length : Int) - R.length⟩).2.1 } : Tok), 0)
        else (Tok.zero, (readP R ⟨0, [], Num.zero, (l.length : Int) - R.length, (l.length : Int) - R.length⟩).2.2) := by
      simp only [nextAt, HSd.out, hR]
    have HNA := Lib.hid hNA
    clear hNA hR hr0 hw0 hw1
    obtain ⟨f, hf⟩ : ∃ f : Int, (l.length : Int) - R.length = f := ⟨_, rfl⟩
    have hNA := HNA.out
    rw [hf] at hNA
    have hf0 : 0 ≤ f := by omega
    have hf1 : f ≤ 1000000000 := by omega
    have HNA2 := Lib.hid hNA
    clear HNA hNA
    obtain ⟨c0, c1, c2, c3, c4, c5, c6⟩ := hr1.cells
    simp only [Tok.zero, Num.zero] at c0 c1 c2 c3 c4 c5 c6
    have q0 := hr1.free 0
    have q1 := hr1.free 1
    have q2 := hr1.free 2
    have q3 := hr1.free 3
    have q4 := hr1.free 4
    have q5 := hr1.free 5
    have q6 := hr1.free 6
    by_cases hRe : R = []
    · subst hRe
      have hP2 : Hid (nextP l k = ((⟨0, [], Num.zero, f, f⟩ : Tok), 0)) := Lib.hid (by rw [HP.out, HNA2.out, if_pos rfl])
      simp only [List.length_nil, Int.natCast_zero, Int.sub_zero] at hf
      go_wp2_with fail
      have hx2 : ∀ W : World, Ext W (W.alloc (.cells #[.int .i64 0, .string ⟨#[]⟩, .bool false, .string ⟨#[]⟩, .int .i64 0, .int .i64 f, .int .i64 f] 30)) := fun W => (ext_refl W).alloc (Nat.le_refl _) _
      have hsz1 := hE1.size
      have hN := ((hr1.store ⟨0, [], Num.zero, f, f⟩).ext (hx2 _)).cells
      simp only [Tok.zero, Num.zero] at hN
      obtain ⟨d0, d1, d2, d3, d4, d5, d6⟩ := hN
      exact bodyPost_ret (v := .tuple #[.agg #[.int .i64 0, .string ⟨#[]⟩, .bool false, .string ⟨#[]⟩, .int .i64 0, .int .i64 f, .int .i64 f], .int .i64 0]) (by simp [results, Tryd.results11, go_sem, d0, d1, d2, d3, d4, d5, d6]) rfl ⟨by rw [hP2.out]; rfl, (below_store7 hE1 (Nat.le_refl _) _ _ _ _ _ _ _).trans ((hx2 _).mono (by simp only [World.setCell, Array.size_modify]; omega))⟩
    · have hRi : R.isEmpty = false := by simpa using hRe
      have hR0 : 0 < R.length := by cases R with | nil => exact absurd rfl hRe | cons _ _ => simp
      have hP3 : nextP l k = _ := HP.out.trans (HNA2.out.trans (if_neg hRe))
      have HP3 := Lib.hid hP3
      clear hP3 HNA2 hRe
      have ht2 := TokAt.new w1 ⟨0, [], Num.zero, f, f⟩
      have hx2 : Ext w1 (w1.alloc (.cells #[.int .i64 0, .string ⟨#[]⟩, .bool false, .string ⟨#[]⟩, .int .i64 0, .int .i64 f, .int .i64 f] 30)) := (ext_refl w1).alloc (Nat.le_refl _) _
      simp only [tokCells, Num.zero] at ht2
      have ht3 : TokAt (w1.alloc (.cells #[.int .i64 0, .string ⟨#[]⟩, .bool false, .string ⟨#[]⟩, .int .i64 0, .int .i64 f, .int .i64 f] 30)) w1.heap.size ⟨0, [], Num.zero, f, f⟩ := ht2
      clear ht2
      go_wp2_with fail
      generalize w1.alloc (.cells #[.int .i64 0, .string ⟨#[]⟩, .bool false, .string ⟨#[]⟩, .int .i64 0, .int .i64 f, .int .i64 f] 30) = w2 at *
      have hr2 := hr1.ext hx2
      refine (read_any w1.heap.size ⟨0, [], Num.zero, f, f⟩ R _ ht3 hR0 (by omega)).mono ?_
      rintro e w3 ⟨rfl, ht4, hk⟩
      have hr3 := hr2.kept hk (by have := ht3.lt; omega) (by omega)
      have hE3 : Ext w w3 := ext_trans hE1 hx2 |>.trans ((hk.mono (show w.heap.size ≤ w2.heap.size by have := ht3.lt; omega)).below (by omega))
      have hne : w.heap.size ≠ w1.heap.size := by omega
      have hle1 : w.heap.size ≤ w1.heap.size := by omega
      have hrn := readP_le R ⟨0, [], Num.zero, f, f⟩ hR0
      have hrf : (readP R ⟨0, [], Num.zero, f, f⟩).1.upto = f := by rw [readP_keep]
      obtain ⟨X, hX⟩ : ∃ X, readP R ⟨0, [], Num.zero, f, f⟩ = X := ⟨_, rfl⟩
      have hP4 := HP3.out
      rw [hX] at hP4 ht4 hrn hrf ⊢
      obtain ⟨⟨tk, ts, tn, tf, tu⟩, n, er⟩ := X
      simp only at hP4 ht4 hrn hrf ⊢
      subst hrf
      have HP4 := Lib.hid hP4
      clear hP4 HP3 hX hk hx2 hr2 hr1 ht3 c0 c1 c2 c3 c4 c5 c6 q0 q1 q2 q3 q4 q5 q6
      obtain ⟨c0, c1, c2, c3, c4, c5, c6⟩ := hr3.cells
      have q0 := hr3.free 0
      have q1 := hr3.free 1
      have q2 := hr3.free 2
      have q3 := hr3.free 3
      have q4 := hr3.free 4
      have q5 := hr3.free 5
      have q6 := hr3.free 6
      obtain ⟨b0, b1, b2, b3, b4, b5, b6⟩ := ht4.cells
      have p6 := ht4.free 6
      simp only [Tok.zero, Num.zero] at c0 c1 c2 c3 c4 c5 c6 b0 b1 b2 b3 b4 b5 b6
      by_cases her : er = 0
      · subst her
        have hP5 : Hid (nextP l k = ((⟨tk, ts, tn, tf, tu + n⟩ : Tok), 0)) := Lib.hid (by rw [HP4.out, if_pos rfl])
        clear HP4
        go_wp2_with fail
        have hN := ((hr3.setOther (i := 6) hne (.int .i64 (tu + n))).store ⟨tk, ts, tn, tf, tu + n⟩).cells
        simp only at hN
        obtain ⟨d0, d1, d2, d3, d4, d5, d6⟩ := hN
        exact bodyPost_ret (v := .tuple #[.agg #[.int .i64 tk, .string ⟨ts.toArray⟩, .bool tn.neg, .string ⟨tn.digits.toArray⟩, .int .i64 tn.exp, .int .i64 tf, .int .i64 (tu + n)], .int .i64 0]) (by simp [results, Tryd.results11, go_sem, d0, d1, d2, d3, d4, d5, d6]) rfl ⟨by rw [hP5.out]; rfl, below_store7 (hE3.setCell hle1 _) (Nat.le_refl _) _ _ _ _ _ _ _⟩
      · have hP5 : Hid (nextP l k = (Tok.zero, er)) := Lib.hid (by rw [HP4.out, if_neg her])
        have he0 : (er != 0) = true := by simpa using her
        clear HP4 her
        go_wp2_with fail
        have hN := (hr3.store Tok.zero).cells
        simp only [Tok.zero, Num.zero] at hN
        obtain ⟨d0, d1, d2, d3, d4, d5, d6⟩ := hN
        exact bodyPost_ret (v := .tuple #[.agg #[.int .i64 0, .string ⟨#[]⟩, .bool false, .string ⟨#[]⟩, .int .i64 0, .int .i64 0, .int .i64 0], .int .i64 er]) (by simp [results, Tryd.results11, go_sem, d0, d1, d2, d3, d4, d5, d6]) rfl ⟨by rw [hP5.out]; rfl, below_store7 hE3 (Nat.le_refl _) _ _ _ _ _ _ _⟩
end Go.Proofs.YtglcpfnfldaimaaDoor
