/- token: what read does. -/
import Derived.Test.YtglcpfnfldaimaaDoorTokD
import Derived.Test.YtglcpfnfldaimaaDoorDecC
set_option linter.unusedVariables false
set_option linter.unusedSimpArgs false
set_option maxRecDepth 100000
namespace Orange
structure Tok where
  kind : Int
  s : List UInt8
  n : Num
  fr : Int
  upto : Int
deriving DecidableEq
def isNumHead (l : List UInt8) : Bool := isDig (l.headD 0) || (decide (l.headD 0 = 45) && decide (1 < l.length) && isDig ((l.drop 1).headD 0))
/-- the token that a text begins with: what is laid into the token, how long it is, and the error's number -/
def readP (l : List UInt8) (t : Tok) : Tok × Nat × Int :=
  if letterR ((l.headD 0).toNat : Int) then
    (if nameOk l then ({ t with kind := 1, s := l.take (nameLen l) }, nameLen l, if nameLen l = 0 then 2 else 0) else (t, 0, 2))
  else if isNumHead l then ({ t with kind := 3, n := (decP (l.take (numLen true l))).1 }, numLen true l, if (decP (l.take (numLen true l))).2 = 0 ∧ numLen true l = 0 then 2 else (decP (l.take (numLen true l))).2)
  else if l.headD 0 = 39 ∨ l.headD 0 = 34 then ({ t with kind := 2, s := (textP l).1 }, (textP l).2, if (textP l).2 = 0 then 2 else 0)
  else ({ t with kind := 4, s := l.take (signP l) }, signP l, if signP l = 0 then 2 else 0)
end Orange
namespace Go.Proofs.YtglcpfnfldaimaaDoor
open Go.RowKit Go.Mem Orange

theorem signP_le (l : List UInt8) (h : 0 < l.length) : signP l ≤ l.length := by
  unfold signP
  split
  · rename_i h2
    simp only [isTwo, twosL, List.any_cons, List.any_nil, Bool.or_false, Bool.or_eq_true] at h2
    have hp : ∀ p : List UInt8, p.length = 2 → p.isPrefixOf l = true → 2 ≤ l.length := fun p hp h => by
      have := (List.isPrefixOf_iff_prefix.1 h).length_le; omega
    rcases h2 with h | h | h | h | h | h | h | h <;> exact hp _ rfl h
  · split <;> omega
def tokCells (t : Tok) : Array Value := #[.int .i64 t.kind, .string ⟨t.s.toArray⟩, .bool t.n.neg, .string ⟨t.n.digits.toArray⟩, .int .i64 t.n.exp, .int .i64 t.fr, .int .i64 t.upto]
def TokAt (w : World) (p : Nat) (t : Tok) : Prop := w.heap[p]? = some (.cells (tokCells t) 30 (0, 0))
theorem TokAt.lt {w : World} {p : Nat} {t : Tok} (h : TokAt w p t) : p < w.heap.size := (Array.getElem?_eq_some_iff.1 h).1
theorem TokAt.cells {w : World} {p : Nat} {t : Tok} (h : TokAt w p t) : w.cell? ⟨p, 0, none⟩ = some (.int .i64 t.kind) ∧ w.cell? ⟨p, 1, none⟩ = some (.string ⟨t.s.toArray⟩) ∧ w.cell? ⟨p, 2, none⟩ = some (.bool t.n.neg) ∧ w.cell? ⟨p, 3, none⟩ = some (.string ⟨t.n.digits.toArray⟩) ∧ w.cell? ⟨p, 4, none⟩ = some (.int .i64 t.n.exp) ∧ w.cell? ⟨p, 5, none⟩ = some (.int .i64 t.fr) ∧ w.cell? ⟨p, 6, none⟩ = some (.int .i64 t.upto) :=
  ⟨by rw [cell_of_cells h]; rfl, by rw [cell_of_cells h]; rfl, by rw [cell_of_cells h]; rfl, by rw [cell_of_cells h]; rfl, by rw [cell_of_cells h]; rfl, by rw [cell_of_cells h]; rfl, by rw [cell_of_cells h]; rfl⟩
theorem TokAt.free {w : World} {p : Nat} {t : Tok} (h : TokAt w p t) (i : Nat) : w.frozen? ⟨p, i, none⟩ = false := free_of_cells h
theorem TokAt.ext {w w' : World} {p : Nat} {t : Tok} (h : TokAt w p t) (hb : Ext w w') : TokAt w' p t := by unfold TokAt; rw [hb.block _ h.lt]; exact h
theorem TokAt.kept {w w' : World} {B p q : Nat} {t : Tok} (h : TokAt w p t) (hb : Kept B q w w') (hB : p < B) (hq : p ≠ q) : TokAt w' p t := by unfold TokAt; rw [hb.block _ hB hq]; exact h
theorem TokAt.drewN {w : World} {p : Nat} {t : Tok} (h : TokAt w p t) (n : Nat) : TokAt (w.drewN n) p t := h
theorem TokAt.set0 {w : World} {p : Nat} {t : Tok} (h : TokAt w p t) (k : Int) : TokAt (w.setCell ⟨p, 0, none⟩ (.int .i64 k)) p { t with kind := k } := by
  unfold TokAt at h ⊢; simp [World.setCell, Array.getElem?_modify, h, tokCells]
theorem TokAt.set1 {w : World} {p : Nat} {t : Tok} (h : TokAt w p t) (s : List UInt8) : TokAt (w.setCell ⟨p, 1, none⟩ (.string ⟨s.toArray⟩)) p { t with s := s } := by
  unfold TokAt at h ⊢; simp [World.setCell, Array.getElem?_modify, h, tokCells]
theorem TokAt.setN {w : World} {p : Nat} {t : Tok} (h : TokAt w p t) (n : Num) : TokAt (((w.setCell ⟨p, 2, none⟩ (.bool n.neg)).setCell ⟨p, 3, none⟩ (.string ⟨n.digits.toArray⟩)).setCell ⟨p, 4, none⟩ (.int .i64 n.exp)) p { t with n := n } := by
  unfold TokAt at h ⊢; simp [World.setCell, Array.getElem?_modify, h, tokCells]

set_option maxHeartbeats 3200000 in
theorem read_any (p : Nat) (t : Tok) (l : List UInt8) (w : World) (h : TokAt w p t) (h0 : 0 < l.length) (hl : l.length ≤ 1000000000) :
    Calls Tryd.prog 22 #[.pointer (some ⟨p, 0, none⟩), .string ⟨l.toArray⟩] w fun e w' => e = .returned (.tuple #[.int .i64 (readP l t).2.1, .int .i64 (readP l t).2.2]) ∧ TokAt w' p (readP l t).1 ∧ Kept w.heap.size p w w' := by
  obtain ⟨c, u, rfl⟩ : ∃ c u, l = c :: u := by cases l with | nil => simp at h0 | cons c u => exact ⟨c, u, rfl⟩
  have h0g := get0 c u
  have hR : readP (c :: u) t = if letterR (c.toNat : Int) then
    (if nameOk (c :: u) then ({ t with kind := 1, s := (c :: u).take (nameLen (c :: u)) }, nameLen (c :: u), if nameLen (c :: u) = 0 then 2 else 0) else (t, 0, 2))
    else if isNumHead (c :: u) then ({ t with kind := 3, n := (decP ((c :: u).take (numLen true (c :: u)))).1 }, numLen true (c :: u), if (decP ((c :: u).take (numLen true (c :: u)))).2 = 0 ∧ numLen true (c :: u) = 0 then 2 else (decP ((c :: u).take (numLen true (c :: u)))).2)
    else if c = 39 ∨ c = 34 then ({ t with kind := 2, s := (textP (c :: u)).1 }, (textP (c :: u)).2, if (textP (c :: u)).2 = 0 then 2 else 0)
    else ({ t with kind := 4, s := (c :: u).take (signP (c :: u)) }, signP (c :: u), if signP (c :: u) = 0 then 2 else 0) := rfl
  have HR := Lib.hid hR
  have hc8 : c.toNat < 256 := c.toNat_lt
  clear hR
  have hlen : 0 < (c :: u).length := h0
  go_enter Tryd.func22, Tryd.ntmps22
  go_wp2_with fail
  refine (letter_any _ _).mono ?_
  rintro e w1 ⟨rfl, rfl⟩
  cases hlt : letterR (c.toNat : Int) with
  | true =>
    go_wp2_with fail
    refine (name_any (c :: u) _ hl).mono ?_
    rintro e w2 ⟨rfl, hw2⟩
    have hnle := nameLen_le (c :: u)
    have hxt := take_ext (c :: u) (nameLen (c :: u))
    obtain ⟨n, hn⟩ : ∃ n, nameLen (c :: u) = n := ⟨_, rfl⟩
    rw [hn] at hnle hxt ⊢
    cases hok : nameOk (c :: u) with
    | false =>
      have hR : Hid (readP (c :: u) t = (t, 0, 2)) := Lib.hid (by rw [HR.out, if_pos hlt, if_neg (by rw [hok]; decide)])
      go_wp2_with fail
      go_ret2
      exact ⟨by rw [hR.out]; rfl, by rw [hR.out]; exact h.ext hw2, Kept.ofBelow hw2⟩
    | true =>
      have hR : Hid (readP (c :: u) t = ({ t with kind := 1, s := (c :: u).take n }, n, if n = 0 then 2 else 0)) := Lib.hid (by rw [HR.out, if_pos hlt, if_pos hok, hn])
      have hp2 := h.ext hw2
      obtain ⟨c0, c1, c2, c3, c4, c5, c6⟩ := hp2.cells
      have f0 := hp2.free 0
      have f1 := hp2.free 1
      clear hlt hok hn HR
      have hlenu : (c :: u).length = u.length + 1 := rfl
      rw [hlenu] at hnle
      have hmn : n ≤ u.length + 1 := hnle
      go_wp2_with fail
      go_region
      have hA := ((hp2.set0 1).set1 ((c :: u).take n))
      have hK : Kept w.heap.size p w (((w2.setCell ⟨p, 0, none⟩ (.int .i64 1)).setCell ⟨p, 1, none⟩ (.string ⟨((c :: u).take n).toArray⟩)).drew) :=
        (((Kept.ofBelow hw2).trans (Kept.setCell _)).trans (Kept.setCell _)).trans (Kept.ofBelow ((Below.refl _ _).drew))
      clear c0 c1 c2 c3 c4 c5 c6 f0 f1
      by_cases hz : n = 0
      · have hR2 : Hid (readP (c :: u) t = ({ t with kind := 1, s := (c :: u).take n }, n, 2)) := Lib.hid (by rw [hR.out, if_pos hz])
        have hz0 : ((n : Int) == 0) = true := by simp [hz]
        have HZ := Lib.hid hz
        clear hz hR
        go_wp2_with fail
        go_ret2
        exact ⟨by rw [hR2.out]; rfl, by rw [hR2.out]; exact hA, hK⟩
      · have hR2 : Hid (readP (c :: u) t = ({ t with kind := 1, s := (c :: u).take n }, n, 0)) := Lib.hid (by rw [hR.out, if_neg hz])
        have hz0 : ((n : Int) == 0) = false := by simp; omega
        clear hz hR
        go_wp2_with fail
        go_ret2
        exact ⟨by rw [hR2.out]; rfl, by rw [hR2.out]; exact hA, hK⟩
  | false =>
    have HR1 : Hid (readP (c :: u) t = _) := Lib.hid (by rw [HR.out, if_neg (by rw [hlt]; decide)])
    clear HR hlt
    have hlenu : (c :: u).length = u.length + 1 := rfl
    have hnh : isNumHead (c :: u) = (isDig c || (decide (c = 45) && decide (1 < u.length + 1) && isDig (u.headD 0))) := rfl
    have HNH := Lib.hid hnh
    clear hnh
    go_wp2_with fail
    refine (digit_any c _).mono ?_
    rintro e w1 ⟨rfl, rfl⟩
    cases hD : isDig c with
    | true =>
      have hnum : isNumHead (c :: u) = true := by rw [HNH.out, hD]; rfl
      have HR2 : Hid (readP (c :: u) t = _) := Lib.hid (by rw [HR1.out, if_pos hnum])
      clear hnum HR1 HNH
      go_wp2_with fail
      refine (number_any (c :: u) _ hl).mono ?_
      rintro e w2 ⟨rfl, rfl⟩
      have hnle := numLen_le true (c :: u)
      have hxt := take_ext (c :: u) (numLen true (c :: u))
      obtain ⟨n, hn⟩ : ∃ n, numLen true (c :: u) = n := ⟨_, rfl⟩
      rw [hn] at hnle hxt ⊢
      have hR3 := HR2.out
      rw [hn] at hR3
      obtain ⟨X, hX⟩ : ∃ X, (c :: u).take n = X := ⟨_, rfl⟩
      rw [hX] at hR3 hxt
      have hXl : X.length ≤ 1000000000 := by rw [← hX]; simp; omega
      have HR3 := Lib.hid hR3
      clear hR3 hX hn HR2
      have hmn : n ≤ (c :: u).length := hnle
      simp only [List.length_cons] at hmn hnle
      obtain ⟨c0, c1, c2, c3, c4, c5, c6⟩ := h.cells
      have f0 := h.free 0
      go_wp2_with fail
      refine (parse_any X _ (by omega)).mono ?_
      rintro e w3 ⟨rfl, hw3⟩
      have hR4 := HR3.out
      obtain ⟨D, hDP⟩ : ∃ D, decP X = D := ⟨_, rfl⟩
      rw [hDP] at hR4 ⊢
      clear hDP HR3
      obtain ⟨⟨fn, fd, fe⟩, er⟩ := D
      simp only at hR4 ⊢
      have HR4 := Lib.hid hR4
      clear hR4
      have hA3 := (h.set0 3).ext hw3
      have hK3 : Kept w.heap.size p w w3 := (Kept.setCell (B := w.heap.size) _).trans (Kept.ofBelow (hw3.mono (by simp [World.setCell])))
      clear c0 c1 c2 c3 c4 c5 c6 f0
      obtain ⟨c0, c1, c2, c3, c4, c5, c6⟩ := hA3.cells
      have f2 := hA3.free 2
      have f3 := hA3.free 3
      have f4 := hA3.free 4
      by_cases her : er = 0
      · subst her
        by_cases hz : n = 0
        · have hR2 : Hid (readP (c :: u) t = (_, _, 2)) := Lib.hid (HR4.out.trans (by rw [if_pos ⟨rfl, hz⟩]))
          have hz0 : ((n : Int) == 0) = true := by simp [hz]
          have HZ := Lib.hid hz
          clear hz HR4
          go_wp2_with fail
          go_ret2
          exact ⟨by rw [hR2.out]; rfl, by rw [hR2.out]; exact hA3.setN ⟨fn, fd, fe⟩, ((hK3.trans (Kept.setCell _)).trans (Kept.setCell _)).trans (Kept.setCell _)⟩
        · have hR2 : Hid (readP (c :: u) t = (_, _, 0)) := Lib.hid (HR4.out.trans (by rw [if_neg (fun h => hz h.2)]))
          have hz0 : ((n : Int) == 0) = false := by simp; omega
          clear hz HR4
          go_wp2_with fail
          go_ret2
          exact ⟨by rw [hR2.out]; rfl, by rw [hR2.out]; exact hA3.setN ⟨fn, fd, fe⟩, ((hK3.trans (Kept.setCell _)).trans (Kept.setCell _)).trans (Kept.setCell _)⟩
      · have hR2 : Hid (readP (c :: u) t = (_, _, er)) := Lib.hid (HR4.out.trans (by rw [if_neg (fun h => her h.1)]))
        have hz0 : (er == 0) = false := by simpa using her
        clear her HR4
        go_wp2_with fail
        go_ret2
        exact ⟨by rw [hR2.out]; rfl, by rw [hR2.out]; exact hA3.setN ⟨fn, fd, fe⟩, ((hK3.trans (Kept.setCell _)).trans (Kept.setCell _)).trans (Kept.setCell _)⟩
    | false =>
      by_cases h45 : c.toNat = 45
      · have hc45 : Hid (c = 45) := Lib.hid (UInt8.toNat_inj.1 h45)
        cases u with
        | nil =>
          have hnum : Hid (isNumHead [c] = false) := Lib.hid (by rw [HNH.out, hD]; simp)
          have HS : Hid (readP [c] t = _) := Lib.hid (by rw [HR1.out, if_neg (by rw [hnum.out]; decide), if_neg (by rw [hc45.out]; decide)])
          clear HR1 HNH hnum
          go_wp2_with fail
          refine (sign_any ([c]) _ h0 hl).mono ?_
          rintro e w2 ⟨rfl, hw2⟩
          have hnle := signP_le ([c]) h0
          have hxt := take_ext ([c]) (signP ([c]))
          have hR3 := HS.out
          obtain ⟨n, hn⟩ : ∃ n, signP ([c]) = n := ⟨_, rfl⟩
          rw [hn] at hnle hxt hR3 ⊢
          have hRR := Lib.hid hR3
          clear hR3 hn HS
          have hmn : n ≤ ([c]).length := hnle
          simp only [List.length_cons, List.length_nil] at hmn hnle
          have hmi : (n : Int) ≤ 1 := by omega
          have hmi2 : n ≤ 1 := by omega
          have hp2 := h.ext hw2
          obtain ⟨c0, c1, c2, c3, c4, c5, c6⟩ := hp2.cells
          have f0 := hp2.free 0
          have f1 := hp2.free 1
          go_wp2_with fail
          go_region
          have hA := ((hp2.set0 4).set1 (([c]).take n))
          have hK : Kept w.heap.size p w (((w2.setCell ⟨p, 0, none⟩ (.int .i64 4)).setCell ⟨p, 1, none⟩ (.string ⟨(([c]).take n).toArray⟩)).drew) :=
            (((Kept.ofBelow hw2).trans (Kept.setCell _)).trans (Kept.setCell _)).trans (Kept.ofBelow ((Below.refl _ _).drew))
          clear c0 c1 c2 c3 c4 c5 c6 f0 f1
          by_cases hz : n = 0
          · have hR2 := Lib.hid (hRR.out.trans (by rw [if_pos hz]))
            have hz0 : ((n : Int) == 0) = true := by simp [hz]
            have HZ := Lib.hid hz
            clear hz
            go_wp2_with fail
            go_ret2
            exact ⟨by rw [hR2.out]; rfl, by rw [hR2.out]; exact hA, hK⟩
          · have hR2 := Lib.hid (hRR.out.trans (by rw [if_neg hz]))
            have hz0 : ((n : Int) == 0) = false := by simp; omega
            clear hz
            go_wp2_with fail
            go_ret2
            exact ⟨by rw [hR2.out]; rfl, by rw [hR2.out]; exact hA, hK⟩
        | cons d v =>
          have hg1 : (ByteArray.mk (c :: d :: v).toArray)[1]'(by show 1 < (c :: d :: v).toArray.size; simp) = d := rfl
          have hdt : decide ((1 : Int) < v.length + 1 + 1) = true := by simp; omega
          go_wp2_with fail
          refine (digit_any d _).mono ?_
          rintro e w1 ⟨rfl, rfl⟩
          cases hD2 : isDig d with
          | true =>
            have HR2 : Hid (readP (c :: d :: v) t = _) := Lib.hid (by rw [HR1.out, if_pos (by rw [HNH.out, hD, hc45.out]; simp [hD2])])
            clear HR1 HNH
            go_wp2_with fail
            refine (number_any (c :: d :: v) _ hl).mono ?_
            rintro e w2 ⟨rfl, rfl⟩
            have hnle := numLen_le true (c :: d :: v)
            have hxt := take_ext (c :: d :: v) (numLen true (c :: d :: v))
            obtain ⟨n, hn⟩ : ∃ n, numLen true (c :: d :: v) = n := ⟨_, rfl⟩
            rw [hn] at hnle hxt ⊢
            have hR3 := HR2.out
            rw [hn] at hR3
            obtain ⟨X, hX⟩ : ∃ X, (c :: d :: v).take n = X := ⟨_, rfl⟩
            rw [hX] at hR3 hxt
            have hXl : X.length ≤ 1000000000 := by rw [← hX]; simp; omega
            have HR3 := Lib.hid hR3
            clear hR3 hX hn HR2
            have hmn : n ≤ (c :: d :: v).length := hnle
            simp only [List.length_cons] at hmn hnle
            obtain ⟨c0, c1, c2, c3, c4, c5, c6⟩ := h.cells
            have f0 := h.free 0
            go_wp2_with fail
            refine (parse_any X _ (by omega)).mono ?_
            rintro e w3 ⟨rfl, hw3⟩
            have hR4 := HR3.out
            obtain ⟨D, hDP⟩ : ∃ D, decP X = D := ⟨_, rfl⟩
            rw [hDP] at hR4 ⊢
            clear hDP HR3
            obtain ⟨⟨fn, fd, fe⟩, er⟩ := D
            simp only at hR4 ⊢
            have HR4 := Lib.hid hR4
            clear hR4
            have hA3 := (h.set0 3).ext hw3
            have hK3 : Kept w.heap.size p w w3 := (Kept.setCell (B := w.heap.size) _).trans (Kept.ofBelow (hw3.mono (by simp [World.setCell])))
            clear c0 c1 c2 c3 c4 c5 c6 f0
            obtain ⟨c0, c1, c2, c3, c4, c5, c6⟩ := hA3.cells
            have f2 := hA3.free 2
            have f3 := hA3.free 3
            have f4 := hA3.free 4
            by_cases her : er = 0
            · subst her
              by_cases hz : n = 0
              · have hR2 : Hid (readP (c :: d :: v) t = (_, _, 2)) := Lib.hid (HR4.out.trans (by rw [if_pos ⟨rfl, hz⟩]))
                have hz0 : ((n : Int) == 0) = true := by simp [hz]
                have HZ := Lib.hid hz
                clear hz HR4
                go_wp2_with fail
                go_ret2
                exact ⟨by rw [hR2.out]; rfl, by rw [hR2.out]; exact hA3.setN ⟨fn, fd, fe⟩, ((hK3.trans (Kept.setCell _)).trans (Kept.setCell _)).trans (Kept.setCell _)⟩
              · have hR2 : Hid (readP (c :: d :: v) t = (_, _, 0)) := Lib.hid (HR4.out.trans (by rw [if_neg (fun h => hz h.2)]))
                have hz0 : ((n : Int) == 0) = false := by simp; omega
                clear hz HR4
                go_wp2_with fail
                go_ret2
                exact ⟨by rw [hR2.out]; rfl, by rw [hR2.out]; exact hA3.setN ⟨fn, fd, fe⟩, ((hK3.trans (Kept.setCell _)).trans (Kept.setCell _)).trans (Kept.setCell _)⟩
            · have hR2 : Hid (readP (c :: d :: v) t = (_, _, er)) := Lib.hid (HR4.out.trans (by rw [if_neg (fun h => her h.1)]))
              have hz0 : (er == 0) = false := by simpa using her
              clear her HR4
              go_wp2_with fail
              go_ret2
              exact ⟨by rw [hR2.out]; rfl, by rw [hR2.out]; exact hA3.setN ⟨fn, fd, fe⟩, ((hK3.trans (Kept.setCell _)).trans (Kept.setCell _)).trans (Kept.setCell _)⟩
          | false =>
            have hnum : Hid (isNumHead (c :: d :: v) = false) := Lib.hid (by rw [HNH.out, hD]; simp [hD2])
            have HS : Hid (readP (c :: d :: v) t = _) := Lib.hid (by rw [HR1.out, if_neg (by rw [hnum.out]; decide), if_neg (by rw [hc45.out]; decide)])
            clear HR1 HNH hnum
            go_wp2_with fail
            refine (sign_any (c :: d :: v) _ h0 hl).mono ?_
            rintro e w2 ⟨rfl, hw2⟩
            have hnle := signP_le (c :: d :: v) h0
            have hxt := take_ext (c :: d :: v) (signP (c :: d :: v))
            have hR3 := HS.out
            obtain ⟨n, hn⟩ : ∃ n, signP (c :: d :: v) = n := ⟨_, rfl⟩
            rw [hn] at hnle hxt hR3 ⊢
            have hRR := Lib.hid hR3
            clear hR3 hn HS
            have hmn : n ≤ (c :: d :: v).length := hnle
            simp only [List.length_cons, List.length_nil] at hmn hnle
            have hp2 := h.ext hw2
            obtain ⟨c0, c1, c2, c3, c4, c5, c6⟩ := hp2.cells
            have f0 := hp2.free 0
            have f1 := hp2.free 1
            go_wp2_with fail
            go_region
            have hA := ((hp2.set0 4).set1 ((c :: d :: v).take n))
            have hK : Kept w.heap.size p w (((w2.setCell ⟨p, 0, none⟩ (.int .i64 4)).setCell ⟨p, 1, none⟩ (.string ⟨((c :: d :: v).take n).toArray⟩)).drew) :=
              (((Kept.ofBelow hw2).trans (Kept.setCell _)).trans (Kept.setCell _)).trans (Kept.ofBelow ((Below.refl _ _).drew))
            clear c0 c1 c2 c3 c4 c5 c6 f0 f1
            by_cases hz : n = 0
            · have hR2 := Lib.hid (hRR.out.trans (by rw [if_pos hz]))
              have hz0 : ((n : Int) == 0) = true := by simp [hz]
              have HZ := Lib.hid hz
              clear hz
              go_wp2_with fail
              go_ret2
              exact ⟨by rw [hR2.out]; rfl, by rw [hR2.out]; exact hA, hK⟩
            · have hR2 := Lib.hid (hRR.out.trans (by rw [if_neg hz]))
              have hz0 : ((n : Int) == 0) = false := by simp; omega
              clear hz
              go_wp2_with fail
              go_ret2
              exact ⟨by rw [hR2.out]; rfl, by rw [hR2.out]; exact hA, hK⟩
      · have q45 : ((c.toNat : Int) == 45) = false := by simp; omega
        have hnum : Hid (isNumHead (c :: u) = false) := Lib.hid (by
          rw [HNH.out, hD]
          have : decide (c = 45) = false := by simp [← UInt8.toNat_inj]; exact h45
          rw [this]; rfl)
        have HR2 : Hid (readP (c :: u) t = _) := Lib.hid (by rw [HR1.out, if_neg (by rw [hnum.out]; decide)])
        clear HR1 HNH hnum h45
        by_cases h39 : c.toNat = 39
        · have HT : Hid (readP (c :: u) t = _) := Lib.hid (by rw [HR2.out, if_pos (.inl (UInt8.toNat_inj.1 h39))])
          obtain ⟨c0, c1, c2, c3, c4, c5, c6⟩ := h.cells
          have f0 := h.free 0
          clear HR2
          go_wp2_with fail
          refine (text_any (c :: u) _ hl h0).mono ?_
          rintro e w2 ⟨rfl, hw2⟩
          have hR3 := HT.out
          obtain ⟨X, hX⟩ : ∃ X, textP (c :: u) = X := ⟨_, rfl⟩
          rw [hX] at hR3 ⊢
          obtain ⟨tx, n⟩ := X
          simp only at hR3 ⊢
          have hRR := Lib.hid hR3
          clear hR3 hX HT
          have hp2 := (h.set0 2).ext hw2
          have hK2 : Kept w.heap.size p w w2 := (Kept.setCell (B := w.heap.size) _).trans (Kept.ofBelow (hw2.mono (by simp [World.setCell])))
          clear c0 c1 c2 c3 c4 c5 c6 f0
          obtain ⟨c0, c1, c2, c3, c4, c5, c6⟩ := hp2.cells
          have f1 := hp2.free 1
          have hA := hp2.set1 tx
          have hK := hK2.trans (Kept.setCell (B := w.heap.size) (o := 1) (.string ⟨tx.toArray⟩))
          by_cases hz : n = 0
          · have hR2 := Lib.hid (hRR.out.trans (by rw [if_pos hz]))
            have hz0 : ((n : Int) == 0) = true := by simp [hz]
            have HZ := Lib.hid hz
            clear hz
            go_wp2_with fail
            go_ret2
            exact ⟨by rw [hR2.out]; rfl, by rw [hR2.out]; exact hA, hK⟩
          · have hR2 := Lib.hid (hRR.out.trans (by rw [if_neg hz]))
            have hz0 : ((n : Int) == 0) = false := by simp; omega
            clear hz
            go_wp2_with fail
            go_ret2
            exact ⟨by rw [hR2.out]; rfl, by rw [hR2.out]; exact hA, hK⟩
        · by_cases h34 : c.toNat = 34
          · have HT : Hid (readP (c :: u) t = _) := Lib.hid (by rw [HR2.out, if_pos (.inr (UInt8.toNat_inj.1 h34))])
            obtain ⟨c0, c1, c2, c3, c4, c5, c6⟩ := h.cells
            have f0 := h.free 0
            clear HR2
            go_wp2_with fail
            refine (text_any (c :: u) _ hl h0).mono ?_
            rintro e w2 ⟨rfl, hw2⟩
            have hR3 := HT.out
            obtain ⟨X, hX⟩ : ∃ X, textP (c :: u) = X := ⟨_, rfl⟩
            rw [hX] at hR3 ⊢
            obtain ⟨tx, n⟩ := X
            simp only at hR3 ⊢
            have hRR := Lib.hid hR3
            clear hR3 hX HT
            have hp2 := (h.set0 2).ext hw2
            have hK2 : Kept w.heap.size p w w2 := (Kept.setCell (B := w.heap.size) _).trans (Kept.ofBelow (hw2.mono (by simp [World.setCell])))
            clear c0 c1 c2 c3 c4 c5 c6 f0
            obtain ⟨c0, c1, c2, c3, c4, c5, c6⟩ := hp2.cells
            have f1 := hp2.free 1
            have hA := hp2.set1 tx
            have hK := hK2.trans (Kept.setCell (B := w.heap.size) (o := 1) (.string ⟨tx.toArray⟩))
            by_cases hz : n = 0
            · have hR2 := Lib.hid (hRR.out.trans (by rw [if_pos hz]))
              have hz0 : ((n : Int) == 0) = true := by simp [hz]
              have HZ := Lib.hid hz
              clear hz
              go_wp2_with fail
              go_ret2
              exact ⟨by rw [hR2.out]; rfl, by rw [hR2.out]; exact hA, hK⟩
            · have hR2 := Lib.hid (hRR.out.trans (by rw [if_neg hz]))
              have hz0 : ((n : Int) == 0) = false := by simp; omega
              clear hz
              go_wp2_with fail
              go_ret2
              exact ⟨by rw [hR2.out]; rfl, by rw [hR2.out]; exact hA, hK⟩
          · have q39 : ((c.toNat : Int) == 39) = false := by simp; omega
            have q34 : ((c.toNat : Int) == 34) = false := by simp; omega
            have HS : Hid (readP (c :: u) t = _) := Lib.hid (by rw [HR2.out, if_neg (by
              rintro (e | e)
              · exact h39 (by rw [e]; rfl)
              · exact h34 (by rw [e]; rfl))])
            clear HR2 h39 h34
            go_wp2_with fail
            refine (sign_any (c :: u) _ h0 hl).mono ?_
            rintro e w2 ⟨rfl, hw2⟩
            have hnle := signP_le (c :: u) h0
            have hxt := take_ext (c :: u) (signP (c :: u))
            have hR3 := HS.out
            obtain ⟨n, hn⟩ : ∃ n, signP (c :: u) = n := ⟨_, rfl⟩
            rw [hn] at hnle hxt hR3 ⊢
            have hRR := Lib.hid hR3
            clear hR3 hn HS
            have hmn : n ≤ (c :: u).length := hnle
            simp only [List.length_cons, List.length_nil] at hmn hnle
            have hp2 := h.ext hw2
            obtain ⟨c0, c1, c2, c3, c4, c5, c6⟩ := hp2.cells
            have f0 := hp2.free 0
            have f1 := hp2.free 1
            go_wp2_with fail
            go_region
            have hA := ((hp2.set0 4).set1 ((c :: u).take n))
            have hK : Kept w.heap.size p w (((w2.setCell ⟨p, 0, none⟩ (.int .i64 4)).setCell ⟨p, 1, none⟩ (.string ⟨((c :: u).take n).toArray⟩)).drew) :=
              (((Kept.ofBelow hw2).trans (Kept.setCell _)).trans (Kept.setCell _)).trans (Kept.ofBelow ((Below.refl _ _).drew))
            clear c0 c1 c2 c3 c4 c5 c6 f0 f1
            by_cases hz : n = 0
            · have hR2 := Lib.hid (hRR.out.trans (by rw [if_pos hz]))
              have hz0 : ((n : Int) == 0) = true := by simp [hz]
              have HZ := Lib.hid hz
              clear hz
              go_wp2_with fail
              go_ret2
              exact ⟨by rw [hR2.out]; rfl, by rw [hR2.out]; exact hA, hK⟩
            · have hR2 := Lib.hid (hRR.out.trans (by rw [if_neg hz]))
              have hz0 : ((n : Int) == 0) = false := by simp; omega
              clear hz
              go_wp2_with fail
              go_ret2
              exact ⟨by rw [hR2.out]; rfl, by rw [hR2.out]; exact hA, hK⟩
end Go.Proofs.YtglcpfnfldaimaaDoor
