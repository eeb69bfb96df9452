/- orangeryref15: what Next does. -/
import Derived.Test.YtglcpfnfldaimaaDoorR15B
import Derived.Test.YtglcpfnfldaimaaDoorR15S
import Derived.Test.YtglcpfnfldaimaaDoorTokG
set_option linter.unusedVariables false
set_option linter.unusedSimpArgs false
set_option maxRecDepth 100000
namespace Go.Proofs.YtglcpfnfldaimaaDoor
open Go.RowKit Go.Mem Orange

def RAt (w : World) (p : Nat) (t : Tok) : Prop := w.heap[p]? = some (.cells (tokCells t) 36 (0, 0))
theorem RAt.lt {w : World} {p : Nat} {t : Tok} (h : RAt w p t) : p < w.heap.size := (Array.getElem?_eq_some_iff.1 h).1
theorem RAt.cells {w : World} {p : Nat} {t : Tok} (h : RAt w p t) : w.cell? ⟨p, 0, none⟩ = some (.int .i64 t.kind) ∧ w.cell? ⟨p, 1, none⟩ = some (.string ⟨t.s.toArray⟩) ∧ w.cell? ⟨p, 2, none⟩ = some (.bool t.n.neg) ∧ w.cell? ⟨p, 3, none⟩ = some (.string ⟨t.n.digits.toArray⟩) ∧ w.cell? ⟨p, 4, none⟩ = some (.int .i64 t.n.exp) ∧ w.cell? ⟨p, 5, none⟩ = some (.int .i64 t.fr) ∧ w.cell? ⟨p, 6, none⟩ = some (.int .i64 t.upto) :=
  ⟨by rw [cell_of_cells h]; rfl, by rw [cell_of_cells h]; rfl, by rw [cell_of_cells h]; rfl, by rw [cell_of_cells h]; rfl, by rw [cell_of_cells h]; rfl, by rw [cell_of_cells h]; rfl, by rw [cell_of_cells h]; rfl⟩
theorem RAt.free {w : World} {p : Nat} {t : Tok} (h : RAt w p t) (i : Nat) : w.frozen? ⟨p, i, none⟩ = false := free_of_cells h
theorem RAt.frees {w : World} {p : Nat} {t : Tok} (h : RAt w p t) : w.frozen? ⟨p, 0, none⟩ = false ∧ w.frozen? ⟨p, 1, none⟩ = false ∧ w.frozen? ⟨p, 2, none⟩ = false ∧ w.frozen? ⟨p, 3, none⟩ = false ∧ w.frozen? ⟨p, 4, none⟩ = false ∧ w.frozen? ⟨p, 5, none⟩ = false ∧ w.frozen? ⟨p, 6, none⟩ = false := ⟨h.free _, h.free _, h.free _, h.free _, h.free _, h.free _, h.free _⟩
theorem RAt.ext {w w' : World} {p : Nat} {t : Tok} (h : RAt w p t) (hb : Ext w w') : RAt w' p t := by unfold RAt; rw [hb.block _ h.lt]; exact h
theorem RAt.new (w : World) (t : Tok) : RAt (w.alloc (.cells (tokCells t) 36)) w.heap.size t := heap_alloc_new _ _
theorem RAt.store {w : World} {p : Nat} {t0 : Tok} (h : RAt w p t0) (t : Tok) : RAt (((((((w.setCell ⟨p, 0, none⟩ (.int .i64 t.kind)).setCell ⟨p, 1, none⟩ (.string ⟨t.s.toArray⟩)).setCell ⟨p, 2, none⟩ (.bool t.n.neg)).setCell ⟨p, 3, none⟩ (.string ⟨t.n.digits.toArray⟩)).setCell ⟨p, 4, none⟩ (.int .i64 t.n.exp)).setCell ⟨p, 5, none⟩ (.int .i64 t.fr)).setCell ⟨p, 6, none⟩ (.int .i64 t.upto)) p t := by
  unfold RAt at h ⊢
  simp [World.setCell, Array.getElem?_modify, h, tokCells]
theorem RAt.set0 {w : World} {p : Nat} {t : Tok} (h : RAt w p t) (k : Int) : RAt (w.setCell ⟨p, 0, none⟩ (.int .i64 k)) p { t with kind := k } := by
  unfold RAt at h ⊢; simp [World.setCell, Array.getElem?_modify, h, tokCells]
theorem RAt.set1 {w : World} {p : Nat} {t : Tok} (h : RAt w p t) (s : List UInt8) : RAt (w.setCell ⟨p, 1, none⟩ (.string ⟨s.toArray⟩)) p { t with s := s } := by
  unfold RAt at h ⊢; simp [World.setCell, Array.getElem?_modify, h, tokCells]
theorem RAt.set6 {w : World} {p : Nat} {t : Tok} (h : RAt w p t) (k : Int) : RAt (w.setCell ⟨p, 6, none⟩ (.int .i64 k)) p { t with upto := k } := by
  unfold RAt at h ⊢; simp [World.setCell, Array.getElem?_modify, h, tokCells]
theorem RAt.setOther {w : World} {p q i : Nat} {t : Tok} (h : RAt w p t) (hq : p ≠ q) (u : Value) : RAt (w.setCell ⟨q, i, none⟩ u) p t := by
  unfold RAt at h ⊢; rw [Below.heap_setCell _ _ _ _ hq]; exact h

theorem num_pos (l : List UInt8) (h : isNumHead l = true) : 1 ≤ numLen true l := by
  cases l with
  | nil => simp [isNumHead, isDig] at h
  | cons c t =>
    have ho : numOk true c t = true := by
      unfold isNumHead at h
      unfold numOk
      simp only [List.headD_cons, Bool.or_eq_true, Bool.and_eq_true, decide_eq_true_eq] at h
      rcases h with h | ⟨⟨h, _⟩, _⟩
      · simp [h]
      · have hc : c = 45 := of_decide_eq_true h
        subst hc; simp
    rw [numLen, if_pos ho]; omega
theorem white_step (l : List UInt8) (k : Nat) (h : k < l.length) : (l.drop k).dropWhile isW = if isW l[k] then (l.drop (k + 1)).dropWhile isW else l.drop k := by
  rw [List.drop_eq_getElem_cons h, List.dropWhile_cons]

theorem RAt.setN {w : World} {p : Nat} {t : Tok} (h : RAt w p t) (n : Num) : RAt (((w.setCell ⟨p, 2, none⟩ (.bool n.neg)).setCell ⟨p, 3, none⟩ (.string ⟨n.digits.toArray⟩)).setCell ⟨p, 4, none⟩ (.int .i64 n.exp)) p { t with n := n } := by
  unfold RAt at h ⊢; simp [World.setCell, Array.getElem?_modify, h, tokCells]
-- the end: a token. $1: RAt of the result's block ahead of the store; $2: Below; then kind, S, N, To; HF : Hid (nextP = ..)
-- the facts on the two blocks of a world
set_option maxHeartbeats 6400000 in
theorem r15next_any (l : List UInt8) (n : Int) (w : World) (hl : l.length ≤ 1000000000) (hn0 : -9223372036854775808 ≤ n) (hn1 : n ≤ 9223372036854775807) :
    Calls Tryd.prog 12 #[.string ⟨l.toArray⟩, .int .i64 n] w fun e w' => e = .returned (.tuple #[.agg (tokCells (nextP l n).1), .int .i64 (nextP l n).2]) ∧ Ext w w' := by
  have hr0 := RAt.new w Tok.zero
  have hw0 : Ext w (w.alloc (.cells (tokCells Tok.zero) 36)) := (ext_refl w).alloc (Nat.le_refl _) _
  have hs0 : (w.alloc (.cells (tokCells Tok.zero) 36)).heap.size = w.heap.size + 1 := by simp
  simp only [Tok.zero, Num.zero, tokCells] at hw0 hs0
  by_cases hbad : n < 0 ∨ (l.length : Int) < n
  · have hP : Hid (nextP l n = (Tok.zero, 1)) := Lib.hid (by rw [nextP, if_pos hbad])
    obtain ⟨c0, c1, c2, c3, c4, c5, c6⟩ := hr0.cells
    simp only [Tok.zero, Num.zero, tokCells] at c0 c1 c2 c3 c4 c5 c6 hw0
    rcases Int.lt_or_le n 0 with h | h
    · go_enter Tryd.func12, Tryd.ntmps12
      go_wp2_with fail
      exact bodyPost_ret (v := .tuple #[.agg #[.int .i64 0, .string ⟨#[]⟩, .bool false, .string ⟨#[]⟩, .int .i64 0, .int .i64 0, .int .i64 0], .int .i64 1]) (by simp [results, Tryd.results12, go_sem, c0, c1, c2, c3, c4, c5, c6]) rfl ⟨by rw [hP.out]; rfl, hw0⟩
    · have h2 : (l.length : Int) < n := by omega
      go_enter Tryd.func12, Tryd.ntmps12
      go_wp2_with fail
      exact bodyPost_ret (v := .tuple #[.agg #[.int .i64 0, .string ⟨#[]⟩, .bool false, .string ⟨#[]⟩, .int .i64 0, .int .i64 0, .int .i64 0], .int .i64 1]) (by simp [results, Tryd.results12, go_sem, c0, c1, c2, c3, c4, c5, c6]) rfl ⟨by rw [hP.out]; rfl, hw0⟩
  · obtain ⟨k0, rfl⟩ : ∃ k : Nat, n = k := ⟨n.toNat, by omega⟩
    have hkl : k0 ≤ l.length := by omega
    have hP : nextP l k0 = nextR l.length ((l.drop k0).dropWhile isW) := by rw [nextP, if_neg hbad, Int.toNat_natCast, nextAt_R]
    have HP := Lib.hid hP
    have hb1 : ¬ ((k0 : Int) < 0) := by omega
    have hb2 : ¬ ((l.length : Int) < k0) := by omega
    clear hbad hP
    go_enter Tryd.func12, Tryd.ntmps12
    go_wp2_with fail
    simp only [Tok.zero, Num.zero, tokCells] at hr0
    generalize w.alloc (.cells #[.int .i64 0, .string ⟨#[]⟩, .bool false, .string ⟨#[]⟩, .int .i64 0, .int .i64 0, .int .i64 0] 36) = w1 at *
    have hr1 : RAt w1 w.heap.size Tok.zero := hr0
    have HR1 := Lib.hid hr1
    clear hr0 hr1
    go_loop [1] (fun kv => ∃ k : Nat, kv = .int .i64 k ∧ k ≤ l.length ∧ (l.drop k0).dropWhile isW = (l.drop k).dropWhile isW) (fun kv => l.length - (intOf kv).toNat)
    case atStart => exact ⟨k0, rfl, hkl, rfl⟩
    case round =>
      obtain ⟨k, rfl, hk, hr⟩ := hrel
      have HR := Lib.hid hr
      clear hr
      by_cases hlt : k < l.length
      · have hg := sx_get l k hlt
        have hws := white_step l k hlt
        have hdk := List.drop_eq_getElem_cons hlt
        generalize l[k] = c at *
        have HWS := Lib.hid hws
        have HDK := Lib.hid hdk
        clear hws hdk
        go_upto_region 3 with fail
        go_cut [50] (fun s50 wx => s50 = .bool (isW c) ∧ w1 = wx)
        case first =>
          by_cases e1 : c = 9
          · have q := b_eq c 9 9 rfl e1
            have HC := Lib.hid e1
            clear e1
            go_wp2_with fail
            go_meet
            exact ⟨by rw [HC.out]; rfl, rfl⟩
          · have q1 := b_ne c 9 9 rfl e1
            by_cases e2 : c = 10
            · have q := b_eq c 10 10 rfl e2
              have HC := Lib.hid e2
              clear e2 e1
              go_wp2_with fail
              go_meet
              exact ⟨by rw [HC.out]; rfl, rfl⟩
            · have q2 := b_ne c 10 10 rfl e2
              by_cases e3 : c = 13
              · have q := b_eq c 13 13 rfl e3
                have HC := Lib.hid e3
                clear e3 e2 e1
                go_wp2_with fail
                go_meet
                exact ⟨by rw [HC.out]; rfl, rfl⟩
              · have q3 := b_ne c 13 13 rfl e3
                have hw : isW c = ((c.toNat : Int) == 32) := by
                  have e : decide (c = 32) = ((c.toNat : Int) == 32) := by
                    by_cases e4 : c = 32
                    · rw [b_eq c 32 32 rfl e4]; simpa using e4
                    · rw [b_ne c 32 32 rfl e4]; simpa using e4
                  unfold isW; simp [e1, e2, e3, e]
                have HW := Lib.hid hw
                clear e3 e2 e1 hw
                go_wp2_with fail
                go_meet
                exact ⟨by rw [HW.out], rfl⟩
        case rest =>
          obtain ⟨rfl, rfl⟩ := hcut
          cases hw : isW c with
          | true =>
            have HN : Hid ((l.drop k0).dropWhile isW = (l.drop (k + 1)).dropWhile isW) := Lib.hid (by rw [HR.out, HWS.out, if_pos hw])
            clear HR HWS HDK hw
            go_wp2_with fail
            go_round
            case rel => exact ⟨k + 1, by go_num, by omega, HN.out⟩
            case measure => simp [intOf]; omega
          | false =>
            have hRR : (l.drop k0).dropWhile isW = c :: l.drop (k + 1) := by rw [HR.out, HWS.out, if_neg (by rw [hw]; decide), HDK.out]
            have HP2 : Hid (nextP l k0 = nextR l.length (c :: l.drop (k + 1))) := Lib.hid (by rw [HP.out, hRR])
            have hke : ((k : Int) == l.length) = false := by simp; omega
            clear hRR HR HWS HP hw
            obtain ⟨u, hu⟩ : ∃ u, l.drop (k + 1) = u := ⟨_, rfl⟩
            have hRu : (c :: u).length = l.length - k := by rw [← hu, ← HDK.out]; simp
            have hdr : l.drop k = c :: u := by rw [HDK.out, hu]
            have hP2 := HP2.out
            rw [hu] at hP2
            have hfk : (l.length : Int) - (c :: u).length = k := by omega
            have HRU := Lib.hid hRu
            have HDR := Lib.hid hdr
            have HNX : Hid (nextP l k0 = if (readP (c :: u) Tok.zero).2.2 = 0 then ((⟨(readP (c :: u) Tok.zero).1.kind, (readP (c :: u) Tok.zero).1.s, (readP (c :: u) Tok.zero).1.n, k, k + (readP (c :: u) Tok.zero).2.1⟩ : Tok), 0) else (Tok.zero, (readP (c :: u) Tok.zero).2.2)) := Lib.hid (by
              rw [hP2, nextR, if_neg (by simp), hfk])
            clear hu hRu hdr hP2 hfk HP2 HDK
            have ht2 : RAt (w1.alloc (.cells #[.int .i64 0, .string ⟨#[]⟩, .bool false, .string ⟨#[]⟩, .int .i64 0, .int .i64 k, .int .i64 k] 36)) w1.heap.size ⟨0, [], Num.zero, k, k⟩ := RAt.new w1 ⟨0, [], Num.zero, k, k⟩
            have hx2 : Ext w1 (w1.alloc (.cells #[.int .i64 0, .string ⟨#[]⟩, .bool false, .string ⟨#[]⟩, .int .i64 0, .int .i64 k, .int .i64 k] 36)) := (ext_refl w1).alloc (Nat.le_refl _) _
            go_wp2_with fail
            generalize w1.alloc (.cells #[.int .i64 0, .string ⟨#[]⟩, .bool false, .string ⟨#[]⟩, .int .i64 0, .int .i64 k, .int .i64 k] 36) = w2 at *
            have hr2 := HR1.out.ext hx2
            have hE2 := ext_trans hw0 hx2
            rw [hs0] at ht2
            have HR2 := Lib.hid hr2
            have HT2 := Lib.hid ht2
            have hne : w.heap.size ≠ w.heap.size + 1 := by omega
            have hle1 : w.heap.size ≤ w.heap.size + 1 := by omega
            clear hr2 ht2 HR1 hx2 hw0 hs0
            refine (begB_any c _).mono ?_
            rintro e w3 ⟨rfl, rfl⟩
            have hR0 : readP (c :: u) Tok.zero = if letterR (c.toNat : Int) then
                (if nameOk (c :: u) then ({ Tok.zero with kind := 1, s := (c :: u).take (nameLen (c :: u)) }, nameLen (c :: u), if nameLen (c :: u) = 0 then 2 else 0) else (Tok.zero, 0, 2))
                else if isNumHead (c :: u) then ({ Tok.zero with kind := 3, n := (decP ((c :: u).take (numLen true (c :: u)))).1 }, numLen true (c :: u), if (decP ((c :: u).take (numLen true (c :: u)))).2 = 0 ∧ numLen true (c :: u) = 0 then 2 else (decP ((c :: u).take (numLen true (c :: u)))).2)
                else if c = 39 ∨ c = 34 then ({ Tok.zero with kind := 2, s := (textP (c :: u)).1 }, (textP (c :: u)).2, if (textP (c :: u)).2 = 0 then 2 else 0)
                else ({ Tok.zero with kind := 4, s := (c :: u).take (signP (c :: u)) }, signP (c :: u), if signP (c :: u) = 0 then 2 else 0) := rfl
            have HR0 := Lib.hid hR0
            clear hR0
            have hku : (c :: u).length = l.length - k := HRU.out
            have hxs := sx_sub l k
            rw [HDR.out] at hxs
            have HXS := Lib.hid hxs
            clear hxs
            cases hle : letterR (c.toNat : Int) with
            | true =>
              have hR1 := HR0.out
              rw [if_pos hle] at hR1
              have hnl1 : 1 ≤ nameLen (c :: u) := by unfold nameLen; rw [List.takeWhile_cons, if_pos (by unfold nameB; rw [hle]; rfl)]; simp
              have hnle := nameLen_le (c :: u)
              rw [hku] at hnle
              have hT2 := HT2.out.set0 1
              have hR2' := HR2.out.setOther (i := 0) hne (.int .i64 1)
              have hE3 := hE2.setCell (p := ⟨w.heap.size + 1, 0, none⟩) (show w.heap.size ≤ w.heap.size + 1 by omega) (.int .i64 1)
              obtain ⟨g0, g1, g2, g3, g4, g5, g6⟩ := HT2.out.frees
              obtain ⟨b0, b1, b2, b3, b4, b5, b6⟩ := HT2.out.cells
              simp only [Num.zero] at b0 b1 b2 b3 b4 b5 b6 hT2
              clear HR0
              go_wp2_with fail
              refine (r15name_any l k _ hl (by omega)).mono ?_
              rintro e w4 ⟨rfl, hw4⟩
              have hE4 := ext_trans hE3 hw4
              have HT4 := Lib.hid (hT2.ext hw4)
              have HR4 := Lib.hid (hR2'.ext hw4)
              have hnr : nameR l k = if nameOk (c :: u) = true then ((k + nameLen (c :: u) : Nat) : Int) else -1 := by unfold nameR; rw [HDR.out]
              have hxm := HXS.out (nameLen (c :: u))
              obtain ⟨m, hm⟩ : ∃ m, nameLen (c :: u) = m := ⟨_, rfl⟩
              rw [hm] at hR1 hnl1 hnle hnr hxm
              have HX := Lib.hid hxm
              have HNR := Lib.hid hnr
              have HR1 := Lib.hid hR1
              clear hT2 hR2' hw4 hE3 hm hxm hnr hR1 g0 g1 g2 g3 g4 g5 g6 b0 b1 b2 b3 b4 b5 b6
              obtain ⟨g0, g1, g2, g3, g4, g5, g6⟩ := (HT4.out).frees
              obtain ⟨b0, b1, b2, b3, b4, b5, b6⟩ := (HT4.out).cells
              obtain ⟨q0, q1, q2, q3, q4, q5, q6⟩ := (HR4.out).frees
              obtain ⟨v0, v1, v2, v3, v4, v5, v6⟩ := (HR4.out).cells
              simp only [Tok.zero, Num.zero] at b0 b1 b2 b3 b4 b5 b6 v0 v1 v2 v3 v4 v5 v6
              cases hok : nameOk (c :: u) with
              | true =>
                have hv := HNR.out
                rw [if_pos hok] at hv
                have HF : Hid (nextP l k0 = ((⟨1, (c :: u).take m, Num.zero, k, (k : Int) + m⟩ : Tok), 0)) := Lib.hid (by
                  rw [HNX.out, HR1.out, if_pos hok]; simp only; rw [if_neg (show ¬ m = 0 by omega), if_pos rfl]; rfl)
                have hvk : nameR l k = (k : Int) + m := by rw [hv]; omega
                have hx := HX.out
                rw [hvk]
                clear hv hvk HR1 HNR hok
                go_wp2_with fail
                have hN := ((((HR4.out.setOther (i := 6) hne (.int .i64 ((k : Int) + m))).setOther (i := 1) hne (.string ⟨((c :: u).take m).toArray⟩))).store ⟨1, (c :: u).take m, Num.zero, k, (k : Int) + m⟩).cells
                simp only [Num.zero] at hN
                obtain ⟨d0, d1, d2, d3, d4, d5, d6⟩ := hN
                exact bodyPost_ret (v := .tuple #[.agg #[.int .i64 (1), .string ⟨((c :: u).take m).toArray⟩, .bool (Num.zero).neg, .string ⟨(Num.zero).digits.toArray⟩, .int .i64 (Num.zero).exp, .int .i64 k, .int .i64 ((k : Int) + m)], .int .i64 0]) (by simp [results, Num.zero, Tryd.results12, go_sem, d0, d1, d2, d3, d4, d5, d6]) rfl ⟨by rw [HF.out]; rfl, below_store7 (((hE4.setCell hle1 _).setCell hle1 _)) (Nat.le_refl _) _ _ _ _ _ _ _⟩
              | false =>
                have hv := HNR.out
                rw [if_neg (by rw [hok]; decide)] at hv
                have HF : Hid (nextP l k0 = (Tok.zero, 2)) := Lib.hid (by
                  rw [HNX.out, HR1.out, hok]; rfl)
                rw [hv]
                clear hv HR1 HNR hok
                go_wp2_with fail
                have hN := (((HR4.out.setOther (i := 6) hne (.int .i64 (-1)))).store Tok.zero).cells
                simp only [Tok.zero, Num.zero] at hN
                obtain ⟨d0, d1, d2, d3, d4, d5, d6⟩ := hN
                exact bodyPost_ret (v := .tuple #[.agg #[.int .i64 0, .string ⟨#[]⟩, .bool false, .string ⟨#[]⟩, .int .i64 0, .int .i64 0, .int .i64 0], .int .i64 (2)]) (by simp [results, Tryd.results12, go_sem, d0, d1, d2, d3, d4, d5, d6]) rfl ⟨by rw [HF.out]; rfl, below_store7 ((hE4.setCell hle1 _)) (Nat.le_refl _) _ _ _ _ _ _ _⟩
            | false =>
              have HR1 : Hid (readP (c :: u) Tok.zero = _) := Lib.hid (HR0.out.trans (if_neg (by rw [hle]; decide)))
              have hnh : isNumHead (c :: u) = (isDig c || (decide (c = 45) && decide (1 < (c :: u).length) && isDig (u.headD 0))) := rfl
              rw [hku] at hnh
              have HNH := Lib.hid hnh
              clear hnh HR0 hle
              go_upto_region 21 with fail
              go_cut [100] (fun s100 wx => s100 = .bool (isNumHead (c :: u)) ∧ w2 = wx)
              case first =>
                clear HR1 HNX HXS
                go_wp2_with fail
                refine (r15digit_any c _).mono ?_
                rintro e w3 ⟨rfl, rfl⟩
                cases hd : isDig c with
                | true =>
                  go_wp2_with fail
                  go_meet
                  exact ⟨by rw [HNH.out, hd]; rfl, rfl⟩
                | false =>
                  by_cases h45 : c = 45
                  · have q45 := b_eq c 45 45 rfl h45
                    by_cases hk1 : k + 1 < l.length
                    · obtain ⟨d, v, rfl⟩ : ∃ d v, u = d :: v := by
                        cases u with
                        | nil => simp at hku; omega
                        | cons d v => exact ⟨d, v, rfl⟩
                      have hg2 : ∀ h, (ByteArray.mk l.toArray)[k + 1]'h = d := fun h => by
                        have h2 := sx_get l (k + 1) hk1
                        have h3 : (l.drop k)[1]? = some d := by rw [HDR.out]; rfl
                        rw [List.getElem?_drop, List.getElem?_eq_getElem hk1] at h3
                        rw [h2]; simpa using h3
                      have HN2 : Hid (isNumHead (c :: d :: v) = isDig d) := Lib.hid (by
                        rw [HNH.out, hd, h45]
                        have : decide (1 < l.length - k) = true := by simp; omega
                        rw [this]; rfl)
                      clear h45
                      go_wp2_with fail
                      refine (r15digit_any d _).mono ?_
                      rintro e w3 ⟨rfl, rfl⟩
                      go_wp2_with fail
                      go_meet
                      exact ⟨by rw [HN2.out], rfl⟩
                    · have HN2 : Hid (isNumHead (c :: u) = false) := Lib.hid (by
                        rw [HNH.out, hd]
                        have : decide (1 < l.length - k) = false := by simp; omega
                        rw [this]; simp)
                      clear h45
                      go_wp2_with fail
                      go_meet
                      exact ⟨by rw [HN2.out], rfl⟩
                  · have q45 := b_ne c 45 45 rfl h45
                    have HN2 : Hid (isNumHead (c :: u) = false) := Lib.hid (by
                      rw [HNH.out, hd]
                      have : decide (c = 45) = false := by simpa using h45
                      rw [this]; rfl)
                    clear h45
                    go_wp2_with fail
                    go_meet
                    exact ⟨by rw [HN2.out], rfl⟩
              case rest =>
                obtain ⟨rfl, rfl⟩ := hcut
                cases hnh : isNumHead (c :: u) with
                | true =>
                  have hR1 := HR1.out
                  rw [if_pos hnh] at hR1
                  have hm1 := num_pos (c :: u) hnh
                  have hnle := numLen_le true (c :: u)
                  rw [hku] at hnle
                  have hT2 := HT2.out.set0 3
                  have hR2' := HR2.out.setOther (i := 0) hne (.int .i64 3)
                  have hE3 := hE2.setCell (p := ⟨w.heap.size + 1, 0, none⟩) hle1 (.int .i64 3)
                  obtain ⟨g0, g1, g2, g3, g4, g5, g6⟩ := HT2.out.frees
                  obtain ⟨b0, b1, b2, b3, b4, b5, b6⟩ := HT2.out.cells
                  simp only [Num.zero] at b0 b1 b2 b3 b4 b5 b6 hT2
                  clear HR1 HNH hnh
                  go_wp2_with fail
                  refine (r15number_any l k _ hl (by omega)).mono ?_
                  rintro e w4 ⟨rfl, hw4⟩
                  have hE4 := ext_trans hE3 hw4
                  have HT4 := Lib.hid (hT2.ext hw4)
                  have HR4 := Lib.hid (hR2'.ext hw4)
                  have hnr : numR l k = (k : Int) + (numLen true (c :: u) : Nat) := by unfold numR; rw [HDR.out]; omega
                  have hxm := HXS.out (numLen true (c :: u))
                  obtain ⟨m, hm⟩ : ∃ m, numLen true (c :: u) = m := ⟨_, rfl⟩
                  rw [hm] at hR1 hm1 hnle hnr hxm
                  rw [hnr]
                  obtain ⟨X, hX⟩ : ∃ X, (c :: u).take m = X := ⟨_, rfl⟩
                  have hXl : X.length ≤ 1000000000 := by rw [← hX]; simp; omega
                  rw [hX] at hR1 hxm
                  have HR1 := Lib.hid hR1
                  clear hT2 hR2' hw4 hE3 hm hnr hX hR1 g0 g1 g2 g3 g4 g5 g6 b0 b1 b2 b3 b4 b5 b6
                  obtain ⟨g0, g1, g2, g3, g4, g5, g6⟩ := (HT4.out).frees
                  obtain ⟨b0, b1, b2, b3, b4, b5, b6⟩ := (HT4.out).cells
                  obtain ⟨q0, q1, q2, q3, q4, q5, q6⟩ := (HR4.out).frees
                  obtain ⟨v0, v1, v2, v3, v4, v5, v6⟩ := (HR4.out).cells
                  simp only [Tok.zero, Num.zero] at b0 b1 b2 b3 b4 b5 b6 v0 v1 v2 v3 v4 v5 v6
                  go_wp2_with fail
                  refine (r2parse_any X _ (by omega)).mono ?_
                  rintro e w5 ⟨rfl, hw5⟩
                  have hE5 := ext_trans (hE4.setCell (p := ⟨w.heap.size + 1, 6, none⟩) hle1 (.int .i64 ((k : Int) + m))) hw5
                  have HT5 := Lib.hid ((HT4.out.set6 ((k : Int) + m)).ext hw5)
                  have HR5 := Lib.hid ((HR4.out.setOther (i := 6) hne (.int .i64 ((k : Int) + m))).ext hw5)
                  have hR1 := HR1.out
                  obtain ⟨D, hD⟩ : ∃ D, decP X = D := ⟨_, rfl⟩
                  rw [hD] at hR1 ⊢
                  obtain ⟨⟨nn, nd, ne⟩, er⟩ := D
                  simp only at hR1 ⊢
                  rw [if_neg (show ¬ (er = 0 ∧ m = 0) by omega)] at hR1
                  have HR6 := Lib.hid hR1
                  have hlt5 := HT5.out.lt
                  have hlt5' := HR5.out.lt
                  clear hD hw5 HR1 hR1 hxm hE4 HT4 HR4 g0 g1 g2 g3 g4 g5 g6 b0 b1 b2 b3 b4 b5 b6 q0 q1 q2 q3 q4 q5 q6 v0 v1 v2 v3 v4 v5 v6
                  obtain ⟨g0, g1, g2, g3, g4, g5, g6⟩ := (HT5.out).frees
                  obtain ⟨b0, b1, b2, b3, b4, b5, b6⟩ := (HT5.out).cells
                  obtain ⟨q0, q1, q2, q3, q4, q5, q6⟩ := (HR5.out).frees
                  obtain ⟨v0, v1, v2, v3, v4, v5, v6⟩ := (HR5.out).cells
                  simp only [Tok.zero, Num.zero] at b0 b1 b2 b3 b4 b5 b6 v0 v1 v2 v3 v4 v5 v6
                  have hx6 : ∀ W : World, Ext W (W.alloc (.cells #[.bool nn, .string ⟨nd.toArray⟩, .int .i64 ne] 28)) := fun W => (ext_refl W).alloc (Nat.le_refl _) _
                  have HX6 := Lib.hid hx6
                  clear hx6
                  by_cases her : er = 0
                  · have HF : Hid (nextP l k0 = ((⟨3, [], ⟨nn, nd, ne⟩, k, (k : Int) + m⟩ : Tok), 0)) := Lib.hid (by
                      rw [HNX.out, HR6.out]; simp only; rw [if_pos her]; rfl)
                    have her2 : (er != 0) = false := by simp [her]
                    clear her HR6
                    go_wp2_with fail
                    have hN := (((((((HR5.out.setOther (i := 2) hne (.bool nn)).setOther (i := 3) hne (.string ⟨nd.toArray⟩)).setOther (i := 4) hne (.int .i64 ne))).store ⟨3, [], (⟨nn, nd, ne⟩ : Num), k, (k : Int) + m⟩)).ext (HX6.out _)).cells
                    simp only [Num.zero] at hN
                    obtain ⟨d0, d1, d2, d3, d4, d5, d6⟩ := hN
                    exact bodyPost_ret (v := .tuple #[.agg #[.int .i64 (3), .string ⟨([]).toArray⟩, .bool ((⟨nn, nd, ne⟩ : Num)).neg, .string ⟨((⟨nn, nd, ne⟩ : Num)).digits.toArray⟩, .int .i64 ((⟨nn, nd, ne⟩ : Num)).exp, .int .i64 k, .int .i64 ((k : Int) + m)], .int .i64 0]) (by simp [results, Num.zero, Tryd.results12, go_sem, d0, d1, d2, d3, d4, d5, d6]) rfl ⟨by rw [HF.out]; rfl, (below_store7 ((((hE5.setCell hle1 _).setCell hle1 _).setCell hle1 _)) (Nat.le_refl _) _ _ _ _ _ _ _).trans ((HX6.out _).mono (by simp only [World.setCell, Array.size_modify]; omega))⟩
                  · have HF : Hid (nextP l k0 = (Tok.zero, er)) := Lib.hid (by
                      rw [HNX.out, HR6.out]; simp only; rw [if_neg her])
                    have her2 : (er != 0) = true := by simpa using her
                    clear her HR6
                    go_wp2_with fail
                    have hN := ((((HR5.out).store Tok.zero)).ext (HX6.out _)).cells
                    simp only [Tok.zero, Num.zero] at hN
                    obtain ⟨d0, d1, d2, d3, d4, d5, d6⟩ := hN
                    exact bodyPost_ret (v := .tuple #[.agg #[.int .i64 0, .string ⟨#[]⟩, .bool false, .string ⟨#[]⟩, .int .i64 0, .int .i64 0, .int .i64 0], .int .i64 (er)]) (by simp [results, Tryd.results12, go_sem, d0, d1, d2, d3, d4, d5, d6]) rfl ⟨by rw [HF.out]; rfl, (below_store7 (hE5) (Nat.le_refl _) _ _ _ _ _ _ _).trans ((HX6.out _).mono (by simp only [World.setCell, Array.size_modify]; omega))⟩
                | false =>
                  have HR2 : Hid (readP (c :: u) Tok.zero = _) := Lib.hid (HR1.out.trans (if_neg (by rw [hnh]; decide)))
                  by_cases h39 : c = 39
                  · have q39 := b_eq c 39 39 rfl h39
                    have HR3 : Hid (readP (c :: u) Tok.zero = _) := Lib.hid (HR2.out.trans (if_pos (.inl h39)))
                    clear h39 HR1 HR2 HNH hnh
                    have hT2 := HT2.out.set0 2
                    have hR2' := HR2.out.setOther (i := 0) hne (.int .i64 2)
                    have hE3 := hE2.setCell (p := ⟨w.heap.size + 1, 0, none⟩) hle1 (.int .i64 2)
                    obtain ⟨g0, g1, g2, g3, g4, g5, g6⟩ := HT2.out.frees
                    obtain ⟨b0, b1, b2, b3, b4, b5, b6⟩ := HT2.out.cells
                    simp only [Num.zero] at b0 b1 b2 b3 b4 b5 b6 hT2
                    go_wp2_with fail
                    refine (r15text_any l k _ hl hlt).mono ?_
                    rintro e w4 ⟨rfl, hw4⟩
                    have hE4 := ext_trans hE3 hw4
                    have HT4 := Lib.hid (hT2.ext hw4)
                    have HR4 := Lib.hid (hR2'.ext hw4)
                    have htr : textR l k = if (textP (c :: u)).2 = 0 then ([], 0, 2) else ((textP (c :: u)).1, ((k + (textP (c :: u)).2 : Nat) : Int), 0) := by unfold textR; rw [HDR.out]
                    have hr3 := HR3.out
                    obtain ⟨X, hX⟩ : ∃ X, textP (c :: u) = X := ⟨_, rfl⟩
                    rw [hX] at htr hr3
                    obtain ⟨tx, m⟩ := X
                    simp only at htr hr3
                    have HR5 := Lib.hid hr3
                    clear hT2 hR2' hw4 hE3 hX hr3 HR3 g0 g1 g2 g3 g4 g5 g6 b0 b1 b2 b3 b4 b5 b6
                    obtain ⟨g0, g1, g2, g3, g4, g5, g6⟩ := (HT4.out).frees
                    obtain ⟨b0, b1, b2, b3, b4, b5, b6⟩ := (HT4.out).cells
                    obtain ⟨q0, q1, q2, q3, q4, q5, q6⟩ := (HR4.out).frees
                    obtain ⟨v0, v1, v2, v3, v4, v5, v6⟩ := (HR4.out).cells
                    simp only [Tok.zero, Num.zero] at b0 b1 b2 b3 b4 b5 b6 v0 v1 v2 v3 v4 v5 v6
                    by_cases hm0 : m = 0
                    · have HF : Hid (nextP l k0 = (Tok.zero, 2)) := Lib.hid (by
                        rw [HNX.out, HR5.out]; simp only; rw [if_pos hm0]; rfl)
                      rw [htr, if_pos hm0]
                      clear hm0 HR5 htr
                      go_wp2_with fail
                      have hN := ((HR4.out).store Tok.zero).cells
                      simp only [Tok.zero, Num.zero] at hN
                      obtain ⟨d0, d1, d2, d3, d4, d5, d6⟩ := hN
                      exact bodyPost_ret (v := .tuple #[.agg #[.int .i64 0, .string ⟨#[]⟩, .bool false, .string ⟨#[]⟩, .int .i64 0, .int .i64 0, .int .i64 0], .int .i64 (2)]) (by simp [results, Tryd.results12, go_sem, d0, d1, d2, d3, d4, d5, d6]) rfl ⟨by rw [HF.out]; rfl, below_store7 (hE4) (Nat.le_refl _) _ _ _ _ _ _ _⟩
                    · have HF : Hid (nextP l k0 = ((⟨2, tx, Num.zero, k, (k : Int) + m⟩ : Tok), 0)) := Lib.hid (by
                        rw [HNX.out, HR5.out]; simp only; rw [if_neg hm0, if_pos rfl]; rfl)
                      rw [htr, if_neg hm0]
                      have hc2 : ((k + m : Nat) : Int) = (k : Int) + m := by omega
                      clear hm0 HR5 htr
                      go_wp2_with fail
                      have hN := ((((HR4.out.setOther (i := 1) hne (.string ⟨tx.toArray⟩)).setOther (i := 6) hne (.int .i64 ((k : Int) + m)))).store ⟨2, tx, Num.zero, k, (k : Int) + m⟩).cells
                      simp only [Num.zero] at hN
                      obtain ⟨d0, d1, d2, d3, d4, d5, d6⟩ := hN
                      exact bodyPost_ret (v := .tuple #[.agg #[.int .i64 (2), .string ⟨(tx).toArray⟩, .bool (Num.zero).neg, .string ⟨(Num.zero).digits.toArray⟩, .int .i64 (Num.zero).exp, .int .i64 k, .int .i64 ((k : Int) + m)], .int .i64 0]) (by simp [results, Num.zero, Tryd.results12, go_sem, d0, d1, d2, d3, d4, d5, d6]) rfl ⟨by rw [HF.out]; rfl, below_store7 (((hE4.setCell hle1 _).setCell hle1 _)) (Nat.le_refl _) _ _ _ _ _ _ _⟩
                  · have q39 := b_ne c 39 39 rfl h39
                    by_cases h34 : c = 34
                    · have q34 := b_eq c 34 34 rfl h34
                      have HR3 : Hid (readP (c :: u) Tok.zero = _) := Lib.hid (HR2.out.trans (if_pos (.inr h34)))
                      clear h34 h39 HR1 HR2 HNH hnh
                      have hT2 := HT2.out.set0 2
                      have hR2' := HR2.out.setOther (i := 0) hne (.int .i64 2)
                      have hE3 := hE2.setCell (p := ⟨w.heap.size + 1, 0, none⟩) hle1 (.int .i64 2)
                      obtain ⟨g0, g1, g2, g3, g4, g5, g6⟩ := HT2.out.frees
                      obtain ⟨b0, b1, b2, b3, b4, b5, b6⟩ := HT2.out.cells
                      simp only [Num.zero] at b0 b1 b2 b3 b4 b5 b6 hT2
                      go_wp2_with fail
                      refine (r15text_any l k _ hl hlt).mono ?_
                      rintro e w4 ⟨rfl, hw4⟩
                      have hE4 := ext_trans hE3 hw4
                      have HT4 := Lib.hid (hT2.ext hw4)
                      have HR4 := Lib.hid (hR2'.ext hw4)
                      have htr : textR l k = if (textP (c :: u)).2 = 0 then ([], 0, 2) else ((textP (c :: u)).1, ((k + (textP (c :: u)).2 : Nat) : Int), 0) := by unfold textR; rw [HDR.out]
                      have hr3 := HR3.out
                      obtain ⟨X, hX⟩ : ∃ X, textP (c :: u) = X := ⟨_, rfl⟩
                      rw [hX] at htr hr3
                      obtain ⟨tx, m⟩ := X
                      simp only at htr hr3
                      have HR5 := Lib.hid hr3
                      clear hT2 hR2' hw4 hE3 hX hr3 HR3 g0 g1 g2 g3 g4 g5 g6 b0 b1 b2 b3 b4 b5 b6
                      obtain ⟨g0, g1, g2, g3, g4, g5, g6⟩ := (HT4.out).frees
                      obtain ⟨b0, b1, b2, b3, b4, b5, b6⟩ := (HT4.out).cells
                      obtain ⟨q0, q1, q2, q3, q4, q5, q6⟩ := (HR4.out).frees
                      obtain ⟨v0, v1, v2, v3, v4, v5, v6⟩ := (HR4.out).cells
                      simp only [Tok.zero, Num.zero] at b0 b1 b2 b3 b4 b5 b6 v0 v1 v2 v3 v4 v5 v6
                      by_cases hm0 : m = 0
                      · have HF : Hid (nextP l k0 = (Tok.zero, 2)) := Lib.hid (by
                          rw [HNX.out, HR5.out]; simp only; rw [if_pos hm0]; rfl)
                        rw [htr, if_pos hm0]
                        clear hm0 HR5 htr
                        go_wp2_with fail
                        have hN := ((HR4.out).store Tok.zero).cells
                        simp only [Tok.zero, Num.zero] at hN
                        obtain ⟨d0, d1, d2, d3, d4, d5, d6⟩ := hN
                        exact bodyPost_ret (v := .tuple #[.agg #[.int .i64 0, .string ⟨#[]⟩, .bool false, .string ⟨#[]⟩, .int .i64 0, .int .i64 0, .int .i64 0], .int .i64 (2)]) (by simp [results, Tryd.results12, go_sem, d0, d1, d2, d3, d4, d5, d6]) rfl ⟨by rw [HF.out]; rfl, below_store7 (hE4) (Nat.le_refl _) _ _ _ _ _ _ _⟩
                      · have HF : Hid (nextP l k0 = ((⟨2, tx, Num.zero, k, (k : Int) + m⟩ : Tok), 0)) := Lib.hid (by
                          rw [HNX.out, HR5.out]; simp only; rw [if_neg hm0, if_pos rfl]; rfl)
                        rw [htr, if_neg hm0]
                        have hc2 : ((k + m : Nat) : Int) = (k : Int) + m := by omega
                        clear hm0 HR5 htr
                        go_wp2_with fail
                        have hN := ((((HR4.out.setOther (i := 1) hne (.string ⟨tx.toArray⟩)).setOther (i := 6) hne (.int .i64 ((k : Int) + m)))).store ⟨2, tx, Num.zero, k, (k : Int) + m⟩).cells
                        simp only [Num.zero] at hN
                        obtain ⟨d0, d1, d2, d3, d4, d5, d6⟩ := hN
                        exact bodyPost_ret (v := .tuple #[.agg #[.int .i64 (2), .string ⟨(tx).toArray⟩, .bool (Num.zero).neg, .string ⟨(Num.zero).digits.toArray⟩, .int .i64 (Num.zero).exp, .int .i64 k, .int .i64 ((k : Int) + m)], .int .i64 0]) (by simp [results, Num.zero, Tryd.results12, go_sem, d0, d1, d2, d3, d4, d5, d6]) rfl ⟨by rw [HF.out]; rfl, below_store7 (((hE4.setCell hle1 _).setCell hle1 _)) (Nat.le_refl _) _ _ _ _ _ _ _⟩
                    · have q34 := b_ne c 34 34 rfl h34
                      have HR3 : Hid (readP (c :: u) Tok.zero = _) := Lib.hid (HR2.out.trans (if_neg (fun h => h.elim h39 h34)))
                      clear h34 h39 HR1 HR2 HNH hnh
                      go_wp2_with fail
                      refine (r15sign_any l k _ hl hlt).mono ?_
                      rintro e w4 ⟨rfl, hw4⟩
                      rw [HDR.out]
                      have hsl := signP_le (c :: u) (by simp)
                      rw [hku] at hsl
                      have hxm := HXS.out (signP (c :: u))
                      have hr3 := HR3.out
                      obtain ⟨m, hm⟩ : ∃ m, signP (c :: u) = m := ⟨_, rfl⟩
                      rw [hm] at hr3 hsl hxm ⊢
                      have HR5 := Lib.hid hr3
                      have hE4 := ext_trans hE2 hw4
                      have HT4 := Lib.hid (HT2.out.ext hw4)
                      have HR4 := Lib.hid (HR2.out.ext hw4)
                      clear hm hr3 HR3 hw4 hE2 HT2 HR2
                      obtain ⟨g0, g1, g2, g3, g4, g5, g6⟩ := (HT4.out).frees
                      obtain ⟨b0, b1, b2, b3, b4, b5, b6⟩ := (HT4.out).cells
                      obtain ⟨q0, q1, q2, q3, q4, q5, q6⟩ := (HR4.out).frees
                      obtain ⟨v0, v1, v2, v3, v4, v5, v6⟩ := (HR4.out).cells
                      simp only [Tok.zero, Num.zero] at b0 b1 b2 b3 b4 b5 b6 v0 v1 v2 v3 v4 v5 v6
                      by_cases hm0 : m = 0
                      · have HF : Hid (nextP l k0 = (Tok.zero, 2)) := Lib.hid (by
                          rw [HNX.out, HR5.out]; simp only; rw [if_pos hm0]; rfl)
                        subst hm0
                        clear HR5 hxm
                        go_wp2_with fail
                        have hN := ((HR4.out).store Tok.zero).cells
                        simp only [Tok.zero, Num.zero] at hN
                        obtain ⟨d0, d1, d2, d3, d4, d5, d6⟩ := hN
                        exact bodyPost_ret (v := .tuple #[.agg #[.int .i64 0, .string ⟨#[]⟩, .bool false, .string ⟨#[]⟩, .int .i64 0, .int .i64 0, .int .i64 0], .int .i64 (2)]) (by simp [results, Tryd.results12, go_sem, d0, d1, d2, d3, d4, d5, d6]) rfl ⟨by rw [HF.out]; rfl, below_store7 (hE4) (Nat.le_refl _) _ _ _ _ _ _ _⟩
                      · have HF : Hid (nextP l k0 = ((⟨4, (c :: u).take m, Num.zero, k, (k : Int) + m⟩ : Tok), 0)) := Lib.hid (by
                          rw [HNX.out, HR5.out]; simp only; rw [if_neg hm0, if_pos rfl]; rfl)
                        have hm2 : ((m : Int) == 0) = false := by simp; omega
                        clear hm0 HR5
                        go_wp2_with fail
                        have hN := (((((HR4.out.setOther (i := 0) hne (.int .i64 4)).setOther (i := 6) hne (.int .i64 ((k : Int) + m))).setOther (i := 1) hne (.string ⟨((c :: u).take m).toArray⟩))).store ⟨4, (c :: u).take m, Num.zero, k, (k : Int) + m⟩).cells
                        simp only [Num.zero] at hN
                        obtain ⟨d0, d1, d2, d3, d4, d5, d6⟩ := hN
                        exact bodyPost_ret (v := .tuple #[.agg #[.int .i64 (4), .string ⟨((c :: u).take m).toArray⟩, .bool (Num.zero).neg, .string ⟨(Num.zero).digits.toArray⟩, .int .i64 (Num.zero).exp, .int .i64 k, .int .i64 ((k : Int) + m)], .int .i64 0]) (by simp [results, Num.zero, Tryd.results12, go_sem, d0, d1, d2, d3, d4, d5, d6]) rfl ⟨by rw [HF.out]; rfl, below_store7 ((((hE4.setCell hle1 _).setCell hle1 _).setCell hle1 _)) (Nat.le_refl _) _ _ _ _ _ _ _⟩
      · obtain rfl : k = l.length := by omega
        have HP2 : Hid (nextP l k0 = ((⟨0, [], Num.zero, l.length, l.length⟩ : Tok), 0)) := Lib.hid (by
          rw [HP.out, HR.out, List.drop_length]; simp [nextR])
        obtain ⟨q0, q1, q2, q3, q4, q5, q6⟩ := HR1.out.frees
        obtain ⟨v0, v1, v2, v3, v4, v5, v6⟩ := HR1.out.cells
        have hrlt := HR1.out.lt
        simp only [Tok.zero, Num.zero] at v0 v1 v2 v3 v4 v5 v6
        have hx2 : ∀ W : World, Ext W (W.alloc (.cells #[.int .i64 0, .string ⟨#[]⟩, .bool false, .string ⟨#[]⟩, .int .i64 0, .int .i64 l.length, .int .i64 l.length] 36)) := fun W => (ext_refl W).alloc (Nat.le_refl _) _
        have hsz1 := hw0.size
        have HX2 := Lib.hid hx2
        clear hx2
        go_wp2_with fail
        have hN := ((HR1.out.store ⟨0, [], Num.zero, l.length, l.length⟩).ext (HX2.out _)).cells
        simp only [Tok.zero, Num.zero] at hN
        obtain ⟨d0, d1, d2, d3, d4, d5, d6⟩ := hN
        exact bodyPost_ret (v := .tuple #[.agg #[.int .i64 0, .string ⟨#[]⟩, .bool false, .string ⟨#[]⟩, .int .i64 0, .int .i64 l.length, .int .i64 l.length], .int .i64 0]) (by simp [results, Tryd.results12, go_sem, d0, d1, d2, d3, d4, d5, d6]) rfl ⟨by rw [HP2.out]; rfl, (below_store7 hw0 (Nat.le_refl _) _ _ _ _ _ _ _).trans ((HX2.out _).mono (by simp only [World.setCell, Array.size_modify]; omega))⟩
end Go.Proofs.YtglcpfnfldaimaaDoor
