/- token: what escape and text do. -/
import Derived.Test.YtglcpfnfldaimaaDoorTokB
import Derived.Test.YtglcpfnfldaimaaDoorWEscB
import Derived.Test.YtglcpfnfldaimaaDoorGrowT
set_option linter.unusedVariables false
set_option linter.unusedSimpArgs false
set_option maxRecDepth 100000
namespace Orange
/-- what stands behind a backslash in a text of a sign -/
def tokEsc (xs : List UInt8) (q : UInt8) : Int × Nat :=
  match xs with
  | [] => (0, 0)
  | c :: t => if c = q then (q.toNat, 1) else if c = 34 then (0, 0) else escape (c :: t)
/-- the next character of a text in signs, and how long it is; 0: there is none -/
def textC (q : UInt8) (b : List UInt8) : Int × Nat :=
  if (next b).2 ≠ 0 ∧ (next b).1 = 92 then (if (tokEsc (b.drop 1) q).2 = 0 then ((tokEsc (b.drop 1) q).1, 0) else ((tokEsc (b.drop 1) q).1, (tokEsc (b.drop 1) q).2 + 1))
  else if (next b).1 < 32 then ((next b).1, 0) else next b
def textL (q : UInt8) : Nat → List UInt8 → Option (List UInt8 × Nat)
  | f + 1, x :: t =>
    if x = q then some ([], 1)
    else if (textC q (x :: t)).2 = 0 then none
    else (textL q f ((x :: t).drop (textC q (x :: t)).2)).map fun p => (encP (textC q (x :: t)).1 ++ p.1, (textC q (x :: t)).2 + p.2)
  | _, _ => none
/-- a text in signs, and how long it is; 0: it is none -/
def textP (s : List UInt8) : List UInt8 × Nat :=
  match s with
  | [] => ([], 0)
  | q :: t => match textL q t.length t with
    | none => ([], 0)
    | some p => (p.1, p.2 + 1)
end Orange
namespace Go.Proofs.YtglcpfnfldaimaaDoor
open Go.RowKit Go.Mem Orange

set_option maxHeartbeats 800000 in
theorem escape_t (v : Value) (xs : List UInt8) (q : UInt8) (w : World) (hx : Bytes w v xs) :
    Calls Tryd.prog 66 #[v, .int .u8 q.toNat] w fun e w' => e = .returned (.tuple #[.int .i32 (tokEsc xs q).1, .int .i64 (tokEsc xs q).2]) ∧ w = w' := by
  have HX := Lib.hid hx
  rcases hx.cases with ⟨rfl, a, cap, rfl, _⟩ | ⟨c, t, b, o, cap, rfl, rfl, hcap, hcm, hlm, hbl, hc0, hc, hat⟩
  · go_enter Tryd.func66, Tryd.ntmps66
    go_wp2_with fail
    refine (escape_any _ [] _ HX.out).mono ?_
    rintro e w1 ⟨rfl, rfl⟩
    go_wp2_with fail
    go_ret2
    exact ⟨rfl, rfl⟩
  · have hc8 : c.toNat < 256 := c.toNat_lt
    have hq8 : q.toNat < 256 := q.toNat_lt
    clear hc hat hx
    by_cases h1 : c = q
    · have he : Hid (tokEsc (c :: t) q = ((q.toNat : Int), 1)) := Lib.hid (by simp [tokEsc, h1])
      subst h1
      go_enter Tryd.func66, Tryd.ntmps66
      go_wp2_with fail
      go_ret2
      exact ⟨by rw [he.out]; rfl, rfl⟩
    · have hb1 : ((c.toNat : Int) == q.toNat) = false := by
        simp only [beq_eq_false_iff_ne, ne_eq]; intro e; exact h1 (UInt8.toNat_inj.1 (by omega))
      by_cases h2 : c.toNat = 34
      · have he : Hid (tokEsc (c :: t) q = (0, 0)) := Lib.hid (by
          have : c = 34 := UInt8.toNat_inj.1 h2
          simp [tokEsc, h1, this]; intro e; exact absurd (this.trans e) h1)
        rw [h2] at hb1
        go_enter Tryd.func66, Tryd.ntmps66
        go_wp2_with fail
        go_ret2
        exact ⟨by rw [he.out]; rfl, rfl⟩
      · have hne : c ≠ 34 := fun e => h2 (by rw [e]; rfl)
        have he : Hid (tokEsc (c :: t) q = escape (c :: t)) := Lib.hid (by simp [tokEsc, h1, hne])
        have hb2 : ((c.toNat : Int) == 34) = false := by simp; omega
        clear h1 h2 hne
        go_enter Tryd.func66, Tryd.ntmps66
        go_wp2_with fail
        refine (escape_any _ (c :: t) _ HX.out).mono ?_
        rintro e w1 ⟨rfl, rfl⟩
        go_wp2_with fail
        go_ret2
        exact ⟨by rw [he.out]; first | rfl | done, rfl⟩

theorem escape_te (v : Value) (xs : List UInt8) (q : UInt8) (w : World) (hx : Bytes w v xs) :
    Calls Tryd.prog 66 #[v, .int .u8 q.toNat] w fun e w' => e = .returned (.tuple #[.int .i32 (tokEsc xs q).1, .int .i64 (tokEsc xs q).2]) ∧ Ext w w' :=
  (escape_t v xs q w hx).mono fun e w' ⟨h1, h2⟩ => ⟨h1, h2 ▸ ext_refl w⟩
theorem encP_le (r : Int) : (encP r).length ≤ 4 := by unfold encP; split <;> exact (enc_pos _).2
theorem escape_le (xs : List UInt8) : (escape xs).2 ≤ xs.length := by
  cases xs with
  | nil => simp [escape]
  | cons c t =>
    simp only [escape]
    split
    · simp
    split
    · simp
    split
    · simp
    · rename_i v hv
      have h4 : 4 ≤ t.length := by
        simp only [unit] at hv
        split at hv
        · cases hv
        · rename_i h; simp at h; omega
      split
      · simp; omega
      split
      · rename_i r hr
        have h10 : 10 ≤ t.length := by
          cases hd : t.drop 4 with
          | nil => rw [hd] at hr; cases hr
          | cons y u =>
            rw [hd] at hr
            have := congrArg List.length hd
            simp only [List.length_drop, List.length_cons] at this
            simp only [pair] at hr
            split at hr
            · cases hr
            · rename_i h; simp at h; omega
        simp; omega
      · simp
theorem tokEsc_le (xs : List UInt8) (q : UInt8) : (tokEsc xs q).2 ≤ xs.length := by
  cases xs with
  | nil => simp [tokEsc]
  | cons c t =>
    simp only [tokEsc]
    split
    · simp
    split
    · simp
    · exact escape_le _

theorem textC_le (q : UInt8) (b : List UInt8) : (textC q b).2 ≤ b.length := by
  have h1 := next_le b
  unfold textC
  split
  · rename_i h
    have h2 := tokEsc_le (b.drop 1) q
    simp only [List.length_drop] at h2
    split
    · simp
    · simp only; omega
  split
  · simp
  · exact h1.2

set_option maxHeartbeats 6400000 in
theorem text_any (L : List UInt8) (w : World) (hl : L.length ≤ 1000000000) (h0 : 0 < L.length) :
    Calls Tryd.prog 45 #[.string ⟨L.toArray⟩] w fun e w' => e = .returned (.tuple #[.string ⟨(textP L).1.toArray⟩, .int .i64 (textP L).2]) ∧ Ext w w' := by
  obtain ⟨q, T, rfl⟩ : ∃ q T, L = q :: T := by cases L with | nil => simp at h0 | cons q T => exact ⟨q, T, rfl⟩
  have hP : textP (q :: T) = match textL q T.length T with | none => ([], 0) | some p => (p.1, p.2 + 1) := rfl
  have HP := Lib.hid hP
  have hq8 : q.toNat < 256 := q.toNat_lt
  clear hP
  obtain ⟨L, hL⟩ : ∃ L, q :: T = L := ⟨_, rfl⟩
  have hlT : L.length = T.length + 1 := by rw [← hL]; rfl
  have hL0 : L.drop 1 = T := by rw [← hL]; rfl
  have hLq : L = q :: T := hL.symm
  rw [hL] at HP hl ⊢
  have HLQ := Lib.hid hLq
  have HL0 := Lib.hid hL0
  have HLT := Lib.hid hlT
  clear hL hLq hL0 h0
  have hsz : (ByteArray.mk L.toArray).size ≤ 140737488355328 := by show L.toArray.size ≤ _; simp; omega
  have hzz : (ByteArray.mk L.toArray).size = L.length := by show L.toArray.size = _; simp
  have HZZ := Lib.hid hzz
  have hl1 : 1 ≤ L.length := by omega
  clear hzz hlT
  go_enter Tryd.func45, Tryd.ntmps45
  go_wp2_with (refine wpList_bytes_of_string _ rfl 9 47 5 _ rfl ⟨L.toArray⟩ rfl Tryd.underlying9 Tryd.underlying47 Tryd.underlying5 hsz ?_; intro cap w1 hE1 hcap hcm hsz1 hat; rw [HZZ.out] at hcap)
  have HAT : Hid (BytesAt w1 (some ⟨w.heap.size, 0, none⟩) L) := Lib.hid hat
  have hgl : w.heap.size < w1.heap.size := by omega
  clear hat hsz1 hsz
  go_loopw [5, 6] (fun v iv wr => ∃ (k f : Nat) (done : List UInt8) (a5 : Option Addr) (c5 : Nat), iv = .int .i64 k ∧ 1 ≤ k ∧ k ≤ L.length ∧ L.length - k ≤ f ∧ v = .slice a5 done.length c5 ∧ done.length ≤ 4 * k ∧ Bytes wr (.slice a5 done.length c5) done ∧ Ext w1 wr ∧ textL q T.length T = (textL q f (L.drop k)).map (fun p => (done ++ p.1, k - 1 + p.2))) (fun _ iv _ => L.length - (intOf iv).toNat)
  case atStart =>
    refine ⟨1, T.length, [], none, 0, rfl, by omega, hl1, by have := HLT.out; omega, rfl, by simp, Bytes.nil _ _ _ (by omega), ext_refl _, ?_⟩
    rw [HL0.out]; simp
  case round =>
    obtain ⟨k, f, done, a5, c5, rfl, hk1, hk2, hf, rfl, hdl, hb5, hb, hr⟩ := hrel
    have HR := Lib.hid hr
    clear hr
    have hg0 : Hid (BytesAt wr (some ⟨w.heap.size, 0, none⟩) L) := Lib.hid (HAT.out.ext hb)
    have hcell : Hid (∀ i, (h : i < L.length) → wr.cell? ⟨w.heap.size, i, none⟩ = some (.int .u8 L[i].toNat)) := Lib.hid (fun i hi => by
      obtain ⟨b', o', e', _, hh⟩ := hg0.out (by omega)
      simp only [Option.some.injEq, Addr.mk.injEq, and_true] at e'
      obtain ⟨rfl, rfl⟩ := e'
      have := hh i hi
      rwa [Nat.zero_add] at this)
    have hc0 : wr.cell? ⟨w.heap.size, 0, none⟩ = some (.int .u8 q.toNat) := by
      have := hcell.out 0 (by omega)
      have e : L[0]'(by omega) = q := by have := HLQ.out; simp only [this, List.getElem_cons_zero]
      rwa [e] at this
    by_cases hlt : k < L.length
    · have hck := hcell.out k hlt
      have hdk : L.drop k = L[k] :: L.drop (k + 1) := List.drop_eq_getElem_cons hlt
      have hx8 : L[k].toNat < 256 := L[k].toNat_lt
      generalize L[k] = x at *
      have HDK := Lib.hid hdk
      clear hdk
      obtain ⟨f, rfl⟩ : ∃ f', f = f' + 1 := ⟨f - 1, by omega⟩
      by_cases hxq : x = q
      · subst hxq
        have hfin : Hid (textL x T.length T = some (done, k)) := Lib.hid (by rw [HR.out, HDK.out, textL, if_pos rfl]; simp; omega)
        go_wp2_with fail
        go_quiet (fail)
        have hb6 := hb5.ext (show Ext wr (wr.drewN nq) from below_drewN (ext_refl wr) _)
        have HPF : Hid (textP L = (done, k + 1)) := Lib.hid (by rw [HP.out, hfin.out])
        go_wp2_with (refine wpList_string_of_bytes _ rfl 47 9 5 _ rfl _ done rfl hb6 Tryd.underlying47 Tryd.underlying5 Tryd.underlying9 ?_)
        go_ret2
        exact ⟨by rw [HPF.out]; rfl, below_drewN (ext_trans hE1 hb) _⟩
      · have hbn : ((x.toNat : Int) != q.toNat) = true := by
          simp only [bne_iff_ne, ne_eq]; intro e; exact hxq (UInt8.toNat_inj.1 (by omega))
        have HXQ := Lib.hid hxq
        clear hxq
        go_wp2_with fail
        go_quiet (fail)
        have hEq : Ext wr (wr.drewN nq) := below_drewN (ext_refl wr) _
        have hbs : Bytes wr (.slice (some ⟨w.heap.size, 0 + k, none⟩) (L.length - k) (cap - k)) (L.drop k) := Bytes.mk (hg0.out.drop k) (by simp) (by omega) (by omega) (by omega)
        rw [Nat.zero_add] at hbs
        have hbs2 := hbs.ext hEq
        have hkc : k < cap := by omega
        go_wp2_with fail
        refine (next_any _ (L.drop k) _ hbs2).mono ?_
        rintro e w3 ⟨rfl, hw3⟩
        have hE3 := ext_trans hEq hw3
        have hnl := next_le (L.drop k)
        have hnb := next_bd (L.drop k)
        have hlen : (L.drop k).length = L.length - k := by simp
        rw [hlen] at hnl
        have hn0 : (next (L.drop k)).2 = 0 → (next (L.drop k)).1 = 0 := fun h => by rw [next_zero h]
        have hC0 : textC q (L.drop k) = if (next (L.drop k)).2 ≠ 0 ∧ (next (L.drop k)).1 = 92 then (if (tokEsc (L.drop (k + 1)) q).2 = 0 then ((tokEsc (L.drop (k + 1)) q).1, 0) else ((tokEsc (L.drop (k + 1)) q).1, (tokEsc (L.drop (k + 1)) q).2 + 1)) else if (next (L.drop k)).1 < 32 then ((next (L.drop k)).1, 0) else ((next (L.drop k)).1, (next (L.drop k)).2) := by
          rw [textC, List.drop_drop]
        obtain ⟨r, hr1⟩ : ∃ r, (next (L.drop k)).1 = r := ⟨_, rfl⟩
        obtain ⟨n, hn1⟩ : ∃ n, (next (L.drop k)).2 = n := ⟨_, rfl⟩
        rw [hr1, hn1] at hC0 hn0 ⊢
        rw [hn1] at hnl
        rw [hr1] at hnb
        have HC0 := Lib.hid hC0
        clear hlen hbs2 hEq hw3 hr1 hn1 hC0
        obtain ⟨hnl4, hnk⟩ := hnl
        obtain ⟨hr0, hrm⟩ := hnb
        by_cases h92 : n ≠ 0 ∧ r = 92
        · obtain ⟨hnz, rfl⟩ := h92
          have hC1 := HC0.out
          rw [if_pos ⟨hnz, rfl⟩] at hC1
          have hle := tokEsc_le (L.drop (k + 1)) q
          have hlen1 : (L.drop (k + 1)).length = L.length - (k + 1) := by simp
          rw [hlen1] at hle
          obtain ⟨r2, hr2⟩ : ∃ r, (tokEsc (L.drop (k + 1)) q).1 = r := ⟨_, rfl⟩
          obtain ⟨n2, hn2⟩ : ∃ n, (tokEsc (L.drop (k + 1)) q).2 = n := ⟨_, rfl⟩
          rw [hr2, hn2] at hC1
          rw [hn2] at hle
          have hesc : Hid (tokEsc (L.drop (k + 1)) q = (r2, n2)) := Lib.hid (by rw [← hr2, ← hn2])
          have HC1 := Lib.hid hC1
          have hn0p : (0 : Int) < n := by omega
          clear hr2 hn2 hC1 HC0 hlen1 hn0
          have hc03 : w3.cell? ⟨w.heap.size, 0, none⟩ = some (.int .u8 q.toNat) := by rw [hE3.cell (p := ⟨w.heap.size, 0, none⟩) (by have := hb.size; show w.heap.size < _; omega)]; exact hc0
          have hbk : Hid (Bytes w3 (.slice (if cap = k + 1 then some ⟨w.heap.size, 0, none⟩ else some ⟨w.heap.size, k + 1, none⟩) (L.length - (k + 1)) (cap - (k + 1))) (L.drop (k + 1))) := Lib.hid (by
            by_cases hc1 : cap = k + 1
            · have e : L.drop (k + 1) = [] := List.drop_of_length_le (by omega)
              rw [e, show L.length - (k + 1) = 0 by omega]; exact Bytes.nil _ _ _ (by omega)
            · rw [if_neg hc1]
              have := (hg0.out.drop (k + 1)).ext hE3
              rw [Nat.zero_add] at this
              exact Bytes.mk this (by simp) (by omega) (by omega) (by omega))
          go_wp2_with fail
          have u1 : IntKind.i64.wrap ((k : Int) + 1) = (k : Int) + 1 := IntWalk.i64_in _ (by omega)
          have u2 : ((k : Int) + 1).toNat = k + 1 := by omega
          have u3 : (0 : Int) ≤ (k : Int) + 1 := by omega
          have u4 : k + 1 ≤ L.length := by omega
          have u5 : (k : Int) + 1 ≤ L.length := by omega
          have u6 : k + 1 ≤ cap := by omega
          refine Grow.wp_region_lit (G := Ext) (B := fun w' => Ext w3 w' ∧ w'.cell? ⟨w.heap.size, 0, none⟩ = some (.int .u8 q.toNat)) (anc := fun _ => []) (I := fun j => if j = 7 then some (Grow.Spec.val Ext (.tuple #[.int .i32 r2, .int .i64 n2])) else none) (by kernel_rfl) (by kernel_rfl) (by kernel_rfl) ?_ ?_ ?_
          · exact fun w w' h hg => ⟨ext_trans h.1 hg, by rw [hg.cell (World.block_lt_of_cell? w _ h.2)]; exact h.2⟩
          · exact ⟨(ext_refl _).drew, by simpa using hc03⟩
          have u7 : 0 < L.length := by omega
          have u8 : (0 : Int) < L.length := by omega
          repeat
            (refine Grow.walk_step (fun K hK => ?_)
             first
             | (refine Grow.step_read (by rfl) (by rfl) ext_refl ?_
                apply Exists.intro
                refine ⟨fun w hB hF => ?_, ?_⟩
                · obtain ⟨hB1, hB2⟩ := hB
                  go_simp
                  try exact rfl
                go_simp
                refine hK _ _ ?_
                clear hK K)
             | (refine Grow.step_off (by rfl) ?_
                go_simp
                refine hK _ _ ?_
                clear hK K))
          refine Grow.walk_step (fun K hK => ?_)
          refine Grow.step_rel (by rfl) (by rfl) (fun w' hB hF => ?_) (fun v hv => ?_)
          · obtain ⟨hB1, hB2⟩ := hB
            go_simp
            refine Grow.relUpon_enter ((escape_te _ (L.drop (k + 1)) q w' (hbk.out.ext hB1)).mono ?_)
            rintro e w'' ⟨rfl, hw''⟩
            exact ⟨_, rfl, hw'', (by rw [hesc.out]; rfl), trivial⟩
          obtain rfl : v = _ := hv
          go_simp
          refine hK _ _ ?_
          clear hK K
          repeat
            (refine Grow.walk_step (fun K hK => ?_)
             first
             | (refine Grow.step_read (by rfl) (by rfl) ext_refl ?_
                apply Exists.intro
                refine ⟨fun w hB hF => ?_, ?_⟩
                · obtain ⟨hB1, hB2⟩ := hB
                  go_simp
                  try exact rfl
                go_simp
                refine hK _ _ ?_
                clear hK K)
             | (refine Grow.step_off (by rfl) ?_
                go_simp
                refine hK _ _ ?_
                clear hK K))
          refine Grow.walk_nil ?_
          intro w4 hB hF
          clear hF
          have hE4 := ext_trans hE3 hB.1
          clear hB u1 u2 u3 u4 u5 u6 u7 u8 hbk hc03
          by_cases hz2 : n2 = 0
          · have HNONE : Hid (textP L = ([], 0)) := Lib.hid (by
              rw [HP.out, HR.out, HDK.out, textL, if_neg HXQ.out, ← HDK.out, HC1.out, if_pos hz2]; rfl)
            subst hz2
            go_wp2_with fail
            all_goals
              go_ret2
              exact ⟨by rw [HNONE.out]; rfl, ext_trans (ext_trans hE1 hb) hE4⟩
          · have hC : Hid (textC q (L.drop k) = (r2, n2 + 1)) := Lib.hid (by rw [HC1.out, if_neg hz2])
            have hn2p : (0 : Int) < n2 := by omega
            have hn1 : 1 ≤ n2 + 1 := by omega
            have hnk : n2 + 1 ≤ L.length - k := by omega
            have q0 : ((n2 : Int) + 1 == 0) = false := by simp; omega
            clear hz2
            go_wp2_with fail
            all_goals
              refine (put_any _ done (r2) _ (hb5.ext hE4) (by omega)).mono ?_
              rintro e w7 ⟨v7, rfl, hown7, hw7⟩
              have hel := encP_le (r2)
              have hb7 := hown7.bytes (by rw [List.length_append]; omega)
              have hb7' := hb7
              obtain ⟨a7, c7, rfl, _⟩ := hb7'
              have hE7 := ext_trans hb (ext_trans hE4 hw7)
              have hl7 : (done ++ encP (r2)).length ≤ 4 * (k + (n2 + 1)) := by rw [List.length_append]; omega
              have hstep : Hid (textL q T.length T = (textL q f (L.drop (k + (n2 + 1)))).map (fun p => ((done ++ encP (r2)) ++ p.1, k + (n2 + 1) - 1 + p.2))) := Lib.hid (by
                rw [HR.out, HDK.out, textL, if_neg HXQ.out, ← HDK.out, hC.out, if_neg (by show ¬ (n2 + 1) = 0; omega), List.drop_drop]
                cases textL q f (L.drop (k + (n2 + 1))) with
                | none => rfl
                | some p => simp; omega)
              go_wp2_with fail
              go_roundw
              case rel => exact ⟨k + (n2 + 1), f, done ++ encP (r2), a7, c7, by go_num, by omega, by omega, by omega, by first | rfl | (rw [List.length_append]; rfl) | simp, hl7, hb7, hE7, hstep.out⟩
              case measure => simp [intOf]; omega
        · have h92' := h92
          have hC1 := HC0.out
          rw [if_neg h92] at hC1
          have HC1 := Lib.hid hC1
          clear hC1 HC0 h92
          by_cases h32 : r < 32
          · have HNONE : Hid (textP L = ([], 0)) := Lib.hid (by
              rw [HP.out, HR.out, HDK.out, textL, if_neg HXQ.out, ← HDK.out, HC1.out, if_pos h32]; rfl)
            have q92 : (r == 92) = false := by simp; omega
            clear h92' hn0
            go_wp2_with fail
            all_goals
              go_ret2
              exact ⟨by rw [HNONE.out]; rfl, ext_trans (ext_trans hE1 hb) hE3⟩
          · have hn1 : 1 ≤ n := by
              rcases Nat.eq_zero_or_pos n with h | h
              · have := hn0 h; omega
              · exact h
            have hC : Hid (textC q (L.drop k) = (r, n)) := Lib.hid (by rw [HC1.out, if_neg h32])
            have q92 : (r == 92) = false := by
              simp only [beq_eq_false_iff_ne, ne_eq]; intro e; exact h92' ⟨by omega, e⟩
            have q0 : ((n : Int) == 0) = false := by simp; omega
            clear h92' hn0
            go_wp2_with fail
            refine (put_any _ done (r) _ (hb5.ext hE3) (by omega)).mono ?_
            rintro e w7 ⟨v7, rfl, hown7, hw7⟩
            have hel := encP_le (r)
            have hb7 := hown7.bytes (by rw [List.length_append]; omega)
            have hb7' := hb7
            obtain ⟨a7, c7, rfl, _⟩ := hb7'
            have hE7 := ext_trans hb (ext_trans hE3 hw7)
            have hl7 : (done ++ encP (r)).length ≤ 4 * (k + (n)) := by rw [List.length_append]; omega
            have hstep : Hid (textL q T.length T = (textL q f (L.drop (k + (n)))).map (fun p => ((done ++ encP (r)) ++ p.1, k + (n) - 1 + p.2))) := Lib.hid (by
              rw [HR.out, HDK.out, textL, if_neg HXQ.out, ← HDK.out, hC.out, if_neg (by show ¬ (n) = 0; omega), List.drop_drop]
              cases textL q f (L.drop (k + (n))) with
              | none => rfl
              | some p => simp; omega)
            go_wp2_with fail
            go_roundw
            case rel => exact ⟨k + (n), f, done ++ encP (r), a7, c7, by go_num, by omega, by omega, by omega, by first | rfl | (rw [List.length_append]; rfl) | simp, hl7, hb7, hE7, hstep.out⟩
            case measure => simp [intOf]; omega
    · obtain rfl : k = L.length := by omega
      have HNONE : Hid (textP L = ([], 0)) := Lib.hid (by rw [HP.out, HR.out, List.drop_length]; cases f <;> rfl)
      go_wp2_with fail
      go_quiet (fail)
      go_wp2_with fail
      go_ret2
      exact ⟨by rw [HNONE.out]; rfl, below_drewN (ext_trans hE1 hb) _⟩
end Go.Proofs.YtglcpfnfldaimaaDoor
