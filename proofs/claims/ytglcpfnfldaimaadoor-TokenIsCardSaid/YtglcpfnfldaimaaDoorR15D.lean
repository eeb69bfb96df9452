/- orangeryref15: what All, IsName, Quote and Same do; what theirs of the laws does. -/
import Derived.Test.YtglcpfnfldaimaaDoorR15N
import Derived.Test.YtglcpfnfldaimaaDoorR15A
import Derived.Test.YtglcpfnfldaimaaDoorTokW
import Derived.Test.YtglcpfnfldaimaaDoorTokH
import Derived.Test.YtglcpfnfldaimaaDoorRefE
set_option linter.unusedVariables false
set_option linter.unusedSimpArgs false
set_option maxRecDepth 100000
namespace Go.Proofs.YtglcpfnfldaimaaDoor
open Go.RowKit Go.Mem Orange
theorem infoR : (Tryd.prog.info? 36).map (fun i => (i.zero, i.size, i.bytes)) = some (some (.agg #[.int .i64 0, .string ⟨#[]⟩, .bool false, .string ⟨#[]⟩, .int .i64 0, .int .i64 0, .int .i64 0]), 7, 72) := by kernel_rfl
/-- a slice of tokens that the call owns -/
def OwnR (w : World) (base : Nat) (v : Value) (ts : List Tok) : Prop := w.ownsRow base 36 7 v ts.length (tokRow ts)
theorem OwnR.nil (w : World) (base : Nat) : OwnR w base (.slice none 0 0) [] := World.ownsRow_nil w base _ 7
theorem OwnR.ext {w w' : World} {base : Nat} {v : Value} {ts : List Tok} (h : OwnR w base v ts) (hb : Ext w w') : OwnR w' base v ts := by
  obtain ⟨h1, h2⟩ := h
  refine ⟨h1, ?_⟩
  rcases h2 with h2 | ⟨g, cap, cur, rfl, hbg, hg, r⟩
  · exact .inl h2
  · exact .inr ⟨g, cap, cur, rfl, hbg, by rw [hb.block g (Array.getElem?_eq_some_iff.1 hg).1]; exact hg, r⟩
theorem OwnR.shape {w : World} {base : Nat} {v : Value} {ts : List Tok} (h : OwnR w base v ts) : ∃ a c, v = .slice a ts.length c := by
  rcases h.2 with ⟨rfl, h0⟩ | ⟨g, cap, cur, rfl, _⟩
  · exact ⟨_, _, by rw [h0]⟩
  · exact ⟨_, _, rfl⟩
theorem OwnR.toks {w : World} {base : Nat} {v : Value} {ts : List Tok} (h : OwnR w base v ts) : Toks w v ts := by
  obtain ⟨h1, h2⟩ := h
  rcases h2 with ⟨rfl, h0⟩ | ⟨g, cap, cur, rfl, hb, hg, hnc, hcm, hcs, ht⟩
  · exact ⟨none, 0, by rw [h0], by omega, by omega, fun hn => by omega⟩
  · have hcm' : cap ≤ 9223372036854775807 := by simpa [maxLen] using hcm
    refine ⟨_, _, rfl, hnc, hcm', fun hn => ⟨g, rfl, (Array.getElem?_eq_some_iff.1 hg).1, fun i j hi hj => ?_⟩⟩
    rw [← tokRow_at ts i j hi hj, ← ht, List.getElem?_take, if_pos (by omega), Array.getElem?_toList]
    simp [World.cell?, hg]

set_option maxHeartbeats 3200000 in
theorem r15all_any (l : List UInt8) (w : World) (hl : l.length ≤ 1000000000) :
    Calls Tryd.prog 13 #[.string ⟨l.toArray⟩] w fun e w' => (∃ v, e = .returned (.tuple #[v, .int .i64 (allP l).2]) ∧ Toks w' v (allP l).1) ∧ Ext w w' := by
  by_cases hbig : 8192 < l.length
  · have hP : Hid (allP l = ([], 4)) := Lib.hid (by rw [allP, if_pos hbig])
    go_enter Tryd.func13, Tryd.ntmps13
    go_wp2_with fail
    go_ret2
    exact ⟨⟨_, by rw [hP.out]; rfl, by rw [hP.out]; exact (OwnR.nil w 0).toks⟩, ext_refl w⟩
  · have hP : Hid (allP l = allL l (l.length + 1) 0 []) := Lib.hid (by rw [allP, if_neg hbig])
    have hd : decide (8192 < (l.length : Int)) = false := by simp; omega
    obtain ⟨i0, hi, hz0, hz1, hz2⟩ := info_parts infoR
    go_enter Tryd.func13, Tryd.ntmps13
    go_wp2_with fail
    go_loopw [4, 5, 6, 7] (fun v kv _ _ wr => ∃ (k f : Nat) (acc : List Tok), kv = .int .i64 k ∧ k ≤ l.length ∧ l.length - k < f ∧ acc.length ≤ k ∧ OwnR wr w.heap.size v acc ∧ Ext w wr ∧ allP l = allL l f k acc) (fun _ kv _ _ _ => l.length - (intOf kv).toNat)
    case atStart => exact ⟨0, l.length + 1, [], rfl, by omega, by omega, by simp, OwnR.nil _ _, ext_refl w, hP.out⟩
    case round =>
      obtain ⟨k, f, acc, rfl, hk, hf, hacc, hown, hb, hr⟩ := hrel
      obtain ⟨f, rfl⟩ : ∃ f', f = f' + 1 := ⟨f - 1, by omega⟩
      have HR : Hid (allP l = if (nextAt l k).2 ≠ 0 then ([], (nextAt l k).2) else if (nextAt l k).1.kind = 0 then (acc, 0) else allL l f (nextAt l k).1.upto.toNat (acc ++ [(nextAt l k).1])) := Lib.hid (hr.trans (by rw [allL]))
      have hne := nextAt_end l k hk
      have hnp : nextP l k = nextAt l k := by rw [nextP, if_neg (by omega), Int.toNat_natCast]
      clear hr
      go_wp2_with fail
      refine (r15next_any l k _ hl (by omega) (by omega)).mono ?_
      rintro e w2 ⟨rfl, hw2⟩
      rw [hnp]
      have hR := HR.out
      obtain ⟨X, hX⟩ : ∃ X, nextAt l k = X := ⟨_, rfl⟩
      rw [hX] at hR hne ⊢
      obtain ⟨⟨tk, ts, tn, tf, tu⟩, er⟩ := X
      simp only [tokCells] at hR hne ⊢
      have HR2 := Lib.hid hR
      clear hR HR hX hnp
      by_cases her : er = 0
      · subst her
        by_cases htk : tk = 0
        · subst htk
          have hfin : Hid (allP l = (acc, 0)) := Lib.hid (by rw [HR2.out]; rfl)
          go_wp2_with fail
          go_ret2
          have hx : Ext w2 (w2.alloc (.cells #[.int .i64 0, .string ⟨ts.toArray⟩, .bool tn.neg, .string ⟨tn.digits.toArray⟩, .int .i64 tn.exp, .int .i64 tf, .int .i64 tu] 36)) := (ext_refl w2).alloc (Nat.le_refl _) _
          exact ⟨⟨_, by rw [hfin.out]; rfl, by rw [hfin.out]; exact ((hown.ext hw2).ext hx).toks⟩, ext_trans hb (ext_trans hw2 hx)⟩
        · have hfin : Hid (allP l = allL l f tu.toNat (acc ++ [⟨tk, ts, tn, tf, tu⟩])) := Lib.hid (by rw [HR2.out]; simp [htk])
          have hk0 : (tk == 0) = false := by simpa using htk
          rcases hne rfl with h | ⟨hu1, hu2, _⟩
          · exact absurd h htk
          obtain ⟨u, rfl⟩ : ∃ u : Nat, tu = u := ⟨tu.toNat, by omega⟩
          clear HR2 hne htk
          have hx2 : Ext w2 (w2.alloc (.cells #[.int .i64 tk, .string ⟨ts.toArray⟩, .bool tn.neg, .string ⟨tn.digits.toArray⟩, .int .i64 tn.exp, .int .i64 tf, .int .i64 u] 36)) := (ext_refl w2).alloc (Nat.le_refl _) _
          have hx3 : Ext w2 ((w2.alloc (.cells #[.int .i64 tk, .string ⟨ts.toArray⟩, .bool tn.neg, .string ⟨tn.digits.toArray⟩, .int .i64 tn.exp, .int .i64 tf, .int .i64 u] 36)).alloc (.cells #[.int .i64 tk, .string ⟨ts.toArray⟩, .bool tn.neg, .string ⟨tn.digits.toArray⟩, .int .i64 tn.exp, .int .i64 tf, .int .i64 u] 36)) := hx2.alloc (by simp) _
          have hq2 : ((w2.alloc (.cells #[.int .i64 tk, .string ⟨ts.toArray⟩, .bool tn.neg, .string ⟨tn.digits.toArray⟩, .int .i64 tn.exp, .int .i64 tf, .int .i64 u] 36)).alloc (.cells #[.int .i64 tk, .string ⟨ts.toArray⟩, .bool tn.neg, .string ⟨tn.digits.toArray⟩, .int .i64 tn.exp, .int .i64 tf, .int .i64 u] 36)).heap[w2.heap.size]? = some (.cells #[.int .i64 tk, .string ⟨ts.toArray⟩, .bool tn.neg, .string ⟨tn.digits.toArray⟩, .int .i64 tn.exp, .int .i64 tf, .int .i64 u] 36 (0, 0)) := by
            rw [Below.heap_alloc _ _ _ (by simp)]; exact heap_alloc_new _ _
          have hq3 : ((w2.alloc (.cells #[.int .i64 tk, .string ⟨ts.toArray⟩, .bool tn.neg, .string ⟨tn.digits.toArray⟩, .int .i64 tn.exp, .int .i64 tf, .int .i64 u] 36)).alloc (.cells #[.int .i64 tk, .string ⟨ts.toArray⟩, .bool tn.neg, .string ⟨tn.digits.toArray⟩, .int .i64 tn.exp, .int .i64 tf, .int .i64 u] 36)).heap[w2.heap.size + 1]? = some (.cells #[.int .i64 tk, .string ⟨ts.toArray⟩, .bool tn.neg, .string ⟨tn.digits.toArray⟩, .int .i64 tn.exp, .int .i64 tf, .int .i64 u] 36 (0, 0)) := by
            have := heap_alloc_new (w2.alloc (.cells #[.int .i64 tk, .string ⟨ts.toArray⟩, .bool tn.neg, .string ⟨tn.digits.toArray⟩, .int .i64 tn.exp, .int .i64 tf, .int .i64 u] 36)) (.cells #[.int .i64 tk, .string ⟨ts.toArray⟩, .bool tn.neg, .string ⟨tn.digits.toArray⟩, .int .i64 tn.exp, .int .i64 tf, .int .i64 u] 36)
            simpa using this
          have hown3 := (hown.ext hw2).ext hx3
          have hbs : w.heap.size ≤ ((w2.alloc (.cells #[.int .i64 tk, .string ⟨ts.toArray⟩, .bool tn.neg, .string ⟨tn.digits.toArray⟩, .int .i64 tn.exp, .int .i64 tf, .int .i64 u] 36)).alloc (.cells #[.int .i64 tk, .string ⟨ts.toArray⟩, .bool tn.neg, .string ⟨tn.digits.toArray⟩, .int .i64 tn.exp, .int .i64 tf, .int .i64 u] 36)).heap.size := by have := hb.size; have := hw2.size; simp; omega
          have hll : acc.length + 1 ≤ 1000000001 := by omega
          have HQ2 := Lib.hid hq2
          have HQ3 := Lib.hid hq3
          have HX3 := Lib.hid hx3
          clear hq2 hq3 hx2 hx3
          go_wp2_with (at_builtin; refine wpList_append_src _ rfl _ _ 39 39 rfl w.heap.size 36 i0 (.agg #[.int .i64 0, .string ⟨#[]⟩, .bool false, .string ⟨#[]⟩, .int .i64 0, .int .i64 0, .int .i64 0]) 7 72 Tryd.underlying39 hi hz0 hz1 hz2 rfl (by decide) _ _ _ rfl hown3 _ 1 (tokCells ⟨tk, ts, tn, tf, u⟩).toList rfl (Src.ofSlice _ Tryd.underlying39 ⟨w2.heap.size + 1, 0, none⟩ 1 1 _ rfl (cells_of_block HQ3.out) (tok_one _)) (by simp only [maxLen]; omega) (by omega) hbs ?_; intro v5 w5 hown5 hg5; (have hq5 : w5.heap[w2.heap.size]? = some (.cells #[.int .i64 tk, .string ⟨ts.toArray⟩, .bool tn.neg, .string ⟨tn.digits.toArray⟩, .int .i64 tn.exp, .int .i64 tf, .int .i64 u] 36 (0, 0)) := by rw [hg5.block w2.heap.size (by simp; omega) (fun e => by have := (hown.lt _ e.symm).2; have := hw2.size; omega)]; exact HQ2.out); have hc6 : w5.cell? ⟨w2.heap.size, 6, none⟩ = some (.int .i64 u) := (by rw [cell_of_cells hq5]; rfl); have hownT : OwnR w5 w.heap.size v5 (acc ++ [⟨tk, ts, tn, tf, u⟩]) := (by unfold OwnR; rw [tokRow_app, List.length_append]; exact hown5); obtain ⟨a5, c5, rfl⟩ := hownT.shape; have hE5 : Ext w w5 := (hb.trans ((hw2.trans (HX3.out.mono hw2.size)).mono hb.size)).trans (Below.ofGrown hg5 hown3 hbs); clear hown5 hg5 hq5)
          go_roundw
          case rel =>
            exact ⟨u, f, acc ++ [⟨tk, ts, tn, tf, u⟩], rfl, by omega, by omega, by simp; omega, by simpa using hownT, hE5, by rw [hfin.out, Int.toNat_natCast]⟩
          case measure => simp [intOf]; omega
      · have hfin : Hid (allP l = ([], er)) := Lib.hid (by rw [HR2.out, if_pos her])
        have he0 : (er != 0) = true := by simpa using her
        clear HR2 her hne
        go_wp2_with fail
        go_ret2
        have hx : Ext w2 (w2.alloc (.cells #[.int .i64 tk, .string ⟨ts.toArray⟩, .bool tn.neg, .string ⟨tn.digits.toArray⟩, .int .i64 tn.exp, .int .i64 tf, .int .i64 tu] 36)) := (ext_refl w2).alloc (Nat.le_refl _) _
        exact ⟨⟨_, by rw [hfin.out]; rfl, by rw [hfin.out]; exact (OwnR.nil w 0).toks.ext (ext_trans hb (ext_trans hw2 hx))⟩, ext_trans hb (ext_trans hw2 hx)⟩

set_option maxHeartbeats 800000 in
theorem r15isname_any (l : List UInt8) (w : World) (hl : l.length ≤ 1000000000) :
    Calls Tryd.prog 19 #[.string ⟨l.toArray⟩] w fun e w' => e = .returned (.bool (isName l)) ∧ Ext w w' := by
  cases l with
  | nil =>
    go_enter Tryd.func19, Tryd.ntmps19
    go_wp2_with fail
    go_ret
    exact ⟨rfl, ext_refl w⟩
  | cons c t =>
    have h0 : ∀ h, (ByteArray.mk (c :: t).toArray)[0]'h = c := fun _ => rfl
    have hn : isName (c :: t) = (letterR (c.toNat : Int) && nameOk (c :: t) && decide (nameLen (c :: t) = t.length + 1)) := rfl
    have hnr : nameR (c :: t) 0 = if nameOk (c :: t) = true then ((nameLen (c :: t) : Nat) : Int) else -1 := by unfold nameR; simp
    have HN := Lib.hid hn
    have HNR := Lib.hid hnr
    clear hn hnr
    go_enter Tryd.func19, Tryd.ntmps19
    go_wp2_with fail
    refine (begB_any c _).mono ?_
    rintro e w1 ⟨rfl, rfl⟩
    cases hle : letterR (c.toNat : Int) with
    | false =>
      go_wp2_with fail
      go_ret
      exact ⟨ret_bool (by rw [HN.out, hle]; rfl), ext_refl w⟩
    | true =>
      go_wp2_with fail
      refine (r15name_any (c :: t) 0 _ hl (by simp)).mono ?_
      rintro e w2 ⟨rfl, hw2⟩
      rw [HNR.out]
      cases hok : nameOk (c :: t) with
      | false =>
        rw [if_neg (by decide)]
        have hq : ((-1 : Int) == (t.length : Int) + 1) = false := by simp; omega
        go_wp2_with fail
        go_ret
        exact ⟨ret_bool (by rw [HN.out, hle, hok]; rfl), hw2⟩
      | true =>
        rw [if_pos rfl]
        obtain ⟨m, hm⟩ : ∃ m, nameLen (c :: t) = m := ⟨_, rfl⟩
        rw [hm]
        have HF : Hid (isName (c :: t) = ((m : Int) == (t.length : Int) + 1)) := Lib.hid (by
          rw [HN.out, hle, hok, hm]
          rw [Bool.eq_iff_iff]; simp; omega)
        clear hm HN HNR
        go_wp2_with fail
        go_ret
        exact ⟨ret_bool (by rw [HF.out]), hw2⟩
theorem tquoC_len (c : UInt8) : (tquoC c).length ≤ 6 := by
  unfold tquoC; split
  · decide
  · split
    · decide
    · exact quoC_len c
theorem tquo_snoc (l : List UInt8) (k : Nat) (h : k < l.length) : tquoL (l.take (k + 1)) = tquoL (l.take k) ++ tquoC l[k] := by
  unfold tquoL; rw [List.take_succ_eq_append_getElem h, List.flatMap_append, List.flatMap_singleton]
set_option maxHeartbeats 1600000 in
theorem r15quote_any (l : List UInt8) (w : World) (hl : l.length ≤ 1000000000) :
    Calls Tryd.prog 17 #[.string ⟨l.toArray⟩] w fun e w' => e = .returned (.string ⟨(tquote l).toArray⟩) ∧ Ext w w' := by
  go_enter Tryd.func17, Tryd.ntmps17
  go_wp2_with fail
  go_loopw [3, 4, 5] (fun v kv _ wr => ∃ (k : Nat) (out : List UInt8), kv = .int .i64 k ∧ k ≤ l.length ∧ v = .string ⟨out.toArray⟩ ∧ out.length ≤ 6 * k + 1 ∧ out = 39 :: tquoL (l.take k) ∧ Ext w wr) (fun _ kv _ _ => l.length - (intOf kv).toNat)
  case atStart => exact ⟨0, [39], rfl, by omega, rfl, by simp, rfl, ext_refl w⟩
  case round =>
    obtain ⟨k, out, rfl, hk, rfl, hol, ho, hE⟩ := hrel
    have HO := Lib.hid ho
    clear ho
    by_cases hlt : k < l.length
    · have hg := sx_get l k hlt
      have hone := sx_one l k hlt
      have hsn := tquo_snoc l k hlt
      generalize l[k] = c at *
      have HS := Lib.hid hsn
      clear hsn
      by_cases h39 : c = 39
      · have q39 := b_eq c 39 39 rfl h39
        have happ : (ByteArray.mk out.toArray) ++ ⟨#[92, 39]⟩ = ⟨(out ++ [92, 39]).toArray⟩ := sx_app out [92, 39]
        have HN : Hid (out ++ [92, 39] = 39 :: tquoL (l.take (k + 1))) := Lib.hid (by rw [HS.out, HO.out, h39]; rfl)
        clear h39
        go_wp2_with fail
        go_roundw
        case rel => exact ⟨k + 1, out ++ [92, 39], by go_num, by omega, rfl, by simp; omega, HN.out, hE⟩
        case measure => simp [intOf]; omega
      · have q39 := b_ne c 39 39 rfl h39
        by_cases h34 : c = 34
        · have q34 := b_eq c 34 34 rfl h34
          have happ : (ByteArray.mk out.toArray) ++ ⟨#[34]⟩ = ⟨(out ++ [34]).toArray⟩ := sx_app out [34]
          have HN : Hid (out ++ [34] = 39 :: tquoL (l.take (k + 1))) := Lib.hid (by rw [HS.out, HO.out, h34]; rfl)
          clear h34 h39
          go_wp2_with fail
          go_roundw
          case rel => exact ⟨k + 1, out ++ [34], by go_num, by omega, rfl, by simp; omega, HN.out, hE⟩
          case measure => simp [intOf]; omega
        · have q34 := b_ne c 34 34 rfl h34
          have HQ : Hid (tquoC c = quoC c) := Lib.hid (by unfold tquoC; rw [if_neg h39, if_neg h34])
          clear h34 h39
          go_wp2_with fail
          refine (refquote_any ⟨[c].toArray⟩ _ (by show [c].toArray.size ≤ _; simp)).mono ?_
          rintro e w3 ⟨rfl, hw3⟩
          have hqe : quote (ByteArray.mk [c].toArray).data.toList = 34 :: (quoC c ++ [34]) := by
            show 34 :: (quoL [c] ++ [34]) = _
            simp [quoL]
          rw [hqe]
          have hql := quoC_len c
          obtain ⟨Q, hQ⟩ : ∃ Q, quoC c = Q := ⟨_, rfl⟩
          rw [hQ] at hql ⊢
          have hmid := mid_ext Q
          have hsz : (ByteArray.mk (34 :: (Q ++ [34])).toArray).size = Q.length + 2 := by rw [sx_size]; simp
          have happ := sx_app out Q
          have HN : Hid (out ++ Q = 39 :: tquoL (l.take (k + 1))) := Lib.hid (by rw [HS.out, HO.out, HQ.out, hQ]; rfl)
          have hE3 := ext_trans hE hw3
          generalize 34 :: (Q ++ [34]) = Z at *
          clear hqe hQ
          go_wp2_with fail
          go_roundw
          case rel => exact ⟨k + 1, out ++ Q, by go_num, by omega, rfl, by simp; omega, HN.out, hE3⟩
          case measure => simp [intOf]; omega
    · obtain rfl : k = l.length := by omega
      have happ : (ByteArray.mk out.toArray) ++ ⟨#[39]⟩ = ⟨(out ++ [39]).toArray⟩ := sx_app out [39]
      have HF : Hid (out ++ [39] = tquote l) := Lib.hid (by rw [HO.out, List.take_length]; rfl)
      go_wp2_with fail
      go_ret
      exact ⟨by first | rfl | (rw [← HF.out]; rfl), hE⟩
def sameT : List Tok → List Tok → Bool
  | [], [] => true
  | a :: l, b :: m => decide (a = b) && sameT l m
  | _, _ => false
theorem sameT_iff : ∀ (a b : List Tok), sameT a b = decide (a = b)
  | [], [] => rfl
  | [], _ :: _ => rfl
  | _ :: _, [] => rfl
  | a :: l, b :: m => by rw [sameT, sameT_iff l m]; rw [Bool.eq_iff_iff]; simp
set_option maxHeartbeats 1600000 in
theorem neq_tok (a b : Tok) (w : World) : (binOp .neq 36 (.agg (tokCells a)) (.agg (tokCells b))).run Tryd.prog w = .ok (.bool (!decide (a = b))) w := by
  obtain ⟨a1, a2, ⟨a3, a4, a5⟩, a6, a7⟩ := a
  obtain ⟨b1, b2, ⟨b3, b4, b5⟩, b6, b7⟩ := b
  simp only [tokCells, Tok.mk.injEq, Num.mk.injEq]
  by_cases h1 : a1 = b1
  · by_cases h2 : a2 = b2
    · by_cases h3 : a3 = b3
      · by_cases h4 : a4 = b4
        · by_cases h5 : a5 = b5
          · by_cases h6 : a6 = b6
            · by_cases h7 : a7 = b7
              · subst h1; subst h2; subst h3; subst h4; subst h5; subst h6; subst h7
                go_simp
              · have q7 : (a7 == b7) = false := by simpa using h7
                subst h1; subst h2; subst h3; subst h4; subst h5; subst h6
                go_simp
            · have q6 : (a6 == b6) = false := by simpa using h6
              subst h1; subst h2; subst h3; subst h4; subst h5
              go_simp
          · have q5 : (a5 == b5) = false := by simpa using h5
            subst h1; subst h2; subst h3; subst h4
            go_simp
        · have q4 : (a4 == b4) = false := by simpa using h4
          subst h1; subst h2; subst h3
          go_simp
      · have q3 : (a3 == b3) = false := by simpa using h3
        subst h1; subst h2
        go_simp
    · have q2 : (a2 == b2) = false := by simpa using h2
      subst h1
      go_simp
  · have q1 : (a1 == b1) = false := by simpa using h1
    go_simp
set_option maxHeartbeats 1600000 in
theorem r15same_any (v u : Value) (ts us : List Tok) (w : World) (hv : Toks w v ts) (hu : Toks w u us) :
    Calls Tryd.prog 14 #[v, u] w fun e w' => e = .returned (.bool (decide (ts = us))) ∧ Ext w w' := by
  obtain ⟨av, cv, rfl, hc1⟩ := hv.shape
  obtain ⟨au, cu, rfl, hc2⟩ := hu.shape
  have hb1 : ts.length ≤ 9223372036854775807 := by obtain ⟨_, _, _, h1, h2, _⟩ := hv; omega
  have hb2 : us.length ≤ 9223372036854775807 := by obtain ⟨_, _, _, h1, h2, _⟩ := hu; omega
  by_cases hlen : ts.length = us.length
  · have HV := Lib.hid hv
    have HU := Lib.hid hu
    have hlb : ((ts.length : Int) != us.length) = false := by simp; omega
    have HL := Lib.hid hlen
    clear hv hu hlen
    go_enter Tryd.func14, Tryd.ntmps14
    go_wp2_with fail
    go_loopw [5] (fun kv wr => ∃ k n : Nat, kv = .int .i64 k ∧ k ≤ ts.length ∧ wr = w.drewN n ∧ ts.take k = us.take k) (fun kv _ => ts.length - (intOf kv).toNat)
    case atStart => exact ⟨0, 0, rfl, by omega, rfl, rfl⟩
    case round =>
      obtain ⟨k, n, rfl, hk, rfl, hr⟩ := hrel
      have HR := Lib.hid hr
      clear hr
      by_cases hlt : k < ts.length
      · have hlu : k < us.length := by have := HL.out; omega
        obtain ⟨g1, rfl, hg1, hx⟩ := HV.out.at' (by omega)
        obtain ⟨g2, rfl, hg2, hy⟩ := HU.out.at' (by omega)
        have hxk := hx k hlt
        have hyk := hy k hlu
        have ht1 : ts.take (k + 1) = ts.take k ++ [ts[k]] := List.take_succ_eq_append_getElem hlt
        have ht2 : us.take (k + 1) = us.take k ++ [us[k]] := List.take_succ_eq_append_getElem hlu
        have hne : ts[k] ≠ us[k] → ¬ ts = us := fun h e => h (by subst e; rfl)
        generalize ts[k] = a at *
        generalize us[k] = b at *
        obtain ⟨a1, a2, ⟨a3, a4, a5⟩, a6, a7⟩ := a
        obtain ⟨b1, b2, ⟨b3, b4, b5⟩, b6, b7⟩ := b
        obtain ⟨x0, x1, x2, x3, x4, x5, x6⟩ := hxk
        obtain ⟨y0, y1, y2, y3, y4, y5, y6⟩ := hyk
        simp only at x0 x1 x2 x3 x4 x5 x6 y0 y1 y2 y3 y4 y5 y6
        have HT1 := Lib.hid ht1
        have HT2 := Lib.hid ht2
        have HNE := Lib.hid hne
        have i1 : (k : Int) < ts.length := by omega
        have i2 : (k : Int) < us.length := by omega
        have i3 : (0 : Int) ≤ k := by omega
        clear hx hy ht1 ht2 hne
        have hneq := fun w => neq_tok ⟨a1, a2, ⟨a3, a4, a5⟩, a6, a7⟩ ⟨b1, b2, ⟨b3, b4, b5⟩, b6, b7⟩ w
        simp only [tokCells] at hneq
        by_cases hab : (⟨a1, a2, ⟨a3, a4, a5⟩, a6, a7⟩ : Tok) = ⟨b1, b2, ⟨b3, b4, b5⟩, b6, b7⟩
        · have hd : decide ((⟨a1, a2, ⟨a3, a4, a5⟩, a6, a7⟩ : Tok) = ⟨b1, b2, ⟨b3, b4, b5⟩, b6, b7⟩) = true := decide_eq_true hab
          rw [hd] at hneq
          have HN : Hid (ts.take (k + 1) = us.take (k + 1)) := Lib.hid (by rw [HT1.out, HT2.out, HR.out, hab])
          clear hd hab
          go_wp2_with fail
          go_quiet (fail)
          go_wp2_with fail
          go_roundw
          case rel => exact ⟨k + 1, _, by go_num, by omega, rfl, HN.out⟩
          case measure => simp [intOf]; omega
        · have hd : decide ((⟨a1, a2, ⟨a3, a4, a5⟩, a6, a7⟩ : Tok) = ⟨b1, b2, ⟨b3, b4, b5⟩, b6, b7⟩) = false := decide_eq_false hab
          rw [hd] at hneq
          have HF : Hid (decide (ts = us) = false) := Lib.hid (decide_eq_false (HNE.out hab))
          clear hd hab
          go_wp2_with fail
          go_quiet (fail)
          go_wp2_with fail
          go_ret
          exact ⟨ret_bool HF.out.symm, below_drewN (below_drewN (ext_refl w) _) _⟩
      · obtain rfl : k = ts.length := by omega
        have HF : Hid (ts = us) := Lib.hid (by have := HR.out; rw [List.take_length, HL.out, List.take_length] at this; exact this)
        go_wp2_with fail
        go_ret
        exact ⟨ret_bool (by have := HF.out; simp [this]), below_drewN (ext_refl w) _⟩
  · have hlb : ((ts.length : Int) != us.length) = true := by simp; omega
    have HF : Hid (decide (ts = us) = false) := Lib.hid (by simp; intro e; rw [e] at hlen; exact hlen rfl)
    clear hlen
    go_enter Tryd.func14, Tryd.ntmps14
    go_wp2_with fail
    go_ret
    exact ⟨ret_bool HF.out.symm, ext_refl w⟩

set_option maxHeartbeats 6400000 in
theorem theirs_any (v : Value) (ts : List Tok) (w : World) (hv : Toks w v ts) (hl : ts.length ≤ 1000000000) :
    Calls Tryd.prog 15 #[v] w fun e w' => (∃ v', e = .returned v' ∧ Toks w' v' ts) ∧ Ext w w' := by
  obtain ⟨av, cv, rfl, hc1⟩ := hv.shape
  have hb1 : ts.length ≤ 9223372036854775807 := by omega
  have HV := Lib.hid hv
  obtain ⟨i0, hi, hz0, hz1, hz2⟩ := info_parts infoR
  clear hv
  go_enter Tryd.func15, Tryd.ntmps15
  go_wp2_with fail
  go_loopw [3, 4] (fun ov kv wr => ∃ k : Nat, kv = .int .i64 k ∧ k ≤ ts.length ∧ OwnR wr w.heap.size ov (ts.take k) ∧ Ext w wr) (fun _ kv _ => ts.length - (intOf kv).toNat)
  case atStart => exact ⟨0, rfl, by omega, OwnR.nil _ _, ext_refl w⟩
  case round =>
    obtain ⟨k, rfl, hk, hown, hE⟩ := hrel
    by_cases hlt : k < ts.length
    · obtain ⟨g, rfl, hg, hx⟩ := (HV.out.ext hE).at' (by omega)
      have hxk := hx k hlt
      have ht1 : ts.take (k + 1) = ts.take k ++ [ts[k]] := List.take_succ_eq_append_getElem hlt
      generalize ts[k] = a at *
      obtain ⟨a1, a2, ⟨a3, a4, a5⟩, a6, a7⟩ := a
      obtain ⟨x0, x1, x2, x3, x4, x5, x6⟩ := hxk
      simp only at x0 x1 x2 x3 x4 x5 x6
      have HT1 := Lib.hid ht1
      have htl : (ts.take k).length = k := by simp; omega
      have i1 : (k : Int) < ts.length := by omega
      have i3 : (0 : Int) ≤ k := by omega
      have HC : Hid (∀ w', Ext wr w' → w'.cell? ⟨g, k * 7, none⟩ = some (.int .i64 a1) ∧ w'.cell? ⟨g, k * 7 + 1, none⟩ = some (.string ⟨a2.toArray⟩) ∧ w'.cell? ⟨g, k * 7 + 2, none⟩ = some (.bool a3) ∧ w'.cell? ⟨g, k * 7 + 3, none⟩ = some (.string ⟨a4.toArray⟩) ∧ w'.cell? ⟨g, k * 7 + 4, none⟩ = some (.int .i64 a5) ∧ w'.cell? ⟨g, k * 7 + 5, none⟩ = some (.int .i64 a6) ∧ w'.cell? ⟨g, k * 7 + 6, none⟩ = some (.int .i64 a7)) := Lib.hid (fun w' h => ⟨(h.cell (p := ⟨g, k * 7, none⟩) hg).trans x0, (h.cell (p := ⟨g, k * 7 + 1, none⟩) hg).trans x1, (h.cell (p := ⟨g, k * 7 + 2, none⟩) hg).trans x2, (h.cell (p := ⟨g, k * 7 + 3, none⟩) hg).trans x3, (h.cell (p := ⟨g, k * 7 + 4, none⟩) hg).trans x4, (h.cell (p := ⟨g, k * 7 + 5, none⟩) hg).trans x5, (h.cell (p := ⟨g, k * 7 + 6, none⟩) hg).trans x6⟩)
      have HTL := Lib.hid htl
      have HTL2 : Hid ((ts.take (k + 1)).length = k + 1) := Lib.hid (by simp; omega)
      obtain ⟨ao, co, hsh⟩ := hown.shape
      rw [htl] at hsh
      subst hsh
      have HOWN := Lib.hid hown
      clear hx ht1 x0 x1 x2 x3 x4 x5 x6 htl hown
      go_wp2_with fail
      refine Grow.wp_region_tail (G := Ext) (B := fun w' => Ext wr w') (anc := fun _ => []) (I := fun j => if j = 27 then some (Grow.Spec.slice 1 1 (.cells #[.int .i64 a1, .string ⟨a2.toArray⟩, .bool a3, .string ⟨a4.toArray⟩, .int .i64 a5, .int .i64 a6, .int .i64 a7] 36 (0, 0))) else none) 28 (by kernel_rfl) (by kernel_rfl) (by kernel_rfl) ?_ ?_ ?_
      · exact fun w' w'' h hg' => ext_trans h hg'
      · exact (ext_refl _).drew
      · simp only [List.take_succ_cons, List.take_zero, List.drop_succ_cons, List.drop_zero]
        iterate 27
          (refine Grow.walk_step (fun K hK => ?_)
           refine Grow.step_read (by rfl) (by rfl) ext_refl ?_
           apply Exists.intro
           refine ⟨fun w hB hF => ?_, ?_⟩
           · obtain ⟨x0, x1, x2, x3, x4, x5, x6⟩ := HC.out _ hB
             go_simp
             try exact rfl
           go_simp
           refine hK _ _ ?_
           clear hK K)
        refine Grow.walk_step (fun K hK => ?_)
        refine Grow.step_rel (by rfl) (by rfl) (fun w hB hF => ?_) (fun v hv => ?_)
        · go_simp
          exact Grow.relUpon_value ((ext_refl _).alloc (Nat.le_refl _) _) ⟨_, rfl⟩ ⟨_, rfl, by simp, heap_alloc_new _ _⟩
        go_simp
        refine hK _ _ ?_
        clear hK K
        refine Grow.walk_nil ?_
        intro w3 hB hF
        have hF27 := hF 27
        simp only [Grow.upd, Grow.Spec.slice, if_true] at hF27
        obtain ⟨b3, rfl, hb3, hh3⟩ := hF27
        have hown3 := HOWN.out.ext hB
        have hbase3 : w.heap.size ≤ w3.heap.size := Nat.le_trans hE.size hB.size
        have HB := Lib.hid hB
        clear hF hB hv
        unfold OwnR at hown3
        rw [HTL.out] at hown3
        go_wp2_with (at_builtin; refine wpList_append_src _ rfl _ _ 39 39 rfl w.heap.size 36 i0 (.agg #[.int .i64 0, .string ⟨#[]⟩, .bool false, .string ⟨#[]⟩, .int .i64 0, .int .i64 0, .int .i64 0]) 7 72 Tryd.underlying39 hi hz0 hz1 hz2 rfl (by decide) _ _ _ rfl hown3 _ 1 (tokCells ⟨a1, a2, ⟨a3, a4, a5⟩, a6, a7⟩).toList rfl (Src.ofSlice _ Tryd.underlying39 ⟨b3, 0, none⟩ 1 1 _ rfl (cells_of_block hh3) (tok_one _)) (by simp only [maxLen]; omega) (by omega) hbase3 ?_; intro v5 w5 hown5 hg5; (have hownR : OwnR w5 w.heap.size v5 (ts.take (k + 1)) := (by unfold OwnR; rw [HT1.out, tokRow_app, List.length_append, HTL.out]; exact hown5)); obtain ⟨a5', c5', hsh5⟩ := hownR.shape; rw [HTL2.out] at hsh5; subst hsh5; have hE5 : Ext w w5 := ((hE.trans (HB.out.mono hE.size)).trans (Below.ofGrown hg5 hown3 hbase3)); clear hown5 hg5 hown3)
        go_roundw
        case rel => exact ⟨k + 1, by go_num, by omega, hownR, hE5⟩
        case measure => simp [intOf]; omega
    · obtain rfl : k = ts.length := by omega
      rw [List.take_length] at hown
      go_wp2_with fail
      go_ret
      exact ⟨⟨_, rfl, hown.toks⟩, hE⟩
end Go.Proofs.YtglcpfnfldaimaaDoor
