/- A text of this proof. -/
import Derived.Test.YtjapbjmeoaagmaaGreatDoorEPrintIsPaO
import Derived.Test.YtjapbjmeoaagmaaGreatDoorEPrintIsSh
set_option linter.unusedVariables false
set_option linter.unusedSimpArgs false
set_option maxRecDepth 100000
namespace Go.Proofs.YtjapbjmeoaagmaaGreatDoor
open Go.RowKit Go.Mem Orange
theorem encP_le (r : Int) : (encP r).length ≤ 4 := by unfold encP; split <;> exact (enc_pos _).2
theorem escape_le (xs : List UInt8) : (escape xs).2 ≤ xs.length := by
 cases xs with
 | nil => simp [escape]
 | cons c t =>
   simp only [escape]; split
   · simp
   split
   · simp
   split
   · simp
   · rename_i v hv
     have h4 : 4 ≤ t.length := by
      simp only [unit] at hv; split at hv
      · cases hv
      · rename_i h; simp at h; omega
     split
     · simp; omega
     split
     · rename_i r hr
       have h10 : 10 ≤ t.length := by
        cases hd : t.drop 4 with
        | nil => rw [hd] at hr; cases hr
        | cons y u =>
          rw [hd] at hr; have := congrArg List.length hd; simp only [List.length_drop, List.length_cons] at this; simp only [pair] at hr; split at hr
          · cases hr
          · rename_i h; simp at h; omega
       simp; omega
     · simp
theorem PS.at {w : World} {p bk o a n : Nat} {cap : Nat} {xs : List UInt8} (h : PS w p (.slice (some ⟨bk, o, none⟩) xs.length cap) xs a n) : BytesAt w (some ⟨bk, o, none⟩) xs := by
 obtain ⟨a8, c8, e8, _, _, _, h8⟩ := h.2.1.bytes; simp only [Value.slice.injEq] at e8; obtain ⟨rfl, _, rfl⟩ := e8; exact h8
theorem BytesAt.slice {w : World} {bk o cap : Nat} {xs : List UInt8} (h : BytesAt w (some ⟨bk, o, none⟩) xs) (hn : xs.length ≤ cap) (hm : cap ≤ 9223372036854775807) (hx : xs.length ≤ 65536) (k : Nat) (hk : k ≤ xs.length) :
 Bytes w (.slice (if cap = k then some ⟨bk, o, none⟩ else some ⟨bk, o + k, none⟩) (xs.length - k) (cap - k)) (xs.drop k) := by
 by_cases hc : cap = k
 · rw [if_pos hc, show xs.length - k = 0 by omega, List.drop_of_length_le (by omega)]; exact Bytes.nil w _ _ (by omega)
 · rw [if_neg hc]; exact Bytes.mk (h.drop k) (by simp) (by omega) (by omega) (by omega)
theorem OwnB.mono {w : World} {base base' : Nat} {e : TypeId} {v : Value} {xs : List UInt8} (h : OwnB w base e v xs) (hb : base' ≤ base) : OwnB w base' e v xs := by
 obtain ⟨h1, h2⟩ := h; refine ⟨h1, ?_⟩; rcases h2 with h2 | ⟨g, cap, cur, rfl, hbg, hg, r⟩
 · exact .inl h2
 · exact .inr ⟨g, cap, cur, rfl, Nat.le_trans hb hbg, hg, r⟩
theorem OwnB.keptP {w w' : World} {base p : Nat} {e : TypeId} {v : Value} {xs : List UInt8} (h : OwnB w base e v xs) (hk : KeptP p w w') (hp : p < base) : OwnB w' base e v xs := by
 obtain ⟨h1, h2⟩ := h; refine ⟨h1, ?_⟩; rcases h2 with h2 | ⟨g, cap, cur, rfl, hbg, hg, r⟩
 · exact .inl h2
 · exact .inr ⟨g, cap, cur, rfl, hbg, by rw [hk.block g (Array.getElem?_eq_some_iff.1 hg).1 (by omega)]; exact hg, r⟩
theorem OwnB.shape {w : World} {base : Nat} {e : TypeId} {v : Value} {xs : List UInt8} (h : OwnB w base e v xs) : ∃ a c, v = .slice a xs.length c := by
 obtain ⟨h1, h2⟩ := h; rcases h2 with ⟨h2, h0⟩ | ⟨g, cap, cur, rfl, _⟩
 · exact ⟨none, 0, by rw [h2, h0]⟩
 · exact ⟨_, _, rfl⟩
def EndT (p : Nat) (v : Value) (xs : List UInt8) (w : World) (e : Ending) (w' : World) : PR (List UInt8) → Prop
 | .ok s b n => e = .returned (.string ⟨s.toArray⟩) ∧ PS w' p v xs b n ∧ KeptP p w w'
 | .err er b => e = .panicked (wrongV er b) ∧ KeptP p w w'
set_option maxHeartbeats 6400000 in
theorem text_any (p : Nat) (v : Value) (xs : List UInt8) (a n : Nat) (w : World) (h : PS w p v xs a n) :
 Calls Tryz.prog 123 #[.pointer (some ⟨p, 0, none⟩)] w fun e w' => EndT p v xs w e w' (textP xs a n) := by
 by_cases h34 : xs[a]? = some 34
 · have hT : textP xs a n = textL xs n (xs.length + 1) (a + 1) [] := by rw [textP, if_pos h34]
   rw [hT]; obtain ⟨T, HT⟩ := Ex (textL xs n (xs.length + 1) (a + 1) []); rw [HT]; replace HT := Hd HT; have hx := h.2.1.len; obtain ⟨hlt, _⟩ := List.getElem?_eq_some_iff.1 h34; rcases h.2.1.split with ⟨rfl, a0, cap, rfl, hcap⟩ | ⟨h0, bk, o, cap, rfl, hn, hm, hbp, _⟩
   · simp at hlt
   have HP := Hd h; have H34 := Hd h34; have hp0 := h.1.cells.2.2.2.2.2.2; clear h h34 hT; go_enter Tryz.func123, Tryz.ntmps123
   go_wp2_with fail; refine (take_ok p _ xs a n 34 _ HP.out H34.out).mono ?_; rintro e w1 ⟨rfl, hp1, hk1⟩; replace HP := Hd hp1; have HK := Hd hk1; clear hp1 hk1 H34; go_wp2_with fail
   go_loopg [3] (xs.length + 1) (fun g v3 wx => ∃ (b : Nat) (out : List UInt8) (a5 : Option Addr) (c5 : Nat), xs.length + 1 ≤ b + g ∧ b ≤ xs.length ∧ textL xs n g b out = T ∧ PS wx p (.slice (some ⟨bk, o, none⟩) xs.length cap) xs b n ∧ KeptP p w wx ∧ v3 = .slice a5 out.length c5 ∧ OwnB wx w.heap.size 5 (.slice a5 out.length c5) out ∧ out.length ≤ 4 * b)
   case atStart => exact ⟨a + 1, [], none, 0, by omega, by omega, HT.out, HP.out, HK.out, rfl, OwnB.nil _ _ _, by simp⟩
   case round =>
    obtain ⟨b, out, a5, c5, hbg, hbl, ht, hps, hkp, rfl, hby, hol⟩ := hrel; cases gk with
    | zero => exact absurd hbg (by omega)
    | succ g =>
      have HT2 := Hd ht; have HPX := Hd hps; have HKX := Hd hkp; have HBY := Hd hby; clear ht hps hkp hby HP HK HT; go_wp2_with fail; refine (peek_any p _ xs b n _ HPX.out).mono ?_; rintro e w2 ⟨rfl, hw2⟩; replace HPX := Hd (HPX.out.ext hw2); replace HKX := Hd (HKX.out.trans (KeptP.ofExt hw2)); replace HBY := Hd (HBY.out.ext hw2); clear hw2; by_cases hq : peekP xs b = 34
      · have hbn : (((peekP xs b).toNat : Int) != 34) = false := by rw [hq]; rfl
        have hbl2 : b < xs.length := by
         by_cases h : b < xs.length
         · exact h
         · rw [peekP_ge h] at hq; exact absurd hq (by decide)
        have hres : Hid (T = .ok out (b + 1) n) := Hd (by rw [← HT2.out, textL, if_pos hq]); obtain ⟨c0, c1, c2, f0, f1, f2, hpl⟩ := HPX.out.1.cells; have e1 : IntKind.i64.wrap ((b : Int) + 1) = ((b + 1 : Nat) : Int) := by rw [IntWalk.i64_in _ (by omega)]; omega
        have hb6 := (OwnB.keptP HBY.out (KeptP.set (o := 1) (.int .i64 (b + 1 : Nat))) hp0).bytes (by omega); have HPE := Hd (HPX.out.setAt (b + 1) (by omega)); clear hq; go_wp2_with (refine wpList_string_of_bytes _ rfl 56 9 5 _ rfl _ out rfl hb6 Tryz.underlying56 Tryz.underlying5 Tryz.underlying9 ?_)
        go_ret; rw [hres.out]; exact ⟨rfl, HPE.out, HKX.out.trans (KeptP.set _)⟩
      · have hbn : (((peekP xs b).toNat : Int) != 34) = true := by
         simp only [bne_iff_ne, ne_eq]; intro e; exact hq (UInt8.toNat_inj.1 (by rw [show (34 : UInt8).toNat = 34 from rfl]; omega))
        have hT3 : T = if ¬(0 < (next (xs.drop b)).2 ∧ 32 ≤ (next (xs.drop b)).1) then .err 2 b else if (next (xs.drop b)).1 = 92 then (if ¬ 0 < (escape (xs.drop (b + 1))).2 then .err 2 b else textL xs n g (b + ((escape (xs.drop (b + 1))).2 + 1)) (out ++ encP (escape (xs.drop (b + 1))).1)) else textL xs n g (b + (next (xs.drop b)).2) (out ++ encP (next (xs.drop b)).1) := by
         rw [← HT2.out, textL, if_neg hq]
        have hnl := next_le (xs.drop b); have hnb := next_bd (xs.drop b); rw [List.length_drop] at hnl; generalize peekP xs b = pk at *; clear hq HT2; obtain ⟨r, hr1⟩ := Ex ((next (xs.drop b)).1); obtain ⟨m, hm1⟩ := Ex ((next (xs.drop b)).2); rw [hr1, hm1] at hT3; rw [hr1] at hnb; rw [hm1] at hnl; have HR1 := Hd hr1; have HM1 := Hd hm1; have HT3 := Hd hT3
        have HAT : Hid (∀ w', Ext w2 w' → BytesAt w' (some ⟨bk, o, none⟩) xs) := Hd (fun w' hw => HPX.out.at.ext hw); clear hr1 hm1 hT3; go_upto_region 4 with fail
        refine Grow.wp_region_litW (G := Ext) (B := fun w' => Ext w2 w') (anc := fun j => if j = 9 then [8] else []) (I := fun j => if j = 8 then some (specB (xs.drop b)) else if j = 9 then some (Grow.Spec.val Ext (.tuple #[.int .i32 r, .int .i64 m])) else none) (by kernel_rfl) (by kernel_rfl) (by kernel_rfl) ?_ ?_ ?_
        · exact fun w w' h hg => ext_trans h hg
        · exact (ext_refl _).drew
        repeat
         (refine Grow.Wk.step (fun K hK => ?_)
          first
          | (refine Grow.step_read (by rfl) (by rfl) ext_refl ?_
             apply Exists.intro; refine ⟨fun w hB hF => ?_, ?_⟩
             · obtain ⟨c0, c1, c2, f0, f1, f2, hpl⟩ := (HPX.out.ext hB).1.cells; go_simp; try exact rfl
             go_simp; refine hK _ _ ?_; clear hK K)
          | (refine Grow.step_off (by rfl) ?_
             go_simp; refine hK _ _ ?_; clear hK K))
        refine Grow.Wk.step (fun K hK => ?_); refine Grow.step_rel (by rfl) (by rfl) (fun w' hB hF => ?_) (fun v hv => ?_)
        · have hsb := BytesAt.slice (HAT.out w' hB) hn hm hx (b) hbl; go_simp; try rw [if_pos (by omega)]
          exact Grow.relUpon_value (ext_refl _) ⟨_, _, by rw [List.length_drop]⟩ hsb
        obtain ⟨a', c', rfl⟩ := hv; go_simp; refine hK _ _ ?_; clear hK K; refine Grow.Wk.step (fun K hK => ?_); refine Grow.step_rel (by rfl) (by rfl) (fun w' hB hF => ?_) (fun v hv => ?_)
        · have hb2 : Bytes w' (.slice a' (xs.length - b) c') (xs.drop b) := hF 8 (by simp); go_simp; refine Grow.relUpon_enter ((next_any _ (xs.drop b) w' hb2).mono ?_); rintro e w'' ⟨rfl, hw''⟩; exact ⟨_, rfl, hw'', by rw [HR1.out, HM1.out]; rfl, trivial⟩
        obtain rfl : v = _ := hv; go_simp; refine hK _ _ ?_; clear hK K; repeat
         (refine Grow.Wk.step (fun K hK => ?_)
          first
          | (refine Grow.step_read (by rfl) (by rfl) ext_refl ?_
             apply Exists.intro; refine ⟨fun w hB hF => ?_, ?_⟩
             · skip
               go_simp; try exact rfl
             go_simp; refine hK _ _ ?_; clear hK K)
          | (refine Grow.step_off (by rfl) ?_
             go_simp; refine hK _ _ ?_; clear hK K))
        refine Grow.Wk.nil ?_; intro w3 hB hF; clear hF; replace HPX := Hd (HPX.out.ext hB); replace HKX := Hd (HKX.out.trans (KeptP.ofExt hB)); replace HBY := Hd (HBY.out.ext hB); clear hB HAT; obtain ⟨hm4, hmb⟩ := hnl; obtain ⟨hr0, hrm⟩ := hnb; obtain ⟨c0, c1, c2, f0, f1, f2, hpl⟩ := HPX.out.1.cells; by_cases hm0 : 0 < m
        · have hm0i : (0 : Int) < m := by omega
          by_cases hr32 : 32 ≤ r
          · by_cases h92 : r = 92
            · have HT4 : Hid (T = if ¬ 0 < (escape (xs.drop (b + 1))).2 then .err 2 b else textL xs n g (b + ((escape (xs.drop (b + 1))).2 + 1)) (out ++ encP (escape (xs.drop (b + 1))).1)) := Hd (by rw [HT3.out, if_neg (by simp [hm0, hr32]), if_pos h92]); subst h92; clear HT3 HR1 HM1; go_wp2_with fail; refine (need_ok 2 b _).mono ?_; rintro e w4 ⟨rfl, rfl⟩; clear c0 c1 c2 f0 f1 f2 hpl
              go_upto_region 7 with fail; obtain ⟨r2, hr2⟩ := Ex ((escape (xs.drop (b + 1))).1); obtain ⟨m2, hm2⟩ := Ex ((escape (xs.drop (b + 1))).2); have hmb2 := escape_le (xs.drop (b + 1)); rw [List.length_drop, hm2] at hmb2; have HR2 := Hd hr2; have HM2 := Hd hm2; have hT4 := HT4.out; rw [hr2, hm2] at hT4; replace HT4 := Hd hT4; clear hr2 hm2 hT4
              have HAT : Hid (∀ w', Ext w3 w' → BytesAt w' (some ⟨bk, o, none⟩) xs) := Hd (fun w' hw => HPX.out.at.ext hw); have hb1 : b + 1 ≤ xs.length := by omega
              have e0 : IntKind.i64.wrap ((b : Int) + 1) = ((b + 1 : Nat) : Int) := by rw [IntWalk.i64_in _ (by omega)]; omega
              refine Grow.wp_region_litW (G := Ext) (B := fun w' => Ext w3 w') (anc := fun j => if j = 10 then [9] else []) (I := fun j => if j = 9 then some (specB (xs.drop (b + 1))) else if j = 10 then some (Grow.Spec.val Ext (.tuple #[.int .i32 r2, .int .i64 m2])) else none) (by kernel_rfl) (by kernel_rfl) (by kernel_rfl) ?_ ?_ ?_
              · exact fun w w' h hg => ext_trans h hg
              · exact (ext_refl _).drew
              repeat
               (refine Grow.Wk.step (fun K hK => ?_)
                first
                | (refine Grow.step_read (by rfl) (by rfl) ext_refl ?_
                   apply Exists.intro; refine ⟨fun w hB hF => ?_, ?_⟩
                   · obtain ⟨c0, c1, c2, f0, f1, f2, hpl⟩ := (HPX.out.ext hB).1.cells; go_simp; try exact rfl
                   go_simp; refine hK _ _ ?_; clear hK K)
                | (refine Grow.step_off (by rfl) ?_
                   go_simp; refine hK _ _ ?_; clear hK K))
              refine Grow.Wk.step (fun K hK => ?_); refine Grow.step_rel (by rfl) (by rfl) (fun w' hB hF => ?_) (fun v hv => ?_)
              · have hsb := BytesAt.slice (HAT.out w' hB) hn hm hx (b + 1) hb1; go_simp; try rw [if_pos (by omega)]
                exact Grow.relUpon_value (ext_refl _) ⟨_, _, by rw [List.length_drop]⟩ hsb
              obtain ⟨a', c', rfl⟩ := hv; go_simp; refine hK _ _ ?_; clear hK K; refine Grow.Wk.step (fun K hK => ?_); refine Grow.step_rel (by rfl) (by rfl) (fun w' hB hF => ?_) (fun v hv => ?_)
              · have hb2 : Bytes w' (.slice a' (xs.length - (b + 1)) c') (xs.drop (b + 1)) := hF 9 (by simp); go_simp; refine Grow.relUpon_enter ((escape_any _ (xs.drop (b + 1)) w' hb2).mono ?_); rintro e w'' ⟨rfl, rfl⟩; exact ⟨_, rfl, ext_refl _, by rw [HR2.out, HM2.out]; rfl, trivial⟩
              obtain rfl : v = _ := hv; go_simp; refine hK _ _ ?_; clear hK K; repeat
               (refine Grow.Wk.step (fun K hK => ?_)
                first
                | (refine Grow.step_read (by rfl) (by rfl) ext_refl ?_
                   apply Exists.intro; refine ⟨fun w hB hF => ?_, ?_⟩
                   · skip
                     go_simp; try exact rfl
                   go_simp; refine hK _ _ ?_; clear hK K)
                | (refine Grow.step_off (by rfl) ?_
                   go_simp; refine hK _ _ ?_; clear hK K))
              refine Grow.Wk.nil ?_; intro w4 hB hF; clear hF; replace HPX := Hd (HPX.out.ext hB); replace HKX := Hd (HKX.out.trans (KeptP.ofExt hB)); replace HBY := Hd (HBY.out.ext hB); clear hB HAT e0; obtain ⟨c0, c1, c2, f0, f1, f2, hpl⟩ := HPX.out.1.cells; by_cases hm20 : 0 < m2
              · have hm20i : (0 : Int) < m2 := by omega
                have HT5 : Hid (textL xs n g (b + (m2 + 1)) (out ++ encP r2) = T) := Hd (by rw [HT4.out, if_neg (by simp [hm20])]); have e2 : IntKind.i64.wrap ((m2 : Int) + 1) = ((m2 + 1 : Nat) : Int) := by rw [IntWalk.i64_in _ (by omega)]; omega
                go_wp2_with fail; refine (need_ok 2 b _).mono ?_; rintro e w5 ⟨rfl, rfl⟩; go_wp2_with fail; clear c0 c1 c2 f0 f1 f2 hpl; refine (put_any _ out (r2) _ (HBY.out.bytes (by omega)) (by omega)).mono ?_; rintro e w9 ⟨v9, rfl, hown, hw9⟩; obtain ⟨a6, c6, rfl⟩ := OwnB.shape hown; have hsz9 := HKX.out.size; replace HPX := Hd (HPX.out.ext hw9); replace HKX := Hd (HKX.out.trans (KeptP.ofExt hw9))
                have HBN := Hd (OwnB.mono hown hsz9); clear hown hw9 HBY hsz9; obtain ⟨c0, c1, c2, f0, f1, f2, hpl⟩ := HPX.out.1.cells; have e1 : IntKind.i64.wrap ((b : Int) + (m2 + 1)) = ((b + (m2 + 1) : Nat) : Int) := by rw [IntWalk.i64_in _ (by omega)]; omega
                have hel := encP_le (r2); have HPE := Hd (HPX.out.setAt (b + (m2 + 1)) (by omega)); have HLN : Hid ((out ++ encP (r2)).length ≤ 4 * (b + (m2 + 1))) := Hd (by rw [List.length_append]; omega); have HBE := Hd (OwnB.keptP HBN.out (KeptP.set (o := 1) (.int .i64 (b + (m2 + 1) : Nat))) hp0); clear hel; go_wp2_with fail; go_roundg g
                case measure => omega
                case rel => exact ⟨b + (m2 + 1), out ++ encP (r2), a6, c6, by omega, by omega, HT5.out, HPE.out, HKX.out.trans (KeptP.set _), by rw [List.length_append], HBE.out, HLN.out⟩
              · have hres : Hid (T = .err 2 b) := Hd (by rw [HT4.out, if_pos hm20]); obtain rfl : m2 = 0 := by omega
                clear HT4; go_wp2_with fail; refine (need_no 2 b _).mono ?_; rintro e w9 ⟨rfl, rfl⟩; go_wp2_with fail; rw [hres.out]; exact ⟨rfl, rfl, HKX.out⟩
            · have hrb : (r == 92) = false := by simpa using h92
              have HT4 : Hid (textL xs n g (b + m) (out ++ encP r) = T) := Hd (by rw [HT3.out, if_neg (by simp [hm0, hr32]), if_neg h92]); clear HT3 HR1 HM1; go_wp2_with fail; refine (need_ok 2 b _).mono ?_; rintro e w4 ⟨rfl, rfl⟩; go_wp2_with fail; clear c0 c1 c2 f0 f1 f2 hpl; refine (put_any _ out (r) _ (HBY.out.bytes (by omega)) (by omega)).mono ?_; rintro e w9 ⟨v9, rfl, hown, hw9⟩
              obtain ⟨a6, c6, rfl⟩ := OwnB.shape hown; have hsz9 := HKX.out.size; replace HPX := Hd (HPX.out.ext hw9); replace HKX := Hd (HKX.out.trans (KeptP.ofExt hw9)); have HBN := Hd (OwnB.mono hown hsz9); clear hown hw9 HBY hsz9; obtain ⟨c0, c1, c2, f0, f1, f2, hpl⟩ := HPX.out.1.cells; have e1 : IntKind.i64.wrap ((b : Int) + (m)) = ((b + (m) : Nat) : Int) := by rw [IntWalk.i64_in _ (by omega)]; omega
              have hel := encP_le (r); have HPE := Hd (HPX.out.setAt (b + (m)) (by omega)); have HLN : Hid ((out ++ encP (r)).length ≤ 4 * (b + (m))) := Hd (by rw [List.length_append]; omega); have HBE := Hd (OwnB.keptP HBN.out (KeptP.set (o := 1) (.int .i64 (b + (m) : Nat))) hp0); clear hel; go_wp2_with fail; go_roundg g
              case measure => omega
              case rel => exact ⟨b + (m), out ++ encP (r), a6, c6, by omega, by omega, HT4.out, HPE.out, HKX.out.trans (KeptP.set _), by rw [List.length_append], HBE.out, HLN.out⟩
          · have hres : Hid (T = .err 2 b) := Hd (by rw [HT3.out, if_pos (fun h => hr32 h.2)]); clear HT3; go_wp2_with fail; refine (need_no 2 b _).mono ?_; rintro e w9 ⟨rfl, rfl⟩; go_wp2_with fail; rw [hres.out]; exact ⟨rfl, rfl, HKX.out⟩
        · have hres : Hid (T = .err 2 b) := Hd (by rw [HT3.out, if_pos (fun h => hm0 h.1)]); obtain rfl : m = 0 := by omega
          clear HT3; go_wp2_with fail; refine (need_no 2 b _).mono ?_; rintro e w9 ⟨rfl, rfl⟩; go_wp2_with fail; rw [hres.out]; exact ⟨rfl, rfl, HKX.out⟩
 · have hT : textP xs a n = .err 2 a := by rw [textP, if_neg h34]
   rw [hT]; go_enter Tryz.func123, Tryz.ntmps123
   go_wp2_with fail; refine (take_no p v xs a n 34 _ h h34).mono ?_; rintro e w9 ⟨rfl, hk⟩; go_wp2_with fail; exact ⟨rfl, rfl, hk⟩
end Go.Proofs.YtjapbjmeoaagmaaGreatDoor
