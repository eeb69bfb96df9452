/- A text of this proof. -/
import Derived.Test.YtjapbjmeoaagmaaGreatDoorEPrintIsPaB
import Derived.Test.YtjapbjmeoaagmaaGreatDoorEPrintIsPaS
import Derived.Test.YtjapbjmeoaagmaaGreatDoorEPrintIsSh
set_option linter.unusedVariables false
set_option linter.unusedSimpArgs false
set_option maxRecDepth 100000
namespace Go.Proofs.YtjapbjmeoaagmaaGreatDoor
open Go.RowKit Go.Mem Orange
theorem textL_ok (xs : List UInt8) (n : Nat) : ∀ (f a : Nat) (out s : List UInt8) (b m : Nat), textL xs n f a out = .ok s b m → a < b ∧ m = n ∧ (out.length ≤ 4 * a → s.length ≤ 4 * b)
 | 0, _, _, _, _, _, h => by cases h
 | f + 1, a, out, s, b, m, h => by
   rw [textL] at h; split at h
   · simp only [PR.ok.injEq] at h; obtain ⟨rfl, rfl, rfl⟩ := h; exact ⟨by omega, rfl, by omega⟩
   split at h
   · cases h
   rename_i h2
   split at h
   · split at h
     · cases h
     · rename_i h4
       obtain ⟨h5, h6, h7⟩ := textL_ok xs n f _ _ _ _ _ h; have := encP_le (escape (xs.drop (a + 1))).1; exact ⟨by omega, h6, fun h8 => h7 (by rw [List.length_append]; omega)⟩
   · obtain ⟨h5, h6, h7⟩ := textL_ok xs n f _ _ _ _ _ h; have := encP_le (next (xs.drop a)).1; have h3 : 0 < (next (xs.drop a)).2 := by
      rcases Nat.eq_zero_or_pos (next (xs.drop a)).2 with e | e
      · exact absurd (fun h => by omega) h2
      · exact e
     exact ⟨by omega, h6, fun h8 => h7 (by rw [List.length_append]; omega)⟩
theorem textP_ok {xs : List UInt8} {a n : Nat} {s : List UInt8} {b m : Nat} (h : textP xs a n = .ok s b m) : a < b ∧ m = n ∧ s.length ≤ 4 * b := by
 rw [textP] at h; split at h
 · obtain ⟨h1, h2, h3⟩ := textL_ok _ _ _ _ _ _ _ _ h; exact ⟨by omega, h2, h3 (by simp)⟩
 · cases h
structure ObjAt (p base q qp qd qm bm deep : Nat) (vM : Value) (cs : List Value) (acc : List (List UInt8 × Tree)) (keys : List (List UInt8)) (w : World) : Prop where
 v : VAt w q (cellsV 5 false Num.zero [] noL vM)
 own : w.ownsRow base 43 9 vM acc.length cs
 tm : TM w (fun g => base ≤ g ∧ vM.ownBlock ≠ some g) acc cs
 bp : Box1 w qp 111 (.pointer (some ⟨p, 0, none⟩))
 bd : Box1 w qd 3 (.int .i64 deep)
 bx : Box1 w qm 126 (.map (some bm))
 set : SetAt w bm keys
structure ObjLay (p B base q qp qd qm bm : Nat) : Prop where
 pB : p < B
 l1 : B ≤ q ∧ q < base
 l2 : B ≤ qp ∧ qp < base
 l3 : B ≤ qd ∧ qd < base
 l4 : B ≤ qm ∧ qm < base
 l5 : B ≤ bm ∧ bm < base
 l6 : q ≠ qp ∧ q ≠ qd ∧ q ≠ qm ∧ q ≠ bm ∧ bm ≠ qp ∧ bm ≠ qd ∧ bm ≠ qm
theorem ObjAt.kept {p B base q qp qd qm bm deep : Nat} {vM : Value} {cs : List Value} {acc : List (List UInt8 × Tree)} {keys : List (List UInt8)} {w w' : World} (L : ObjLay p B base q qp qd qm bm) (h : ObjAt p base q qp qd qm bm deep vM cs acc keys w) (hk : KeptP p w w') : ObjAt p base q qp qd qm bm deep vM cs acc keys w' := by
 have l0 := L.pB; have l1 := L.l1; have l2 := L.l2; have l3 := L.l3; have l4 := L.l4; have l5 := L.l5; exact ⟨h.v.kept hk (by omega), ownsRow_kept h.own hk (by omega), h.tm.keep hk.size (fun g hg hlt => ⟨hg, hk.block g hlt (by omega)⟩), h.bp.kept hk (by omega), h.bd.kept hk (by omega), h.bx.kept hk (by omega), h.set.same (hk.block bm h.set.lt (by omega))⟩
theorem ObjAt.put {p B base q qp qd qm bm deep : Nat} {vM : Value} {cs : List Value} {acc : List (List UInt8 × Tree)} {keys keys' : List (List UInt8)} {w w' : World} (L : ObjLay p B base q qp qd qm bm) (h : ObjAt p base q qp qd qm bm deep vM cs acc keys w) (hg : w.grownBy w' (some bm)) (hs : SetAt w' bm keys') : ObjAt p base q qp qd qm bm deep vM cs acc keys' w' := by
 have l1 := L.l1; have l2 := L.l2; have l3 := L.l3; have l4 := L.l4; have l5 := L.l5; have l6 := L.l6; have same : ∀ k, k < w.heap.size → k ≠ bm → w'.heap[k]? = w.heap[k]? := fun k hk hne => hg.block k hk (fun e => hne (by simpa using e)); refine ⟨?_, ?_, h.tm.keep hg.size (fun g hg hlt => ⟨hg, same g hlt (by omega)⟩), ?_, ?_, ?_, hs⟩
 · unfold VAt; rw [same q h.v.lt (by omega)]; exact h.v
 · obtain ⟨h1, h2⟩ := h.own; refine ⟨h1, ?_⟩; rcases h2 with h2 | ⟨g, cap, cur, rfl, hbg, hgg, r⟩
   · exact .inl h2
   · exact .inr ⟨g, cap, cur, rfl, hbg, by rw [same g (Array.getElem?_eq_some_iff.1 hgg).1 (by omega)]; exact hgg, r⟩
 · unfold Box1; rw [same qp h.bp.lt (by omega)]; exact h.bp
 · unfold Box1; rw [same qd h.bd.lt (by omega)]; exact h.bd
 · unfold Box1; rw [same qm h.bx.lt (by omega)]; exact h.bx
theorem PS.put {p bm n a : Nat} {v : Value} {xs : List UInt8} {w0 w w' : World} (h : PS w p v xs a n) (hg : w.grownBy w' (some bm)) (hp : p ≠ bm) (hb : BytesN p w0 v xs) (hk : Kept w0.heap.size p w0 w') : PS w' p v xs a n := by
 refine ⟨?_, hb.kept hk, h.2.2⟩; unfold PAt; rw [hg.block p h.1.cells.2.2.2.2.2.2 (fun e => hp (by simpa using e))]; exact h.1
def StO (p base q qp qd qm bm deep : Nat) (acc : List (List UInt8 × Tree)) (w : World) : Prop :=
 ∃ vM cs keys, ObjAt p base q qp qd qm bm deep vM cs acc keys w ∧ keys.length ≤ acc.length ∧ ∀ k, keys.contains k = acc.any (fun x => x.1 == k)
structure KeptR (base p q m : Nat) (w w' : World) : Prop where
 os : w'.os = w.os
 tape : w'.tape = w.tape
 output : w'.output = w.output
 size : w.heap.size ≤ w'.heap.size
 block : ∀ k, k < base → k ≠ p → k ≠ q → k ≠ m → w'.heap[k]? = w.heap[k]?
theorem KeptR.kept {base p q m B : Nat} {w w' : World} (h : KeptR base p q m w w') (hb : B ≤ base) (hq : B ≤ q) (hm : B ≤ m) : Kept B p w w' :=
 ⟨h.os, h.tape, h.output, h.size, fun k hk hp => h.block k (by omega) hp (by omega) (by omega)⟩
theorem KeptR.ofP {base p q m : Nat} {w w' : World} (h : KeptP p w w') (hb : base ≤ w.heap.size) : KeptR base p q m w w' :=
 ⟨h.os, h.tape, h.output, h.size, fun k hk hp _ _ => h.block k (by omega) hp⟩
theorem KeptR.ofPut {base p q m : Nat} {w w' : World} (h : w.grownBy w' (some m)) (hb : base ≤ w.heap.size) : KeptR base p q m w w' :=
 ⟨h.os, h.tape, h.output, h.size, fun k hk _ _ hm => h.block k (by omega) (fun e => hm (by simpa using e))⟩
theorem KeptR.trans {base p q m : Nat} {a b c : World} (h : KeptR base p q m a b) (k : KeptR base p q m b c) : KeptR base p q m a c :=
 ⟨k.os.trans h.os, k.tape.trans h.tape, k.output.trans h.output, Nat.le_trans h.size k.size, fun i h1 h2 h3 h4 => (k.block i h1 h2 h3 h4).trans (h.block i h1 h2 h3 h4)⟩
theorem StO.push {p B base q qp qd qm bm deep g cap : Nat} {w w3 w4 W : World} {vM : Value} {cs : List Value} {acc : List (List UInt8 × Tree)} {keys : List (List UInt8)} {key : List UInt8} {t : Tree} {c : Array Value} {zs : List Value} {cur : Array Value} (L : ObjLay p B base q qp qd qm bm) (hob : ObjAt p base q qp qd qm bm deep vM cs acc (key :: keys) w) (hkl : keys.length ≤ acc.length) (hkeys : ∀ k, keys.contains k = acc.any (fun x => x.1 == k)) (hbs : base ≤ w.heap.size) (hk3 : KeptP p w w3)
 (htv : TV w3 (fun g => w.heap.size ≤ g) t c) (hgr : w3.grownBy w4 vM.ownBlock)
 (hown : w4.ownsRow base 43 9 (.slice (some ⟨g, 0, none⟩) (acc.length + 1) cap) (acc.length + 1) (cs ++ zs)) (hg : w4.heap[g]? = some (.cells cur 43 (0, 0))) (hbg : base ≤ g)
 (hor : some g = vM.ownBlock ∨ g = w3.heap.size) (h2 : Two w4 W g q (.cells (putL cur (acc.length * 9) (.string ⟨key.toArray⟩ :: c.toList)) 43 (0, 0)) (.cells (cellsV 5 false Num.zero [] noL (.slice (some ⟨g, 0, none⟩) (acc.length + 1) cap)) 27 (0, 0))) : StO p base q qp qd qm bm deep (acc ++ [(key, t)]) W := by
 have hs := hk3.size; have l0 := L.pB; have l1 := L.l1; have l2 := L.l2; have l3 := L.l3; have l4 := L.l4; have l5 := L.l5; have l6 := L.l6; have hlt : ∀ k, vM.ownBlock = some k → base ≤ k ∧ k < w.heap.size := fun k hk => hob.own.lt k hk; have hsz : w3.heap.size ≤ W.heap.size := by rw [h2.size]; exact hgr.size
 have ob3 := hob.kept L hk3; have same : ∀ k, base ≤ k → vM.ownBlock ≠ some k → k < w3.heap.size → W.heap[k]? = w3.heap[k]? := fun k hk hne hkl => by
  rw [h2.block k (by rintro rfl; rcases hor with h | h; exact hne h.symm; omega) (by omega)]; exact hgr.block k hkl (Ne.symm hne)
 have low : ∀ k, k < base → k ≠ q → W.heap[k]? = w3.heap[k]? := fun k hk hq => by
  rw [h2.block k (by omega) hq]; exact hgr.block k (by omega) (fun e => by have := hlt k e.symm; omega)
 refine ⟨_, cs ++ (.string ⟨key.toArray⟩ :: c.toList), key :: keys, ⟨h2.atQ, ?_, ?_, ?_, ?_, ?_, ob3.set.same (low bm (by omega) (by omega))⟩, by simp; omega, fun k => ?_⟩
 · rw [List.length_append]; exact ownsRow_put hown hg (by have := hob.tm.length; omega) (by simp [htv.size]) h2
 · refine TM.append (ob3.tm.keep hsz (fun k hk hkl => ⟨⟨hk.1, ?_⟩, same k hk.1 hk.2 hkl⟩)) (htv.keep hsz (fun k hk hkl => ⟨⟨by omega, ?_⟩, same k (by omega) (fun e => by have := hlt k e; omega) hkl⟩))
   · simp only [Value.ownBlock, ne_eq, Option.some.injEq]; rintro rfl; rcases hor with h | h
     · exact hk.2 h.symm
     · omega
   · simp only [Value.ownBlock, ne_eq, Option.some.injEq]; rintro rfl; rcases hor with h | h
     · have := hlt g h.symm; omega
     · omega
 · unfold Box1; rw [low qp (by omega) (by omega)]; exact ob3.bp
 · unfold Box1; rw [low qd (by omega) (by omega)]; exact ob3.bd
 · unfold Box1; rw [low qm (by omega) (by omega)]; exact ob3.bx
 · rw [List.any_append, ← hkeys k, List.contains_cons]; simp only [List.any_cons, List.any_nil, Bool.or_false]; rw [Bool.or_comm]; congr 1
   by_cases e : k = key
   · subst e; simp
   · have : (key == k) = false := by simpa using fun h => e h.symm
     simp [e, this]
abbrev zeroM : Array Value := #[.string ⟨#[]⟩, .int .i64 0, .bool false, .bool false, .string ⟨#[]⟩, .int .i64 0, .string ⟨#[]⟩, .slice none 0 0, .slice none 0 0]
def EndO (p base q qp qd qm bm deep : Nat) (v : Value) (xs : List UInt8) (w : World) (e : Ending) (w' : World) : PR (List (List UInt8 × Tree)) → Prop
 | .ok acc' a' n' => e = .returned (.tuple #[]) ∧ PS w' p v xs a' n' ∧ StO p base q qp qd qm bm deep acc' w' ∧ KeptR base p q bm w w'
 | .err er b => e = .panicked (wrongV er b) ∧ KeptR base p q bm w w'
set_option maxHeartbeats 6400000 in
theorem object1_any (p : Nat) (v : Value) (xs : List UInt8) (B base q qp qd qm bm deep : Nat) (L : ObjLay p B base q qp qd qm bm) (w0 : World) (hB0 : w0.heap.size = B) (hbn : BytesN p w0 v xs) (hdp : deep < 64) (r : Nat → Nat → PR Tree)
 (hval : ∀ a n w, PS w p v xs a n → n ≤ 4096 → Calls Tryz.prog 94 #[.pointer (some ⟨p, 0, none⟩), .int .i64 (deep + 1 : Nat)] w (fun e w' => EndW p v xs w e w' (r a n)))
 (acc : List (List UInt8 × Tree)) (a n : Nat) (w : World) (h : PS w p v xs a n) (hk0 : Kept B p w0 w) (hst : StO p base q qp qd qm bm deep acc w) (hbs : base ≤ w.heap.size) (hlen : acc.length ≤ 65536) (hn4 : n ≤ 4096) :
 Calls Tryz.prog 157 #[.pointer (some ⟨qp, 0, none⟩), .pointer (some ⟨qm, 0, none⟩), .pointer (some ⟨q, 0, none⟩), .pointer (some ⟨qd, 0, none⟩)] w (fun e w' => EndO p base q qp qd qm bm deep v xs w e w' (itemO xs r acc a n)) := by
 subst hB0; have HBN := Hd hbn; have HK0 := Hd hk0; have hx := h.2.1.len; clear hbn hk0; obtain ⟨vM, cs, keys, hob, hkl, hkeys⟩ := hst; have HP := Hd h; have HOB := Hd hob; have HKEYS := Hd hkeys; have HVAL := Hd hval; have HKR : Hid (KeptR base p q bm w w) := Hd ⟨rfl, rfl, rfl, Nat.le_refl _, fun _ _ _ _ _ => rfl⟩; have hwl := whiteN_le xs a; clear h hob hkeys hval
 obtain ⟨T, hT⟩ := Ex (itemO xs r acc a n); rw [hT]; rw [itemO] at hT; replace hT := Hd hT; go_enter Tryz.func157, Tryz.ntmps157
 have cp := HOB.out.bp.cell; have cx := HOB.out.bx.cell; go_wp2_with fail; refine (skip_any p v xs a n _ HP.out).mono ?_; rintro e w1 ⟨rfl, hp1, hk1⟩; clear cp cx; replace HOB := Hd (HOB.out.kept L hk1); replace HP := Hd hp1; replace HKR := Hd (HKR.out.trans (KeptR.ofP hk1 hbs)); replace hbs := Nat.le_trans hbs hk1.size; clear hp1 hk1; generalize whiteN xs a = a1 at *; have cp := HOB.out.bp.cell
 have cx := HOB.out.bx.cell; obtain ⟨c0, c1, c2, f0, f1, f2, hpl⟩ := HP.out.1.cells; go_wp2_with fail; refine (text_any p v xs a1 n _ HP.out).mono ?_; intro e w2 hend; clear cp cx c0 c1 c2 f0 f1 f2 hpl; cases htx : textP xs a1 n with
 | err er b =>
   rw [htx] at hend; obtain ⟨rfl, hk⟩ := hend; have hres : Hid (T = .err er b) := Hd (by rw [← hT.out, htx]); go_wp2_with fail; rw [hres.out]; exact ⟨rfl, rfl, HKR.out.trans (KeptR.ofP hk hbs)⟩
 | ok key a2 n2 =>
   rw [htx] at hend; obtain ⟨rfl, hp1, hk1⟩ := hend; have hT2 : Hid ((if acc.any (fun x => x.1 == key) then .err 7 a1 else if xs[whiteN xs a2]? = some 58 then (r (whiteN xs a2 + 1) n2).map fun t => acc ++ [(key, t)] else .err 2 (whiteN xs a2)) = T) := Hd (by rw [← hT.out, htx]); obtain ⟨_, hnn, hkle⟩ := textP_ok htx; have hn2 : n2 ≤ 4096 := by omega
   clear hnn; replace HOB := Hd (HOB.out.kept L hk1); replace HP := Hd hp1; replace HKR := Hd (HKR.out.trans (KeptR.ofP hk1 hbs)); replace hbs := Nat.le_trans hbs hk1.size; clear hp1 hk1; have ha2 := HP.out.2.2; have hkm : key.length ≤ maxLen := by simp only [maxLen]; omega
   have hlk := HOB.out.set.look key hkm; rw [HKEYS.out key] at hlk; have hwl2 := whiteN_le xs a2; clear hT htx; have cp := HOB.out.bp.cell; have cx := HOB.out.bx.cell; cases hin : acc.any (fun x => x.1 == key) with
   | true =>
     rw [hin] at hlk; have hres : Hid (T = .err 7 a1) := Hd (by rw [← hT2.out, if_pos hin]); go_wp2_with fail; refine (need_no 7 a1 _).mono ?_; rintro e w9 ⟨rfl, rfl⟩; go_wp2_with fail; rw [hres.out]; exact ⟨rfl, rfl, HKR.out⟩
   | false =>
     rw [hin] at hlk; have hT3 : Hid ((if xs[whiteN xs a2]? = some 58 then (r (whiteN xs a2 + 1) n2).map fun t => acc ++ [(key, t)] else .err 2 (whiteN xs a2)) = T) := Hd (by rw [← hT2.out, hin]; rfl); clear hT2; go_wp2_with fail; refine (need_ok 7 a1 _).mono ?_; rintro e w9 ⟨rfl, rfl⟩; obtain ⟨w3, hup, hs3, hg3⟩ := HOB.out.set.put key hkm (by simp only [maxLen]; omega)
     have l0 := L.pB; have l1 := L.l1; have l5 := L.l5; have hkr3 : KeptR base p q bm w w3 := HKR.out.trans (KeptR.ofPut hg3 hbs); have hp3 := HP.out.put hg3 (by omega) HBN.out (HK0.out.trans (hkr3.kept (by omega) (by omega) (by omega))); replace HP := Hd hp3; replace HOB := Hd (HOB.out.put L hg3 hs3); replace HKR := Hd hkr3; replace hbs := Nat.le_trans hbs hg3.size; clear cp hp3 hkr3
     have cp := HOB.out.bp.cell; go_wp2_with fail; refine (skip_any p v xs a2 n2 _ HP.out).mono ?_; rintro e w4 ⟨rfl, hp1, hk1⟩; replace HOB := Hd (HOB.out.kept L hk1); replace HP := Hd hp1; replace HKR := Hd (HKR.out.trans (KeptR.ofP hk1 hbs)); replace hbs := Nat.le_trans hbs hk1.size; clear hp1 hk1; clear cp cx hup hs3 hg3 hlk; generalize whiteN xs a2 = a3 at *; have cp := HOB.out.bp.cell
     go_wp2_with fail; by_cases h58 : xs[a3]? = some 58
     · have hT4 : Hid (((r (a3 + 1) n2).map fun t => acc ++ [(key, t)]) = T) := Hd (by rw [← hT3.out, if_pos h58]); refine (take_ok p v xs a3 n2 58 _ HP.out h58).mono ?_; rintro e w5 ⟨rfl, hp1, hk1⟩; replace HOB := Hd (HOB.out.kept L hk1); replace HP := Hd hp1; replace HKR := Hd (HKR.out.trans (KeptR.ofP hk1 hbs)); replace hbs := Nat.le_trans hbs hk1.size; clear hp1 hk1; clear cp hT3 h58
       go_upto_region 7 with fail; have e0 : IntKind.i64.wrap ((deep : Int) + 1) = ((deep + 1 : Nat) : Int) := by rw [IntWalk.i64_in _ (by omega)]; omega
       have hpw : p < w5.heap.size := HP.out.1.cells.2.2.2.2.2.2; obtain ⟨vA, vC, hvM⟩ : ∃ a c, vM = .slice a acc.length c := by
        rcases HOB.out.own.2 with ⟨e, h0⟩ | ⟨g, cap, cur, e, _⟩
        · exact ⟨none, 0, by rw [e, h0]⟩
        · exact ⟨_, _, e⟩
       subst hvM; have h0 : ∀ w w', Ext w w' → KeptP p w w' := fun _ _ => KeptP.ofExt; cases hr : r (a3 + 1) n2 with
       | ok t a4 n4 =>
         have hres : Hid (T = .ok (acc ++ [(key, t)]) a4 n4) := Hd (by rw [← hT4.out, hr]; rfl); have HR := Hd hr; clear hr hT4; have h1 : ∀ w1 w', (KeptP p w1 w' ∧ PS w' p v xs a4 n4) → KeptP p w1 w' := fun _ _ h => h.1
         refine GrowS.wp_region_restS (G0 := Ext) (G1 := fun w1 w' => KeptP p w1 w' ∧ PS w' p v xs a4 n4) (B0 := fun w' => Ext w5 w') (B1 := fun w' => KeptP p w5 w' ∧ PS w' p v xs a4 n4) (E := fun _ _ => False) (anc := fun _ => [])
          (I := fun j => if j = 6 then some (specTV h0 h1 hpw t True) else if j = 9 then some (specOne h0 h1 hpw 43 zeroM) else none) 6 10 #[true, true, true, true, true, true, true, true, true, true, false, false, false, false, false]
          (by kernel_rfl) (by kernel_rfl) (by kernel_rfl) (by kernel_rfl) (by kernel_rfl) (by kernel_rfl) ?_ ?_ ?_ ?_ ?_ ?_
         · exact fun w w' h hg => ext_trans h hg
         · exact fun w1 w' h hg => ⟨h.1.trans (KeptP.ofExt hg), h.2.ext hg⟩
         · exact fun w1 w' h hg => ⟨(KeptP.ofExt h).trans hg.1, hg.2⟩
         · exact fun _ _ _ _ h => h.elim
         · exact (ext_refl _).drew
         have HBK : Hid (∀ {k : Nat} w', GrowS.atS 6 (fun w' => Ext w5 w') (fun w' => KeptP p w5 w' ∧ PS w' p v xs a4 n4) k w' → KeptP p w5 w') := Hd (fun w' h => by
          unfold GrowS.atS at h; split at h
          · exact KeptP.ofExt h
          · rcases h with h | h
            · exact KeptP.ofExt h
            · exact h.1)
         simp only [List.take_succ_cons, List.take_zero, List.drop_succ_cons, List.drop_zero]; repeat
          (refine GrowS.Wk.step (fun K hK => ?_)
           first
           | (refine GrowS.step_read (by rfl) (by rfl) (fun w => ext_refl w) ?_
              apply Exists.intro; refine ⟨fun w hB hF => ?_, ?_⟩
              · replace hB := HBK.out w hB; have c0 := (HOB.out.kept L hB).v.cell 7; have f0 := (HOB.out.kept L hB).v.free 7; have c1 := (HOB.out.kept L hB).bp.cell; have c2 := (HOB.out.kept L hB).bd.cell; simp at c0; go_simp; try exact rfl
              go_simp; refine hK _ _ ?_; clear hK K)
           | (refine GrowS.step_off (by rfl) ?_
              go_simp; refine hK _ _ ?_; clear hK K))
         refine GrowS.Wk.step (fun K hK => ?_); refine GrowS.step_rel (by rfl) (by rfl) (fun w' hB hF => ?_) (fun v hv => ?_)
         · replace hB : Ext w5 w' := hB; go_simp; refine GrowS.relUpon_enter ((HVAL.out (a3 + 1) n2 w' (HP.out.ext hB) hn2).mono ?_); intro e w'' hend; rw [HR.out] at hend; obtain ⟨c, rfl, htv, hps, hk⟩ := hend; obtain ⟨k, b, d, s, la, ln, lc, ma, mn, mc, rfl⟩ := htv.eight
           exact .inl ⟨_, rfl, ⟨hk, hps⟩, ⟨_, _, _, _, _, _, _, _, _, _, rfl⟩, trivial, _, rfl, htv.keep (Nat.le_refl _) (fun g hg _ => ⟨Nat.le_trans hB.size hg, rfl⟩)⟩
         obtain ⟨k, b, d, s, la, ln, lc, ma, mn, mc, rfl⟩ := hv; go_simp; refine hK _ _ ?_; clear hK K; repeat
          (refine GrowS.Wk.step (fun K hK => ?_)
           first
           | (refine GrowS.step_read (by rfl) (by rfl) (fun w => ext_refl w) ?_
              apply Exists.intro; refine ⟨fun w hB hF => ?_, ?_⟩
              · replace hB := HBK.out w hB; skip
                go_simp; try exact rfl
              go_simp; refine hK _ _ ?_; clear hK K)
           | (refine GrowS.step_off (by rfl) ?_
              go_simp; refine hK _ _ ?_; clear hK K))
         refine GrowS.Wk.step (fun K hK => ?_); refine GrowS.step_rel (by rfl) (by rfl) (fun w' hB hF => ?_) (fun v hv => ?_)
         · replace hB := HBK.out w' hB; go_simp; exact GrowS.relUpon_value ((ext_refl w').alloc (Nat.le_refl _) _) ⟨_, rfl⟩ ⟨_, rfl, hB.size, heap_alloc_new _ _⟩
         obtain ⟨gn, rfl⟩ := hv; go_simp; refine hK _ _ ?_; clear hK K; refine GrowS.Wk.nil ?_; intro w6 hB hF; obtain ⟨_, c, ec, htv⟩ : True ∧ ∃ c, Value.agg (cellsV k b d s (.slice la ln lc) (.slice ma mn mc)) = .agg c ∧ TV w6 (fun g => w5.heap.size ≤ g) t c := hF 6; obtain ⟨gn', eg, hgn, hnew⟩ := hF 9; simp only [Value.agg.injEq] at ec; subst ec
         simp only [Value.slice.injEq, Option.some.injEq, Addr.mk.injEq, and_true] at eg; subst eg; obtain ⟨hk6, hps6⟩ := hB; clear hF HBK h0 h1; have ob6 := HOB.out.kept L hk6; show wpAny _ _ _ _ (4 + 1) _ _ _; refine wpAny_one 10 (by kernel_rfl) ?_
         refine wpOp_append rfl (by rfl) _ _ _ _ rfl base 43 _ _ 9 128 (by kernel_rfl) (by rfl) (by rfl) (by rfl) (by kernel_rfl) (by rfl) (by decide) _ acc.length cs (by rfl) ob6.own _ 1 zeroM.toList (by rfl) (src_one (e' := 43) (by kernel_rfl) hnew (by rfl) (by simp [Value.oneCell'])) (by simp only [maxLen]; omega) (by omega) (Nat.le_trans hbs hk6.size) ?_; intro v' w7 hown7 hgr hor; have HO7 := Hd hown7
         have hlt : ∀ k, (Value.slice vA acc.length vC).ownBlock = some k → base ≤ k ∧ k < w6.heap.size := fun k hk => ob6.own.lt k hk; obtain ⟨hl7, hrow⟩ := hown7; rcases hrow with ⟨_, hz⟩ | ⟨g, cap, cur, rfl, hbg, hg, hnc, hcm, hcs, htk⟩
         · exact absurd hz (by omega)
         have hqg : q ≠ g := by omega
         have hgq : g ≠ q := by omega
         have hll : (acc.length : Int) < (acc.length : Int) + 1 := by omega
         have hv7 : VAt w7 q (cellsV 5 false Num.zero [] noL (.slice vA acc.length vC)) := by
          unfold VAt; rw [hgr.block q ob6.v.lt (fun e => by have := (hlt q e.symm).1; omega)]; exact ob6.v
         have c0 := hv7.cell 7; have f0 := hv7.free 7; simp at c0; have hor2 : some g = (Value.slice vA acc.length vC).ownBlock ∨ g = w6.heap.size := by
          rcases hor with h | h
          · exact .inl h
          · exact .inr (by simpa [Value.ownBlock] using h)
         have hcl := ob6.tm.length
         have HEND : Hid (∀ W, Two w7 W g q (.cells (putL cur (acc.length * 9) (.string ⟨key.toArray⟩ :: (cellsV k b d s (.slice la ln lc) (.slice ma mn mc)).toList)) 43 (0, 0)) (.cells ((cellsV 5 false Num.zero [] noL (.slice vA acc.length vC)).setIfInBounds 7 (.slice (some ⟨g, 0, none⟩) (acc.length + 1) cap)) 27 (0, 0)) → EndO p base q qp qd qm bm deep v xs w (.returned (.tuple #[])) W T) := Hd (fun W h2 => by
          have hkQ : KeptR base p q bm w5 W := ⟨h2.os.trans (hgr.os.trans hk6.os), h2.tape.trans (hgr.tape.trans hk6.tape), h2.output.trans (hgr.output.trans hk6.output), Nat.le_trans hk6.size (Nat.le_trans hgr.size (Nat.le_of_eq h2.size.symm)), fun k hk hkp hkq _ => by
           rw [h2.block k (by omega) hkq, hgr.block k (by have := hk6.size; omega) (fun e => by have := (hlt k e.symm).1; omega)]; exact hk6.block k (by omega) hkp⟩
          have hkW : KeptR base p q bm w W := HKR.out.trans hkQ; rw [hres.out]; exact ⟨rfl, PS.through hps6 hgr (fun e => by have := (hlt p e.symm).1; omega) h2 (by omega) (by omega) HBN.out (HK0.out.trans (hkW.kept (by omega) (by omega) (by omega))), StO.push L HOB.out hkl HKEYS.out hbs hk6 htv hgr HO7.out hg hbg hor2 h2, hkW⟩)
         have hrow9 : ∀ i, (hi : i < 9) → w7.cell? ⟨g, acc.length * 9 + i, none⟩ = some (zeroM[i]'hi) := fun i hi => by
          have h1 : (cur.toList.take ((acc.length + 1) * 9))[acc.length * 9 + i]? = some (zeroM[i]'hi) := by
           rw [htk, List.getElem?_append_right (by omega), show acc.length * 9 + i - cs.length = i by omega]; simp [hi]
          rw [List.getElem?_take, if_pos (by omega), Array.getElem?_toList] at h1; rw [cell_of_cells hg]; exact h1
         have g0 := hrow9 0 (by decide); have g1 := hrow9 1 (by decide); have g2 := hrow9 2 (by decide); have g3 := hrow9 3 (by decide); have g4 := hrow9 4 (by decide); have g5 := hrow9 5 (by decide); have g6 := hrow9 6 (by decide); have g7 := hrow9 7 (by decide); have g8 := hrow9 8 (by decide); clear hrow9; simp at g0 g1 g2 g3 g4 g5 g6 g7 g8
         have fr : ∀ i, w7.frozen? ⟨g, i, none⟩ = false := fun i => free_of_cells hg; have z0 := fr (acc.length * 9); have z1 := fr (acc.length * 9 + 1); have z2 := fr (acc.length * 9 + 2); have z3 := fr (acc.length * 9 + 3); have z4 := fr (acc.length * 9 + 4); have z5 := fr (acc.length * 9 + 5); have z6 := fr (acc.length * 9 + 6); have z7 := fr (acc.length * 9 + 7); have z8 := fr (acc.length * 9 + 8)
         clear fr; have HA := HEND.out _ (two_ofA (k := acc.length * 9) (i := 7) (us := (.string ⟨key.toArray⟩ :: (cellsV k b d s (.slice la ln lc) (.slice ma mn mc)).toList)) (u := .slice (some ⟨g, 0, none⟩) (acc.length + 1) cap) hg hv7 hgq)
         have HB := HEND.out _ (two_ofB (k := acc.length * 9) (i := 7) (us := (.string ⟨key.toArray⟩ :: (cellsV k b d s (.slice la ln lc) (.slice ma mn mc)).toList)) (u := .slice (some ⟨g, 0, none⟩) (acc.length + 1) cap) hg hv7 hgq); simp only [storeL, Nat.add_assoc, Nat.reduceAdd] at HA HB; clear HEND; replace HA := Hd HA; replace HB := Hd HB; any_goals (first
          | refine wpAny_two 11 13 (by decide +kernel) ?_ ?_
          | refine wpAny_two 12 13 (by decide +kernel) ?_ ?_
          | refine wpAny_two 11 14 (by decide +kernel) ?_ ?_
          | refine wpAny_two 12 14 (by decide +kernel) ?_ ?_
          | refine wpAny_one 13 (by decide +kernel) ?_
          | refine wpAny_one 11 (by decide +kernel) ?_
          | refine wpAny_one 14 (by decide +kernel) ?_
          | refine wpAny_one 12 (by decide +kernel) ?_)
         all_goals
          refine wpOp_now rfl (by rfl) ?_; unfold Oper.wp; go_simp
         any_goals (first
          | refine wpAny_two 11 13 (by decide +kernel) ?_ ?_
          | refine wpAny_two 12 13 (by decide +kernel) ?_ ?_
          | refine wpAny_two 11 14 (by decide +kernel) ?_ ?_
          | refine wpAny_two 12 14 (by decide +kernel) ?_ ?_
          | refine wpAny_one 13 (by decide +kernel) ?_
          | refine wpAny_one 11 (by decide +kernel) ?_
          | refine wpAny_one 14 (by decide +kernel) ?_
          | refine wpAny_one 12 (by decide +kernel) ?_)
         all_goals
          refine wpOp_now rfl (by rfl) ?_; unfold Oper.wp; go_simp
         any_goals (first
          | refine wpAny_two 11 13 (by decide +kernel) ?_ ?_
          | refine wpAny_two 12 13 (by decide +kernel) ?_ ?_
          | refine wpAny_two 11 14 (by decide +kernel) ?_ ?_
          | refine wpAny_two 12 14 (by decide +kernel) ?_ ?_
          | refine wpAny_one 13 (by decide +kernel) ?_
          | refine wpAny_one 11 (by decide +kernel) ?_
          | refine wpAny_one 14 (by decide +kernel) ?_
          | refine wpAny_one 12 (by decide +kernel) ?_)
         all_goals
          refine wpOp_now rfl (by rfl) ?_; unfold Oper.wp; go_simp
         any_goals (first
          | refine wpAny_two 11 13 (by decide +kernel) ?_ ?_
          | refine wpAny_two 12 13 (by decide +kernel) ?_ ?_
          | refine wpAny_two 11 14 (by decide +kernel) ?_ ?_
          | refine wpAny_two 12 14 (by decide +kernel) ?_ ?_
          | refine wpAny_one 13 (by decide +kernel) ?_
          | refine wpAny_one 11 (by decide +kernel) ?_
          | refine wpAny_one 14 (by decide +kernel) ?_
          | refine wpAny_one 12 (by decide +kernel) ?_)
         all_goals
          refine wpOp_now rfl (by rfl) ?_; unfold Oper.wp; go_simp
         all_goals refine ⟨by decide +kernel, ?_⟩
         all_goals go_end0
         all_goals first
          | with_reducible exact HA.out
          | with_reducible exact HB.out
       | err er bb =>
         have hres : Hid (T = .err er bb) := Hd (by rw [← hT4.out, hr]; rfl); have HR := Hd hr; clear hr hT4; have h1 : ∀ w1 w', KeptP p w1 w' → KeptP p w1 w' := fun _ _ h => h; refine GrowS.wp_region_restS (G0 := Ext) (G1 := fun w1 w' => KeptP p w1 w') (B0 := fun w' => Ext w5 w') (B1 := fun w' => KeptP p w5 w') (E := fun ch w' => ch = wrongV er bb ∧ KeptP p w5 w') (anc := fun _ => [])
          (I := fun j => if j = 6 then some (specTV h0 h1 hpw tNull False) else if j = 9 then some (specOne h0 h1 hpw 43 zeroM) else none) 6 10 #[true, true, true, true, true, true, true, true, true, true, false, false, false, false, false]
          (by kernel_rfl) (by kernel_rfl) (by kernel_rfl) (by kernel_rfl) (by kernel_rfl) (by kernel_rfl) ?_ ?_ ?_ ?_ ?_ ?_
         · exact fun w w' h hg => ext_trans h hg
         · exact fun w1 w' h hg => h.trans (KeptP.ofExt hg)
         · exact fun w1 w' h hg => (KeptP.ofExt h).trans hg
         · rintro ch a8 w8 hd8 ⟨rfl, hk8⟩; refine ⟨hd8, ?_⟩; rw [hres.out]; exact ⟨rfl, HKR.out.trans (KeptR.ofP hk8 hbs)⟩
         · exact (ext_refl _).drew
         have HBK : Hid (∀ {k : Nat} w', GrowS.atS 6 (fun w' => Ext w5 w') (fun w' => KeptP p w5 w') k w' → KeptP p w5 w') := Hd (fun w' h => by
          unfold GrowS.atS at h; split at h
          · exact KeptP.ofExt h
          · rcases h with h | h
            · exact KeptP.ofExt h
            · exact h)
         simp only [List.take_succ_cons, List.take_zero, List.drop_succ_cons, List.drop_zero]; repeat
          (refine GrowS.Wk.step (fun K hK => ?_)
           first
           | (refine GrowS.step_read (by rfl) (by rfl) (fun w => ext_refl w) ?_
              apply Exists.intro; refine ⟨fun w hB hF => ?_, ?_⟩
              · replace hB := HBK.out w hB; have c0 := (HOB.out.kept L hB).v.cell 7; have f0 := (HOB.out.kept L hB).v.free 7; have c1 := (HOB.out.kept L hB).bp.cell; have c2 := (HOB.out.kept L hB).bd.cell; simp at c0; go_simp; try exact rfl
              go_simp; refine hK _ _ ?_; clear hK K)
           | (refine GrowS.step_off (by rfl) ?_
              go_simp; refine hK _ _ ?_; clear hK K))
         refine GrowS.Wk.step (fun K hK => ?_); refine GrowS.step_rel (by rfl) (by rfl) (fun w' hB hF => ?_) (fun v hv => ?_)
         · replace hB : Ext w5 w' := hB; go_simp; refine GrowS.relUpon_enter ((HVAL.out (a3 + 1) n2 w' (HP.out.ext hB) hn2).mono ?_); intro e w'' hend; rw [HR.out] at hend; obtain ⟨rfl, hk⟩ := hend; exact .inr ⟨_, rfl, rfl, (KeptP.ofExt hB).trans hk⟩
         obtain ⟨k, b, d, s, la, ln, lc, ma, mn, mc, rfl⟩ := hv; go_simp; refine hK _ _ ?_; clear hK K; repeat
          (refine GrowS.Wk.step (fun K hK => ?_)
           first
           | (refine GrowS.step_read (by rfl) (by rfl) (fun w => ext_refl w) ?_
              apply Exists.intro; refine ⟨fun w hB hF => ?_, ?_⟩
              · replace hB := HBK.out w hB; skip
                go_simp; try exact rfl
              go_simp; refine hK _ _ ?_; clear hK K)
           | (refine GrowS.step_off (by rfl) ?_
              go_simp; refine hK _ _ ?_; clear hK K))
         refine GrowS.Wk.step (fun K hK => ?_); refine GrowS.step_rel (by rfl) (by rfl) (fun w' hB hF => ?_) (fun v hv => ?_)
         · replace hB := HBK.out w' hB; go_simp; exact GrowS.relUpon_value ((ext_refl w').alloc (Nat.le_refl _) _) ⟨_, rfl⟩ ⟨_, rfl, hB.size, heap_alloc_new _ _⟩
         obtain ⟨gn, rfl⟩ := hv; go_simp; refine hK _ _ ?_; clear hK K; refine GrowS.Wk.nil ?_; intro w6 hB hF; exact (hF 6 : False ∧ _).1.elim
     · have hres : Hid (T = .err 2 a3) := Hd (by rw [← hT3.out, if_neg h58]); refine (take_no p v xs a3 n2 58 _ HP.out h58).mono ?_; rintro e w5 ⟨rfl, hk1⟩; go_wp2_with fail; rw [hres.out]; exact ⟨rfl, rfl, HKR.out.trans (KeptR.ofP hk1 hbs)⟩
end Go.Proofs.YtjapbjmeoaagmaaGreatDoor
