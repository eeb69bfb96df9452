/- Several texts of this proof in one. -/
import Derived.Test.YtjapbjmeoaagmaaGreatDoorQPrintW1
import Derived.Test.YtjapbjmeoaagmaaGreatDoorEPrintWBd
import Derived.Test.YtjapbjmeoaagmaaGreatDoorEPrintWWBldS
import Derived.Test.YtjapbjmeoaagmaaGreatDoorEPrintWDecA
import Derived.Test.YtjapbjmeoaagmaaGreatDoorEPrintWDecC
import Derived.Test.YtjapbjmeoaagmaaGreatDoorEPrintWStr
import Derived.Lib.AppendIntMem
import Derived.Test.YtjapbjmeoaagmaaGreatDoorEPrintWGrowT
import Derived.Deep.DeepCutAuto
import Derived.Lib.Hide
import Derived.Test.YtjapbjmeoaagmaaGreatDoorEPrintWWUtfC
import Derived.Test.YtjapbjmeoaagmaaGreatDoorEPrintWConv
section
set_option linter.unusedVariables false
set_option linter.unusedSimpArgs false
set_option maxRecDepth 100000
namespace Go.GrowS
open Go.Mem Go.RowKit
section
variable {P : Program} {ops : Array Oper} {md : Region.Mode} {G : Nat → World → World → Prop} {E : List PanicEntry → World → Prop} {B : Nat → World → Prop} {anc : Nat → List Nat} {I : Nat → Act → Option (Spec G)}
theorem any_restTA {Q : Exit → Act → World → Prop} {a : Act} {w : World} {l : List Oper} (n : Nat) (wt : Nat → List Nat) (target : Array Bool) (hkk : Keeps l.toArray I) (hB : restTB .any l.toArray n wt target = true) (hA : ancOk .any l.toArray anc = true)
    {Inv : Array Bool → World → Prop} (hI0 : InvOk .any l.toArray G B Inv) (hE : ∀ ch a' w, a'.defers = a.defers → E ch w → Q (.panic ch) a' w) (hw : Inv (Array.replicate l.length false) w.drew)
    (h : walk P l.toArray G E B anc I (fun a' F => ∀ w', Inv target w' → (∀ k, F k w') → wpAny P .any l.toArray Q (l.length - n) target a' w') (l.take n) 0 a (fun _ _ => True)) : wpAny P .any l.toArray Q l.toArray.size (Array.replicate l.toArray.size false) a w.drew := by
  simp only [restTB, Bool.and_eq_true, decide_eq_true_eq] at hB
  obtain ⟨⟨⟨⟨⟨hsel, hn⟩, hwt0⟩, hrd0⟩, hlex⟩, hW⟩ := hB
  have hn' : n ≤ l.length := by simpa using hn
  have htl : (l.take n).length = n := by simp; omega
  have hrd : ∀ j ∈ Region.ready .any l.toArray target, n ≤ j := fun j hj => by have := List.all_eq_true.1 hrd0 j hj; simpa using this
  have hwt : ∀ t i, n ≤ t → i < n → t < l.toArray.size → i ∈ wt t := fun t i ht hi hts => by
    have h1 := List.all_eq_true.1 hwt0 t (List.mem_range.2 hts)
    simp only [Bool.or_eq_true, decide_eq_true_eq] at h1
    rcases h1 with h1 | h1
    · omega
    · simpa using List.all_eq_true.1 h1 i (List.mem_range.2 hi)
  have inv0 : Closed .any l.toArray (Array.replicate l.toArray.size false) := fun j oj _ hl => (by rw [getD_replicate_false] at hl; cases hl)
  have H := anyGL_lexF (P := P) (G := G) (E := E) (B := B) (anc := anc) (I := I) (md := .any) (target := target) hkk hA hsel hW hwt hrd (l.take n) 0 _ a (fun _ _ => True) (fun j hj => by
    have hj' : j < n := by rw [htl] at hj; exact hj
    simp [hj']) (by simpa using htl) inv0 (by rw [htl]; exact hlex) h
  have := wpAny_of_headG (Q' := Q) (g := l.toArray.size - n) hI0 hE (fun listed a' F' w' hb hf hL => by
    obtain ⟨rfl, h2⟩ := hL
    have := h2 w' hb hf
    simpa using this) _ _ _ (fun _ _ => True) _ rfl (by simpa using hw) (fun _ => trivial) (fun _ _ _ _ _ _ => trivial) H
  rw [htl, show n + (l.toArray.size - n) = l.toArray.size by omega] at this
  exact this
end
section
variable {P : Program} {G : Nat → World → World → Prop} {E : List PanicEntry → World → Prop} {B : Nat → World → Prop} {anc : Nat → List Nat}
end
section
variable {P : Program} {G : Nat → World → World → Prop} {E : List PanicEntry → World → Prop} {B : Nat → World → Prop} {anc : Nat → List Nat}
theorem walk_monoQ {ops : Array Oper} {I : Nat → Act → Option (Spec G)} {Q Q' : Act → Env → Prop} (hq : ∀ a F, Q a F → Q' a F) : ∀ {l : List Oper} {k : Nat} {a : Act} {F : Env}, walk P ops G E B anc I Q l k a F → walk P ops G E B anc I Q' l k a F
  | [], _, _, _, h => hq _ _ h
  | o :: l, k, a, F, h => by
    unfold walk at h ⊢
    split
    · next hw =>
      rw [if_pos hw] at h
      cases hI : I k a with
      | none =>
        rw [hI] at h
        simp only at h ⊢
        obtain ⟨v, h1, h2⟩ := h
        exact ⟨v, h1, walk_monoQ hq h2⟩
      | some s =>
        rw [hI] at h
        simp only at h ⊢
        exact ⟨h.1, fun v hv => walk_monoQ hq (h.2 v hv)⟩
    · next hw =>
      rw [if_neg hw] at h
      exact walk_monoQ hq h
def atW (sp : Nat) (wt : Nat → List Nat) (B0 B1 : World → Prop) : Nat → World → Prop := fun i w => if i = sp ∨ (wt sp).contains i = true then B0 w else B0 w ∨ B1 w
theorem invW_ok {md : Region.Mode} {ops : Array Oper} {sp : Nat} {wt : Nat → List Nat} {B0 B1 : World → Prop} {G0 G1 : World → World → Prop} (hW : ancOk md ops wt = true) (hg : unguardedB ops sp = true) (h00 : ∀ w w', B0 w → G0 w w' → B0 w') (h11 : ∀ w w', B1 w → G0 w w' → B1 w') (h01 : ∀ w w', B0 w → G1 w w' → B1 w') :
    InvOk md ops (gS sp G0 G1) (atW sp wt B0 B1) (fun listed w => invS sp B0 B1 listed w ∧ Closed md ops listed ∧ listed.size = ops.size) := by
  have h := invS_ok (md := md) (ops := ops) hg h00 h11 h01
  refine ⟨fun listed i w hw hi => ?_, fun listed i w w' hw hi hg' => ⟨h.last listed i w w' hw.1 hi hg', hw.2.1.set hi, by simpa using hw.2.2⟩, fun listed i o w hw hi ho hgo => ⟨h.skip listed i o w hw.1 hi ho hgo, hw.2.1.set hi, by simpa using hw.2.2⟩⟩
  have h1 := h.pre listed i w hw.1 hi
  unfold atW
  unfold atS at h1
  by_cases e : i = sp
  · rw [if_pos (.inl e)]; rwa [if_pos e] at h1
  · rw [if_neg e] at h1
    by_cases hc : (wt sp).contains i = true
    · rw [if_pos (.inr hc)]
      have h2 := hw.1
      unfold invS at h2
      split at h2
      · next hl =>
        exfalso
        have hos : ∃ o, ops[sp]? = some o := by
          unfold unguardedB at hg
          cases ho : ops[sp]? with
          | none => rw [ho] at hg; cases hg
          | some o => exact ⟨o, rfl⟩
        obtain ⟨o, ho⟩ := hos
        have hsz : sp < listed.size := by rw [hw.2.2]; exact (Array.getElem?_eq_some_iff.1 ho).1
        have h3 := anc_listed hW hw.2.1 sp o ho (hw.2.1 sp o ho (by simpa [Array.getD, hsz] using hl)) i (by simpa using hc)
        have h4 := (mem_ready.1 hi).1
        by_cases hb : i < listed.size
        · simp [Array.getD, hb] at h3 h4; rw [h3] at h4; cases h4
        · simp [Array.getD, hb] at h3
      · exact h2
    · rw [if_neg (by simp only [not_or]; exact ⟨e, hc⟩)]
      exact h1
theorem any_restW {Q : Exit → Act → World → Prop} {a : Act} {w : World} {l : List Oper} (sp : Nat) {B0 B1 : World → Prop} {G0 G1 : World → World → Prop} {I : Nat → Option (Spec (gS sp G0 G1))} (n : Nat) (wt : Nat → List Nat) (target : Array Bool) (hB : restTB .any l.toArray n wt target = true) (hA : ancOk .any l.toArray anc = true)
    (hg : unguardedB l.toArray sp = true) (hsp0 : (Array.replicate l.length false).getD sp true = false) (hsp1 : target.getD sp true = true)
    (h00 : ∀ w w', B0 w → G0 w w' → B0 w') (h11 : ∀ w w', B1 w → G0 w w' → B1 w') (h01 : ∀ w w', B0 w → G1 w w' → B1 w') (hE : ∀ ch a' w, a'.defers = a.defers → E ch w → Q (.panic ch) a' w) (hw : B0 w.drew)
    (h : Wk P l.toArray (gS sp G0 G1) E (atW sp wt B0 B1) anc (fun j _ => I j) (fun a' F => ∀ w', B1 w' → (∀ k, F k w') → wpAny P .any l.toArray Q (l.length - n) target a' w') (l.take n) 0 a (fun _ _ => True)) : wpAny P .any l.toArray Q l.toArray.size (Array.replicate l.toArray.size false) a w.drew := by
  have hW : ancOk .any l.toArray wt = true := by
    simp only [restTB, Bool.and_eq_true] at hB
    exact hB.2
  refine any_restTA (I := fun j _ => I j) (Inv := fun listed w => invS sp B0 B1 listed w ∧ Closed .any l.toArray listed ∧ listed.size = l.toArray.size) n wt target (fun _ _ _ _ _ _ _ => rfl) hB hA (invW_ok hW hg h00 h11 h01) hE ⟨?_, ?_, by simp⟩ ?_
  · unfold invS; rw [hsp0]; exact hw
  · exact fun j oj _ hl => (by rw [getD_replicate_false] at hl; cases hl)
  · refine walk_monoQ (fun a' F hq w' hi hF => hq w' ?_ hF) h.out
    have h1 := hi.1
    unfold invS at h1
    rwa [if_pos hsp1] at h1
theorem wp_region_restW {id : Nat} {Q : Exit → Act → World → Prop} {a : Act} {w : World} {l : List Oper} (sp : Nat) {B0 B1 : World → Prop} {G0 G1 : World → World → Prop} {I : Nat → Option (Spec (gS sp G0 G1))} (n : Nat) (wt : Nat → List Nat) (target : Array Bool) (hm : P.follows .mixedOrders = true) (hB : restTB .any l.toArray n wt target = true) (hA : ancOk .any l.toArray anc = true)
    (hg : unguardedB l.toArray sp = true) (hsp0 : (Array.replicate l.length false).getD sp true = false) (hsp1 : target.getD sp true = true)
    (h00 : ∀ w w', B0 w → G0 w w' → B0 w') (h11 : ∀ w w', B1 w → G0 w w' → B1 w') (h01 : ∀ w w', B0 w → G1 w w' → B1 w') (hE : ∀ ch a' w, a'.defers = a.defers → E ch w → Q (.panic ch) a' w) (hw : B0 w.drew)
    (h : Wk P l.toArray (gS sp G0 G1) E (atW sp wt B0 B1) anc (fun j _ => I j) (fun a' F => ∀ w', B1 w' → (∀ k, F k w') → wpAny P .any l.toArray Q (l.length - n) target a' w') (l.take n) 0 a (fun _ _ => True)) : (Code.region id l.toArray true).wp P Q a w :=
  wp_region_any hm (any_restW sp n wt target hB hA hg hsp0 hsp1 h00 h11 h01 hE hw h)
end
section
variable {P : Program} {md : Region.Mode} {Q : Exit → Act → World → Prop}
end
section
variable {P : Program} {Q : Exit → Act → World → Prop}
theorem len_of_subset {α : Type} : ∀ {l m : List α}, l.Nodup → (∀ x ∈ l, x ∈ m) → l.length ≤ m.length
  | [], m, _, _ => by simp
  | x :: l, m, hn, hs => by
    obtain ⟨a, b, rfl⟩ := List.append_of_mem (hs x List.mem_cons_self)
    obtain ⟨h1, h2⟩ := List.nodup_cons.1 hn
    have ih : l.length ≤ (a ++ b).length := len_of_subset h2 (fun y hy => by
      rcases List.mem_append.1 (hs y (List.mem_cons_of_mem _ hy)) with h' | h'
      · exact List.mem_append_left _ h'
      · rcases List.mem_cons.1 h' with rfl | h'
        · exact absurd hy h1
        · exact List.mem_append_right _ h')
    simp at ih ⊢
    omega
end
end Go.GrowS
end

section
set_option linter.unusedVariables false
set_option linter.unusedSimpArgs false
set_option maxRecDepth 100000
namespace Go.Proofs.YtjapbjmeoaagmaaGreatDoor
open Go.RowKit Go.Mem Orange
def PlAt (w : World) (A : Nat → Prop) (v : Value) (l : List PStep) : Prop := RowAt w A 3 v l.length (l.flatMap fun s => (cellsS s).toList) ∧ ∀ s ∈ l, i64R s.pos
theorem flat3_get : ∀ (l : List PStep) (i : Nat) (h : i < l.length) (j : Nat) (hj : j < 3), (l.flatMap fun s => (cellsS s).toList)[i * 3 + j]? = (cellsS l[i])[j]?
  | s :: l, 0, h, j, hj => by
    rw [List.flatMap_cons, Nat.zero_mul, Nat.zero_add, List.getElem?_append_left (by simp; omega)]
    simp
  | s :: l, i + 1, h, j, hj => by
    rw [List.flatMap_cons, List.getElem?_append_right (by simp; omega)]
    have := flat3_get l i (by simpa using h) j hj
    rw [show (i + 1) * 3 + j - (cellsS s).toList.length = i * 3 + j by simp; omega]
    exact this
theorem PlAt.keep {w w' : World} {A A' : Nat → Prop} {v : Value} {l : List PStep} (h : PlAt w A v l) (hs : w.heap.size ≤ w'.heap.size) (hA : ∀ g, A g → g < w.heap.size → A' g ∧ w'.heap[g]? = w.heap[g]?) : PlAt w' A' v l := ⟨h.1.keep hs hA, h.2⟩
theorem PlAt.elem {w : World} {A : Nat → Prop} {a : Option Addr} {m cap : Nat} {l : List PStep} (h : PlAt w A (.slice a m cap) l) (i : Nat) (hi : i < l.length) :
    ∃ g o, a = some ⟨g, o, none⟩ ∧ A g ∧ ∀ w' : World, (∀ g, A g → g < w.heap.size → w'.heap[g]? = w.heap[g]?) →
      w'.cell? ⟨g, o + i * 3, none⟩ = some (.string ⟨l[i].name.toArray⟩) ∧ w'.cell? ⟨g, o + i * 3 + 1, none⟩ = some (.int .i64 l[i].pos) ∧ w'.cell? ⟨g, o + i * 3 + 2, none⟩ = some (.bool l[i].named) := by
  obtain ⟨h0, a', c', e, _, _, hrow⟩ := h.1
  simp only [Value.slice.injEq] at e
  obtain ⟨rfl, -, rfl⟩ := e
  obtain ⟨g, o, rfl, hA, hg, hc0⟩ := hrow (by omega)
  have key : ∀ w' : World, (∀ g, A g → g < w.heap.size → w'.heap[g]? = w.heap[g]?) → ∀ j, j < 3 → ∀ u, (cellsS l[i])[j]? = some u → w'.cell? ⟨g, o + (i * 3 + j), none⟩ = some u := fun w' hw j hj u hu => by
    rw [World.cell?_of_block (w := w) (a := ⟨g, o + (i * 3 + j), none⟩) (hw g hA hg)]
    obtain ⟨hj2, e2⟩ := List.getElem?_eq_some_iff.1 ((flat3_get l i hi j hj).trans hu)
    rw [← e2]
    exact hc0 _ hj2
  refine ⟨g, o, rfl, hA, fun w' hw => ?_⟩
  simp only [Nat.add_assoc]
  exact ⟨key w' hw 0 (by omega) _ rfl, key w' hw 1 (by omega) _ rfl, key w' hw 2 (by omega) _ rfl⟩
section
variable {G0 G1 : World → World → Prop} {sp p B : Nat}
end
theorem KeptP.store8 {q : Nat} {w : World} (a b c d e f g i : Value) : KeptP q w ((((((((w.setCell ⟨q, 0, none⟩ a).setCell ⟨q, 1, none⟩ b).setCell ⟨q, 2, none⟩ c).setCell ⟨q, 3, none⟩ d).setCell ⟨q, 4, none⟩ e).setCell ⟨q, 5, none⟩ f).setCell ⟨q, 6, none⟩ g).setCell ⟨q, 7, none⟩ i) :=
  (((((((KeptP.set a).trans (KeptP.set b)).trans (KeptP.set c)).trans (KeptP.set d)).trans (KeptP.set e)).trans (KeptP.set f)).trans (KeptP.set g)).trans (KeptP.set i)
end Go.Proofs.YtjapbjmeoaagmaaGreatDoor
end

section
set_option linter.unusedVariables false
set_option linter.unusedSimpArgs false
set_option maxRecDepth 100000
namespace Go.Mem
open Go.RowKit
theorem putL_list : ∀ (us : List Value) (cur : Array Value) (k : Nat), k + us.length ≤ cur.size → (putL cur k us).toList = cur.toList.take k ++ us ++ cur.toList.drop (k + us.length)
  | [], cur, k, h => by simp [putL]
  | u :: us, cur, k, h => by
    simp only [List.length_cons] at h
    rw [putL, putL_list us _ (k + 1) (by simp; omega), Array.toList_setIfInBounds]
    have h1 : (cur.toList.set k u).take (k + 1) = cur.toList.take k ++ [u] := by
      rw [List.take_add_one, List.take_set_of_le (Nat.le_refl _), List.getElem?_set_self (by simp; omega)]; rfl
    rw [h1, List.drop_set_of_lt (by omega)]
    simp only [List.length_cons, List.append_assoc, List.singleton_append, List.cons_append, List.nil_append]
    rw [show k + 1 + us.length = k + (us.length + 1) by omega]
def RowC (w : World) (g : Nat) (z : Nat) (e : TypeId) (cap : Nat) (ms : List (List Value)) : Prop :=
  ∃ cur : Array Value, w.heap[g]? = some (.cells cur e (0, 0)) ∧ cur.size = cap * z ∧ ms.length ≤ cap ∧ cap ≤ maxLen ∧ (∀ c ∈ ms, c.length = z) ∧ cur.toList.take (ms.length * z) = ms.flatten
theorem flat_len {z : Nat} : ∀ {ms : List (List Value)}, (∀ c ∈ ms, c.length = z) → ms.flatten.length = ms.length * z
  | [], _ => by simp
  | c :: ms, h => by
    rw [List.flatten_cons, List.length_append, h c List.mem_cons_self, flat_len (fun d hd => h d (List.mem_cons_of_mem _ hd)), List.length_cons, Nat.add_mul]
    omega
theorem flat_get {z : Nat} : ∀ {ms : List (List Value)} (h : ∀ c ∈ ms, c.length = z) (i : Nat) (hi : i < ms.length) (j : Nat) (hj : j < z), ms.flatten[i * z + j]? = ms[i][j]?
  | c :: ms, h, 0, hi, j, hj => by
    rw [List.flatten_cons, Nat.zero_mul, Nat.zero_add, List.getElem?_append_left (by rw [h c List.mem_cons_self]; exact hj)]
    simp
  | c :: ms, h, i + 1, hi, j, hj => by
    have hc := h c List.mem_cons_self
    rw [List.flatten_cons, List.getElem?_append_right (by rw [hc, Nat.add_mul]; omega), hc, show (i + 1) * z + j - z = i * z + j by rw [Nat.add_mul]; omega, flat_get (fun d hd => h d (List.mem_cons_of_mem _ hd)) i (by simpa using hi) j hj]
    simp
theorem flat_set {z : Nat} : ∀ {ms : List (List Value)} (h : ∀ c ∈ ms, c.length = z) (i : Nat) (hi : i < ms.length) (a b : Nat) (us : List Value) (hab : a + us.length = b) (hb : b ≤ z), (ms.set i (ms[i].take a ++ us ++ ms[i].drop b)).flatten = ms.flatten.take (i * z + a) ++ us ++ ms.flatten.drop (i * z + b)
  | c :: ms, h, 0, hi, a, b, us, hab, hb => by
    have hc := h c List.mem_cons_self
    simp only [List.set_cons_zero, List.getElem_cons_zero, List.flatten_cons, Nat.zero_mul, Nat.zero_add]
    rw [List.take_append_of_le_length (by omega), List.drop_append_of_le_length (by omega)]
    simp only [List.append_assoc]
  | c :: ms, h, i + 1, hi, a, b, us, hab, hb => by
    have hc := h c List.mem_cons_self
    simp only [List.set_cons_succ, List.getElem_cons_succ, List.flatten_cons]
    rw [flat_set (fun d hd => h d (List.mem_cons_of_mem _ hd)) i (by simpa using hi) a b us hab hb]
    have e1 : c.take (c.length + (i * z + a)) = c := List.take_of_length_le (by omega)
    have e2 : c.drop (c.length + (i * z + b)) = [] := List.drop_of_length_le (by omega)
    rw [show (i + 1) * z + a = c.length + (i * z + a) by rw [hc, Nat.add_mul]; omega, show (i + 1) * z + b = c.length + (i * z + b) by rw [hc, Nat.add_mul]; omega, List.take_append, List.drop_append, e1, e2]
    simp
theorem RowC.lt {w : World} {g z cap : Nat} {e : TypeId} {ms : List (List Value)} (h : RowC w g z e cap ms) : g < w.heap.size := by
  obtain ⟨cur, h1, _⟩ := h; exact (Array.getElem?_eq_some_iff.1 h1).1
theorem RowC.keep {w w' : World} {g z cap : Nat} {e : TypeId} {ms : List (List Value)} (h : RowC w g z e cap ms) (hb : w'.heap[g]? = w.heap[g]?) : RowC w' g z e cap ms := by
  obtain ⟨cur, h1, h2⟩ := h; exact ⟨cur, hb.trans h1, h2⟩
theorem RowC.cell {w : World} {g z cap : Nat} {e : TypeId} {ms : List (List Value)} (h : RowC w g z e cap ms) {i : Nat} (hi : i < ms.length) {j : Nat} (hj : j < z) : w.cell? ⟨g, i * z + j, none⟩ = ms[i][j]? := by
  obtain ⟨cur, h1, h2, h3, h4, h5, h6⟩ := h
  rw [cell_of_cells h1, ← flat_get h5 i hi j hj, ← h6, List.getElem?_take, if_pos (by
    have : (i + 1) * z ≤ ms.length * z := Nat.mul_le_mul_right _ hi
    rw [Nat.add_mul] at this; omega)]
  simp
theorem RowC.free {w : World} {g z cap : Nat} {e : TypeId} {ms : List (List Value)} (h : RowC w g z e cap ms) (o : Nat) : w.frozen? ⟨g, o, none⟩ = false := by
  obtain ⟨cur, h1, _⟩ := h; exact free_of_cells h1
theorem RowC.store {w : World} {g z cap : Nat} {e : TypeId} {ms : List (List Value)} (h : RowC w g z e cap ms) {i : Nat} (hi : i < ms.length) (a b : Nat) (us : List Value) (hab : a + us.length = b) (hb : b ≤ z) : RowC (storeL w g (i * z + a) us) g z e cap (ms.set i (ms[i].take a ++ us ++ ms[i].drop b)) := by
  obtain ⟨cur, h1, h2, h3, h4, h5, h6⟩ := h
  have hfl := flat_len h5
  have hiz : (i + 1) * z ≤ ms.length * z := Nat.mul_le_mul_right _ hi
  have hmz : ms.length * z ≤ cap * z := Nat.mul_le_mul_right _ h3
  rw [Nat.add_mul] at hiz
  refine ⟨putL cur (i * z + a) us, storeL_self us h1, by rw [putL_size]; exact h2, by simpa using h3, h4, fun c hc => ?_, ?_⟩
  · rcases List.mem_or_eq_of_mem_set hc with hc | rfl
    · exact h5 c hc
    · have := h5 ms[i] (List.getElem_mem hi)
      simp; omega
  · rw [List.length_set, putL_list us cur _ (by omega), flat_set h5 i hi a b us hab hb, ← h6]
    have hl : cur.toList.length = cap * z := by simpa using h2
    rw [List.take_append, List.take_of_length_le (by simp; omega)]
    simp only [List.length_append, List.length_take, hl]
    rw [Nat.min_eq_left (by omega), List.take_take, Nat.min_eq_left (by omega), List.take_drop, show i * z + a + us.length + (ms.length * z - (i * z + a + us.length)) = ms.length * z by omega]
    rw [show i * z + b = i * z + a + us.length by omega]
end Go.Mem
namespace Go.Proofs.YtjapbjmeoaagmaaGreatDoor
open Go.RowKit Go.Mem Orange
def TMc (w : World) (A : Nat → Prop) (l : List Mem1) (ms : List (List Value)) : Prop :=
  l.length = ms.length ∧ ∀ i, (h : i < l.length) → (h' : i < ms.length) → ∃ c, TV w A l[i].2 c ∧ ms[i] = .string ⟨l[i].1.toArray⟩ :: c.toList
theorem TMc.of {w : World} {A : Nat → Prop} : ∀ {l : List Mem1} {cs : List Value}, TM w A l cs → ∃ ms, cs = ms.flatten ∧ TMc w A l ms
  | _, _, .nil => ⟨[], rfl, rfl, fun i h => absurd h (by simp)⟩
  | _, _, .cons (k := k) (c := c) h1 h2 => by
    obtain ⟨ms, rfl, h3, h4⟩ := TMc.of h2
    refine ⟨(.string ⟨k.toArray⟩ :: c.toList) :: ms, by simp, by simp [h3], fun i hi hi' => ?_⟩
    cases i with
    | zero => exact ⟨c, h1, rfl⟩
    | succ i => exact h4 i (by simpa using hi) (by simpa using hi')
theorem TMc.tm {w : World} {A : Nat → Prop} : ∀ {l : List Mem1} {ms : List (List Value)}, TMc w A l ms → TM w A l ms.flatten
  | [], [], _ => .nil
  | (k, t) :: l, m :: ms, h => by
    obtain ⟨h1, h2⟩ := h
    obtain ⟨c, h3, h4⟩ := h2 0 (by simp) (by simp)
    have h4' : m = .string ⟨k.toArray⟩ :: c.toList := h4
    rw [List.flatten_cons, h4']
    exact .cons h3 (TMc.tm ⟨by simpa using h1, fun i hi hi' => h2 (i + 1) (by simpa using hi) (by simpa using hi')⟩)
  | [], m :: ms, h => by simp [TMc] at h
  | _ :: l, [], h => by simp [TMc] at h
theorem TMc.nine {w : World} {A : Nat → Prop} {l : List Mem1} {ms : List (List Value)} (h : TMc w A l ms) : ∀ c ∈ ms, c.length = 9 := by
  intro c hc
  obtain ⟨i, hi, rfl⟩ := List.mem_iff_getElem.1 hc
  obtain ⟨c', h1, h2⟩ := h.2 i (by rw [h.1]; exact hi) hi
  rw [h2]; simp [h1.size]
theorem TMc.keep {w w' : World} {A A' : Nat → Prop} {l : List Mem1} {ms : List (List Value)} (h : TMc w A l ms) (hs : w.heap.size ≤ w'.heap.size) (hA : ∀ g, A g → g < w.heap.size → A' g ∧ w'.heap[g]? = w.heap[g]?) : TMc w' A' l ms :=
  ⟨h.1, fun i hi hi' => by obtain ⟨c, h1, h2⟩ := h.2 i hi hi'; exact ⟨c, h1.keep hs hA, h2⟩⟩
theorem TMc.set {w : World} {A : Nat → Prop} {l : List Mem1} {ms : List (List Value)} (h : TMc w A l ms) (i : Nat) {k : List UInt8} {x : Tree} {c : Array Value} (hx : TV w A x c) : TMc w A (l.set i (k, x)) (ms.set i (.string ⟨k.toArray⟩ :: c.toList)) := by
  refine ⟨by simp [h.1], fun j hj hj' => ?_⟩
  by_cases e : i = j
  · subst e
    rw [List.getElem_set_self, List.getElem_set_self]
    exact ⟨c, hx, rfl⟩
  · rw [List.getElem_set_ne e, List.getElem_set_ne e]
    exact h.2 j (by simpa using hj) (by simpa using hj')
def TLc (w : World) (A : Nat → Prop) (l : List Tree) (ms : List (List Value)) : Prop :=
  l.length = ms.length ∧ ∀ i, (h : i < l.length) → (h' : i < ms.length) → ∃ c, TV w A l[i] c ∧ ms[i] = c.toList
theorem TLc.of {w : World} {A : Nat → Prop} : ∀ {l : List Tree} {cs : List Value}, TL w A l cs → ∃ ms, cs = ms.flatten ∧ TLc w A l ms
  | _, _, .nil => ⟨[], rfl, rfl, fun i h => absurd h (by simp)⟩
  | _, _, .cons (c := c) h1 h2 => by
    obtain ⟨ms, rfl, h3, h4⟩ := TLc.of h2
    refine ⟨c.toList :: ms, by simp, by simp [h3], fun i hi hi' => ?_⟩
    cases i with
    | zero => exact ⟨c, h1, rfl⟩
    | succ i => exact h4 i (by simpa using hi) (by simpa using hi')
theorem TLc.tl {w : World} {A : Nat → Prop} : ∀ {l : List Tree} {ms : List (List Value)}, TLc w A l ms → TL w A l ms.flatten
  | [], [], _ => .nil
  | t :: l, m :: ms, h => by
    obtain ⟨h1, h2⟩ := h
    obtain ⟨c, h3, h4⟩ := h2 0 (by simp) (by simp)
    have h4' : m = c.toList := h4
    rw [List.flatten_cons, h4']
    exact .cons h3 (TLc.tl ⟨by simpa using h1, fun i hi hi' => h2 (i + 1) (by simpa using hi) (by simpa using hi')⟩)
  | [], m :: ms, h => by simp [TLc] at h
  | _ :: l, [], h => by simp [TLc] at h
theorem TLc.eight {w : World} {A : Nat → Prop} {l : List Tree} {ms : List (List Value)} (h : TLc w A l ms) : ∀ c ∈ ms, c.length = 8 := by
  intro c hc
  obtain ⟨i, hi, rfl⟩ := List.mem_iff_getElem.1 hc
  obtain ⟨c', h1, h2⟩ := h.2 i (by rw [h.1]; exact hi) hi
  rw [h2]; simp [h1.size]
theorem TLc.keep {w w' : World} {A A' : Nat → Prop} {l : List Tree} {ms : List (List Value)} (h : TLc w A l ms) (hs : w.heap.size ≤ w'.heap.size) (hA : ∀ g, A g → g < w.heap.size → A' g ∧ w'.heap[g]? = w.heap[g]?) : TLc w' A' l ms :=
  ⟨h.1, fun i hi hi' => by obtain ⟨c, h1, h2⟩ := h.2 i hi hi'; exact ⟨c, h1.keep hs hA, h2⟩⟩
theorem TLc.set {w : World} {A : Nat → Prop} {l : List Tree} {ms : List (List Value)} (h : TLc w A l ms) (i : Nat) {x : Tree} {c : Array Value} (hx : TV w A x c) : TLc w A (l.set i x) (ms.set i c.toList) := by
  refine ⟨by simp [h.1], fun j hj hj' => ?_⟩
  by_cases e : i = j
  · subst e
    rw [List.getElem_set_self, List.getElem_set_self]
    exact ⟨c, hx, rfl⟩
  · rw [List.getElem_set_ne e, List.getElem_set_ne e]
    exact h.2 j (by simpa using hj) (by simpa using hj')
theorem RowC.ofOwn {w : World} {base z n : Nat} {e : TypeId} {v : Value} {ms : List (List Value)} (h : w.ownsRow base e z v n ms.flatten) (hm : ∀ c ∈ ms, c.length = z) (hn : ms.length = n) (h0 : 0 < n) : ∃ g cap, v = .slice (some ⟨g, 0, none⟩) n cap ∧ base ≤ g ∧ RowC w g z e cap ms := by
  obtain ⟨h1, h2 | ⟨g, cap, cur, rfl, hb, hg, hnc, hcm, hcs, ht⟩⟩ := h
  · exact absurd h2.2 (by omega)
  · exact ⟨g, cap, rfl, hb, cur, hg, hcs, by omega, hcm, hm, by rw [hn]; exact ht⟩
theorem RowC.row {w : World} {A : Nat → Prop} {g z cap n : Nat} {e : TypeId} {ms : List (List Value)} (h : RowC w g z e cap ms) (hA : A g) (hn : ms.length = n) : RowAt w A z (.slice (some ⟨g, 0, none⟩) n cap) n ms.flatten := by
  obtain ⟨cur, h1, h2, h3, h4, h5, h6⟩ := h
  have hfl := flat_len h5
  refine ⟨by rw [hfl, hn], _, cap, rfl, by omega, by simpa [maxLen] using h4, fun _ => ⟨g, 0, rfl, hA, (Array.getElem?_eq_some_iff.1 h1).1, fun i hi => ?_⟩⟩
  rw [Nat.zero_add, cell_of_cells h1]
  have : ms.flatten[i]? = some ms.flatten[i] := by simp [hi]
  rw [← this, ← h6, List.getElem?_take, if_pos (by omega)]
  simp
end Go.Proofs.YtjapbjmeoaagmaaGreatDoor
end

section
set_option linter.unusedVariables false
set_option linter.unusedSimpArgs false
set_option maxRecDepth 100000
namespace Go.Proofs.YtjapbjmeoaagmaaGreatDoor
open Go.RowKit Go.Mem Orange
theorem TM.one {w : World} {A : Nat → Prop} : ∀ {m : List Mem1} {cs : List Value}, TM w A m cs → ∀ u ∈ cs, u.oneCell' = true
  | _, _, .nil => fun u h => by cases h
  | _, _, .cons h1 h2 => fun u h => by
    simp only [List.mem_cons, List.mem_append] at h
    rcases h with (rfl | h) | h
    · simp [Value.oneCell']
    · exact TV.one h1 u h
    · exact TM.one h2 u h
theorem KeptP.storeL {q : Nat} {w : World} (us : List Value) (k : Nat) : KeptP q w (storeL w q k us) := by
  induction us generalizing w k with
  | nil => exact KeptP.refl _ _
  | cons u us ih => exact (KeptP.set u).trans (ih (k + 1))
end Go.Proofs.YtjapbjmeoaagmaaGreatDoor
end

section
set_option linter.unusedVariables false
set_option linter.unusedSimpArgs false
set_option maxRecDepth 100000
namespace Go.Proofs.YtjapbjmeoaagmaaGreatDoor
open Go.RowKit Go.Mem Orange
theorem bldT_writer : BldT 109 4 := ⟨by kernel_rfl, by decide⟩
abbrev Wr (w : World) (b : Nat) (by' : Int) (k : Nat) (l : List UInt8) (o : Option Nat) : Prop := Bd w b 109 [.int .i64 by', .int .i64 k] l o
theorem repeatL_one : ∀ c : Nat, Lib.repeatL [32] c = List.replicate c 32
  | 0 => rfl
  | c + 1 => by rw [Lib.repeatL, repeatL_one c, List.replicate_succ]; rfl
theorem spaces_any (c : Nat) (hc : c ≤ 1000000000) (w : World) :
    Calls Tryz.prog 187 #[.string ⟨#[32]⟩, .int .i64 c] w (fun e w' => e = .returned (.string ⟨(List.replicate c (32 : UInt8)).toArray⟩) ∧ Ext w w') := by
  have h := Tryz.strings_Repeat ⟨#[32]⟩ c w (by omega) (by show 1 * c ≤ _; omega)
  have e : Lib.repeatL (ByteArray.mk #[32]).data.toList c = List.replicate c 32 := repeatL_one c
  rw [e] at h
  exact h
theorem wStr (b : Nat) (t : TypeId) (ex : List Value) (l : List UInt8) (o : Option Nat) (s : List UInt8) (w : World) (ht : BldT t (ex.length + 2)) (h : Bd w b t ex l o) (hl : l.length + s.length ≤ 140737488355328) :
    Calls Tryz.prog 63 #[.pointer (some ⟨b, 0, none⟩), .string ⟨s.toArray⟩] w (fun e w' => e = .returned (.tuple #[.int .i64 s.length, .nilIface]) ∧ ∃ o', Bd w' b t ex (l ++ s) o' ∧ KB b o o' w w') := by
  have h1 := wString b t ex l o ⟨s.toArray⟩ w ht h (by simpa [ByteArray.size] using hl)
  simpa [ByteArray.size] using h1
set_option maxHeartbeats 1600000 in
theorem line_any (b : Nat) (by' : Int) (k : Nat) (l : List UInt8) (o : Option Nat) (w : World) (h : Wr w b by' k l o) (h0 : -1 ≤ by') (h1 : by' ≤ 16) (hk : k ≤ 1000000) (hl : l.length + (gapP by' k).length ≤ 140737488355328) :
    Calls Tryz.prog 150 #[.pointer (some ⟨b, 0, none⟩)] w (fun e w' => e = .returned (.tuple #[]) ∧ ∃ o', Wr w' b by' k (l ++ gapP by' k) o' ∧ KB b o o' w w') := by
  have hT := bldT_writer
  have c2 : w.cell? ⟨b, 2, none⟩ = some (.int .i64 by') := h.cell 0
  have H := Lib.hid h
  clear h
  by_cases hb : by' = -1
  · subst hb
    go_enter Tryz.func150, Tryz.ntmps150
    go_wp2_with fail
    go_end0
    refine ⟨rfl, o, ?_, KB.refl _ _ _⟩
    rw [show gapP (-1) k = [] from rfl, List.append_nil]
    exact H.out
  · have q : (by' != -1) = true := by simpa using hb
    have hg : gapP by' k = 10 :: List.replicate (by'.toNat * k) 32 := by unfold gapP; rw [if_neg (by omega)]
    rw [hg] at hl ⊢
    simp only [List.length_cons, List.length_replicate] at hl
    have hm : by'.toNat * k ≤ 16 * 1000000 := Nat.mul_le_mul (by omega) hk
    have w1 : IntKind.i64.wrap (by' * (k : Int)) = ((by'.toNat * k : Nat) : Int) := by
      have e : by' * (k : Int) = ((by'.toNat * k : Nat) : Int) := by
        rw [Int.natCast_mul, Int.toNat_of_nonneg (by omega)]
      rw [e, IntWalk.i64_in _ (by omega)]
    obtain ⟨N, hN⟩ : ∃ N, by'.toNat * k = N := ⟨_, rfl⟩
    rw [hN] at w1 hl hm hg ⊢
    clear hN
    go_enter Tryz.func150, Tryz.ntmps150
    go_wp2_with fail
    refine (wByte b _ _ l o 10 10 _ rfl hT H.out (by omega)).mono ?_
    rintro e w2 ⟨rfl, o2, hB2, hK2⟩
    have c2 : w2.cell? ⟨b, 2, none⟩ = some (.int .i64 by') := hB2.cell 0
    have c3 : w2.cell? ⟨b, 3, none⟩ = some (.int .i64 k) := hB2.cell 1
    go_upto_region 2 with fail
    have HB2 := Lib.hid hB2
    have hsz : (l ++ [10]).length + (ByteArray.mk (List.replicate (N) (32 : UInt8)).toArray).size ≤ 140737488355328 := by simp [ByteArray.size]; omega
    have HS := Lib.hid hsz
    clear hB2 c2 c3 hsz
    refine GrowS.wp_region_restW (G0 := Ext) (G1 := fun w1 w' => ∃ o', Wr w' b by' k ((l ++ [10]) ++ List.replicate (N) 32) o' ∧ KB b o2 o' w1 w') (B0 := fun w' => Ext w2 w') (B1 := fun w' => ∃ o', Wr w' b by' k ((l ++ [10]) ++ List.replicate (N) 32) o' ∧ KB b o2 o' w2 w') (E := fun _ _ => False) (anc := fun j => []) (I := fun j => if j = 12 then some (GrowS.Spec.val _ (.string ⟨(List.replicate (N) (32 : UInt8)).toArray⟩)) else if j = 13 then some (GrowS.Spec.val _ (.tuple #[.int .i64 ((ByteArray.mk (List.replicate (N) (32 : UInt8)).toArray).size : Nat), .nilIface])) else none) 13 14 (fun j => ([[], [0], [0, 1], [], [3], [3, 4], [3, 4, 5], [], [7], [7, 8], [7, 8, 9], [3, 4, 5, 6, 7, 8, 9, 10], [3, 4, 5, 6, 7, 8, 9, 10, 11], [0, 1, 2, 3, 4, 5, 6, 7, 8, 9, 10, 11, 12]] : List (List Nat)).getD j []) (Array.replicate 14 true) (by kernel_rfl) (by kernel_rfl) (by kernel_rfl) (by kernel_rfl) (by kernel_rfl) (by kernel_rfl) ?_ ?_ ?_ ?_ ?_ ?_
    · exact fun w w' h hg => ext_trans h hg
    · rintro w1 w' ⟨o1, h, hk⟩ hg; exact ⟨o1, h.ext hg, hk.ext hg⟩
    · rintro w1 w' h ⟨o1, hg, hk⟩; exact ⟨o1, hg, (KB.ofExt h).trans hk⟩
    · exact fun _ _ _ _ h => h.elim
    · exact (ext_refl _).drew
    simp only [List.take_succ_cons, List.take_zero, List.drop_succ_cons, List.drop_zero]
    repeat
      (refine GrowS.Wk.step (fun K hK => ?_)
       first
       | (refine GrowS.step_read (by rfl) (by rfl) (fun w => ext_refl w) ?_
          apply Exists.intro
          refine ⟨fun w hB hF => ?_, ?_⟩
          · replace hB : Ext _ w := hB; have c2 : w.cell? ⟨b, 2, none⟩ = some (.int .i64 by') := (HB2.out.ext hB).cell 0; have c3 : w.cell? ⟨b, 3, none⟩ = some (.int .i64 k) := (HB2.out.ext hB).cell 1
            go_simp
            try exact rfl
          go_simp
          refine hK _ _ ?_
          clear hK K)
       | (refine GrowS.step_off (by rfl) ?_
          go_simp
          refine hK _ _ ?_
          clear hK K))
    refine GrowS.Wk.step (fun K hK => ?_)
    refine GrowS.step_rel (by rfl) (by rfl) (fun w' hB hF => ?_) (fun v hv => ?_)
    · replace hB : Ext w2 w' := hB
      go_simp
      refine GrowS.relUpon_enter ((spaces_any (N) (by omega) w').mono ?_)
      rintro e w'' ⟨rfl, hw''⟩
      exact .inl ⟨_, rfl, hw'', rfl, trivial⟩
    obtain rfl : v = (.string ⟨(List.replicate (N) (32 : UInt8)).toArray⟩) := hv
    go_simp
    refine hK _ _ ?_
    clear hK K
    refine GrowS.Wk.step (fun K hK => ?_)
    refine GrowS.step_rel (by rfl) (by rfl) (fun w' hB hF => ?_) (fun v hv => ?_)
    · replace hB : Ext w2 w' := hB
      go_simp
      refine GrowS.relUpon_enter (((wStr b _ _ _ o2 (List.replicate N 32) w' hT (HB2.out.ext hB) HS.out).mono (by rw [List.length_replicate]; exact fun _ _ h => h)).mono ?_)
      rintro e w'' ⟨rfl, o2, h2, k2⟩
      exact .inl ⟨_, rfl, ⟨o2, (by simpa using h2), k2⟩, rfl, trivial⟩
    obtain rfl : v = (.tuple #[.int .i64 ((ByteArray.mk (List.replicate (N) (32 : UInt8)).toArray).size : Nat), .nilIface]) := hv
    go_simp
    refine hK _ _ ?_
    clear hK K
    refine GrowS.Wk.nil ?_
    intro w4 hB hF
    show wpAny _ _ _ _ 0 _ _ _
    refine ⟨by decide +kernel, ?_⟩
    obtain ⟨o4, h4, k4⟩ := hB
    clear hF
    go_wp2_with fail
    go_end0
    refine ⟨rfl, o4, ?_, hK2.trans k4⟩
    simpa using h4
end Go.Proofs.YtjapbjmeoaagmaaGreatDoor
end

section
set_option linter.unusedVariables false
set_option linter.unusedSimpArgs false
set_option maxRecDepth 100000
namespace Orange
def itemsT (by' : Int) (k : Nat) (it : Nat → List UInt8) : Nat → List UInt8
  | 0 => []
  | j + 1 => itemsT by' k it j ++ ((if j = 0 then [] else [44]) ++ (gapP by' k ++ it j))
theorem itemsT_le (by' : Int) (k : Nat) (it : Nat → List UInt8) : ∀ (n j : Nat), j ≤ n → (itemsT by' k it j).length ≤ (itemsT by' k it n).length
  | 0, j, h => by obtain rfl : j = 0 := by omega
                  exact Nat.le_refl _
  | n + 1, j, h => by
    by_cases e : j = n + 1
    · rw [e]; exact Nat.le_refl _
    · refine Nat.le_trans (itemsT_le by' k it n j (by omega)) ?_
      rw [itemsT, List.length_append]; omega
theorem outL_snoc (by' : Int) (k : Nat) (t : Tree) : ∀ (l : List Tree) (f : Bool), outL by' k f (l ++ [t]) = outL by' k f l ++ ((if f = true ∧ l = [] then [] else [44]) ++ (gapP by' k ++ outT by' k t))
  | [], f => by
    rw [List.nil_append, outL, outL, outL]
    cases f <;> simp
  | x :: l, f => by
    rw [List.cons_append, outL, outL_snoc by' k t l false, outL]
    simp
theorem outM_snoc (by' : Int) (k : Nat) (key : List UInt8) (t : Tree) : ∀ (l : List Mem1) (f : Bool), outM by' k f (l ++ [(key, t)]) = outM by' k f l ++ ((if f = true ∧ l = [] then [] else [44]) ++ (gapP by' k ++ (quote key ++ (58 :: (blankP by' ++ outT by' k t)))))
  | [], f => by
    rw [List.nil_append, outM, outM, outM]
    cases f <;> simp
  | (kx, x) :: l, f => by
    rw [List.cons_append, outM, outM_snoc by' k key t l false, outM]
    simp
theorem outL_items (by' : Int) (k : Nat) (l : List Tree) : ∀ j, j ≤ l.length → itemsT by' k (fun i => (l[i]?).elim [] (outT by' k)) j = outL by' k true (l.take j)
  | 0, _ => by rw [List.take_zero, outL]; rfl
  | j + 1, h => by
    rw [itemsT, outL_items by' k l j (by omega), List.take_add_one, List.getElem?_eq_getElem (by omega), Option.toList_some, outL_snoc]
    congr 1
    have e : (l.take j = []) ↔ j = 0 := by
      rw [← List.length_eq_zero_iff, List.length_take]; omega
    by_cases h0 : j = 0
    · rw [if_pos h0, if_pos ⟨rfl, e.2 h0⟩]; rfl
    · rw [if_neg h0, if_neg (fun hh => h0 (e.1 hh.2))]; rfl
theorem outM_items (by' : Int) (k : Nat) (l : List Mem1) : ∀ j, j ≤ l.length → itemsT by' k (fun i => (l[i]?).elim [] (fun p => quote p.1 ++ (58 :: (blankP by' ++ outT by' k p.2)))) j = outM by' k true (l.take j)
  | 0, _ => by rw [List.take_zero, outM]; rfl
  | j + 1, h => by
    obtain ⟨p, hp⟩ : ∃ p, l[j]'(by omega) = p := ⟨_, rfl⟩
    rw [itemsT, outM_items by' k l j (by omega), List.take_add_one, List.getElem?_eq_getElem (by omega), hp, Option.toList_some]
    obtain ⟨key, t⟩ := p
    rw [outM_snoc]
    congr 1
    have e : (l.take j = []) ↔ j = 0 := by
      rw [← List.length_eq_zero_iff, List.length_take]; omega
    by_cases h0 : j = 0
    · rw [if_pos h0, if_pos ⟨rfl, e.2 h0⟩]; rfl
    · rw [if_neg h0, if_neg (fun hh => h0 (e.1 hh.2))]; rfl
end Orange
namespace Go.Proofs.YtjapbjmeoaagmaaGreatDoor
open Go.RowKit Go.Mem Orange
theorem Wr.set {w : World} {b : Nat} {by' : Int} {k : Nat} {l : List UInt8} {o : Option Nat} (h : Wr w b by' k l o) (k' : Nat) : Wr (w.setCell ⟨b, 3, none⟩ (.int .i64 k')) b by' k' l o ∧ KB b o o w (w.setCell ⟨b, 3, none⟩ (.int .i64 k')) := Bd.set h 1 (.int .i64 k')
set_option maxHeartbeats 3200000 in
theorem wlist_any (b : Nat) (by' : Int) (k : Nat) (l : List UInt8) (o : Option Nat) (F : FuncId) (p1 p2 : Nat) (op cl : UInt8) (n : Nat) (it : Nat → List UInt8) (w : World)
    (he : ∀ (i : Int) w, (callFunc F #[.int .i64 i, .pointer (some ⟨p1, 0, none⟩), .pointer (some ⟨p2, 0, none⟩)]).run Tryz.prog w = .ok (.enter F #[.int .i64 i, .pointer (some ⟨p1, 0, none⟩), .pointer (some ⟨p2, 0, none⟩)]) w)
    (h : Wr w b by' k l o) (h0 : -1 ≤ by') (h1 : by' ≤ 16) (hk : k + 1 ≤ 1000000) (hn : n ≤ 1000000)
    (hl : l.length + (itemsT by' (k + 1) it n).length + (if n = 0 then ([] : List UInt8) else gapP by' k).length + 2 ≤ 140737488355328)
    (hit : ∀ (i : Nat) (l1 : List UInt8) (o1 : Option Nat) (W : World), i < n → Wr W b by' (k + 1) l1 o1 → KB b o o1 w W → l1.length + (it i).length ≤ 140737488355328 →
      Calls Tryz.prog F #[.int .i64 i, .pointer (some ⟨p1, 0, none⟩), .pointer (some ⟨p2, 0, none⟩)] W (fun e W' => e = .returned (.tuple #[]) ∧ ∃ o2, Wr W' b by' (k + 1) (l1 ++ it i) o2 ∧ KB b o1 o2 W W')) :
    Calls Tryz.prog 115 #[.pointer (some ⟨b, 0, none⟩), .int .u8 op.toNat, .int .u8 cl.toNat, .int .i64 n, .func (.func F) #[] #[.pointer (some ⟨p1, 0, none⟩), .pointer (some ⟨p2, 0, none⟩)]] w (fun e w' => e = .returned (.tuple #[]) ∧ ∃ o', Wr w' b by' k (l ++ op :: (itemsT by' (k + 1) it n ++ ((if n = 0 then [] else gapP by' k) ++ [cl]))) o' ∧ KB b o o' w w') := by
  have hT := bldT_writer
  have HI := Lib.hid hit
  have HE := Lib.hid he
  have H := Lib.hid h
  have hlt := h.lt
  clear hit he h
  have e1 : IntKind.i64.wrap ((k : Int) + 1) = ((k + 1 : Nat) : Int) := by rw [IntWalk.i64_in _ (by omega)]; omega
  have e2 : IntKind.i64.wrap (((k + 1 : Nat) : Int) - 1) = ((k : Nat) : Int) := by rw [IntWalk.i64_in _ (by omega)]; omega
  go_enter Tryz.func115, Tryz.ntmps115
  go_wp2_with fail
  refine (wByte b _ _ l o _ op _ rfl hT H.out (by omega)).mono ?_
  rintro e w1 ⟨rfl, o1, hB1, hK1⟩
  have c3 : w1.cell? ⟨b, 3, none⟩ = some (.int .i64 k) := hB1.cell 1
  have f3 : w1.frozen? ⟨b, 3, none⟩ = false := hB1.free 3
  have HB1 := Lib.hid hB1
  have HK1 := Lib.hid hK1
  clear hB1 hK1
  go_wp2_with fail
  obtain ⟨hB2, hK2⟩ := Wr.set HB1.out (k + 1)
  have ec : ((k + 1 : Nat) : Int) = (k : Int) + 1 := by omega
  rw [ec] at hB2 hK2
  generalize w1.setCell ⟨b, 3, none⟩ (.int .i64 ((k : Int) + 1)) = w2 at *
  clear ec
  have HB2 := Lib.hid hB2
  have HK2 := Lib.hid (HK1.out.trans hK2)
  clear hB2 hK2 HB1 HK1 c3 f3
  go_loopw [24] (fun kv wr => ∃ (j : Nat) (o3 : Option Nat), kv = .int .i64 j ∧ j ≤ n ∧ Wr wr b by' (k + 1) (l ++ op :: itemsT by' (k + 1) it j) o3 ∧ KB b o o3 w wr) (fun kv _ => n - (intOf kv).toNat)
  case atStart => exact ⟨0, o1, rfl, by omega, by simpa [itemsT] using HB2.out, HK2.out⟩
  case round =>
    obtain ⟨j, o3, rfl, hj, hB3, hK3⟩ := hrel
    have HB3 := Lib.hid hB3
    have HK3 := Lib.hid hK3
    clear hB3 hK3 HB2 HK2
    by_cases hlt : j < n
    · have hle := itemsT_le by' (k + 1) it n (j + 1) (by omega)
      have hst : itemsT by' (k + 1) it (j + 1) = itemsT by' (k + 1) it j ++ ((if j = 0 then [] else [44]) ++ (gapP by' (k + 1) ++ it j)) := rfl
      rw [hst] at hle
      simp only [List.length_append] at hle
      by_cases hj0 : j = 0
      · subst hj0
        rw [if_pos rfl] at hst hle
        have HST := Lib.hid hst
        clear hst
        simp only [List.length_nil] at hle
        go_wp2_with fail
        refine (line_any b by' (k + 1) _ o3 _ HB3.out h0 h1 hk (by simp [itemsT]; omega)).mono ?_
        rintro e w4 ⟨rfl, o4, hB4, hK4⟩
        go_wp2_with fail
        rw [HE.out]
        refine (HI.out 0 _ o4 _ hlt hB4 (HK3.out.trans hK4) (by simp [itemsT]; omega)).mono ?_
        rintro e w5 ⟨rfl, o5, hB5, hK5⟩
        go_wp2_with fail
        go_roundw
        case rel =>
          refine ⟨1, o5, by go_num, by omega, ?_, (HK3.out.trans hK4).trans hK5⟩
          rw [HST.out]
          simpa [itemsT] using hB5
        case measure => simp [intOf]; omega
      · rw [if_neg hj0] at hst hle
        have HST := Lib.hid hst
        clear hst
        simp only [List.length_cons, List.length_nil] at hle
        go_wp2_with fail
        refine (wByte b _ _ _ o3 44 44 _ rfl hT HB3.out (by simp; omega)).mono ?_
        rintro e w6 ⟨rfl, o6, hB6, hK6⟩
        go_wp2_with fail
        refine (line_any b by' (k + 1) _ o6 _ hB6 h0 h1 hk (by simp; omega)).mono ?_
        rintro e w4 ⟨rfl, o4, hB4, hK4⟩
        go_wp2_with fail
        rw [HE.out]
        refine (HI.out j _ o4 _ hlt hB4 ((HK3.out.trans hK6).trans hK4) (by simp; omega)).mono ?_
        rintro e w5 ⟨rfl, o5, hB5, hK5⟩
        go_wp2_with fail
        go_roundw
        case rel =>
          refine ⟨j + 1, o5, by go_num, by omega, ?_, ((HK3.out.trans hK6).trans hK4).trans hK5⟩
          rw [HST.out]
          simpa using hB5
        case measure => simp [intOf]; omega
    · obtain rfl : j = n := by omega
      have c3 : wr.cell? ⟨b, 3, none⟩ = some (.int .i64 ((k + 1 : Nat) : Int)) := HB3.out.cell 1
      have f3 : wr.frozen? ⟨b, 3, none⟩ = false := HB3.out.free 3
      obtain ⟨hB4, hK4⟩ := Wr.set HB3.out k
      have HB4 := Lib.hid hB4
      have HK4 := Lib.hid (HK3.out.trans hK4)
      clear hB4 hK4
      by_cases hj0 : j = 0
      · subst hj0
        go_wp2_with fail
        refine (wByte b _ _ _ o3 _ cl _ rfl hT HB4.out (by simp [itemsT]; omega)).mono ?_
        rintro e w5 ⟨rfl, o5, hB5, hK5⟩
        go_wp2_with fail
        go_end0
        refine ⟨rfl, o5, ?_, HK4.out.trans hK5⟩
        simpa [itemsT] using hB5
      · rw [if_neg hj0] at hl
        go_wp2_with fail
        refine (line_any b by' k _ o3 _ HB4.out h0 h1 (by omega) (by simp; omega)).mono ?_
        rintro e w6 ⟨rfl, o6, hB6, hK6⟩
        go_wp2_with fail
        refine (wByte b _ _ _ o6 _ cl _ rfl hT hB6 (by simp; omega)).mono ?_
        rintro e w5 ⟨rfl, o5, hB5, hK5⟩
        go_wp2_with fail
        go_end0
        refine ⟨rfl, o5, ?_, (HK4.out.trans hK6).trans hK5⟩
        simpa using hB5
end Go.Proofs.YtjapbjmeoaagmaaGreatDoor
end

section
set_option linter.unusedVariables false
set_option linter.unusedSimpArgs false
set_option maxRecDepth 100000
namespace Go.Proofs.YtjapbjmeoaagmaaGreatDoor
open Go.RowKit Go.Mem Orange
theorem fields_shape {t : Tree} (h : fieldsT t = true) : t = tNull ∨ (∃ b, t = tBool b) ∨ (∃ d, sane d = true ∧ t = tNum d) ∨ (∃ s, check s < 0 ∧ t = tStr s) ∨ (∃ l, t = tArr l) ∨ (∃ m : List Mem1, (∀ p ∈ m, check p.1 < 0) ∧ t = tObj m) := by
  cases t with
  | mk k b d s l m =>
    unfold fieldsT at h
    simp only [Bool.and_eq_true, Bool.or_eq_true, decide_eq_true_eq, Bool.not_eq_true', List.isEmpty_iff] at h
    obtain ⟨⟨⟨⟨h1, h2⟩, h3⟩, h4⟩, h5, h6⟩ := h
    by_cases k0 : k = 0
    · subst k0
      rw [Or.resolve_left h2 (by decide), Or.resolve_left h3 (by decide), Or.resolve_left h4 (by decide), Or.resolve_left h5 (by decide), Or.resolve_left h6 (by decide)]
      exact .inl rfl
    by_cases k1 : k = 1
    · subst k1
      rw [Or.resolve_left h3 (by decide), Or.resolve_left h4 (by decide), Or.resolve_left h5 (by decide), Or.resolve_left h6 (by decide)]
      exact .inr (.inl ⟨b, rfl⟩)
    by_cases k2 : k = 2
    · subst k2
      rw [Or.resolve_left h2 (by decide), Or.resolve_left h4 (by decide), Or.resolve_left h5 (by decide), Or.resolve_left h6 (by decide)]
      rw [if_neg (by decide), if_neg (by decide), if_pos rfl] at h1
      exact .inr (.inr (.inl ⟨d, h1, rfl⟩))
    by_cases k3 : k = 3
    · subst k3
      rw [Or.resolve_left h2 (by decide), Or.resolve_left h3 (by decide), Or.resolve_left h5 (by decide), Or.resolve_left h6 (by decide)]
      rw [if_neg (by decide), if_neg (by decide), if_neg (by decide), if_pos rfl] at h1
      exact .inr (.inr (.inr (.inl ⟨s, by simpa using h1, rfl⟩)))
    by_cases k4 : k = 4
    · subst k4
      rw [Or.resolve_left h2 (by decide), Or.resolve_left h3 (by decide), Or.resolve_left h4 (by decide), Or.resolve_left h6 (by decide)]
      exact .inr (.inr (.inr (.inr (.inl ⟨l, rfl⟩))))
    by_cases k5 : k = 5
    · subst k5
      rw [Or.resolve_left h2 (by decide), Or.resolve_left h3 (by decide), Or.resolve_left h4 (by decide), Or.resolve_left h5 (by decide)]
      rw [if_neg (by decide), if_neg (by decide), if_neg (by decide), if_neg (by decide), if_neg (by decide), if_pos rfl] at h1
      refine .inr (.inr (.inr (.inr (.inr ⟨m, fun p hp => ?_, rfl⟩))))
      have h7 : m.any badKey = false := by simpa using h1
      have h8 := List.any_eq_false.1 h7 p hp
      simp only [badKey, decide_eq_true_eq] at h8
      omega
    · rw [if_neg k0, if_neg k1, if_neg k2, if_neg k3, if_neg k4, if_neg k5] at h1
      cases h1
theorem dig_head {d : Num} (h : sane d = true) (h0 : d.digits ≠ []) : ∃ c T, d.digits = c :: T ∧ isDig c = true := by
  cases hd : d.digits with
  | nil => exact absurd hd h0
  | cons c T =>
    refine ⟨c, T, rfl, ?_⟩
    unfold sane at h
    rw [hd, if_neg (by simp)] at h
    split at h
    · cases h
    · next h1 =>
      simp only [Bool.or_eq_true, not_or, Bool.not_eq_true', Bool.not_eq_false] at h1
      have := List.all_eq_true.1 (by simpa using h1.2) c List.mem_cons_self
      exact this
theorem num_head {d : Num} (h : sane d = true) : ∃ c T, printP d = c :: T ∧ (c = 45 ∨ isDig c = true) := by
  have hw : d.digits ≠ [] → ∃ c T, writtenP d = c :: T ∧ isDig c = true := fun h0 => by
    obtain ⟨c, T, hd, hc⟩ := dig_head h h0
    unfold writtenP
    split
    · exact ⟨c, T ++ _, by rw [hd]; rfl, hc⟩
    · split
      · next h2 =>
        obtain ⟨k, hk⟩ : ∃ k, (height d).toNat = k + 1 := ⟨(height d).toNat - 1, by omega⟩
        exact ⟨c, T.take k ++ _, by rw [hk, hd]; rfl, hc⟩
      · split
        · exact ⟨48, _, rfl, rfl⟩
        · exact ⟨c, _, by rw [hd]; rfl, hc⟩
  unfold printP
  rw [if_pos h]
  split
  · exact ⟨48, [], rfl, .inr rfl⟩
  · next h0 =>
    split
    · exact ⟨45, _, rfl, .inl rfl⟩
    · obtain ⟨c, T, h1, h2⟩ := hw h0
      exact ⟨c, T, h1, .inr h2⟩
theorem out_head (by' : Int) (k : Nat) {t : Tree} (h : fieldsT t = true) : ∃ c T, outT by' k t = c :: T ∧ begs.contains c = true ∧ c ≠ 0 ∧ isWhite c = false ∧ c ≠ 93 ∧ c ≠ 125 := by
  have num : ∀ c : UInt8, (c = 45 ∨ isDig c = true) → begs.contains c = true ∧ c ≠ 0 ∧ isWhite c = false ∧ c ≠ 93 ∧ c ≠ 125 := by
    have : ∀ c : Fin 256, ((UInt8.ofFin c) = 45 ∨ isDig (UInt8.ofFin c) = true) → begs.contains (UInt8.ofFin c) = true ∧ (UInt8.ofFin c) ≠ 0 ∧ isWhite (UInt8.ofFin c) = false ∧ (UInt8.ofFin c) ≠ 93 ∧ (UInt8.ofFin c) ≠ 125 := by decide +kernel
    exact fun c => this c.toFin
  rcases fields_shape h with rfl | ⟨b, rfl⟩ | ⟨d, hd, rfl⟩ | ⟨s, hs, rfl⟩ | ⟨l, rfl⟩ | ⟨m, hm, rfl⟩
  · exact ⟨110, [117, 108, 108], by rw [tNull, outT, if_pos rfl], by decide⟩
  · cases b
    · exact ⟨102, [97, 108, 115, 101], by rw [tBool, outT, if_neg (by decide), if_pos rfl, if_neg (by decide)], by decide⟩
    · exact ⟨116, [114, 117, 101], by rw [tBool, outT, if_neg (by decide), if_pos rfl, if_pos rfl], by decide⟩
  · obtain ⟨c, T, h1, h2⟩ := num_head hd
    exact ⟨c, T, by rw [tNum, outT, if_neg (by decide), if_neg (by decide), if_pos rfl, h1], num c h2⟩
  · exact ⟨34, _, by rw [tStr, outT, if_neg (by decide), if_neg (by decide), if_neg (by decide), if_pos rfl]; rfl, by decide⟩
  · exact ⟨91, _, by rw [tArr, outT, if_neg (by decide), if_neg (by decide), if_neg (by decide), if_neg (by decide), if_pos rfl], by decide⟩
  · exact ⟨123, _, by rw [tObj, outT, if_neg (by decide), if_neg (by decide), if_neg (by decide), if_neg (by decide), if_neg (by decide)], by decide⟩
theorem numP_print {xs : List UInt8} {a n : Nat} {d : Num} {R : List UInt8} (hd : sane d = true) (ha : a ≤ xs.length) (h : xs.drop a = printP d ++ R) (hR : ∀ c ∈ R.head?, isFig c = false) : numP xs a n = .ok (tNum d) (a + (printP d).length) n := by
  have hl := congrArg List.length h
  simp at hl
  have he : numEnd xs a = a + (printP d).length := by
    unfold numEnd
    rw [h, List.dropWhile_append_of_pos (print_fig hd)]
    have : R.dropWhile isFig = R := by
      cases R with
      | nil => rfl
      | cons c R => rw [List.dropWhile_cons, if_neg (by simpa using hR c (by simp))]
    rw [this]; omega
  unfold numP
  rw [he, show a + (printP d).length - a = (printP d).length by omega, h, List.take_left, (print_back hd).1]
  simp
theorem wordP_out {xs s : List UInt8} {t : Tree} {a n : Nat} {R : List UInt8} (h : xs.drop a = s ++ R) : wordP xs s t a n = .ok t (a + s.length) n := by
  unfold wordP
  rw [h, List.take_left, if_pos rfl]
theorem gap_nofig (by' : Int) (k : Nat) (c : UInt8) (R : List UInt8) (hc : isFig c = false) : ∀ x ∈ (gapP by' k ++ c :: R).head?, isFig x = false := by
  intro x hx
  unfold gapP at hx
  split at hx
  · simp at hx; rw [← hx]; exact hc
  · simp at hx; rw [← hx]; rfl
theorem listP_out {xs : List UInt8} {by' : Int} {k f deep : Nat} {tl R : List UInt8} (N : Nat)
    (ih : ∀ (t : Tree) (a n m : Nat) (W R : List UInt8), SizeOf.sizeOf t < N → saneT deep n t = (0, m) → a ≤ xs.length → (∀ c ∈ W, isWhite c = true) → xs.drop a = W ++ (outT by' k t ++ R) → (∀ c ∈ R.head?, isFig c = false) → valueP xs f deep a n = .ok t (a + W.length + (outT by' k t).length) m)
    (htl : ∀ c ∈ tl, isWhite c = true) (htf : ∀ x ∈ (tl ++ 93 :: R).head?, isFig x = false) : ∀ (l : List Tree) (t : Tree) (acc : List Tree) (g a n m : Nat) (W : List UInt8), (∀ x ∈ t :: l, SizeOf.sizeOf x < N) → saneL deep n (t :: l) = (0, m) → l.length < g → a ≤ xs.length → (∀ c ∈ W, isWhite c = true) →
    xs.drop a = W ++ (outT by' k t ++ (outL by' k false l ++ (tl ++ 93 :: R))) → listP xs 93 (itemA (valueP xs f deep)) g acc a n = .ok (acc ++ t :: l) (a + W.length + (outT by' k t).length + (outL by' k false l).length + tl.length + 1) m
  | l, t, acc, 0, a, n, m, W, _, _, hg, _, _, _ => by omega
  | l, t, acc, g + 1, a, n, m, W, hN, hs, hg, ha, hW, h => by
    rw [saneL] at hs
    cases hst : saneT deep n t with
    | mk e n1 =>
      rw [hst] at hs
      simp only at hs
      by_cases he : e = 0
      · subst he
        rw [if_pos rfl] at hs
        obtain ⟨l1, d1⟩ := drop_len h ha
        obtain ⟨l2, d2⟩ := drop_len d1 l1
        have hv := ih t a n n1 W _ (hN t List.mem_cons_self) hst ha hW h (by
          cases l with
          | nil => rw [outL]; exact htf
          | cons u l => rw [outL_more]; intro x hx; simp at hx; rw [← hx]; rfl)
        rw [listP, itemA, hv]
        simp only [PR.map]
        cases l with
        | nil =>
          rw [outL, List.nil_append] at d2
          have hw := white_run (V := 93 :: R) d2 l2 htl (by simp; rfl)
          obtain ⟨l3, d3⟩ := drop_len d2 l2
          rw [hw, if_neg (by rw [(drop_peek d3).1]; decide), if_pos (drop_peek d3).2]
          rw [saneL] at hs
          cases hs
          simp [outL]
        | cons u l =>
          rw [outL_more] at d2
          have d2' : xs.drop (a + W.length + (outT by' k t).length) = [] ++ (44 :: (gapP by' k ++ (outT by' k u ++ (outL by' k false l ++ (tl ++ 93 :: R))))) := by rw [d2]; simp
          have hw := white_run d2' l2 (by simp) (by simp; rfl)
          simp only [List.length_nil, Nat.add_zero] at hw
          have d2'' : xs.drop (a + W.length + (outT by' k t).length) = [44] ++ (gapP by' k ++ (outT by' k u ++ (outL by' k false l ++ (tl ++ 93 :: R)))) := by rw [d2']; rfl
          obtain ⟨l3, d3⟩ := drop_len d2'' l2
          rw [hw, if_pos (drop_peek d2'').1]
          simp only [List.length_cons, List.length_nil, Nat.zero_add] at l3 d3
          rw [listP_out N ih htl htf l u (acc ++ [t]) g _ n1 m (gapP by' k) (fun x hx => hN x (List.mem_cons_of_mem _ hx)) hs (by simp at hg; omega) l3 (gapP_white by' k) d3]
          rw [outL_more]
          simp only [List.append_assoc, List.singleton_append, List.length_cons, List.length_append, PR.ok.injEq, true_and, and_true]
          omega
      · rw [if_neg he] at hs; cases hs; exact absurd rfl he
theorem itemO_out {xs : List UInt8} {by' : Int} {k f deep : Nat} {acc : List Mem1} {key : List UInt8} {t : Tree} {a n m : Nat} {W R : List UInt8} (hk : check key < 0) (hacc : key ∉ acc.map (·.1)) (ha : a ≤ xs.length) (hW : ∀ c ∈ W, isWhite c = true)
    (ih : ∀ (a : Nat) (W R : List UInt8), a ≤ xs.length → (∀ c ∈ W, isWhite c = true) → xs.drop a = W ++ (outT by' k t ++ R) → (∀ c ∈ R.head?, isFig c = false) → valueP xs f deep a n = .ok t (a + W.length + (outT by' k t).length) m)
    (h : xs.drop a = W ++ (quote key ++ (58 :: (blankP by' ++ (outT by' k t ++ R))))) (hR : ∀ c ∈ R.head?, isFig c = false) :
    itemO xs (valueP xs f deep) acc a n = .ok (acc ++ [(key, t)]) (a + W.length + (quote key).length + 1 + (blankP by').length + (outT by' k t).length) m := by
  have hw := white_run h ha hW (by simp [quote]; rfl)
  obtain ⟨l1, d1⟩ := drop_len h ha
  obtain ⟨l2, d2⟩ := drop_len d1 l1
  have d2' : xs.drop (a + W.length + (quote key).length) = [] ++ (58 :: (blankP by' ++ (outT by' k t ++ R))) := d2
  have hw2 := white_run d2' l2 (by simp) (by simp; rfl)
  simp only [List.length_nil, Nat.add_zero] at hw2
  have d2'' : xs.drop (a + W.length + (quote key).length) = [58] ++ (blankP by' ++ (outT by' k t ++ R)) := d2
  obtain ⟨l3, d3⟩ := drop_len d2'' l2
  simp only [List.length_cons, List.length_nil, Nat.zero_add] at l3 d3
  have hany : acc.any (fun x => x.1 == key) = false := by
    rw [List.any_eq_false]
    intro x hx
    simp only [beq_iff_eq]
    exact fun e => hacc (List.mem_map.2 ⟨x, hx, e⟩)
  unfold itemO
  rw [hw, textP_quote hk l1 d1]
  simp only
  rw [hw2, hany, if_neg (by decide), if_pos (drop_peek d2).2, ih _ (blankP by') R l3 (blankP_white by') d3 hR]
  simp [PR.map]
theorem membP_out {xs : List UInt8} {by' : Int} {k f deep : Nat} {tl R : List UInt8} (N : Nat)
    (ih : ∀ (t : Tree) (a n m : Nat) (W R : List UInt8), SizeOf.sizeOf t < N → saneT deep n t = (0, m) → a ≤ xs.length → (∀ c ∈ W, isWhite c = true) → xs.drop a = W ++ (outT by' k t ++ R) → (∀ c ∈ R.head?, isFig c = false) → valueP xs f deep a n = .ok t (a + W.length + (outT by' k t).length) m)
    (htl : ∀ c ∈ tl, isWhite c = true) (htf : ∀ x ∈ (tl ++ 125 :: R).head?, isFig x = false) : ∀ (l : List Mem1) (key : List UInt8) (t : Tree) (acc : List Mem1) (g a n m : Nat) (W : List UInt8), (∀ x ∈ (key, t) :: l, SizeOf.sizeOf x.2 < N ∧ check x.1 < 0) → ((acc ++ (key, t) :: l).map (·.1)).Nodup → saneM deep n ((key, t) :: l) = (0, m) → l.length < g → a ≤ xs.length → (∀ c ∈ W, isWhite c = true) →
    xs.drop a = W ++ (quote key ++ (58 :: (blankP by' ++ (outT by' k t ++ (outM by' k false l ++ (tl ++ 125 :: R)))))) → listP xs 125 (itemO xs (valueP xs f deep)) g acc a n = .ok (acc ++ (key, t) :: l) (a + W.length + (quote key).length + 1 + (blankP by').length + (outT by' k t).length + (outM by' k false l).length + tl.length + 1) m
  | l, key, t, acc, 0, a, n, m, W, _, _, _, hg, _, _, _ => by omega
  | l, key, t, acc, g + 1, a, n, m, W, hN, hnd, hs, hg, ha, hW, h => by
    rw [saneM] at hs
    cases hst : saneT deep n t with
    | mk e n1 =>
      rw [hst] at hs
      simp only at hs
      by_cases he : e = 0
      · subst he
        rw [if_pos rfl] at hs
        have hk0 := hN (key, t) List.mem_cons_self
        have hacc : key ∉ acc.map (·.1) := by
          rw [List.map_append, List.map_cons] at hnd
          exact fun hm => (List.nodup_append.1 hnd).2.2 key hm key List.mem_cons_self rfl
        have hv := itemO_out (f := f) (deep := deep) (acc := acc) (n := n) (m := n1) hk0.2 hacc ha hW (fun a W R h1 h2 h3 h4 => ih t a n n1 W R hk0.1 hst h1 h2 h3 h4) h (by
          cases l with
          | nil => rw [outM]; exact htf
          | cons u l => obtain ⟨ku, u⟩ := u; rw [outM_more]; intro x hx; simp at hx; rw [← hx]; rfl)
        obtain ⟨l1, d1⟩ := drop_len h ha
        obtain ⟨l2, d2⟩ := drop_len d1 l1
        have d2' : xs.drop (a + W.length + (quote key).length) = [58] ++ (blankP by' ++ (outT by' k t ++ (outM by' k false l ++ (tl ++ 125 :: R)))) := d2
        obtain ⟨l3, d3⟩ := drop_len d2' l2
        simp only [List.length_cons, List.length_nil, Nat.zero_add] at l3 d3
        obtain ⟨l4, d4⟩ := drop_len d3 l3
        obtain ⟨l5, d5⟩ := drop_len d4 l4
        rw [listP, hv]
        simp only
        cases l with
        | nil =>
          rw [outM, List.nil_append] at d5
          have hw := white_run (V := 125 :: R) d5 l5 htl (by simp; rfl)
          obtain ⟨l6, d6⟩ := drop_len d5 l5
          rw [hw, if_neg (by rw [(drop_peek d6).1]; decide), if_pos (drop_peek d6).2]
          rw [saneM] at hs
          cases hs
          simp [outM]
        | cons u l =>
          obtain ⟨ku, u⟩ := u
          rw [outM_more] at d5
          have d5' : xs.drop (a + W.length + (quote key).length + 1 + (blankP by').length + (outT by' k t).length) = [] ++ (44 :: (gapP by' k ++ (quote ku ++ (58 :: (blankP by' ++ (outT by' k u ++ (outM by' k false l ++ (tl ++ 125 :: R)))))))) := by rw [d5]; simp
          have hw := white_run d5' l5 (by simp) (by simp; rfl)
          simp only [List.length_nil, Nat.add_zero] at hw
          have d5'' : xs.drop (a + W.length + (quote key).length + 1 + (blankP by').length + (outT by' k t).length) = [44] ++ (gapP by' k ++ (quote ku ++ (58 :: (blankP by' ++ (outT by' k u ++ (outM by' k false l ++ (tl ++ 125 :: R))))))) := by rw [d5']; rfl
          obtain ⟨l6, d6⟩ := drop_len d5'' l5
          rw [hw, if_pos (drop_peek d5'').1]
          simp only [List.length_cons, List.length_nil, Nat.zero_add] at l6 d6
          rw [membP_out N ih htl htf l ku u (acc ++ [(key, t)]) g _ n1 m (gapP by' k) (fun x hx => hN x (List.mem_cons_of_mem _ hx)) (by rw [List.append_assoc]; exact hnd) hs (by simp at hg; omega) l6 (gapP_white by' k) d6]
          rw [outM_more]
          simp only [List.append_assoc, List.singleton_append, List.length_cons, List.length_append, PR.ok.injEq, true_and, and_true]
          omega
      · rw [if_neg he] at hs; cases hs; exact absurd rfl he
theorem outL_len (by' : Int) (k : Nat) : ∀ l : List Tree, l.length ≤ (outL by' k false l).length
  | [] => by simp
  | t :: l => by rw [outL_more]; have := outL_len by' k l; simp; omega
theorem outM_len (by' : Int) (k : Nat) : ∀ l : List Mem1, l.length ≤ (outM by' k false l).length
  | [] => by simp
  | (key, t) :: l => by rw [outM_more]; have := outM_len by' k l; simp; omega
theorem valueP_out {xs : List UInt8} {by' : Int} : ∀ (N : Nat) (t : Tree) (f deep k a n m : Nat) (W R : List UInt8), SizeOf.sizeOf t < N → saneT deep n t = (0, m) → 64 < f + deep → deep ≤ 64 → a ≤ xs.length → (∀ c ∈ W, isWhite c = true) → xs.drop a = W ++ (outT by' k t ++ R) → (∀ c ∈ R.head?, isFig c = false) →
    valueP xs f deep a n = .ok t (a + W.length + (outT by' k t).length) m
  | 0, _, _, _, _, _, _, _, _, _, h, _, _, _, _, _, _, _ => by omega
  | N + 1, _, 0, _, _, _, _, _, _, _, _, _, _, _, _, _, _, _ => by omega
  | N + 1, t, f + 1, deep, k, a, n, m, W, R, hN, hs, hf, hd, ha, hW, h, hR => by
    have hs0 := hs
    rw [saneT_ins] at hs
    by_cases hfl : fieldsT t = false
    · rw [if_pos hfl] at hs; cases hs
    rw [if_neg hfl] at hs
    have hfld : fieldsT t = true := by simpa using hfl
    by_cases htw : twiceP [] (t.mems.map (·.1)) = true
    · rw [if_pos htw] at hs; cases hs
    rw [if_neg htw] at hs
    by_cases hdp : 4 ≤ t.kind ∧ 64 ≤ deep
    · rw [if_pos hdp] at hs; cases hs
    rw [if_neg hdp] at hs
    by_cases hlm : 4096 < n + 1
    · rw [if_pos hlm] at hs; cases hs
    rw [if_neg hlm] at hs
    obtain ⟨c, T, hc, hb, h0, hw0, h93, h125⟩ := out_head by' k hfld
    have hwh := white_run h ha hW (by rw [hc]; intro x hx; simp at hx; rw [← hx]; exact hw0)
    obtain ⟨l1, d1⟩ := drop_len h ha
    have hpk : peekP xs (a + W.length) = c := by
      rw [hc] at d1
      exact (drop_peek d1).1
    rw [valueP, hwh, hpk, if_neg (by simp only [Decidable.not_not]; exact ⟨h0, hb⟩), if_neg hlm]
    generalize hA : a + W.length = A at *
    rcases fields_shape hfld with rfl | ⟨b, rfl⟩ | ⟨d, hd', rfl⟩ | ⟨s, hs', rfl⟩ | ⟨l, rfl⟩ | ⟨mm, hm, rfl⟩
    · have ho : outT by' k tNull = [110, 117, 108, 108] := by rw [tNull, outT, if_pos rfl]
      rw [ho] at hc d1 ⊢
      obtain ⟨rfl, -⟩ := List.cons.inj hc
      change saneL (deep + 1) (n + 1) [] = (0, m) at hs
      rw [saneL] at hs
      cases hs
      rw [if_neg (by decide), if_neg (by decide), if_pos rfl, wordP_out d1]
    · cases b
      · have ho : outT by' k (tBool false) = [102, 97, 108, 115, 101] := by rw [tBool, outT, if_neg (by decide), if_pos rfl, if_neg (by decide)]
        rw [ho] at hc d1 ⊢
        obtain ⟨rfl, -⟩ := List.cons.inj hc
        change saneL (deep + 1) (n + 1) [] = (0, m) at hs
        rw [saneL] at hs
        cases hs
        rw [if_neg (by decide), if_pos rfl, wordP_out d1]
      · have ho : outT by' k (tBool true) = [116, 114, 117, 101] := by rw [tBool, outT, if_neg (by decide), if_pos rfl, if_pos rfl]
        rw [ho] at hc d1 ⊢
        obtain ⟨rfl, -⟩ := List.cons.inj hc
        change saneL (deep + 1) (n + 1) [] = (0, m) at hs
        rw [saneL] at hs
        cases hs
        rw [if_pos rfl, wordP_out d1]
    · have ho : outT by' k (tNum d) = printP d := by rw [tNum, outT, if_neg (by decide), if_neg (by decide), if_pos rfl]
      rw [ho] at hc d1 ⊢
      obtain ⟨c', T', h1, h2⟩ := num_head hd'
      rw [h1] at hc
      obtain ⟨rfl, -⟩ := List.cons.inj hc
      have hne : ∀ c : UInt8, (c = 45 ∨ isDig c = true) → c ≠ 116 ∧ c ≠ 102 ∧ c ≠ 110 ∧ c ≠ 34 ∧ c ≠ 91 ∧ c ≠ 123 := by
        have : ∀ c : Fin 256, ((UInt8.ofFin c) = 45 ∨ isDig (UInt8.ofFin c) = true) → (UInt8.ofFin c) ≠ 116 ∧ (UInt8.ofFin c) ≠ 102 ∧ (UInt8.ofFin c) ≠ 110 ∧ (UInt8.ofFin c) ≠ 34 ∧ (UInt8.ofFin c) ≠ 91 ∧ (UInt8.ofFin c) ≠ 123 := by decide +kernel
        exact fun c => this c.toFin
      obtain ⟨n1, n2, n3, n4, n5, n6⟩ := hne c' h2
      change saneL (deep + 1) (n + 1) [] = (0, m) at hs
      rw [saneL] at hs
      cases hs
      rw [if_neg n1, if_neg n2, if_neg n3, if_neg n4, if_neg n5, if_neg n6, numP_print hd' l1 d1 hR]
    · have ho : outT by' k (tStr s) = quote s := by rw [tStr, outT, if_neg (by decide), if_neg (by decide), if_neg (by decide), if_pos rfl]
      rw [ho] at hc d1 ⊢
      have hc' : (34 : UInt8) :: (quoL s ++ [34]) = c :: T := hc
      obtain ⟨rfl, -⟩ := List.cons.inj hc'
      change saneL (deep + 1) (n + 1) [] = (0, m) at hs
      rw [saneL] at hs
      cases hs
      rw [if_neg (by decide), if_neg (by decide), if_neg (by decide), if_pos rfl, textP_quote hs' l1 d1]
      rfl
    · have ho : outT by' k (tArr l) = 91 :: (outL by' (k + 1) true l ++ ((if l.length = 0 then [] else gapP by' k) ++ [93])) := by rw [tArr, outT, if_neg (by decide), if_neg (by decide), if_neg (by decide), if_neg (by decide), if_pos rfl]
      rw [ho] at hc d1 ⊢
      obtain ⟨rfl, -⟩ := List.cons.inj hc
      have hdeep : ¬ 64 ≤ deep := fun e => hdp ⟨by show (4 : Int) ≤ 4; decide, e⟩
      rw [if_neg (by decide), if_neg (by decide), if_neg (by decide), if_neg (by decide), if_pos rfl, if_neg hdeep]
      have hins : (tArr l).ins = l := by simp [Tree.ins, tArr, Tree.list, Tree.mems]
      rw [hins] at hs
      have d1' : xs.drop A = [91] ++ (outL by' (k + 1) true l ++ (((if l.length = 0 then [] else gapP by' k) ++ [93]) ++ R)) := by rw [d1]; simp
      obtain ⟨l2, d2⟩ := drop_len d1' l1
      simp only [List.length_cons, List.length_nil, Nat.zero_add] at l2 d2
      unfold openP
      cases l with
      | nil =>
        rw [outL, List.nil_append] at d2
        simp only [List.length_nil, if_true, List.nil_append] at d2
        have d2' : xs.drop (A + 1) = [] ++ ([93] ++ R) := d2
        have hw := white_run d2' l2 (by simp) (by simp; rfl)
        simp only [List.length_nil, Nat.add_zero] at hw
        rw [hw, if_pos (drop_peek d2).1]
        rw [saneL] at hs
        cases hs
        simp [PR.map, outL]
      | cons u l =>
        rw [outL_first] at d2
        simp only [List.length_cons, Nat.add_one_ne_zero, if_false] at d2
        have hu := saneL_mem _ _ _ (by rw [hs]) u List.mem_cons_self
        obtain ⟨n', hu⟩ := hu
        have huf : fieldsT u = true := SaneP.parts ⟨_, n', hu⟩ |>.1
        obtain ⟨c2, T2, hc2, _, _, hw2, hn93, _⟩ := out_head by' (k + 1) huf
        have d2' : xs.drop (A + 1) = gapP by' (k + 1) ++ (outT by' (k + 1) u ++ (outL by' (k + 1) false l ++ (gapP by' k ++ 93 :: R))) := by rw [d2]; simp
        have hw := white_run d2' l2 (gapP_white by' (k + 1)) (by rw [hc2]; intro x hx; simp at hx; rw [← hx]; exact hw2)
        obtain ⟨l3, d3⟩ := drop_len d2' l2
        have hpk2 : peekP xs (A + 1 + (gapP by' (k + 1)).length) = c2 := by
          rw [hc2] at d3; exact (drop_peek d3).1
        rw [hw, hpk2, if_neg hn93]
        have hlen := congrArg List.length d3
        have hll := outL_len by' (k + 1) l
        simp at hlen
        rw [listP_out (xs := xs) (by' := by') (k := k + 1) (f := f) (deep := deep + 1) (tl := gapP by' k) (R := R) N (fun t a n m W R h1 h2 h3 h4 h5 h6 => valueP_out N t f (deep + 1) (k + 1) a n m W R h1 h2 (by omega) (by omega) h3 h4 h5 h6)
          (gapP_white by' k) (gap_nofig by' k 93 R rfl) l u [] (xs.length + 1) _ (n + 1) m [] (fun x hx => by
            have : x ∈ (tArr (u :: l)).ins := by rw [hins]; exact hx
            have := ins_size this
            omega) hs (by omega) l3 (by simp) (by rw [d3]; simp)]
        rw [outL_first]
        simp only [PR.map, List.nil_append, List.length_cons, List.length_append, List.length_nil, Nat.add_one_ne_zero, if_false, PR.ok.injEq, true_and, and_true]
        omega
    · have ho : outT by' k (tObj mm) = 123 :: (outM by' (k + 1) true mm ++ ((if mm.length = 0 then [] else gapP by' k) ++ [125])) := by rw [tObj, outT, if_neg (by decide), if_neg (by decide), if_neg (by decide), if_neg (by decide), if_neg (by decide)]
      rw [ho] at hc d1 ⊢
      obtain ⟨rfl, -⟩ := List.cons.inj hc
      have hdeep : ¬ 64 ≤ deep := fun e => hdp ⟨by show (4 : Int) ≤ 5; decide, e⟩
      rw [if_neg (by decide), if_neg (by decide), if_neg (by decide), if_neg (by decide), if_neg (by decide), if_pos rfl, if_neg hdeep]
      have hins : (tObj mm).ins = mm.map (·.2) := by simp [Tree.ins, tObj, Tree.list, Tree.mems]
      rw [hins, ← saneM_map] at hs
      have hnd : (mm.map (·.1)).Nodup := (twiceP_nodup _ [] (by have e : (tObj mm).mems = mm := rfl; rw [e] at htw; simpa using htw)).1
      have d1' : xs.drop A = [123] ++ (outM by' (k + 1) true mm ++ (((if mm.length = 0 then [] else gapP by' k) ++ [125]) ++ R)) := by rw [d1]; simp
      obtain ⟨l2, d2⟩ := drop_len d1' l1
      simp only [List.length_cons, List.length_nil, Nat.zero_add] at l2 d2
      unfold openP
      cases mm with
      | nil =>
        rw [outM, List.nil_append] at d2
        simp only [List.length_nil, if_true, List.nil_append] at d2
        have d2' : xs.drop (A + 1) = [] ++ ([125] ++ R) := d2
        have hw := white_run d2' l2 (by simp) (by simp; rfl)
        simp only [List.length_nil, Nat.add_zero] at hw
        rw [hw, if_pos (drop_peek d2).1]
        rw [saneM] at hs
        cases hs
        simp [PR.map, outM]
      | cons q l =>
        obtain ⟨key, u⟩ := q
        rw [outM_first] at d2
        simp only [List.length_cons, Nat.add_one_ne_zero, if_false] at d2
        have d2' : xs.drop (A + 1) = gapP by' (k + 1) ++ (quote key ++ (58 :: (blankP by' ++ (outT by' (k + 1) u ++ (outM by' (k + 1) false l ++ (gapP by' k ++ 125 :: R)))))) := by rw [d2]; simp
        have hw := white_run d2' l2 (gapP_white by' (k + 1)) (by intro x hx; simp [quote] at hx; rw [← hx]; rfl)
        obtain ⟨l3, d3⟩ := drop_len d2' l2
        have hpk2 : peekP xs (A + 1 + (gapP by' (k + 1)).length) = 34 := by
          exact (drop_peek (c := 34) (V := quoL key ++ [34] ++ (58 :: (blankP by' ++ (outT by' (k + 1) u ++ (outM by' (k + 1) false l ++ (gapP by' k ++ 125 :: R)))))) d3).1
        rw [hw, hpk2, if_neg (by decide)]
        have hlen := congrArg List.length d3
        have hll := outM_len by' (k + 1) l
        simp at hlen
        rw [membP_out (xs := xs) (by' := by') (k := k + 1) (f := f) (deep := deep + 1) (tl := gapP by' k) (R := R) N (fun t a n m W R h1 h2 h3 h4 h5 h6 => valueP_out N t f (deep + 1) (k + 1) a n m W R h1 h2 (by omega) (by omega) h3 h4 h5 h6)
          (gapP_white by' k) (gap_nofig by' k 125 R rfl) l key u [] (xs.length + 1) _ (n + 1) m [] (fun x hx => by
            have : x.2 ∈ (tObj ((key, u) :: l)).ins := by rw [hins]; exact List.mem_map.2 ⟨x, hx, rfl⟩
            have := ins_size this
            exact ⟨by omega, hm x hx⟩) hnd hs (by omega) l3 (by simp) (by rw [d3]; simp)]
        rw [outM_first]
        simp only [PR.map, List.nil_append, List.length_cons, List.length_append, List.length_nil, Nat.add_one_ne_zero, if_false, PR.ok.injEq, true_and, and_true]
        omega
theorem parse_out {t : Tree} {m : Nat} (by' : Int) (hs : saneT 0 0 t = (0, m)) (hl : (outT by' 0 t).length ≤ 65536) : parseP (outT by' 0 t) = (t, 0, (outT by' 0 t).length) := by
  have hv := valueP_out (xs := outT by' 0 t) (by' := by') _ t 65 0 0 0 0 m [] [] (Nat.lt_succ_self _) hs (by omega) (by omega) (by omega) (by simp) (by simp) (by simp)
  simp only [List.length_nil, Nat.zero_add, Nat.add_zero] at hv
  have hc : clampN (outT by' 0 t).length 0 = 0 := by simp [clampN]; omega
  unfold parseP oneP
  rw [if_neg (by omega), hc, hv]
  simp only
  have hw : whiteN (outT by' 0 t) (outT by' 0 t).length = (outT by' 0 t).length := endQ_end rfl
  rw [hw, if_neg (by omega)]
end Go.Proofs.YtjapbjmeoaagmaaGreatDoor
end

section
set_option linter.unusedVariables false
set_option linter.unusedSimpArgs false
set_option maxRecDepth 100000
namespace Orange
open Go.Proofs.YtjapbjmeoaagmaaGreatDoor (saneT saneL saneM fieldsT twiceP saneT_ins saneT_bd badKey parse_out)
inductive OkT : Nat → Tree → Prop
  | mk {deep : Nat} {t : Tree} : fieldsT t = true → twiceP [] (t.mems.map (·.1)) = false → ¬ (4 ≤ t.kind ∧ 64 ≤ deep) → (∀ x ∈ t.ins, OkT (deep + 1) x) → OkT deep t
theorem OkT.fields {deep : Nat} {t : Tree} (h : OkT deep t) : fieldsT t = true := by cases h with | mk h1 h2 h3 h4 => exact h1
theorem OkT.twice {deep : Nat} {t : Tree} (h : OkT deep t) : twiceP [] (t.mems.map (·.1)) = false := by cases h with | mk h1 h2 h3 h4 => exact h2
theorem OkT.depth {deep : Nat} {t : Tree} (h : OkT deep t) : ¬ (4 ≤ t.kind ∧ 64 ≤ deep) := by cases h with | mk h1 h2 h3 h4 => exact h3
theorem OkT.ins {deep : Nat} {t : Tree} (h : OkT deep t) : ∀ x ∈ t.ins, OkT (deep + 1) x := by cases h with | mk h1 h2 h3 h4 => exact h4
theorem countL_ins (t : Tree) : countT t = 1 + countL t.ins := by
  cases t with
  | mk k b d s l m =>
    rw [countT, countM_map]
    show _ = 1 + countL (l ++ m.map (·.2))
    rw [countL_append]
    omega
theorem saneL_zero {N : Nat} : ∀ (l : List Tree) (deep n m : Nat), (∀ x ∈ l, SizeOf.sizeOf x < N) → (∀ (t : Tree) (deep n m : Nat), SizeOf.sizeOf t < N → saneT deep n t = (0, m) → OkT deep t ∧ m = n + countT t ∧ m ≤ 4096) → n ≤ 4096 → saneL deep n l = (0, m) → (∀ x ∈ l, OkT deep x) ∧ m = n + countL l ∧ m ≤ 4096
  | [], deep, n, m, _, _, hn, h => by
    rw [saneL, Prod.mk.injEq] at h
    exact ⟨by simp, by rw [countL]; omega, by omega⟩
  | t :: l, deep, n, m, hN, ih, hn, h => by
    rw [saneL] at h
    cases hc : saneT deep n t with
    | mk e n' =>
      rw [hc] at h
      simp only at h
      by_cases he : e = 0
      · subst he
        rw [if_pos rfl] at h
        obtain ⟨h1, h2, h3⟩ := ih t deep n n' (hN t List.mem_cons_self) hc
        obtain ⟨h4, h5, h6⟩ := saneL_zero l deep n' m (fun x hx => hN x (List.mem_cons_of_mem _ hx)) ih h3 h
        refine ⟨fun x hx => ?_, by rw [countL]; omega, h6⟩
        rcases List.mem_cons.1 hx with rfl | hx
        · exact h1
        · exact h4 x hx
      · rw [if_neg he] at h
        exact absurd (congrArg Prod.fst h) he
theorem sane_ok : ∀ (N : Nat) (t : Tree) (deep n m : Nat), SizeOf.sizeOf t < N → saneT deep n t = (0, m) → OkT deep t ∧ m = n + countT t ∧ m ≤ 4096
  | 0, _, _, _, _, h, _ => by omega
  | N + 1, t, deep, n, m, hN, h => by
    rw [saneT_ins] at h
    split at h
    · exact absurd (congrArg Prod.fst h) (by simp)
    · next h1 =>
      split at h
      · exact absurd (congrArg Prod.fst h) (by simp)
      · next h2 =>
        split at h
        · exact absurd (congrArg Prod.fst h) (by simp)
        · next h3 =>
          split at h
          · exact absurd (congrArg Prod.fst h) (by simp)
          · next h4 =>
            obtain ⟨h5, h6, h7⟩ := saneL_zero (N := N) t.ins (deep + 1) (n + 1) m (fun x hx => by have := ins_size hx; omega) (fun t deep n m h h' => sane_ok N t deep n m h h') (by omega) h
            exact ⟨.mk (by simpa using h1) (by simpa using h2) h3 h5, by rw [countL_ins]; omega, h7⟩
theorem saneL_of {N : Nat} : ∀ (l : List Tree) (deep n : Nat), (∀ x ∈ l, SizeOf.sizeOf x < N) → (∀ (t : Tree) (deep n : Nat), SizeOf.sizeOf t < N → OkT deep t → (saneT deep n t = (0, n + countT t) ∧ n + countT t ≤ 4096) ∨ (4096 < n + countT t ∧ (saneT deep n t).1 = 4)) → (∀ x ∈ l, OkT deep x) → n ≤ 4096 →
    (saneL deep n l = (0, n + countL l) ∧ n + countL l ≤ 4096) ∨ (4096 < n + countL l ∧ (saneL deep n l).1 = 4)
  | [], deep, n, _, _, _, hn => .inl ⟨by rw [saneL, countL]; rfl, by rw [countL]; omega⟩
  | t :: l, deep, n, hN, ih, hk, hn => by
    rw [saneL, countL]
    rcases ih t deep n (hN t List.mem_cons_self) (hk t List.mem_cons_self) with ⟨h1, h2⟩ | ⟨h1, h2⟩
    · rw [h1]
      simp only [if_true]
      have := saneL_of l deep (n + countT t) (fun x hx => hN x (List.mem_cons_of_mem _ hx)) ih (fun x hx => hk x (List.mem_cons_of_mem _ hx)) h2
      rw [Nat.add_assoc] at this
      exact this
    · cases hc : saneT deep n t with
      | mk e n' =>
        rw [hc] at h2
        simp only at h2
        subst h2
        right
        exact ⟨by omega, by simp⟩
theorem ok_sane : ∀ (N : Nat) (t : Tree) (deep n : Nat), SizeOf.sizeOf t < N → OkT deep t → (saneT deep n t = (0, n + countT t) ∧ n + countT t ≤ 4096) ∨ (4096 < n + countT t ∧ (saneT deep n t).1 = 4)
  | 0, _, _, _, h, _ => by omega
  | N + 1, t, deep, n, hN, h => by
    rw [saneT_ins, if_neg (by rw [h.fields]; decide), if_neg (by rw [h.twice]; decide), if_neg h.depth, countL_ins]
    by_cases h4 : 4096 < n + 1
    · rw [if_pos h4]
      exact .inr ⟨by omega, rfl⟩
    · rw [if_neg h4]
      have := saneL_of (N := N) t.ins (deep + 1) (n + 1) (fun x hx => by have := ins_size hx; omega) (fun t deep n h h' => ok_sane N t deep n h h') h.ins (by omega)
      rw [Nat.add_assoc] at this
      exact this
theorem sane_iff {deep n m : Nat} {t : Tree} : saneT deep n t = (0, m) ↔ OkT deep t ∧ m = n + countT t ∧ m ≤ 4096 := by
  constructor
  · exact sane_ok _ t deep n m (Nat.lt_succ_self _)
  · rintro ⟨h1, rfl, h2⟩
    rcases ok_sane _ t deep n (Nat.lt_succ_self _) h1 with ⟨h, _⟩ | ⟨h, _⟩
    · exact h
    · omega
theorem nodup_twiceP : ∀ (l met : List (List UInt8)), l.Nodup → (∀ k ∈ l, k ∉ met) → twiceP met l = false
  | [], _, _, _ => rfl
  | k :: l, met, h, hd => by
    obtain ⟨h1, h2⟩ := List.nodup_cons.1 h
    rw [twiceP, Bool.or_eq_false_iff]
    refine ⟨by simpa using hd k List.mem_cons_self, nodup_twiceP l (k :: met) h2 (fun x hx hm => ?_)⟩
    rcases List.mem_cons.1 hm with rfl | hm
    · exact h1 hx
    · exact hd x (List.mem_cons_of_mem _ hx) hm
theorem fields_sorted {t : Tree} (h : fieldsT t = true) : fieldsT (sortedT t) = true := by
  cases t with
  | mk k b d s l m =>
    rw [sortedT]
    unfold fieldsT at h ⊢
    simp only at h ⊢
    have e1 : (sortedL l).isEmpty = l.isEmpty := by rw [sortedL_map]; cases l <;> rfl
    have hp := sortM_perm (sortedM m)
    have e2 : (sortM (sortedM m)).isEmpty = m.isEmpty := by
      have h1 := hp.length_eq
      rw [sortedM_map, List.length_map] at h1
      rw [← sortedM_map] at h1
      cases m with
      | nil => rfl
      | cons p m =>
        cases hs : sortM (sortedM (p :: m)) with
        | nil => rw [hs] at h1; simp at h1
        | cons q l => rfl
    have e3 : (sortM (sortedM m)).any badKey = m.any badKey := by
      rw [Bool.eq_iff_iff, List.any_eq_true, List.any_eq_true]
      constructor
      · rintro ⟨p, hp1, hp2⟩
        have := hp.mem_iff.1 hp1
        rw [sortedM_map] at this
        obtain ⟨q, hq, rfl⟩ := List.mem_map.1 this
        exact ⟨q, hq, hp2⟩
      · rintro ⟨q, hq, hq2⟩
        refine ⟨(q.1, sortedT q.2), hp.mem_iff.2 ?_, hq2⟩
        rw [sortedM_map]
        exact List.mem_map.2 ⟨q, hq, rfl⟩
    rw [e1, e2, e3]
    exact h
theorem ok_sorted : ∀ (N : Nat) (t : Tree) (deep : Nat), SizeOf.sizeOf t < N → OkT deep t → OkT deep (sortedT t)
  | 0, _, _, h, _ => by omega
  | N + 1, t, deep, hN, h => by
    have hf := fields_sorted h.fields
    have h2 := h.twice
    have h3 := h.depth
    have h4 := h.ins
    have hsz : ∀ x ∈ t.ins, SizeOf.sizeOf x < N := fun x hx => by have := ins_size hx; omega
    cases t with
    | mk k b d s l m =>
      have hnd : (m.map (·.1)).Nodup := (twiceP_nodup _ [] h2).1
      rw [sortedT] at hf ⊢
      have hp := sortM_perm (sortedM m)
      refine .mk hf ?_ h3 ?_
      · have hn2 : ((sortM (sortedM m)).map (·.1)).Nodup := by
          refine ((hp.map (·.1)).nodup_iff).2 ?_
          rw [keys_sortedM]; exact hnd
        exact nodup_twiceP _ [] hn2 (by simp)
      · intro x hx
        rcases List.mem_append.1 hx with hx | hx
        · have hx' : x ∈ sortedL l := hx
          rw [sortedL_map] at hx'
          obtain ⟨u, hu, rfl⟩ := List.mem_map.1 hx'
          have hi : u ∈ (Tree.mk k b d s l m).ins := List.mem_append_left _ hu
          exact ok_sorted N u _ (hsz u hi) (h4 u hi)
        · obtain ⟨p, hp1, rfl⟩ := List.mem_map.1 hx
          have := hp.mem_iff.1 hp1
          rw [sortedM_map] at this
          obtain ⟨q, hq, rfl⟩ := List.mem_map.1 this
          have hi : q.2 ∈ (Tree.mk k b d s l m).ins := List.mem_append_right _ (List.mem_map.2 ⟨q, hq, rfl⟩)
          exact ok_sorted N q.2 _ (hsz _ hi) (h4 _ hi)
theorem OkT.saneP {t : Tree} {n m : Nat} {deep : Nat} (h : saneT deep n t = (0, m)) : SaneP t := ⟨deep, n, by rw [h]⟩
theorem sane_sorted {deep n m : Nat} {t : Tree} (h : saneT deep n t = (0, m)) : saneT deep n (sortedT t) = (0, m) ∧ sortedT (sortedT t) = sortedT t := by
  obtain ⟨h1, h2, h3⟩ := sane_iff.1 h
  have hs : SaneP t := OkT.saneP h
  obtain ⟨_, e2, e3⟩ := dist_sorted _ t (Nat.lt_succ_self _) (SaneP.dist _ t (Nat.lt_succ_self _) hs)
  exact ⟨sane_iff.2 ⟨ok_sorted _ t deep (Nat.lt_succ_self _) h1, by rw [e3]; exact h2, h3⟩, e2⟩
def toldT (by' : Int) (t : Tree) : List UInt8 × Int := if (saneT 0 0 t).1 ≠ 0 then ([], (saneT 0 0 t).1) else (outT by' 0 (sortedT t), 0)
def shortT (r : List UInt8 × Int) : List UInt8 × Int := if r.2 ≠ 0 then ([], r.2) else if 65536 < r.1.length then ([], 4) else r
def printT (t : Tree) : List UInt8 × Int := shortT (toldT (-1) t)
theorem printT_zero {t : Tree} (h : (printT t).2 = 0) : (∃ m, saneT 0 0 t = (0, m)) ∧ (printT t).1 = outT (-1) 0 (sortedT t) ∧ (outT (-1) 0 (sortedT t)).length ≤ 65536 := by
  unfold printT shortT toldT at *
  by_cases h1 : (saneT 0 0 t).1 ≠ 0
  · rw [if_pos h1] at h
    simp only at h
    rw [if_pos h1] at h
    exact absurd h h1
  · rw [if_neg h1] at h ⊢
    simp only [ne_eq, not_true_eq_false, if_false] at h ⊢
    split at h
    · exact absurd h (by decide)
    · next h2 =>
      rw [if_neg h2]
      refine ⟨⟨(saneT 0 0 t).2, ?_⟩, rfl, by omega⟩
      have : (saneT 0 0 t).1 = 0 := by simpa using h1
      rw [← this]
theorem back_law {t : Tree} (h : (printT t).2 = 0) : parseP (printT t).1 = (sortedT t, 0, (printT t).1.length) ∧ printT (sortedT t) = printT t := by
  obtain ⟨⟨m, hs⟩, h2, h3⟩ := printT_zero h
  obtain ⟨h4, h5⟩ := sane_sorted hs
  refine ⟨by rw [h2]; exact parse_out (-1) h4 h3, ?_⟩
  unfold printT toldT
  rw [h4, hs, h5]
theorem gapP_flat (k : Nat) : gapP (-1) k = [] := rfl
theorem blankP_flat : blankP (-1) = [] := rfl
mutual
theorem outT_len (by' : Int) : ∀ (t : Tree) (k k' : Nat), (outT (-1) k t).length ≤ (outT by' k' t).length
  | .mk kd b d s l m, k, k' => by
    rw [outT, outT]
    split
    · exact Nat.le_refl _
    split
    · exact Nat.le_refl _
    split
    · exact Nat.le_refl _
    split
    · exact Nat.le_refl _
    have hl := outL_len by' l true (k + 1) (k' + 1)
    have hm := outM_len by' m true (k + 1) (k' + 1)
    split
    · simp only [gapP_flat, List.length_cons, List.length_append, List.length_nil, ite_self]
      omega
    · simp only [gapP_flat, List.length_cons, List.length_append, List.length_nil, ite_self]
      omega
theorem outL_len (by' : Int) : ∀ (l : List Tree) (f : Bool) (k k' : Nat), (outL (-1) k f l).length ≤ (outL by' k' f l).length
  | [], _, _, _ => by rw [outL, outL]; exact Nat.le_refl _
  | t :: l, f, k, k' => by
    rw [outL, outL]
    have h1 := outT_len by' t k k'
    have h2 := outL_len by' l false k k'
    simp only [gapP_flat, List.length_append, List.length_nil]
    omega
theorem outM_len (by' : Int) : ∀ (l : List Mem1) (f : Bool) (k k' : Nat), (outM (-1) k f l).length ≤ (outM by' k' f l).length
  | [], _, _, _ => by rw [outM, outM]; exact Nat.le_refl _
  | (key, t) :: l, f, k, k' => by
    rw [outM, outM]
    have h1 := outT_len by' t k k'
    have h2 := outM_len by' l false k k'
    simp only [gapP_flat, blankP_flat, List.length_append, List.length_cons, List.length_nil]
    omega
end
end Orange
end

section
set_option linter.unusedVariables false
set_option maxRecDepth 100000
namespace Go.Proofs.YtjapbjmeoaagmaaGreatDoor
open Go.RowKit Go.Mem Orange
theorem hexget (n : Nat) (h : n < 16) : hexs[n]?.getD 0 = (ByteArray.mk #[48, 49, 50, 51, 52, 53, 54, 55, 56, 57, 97, 98, 99, 100, 101, 102])[n]'h := by
  have : n = 0 ∨ n = 1 ∨ n = 2 ∨ n = 3 ∨ n = 4 ∨ n = 5 ∨ n = 6 ∨ n = 7 ∨ n = 8 ∨ n = 9 ∨ n = 10 ∨ n = 11 ∨ n = 12 ∨ n = 13 ∨ n = 14 ∨ n = 15 := by omega
  rcases this with rfl | rfl | rfl | rfl | rfl | rfl | rfl | rfl | rfl | rfl | rfl | rfl | rfl | rfl | rfl | rfl <;> rfl
theorem wbyte (base b : Nat) (t : TypeId) (ex : List Value) (l : List UInt8) (n : Int) (c : UInt8) (w : World) (hn : (c.toNat : Int) = n) (ht : BldT t (ex.length + 2)) (h : Bld w base b t ex l) (hl : l.length + 1 ≤ 140737488355328) (hbase : base ≤ w.heap.size) :
    Calls Tryz.prog 62 #[.pointer (some ⟨b, 0, none⟩), .int .u8 n] w fun e w' => e = .returned .nilIface ∧ Bld w' base b t ex (l ++ [c]) ∧ Kept base b w w' ∧ w.heap.size ≤ w'.heap.size := by
  subst hn
  refine (writeByte_any base b t ex l c w ht h hl hbase).mono ?_
  rintro e w' ⟨rfl, h1, h2⟩
  exact ⟨rfl, h1, h2, h2.size⟩
set_option maxHeartbeats 3200000 in
theorem quote_any (s : ByteArray) (w : World) (hl : s.size ≤ 1000000000) :
    Calls Tryz.prog 86 #[.string s] w fun e w' => e = .returned (.string ⟨(quote s.data.toList).toArray⟩) ∧ Ext w w' := by
  have hT := bldT_plain
  go_enter Tryz.func86, Tryz.ntmps86
  go_wp2_with fail
  have hb0 : (w.alloc (.cells #[.pointer none, .slice none 0 0] 80)).heap[w.heap.size]? = some (.cells #[.pointer none, .slice none 0 0] 80 (0, 0)) := heap_alloc_new _ _
  have hB0 : Bld (w.alloc (.cells #[.pointer none, .slice none 0 0] 80)) (w.heap.size + 1) w.heap.size 80 [] [] := ⟨_, _, hb0, .inl rfl, by omega, OwnB.nil _ _ _⟩
  have hs0 : (w.alloc (.cells #[.pointer none, .slice none 0 0] 80)).heap.size = w.heap.size + 1 := by simp
  have hx0 : Ext w (w.alloc (.cells #[.pointer none, .slice none 0 0] 80)) := (ext_refl w).alloc (Nat.le_refl _) _
  refine (wbyte _ _ _ [] _ _ 34 _ rfl hT hB0 (by simp) (by omega)).mono ?_
  rintro e w1 ⟨rfl, hB1, hK1, hs1⟩
  simp only [List.nil_append] at hB1
  go_wp2_with fail
  have hx1 : Ext w w1 := hx0.trans ((hK1.mono (by omega : w.heap.size ≤ w.heap.size + 1)).below (Nat.le_refl _))
  go_loopw [10] (fun iv wr => ∃ k : Nat, k ≤ s.size ∧ iv = .int .i64 k ∧ Bld wr (w.heap.size + 1) w.heap.size 80 [] (34 :: quoL (s.data.toList.take k)) ∧ Kept (w.heap.size + 1) w.heap.size w1 wr ∧ w.heap.size + 1 ≤ wr.heap.size) (fun iv _ => s.size - (intOf iv).toNat)
  case atStart => exact ⟨0, by omega, rfl, hB1, Kept.refl _ _ _, by omega⟩
  case round =>
    obtain ⟨k, hk, rfl, hB1, hKr, hs1⟩ := hrel
    have hq := quoL_len (s.data.toList.take k)
    have hq2 : (s.data.toList.take k).length ≤ k := List.length_take_le _ _
    clear hB0 hb0 hs0 hx0 hK1
    by_cases hlt : k < s.size
    · obtain ⟨c, hc⟩ : ∃ c, s[k] = c := ⟨_, rfl⟩
      have hsn := quoL_snoc s k hlt c hc
      have hc8 := c.toNat_lt
      by_cases hA : c = 34 ∨ c = 92
      · have hqc : quoC c = [92, c] := by rw [quoC, if_pos hA]
        rw [hqc] at hsn
        have HQ := Lib.hid hsn
        have hix : Lib.indexByte [8, 9, 10, 12, 13] c = -1 := by rcases hA with rfl | rfl <;> decide
        clear hsn hqc
        rcases hA with rfl | rfl
        · go_wp2_with fail
          refine (idx_eq _ 34 _ _ hix).mono ?_
          rintro e w' ⟨rfl, rfl⟩
          go_wp2_with fail
          refine (wbyte _ _ _ [] _ _ 92 _ (rfl) hT hB1 (by simp; omega) (by omega)).mono ?_
          rintro e w2 ⟨rfl, hB2, hK2, hs2⟩
          go_wp2_with fail
          refine (wbyte _ _ _ [] _ _ 34 _ (rfl) hT hB2 (by simp; omega) (by omega)).mono ?_
          rintro e w3 ⟨rfl, hB3, hK3, hs3⟩
          go_wp2_with fail
          go_roundw
          case rel => exact ⟨k + 1, by omega, by go_num, by rw [HQ.out]; simpa using hB3, ((hKr).trans hK2).trans hK3, by omega⟩
          case measure => simp [intOf]; omega
        · go_wp2_with fail
          refine (idx_eq _ 92 _ _ hix).mono ?_
          rintro e w' ⟨rfl, rfl⟩
          go_wp2_with fail
          refine (wbyte _ _ _ [] _ _ 92 _ (rfl) hT hB1 (by simp; omega) (by omega)).mono ?_
          rintro e w2 ⟨rfl, hB2, hK2, hs2⟩
          go_wp2_with fail
          refine (wbyte _ _ _ [] _ _ 92 _ (rfl) hT hB2 (by simp; omega) (by omega)).mono ?_
          rintro e w3 ⟨rfl, hB3, hK3, hs3⟩
          go_wp2_with fail
          go_roundw
          case rel => exact ⟨k + 1, by omega, by go_num, by rw [HQ.out]; simpa using hB3, ((hKr).trans hK2).trans hK3, by omega⟩
          case measure => simp [intOf]; omega
      by_cases hN : c = 8 ∨ c = 9 ∨ c = 10 ∨ c = 12 ∨ c = 13
      · rcases hN with rfl | rfl | rfl | rfl | rfl
        · have hqc : quoC 8 = [92, 98] := by decide
          rw [hqc] at hsn
          have HQ := Lib.hid hsn
          have hix : Lib.indexByte [8, 9, 10, 12, 13] 8 = 0 := by decide
          clear hsn hqc hA
          go_wp2_with fail
          refine (idx_eq _ 8 _ _ hix).mono ?_
          rintro e w' ⟨rfl, rfl⟩
          go_wp2_with fail
          refine (wbyte _ _ _ [] _ _ 92 _ (rfl) hT hB1 (by simp; omega) (by omega)).mono ?_
          rintro e w2 ⟨rfl, hB2, hK2, hs2⟩
          go_wp2_with fail
          refine (wbyte _ _ _ [] _ _ 98 _ (rfl) hT hB2 (by simp; omega) (by omega)).mono ?_
          rintro e w3 ⟨rfl, hB3, hK3, hs3⟩
          go_wp2_with fail
          go_roundw
          case rel => exact ⟨k + 1, by omega, by go_num, by rw [HQ.out]; simpa using hB3, ((hKr).trans hK2).trans hK3, by omega⟩
          case measure => simp [intOf]; omega
        · have hqc : quoC 9 = [92, 116] := by decide
          rw [hqc] at hsn
          have HQ := Lib.hid hsn
          have hix : Lib.indexByte [8, 9, 10, 12, 13] 9 = 1 := by decide
          clear hsn hqc hA
          go_wp2_with fail
          refine (idx_eq _ 9 _ _ hix).mono ?_
          rintro e w' ⟨rfl, rfl⟩
          go_wp2_with fail
          refine (wbyte _ _ _ [] _ _ 92 _ (rfl) hT hB1 (by simp; omega) (by omega)).mono ?_
          rintro e w2 ⟨rfl, hB2, hK2, hs2⟩
          go_wp2_with fail
          refine (wbyte _ _ _ [] _ _ 116 _ (rfl) hT hB2 (by simp; omega) (by omega)).mono ?_
          rintro e w3 ⟨rfl, hB3, hK3, hs3⟩
          go_wp2_with fail
          go_roundw
          case rel => exact ⟨k + 1, by omega, by go_num, by rw [HQ.out]; simpa using hB3, ((hKr).trans hK2).trans hK3, by omega⟩
          case measure => simp [intOf]; omega
        · have hqc : quoC 10 = [92, 110] := by decide
          rw [hqc] at hsn
          have HQ := Lib.hid hsn
          have hix : Lib.indexByte [8, 9, 10, 12, 13] 10 = 2 := by decide
          clear hsn hqc hA
          go_wp2_with fail
          refine (idx_eq _ 10 _ _ hix).mono ?_
          rintro e w' ⟨rfl, rfl⟩
          go_wp2_with fail
          refine (wbyte _ _ _ [] _ _ 92 _ (rfl) hT hB1 (by simp; omega) (by omega)).mono ?_
          rintro e w2 ⟨rfl, hB2, hK2, hs2⟩
          go_wp2_with fail
          refine (wbyte _ _ _ [] _ _ 110 _ (rfl) hT hB2 (by simp; omega) (by omega)).mono ?_
          rintro e w3 ⟨rfl, hB3, hK3, hs3⟩
          go_wp2_with fail
          go_roundw
          case rel => exact ⟨k + 1, by omega, by go_num, by rw [HQ.out]; simpa using hB3, ((hKr).trans hK2).trans hK3, by omega⟩
          case measure => simp [intOf]; omega
        · have hqc : quoC 12 = [92, 102] := by decide
          rw [hqc] at hsn
          have HQ := Lib.hid hsn
          have hix : Lib.indexByte [8, 9, 10, 12, 13] 12 = 3 := by decide
          clear hsn hqc hA
          go_wp2_with fail
          refine (idx_eq _ 12 _ _ hix).mono ?_
          rintro e w' ⟨rfl, rfl⟩
          go_wp2_with fail
          refine (wbyte _ _ _ [] _ _ 92 _ (rfl) hT hB1 (by simp; omega) (by omega)).mono ?_
          rintro e w2 ⟨rfl, hB2, hK2, hs2⟩
          go_wp2_with fail
          refine (wbyte _ _ _ [] _ _ 102 _ (rfl) hT hB2 (by simp; omega) (by omega)).mono ?_
          rintro e w3 ⟨rfl, hB3, hK3, hs3⟩
          go_wp2_with fail
          go_roundw
          case rel => exact ⟨k + 1, by omega, by go_num, by rw [HQ.out]; simpa using hB3, ((hKr).trans hK2).trans hK3, by omega⟩
          case measure => simp [intOf]; omega
        · have hqc : quoC 13 = [92, 114] := by decide
          rw [hqc] at hsn
          have HQ := Lib.hid hsn
          have hix : Lib.indexByte [8, 9, 10, 12, 13] 13 = 4 := by decide
          clear hsn hqc hA
          go_wp2_with fail
          refine (idx_eq _ 13 _ _ hix).mono ?_
          rintro e w' ⟨rfl, rfl⟩
          go_wp2_with fail
          refine (wbyte _ _ _ [] _ _ 92 _ (rfl) hT hB1 (by simp; omega) (by omega)).mono ?_
          rintro e w2 ⟨rfl, hB2, hK2, hs2⟩
          go_wp2_with fail
          refine (wbyte _ _ _ [] _ _ 114 _ (rfl) hT hB2 (by simp; omega) (by omega)).mono ?_
          rintro e w3 ⟨rfl, hB3, hK3, hs3⟩
          go_wp2_with fail
          go_roundw
          case rel => exact ⟨k + 1, by omega, by go_num, by rw [HQ.out]; simpa using hB3, ((hKr).trans hK2).trans hK3, by omega⟩
          case measure => simp [intOf]; omega
      have hix : Lib.indexByte [8, 9, 10, 12, 13] c = -1 := idx_none _ _ (by
        intro y hy e
        simp only [List.mem_cons, List.not_mem_nil, or_false] at hy
        apply hN; rw [← e]; exact hy)
      have hd1 : (((c.toNat : Nat) : Int) == 34) = false := by
        simp only [beq_eq_false_iff_ne, ne_eq]; intro e; exact hA (.inl (UInt8.toNat.inj (by simpa using (by omega : c.toNat = 34))))
      have hd2 : (((c.toNat : Nat) : Int) == 92) = false := by
        simp only [beq_eq_false_iff_ne, ne_eq]; intro e; exact hA (.inr (UInt8.toNat.inj (by simpa using (by omega : c.toNat = 92))))
      have hq1 : quoC c = if c.toNat < 32 then [92, 117, 48, 48, hexs[c.toNat / 16]?.getD 0, hexs[c.toNat % 16]?.getD 0] else [c] := by
        simp only [not_or] at hN
        rw [quoC, if_neg hA, if_neg hN.1, if_neg hN.2.1, if_neg hN.2.2.1, if_neg hN.2.2.2.1, if_neg hN.2.2.2.2]
      clear hA hN
      by_cases h32 : c.toNat < 32
      · rw [hq1, if_pos h32] at hsn
        have HQ := Lib.hid hsn
        clear hsn hq1
        have hd3 : decide (((c.toNat : Nat) : Int) < 32) = true := by simp; omega
        go_wp2_with fail
        refine (idx_eq _ c _ _ hix).mono ?_
        rintro e w' ⟨rfl, rfl⟩
        go_wp2_with fail
        refine (writeString_any _ _ _ [] _ _ _ hT hB1 (by show (34 :: quoL (s.data.toList.take k)).length + 4 ≤ 140737488355328; simp; omega) (by omega)).mono ?_
        rintro e w2 ⟨rfl, hB2, hK2⟩
        have hs2 := hK2.size
        go_wp2_with fail
        refine (wbyte _ _ _ [] _ _ (hexs[c.toNat / 16]?.getD 0) _ (by rw [hexget _ (by omega)]) hT hB2 (by simp; omega) (by omega)).mono ?_
        rintro e w3 ⟨rfl, hB3, hK3, hs3⟩
        go_wp2_with fail
        refine (wbyte _ _ _ [] _ _ (hexs[c.toNat % 16]?.getD 0) _ (by rw [hexget _ (by omega)]) hT hB3 (by simp; omega) (by omega)).mono ?_
        rintro e w4 ⟨rfl, hB4, hK4, hs4⟩
        go_wp2_with fail
        go_roundw
        case rel => exact ⟨k + 1, by omega, by go_num, by rw [HQ.out]; simpa using hB4, (((hKr).trans hK2).trans hK3).trans hK4, by omega⟩
        case measure => simp [intOf]; omega
      · rw [hq1, if_neg h32] at hsn
        have HQ := Lib.hid hsn
        clear hsn hq1
        have hd3 : decide (((c.toNat : Nat) : Int) < 32) = false := by simp; omega
        go_wp2_with fail
        refine (idx_eq _ c _ _ hix).mono ?_
        rintro e w' ⟨rfl, rfl⟩
        go_wp2_with fail
        refine (wbyte _ _ _ [] _ _ c _ (rfl) hT hB1 (by simp; omega) (by omega)).mono ?_
        rintro e w2 ⟨rfl, hB2, hK2, hs2⟩
        go_wp2_with fail
        go_roundw
        case rel => exact ⟨k + 1, by omega, by go_num, by rw [HQ.out]; simpa using hB2, (hKr).trans hK2, by omega⟩
        case measure => simp [intOf]; omega
    · obtain rfl : k = s.size := by omega
      go_wp2_with fail
      refine (wbyte _ _ _ [] _ _ 34 _ rfl hT hB1 (by simp; omega) (by omega)).mono ?_
      rintro e w2 ⟨rfl, hB2, hK2, hs2⟩
      go_wp2_with fail
      refine (builderString_any _ _ _ [] _ _ hB2 (by simp; omega) (by simp)).mono ?_
      rintro e w3 ⟨rfl, hb3⟩
      go_wp2_with fail
      go_ret
      have hfull : s.data.toList.take s.size = s.data.toList := List.take_of_length_le (by rw [Array.length_toList]; exact Nat.le_refl _)
      refine ⟨?_, hx1.trans (((hKr.trans hK2).mono (by omega : w.heap.size ≤ w.heap.size + 1)).below (Nat.le_refl _) |>.trans ((hb3.mono (by omega : w.heap.size ≤ w.heap.size + 1))))⟩
      rw [hfull]; rfl
end Go.Proofs.YtjapbjmeoaagmaaGreatDoor
end

section
set_option linter.unusedVariables false
set_option linter.unusedSimpArgs false
set_option maxRecDepth 100000
namespace Go.Proofs.YtjapbjmeoaagmaaGreatDoor
open Go.RowKit Go.Mem Orange
def Tab (w : World) : Prop := Lib.TabIs Tryz.prog w "internal/strconv.uint64pow10" .u64 Lib.pow10Tab
theorem Tab.ext {w w' : World} (h : Tab w) (hb : Ext w w') : Tab w' := by
  unfold Tab Lib.TabIs at h ⊢
  have hc : ∃ g, Tryz.prog.globalNamed "internal/strconv.uint64pow10" = some g ∧ g < w.heap.size := by
    cases hq : Tryz.prog.globalNamed "internal/strconv.uint64pow10" with
    | none => simp [World.var?, hq] at h
    | some g => exact ⟨g, rfl, World.block_lt_of_cell? w _ (Lib.TabIs.cell h hq 0 (by decide))⟩
  obtain ⟨g, hg, hlt⟩ := hc
  exact var?_below hb hg hlt h
theorem decDigits_eq : ∀ u, Lib.decDigits u = decD u := by
  intro u
  induction u using Nat.strongRecOn with
  | _ u ih =>
    rw [Lib.decDigits]
    split
    · rename_i h
      unfold decD
      split
      · rename_i h0; subst h0; rfl
      · rename_i h0
        rw [digs_pos h0, show u / 10 = 0 by omega, digs_zero, show u % 10 = u by omega]; rfl
    · rename_i h
      rw [ih (u / 10) (by omega)]
      unfold decD
      rw [if_neg (by omega), if_neg (by omega), digs_pos (N := u) (by omega)]; rfl
theorem itoa_eq (n : Int) : Lib.itoa n = itoaP n := by
  unfold Lib.itoa itoaP
  rw [decDigits_eq, decDigits_eq]
theorem itoa_any (n : Int) (w : World) (hT : Tab w) (h0 : -9223372036854775808 ≤ n) (h1 : n ≤ 9223372036854775807) :
    Calls Tryz.prog 65 #[.int .i64 n] w fun e w' => e = .returned (.string ⟨(itoaP n).toArray⟩) ∧ Ext w w' := by
  refine (Tryz.strconv_Itoa n h0 h1 w hT).mono ?_
  rintro e w' ⟨rfl, k, os, rfl⟩
  exact ⟨by rw [itoa_eq], Lib.below_grow _ w (Nat.le_refl _) k os⟩
theorem hasPrefix_n (l p : List UInt8) (w : World) :
    Calls Tryz.prog 212 #[.string ⟨l.toArray⟩, .string ⟨p.toArray⟩] w fun e w' => e = .returned (.bool (p.isPrefixOf l)) ∧ w = w' := by
  refine (Tryz.strings_HasPrefix ⟨l.toArray⟩ ⟨p.toArray⟩ w).mono ?_
  rintro e w' ⟨rfl, rfl⟩
  exact ⟨rfl, rfl⟩
set_option maxHeartbeats 1600000 in
theorem repeat_any (c : Nat) (hc : c ≤ 40) (w : World) :
    Calls Tryz.prog 187 #[.string ⟨#[48]⟩, .int .i64 c] w fun e w' => e = .returned (.string ⟨(zeros c).toArray⟩) ∧ Ext w w' := by
  by_cases h0 : c = 0
  · subst h0
    go_enter Tryz.func187, Tryz.ntmps187
    go_wp2_with fail
    go_ret
    exact ⟨rfl, ext_refl w⟩
  · by_cases h1 : c = 1
    · subst h1
      go_enter Tryz.func187, Tryz.ntmps187
      go_wp2_with fail
      go_ret
      exact ⟨rfl, ext_refl w⟩
    · have q0 : ((c : Int) == 0) = false := by simp; omega
      have q1 : ((c : Int) == 1) = false := by simp; omega
      have u1 : IntKind.u64.wrap (c : Int) = c := by simp [IntKind.wrap, IntKind.bits, IntKind.signed]; omega
      have u2 : IntKind.i64.wrap (c : Int) = c := IntWalk.i64_in _ (by omega)
      go_enter Tryz.func187, Tryz.ntmps187
      go_wp2_with fail
      have e1 : ((1 * c / 18446744073709551616 : Nat) : Int) = 0 := by omega
      have e2 : ((1 * c % 18446744073709551616 : Nat) : Int) = c := by omega
      refine (Tryz.bits_Mul 1 c (by decide) (by omega) w).mono ?_
      rintro e w1 ⟨rfl, rfl⟩
      rw [e1, e2]
      clear e1 e2
      go_wp2_with fail
      refine (hasPrefix_n _ [48] _).mono ?_
      rintro e w1 ⟨rfl, rfl⟩
      go_wp2_with fail
      refine (hasPrefix_n _ [48] _).mono ?_
      rintro e w1 ⟨rfl, rfl⟩
      go_wp2_with fail
      refine (hasPrefix_n _ [48] _).mono ?_
      rintro e w1 ⟨rfl, rfl⟩
      go_wp2_with fail
      go_ret
      refine ⟨?_, ext_refl _⟩
      have ez : (zeros 64).take c = zeros c := by unfold zeros; rw [List.take_replicate, show min c 64 = c by omega]
      show Ending.returned (.string (ByteArray.extract ⟨(zeros 64).toArray⟩ 0 c)) = _
      rw [sx_take, ez]
end Go.Proofs.YtjapbjmeoaagmaaGreatDoor
end

section
set_option linter.unusedVariables false
set_option linter.unusedSimpArgs false
set_option maxRecDepth 100000
namespace Go.Proofs.YtjapbjmeoaagmaaGreatDoor
open Go.RowKit Go.Mem Orange
set_option maxHeartbeats 6400000 in
theorem written_any (d : Num) (w : World) (hT : Tab w) (h : sane d = true) (h0 : d.digits ≠ []) :
    Calls Tryz.prog 149 #[.agg #[.bool d.neg, .string ⟨d.digits.toArray⟩, .int .i64 d.exp]] w fun e w' => e = .returned (.string ⟨(writtenP d).toArray⟩) ∧ Ext w w' := by
  rcases sane_parts h with e | ⟨_, ha, hl, hh1, hh2, hx1, hx2, hh, hg⟩
  · subst e; exact absurd rfl h0
  obtain ⟨neg, l, x⟩ := d
  simp only at *
  have hl1 : 1 ≤ l.length := by cases l with | nil => exact absurd rfl h0 | cons c t => simp
  have hm1 := NumAt.new w ⟨neg, l, x⟩
  have hE1 : Ext w (w.alloc (.cells #[.bool neg, .string ⟨l.toArray⟩, .int .i64 x] 23)) := (ext_refl w).alloc (Nat.le_refl _) _
  simp only at hm1
  have hhd : height ⟨neg, l, x⟩ = (l.length : Int) + x := rfl
  have hW : writtenP ⟨neg, l, x⟩ = writtenP ⟨neg, l, x⟩ := rfl
  conv at hW => rhs; unfold writtenP
  simp only at hW
  obtain ⟨H, hH⟩ : ∃ H, height ⟨neg, l, x⟩ = H := ⟨_, rfl⟩
  rw [hH] at hh1 hh2 hhd hW
  have HW := Lib.hid hW
  have HH := Lib.hid hH
  have HX := Lib.hid hhd
  clear hW hH hh hg ha h h0 hhd
  go_enter Tryz.func149, Tryz.ntmps149
  go_upto_region 1 with fail
  generalize w.alloc (.cells #[.bool neg, .string ⟨l.toArray⟩, .int .i64 x] 23) = w1 at *
  have HM := Lib.hid hm1
  clear hm1
  refine Grow.wp_region_lit (G := Ext) (B := fun w' => Ext w1 w' ∧ NumAt w' w.heap.size ⟨neg, l, x⟩) (anc := fun _ => []) (I := fun j => if j = 4 then some (Grow.Spec.val Ext (.int .i64 H)) else none) (by kernel_rfl) (by kernel_rfl) (by kernel_rfl) ?_ ?_ ?_
  · exact fun w w' h hg => ⟨ext_trans h.1 hg, h.2.ext hg⟩
  · exact ⟨(ext_refl _).drew, (HM.out).ext (ext_refl _).drew⟩
  repeat
    (refine Grow.walk_step (fun K hK => ?_)
     first
     | (refine Grow.step_read (by rfl) (by rfl) ext_refl ?_
        apply Exists.intro
        refine ⟨fun w hB hF => ?_, ?_⟩
        · obtain ⟨hB1, hB2⟩ := hB; obtain ⟨c0, c1, c2, f0, f1, f2, hp⟩ := hB2.cells; simp only at c0 c1 c2
          go_simp
          try exact rfl
        go_simp
        refine hK _ _ ?_
        clear hK K)
     | (refine Grow.step_off (by rfl) ?_
        go_simp
        refine hK _ _ ?_
        clear hK K))
  refine Grow.walk_step (fun K hK => ?_)
  refine Grow.step_rel (by rfl) (by rfl) (fun w' hB hF => ?_) (fun v hv => ?_)
  · obtain ⟨hB1, hB2⟩ := hB
    go_simp
    refine Grow.relUpon_enter ((height_any ⟨neg, l, x⟩ w' (by simp only; omega) (by simp only; omega)).mono ?_)
    rintro e w'' ⟨rfl, hw''⟩
    exact ⟨_, rfl, hw'', (by rw [HH.out]; rfl), trivial⟩
  obtain rfl : v = _ := hv
  go_simp
  refine hK _ _ ?_
  clear hK K
  repeat
    (refine Grow.walk_step (fun K hK => ?_)
     first
     | (refine Grow.step_read (by rfl) (by rfl) ext_refl ?_
        apply Exists.intro
        refine ⟨fun w hB hF => ?_, ?_⟩
        · obtain ⟨hB1, hB2⟩ := hB; obtain ⟨c0, c1, c2, f0, f1, f2, hp⟩ := hB2.cells; simp only at c0 c1 c2
          go_simp
          try exact rfl
        go_simp
        refine hK _ _ ?_
        clear hK K)
     | (refine Grow.step_off (by rfl) ?_
        go_simp
        refine hK _ _ ?_
        clear hK K))
  refine Grow.walk_nil ?_
  intro w2 hB hF
  clear hF
  obtain ⟨hB1, hB2⟩ := hB
  have hE2 := ext_trans hE1 hB1
  have HM2 := Lib.hid hB2
  clear hB1 hB2 HM hE1 HH
  obtain ⟨c0, c1, c2, f0, f1, f2, hp⟩ := HM2.out.cells
  simp only at c0 c1 c2
  by_cases k1 : (l.length : Int) ≤ H ∧ H ≤ 21
  · obtain ⟨k, hk⟩ : ∃ k : Nat, H - l.length = k := ⟨(H - l.length).toNat, by omega⟩
    have HF : Hid (writtenP ⟨neg, l, x⟩ = l ++ zeros k) := Lib.hid (by rw [HW.out, if_pos k1, hk]; rfl)
    have happ := sx_app l (zeros k)
    have hs1 : ¬ 9223372036854775807 < l.length + (zeros k).length := by rw [zeros_len]; omega
    obtain ⟨k1, k2⟩ := k1
    have hkb : k ≤ 40 := by omega
    have hwk : IntKind.i64.wrap (k : Int) = k := IntWalk.i64_in _ (by omega)
    clear HW HX
    go_wp2_with fail
    refine Grow.wp_region_lit (G := Ext) (B := fun w' => Ext w2 w' ∧ NumAt w' w.heap.size ⟨neg, l, x⟩) (anc := fun _ => []) (I := fun j => if j = 5 then some (Grow.Spec.val Ext (.string ⟨(zeros k).toArray⟩)) else none) (by kernel_rfl) (by kernel_rfl) (by kernel_rfl) ?_ ?_ ?_
    · exact fun w w' h hg => ⟨ext_trans h.1 hg, h.2.ext hg⟩
    · exact ⟨(ext_refl _).drew, (HM2.out).ext (ext_refl _).drew⟩
    repeat
      (refine Grow.walk_step (fun K hK => ?_)
       first
       | (refine Grow.step_read (by rfl) (by rfl) ext_refl ?_
          apply Exists.intro
          refine ⟨fun w hB hF => ?_, ?_⟩
          · obtain ⟨hB1, hB2⟩ := hB; obtain ⟨c0, c1, c2, f0, f1, f2, hp⟩ := hB2.cells; simp only at c0 c1 c2
            go_simp
            try exact rfl
          go_simp
          refine hK _ _ ?_
          clear hK K)
       | (refine Grow.step_off (by rfl) ?_
          go_simp
          refine hK _ _ ?_
          clear hK K))
    refine Grow.walk_step (fun K hK => ?_)
    refine Grow.step_rel (by rfl) (by rfl) (fun w' hB hF => ?_) (fun v hv => ?_)
    · obtain ⟨hB1, hB2⟩ := hB
      go_simp
      refine Grow.relUpon_enter ((repeat_any k hkb w').mono ?_)
      rintro e w'' ⟨rfl, hw''⟩
      exact ⟨_, rfl, hw'', rfl, trivial⟩
    obtain rfl : v = _ := hv
    go_simp
    refine hK _ _ ?_
    clear hK K
    repeat
      (refine Grow.walk_step (fun K hK => ?_)
       first
       | (refine Grow.step_read (by rfl) (by rfl) ext_refl ?_
          apply Exists.intro
          refine ⟨fun w hB hF => ?_, ?_⟩
          · obtain ⟨hB1, hB2⟩ := hB; obtain ⟨c0, c1, c2, f0, f1, f2, hp⟩ := hB2.cells; simp only at c0 c1 c2
            go_simp
            try exact rfl
          go_simp
          refine hK _ _ ?_
          clear hK K)
       | (refine Grow.step_off (by rfl) ?_
          go_simp
          refine hK _ _ ?_
          clear hK K))
    refine Grow.walk_nil ?_
    intro w3 hB hF
    clear hF
    go_wp2_with fail
    go_ret
    exact ⟨ret_str HF.out.symm, ext_trans hE2 hB.1⟩
  · have HW2 := Lib.hid (HW.out.trans (if_neg k1))
    by_cases k2 : 1 ≤ H ∧ H ≤ 21
    · have k3 : H < l.length := by omega
      obtain ⟨k, rfl⟩ : ∃ k : Nat, H = k := ⟨H.toNat, by omega⟩
      have HF : Hid (writtenP ⟨neg, l, x⟩ = l.take k ++ 46 :: l.drop k) := Lib.hid (by rw [HW2.out, if_pos k2]; rfl)
      have k4 : ¬ (l.length : Int) ≤ k := by omega
      obtain ⟨k2, k5⟩ := k2
      have hx1 := sx_take l k
      have hx2 := sx_drop l k l.length (Nat.le_refl _)
      have ha1 : (ByteArray.mk (l.take k).toArray) ++ ⟨#[46]⟩ = ⟨(l.take k ++ [46]).toArray⟩ := sx_app (l.take k) [46]
      have ha2 := sx_app (l.take k ++ [46]) (l.drop k)
      have HF2 : Hid (l.take k ++ [46] ++ l.drop k = writtenP ⟨neg, l, x⟩) := Lib.hid (by rw [HF.out]; simp)
      have b1 : (0 : Int) ≤ k := by omega
      have b2 : (k : Int) ≤ l.length := by omega
      have b3 : k ≤ l.length := by omega
      have hs1 : ¬ 9223372036854775807 < (l.take k).length + 1 := by simp; omega
      have hs2 : ¬ 9223372036854775807 < (l.take k ++ [46]).length + (l.drop k).length := by simp; omega
      generalize l.take k ++ [46] = A at *
      generalize l.take k = A1 at *
      generalize l.drop k = A2 at *
      clear HW HW2 HX k1 HF
      go_wp2_with fail
      go_quiet (fail)
      go_wp2_with fail
      go_ret
      exact ⟨ret_str HF2.out, below_drewN hE2 _⟩
    · have HW3 := Lib.hid (HW2.out.trans (if_neg k2))
      by_cases k3 : -5 ≤ H ∧ H < 1
      · obtain ⟨k, hk⟩ : ∃ k : Nat, -H = k := ⟨(-H).toNat, by omega⟩
        have HF : Hid (writtenP ⟨neg, l, x⟩ = [48, 46] ++ (zeros k) ++ l) := Lib.hid (by rw [HW3.out, if_pos k3, hk]; simp)
        have ha1 : (ByteArray.mk #[48, 46]) ++ ⟨(zeros k).toArray⟩ = ⟨([48, 46] ++ zeros k).toArray⟩ := sx_app [48, 46] (zeros k)
        have ha2 := sx_app ([48, 46] ++ zeros k) l
        obtain ⟨k4, k5⟩ := k3
        have k6 : ¬ (l.length : Int) ≤ H := by omega
        have k7 : ¬ 1 ≤ H := by omega
        have hkb : k ≤ 40 := by omega
        have hwk : IntKind.i64.wrap (k : Int) = k := IntWalk.i64_in _ (by omega)
        have hs1 : ¬ 9223372036854775807 < 2 + (zeros k).length := by rw [zeros_len]; omega
        have hs2 : ¬ 9223372036854775807 < ([48, 46] ++ zeros k).length + l.length := by rw [List.length_append, zeros_len]; simp; omega
        generalize [48, 46] ++ zeros k = Z at *
        clear HW HW2 HW3 HX k1 k2
        go_wp2_with fail
        refine Grow.wp_region_lit (G := Ext) (B := fun w' => Ext w2 w' ∧ NumAt w' w.heap.size ⟨neg, l, x⟩) (anc := fun _ => []) (I := fun j => if j = 2 then some (Grow.Spec.val Ext (.string ⟨(zeros k).toArray⟩)) else none) (by kernel_rfl) (by kernel_rfl) (by kernel_rfl) ?_ ?_ ?_
        · exact fun w w' h hg => ⟨ext_trans h.1 hg, h.2.ext hg⟩
        · exact ⟨(ext_refl _).drew, (HM2.out).ext (ext_refl _).drew⟩
        repeat
          (refine Grow.walk_step (fun K hK => ?_)
           first
           | (refine Grow.step_read (by rfl) (by rfl) ext_refl ?_
              apply Exists.intro
              refine ⟨fun w hB hF => ?_, ?_⟩
              · obtain ⟨hB1, hB2⟩ := hB; obtain ⟨c0, c1, c2, f0, f1, f2, hp⟩ := hB2.cells; simp only at c0 c1 c2
                go_simp
                try exact rfl
              go_simp
              refine hK _ _ ?_
              clear hK K)
           | (refine Grow.step_off (by rfl) ?_
              go_simp
              refine hK _ _ ?_
              clear hK K))
        refine Grow.walk_step (fun K hK => ?_)
        refine Grow.step_rel (by rfl) (by rfl) (fun w' hB hF => ?_) (fun v hv => ?_)
        · obtain ⟨hB1, hB2⟩ := hB
          go_simp
          refine Grow.relUpon_enter ((repeat_any k hkb w').mono ?_)
          rintro e w'' ⟨rfl, hw''⟩
          exact ⟨_, rfl, hw'', rfl, trivial⟩
        obtain rfl : v = _ := hv
        go_simp
        refine hK _ _ ?_
        clear hK K
        repeat
          (refine Grow.walk_step (fun K hK => ?_)
           first
           | (refine Grow.step_read (by rfl) (by rfl) ext_refl ?_
              apply Exists.intro
              refine ⟨fun w hB hF => ?_, ?_⟩
              · obtain ⟨hB1, hB2⟩ := hB; obtain ⟨c0, c1, c2, f0, f1, f2, hp⟩ := hB2.cells; simp only at c0 c1 c2
                go_simp
                try exact rfl
              go_simp
              refine hK _ _ ?_
              clear hK K)
           | (refine Grow.step_off (by rfl) ?_
              go_simp
              refine hK _ _ ?_
              clear hK K))
        refine Grow.walk_nil ?_
        intro w3 hB hF
        clear hF
        go_wp2_with fail
        go_ret
        exact ⟨ret_str HF.out.symm, ext_trans hE2 hB.1⟩
      · have HW4 := Lib.hid (HW3.out.trans (if_neg k3))
        have hx1 := sx_take l 1
        have hx2 := sx_drop l 1 l.length (Nat.le_refl _)
        have hl2 : (1 : Int) ≤ l.length := by omega
        obtain ⟨S1, hS1⟩ : ∃ S, l.take 1 ++ (if 1 < l.length then 46 :: l.drop 1 else []) = S := ⟨_, rfl⟩
        obtain ⟨S2, hS2⟩ : ∃ S : List UInt8, (if 0 < H then [101, 43] else [101]) = S := ⟨_, rfl⟩
        have HF : Hid (writtenP ⟨neg, l, x⟩ = S1 ++ S2 ++ itoaP (H - 1)) := Lib.hid (by rw [HW4.out, ← hS1, ← hS2]; simp)
        have HS1 := Lib.hid hS1
        have HS2 := Lib.hid hS2
        have hS1l : S1.length ≤ 42 := by rw [← hS1]; split <;> simp <;> omega
        have hS2l : S2.length ≤ 2 := by rw [← hS2]; split <;> simp
        have K1 := Lib.hid k1
        have K2 := Lib.hid k2
        have K3 := Lib.hid k3
        have g1 : decide ((l.length : Int) ≤ H) = true ∧ decide (H ≤ 21) = false ∨ decide ((l.length : Int) ≤ H) = false := by
          by_cases q : (l.length : Int) ≤ H
          · left; simp [q]; omega
          · right; simp; omega
        have g2 : decide (1 ≤ H) = true ∧ decide (H ≤ 21) = false ∨ decide (1 ≤ H) = false := by
          by_cases q : 1 ≤ H
          · left; simp [q]; omega
          · right; simp; omega
        clear hS1 hS2 HW HW2 HW3 HW4 k1 k2 k3
        have g3 : decide (-5 ≤ H) = true ∧ decide (H < 1) = false ∨ decide (-5 ≤ H) = false := by
          have := K3.out
          by_cases q : -5 ≤ H
          · left; simp [q]; omega
          · right; simp; omega
        go_upto_region 2 with fail
        go_cut [12] (fun s wx => s = .bool false ∧ w2 = wx)
        case first =>
          rcases g1 with ⟨q1, q2⟩ | q1
          all_goals
            go_wp2_with fail
            go_meet
            exact ⟨rfl, rfl⟩
        case rest =>
          obtain ⟨rfl, rfl⟩ := hcut
          go_upto_region 4 with fail
          go_cut [27] (fun s wx => s = .bool false ∧ w2 = wx)
          case first =>
            rcases g2 with ⟨q1, q2⟩ | q1
            all_goals
              go_wp2_with fail
              go_meet
              exact ⟨rfl, rfl⟩
          case rest =>
            obtain ⟨rfl, rfl⟩ := hcut
            go_upto_region 6 with fail
            go_cut [44] (fun s wx => s = .bool false ∧ w2 = wx)
            case first =>
              rcases g3 with ⟨q1, q2⟩ | q1
              all_goals
                go_wp2_with fail
                go_meet
                exact ⟨rfl, rfl⟩
            case rest =>
              obtain ⟨rfl, rfl⟩ := hcut
              clear g1 g2 g3
              go_upto_if 62 with fail
              go_cut [5] (fun s wx => s = .string ⟨S1.toArray⟩ ∧ w2 = wx)
              case first =>
                by_cases hn : 1 < l.length
                · have hd : (1 : Int) < l.length := by omega
                  have HS : Hid (l.take 1 ++ 46 :: l.drop 1 = S1) := Lib.hid (by rw [← HS1.out, if_pos hn])
                  have ha1 : (ByteArray.mk #[46]) ++ ⟨(l.drop 1).toArray⟩ = ⟨(46 :: l.drop 1).toArray⟩ := sx_app [46] (l.drop 1)
                  have ha2 := sx_app (l.take 1) (46 :: l.drop 1)
                  rw [HS.out] at ha2
                  have hs1 : ¬ 9223372036854775807 < 1 + (l.drop 1).length := by simp; omega
                  have hs2 : ¬ 9223372036854775807 < (l.take 1).length + (46 :: l.drop 1).length := by simp; omega
                  clear hn
                  generalize 46 :: l.drop 1 = A1 at *
                  generalize l.take 1 = A2 at *
                  generalize l.drop 1 = A3 at *
                  go_wp2_with fail
                  go_meet
                  exact ⟨rfl, rfl⟩
                · have hd : ¬ (1 : Int) < l.length := by omega
                  have HS : Hid (l.take 1 = S1) := Lib.hid (by rw [← HS1.out, if_neg hn]; simp)
                  clear hn
                  go_wp2_with fail
                  go_meet
                  exact ⟨by rw [HS.out], rfl⟩
              case rest =>
                obtain ⟨rfl, rfl⟩ := hcut
                clear hx1 hx2
                go_upto_if 70 with fail
                go_cut [6] (fun s wx => s = .string ⟨S2.toArray⟩ ∧ w2 = wx)
                case first =>
                  by_cases hn : 0 < H
                  · have HS : Hid ([101, 43] = S2) := Lib.hid (by rw [← HS2.out, if_pos hn])
                    go_wp2_with fail
                    go_meet
                    exact ⟨by rw [← HS.out], rfl⟩
                  · have HS : Hid ([101] = S2) := Lib.hid (by rw [← HS2.out, if_neg hn])
                    go_wp2_with fail
                    go_meet
                    exact ⟨by rw [← HS.out], rfl⟩
                case rest =>
                  obtain ⟨rfl, rfl⟩ := hcut
                  have ha1 := sx_app S1 S2
                  have ha2 := sx_app (S1 ++ S2) (itoaP (H - 1))
                  have hil : (itoaP (H - 1)).length ≤ 10 := by
                    have hl1 := decD_len 4 (H - 1).toNat (by omega) (by omega)
                    have hl2 := decD_len 4 (H - 1).natAbs (by omega) (by omega)
                    unfold itoaP; split
                    · rw [List.length_cons]; omega
                    · omega
                  go_wp2_with fail
                  refine (itoa_any (H - 1) _ (hT.ext hE2) (by omega) (by omega)).mono ?_
                  rintro e w3 ⟨rfl, hw3⟩
                  have hs1 : ¬ 9223372036854775807 < (S1 ++ S2).length + (itoaP (H - 1)).length := by rw [List.length_append]; omega
                  generalize itoaP (H - 1) = I at *
                  generalize hAB : S1 ++ S2 = AB at *
                  have HAB := Lib.hid hAB
                  clear hAB
                  go_wp2_with fail
                  go_ret
                  exact ⟨ret_str HF.out.symm, ext_trans hE2 hw3⟩
theorem print_any (d : Num) (w : World) (hT : Tab w) (hl : d.digits.length ≤ 140737488355328) :
    Calls Tryz.prog 114 #[.agg #[.bool d.neg, .string ⟨d.digits.toArray⟩, .int .i64 d.exp]] w fun e w' => e = .returned (.string ⟨(printP d).toArray⟩) ∧ Ext w w' := by
  have hm1 := NumAt.new w d
  have hE1 : Ext w (w.alloc (.cells #[.bool d.neg, .string ⟨d.digits.toArray⟩, .int .i64 d.exp] 23)) := (ext_refl w).alloc (Nat.le_refl _) _
  go_enter Tryz.func114, Tryz.ntmps114
  go_wp2_with fail
  generalize w.alloc (.cells #[.bool d.neg, .string ⟨d.digits.toArray⟩, .int .i64 d.exp] 23) = w1 at *
  refine (sane_any d _ hl).mono ?_
  rintro e w2 ⟨rfl, hw2⟩
  have hE2 := ext_trans hE1 hw2
  have HM2 := Lib.hid (hm1.ext hw2)
  obtain ⟨c0, c1, c2, f0, f1, f2, hp⟩ := HM2.out.cells
  have hP : printP d = if sane d = true then (if d.digits = [] then [48] else if d.neg then 45 :: writtenP d else writtenP d) else [] := rfl
  have HP := Lib.hid hP
  clear hP hm1 hw2 hE1
  cases hs : sane d with
  | false =>
    have HF : Hid (printP d = []) := Lib.hid (by rw [HP.out, if_neg (by rw [hs]; decide)])
    go_wp2_with fail
    go_ret
    exact ⟨ret_str HF.out.symm, hE2⟩
  | true =>
    have HP2 := Lib.hid (HP.out.trans (if_pos hs))
    clear HP
    by_cases h0 : d.digits = []
    · have HF : Hid (printP d = [48]) := Lib.hid (by rw [HP2.out, if_pos h0])
      rw [h0] at c1
      go_wp2_with fail
      go_ret
      exact ⟨ret_str HF.out.symm, hE2⟩
    · have HP3 := Lib.hid (HP2.out.trans (if_neg h0))
      have H0 := Lib.hid h0
      have HS := Lib.hid hs
      have hem : d.digits.isEmpty = false := by simpa using h0
      have HWL := (written_back hs h0).2.1
      clear HP2 h0 hs
      cases hn : d.neg with
      | true =>
        rw [hn] at c0
        have HF : Hid (printP d = 45 :: writtenP d) := Lib.hid (by rw [HP3.out, hn]; rfl)
        go_wp2_with fail
        have hw := written_any d w2 (hT.ext hE2) HS.out H0.out
        rw [hn] at hw
        refine hw.mono ?_
        rintro e w3 ⟨rfl, hw3⟩
        have ha1 : (ByteArray.mk #[45]) ++ ⟨(writtenP d).toArray⟩ = ⟨(45 :: writtenP d).toArray⟩ := sx_app [45] (writtenP d)
        have hs1 : ¬ 9223372036854775807 < 1 + (writtenP d).length := by omega
        generalize writtenP d = W at *
        generalize hZ : 45 :: W = Z at *
        have HZ := Lib.hid hZ
        clear hZ
        go_wp2_with fail
        go_ret
        exact ⟨ret_str HF.out.symm, ext_trans hE2 hw3⟩
      | false =>
        rw [hn] at c0
        have HF : Hid (printP d = writtenP d) := Lib.hid (by rw [HP3.out, hn]; rfl)
        go_wp2_with fail
        have hw := written_any d w2 (hT.ext hE2) HS.out H0.out
        rw [hn] at hw
        refine hw.mono ?_
        rintro e w3 ⟨rfl, hw3⟩
        go_wp2_with fail
        go_ret
        exact ⟨ret_str HF.out.symm, ext_trans hE2 hw3⟩
end Go.Proofs.YtjapbjmeoaagmaaGreatDoor
end

section
set_option linter.unusedVariables false
set_option linter.unusedSimpArgs false
set_option maxRecDepth 100000
namespace Go.Proofs.YtjapbjmeoaagmaaGreatDoor
open Go.RowKit Go.Mem Orange
def ValOk (by' : Int) (w0 : World) (b : Nat) (t : Tree) : Prop :=
  ∀ (c : Array Value) (A : Nat → Prop) (k : Nat) (l : List UInt8) (o : Option Nat) (w : World), TV w A t c → (∀ g, A g → g ≠ b ∧ o ≠ some g) → Wr w b by' k l o → OkT k t → weightT t ≤ 1000000 → Ext w0 w → l.length + (outT by' k t).length ≤ 140737488355328 →
    Calls Tryz.prog 92 #[.pointer (some ⟨b, 0, none⟩), .agg c] w (fun e w' => e = .returned (.tuple #[]) ∧ ∃ o', Wr w' b by' k (l ++ outT by' k t) o' ∧ KB b o o' w w')
theorem KB.tv {b : Nat} {o o' : Option Nat} {w w' : World} {A : Nat → Prop} {t : Tree} {c : Array Value} (h : KB b o o' w w') (hA : ∀ g, A g → g ≠ b ∧ o ≠ some g) (ht : TV w A t c) : TV w' (fun g => A g ∧ g < w.heap.size) t c ∧ ∀ g, A g ∧ g < w.heap.size → g ≠ b ∧ o' ≠ some g :=
  ⟨ht.keep h.size (fun g hg hlt => ⟨⟨hg, hlt⟩, h.block g hlt (hA g hg).1 (hA g hg).2⟩), fun g hg => ⟨(hA g hg.1).1, fun e => by
    rcases h.new g e with h' | h'
    · exact (hA g hg.1).2 h'
    · omega⟩⟩
abbrev PBox (w : World) (p b : Nat) : Prop := w.heap[p]? = some (.cells #[.pointer (some ⟨b, 0, none⟩)] 107 (0, 0))
set_option maxHeartbeats 3200000 in
theorem item1_any (by' : Int) (w0 : World) (b p1 p2 k : Nat) (l : List Tree) (cs : List Value) (A : Nat → Prop) (v0 v1 v2 v3 v4 v5 v7 : Value) (a : Option Addr) (cap i : Nat) (l1 : List UInt8) (o : Option Nat) (w : World)
    (hv : ∀ x ∈ l, ValOk by' w0 b x) (hp : PBox w p1 b) (hq : VAt w p2 #[v0, v1, v2, v3, v4, v5, .slice a l.length cap, v7]) (hr : RowAt w A 8 (.slice a l.length cap) l.length cs) (ht : TL w A l cs) (hA : ∀ g, A g → g ≠ b ∧ o ≠ some g)
    (hW : Wr w b by' k l1 o) (hok : ∀ x ∈ l, OkT k x) (hwt : ∀ x ∈ l, weightT x ≤ 1000000) (hx : Ext w0 w) (hi : i < l.length) (hl : l1.length + ((l[i]?).elim [] (outT by' k)).length ≤ 140737488355328) :
    Calls Tryz.prog 116 #[.int .i64 i, .pointer (some ⟨p1, 0, none⟩), .pointer (some ⟨p2, 0, none⟩)] w (fun e w' => e = .returned (.tuple #[]) ∧ ∃ o', Wr w' b by' k (l1 ++ (l[i]?).elim [] (outT by' k)) o' ∧ KB b o o' w w') := by
  have he : (l[i]?).elim [] (outT by' k) = outT by' k l[i] := by rw [List.getElem?_eq_getElem hi]; rfl
  rw [he] at hl ⊢
  obtain ⟨g, ofs, xk, xb, xd, xs, xa1, xn1, xc1, xa2, xn2, xc2, rfl, htx, hcell⟩ := row_elem hr ht rfl i hi
  have HC : Hid (∀ w', Ext w w' → Calls Tryz.prog 92 #[.pointer (some ⟨b, 0, none⟩), .agg (cellsV xk xb xd xs (.slice xa1 xn1 xc1) (.slice xa2 xn2 xc2))] w' (fun e w'' => e = .returned (.tuple #[]) ∧ ∃ o', Wr w'' b by' k (l1 ++ outT by' k l[i]) o' ∧ KB b o o' w' w'')) := Lib.hid (fun w' hw =>
    hv _ (List.getElem_mem hi) _ A k l1 o w' (htx.keep hw.size (fun g hg hlt => ⟨hg, hw.block g hlt⟩)) hA (hW.ext hw) (hok _ (List.getElem_mem hi)) (hwt _ (List.getElem_mem hi)) (ext_trans hx hw) hl)
  have HCELL : Hid (∀ w', Ext w w' → _) := Lib.hid (fun w' hw => hcell w' (fun g hg hlt => hw.block g hlt))
  have HP := Lib.hid hp
  have HQ := Lib.hid hq
  have hi1 : (i : Int) < l.length := by omega
  have hi0 : (0 : Int) ≤ i := by omega
  clear hcell htx hv hp hq hr ht hok hwt hx hW he hl hA
  simp only [cellsV] at HC
  go_enter Tryz.func116, Tryz.ntmps116
  go_upto_region 0 with fail
  refine GrowS.wp_region_restW (G0 := Ext) (G1 := fun w1 w' => ∃ o', Wr w' b by' k (l1 ++ outT by' k l[i]) o' ∧ KB b o o' w1 w') (B0 := fun w' => Ext w w') (B1 := fun w' => ∃ o', Wr w' b by' k (l1 ++ outT by' k l[i]) o' ∧ KB b o o' w w') (E := fun _ _ => False) (anc := fun j => []) (I := fun j => if j = 6 then some (GrowS.Spec.val _ (.tuple #[])) else none) 6 7 (fun j => ([[], [], [1], [], [1, 2, 3], [1, 2, 3, 4], [0, 1, 2, 3, 4, 5]] : List (List Nat)).getD j []) (Array.replicate 7 true) (by kernel_rfl) (by kernel_rfl) (by kernel_rfl) (by kernel_rfl) (by kernel_rfl) (by kernel_rfl) ?_ ?_ ?_ ?_ ?_ ?_
  · exact fun w w' h hg => ext_trans h hg
  · rintro w1 w' ⟨o1, h, hk⟩ hg; exact ⟨o1, h.ext hg, hk.ext hg⟩
  · rintro w1 w' h ⟨o1, hg, hk⟩; exact ⟨o1, hg, (KB.ofExt h).trans hk⟩
  · exact fun _ _ _ _ h => h.elim
  · exact (ext_refl _).drew
  simp only [List.take_succ_cons, List.take_zero, List.drop_succ_cons, List.drop_zero]
  repeat
    (refine GrowS.Wk.step (fun K hK => ?_)
     first
     | (refine GrowS.step_read (by rfl) (by rfl) (fun w => ext_refl w) ?_
        apply Exists.intro
        refine ⟨fun w hB hF => ?_, ?_⟩
        · replace hB : Ext _ w := hB; have p0 : w.cell? ⟨p1, 0, none⟩ = some (.pointer (some ⟨b, 0, none⟩)) := (by rw [hB.cell (p := ⟨p1, 0, none⟩) (lt_of_block HP.out), cell_of_cells HP.out]; rfl); have q6 := (HQ.out.ext hB).cell 6; simp at q6; obtain ⟨x0, x1, x2, x3, x4, x5, x6, x7⟩ := HCELL.out w hB
          go_simp
          try exact rfl
        go_simp
        refine hK _ _ ?_
        clear hK K)
     | (refine GrowS.step_off (by rfl) ?_
        go_simp
        refine hK _ _ ?_
        clear hK K))
  refine GrowS.Wk.step (fun K hK => ?_)
  refine GrowS.step_rel (by rfl) (by rfl) (fun w' hB hF => ?_) (fun v hv => ?_)
  · replace hB : Ext w w' := hB
    go_simp
    refine GrowS.relUpon_enter ((HC.out w' hB).mono ?_)
    rintro e w'' ⟨rfl, o2, h2, k2⟩
    exact .inl ⟨_, rfl, ⟨o2, h2, k2⟩, rfl, trivial⟩
  obtain rfl : v = .tuple #[] := hv
  go_simp
  refine hK _ _ ?_
  clear hK K
  refine GrowS.Wk.nil ?_
  intro w4 hB hF
  show wpAny _ _ _ _ 0 _ _ _
  refine ⟨by decide +kernel, ?_⟩
  obtain ⟨o4, h4, k4⟩ := hB
  clear hF
  go_wp2_with fail
  go_end0
  exact ⟨rfl, o4, h4, k4⟩
set_option maxHeartbeats 3200000 in
theorem member_any (by' : Int) (w0 : World) (b k : Nat) (key : List UInt8) (t : Tree) (c : Array Value) (A : Nat → Prop) (l : List UInt8) (o : Option Nat) (w : World) (hv : ValOk by' w0 b t) (h0 : -1 ≤ by') (h : TV w A t c) (hA : ∀ g, A g → g ≠ b ∧ o ≠ some g)
    (hW : Wr w b by' k l o) (hok : OkT k t) (hwt : weightT t ≤ 1000000) (hkl : key.length ≤ 1000000) (hx : Ext w0 w) (hb0 : w0.heap.size ≤ b) (hl : l.length + (quote key).length + 1 + (blankP by').length + (outT by' k t).length ≤ 140737488355328) :
    Calls Tryz.prog 118 #[.pointer (some ⟨b, 0, none⟩), .agg (.string ⟨key.toArray⟩ :: c.toList).toArray] w (fun e w' => e = .returned (.tuple #[]) ∧ ∃ o', Wr w' b by' k (l ++ (quote key ++ (58 :: (blankP by' ++ outT by' k t)))) o' ∧ KB b o o' w w') := by
  have hT := bldT_writer
  obtain ⟨kk, bb, d, ss, a1, n1, e1, a2, n2, e2, rfl⟩ := h.eight
  obtain ⟨wA, ewA⟩ : ∃ W, w.alloc (.cells #[.string ⟨key.toArray⟩, .int .i64 kk, .bool bb, .bool d.neg, .string ⟨d.digits.toArray⟩, .int .i64 d.exp, .string ⟨ss.toArray⟩, .slice a1 n1 e1, .slice a2 n2 e2] 43) = W := ⟨_, rfl⟩
  have nwA : wA.heap[w.heap.size]? = some (.cells #[.string ⟨key.toArray⟩, .int .i64 kk, .bool bb, .bool d.neg, .string ⟨d.digits.toArray⟩, .int .i64 d.exp, .string ⟨ss.toArray⟩, .slice a1 n1 e1, .slice a2 n2 e2] 43) := by rw [← ewA]; exact heap_alloc_new _ _
  have xwA : Ext w wA := by rw [← ewA]; exact (ext_refl _).alloc (Nat.le_refl _) _
  have swA : wA.heap.size = w.heap.size + 1 := by rw [← ewA]; simp
  have HV := Lib.hid hv
  have HTV := Lib.hid (h.keep (w' := wA) (A' := fun g => A g ∧ g < w.heap.size) xwA.size (fun g hg hlt => ⟨⟨hg, hlt⟩, xwA.block g hlt⟩))
  have HA := Lib.hid hA
  have HW := Lib.hid (hW.ext xwA)
  have HOK := Lib.hid hok
  have HX := Lib.hid (ext_trans hx xwA)
  have HXA := Lib.hid xwA
  have HN := Lib.hid nwA
  have HO := Lib.hid hW.own
  have hbS := hW.lt
  have hq47 : (quote key).length ≤ 140737488355328 := by omega
  obtain ⟨N, hN⟩ : ∃ N, (quote key ++ [58]).length = N := ⟨_, rfl⟩
  have HNN := Lib.hid hN
  clear hN
  have HQ1 : Hid (l.length + (quote key ++ [58]).length ≤ 140737488355328) := Lib.hid (by simp; omega)
  clear hv h hA hok hx xwA nwA hW
  have EA := Lib.hid ewA
  clear ewA swA
  simp only [cellsV]
  go_enter Tryz.func118, Tryz.ntmps118
  go_upto_region 1 with fail
  rw [EA.out]
  obtain ⟨S, hS⟩ : ∃ S, w.heap.size = S := ⟨_, rfl⟩
  rw [hS] at HTV HN hbS HO ⊢
  have HS := Lib.hid hS
  clear hS EA
  have hq1 : ¬ 9223372036854775807 < (quote key).length + 1 := by omega
  refine GrowS.wp_region_restW (G0 := Ext) (G1 := fun w1 w' => ∃ o', Wr w' b by' k (l ++ (quote key ++ [58])) o' ∧ KB b o o' w1 w') (B0 := fun w' => Ext wA w') (B1 := fun w' => ∃ o', Wr w' b by' k (l ++ (quote key ++ [58])) o' ∧ KB b o o' wA w') (E := fun _ _ => False) (anc := fun j => []) (I := fun j => if j = 5 then some (GrowS.Spec.val _ (.string ⟨(quote key).toArray⟩)) else if j = 7 then some (GrowS.Spec.val _ (.tuple #[.int .i64 N, .nilIface])) else none) 7 8 (fun j => ([[], [0], [0, 1], [], [3], [3, 4], [3, 4, 5], [0, 1, 2, 3, 4, 5, 6]] : List (List Nat)).getD j []) (Array.replicate 8 true) (by kernel_rfl) (by kernel_rfl) (by kernel_rfl) (by kernel_rfl) (by kernel_rfl) (by kernel_rfl) ?_ ?_ ?_ ?_ ?_ ?_
  · exact fun w w' h hg => ext_trans h hg
  · rintro w1 w' ⟨o1, h, hk⟩ hg; exact ⟨o1, h.ext hg, hk.ext hg⟩
  · rintro w1 w' h ⟨o1, hg, hk⟩; exact ⟨o1, hg, (KB.ofExt h).trans hk⟩
  · exact fun _ _ _ _ h => h.elim
  · exact (ext_refl _).drew
  simp only [List.take_succ_cons, List.take_zero, List.drop_succ_cons, List.drop_zero]
  repeat
    (refine GrowS.Wk.step (fun K hK => ?_)
     first
     | (refine GrowS.step_read (by rfl) (by rfl) (fun w => ext_refl w) ?_
        apply Exists.intro
        refine ⟨fun w hB hF => ?_, ?_⟩
        · replace hB : Ext _ w := hB; have n0 : w.cell? ⟨S, 0, none⟩ = some (.string ⟨key.toArray⟩) := (by rw [hB.cell (p := ⟨S, 0, none⟩) (lt_of_block HN.out), cell_of_cells HN.out]; rfl)
          go_simp
          try exact rfl
        go_simp
        refine hK _ _ ?_
        clear hK K)
     | (refine GrowS.step_off (by rfl) ?_
        go_simp
        refine hK _ _ ?_
        clear hK K))
  refine GrowS.Wk.step (fun K hK => ?_)
  refine GrowS.step_rel (by rfl) (by rfl) (fun w' hB hF => ?_) (fun v hv => ?_)
  · replace hB : Ext wA w' := hB
    go_simp
    refine GrowS.relUpon_enter ((quote_any ⟨key.toArray⟩ w' (by simp [ByteArray.size]; omega)).mono ?_)
    rintro e w'' ⟨rfl, hw''⟩
    exact .inl ⟨_, rfl, hw'', rfl, trivial⟩
  obtain rfl : v = (.string ⟨(quote key).toArray⟩) := hv
  go_simp
  refine hK _ _ ?_
  clear hK K
  repeat
    (refine GrowS.Wk.step (fun K hK => ?_)
     first
     | (refine GrowS.step_read (by rfl) (by rfl) (fun w => ext_refl w) ?_
        apply Exists.intro
        refine ⟨fun w hB hF => ?_, ?_⟩
        · skip
          go_simp
          try exact rfl
        go_simp
        refine hK _ _ ?_
        clear hK K)
     | (refine GrowS.step_off (by rfl) ?_
        go_simp
        refine hK _ _ ?_
        clear hK K))
  refine GrowS.Wk.step (fun K hK => ?_)
  refine GrowS.step_rel (by rfl) (by rfl) (fun w' hB hF => ?_) (fun v hv => ?_)
  · replace hB : Ext wA w' := hB
    go_simp
    refine GrowS.relUpon_enter (((wStr b _ _ _ o (quote key ++ [58]) w' hT (HW.out.ext hB) HQ1.out).mono (by rw [HNN.out]; exact fun _ _ h => h)).mono ?_)
    rintro e w'' ⟨rfl, o2, h2, k2⟩
    exact .inl ⟨_, rfl, ⟨o2, h2, k2⟩, rfl, trivial⟩
  obtain rfl : v = (.tuple #[.int .i64 N, .nilIface]) := hv
  go_simp
  refine hK _ _ ?_
  clear hK K
  refine GrowS.Wk.nil ?_
  intro w4 hB hF
  show wpAny _ _ _ _ 0 _ _ _
  refine ⟨by decide +kernel, ?_⟩
  obtain ⟨o4, h4, k4⟩ := hB
  clear hF
  have HW4 := Lib.hid h4
  have HK4 := Lib.hid ((KB.ofExt (b := b) (o := o) HXA.out).trans k4)
  have c2 : w4.cell? ⟨b, 2, none⟩ = some (.int .i64 by') := h4.cell 0
  obtain ⟨htv4, hA4⟩ := k4.tv (A := fun g => A g ∧ g < S) (fun g hg => HA.out g hg.1) HTV.out
  have hx4 : Ext w0 w4 := HX.out.trans (k4.below HX.out.size hb0 (fun g e => by have := (HO.out g e).1; omega))
  have m4 : w4.heap[S]? = wA.heap[S]? := k4.block S (lt_of_block HN.out) (by omega) (fun e => by have := (HO.out S e).2; omega)
  have hnn : HNN.out = HNN.out := rfl
  have HM : Hid (w4.heap[S]? = some (.cells #[.string ⟨key.toArray⟩, .int .i64 kk, .bool bb, .bool d.neg, .string ⟨d.digits.toArray⟩, .int .i64 d.exp, .string ⟨ss.toArray⟩, .slice a1 n1 e1, .slice a2 n2 e2] 43 (0, 0))) := Lib.hid (m4.trans HN.out)
  have HO4 : Hid (o4 ≠ some S) := Lib.hid (fun e => by
    rcases k4.new S e with h' | h'
    · have := (HO.out S h').2; omega
    · have := lt_of_block HN.out; omega)
  have HTV4 := Lib.hid htv4
  have HA4 := Lib.hid hA4
  have HX4 := Lib.hid hx4
  clear hnn m4 htv4 hA4 hx4 h4 k4 HW HTV HN HA HX HXA HO hq1
  by_cases hb : by' = -1
  · subst hb
    have cell : ∀ i, w4.cell? ⟨S, i, none⟩ = (#[Value.string ⟨key.toArray⟩, .int .i64 kk, .bool bb, .bool d.neg, .string ⟨d.digits.toArray⟩, .int .i64 d.exp, .string ⟨ss.toArray⟩, .slice a1 n1 e1, .slice a2 n2 e2] : Array Value)[i]? := fun i => cell_of_cells HM.out
    have m1 := cell 1; have m2 := cell 2; have m3 := cell 3; have m4 := cell 4; have m5 := cell 5; have m6 := cell 6; have m7 := cell 7; have m8 := cell 8
    simp at m1 m2 m3 m4 m5 m6 m7 m8
    clear cell
    go_wp2_with fail
    refine (HV.out (cellsV kk bb d ss (.slice a1 n1 e1) (.slice a2 n2 e2)) _ k _ o4 w4 HTV4.out HA4.out HW4.out HOK.out hwt HX4.out (by simp; omega)).mono ?_
    rintro e w5 ⟨rfl, o5, h5, k5⟩
    go_wp2_with fail
    go_end0
    refine ⟨rfl, o5, ?_, HK4.out.trans k5⟩
    rw [blankP_flat]
    simpa using h5
  · have q : (by' != -1) = true := by simpa using hb
    have hbl : blankP by' = [32] := by unfold blankP; rw [if_neg (by omega)]
    rw [hbl] at hl
    simp only [List.length_cons, List.length_nil] at hl
    have hlq : (quote key ++ [58]).length = (quote key).length + 1 := by simp
    go_wp2_with fail
    refine (wByte b _ _ _ o4 32 32 _ rfl hT HW4.out (by simp; omega)).mono ?_
    rintro e w5 ⟨rfl, o5, h5, k5⟩
    have m5 : w5.heap[S]? = w4.heap[S]? := k5.block S (lt_of_block HM.out) (by omega) HO4.out
    have cell : ∀ i, w5.cell? ⟨S, i, none⟩ = (#[Value.string ⟨key.toArray⟩, .int .i64 kk, .bool bb, .bool d.neg, .string ⟨d.digits.toArray⟩, .int .i64 d.exp, .string ⟨ss.toArray⟩, .slice a1 n1 e1, .slice a2 n2 e2] : Array Value)[i]? := fun i => cell_of_cells (m5.trans HM.out)
    obtain ⟨htv5, hA5⟩ := k5.tv (A := _) (fun g hg => HA4.out g hg) HTV4.out
    have hx5 : Ext w0 w5 := HX4.out.trans (k5.below HX4.out.size hb0 (fun g e => by have := (HW4.out.own g e).1; omega))
    have HW5 := Lib.hid h5
    have HK5 := Lib.hid (HK4.out.trans k5)
    have HTV5 := Lib.hid htv5
    have HA5 := Lib.hid hA5
    have HX5 := Lib.hid hx5
    clear m5 htv5 hA5 hx5 h5 k5
    have m1 := cell 1; have m2 := cell 2; have m3 := cell 3; have m4 := cell 4; have m5 := cell 5; have m6 := cell 6; have m7 := cell 7; have m8 := cell 8
    simp at m1 m2 m3 m4 m5 m6 m7 m8
    clear cell
    go_wp2_with fail
    refine (HV.out (cellsV kk bb d ss (.slice a1 n1 e1) (.slice a2 n2 e2)) _ k _ o5 w5 HTV5.out HA5.out HW5.out HOK.out hwt HX5.out (by simp; omega)).mono ?_
    rintro e w6 ⟨rfl, o6, h6, k6⟩
    go_wp2_with fail
    go_end0
    refine ⟨rfl, o6, ?_, HK5.out.trans k6⟩
    rw [hbl]
    simpa using h6
end Go.Proofs.YtjapbjmeoaagmaaGreatDoor
end

section
set_option linter.unusedVariables false
set_option linter.unusedSimpArgs false
set_option maxRecDepth 100000
namespace Go.Proofs.YtjapbjmeoaagmaaGreatDoor
open Go.RowKit Go.Mem Orange
set_option maxHeartbeats 3200000 in
theorem item2_any (by' : Int) (w0 : World) (b p1 p2 k : Nat) (l : List Mem1) (cs : List Value) (A : Nat → Prop) (v0 v1 v2 v3 v4 v5 v6 : Value) (a : Option Addr) (cap i : Nat) (l1 : List UInt8) (o : Option Nat) (w : World)
    (hv : ∀ x ∈ l, ValOk by' w0 b x.2) (h0 : -1 ≤ by') (hp : PBox w p1 b) (hq : VAt w p2 #[v0, v1, v2, v3, v4, v5, v6, .slice a l.length cap]) (hr : RowAt w A 9 (.slice a l.length cap) l.length cs) (ht : TM w A l cs) (hA : ∀ g, A g → g ≠ b ∧ o ≠ some g)
    (hW : Wr w b by' k l1 o) (hok : ∀ x ∈ l, OkT k x.2) (hwt : ∀ x ∈ l, weightT x.2 ≤ 1000000 ∧ x.1.length ≤ 1000000) (hx : Ext w0 w) (hb0 : w0.heap.size ≤ b) (hi : i < l.length) (hl : l1.length + ((l[i]?).elim [] (fun p => quote p.1 ++ (58 :: (blankP by' ++ outT by' k p.2)))).length ≤ 140737488355328) :
    Calls Tryz.prog 117 #[.int .i64 i, .pointer (some ⟨p1, 0, none⟩), .pointer (some ⟨p2, 0, none⟩)] w (fun e w' => e = .returned (.tuple #[]) ∧ ∃ o', Wr w' b by' k (l1 ++ (l[i]?).elim [] (fun p => quote p.1 ++ (58 :: (blankP by' ++ outT by' k p.2)))) o' ∧ KB b o o' w w') := by
  have he : (l[i]?).elim [] (fun p => quote p.1 ++ (58 :: (blankP by' ++ outT by' k p.2))) = quote l[i].1 ++ (58 :: (blankP by' ++ outT by' k l[i].2)) := by rw [List.getElem?_eq_getElem hi]; rfl
  rw [he] at hl ⊢
  obtain ⟨g, ofs, xk, xb, xd, xs, xa1, xn1, xc1, xa2, xn2, xc2, rfl, htx, hcell⟩ := mem_elem hr ht rfl i hi
  have HC : Hid (∀ w', Ext w w' → Calls Tryz.prog 118 #[.pointer (some ⟨b, 0, none⟩), .agg (.string ⟨l[i].1.toArray⟩ :: (cellsV xk xb xd xs (.slice xa1 xn1 xc1) (.slice xa2 xn2 xc2)).toList).toArray] w' (fun e w'' => e = .returned (.tuple #[]) ∧ ∃ o', Wr w'' b by' k (l1 ++ (quote l[i].1 ++ (58 :: (blankP by' ++ outT by' k l[i].2)))) o' ∧ KB b o o' w' w'')) := Lib.hid (fun w' hw =>
    member_any by' w0 b k l[i].1 l[i].2 _ A l1 o w' (hv _ (List.getElem_mem hi)) h0 (htx.keep hw.size (fun g hg hlt => ⟨hg, hw.block g hlt⟩)) hA (hW.ext hw) (hok _ (List.getElem_mem hi)) (hwt _ (List.getElem_mem hi)).1 (hwt _ (List.getElem_mem hi)).2 (ext_trans hx hw) hb0 (by simp at hl; omega))
  have HCELL : Hid (∀ w', Ext w w' → _) := Lib.hid (fun w' hw => hcell w' (fun g hg hlt => hw.block g hlt))
  have HP := Lib.hid hp
  have HQ := Lib.hid hq
  have hi1 : (i : Int) < l.length := by omega
  have hi0 : (0 : Int) ≤ i := by omega
  obtain ⟨R, hR⟩ : ∃ R, quote l[i].1 ++ (58 :: (blankP by' ++ outT by' k l[i].2)) = R := ⟨_, rfl⟩
  rw [hR] at HC ⊢
  generalize l[i].1 = key at HC HCELL
  clear hcell htx hv hp hq hr ht hok hwt hx hW he hl hA hR
  simp only [cellsV] at HC
  go_enter Tryz.func117, Tryz.ntmps117
  go_upto_region 0 with fail
  refine GrowS.wp_region_restW (G0 := Ext) (G1 := fun w1 w' => ∃ o', Wr w' b by' k (l1 ++ R) o' ∧ KB b o o' w1 w') (B0 := fun w' => Ext w w') (B1 := fun w' => ∃ o', Wr w' b by' k (l1 ++ R) o' ∧ KB b o o' w w') (E := fun _ _ => False) (anc := fun j => []) (I := fun j => if j = 6 then some (GrowS.Spec.val _ (.tuple #[])) else none) 6 7 (fun j => ([[], [], [1], [], [1, 2, 3], [1, 2, 3, 4], [0, 1, 2, 3, 4, 5]] : List (List Nat)).getD j []) (Array.replicate 7 true) (by kernel_rfl) (by kernel_rfl) (by kernel_rfl) (by kernel_rfl) (by kernel_rfl) (by kernel_rfl) ?_ ?_ ?_ ?_ ?_ ?_
  · exact fun w w' h hg => ext_trans h hg
  · rintro w1 w' ⟨o1, h, hk⟩ hg; exact ⟨o1, h.ext hg, hk.ext hg⟩
  · rintro w1 w' h ⟨o1, hg, hk⟩; exact ⟨o1, hg, (KB.ofExt h).trans hk⟩
  · exact fun _ _ _ _ h => h.elim
  · exact (ext_refl _).drew
  simp only [List.take_succ_cons, List.take_zero, List.drop_succ_cons, List.drop_zero]
  repeat
    (refine GrowS.Wk.step (fun K hK => ?_)
     first
     | (refine GrowS.step_read (by rfl) (by rfl) (fun w => ext_refl w) ?_
        apply Exists.intro
        refine ⟨fun w hB hF => ?_, ?_⟩
        · replace hB : Ext _ w := hB; have p0 : w.cell? ⟨p1, 0, none⟩ = some (.pointer (some ⟨b, 0, none⟩)) := (by rw [hB.cell (p := ⟨p1, 0, none⟩) (lt_of_block HP.out), cell_of_cells HP.out]; rfl); have q7 := (HQ.out.ext hB).cell 7; simp at q7; obtain ⟨x0, x1, x2, x3, x4, x5, x6, x7, x8⟩ := HCELL.out w hB
          go_simp
          try exact rfl
        go_simp
        refine hK _ _ ?_
        clear hK K)
     | (refine GrowS.step_off (by rfl) ?_
        go_simp
        refine hK _ _ ?_
        clear hK K))
  refine GrowS.Wk.step (fun K hK => ?_)
  refine GrowS.step_rel (by rfl) (by rfl) (fun w' hB hF => ?_) (fun v hv => ?_)
  · replace hB : Ext w w' := hB
    go_simp
    refine GrowS.relUpon_enter ((HC.out w' hB).mono ?_)
    rintro e w'' ⟨rfl, o2, h2, k2⟩
    exact .inl ⟨_, rfl, ⟨o2, h2, k2⟩, rfl, trivial⟩
  obtain rfl : v = .tuple #[] := hv
  go_simp
  refine hK _ _ ?_
  clear hK K
  refine GrowS.Wk.nil ?_
  intro w4 hB hF
  show wpAny _ _ _ _ 0 _ _ _
  refine ⟨by decide +kernel, ?_⟩
  obtain ⟨o4, h4, k4⟩ := hB
  clear hF
  go_wp2_with fail
  go_end0
  exact ⟨rfl, o4, h4, k4⟩
theorem len_weightL : ∀ l : List Tree, l.length ≤ weightL l
  | [] => by simp [weightL]
  | t :: l => by
    have h1 := len_weightL l
    have h2 := count_weight t
    have h3 : 0 < countT t := by cases t; rw [countT]; omega
    rw [weightL, List.length_cons]; omega
theorem len_weightM : ∀ l : List (List UInt8 × Tree), l.length ≤ weightM l
  | [] => by simp [weightM]
  | (k, t) :: l => by
    have h1 := len_weightM l
    have h2 := count_weight t
    have h3 : 0 < countT t := by cases t; rw [countT]; omega
    rw [weightM, List.length_cons]; omega
set_option maxHeartbeats 6400000 in
theorem value_step (by' : Int) (w0 : World) (b : Nat) (t : Tree) (h0 : -1 ≤ by') (h1 : by' ≤ 16) (hT0 : Tab w0) (hb0 : w0.heap.size ≤ b) (ih : ∀ x ∈ t.ins, ValOk by' w0 b x) : ValOk by' w0 b t := by
  intro c A k l o w h hA hW hok hwt hx hl
  have hT := bldT_writer
  obtain ⟨kk, bb, d, ss, la, ln, lc, ma, mn, mc, rfl⟩ := h.eight
  obtain ⟨cl, cm, htl, hrl, htm, hrm, hk, hb, hd1, hd2, hd3, hss⟩ := tv_rows h
  obtain ⟨_, a1, c1, ea, hl1, hl2, -⟩ := id hrl
  simp only [Value.slice.injEq] at ea
  obtain ⟨rfl, eln, rfl⟩ := ea
  subst eln
  obtain ⟨_, a2, c2, ea, hm1, hm2, -⟩ := id hrm
  simp only [Value.slice.injEq] at ea
  obtain ⟨rfl, emn, rfl⟩ := ea
  subst emn
  obtain ⟨tk, tb, tn, ts, tl, tm⟩ := t
  obtain ⟨d1, d2, d3⟩ := d
  obtain ⟨n1, n2, n3⟩ := tn
  simp only [Tree.kind, Tree.bit, Tree.num, Tree.str, Tree.list, Tree.mems] at hk hb hd1 hd2 hd3 hss htl hrl htm hrm hl1 hm1 h ⊢
  subst hk hb hd1 hd2 hd3 hss
  have hf := hok.fields
  unfold fieldsT at hf
  simp only [Bool.and_eq_true] at hf
  have hf0 := hf.1.1.1.1
  clear hf
  obtain ⟨wA, ewA⟩ : ∃ W, w.alloc (.cells #[.pointer (some ⟨b, 0, none⟩)] 107) = W := ⟨_, rfl⟩
  have nwA : wA.heap[w.heap.size]? = some (.cells #[.pointer (some ⟨b, 0, none⟩)] 107) := by rw [← ewA]; exact heap_alloc_new _ _
  have xwA : Ext w wA := by rw [← ewA]; exact (ext_refl _).alloc (Nat.le_refl _) _
  have swA : wA.heap.size = w.heap.size + 1 := by rw [← ewA]; simp
  obtain ⟨wB, ewB⟩ : ∃ W, wA.alloc (.cells (cellsV kk bb ⟨d1, d2, d3⟩ ss (.slice la tl.length lc) (.slice ma tm.length mc)) 27) = W := ⟨_, rfl⟩
  have nwB : wB.heap[wA.heap.size]? = some (.cells (cellsV kk bb ⟨d1, d2, d3⟩ ss (.slice la tl.length lc) (.slice ma tm.length mc)) 27) := by rw [← ewB]; exact heap_alloc_new _ _
  have xwB : Ext wA wB := by rw [← ewB]; exact (ext_refl _).alloc (Nat.le_refl _) _
  have swB : wB.heap.size = wA.heap.size + 1 := by rw [← ewB]; simp
  have hE := ext_trans xwA xwB
  rw [swA] at nwB
  have hbS := hW.lt
  have hoS := hW.own
  have HTL := Lib.hid (htl.keep (w' := wB) (A' := fun g => A g ∧ g < w.heap.size) hE.size (fun g hg hlt => ⟨⟨hg, hlt⟩, hE.block g hlt⟩))
  have HRL := Lib.hid (hrl.keep (w' := wB) (A' := fun g => A g ∧ g < w.heap.size) hE.size (fun g hg hlt => ⟨⟨hg, hlt⟩, hE.block g hlt⟩))
  have HTM := Lib.hid (htm.keep (w' := wB) (A' := fun g => A g ∧ g < w.heap.size) hE.size (fun g hg hlt => ⟨⟨hg, hlt⟩, hE.block g hlt⟩))
  have HRM := Lib.hid (hrm.keep (w' := wB) (A' := fun g => A g ∧ g < w.heap.size) hE.size (fun g hg hlt => ⟨⟨hg, hlt⟩, hE.block g hlt⟩))
  have HP : Hid (PBox wB w.heap.size b) := Lib.hid (by unfold PBox; rw [xwB.block _ (lt_of_block nwA)]; exact nwA)
  have HC : Hid (VAt wB (w.heap.size + 1) (cellsV kk bb ⟨d1, d2, d3⟩ ss (.slice la tl.length lc) (.slice ma tm.length mc))) := Lib.hid nwB
  have HKB := Lib.hid (KB.ofExt (b := b) (o := o) hE)
  have HW := Lib.hid (hW.ext hE)
  have HX := Lib.hid (ext_trans hx hE)
  have HTAB := Lib.hid (hT0.ext (ext_trans hx hE))
  have HIH := Lib.hid ih
  have HA := Lib.hid hA
  have HOK := Lib.hid hok
  have EA := Lib.hid ewA
  have EB := Lib.hid ewB
  have HSZ := Lib.hid swB
  clear htl hrl htm hrm h hE hW hx hT0 ih hA hok ewA ewB swA swB nwA nwB xwA xwB
  have hwl := len_weightL tl
  have hwm := len_weightM tm
  have hw2 := hwt
  rw [weightT] at hw2
  have hdl : d2.length ≤ 1000000 := by have : d2.length ≤ 1 + ss.length + d2.length + weightL tl + weightM tm := by omega
                                       exact Nat.le_trans this hw2
  have hsl : ss.length ≤ 1000000 := by omega
  have htll : tl.length ≤ 1000000 := by omega
  have html : tm.length ≤ 1000000 := by omega
  obtain ⟨T, hTT⟩ : ∃ T, outT by' k (.mk kk bb ⟨d1, d2, d3⟩ ss tl tm) = T := ⟨_, rfl⟩
  rw [hTT] at hl ⊢
  rw [outT] at hTT
  obtain ⟨S, hS⟩ : ∃ S, w.heap.size = S := ⟨_, rfl⟩
  rw [hS] at HTL HRL HTM HRM HP HC hbS hoS
  simp only [cellsV] at HC EB ⊢
  have HOS := Lib.hid hoS
  clear hoS
  have HKP : Hid (∀ (W : World) (o1 : Option Nat), KB b o o1 wB W → PBox W S b ∧ VAt W (S + 1) #[.int .i64 kk, .bool bb, .bool d1, .string ⟨d2.toArray⟩, .int .i64 d3, .string ⟨ss.toArray⟩, .slice la tl.length lc, .slice ma tm.length mc] ∧ RowAt W (fun g => A g ∧ g < S) 8 (.slice la tl.length lc) tl.length cl ∧ TL W (fun g => A g ∧ g < S) tl cl ∧ RowAt W (fun g => A g ∧ g < S) 9 (.slice ma tm.length mc) tm.length cm ∧ TM W (fun g => A g ∧ g < S) tm cm ∧ (∀ g, (A g ∧ g < S) → g ≠ b ∧ o1 ≠ some g) ∧ Ext w0 W) := Lib.hid (fun W o1 hk => by
    have hsz := lt_of_block HC.out
    have hkeep : ∀ g, (A g ∧ g < S) → g < wB.heap.size → (A g ∧ g < S) ∧ W.heap[g]? = wB.heap[g]? := fun g hg hlt => ⟨hg, hk.block g hlt (HA.out g hg.1).1 (HA.out g hg.1).2⟩
    refine ⟨?_, ?_, HRL.out.keep hk.size hkeep, HTL.out.keep hk.size hkeep, HRM.out.keep hk.size hkeep, HTM.out.keep hk.size hkeep, fun g hg => ⟨(HA.out g hg.1).1, fun e => ?_⟩, HX.out.trans (hk.below HX.out.size hb0 (fun g e => by have := (HOS.out g e).1; omega))⟩
    · unfold PBox
      rw [hk.block S (by omega) (by omega) (fun e => by have := (HOS.out S e).2; omega)]
      exact HP.out
    · unfold VAt
      rw [hk.block (S + 1) (by omega) (by omega) (fun e => by have := (HOS.out (S + 1) e).2; omega)]
      exact HC.out
    · rcases hk.new g e with h' | h'
      · exact (HA.out g hg.1).2 h'
      · have := hg.2; omega)
  go_enter Tryz.func92, Tryz.ntmps92
  go_upto_region 2 with fail
  rw [EA.out, EB.out]
  have HS := Lib.hid hS
  clear hS EA EB
  have c0 := HC.out.cell 0; have c1 := HC.out.cell 1; have c2 := HC.out.cell 2; have c3 := HC.out.cell 3; have c4 := HC.out.cell 4; have c5 := HC.out.cell 5; have c6 := HC.out.cell 6; have c7 := HC.out.cell 7
  simp at c0 c1 c2 c3 c4 c5 c6 c7
  have p0 : wB.cell? ⟨S, 0, none⟩ = some (.pointer (some ⟨b, 0, none⟩)) := by rw [cell_of_cells HP.out]; rfl
  by_cases k0 : kk = 0
  · subst k0
    rw [if_pos rfl] at hTT
    subst hTT
    go_wp2_with fail
    refine (wStr b _ _ l o [110, 117, 108, 108] _ hT HW.out hl).mono ?_
    rintro e w3 ⟨rfl, o3, h3, k3⟩
    go_wp2_with fail
    go_end0
    exact ⟨rfl, o3, by simpa using h3, HKB.out.trans k3⟩
  by_cases k1 : kk = 1
  · subst k1
    rw [if_neg (by decide), if_pos rfl] at hTT
    cases bb with
    | true =>
      rw [if_pos rfl] at hTT
      subst hTT
      go_wp2_with fail
      refine (wStr b _ _ l o [116, 114, 117, 101] _ hT HW.out hl).mono ?_
      rintro e w3 ⟨rfl, o3, h3, k3⟩
      go_wp2_with fail
      go_end0
      exact ⟨rfl, o3, by simpa using h3, HKB.out.trans k3⟩
    | false =>
      rw [if_neg (by decide)] at hTT
      subst hTT
      go_wp2_with fail
      refine (wStr b _ _ l o [102, 97, 108, 115, 101] _ hT HW.out hl).mono ?_
      rintro e w3 ⟨rfl, o3, h3, k3⟩
      go_wp2_with fail
      go_end0
      exact ⟨rfl, o3, by simpa using h3, HKB.out.trans k3⟩
  by_cases k2 : kk = 2
  · subst k2
    rw [if_neg (by decide), if_neg (by decide), if_pos rfl] at hTT
    have HPR : Hid (∀ w', Ext wB w' → Calls Tryz.prog 114 #[.agg #[.bool d1, .string ⟨d2.toArray⟩, .int .i64 d3]] w' (fun e w'' => e = .returned (.string ⟨T.toArray⟩) ∧ Ext w' w'')) := Lib.hid (fun w' hw => by rw [← hTT]; exact print_any ⟨d1, d2, d3⟩ w' (HTAB.out.ext hw) (by show d2.length ≤ _; omega))
    have HLL := Lib.hid hl
    clear hTT c0 c1 c2 c3 c4 c5 c6 c7 hw2 hdl hsl htll html hwl hwm hwt hl
    have c0 := HC.out.cell 0; have c1 := HC.out.cell 1; have c2 := HC.out.cell 2; have c3 := HC.out.cell 3; have c4 := HC.out.cell 4; have c5 := HC.out.cell 5; have c6 := HC.out.cell 6; have c7 := HC.out.cell 7
    simp at c0 c1 c2 c3 c4 c5 c6 c7
    go_upto_region 9 with fail
    clear c0 c1 c2 c3 c4 c5 c6 c7 p0
    refine GrowS.wp_region_restW (G0 := Ext) (G1 := fun w1 w' => ∃ o', Wr w' b by' k (l ++ T) o' ∧ KB b o o' w1 w') (B0 := fun w' => Ext wB w') (B1 := fun w' => ∃ o', Wr w' b by' k (l ++ T) o' ∧ KB b o o' wB w') (E := fun _ _ => False) (anc := fun j => []) (I := fun j => if j = 5 then some (GrowS.Spec.val _ (.string ⟨T.toArray⟩)) else if j = 6 then some (GrowS.Spec.val _ (.tuple #[.int .i64 T.length, .nilIface])) else none) 6 7 (fun j => ([[], [0], [0, 1], [], [3], [3, 4], [0, 1, 2, 3, 4, 5]] : List (List Nat)).getD j []) (Array.replicate 7 true) (by kernel_rfl) (by kernel_rfl) (by kernel_rfl) (by kernel_rfl) (by kernel_rfl) (by kernel_rfl) ?_ ?_ ?_ ?_ ?_ ?_
    · exact fun w w' h hg => ext_trans h hg
    · rintro w1 w' ⟨o1, h, hk⟩ hg; exact ⟨o1, h.ext hg, hk.ext hg⟩
    · rintro w1 w' h ⟨o1, hg, hk⟩; exact ⟨o1, hg, (KB.ofExt h).trans hk⟩
    · exact fun _ _ _ _ h => h.elim
    · exact (ext_refl _).drew
    simp only [List.take_succ_cons, List.take_zero, List.drop_succ_cons, List.drop_zero]
    repeat
      (refine GrowS.Wk.step (fun K hK => ?_)
       first
       | (refine GrowS.step_read (by rfl) (by rfl) (fun w => ext_refl w) ?_
          apply Exists.intro
          refine ⟨fun w hB hF => ?_, ?_⟩
          · replace hB : Ext _ w := hB; have p0 : w.cell? ⟨S, 0, none⟩ = some (.pointer (some ⟨b, 0, none⟩)) := (by rw [hB.cell (p := ⟨S, 0, none⟩) (lt_of_block HP.out), cell_of_cells HP.out]; rfl); have HCW := HC.out.ext hB; have c2 := HCW.cell 2; have c3 := HCW.cell 3; have c4 := HCW.cell 4; have c5 := HCW.cell 5; simp at c2 c3 c4 c5
            go_simp
            try exact rfl
          go_simp
          refine hK _ _ ?_
          clear hK K)
       | (refine GrowS.step_off (by rfl) ?_
          go_simp
          refine hK _ _ ?_
          clear hK K))
    refine GrowS.Wk.step (fun K hK => ?_)
    refine GrowS.step_rel (by rfl) (by rfl) (fun w' hB hF => ?_) (fun v hv => ?_)
    · replace hB : Ext wB w' := hB
      go_simp
      refine GrowS.relUpon_enter ((HPR.out w' hB).mono ?_)
      rintro e w'' ⟨rfl, hw''⟩
      exact .inl ⟨_, rfl, hw'', rfl, trivial⟩
    obtain rfl : v = (.string ⟨T.toArray⟩) := hv
    go_simp
    refine hK _ _ ?_
    clear hK K
    refine GrowS.Wk.step (fun K hK => ?_)
    refine GrowS.step_rel (by rfl) (by rfl) (fun w' hB hF => ?_) (fun v hv => ?_)
    · replace hB : Ext wB w' := hB
      go_simp
      refine GrowS.relUpon_enter ((wStr b _ _ l o T w' hT (HW.out.ext hB) HLL.out).mono ?_)
      rintro e w'' ⟨rfl, o2, h2, k2⟩
      exact .inl ⟨_, rfl, ⟨o2, h2, k2⟩, rfl, trivial⟩
    obtain rfl : v = (.tuple #[.int .i64 T.length, .nilIface]) := hv
    go_simp
    refine hK _ _ ?_
    clear hK K
    refine GrowS.Wk.nil ?_
    intro w4 hB hF
    show wpAny _ _ _ _ 0 _ _ _
    refine ⟨by decide +kernel, ?_⟩
    obtain ⟨o4, h4, k4⟩ := hB
    clear hF
    go_wp2_with fail
    go_end0
    exact ⟨rfl, o4, h4, HKB.out.trans k4⟩
  by_cases k3 : kk = 3
  · subst k3
    rw [if_neg (by decide), if_neg (by decide), if_neg (by decide), if_pos rfl] at hTT
    have HPR : Hid (∀ w', Ext wB w' → Calls Tryz.prog 86 #[.string ⟨ss.toArray⟩] w' (fun e w'' => e = .returned (.string ⟨T.toArray⟩) ∧ Ext w' w'')) := Lib.hid (fun w' hw => by rw [← hTT]; exact quote_any ⟨ss.toArray⟩ w' (by simp [ByteArray.size]; omega))
    have HLL := Lib.hid hl
    clear hTT c0 c1 c2 c3 c4 c5 c6 c7 hw2 hdl hsl htll html hwl hwm hwt hl
    have c0 := HC.out.cell 0; have c1 := HC.out.cell 1; have c2 := HC.out.cell 2; have c3 := HC.out.cell 3; have c4 := HC.out.cell 4; have c5 := HC.out.cell 5; have c6 := HC.out.cell 6; have c7 := HC.out.cell 7
    simp at c0 c1 c2 c3 c4 c5 c6 c7
    go_upto_region 11 with fail
    clear c0 c1 c2 c3 c4 c5 c6 c7 p0
    refine GrowS.wp_region_restW (G0 := Ext) (G1 := fun w1 w' => ∃ o', Wr w' b by' k (l ++ T) o' ∧ KB b o o' w1 w') (B0 := fun w' => Ext wB w') (B1 := fun w' => ∃ o', Wr w' b by' k (l ++ T) o' ∧ KB b o o' wB w') (E := fun _ _ => False) (anc := fun j => []) (I := fun j => if j = 5 then some (GrowS.Spec.val _ (.string ⟨T.toArray⟩)) else if j = 6 then some (GrowS.Spec.val _ (.tuple #[.int .i64 T.length, .nilIface])) else none) 6 7 (fun j => ([[], [0], [0, 1], [], [3], [3, 4], [0, 1, 2, 3, 4, 5]] : List (List Nat)).getD j []) (Array.replicate 7 true) (by kernel_rfl) (by kernel_rfl) (by kernel_rfl) (by kernel_rfl) (by kernel_rfl) (by kernel_rfl) ?_ ?_ ?_ ?_ ?_ ?_
    · exact fun w w' h hg => ext_trans h hg
    · rintro w1 w' ⟨o1, h, hk⟩ hg; exact ⟨o1, h.ext hg, hk.ext hg⟩
    · rintro w1 w' h ⟨o1, hg, hk⟩; exact ⟨o1, hg, (KB.ofExt h).trans hk⟩
    · exact fun _ _ _ _ h => h.elim
    · exact (ext_refl _).drew
    simp only [List.take_succ_cons, List.take_zero, List.drop_succ_cons, List.drop_zero]
    repeat
      (refine GrowS.Wk.step (fun K hK => ?_)
       first
       | (refine GrowS.step_read (by rfl) (by rfl) (fun w => ext_refl w) ?_
          apply Exists.intro
          refine ⟨fun w hB hF => ?_, ?_⟩
          · replace hB : Ext _ w := hB; have p0 : w.cell? ⟨S, 0, none⟩ = some (.pointer (some ⟨b, 0, none⟩)) := (by rw [hB.cell (p := ⟨S, 0, none⟩) (lt_of_block HP.out), cell_of_cells HP.out]; rfl); have HCW := HC.out.ext hB; have c2 := HCW.cell 2; have c3 := HCW.cell 3; have c4 := HCW.cell 4; have c5 := HCW.cell 5; simp at c2 c3 c4 c5
            go_simp
            try exact rfl
          go_simp
          refine hK _ _ ?_
          clear hK K)
       | (refine GrowS.step_off (by rfl) ?_
          go_simp
          refine hK _ _ ?_
          clear hK K))
    refine GrowS.Wk.step (fun K hK => ?_)
    refine GrowS.step_rel (by rfl) (by rfl) (fun w' hB hF => ?_) (fun v hv => ?_)
    · replace hB : Ext wB w' := hB
      go_simp
      refine GrowS.relUpon_enter ((HPR.out w' hB).mono ?_)
      rintro e w'' ⟨rfl, hw''⟩
      exact .inl ⟨_, rfl, hw'', rfl, trivial⟩
    obtain rfl : v = (.string ⟨T.toArray⟩) := hv
    go_simp
    refine hK _ _ ?_
    clear hK K
    refine GrowS.Wk.step (fun K hK => ?_)
    refine GrowS.step_rel (by rfl) (by rfl) (fun w' hB hF => ?_) (fun v hv => ?_)
    · replace hB : Ext wB w' := hB
      go_simp
      refine GrowS.relUpon_enter ((wStr b _ _ l o T w' hT (HW.out.ext hB) HLL.out).mono ?_)
      rintro e w'' ⟨rfl, o2, h2, k2⟩
      exact .inl ⟨_, rfl, ⟨o2, h2, k2⟩, rfl, trivial⟩
    obtain rfl : v = (.tuple #[.int .i64 T.length, .nilIface]) := hv
    go_simp
    refine hK _ _ ?_
    clear hK K
    refine GrowS.Wk.nil ?_
    intro w4 hB hF
    show wpAny _ _ _ _ 0 _ _ _
    refine ⟨by decide +kernel, ?_⟩
    obtain ⟨o4, h4, k4⟩ := hB
    clear hF
    go_wp2_with fail
    go_end0
    exact ⟨rfl, o4, h4, HKB.out.trans k4⟩
  by_cases k4 : kk = 4
  · subst k4
    rw [if_neg (by decide), if_neg (by decide), if_neg (by decide), if_neg (by decide), if_pos rfl] at hTT
    have hkd : k < 64 := by have := HOK.out.depth; simp only [Tree.kind] at this; omega
    have hitem := outL_items by' (k + 1) tl tl.length (Nat.le_refl _)
    rw [List.take_length] at hitem
    have hlen : l.length + (itemsT by' (k + 1) (fun i => (tl[i]?).elim [] (outT by' (k + 1))) tl.length).length + (if tl.length = 0 then ([] : List UInt8) else gapP by' k).length + 2 ≤ 140737488355328 := by
      rw [hitem]
      rw [← hTT] at hl
      simp only [List.length_cons, List.length_append, List.length_nil] at hl
      omega
    go_wp2_with fail
    refine (wlist_any b by' k l o 116 S (S + 1) 91 93 tl.length (fun i => (tl[i]?).elim [] (outT by' (k + 1))) wB (fun _ _ => by rfl) HW.out h0 h1 (by omega) htll hlen (fun i l1 o1 W hi hW1 hk1 hl1 => ?_)).mono ?_
    · obtain ⟨q1, q2, q3, q4, q5, q6, q7, q8⟩ := HKP.out W o1 hk1
      exact item1_any by' w0 b S (S + 1) (k + 1) tl cl (fun g => A g ∧ g < S) _ _ _ _ _ _ _ la lc i l1 o1 W (fun x hx => HIH.out x (List.mem_append_left _ hx)) q1 q2 q3 q4 q7 hW1 (fun x hx => HOK.out.ins x (List.mem_append_left _ hx)) (fun x hx => by
        obtain ⟨j, hj, rfl⟩ := List.mem_iff_getElem.1 hx
        have := weightL_mem hj
        omega) q8 hi hl1
    · rw [hitem, hTT]
      rintro e w3 ⟨rfl, o3, h3, k3⟩
      go_wp2_with fail
      go_end0
      exact ⟨rfl, o3, by simpa using h3, HKB.out.trans k3⟩
  by_cases k5 : kk = 5
  · subst k5
    rw [if_neg (by decide), if_neg (by decide), if_neg (by decide), if_neg (by decide), if_neg (by decide)] at hTT
    have hkd : k < 64 := by have := HOK.out.depth; simp only [Tree.kind] at this; omega
    have hitem := outM_items by' (k + 1) tm tm.length (Nat.le_refl _)
    rw [List.take_length] at hitem
    have hlen : l.length + (itemsT by' (k + 1) (fun i => (tm[i]?).elim [] (fun p => quote p.1 ++ (58 :: (blankP by' ++ outT by' (k + 1) p.2)))) tm.length).length + (if tm.length = 0 then ([] : List UInt8) else gapP by' k).length + 2 ≤ 140737488355328 := by
      rw [hitem]
      rw [← hTT] at hl
      simp only [List.length_cons, List.length_append, List.length_nil] at hl
      omega
    go_wp2_with fail
    refine (wlist_any b by' k l o 117 S (S + 1) 123 125 tm.length (fun i => (tm[i]?).elim [] (fun p => quote p.1 ++ (58 :: (blankP by' ++ outT by' (k + 1) p.2)))) wB (fun _ _ => by rfl) HW.out h0 h1 (by omega) html hlen (fun i l1 o1 W hi hW1 hk1 hl1 => ?_)).mono ?_
    · obtain ⟨q1, q2, q3, q4, q5, q6, q7, q8⟩ := HKP.out W o1 hk1
      exact item2_any by' w0 b S (S + 1) (k + 1) tm cm (fun g => A g ∧ g < S) _ _ _ _ _ _ _ ma mc i l1 o1 W (fun x hx => HIH.out x.2 (List.mem_append_right _ (List.mem_map.2 ⟨x, hx, rfl⟩))) h0 q1 q2 q5 q6 q7 hW1 (fun x hx => HOK.out.ins x.2 (List.mem_append_right _ (List.mem_map.2 ⟨x, hx, rfl⟩))) (fun x hx => by
        obtain ⟨j, hj, rfl⟩ := List.mem_iff_getElem.1 hx
        have := weightM_mem hj
        exact ⟨by omega, by omega⟩) q8 hb0 hi hl1
    · rw [hitem, hTT]
      rintro e w3 ⟨rfl, o3, h3, k3⟩
      go_wp2_with fail
      go_end0
      exact ⟨rfl, o3, by simpa using h3, HKB.out.trans k3⟩
  · exfalso
    rw [if_neg k0, if_neg k1, if_neg k2, if_neg k3, if_neg k4, if_neg k5] at hf0
    cases hf0
theorem value_all (by' : Int) (w0 : World) (b : Nat) (h0 : -1 ≤ by') (h1 : by' ≤ 16) (hT0 : Tab w0) (hb0 : w0.heap.size ≤ b) : ∀ (N : Nat) (t : Tree), SizeOf.sizeOf t < N → ValOk by' w0 b t
  | 0, _, h => by omega
  | N + 1, t, h => value_step by' w0 b t h0 h1 hT0 hb0 (fun x hx => value_all by' w0 b h0 h1 hT0 hb0 N x (by have := ins_size hx; omega))
end Go.Proofs.YtjapbjmeoaagmaaGreatDoor
end

section
set_option linter.unusedVariables false
set_option linter.unusedSimpArgs false
namespace Orange
section
variable {α : Type} {lt : α → α → Bool}
structure WOrd (lt : α → α → Bool) : Prop where
  asymm : ∀ {a b}, lt a b = true → lt b a = false
  neg : ∀ {a b c}, lt a b = false → lt b c = false → lt a c = false
def sw (f : Nat → α) (i j : Nat) : Nat → α := fun k => if k = i then f j else if k = j then f i else f k
theorem sw_self (f : Nat → α) (i : Nat) : sw f i i = f := by funext k; simp only [sw]; split <;> simp_all
theorem sw_comm (f : Nat → α) (i j : Nat) : sw f i j = sw f j i := by
  funext k; simp only [sw]; split <;> split <;> simp_all
inductive Sw (a b : Nat) (f : Nat → α) : (Nat → α) → Prop
  | refl : Sw a b f f
  | step {g : Nat → α} {i j : Nat} : Sw a b f g → a ≤ i → i < b → a ≤ j → j < b → Sw a b f (sw g i j)
theorem Sw.one {a b i j : Nat} {f : Nat → α} (h1 : a ≤ i) (h2 : i < b) (h3 : a ≤ j) (h4 : j < b) : Sw a b f (sw f i j) := .step .refl h1 h2 h3 h4
theorem Sw.trans {a b : Nat} {f g h : Nat → α} (h1 : Sw a b f g) (h2 : Sw a b g h) : Sw a b f h := by
  induction h2 with
  | refl => exact h1
  | step _ e1 e2 e3 e4 ih => exact .step ih e1 e2 e3 e4
theorem Sw.mono {a b a' b' : Nat} {f g : Nat → α} (h : Sw a b f g) (h1 : a' ≤ a) (h2 : b ≤ b') : Sw a' b' f g := by
  induction h with
  | refl => exact .refl
  | step _ e1 e2 e3 e4 ih => exact .step ih (by omega) (by omega) (by omega) (by omega)
theorem Sw.out {a b : Nat} {f g : Nat → α} (h : Sw a b f g) {k : Nat} (hk : k < a ∨ b ≤ k) : g k = f k := by
  induction h with
  | refl => rfl
  | step _ e1 e2 e3 e4 ih => rw [← ih]; simp only [sw]; rw [if_neg (by omega), if_neg (by omega)]
theorem Sw.from {a b : Nat} {f g : Nat → α} (h : Sw a b f g) {k : Nat} (h1 : a ≤ k) (h2 : k < b) : ∃ i, a ≤ i ∧ i < b ∧ g k = f i := by
  induction h generalizing k with
  | refl => exact ⟨k, h1, h2, rfl⟩
  | @step g i j _ e1 e2 e3 e4 ih =>
    simp only [sw]
    split
    · exact ih e3 e4
    · split
      · exact ih e1 e2
      · exact ih h1 h2
theorem Sw.any {a b : Nat} {f g : Nat → α} (h : Sw a b f g) (k : Nat) : ∃ i, g k = f i ∧ (a ≤ k → k < b → a ≤ i ∧ i < b) ∧ ((k < a ∨ b ≤ k) → i = k) := by
  by_cases h' : k < a ∨ b ≤ k
  · exact ⟨k, h.out h', fun h1 h2 => by omega, fun _ => rfl⟩
  · obtain ⟨i, h1, h2, h3⟩ := h.from (k := k) (by omega) (by omega)
    exact ⟨i, h3, fun _ _ => ⟨h1, h2⟩, fun h'' => absurd h'' h'⟩
def listF (f : Nat → α) (n : Nat) : List α := (List.range n).map f
theorem listF_length (f : Nat → α) (n : Nat) : (listF f n).length = n := by simp [listF]
theorem listF_get (f : Nat → α) (n i : Nat) (h : i < (listF f n).length) : (listF f n)[i] = f i := by simp [listF]
theorem listF_set (f : Nat → α) (n i : Nat) (x : α) : (listF f n).set i x = listF (fun k => if k = i then x else f k) n := by
  apply List.ext_getElem
  · simp [listF]
  · intro k h1 h2
    rw [List.getElem_set, listF_get, listF_get]
    by_cases e : i = k
    · subst e; simp
    · rw [if_neg e, if_neg (by omega)]
theorem listF_congr {f g : Nat → α} {n : Nat} (h : ∀ k, k < n → f k = g k) : listF f n = listF g n := by
  apply List.map_congr_left
  intro k hk; exact h k (by simpa using hk)
theorem listF_sw {f : Nat → α} {n i j : Nat} (hi : i < n) (hj : j < n) : (listF (sw f i j) n).Perm (listF f n) := by
  by_cases e : i = j
  · rw [e, sw_self]
  · have hlen : (listF f n).length = n := listF_length f n
    have h1 : listF (sw f i j) n = ((listF f n).set i (f j)).set j (f i) := by
      rw [listF_set, listF_set]
      apply listF_congr
      intro k hk
      simp only [sw]
      by_cases ei : k = i
      · subst ei; rw [if_pos rfl, if_neg e, if_pos rfl]
      · rw [if_neg ei]
        by_cases ej : k = j
        · rw [if_pos ej, if_pos ej]
        · rw [if_neg ej, if_neg ej, if_neg ei]
    rw [h1]
    have h2 := List.set_set_perm («as» := listF f n) (i := i) (j := j) (by rw [hlen]; exact hi) (by rw [hlen]; exact hj)
    simpa [listF_get] using h2
theorem Sw.perm {a b n : Nat} {f g : Nat → α} (h : Sw a b f g) (hb : b ≤ n) : (listF g n).Perm (listF f n) := by
  induction h with
  | refl => exact List.Perm.refl _
  | step _ e1 e2 e3 e4 ih => exact (listF_sw (by omega) (by omega)).trans ih
def SOn (lt : α → α → Bool) (a b : Nat) (f : Nat → α) : Prop := ∀ i j, a ≤ i → i < j → j < b → lt (f j) (f i) = false
theorem SOn.mono {a b a' b' : Nat} {f : Nat → α} (h : SOn lt a b f) (h1 : a ≤ a') (h2 : b' ≤ b) : SOn lt a' b' f := fun i j e1 e2 e3 => h i j (by omega) e2 (by omega)
theorem SOn.congr {a b : Nat} {f g : Nat → α} (h : SOn lt a b f) (e : ∀ k, a ≤ k → k < b → g k = f k) : SOn lt a b g := fun i j e1 e2 e3 => by
  rw [e i e1 (by omega), e j (by omega) e3]; exact h i j e1 e2 e3
theorem SOn.short {a b : Nat} {f : Nat → α} (h : b ≤ a + 1) : SOn lt a b f := fun i j e1 e2 e3 => by omega
theorem SOn.kept {a b c d : Nat} {f g : Nat → α} (h : SOn lt a b f) (k : Sw c d f g) (hd : b ≤ c ∨ d ≤ a) : SOn lt a b g := h.congr (fun i e1 e2 => k.out (by omega))
theorem SOn.join {a m b : Nat} {f : Nat → α} (h1 : SOn lt a m f) (h2 : SOn lt m b f) (h : ∀ i j, a ≤ i → i < m → m ≤ j → j < b → lt (f j) (f i) = false) : SOn lt a b f := fun i j e1 e2 e3 => by
  by_cases c1 : j < m
  · exact h1 i j e1 e2 c1
  · by_cases c2 : m ≤ i
    · exact h2 i j c2 e2 e3
    · exact h i j e1 (by omega) (by omega) e3
def Ins (lt : α → α → Bool) (a i j : Nat) (f : Nat → α) : Prop := ∀ p q, a ≤ p → p < q → q ≤ i → q ≠ j → lt (f q) (f p) = false
theorem Ins.start {a i : Nat} {f : Nat → α} (h : SOn lt a i f) : Ins lt a i i f := fun p q h1 h2 h3 h4 => h p q h1 h2 (by omega)
theorem Ins.next (o : WOrd lt) {a i j : Nat} {f : Nat → α} (h : Ins lt a i j f) (hj : a < j) (hi : j ≤ i) (hl : lt (f j) (f (j - 1)) = true) : Ins lt a i (j - 1) (sw f j (j - 1)) := by
  intro p q h1 h2 h3 h4
  simp only [sw]
  by_cases eq : q = j
  · subst eq
    rw [if_pos rfl]
    by_cases ep : p = q - 1
    · subst ep; rw [if_neg (by omega), if_pos rfl]; exact o.asymm hl
    · rw [if_neg (by omega), if_neg ep]; exact h p (q - 1) h1 (by omega) (by omega) (by omega)
  · rw [if_neg eq, if_neg h4]
    by_cases ep : p = j
    · subst ep; rw [if_pos rfl]; exact h (p - 1) q (by omega) (by omega) h3 (by omega)
    · rw [if_neg ep]
      by_cases ep' : p = j - 1
      · rw [if_pos ep']; exact h j q (by omega) (by omega) h3 eq
      · rw [if_neg ep']; exact h p q h1 h2 h3 eq
theorem Ins.stop (o : WOrd lt) {a i j : Nat} {f : Nat → α} (h : Ins lt a i j f) (hj : j ≤ a ∨ a < j ∧ lt (f j) (f (j - 1)) = false) : SOn lt a (i + 1) f := by
  intro p q h1 h2 h3
  by_cases eq : q = j
  · subst eq
    rcases hj with hj | ⟨hj, hl⟩
    · omega
    · by_cases ep : p = q - 1
      · subst ep; exact hl
      · exact o.neg hl (h p (q - 1) h1 (by omega) (by omega) (by omega))
  · exact h p q h1 h2 (by omega) eq
def upF (f : Nat → α) (a k : Nat) : Nat → α := fun x => if a ≤ x ∧ x < k then f (x + 1) else if x = k then f a else f x
theorem upF_self (f : Nat → α) (a : Nat) : upF f a a = f := by
  funext x; simp only [upF]
  rw [if_neg (by omega)]
  split
  · rename_i h; rw [h]
  · rfl
theorem upF_next {f : Nat → α} {a k : Nat} (h : a ≤ k) : sw (upF f a k) k (k + 1) = upF f a (k + 1) := by
  funext x
  simp only [sw, upF]
  by_cases e1 : x = k
  · subst e1; rw [if_pos rfl, if_neg (by omega), if_neg (by omega), if_pos (by omega)]
  · rw [if_neg e1]
    by_cases e2 : x = k + 1
    · subst e2; rw [if_pos (c := k + 1 = k + 1) rfl, if_neg (c := a ≤ k ∧ k < k) (by omega), if_neg (c := a ≤ k + 1 ∧ k + 1 < k + 1) (by omega)]; simp
    · rw [if_neg e2]
      by_cases e3 : a ≤ x ∧ x < k
      · rw [if_pos e3, if_pos (by omega)]
      · rw [if_neg e3, if_neg e1, if_neg (by omega), if_neg e2]
def downF (f : Nat → α) (m k : Nat) : Nat → α := fun x => if k < x ∧ x ≤ m then f (x - 1) else if x = k then f m else f x
theorem downF_self (f : Nat → α) (m : Nat) : downF f m m = f := by
  funext x; simp only [downF]
  rw [if_neg (by omega)]
  split
  · rename_i h; rw [h]
  · rfl
theorem downF_next {f : Nat → α} {m k : Nat} (h : k ≤ m) (hk : 0 < k) : sw (downF f m k) k (k - 1) = downF f m (k - 1) := by
  funext x
  simp only [sw, downF]
  by_cases e1 : x = k
  · subst e1; rw [if_pos rfl, if_neg (by omega), if_neg (by omega), if_pos (by omega)]
  · rw [if_neg e1]
    by_cases e2 : x = k - 1
    · subst e2; rw [if_pos (c := k - 1 = k - 1) rfl, if_neg (c := k < k ∧ k ≤ m) (by omega), if_neg (c := k - 1 < k - 1 ∧ k - 1 ≤ m) (by omega)]; simp
    · rw [if_neg e2]
      by_cases e3 : k < x ∧ x ≤ m
      · rw [if_pos e3, if_pos (by omega)]
      · rw [if_neg e3, if_neg e1, if_neg (by omega), if_neg e2]
theorem upF_sorted (o : WOrd lt) {a m b i : Nat} {f : Nat → α} (hm : m = a + 1) (hr : SOn lt m b f) (hi : m ≤ i) (hib : i ≤ b) (h1 : i = m ∨ lt (f (i - 1)) (f a) = true) (h2 : i = b ∨ lt (f i) (f a) = false) : SOn lt a b (upF f a (i - 1)) := by
  have g1 : ∀ k, m ≤ k → k < i → lt (f k) (f a) = true := fun k hk hki => by
    rcases h1 with h1 | h1
    · omega
    · by_cases e : k = i - 1
      · rw [e]; exact h1
      · have := hr k (i - 1) hk (by omega) (by omega)
        cases h : lt (f k) (f a) with
        | true => rfl
        | false => rw [o.neg this h] at h1; cases h1
  have g2 : ∀ k, i ≤ k → k < b → lt (f k) (f a) = false := fun k hk hki => by
    rcases h2 with h2 | h2
    · omega
    · by_cases e : k = i
      · rw [e]; exact h2
      · exact o.neg (hr i k (by omega) (by omega) hki) h2
  intro p q e1 e2 e3
  simp only [upF]
  by_cases c1 : a ≤ p ∧ p < i - 1
  · rw [if_pos c1]
    by_cases c2 : a ≤ q ∧ q < i - 1
    · rw [if_pos c2]; exact hr (p + 1) (q + 1) (by omega) (by omega) (by omega)
    · rw [if_neg c2]
      by_cases c3 : q = i - 1
      · rw [if_pos c3]; exact o.asymm (g1 (p + 1) (by omega) (by omega))
      · rw [if_neg c3]; exact hr (p + 1) q (by omega) (by omega) e3
  · rw [if_neg c1, if_neg (c := a ≤ q ∧ q < i - 1) (by omega)]
    by_cases c3 : p = i - 1
    · rw [if_pos c3, if_neg (by omega)]; exact g2 q (by omega) e3
    · rw [if_neg c3, if_neg (by omega)]; exact hr p q (by omega) e2 e3
theorem downF_sorted (o : WOrd lt) {a m b i : Nat} {f : Nat → α} (hm : b = m + 1) (hl : SOn lt a m f) (hi : a ≤ i) (him : i ≤ m) (h1 : i = a ∨ lt (f m) (f (i - 1)) = false) (h2 : i = m ∨ lt (f m) (f i) = true) : SOn lt a b (downF f m i) := by
  have g1 : ∀ k, a ≤ k → k < i → lt (f m) (f k) = false := fun k hk hki => by
    rcases h1 with h1 | h1
    · omega
    · by_cases e : k = i - 1
      · rw [e]; exact h1
      · exact o.neg h1 (hl k (i - 1) hk (by omega) (by omega))
  have g2 : ∀ k, i ≤ k → k < m → lt (f k) (f m) = false := fun k hk hki => by
    rcases h2 with h2 | h2
    · omega
    · by_cases e : k = i
      · rw [e]; exact o.asymm h2
      · have := hl i k (by omega) (by omega) hki
        exact o.neg this (o.asymm h2)
  intro p q e1 e2 e3
  simp only [downF]
  by_cases c1 : i < q ∧ q ≤ m
  · rw [if_pos c1]
    by_cases c2 : i < p ∧ p ≤ m
    · rw [if_pos c2]; exact hl (p - 1) (q - 1) (by omega) (by omega) (by omega)
    · rw [if_neg c2]
      by_cases c3 : p = i
      · rw [if_pos c3]; exact g2 (q - 1) (by omega) (by omega)
      · rw [if_neg c3]; exact hl p (q - 1) e1 (by omega) (by omega)
  · rw [if_neg c1, if_neg (c := i < p ∧ p ≤ m) (by omega), if_neg (c := p = i) (by omega)]
    by_cases c3 : q = i
    · rw [if_pos c3]; exact g1 p e1 (by omega)
    · rw [if_neg c3]; exact hl p q e1 e2 (by omega)
def exF (f : Nat → α) (a b k : Nat) : Nat → α := fun x => if a ≤ x ∧ x < a + k then f (b + (x - a)) else if b ≤ x ∧ x < b + k then f (a + (x - b)) else f x
theorem exF_zero (f : Nat → α) (a b : Nat) : exF f a b 0 = f := by
  funext x; simp only [exF]; rw [if_neg (by omega), if_neg (by omega)]
theorem exF_next {f : Nat → α} {a b n k : Nat} (hd : a + n ≤ b) (hk : k < n) : sw (exF f a b k) (a + k) (b + k) = exF f a b (k + 1) := by
  funext x
  simp only [sw, exF]
  by_cases e1 : x = a + k
  · subst e1
    rw [if_pos rfl, if_neg (by omega), if_neg (by omega), if_pos (by omega)]
    congr 1; omega
  · rw [if_neg e1]
    by_cases e2 : x = b + k
    · subst e2
      rw [if_pos rfl, if_neg (by omega), if_neg (by omega), if_neg (by omega), if_pos (by omega)]
      congr 1; omega
    · rw [if_neg e2]
      by_cases e3 : a ≤ x ∧ x < a + k
      · rw [if_pos e3, if_pos (by omega)]
      · rw [if_neg e3, if_neg (c := a ≤ x ∧ x < a + (k + 1)) (by omega)]
        by_cases e4 : b ≤ x ∧ x < b + k
        · rw [if_pos e4, if_pos (by omega)]
        · rw [if_neg e4, if_neg (by omega)]
theorem exF_sw {f : Nat → α} {a b n lo hi : Nat} (hd : a + n ≤ b) (h1 : lo ≤ a) (h2 : b + n ≤ hi) : ∀ k, k ≤ n → Sw lo hi f (exF f a b k)
  | 0, _ => by rw [exF_zero]; exact .refl
  | k + 1, h => by
    rw [← exF_next hd (by omega)]
    exact .step (exF_sw hd h1 h2 k (by omega)) (by omega) (by omega) (by omega) (by omega)
def rotF (f : Nat → α) (a m b : Nat) : Nat → α := fun x => if a ≤ x ∧ x < a + (b - m) then f (x + (m - a)) else if a + (b - m) ≤ x ∧ x < b then f (x - (b - m)) else f x
theorem rot_gt {f g : Nat → α} {a m b i j : Nat} (hi : i ≤ m) (hij : j < i) (h : rotF g (m - i) m (m + j) = rotF f a m b) : rotF (exF g (m - i) m j) (m - i + j) m (m + j) = rotF f a m b := by
  rw [← h]
  funext x
  simp only [rotF, exF]
  repeat' split
  all_goals first | rfl | (congr 1; omega)
theorem rot_lt {f g : Nat → α} {a m b i j : Nat} (hi : i ≤ m) (hij : i < j) (h : rotF g (m - i) m (m + j) = rotF f a m b) : rotF (exF g (m - i) (m + j - i) i) (m - i) m (m + j - i) = rotF f a m b := by
  rw [← h]
  funext x
  simp only [rotF, exF]
  repeat' split
  all_goals first | rfl | (congr 1; omega)
theorem rot_eq {g : Nat → α} {m i : Nat} (hi : i ≤ m) : exF g (m - i) m i = rotF g (m - i) m (m + i) := by
  funext x
  simp only [rotF, exF]
  repeat' split
  all_goals first | rfl | (congr 1; omega)
theorem merge_mid (o : WOrd lt) {a m b s mid : Nat} {f : Nat → α} (h1 : SOn lt a m f) (h2 : SOn lt m b f) (has : a ≤ s) (hsm : s ≤ m) (hm : mid + m - s ≤ b) (hms : m ≤ mid + m - s) (hsmid : s ≤ mid) (hme : mid ≤ mid + m - s)
    (hL : s = a ∨ mid + m - s = b ∨ (a < s ∧ mid + m - s < b ∧ lt (f (mid + m - s)) (f (s - 1)) = false)) (hR : s = m ∨ mid = s ∨ (s < m ∧ s < mid ∧ lt (f (mid + m - s - 1)) (f s) = true)) :
    SOn lt a s (rotF f s m (mid + m - s)) ∧ SOn lt s mid (rotF f s m (mid + m - s)) ∧ SOn lt mid (mid + m - s) (rotF f s m (mid + m - s)) ∧ SOn lt (mid + m - s) b (rotF f s m (mid + m - s)) ∧ (∀ i j, a ≤ i → i < mid → mid ≤ j → j < b → lt (rotF f s m (mid + m - s) j) (rotF f s m (mid + m - s) i) = false) := by
  obtain ⟨E, hE⟩ : ∃ E, mid + m - s = E := ⟨_, rfl⟩
  rw [hE] at hm hms hme hL hR ⊢
  have v1 : ∀ x, x < s → rotF f s m E x = f x := fun x hx => by simp only [rotF]; rw [if_neg (by omega), if_neg (by omega)]
  have v2 : ∀ x, s ≤ x → x < mid → rotF f s m E x = f (x + (m - s)) := fun x hx hx' => by simp only [rotF]; rw [if_pos (by omega)]
  have v3 : ∀ x, mid ≤ x → x < E → rotF f s m E x = f (x - (E - m)) := fun x hx hx' => by simp only [rotF]; rw [if_neg (by omega), if_pos (by omega)]
  have v4 : ∀ x, E ≤ x → rotF f s m E x = f x := fun x hx => by simp only [rotF]; rw [if_neg (by omega), if_neg (by omega)]
  refine ⟨?_, ?_, ?_, ?_, ?_⟩
  · exact (h1.mono (Nat.le_refl _) hsm).congr (fun k e1 e2 => v1 k e2)
  · intro i j e1 e2 e3
    rw [v2 i e1 (by omega), v2 j (by omega) e3]
    exact h2 _ _ (by omega) (by omega) (by omega)
  · intro i j e1 e2 e3
    rw [v3 i e1 (by omega), v3 j (by omega) e3]
    exact h1 _ _ (by omega) (by omega) (by omega)
  · exact (h2.mono (by omega) (Nat.le_refl _)).congr (fun k e1 e2 => v4 k e1)
  · intro i j e1 e2 e3 e4
    by_cases c1 : i < s
    · rw [v1 i c1]
      by_cases c2 : j < E
      · rw [v3 j e3 c2]; exact h1 i _ e1 (by omega) (by omega)
      · rw [v4 j (by omega)]
        rcases hL with hL | hL | ⟨g1, g2, g3⟩
        · omega
        · omega
        · have a1 : lt (f j) (f (s - 1)) = false := by
            by_cases e : j = E
            · rw [e]; exact g3
            · exact o.neg (h2 E j hms (by omega) e4) g3
          by_cases e : i = s - 1
          · rw [e]; exact a1
          · exact o.neg a1 (h1 i (s - 1) e1 (by omega) (by omega))
    · rw [v2 i (by omega) e2]
      by_cases c2 : j < E
      · rw [v3 j e3 c2]
        rcases hR with hR | hR | ⟨g1, g2, g3⟩
        · omega
        · omega
        · have a1 : lt (f s) (f (i + (m - s))) = false := by
            by_cases e : i + (m - s) = E - 1
            · rw [e]; exact o.asymm g3
            · exact o.neg (o.asymm g3) (h2 _ (E - 1) (by omega) (by omega) (by omega))
          by_cases e : j - (E - m) = s
          · rw [e]; exact a1
          · exact o.neg (h1 s _ has (by omega) (by omega)) a1
      · rw [v4 j (by omega)]
        exact h2 _ _ (by omega) (by omega) e4
theorem cross_kept {a mid b : Nat} {f g h : Nat → α} (c : ∀ i j, a ≤ i → i < mid → mid ≤ j → j < b → lt (f j) (f i) = false) (h1 : Sw a mid f g) (h2 : Sw mid b g h) : ∀ i j, a ≤ i → i < mid → mid ≤ j → j < b → lt (h j) (h i) = false := by
  intro i j e1 e2 e3 e4
  rw [h2.out (k := i) (.inl e2)]
  obtain ⟨j', f1, f2, f3⟩ := h2.from e3 e4
  obtain ⟨i', f4, f5, f6⟩ := h1.from e1 e2
  rw [f3, f6, h1.out (k := j') (.inr f1)]
  exact c i' j' f4 f5 f1 f2
inductive Runs (lt : α → α → Bool) (s n : Nat) (f : Nat → α) : Nat → Prop
  | done {x : Nat} : n ≤ x → Runs lt s n f x
  | step {x : Nat} : SOn lt x (min (x + s) n) f → Runs lt s n f (x + s) → Runs lt s n f x
inductive RunsTo (lt : α → α → Bool) (s : Nat) (f : Nat → α) : Nat → Prop
  | zero : RunsTo lt s f 0
  | step {x : Nat} : RunsTo lt s f x → SOn lt x (x + s) f → RunsTo lt s f (x + s)
theorem RunsTo.kept {s x a b : Nat} {f g : Nat → α} (h : RunsTo lt s f x) (k : Sw a b f g) (hx : x ≤ a) : RunsTo lt s g x := by
  induction h with
  | zero => exact .zero
  | step _ h2 ih => exact .step (ih (by omega)) (h2.kept k (.inl hx))
theorem Runs.kept {s n x a b : Nat} {f g : Nat → α} (h : Runs lt s n f x) (k : Sw a b f g) (hx : b ≤ x) : Runs lt s n g x := by
  induction h with
  | done h => exact .done h
  | step h2 _ ih => exact .step (h2.kept k (.inr hx)) (ih (by omega))
theorem RunsTo.le {s n x : Nat} {f : Nat → α} (h : RunsTo lt s f x) (k : Runs lt s n f x) (hx : x ≤ n) : Runs lt s n f 0 := by
  induction h with
  | zero => exact k
  | step _ h2 ih => exact ih (.step (by rw [Nat.min_eq_left hx]; exact h2) k) (by omega)
theorem Runs.inv {s n x : Nat} {f : Nat → α} (h : Runs lt s n f x) (hx : x < n) : SOn lt x (min (x + s) n) f ∧ Runs lt s n f (x + s) := by
  cases h with
  | done h => omega
  | step h1 h2 => exact ⟨h1, h2⟩
theorem Runs.last {s n : Nat} {f : Nat → α} (h : Runs lt s n f 0) (hn : n ≤ s) : SOn lt 0 n f := by
  cases h with
  | done h => exact .short (by omega)
  | step h1 _ => rw [Nat.zero_add, Nat.min_eq_right hn] at h1; exact h1
theorem Runs.rest {s n x : Nat} {f : Nat → α} (h : Runs lt s n f x) (hx : n ≤ x + s) : Runs lt (2 * s) n f x := by
  cases h with
  | done h => exact .done h
  | step h1 h2 => exact .step (by rw [Nat.min_eq_right (by omega)] at h1 ⊢; exact h1) (.done (by omega))
end
end Orange
end

section
set_option linter.unusedVariables false
set_option linter.unusedSimpArgs false
set_option maxRecDepth 100000
namespace Go.Proofs.YtjapbjmeoaagmaaGreatDoor
open Go.RowKit Go.Mem Orange
theorem world_eq {p : World → Prop} {W W' : World} (h : W = W') (k : p W') : p W := h ▸ k
abbrev MC := List UInt8 × Array Value
def cellsMC (x : MC) : List Value := .string ⟨x.1.toArray⟩ :: x.2.toList
def ltK (x y : MC) : Bool := keyLess x.1 y.1
theorem ltK_ord : WOrd ltK := by
  refine ⟨fun h => keyLess_asymm h, fun {a b c} h k => ?_⟩
  cases e : ltK a c with
  | false => rfl
  | true =>
    exfalso
    by_cases h1 : b.1 = c.1
    · have : keyLess a.1 b.1 = true := by rw [h1]; exact e
      have h' : keyLess a.1 b.1 = false := h
      rw [h'] at this; cases this
    · have h2 : keyLess c.1 b.1 = true := keyLess_not (show keyLess b.1 c.1 = false from k) h1
      have : keyLess a.1 b.1 = true := keyLess_trans (show keyLess a.1 c.1 = true from e) h2
      have h' : keyLess a.1 b.1 = false := h
      rw [h'] at this; cases this
def Eight (c : Array Value) : Prop := ∃ k b d s a1 n1 c1 a2 n2 c2, c = cellsV k b d s (.slice a1 n1 c1) (.slice a2 n2 c2)
theorem Eight.size {c : Array Value} (h : Eight c) : c.size = 8 := by
  obtain ⟨k, b, d, s, a1, n1, c1, a2, n2, c2, rfl⟩ := h; rfl
def RowS (w : World) (g cap n : Nat) (f : Nat → MC) : Prop :=
  RowC w g 9 43 cap (listF (fun i => cellsMC (f i)) n) ∧ ∀ i, i < n → (f i).1.length ≤ 35184372088000 ∧ Eight (f i).2
theorem RowS.lt {w : World} {g cap n : Nat} {f : Nat → MC} (h : RowS w g cap n f) : g < w.heap.size := h.1.lt
theorem RowS.keep {w w' : World} {g cap n : Nat} {f : Nat → MC} (h : RowS w g cap n f) (hb : w'.heap[g]? = w.heap[g]?) : RowS w' g cap n f := ⟨h.1.keep hb, h.2⟩
theorem RowS.ext {w w' : World} {g cap n : Nat} {f : Nat → MC} (h : RowS w g cap n f) (hx : Ext w w') : RowS w' g cap n f := h.keep (hx.block g h.lt)
theorem RowS.key {w : World} {g cap n : Nat} {f : Nat → MC} (h : RowS w g cap n f) {i : Nat} (hi : i < n) : (f i).1.length ≤ 35184372088000 := (h.2 i hi).1
theorem RowS.eight {w : World} {g cap n : Nat} {f : Nat → MC} (h : RowS w g cap n f) {i : Nat} (hi : i < n) : (f i).2.size = 8 := (h.2 i hi).2.size
theorem RowS.cap {w : World} {g cap n : Nat} {f : Nat → MC} (h : RowS w g cap n f) : n ≤ cap := by
  obtain ⟨cur, h1, h2, h3, _⟩ := h.1
  simpa [listF] using h3
theorem RowS.cell {w : World} {g cap n : Nat} {f : Nat → MC} (h : RowS w g cap n f) {i : Nat} (hi : i < n) {j : Nat} (hj : j < 9) : w.cell? ⟨g, i * 9 + j, none⟩ = (cellsMC (f i))[j]? := by
  rw [h.1.cell (i := i) (by simpa [listF] using hi) hj, listF_get]
theorem RowS.free {w : World} {g cap n : Nat} {f : Nat → MC} (h : RowS w g cap n f) (o : Nat) : w.frozen? ⟨g, o, none⟩ = false := h.1.free o
theorem cellsMC_len {x : MC} (h : x.2.size = 8) : (cellsMC x).length = 9 := by simp [cellsMC, h]
theorem RowS.put {w : World} {g cap n : Nat} {f : Nat → MC} (h : RowS w g cap n f) {i : Nat} (hi : i < n) (x : MC) (hx : x.1.length ≤ 35184372088000 ∧ Eight x.2) : RowS (storeL w g (i * 9) (cellsMC x)) g cap n (fun k => if k = i then x else f k) := by
  refine ⟨?_, fun k hk' => ?_⟩
  · have h1 := h.1.store (i := i) (by simpa [listF] using hi) 0 9 (cellsMC x) (by rw [cellsMC_len hx.2.size]) (Nat.le_refl _)
    have hl : ((listF (fun i => cellsMC (f i)) n)[i]'(by simpa [listF] using hi)).length = 9 := by rw [listF_get]; exact cellsMC_len (h.eight hi)
    rw [List.take_zero, List.drop_of_length_le (by omega), List.nil_append, List.append_nil, listF_set] at h1
    have e : (fun k => if k = i then cellsMC x else cellsMC (f k)) = (fun k => cellsMC (if k = i then x else f k)) := by
      funext k; split <;> rfl
    rw [e] at h1
    exact h1
  · show (if k = i then x else f k).1.length ≤ _ ∧ Eight (if k = i then x else f k).2
    split
    · exact hx
    · exact h.2 k hk'
theorem sw_put {f : Nat → MC} (i j : Nat) : (fun k => if k = j then f i else if k = i then f j else f k) = sw f i j := by
  rw [sw_comm]; rfl
theorem RowS.nine {w : World} {g cap n : Nat} {f : Nat → MC} (h : RowS w g cap n f) {i : Nat} (hi : i < n) : ∃ key k b d s a1 n1 c1 a2 n2 c2, f i = (key, cellsV k b d s (.slice a1 n1 c1) (.slice a2 n2 c2)) ∧ key.length ≤ 35184372088000 ∧ ∀ w' : World, Ext w w' →
    w'.cell? ⟨g, i * 9, none⟩ = some (.string ⟨key.toArray⟩) ∧ w'.cell? ⟨g, i * 9 + 1, none⟩ = some (.int .i64 k) ∧ w'.cell? ⟨g, i * 9 + 2, none⟩ = some (.bool b) ∧ w'.cell? ⟨g, i * 9 + 3, none⟩ = some (.bool d.neg) ∧ w'.cell? ⟨g, i * 9 + 4, none⟩ = some (.string ⟨d.digits.toArray⟩) ∧ w'.cell? ⟨g, i * 9 + 5, none⟩ = some (.int .i64 d.exp) ∧ w'.cell? ⟨g, i * 9 + 6, none⟩ = some (.string ⟨s.toArray⟩) ∧ w'.cell? ⟨g, i * 9 + 7, none⟩ = some (.slice a1 n1 c1) ∧ w'.cell? ⟨g, i * 9 + 8, none⟩ = some (.slice a2 n2 c2) := by
  obtain ⟨hk, k, b, d, s, a1, n1, c1, a2, n2, c2, e⟩ := h.2 i hi
  refine ⟨(f i).1, k, b, d, s, a1, n1, c1, a2, n2, c2, by rw [← e], hk, fun w' hx => ?_⟩
  have hc : ∀ j, j < 9 → w'.cell? ⟨g, i * 9 + j, none⟩ = (cellsMC (f i))[j]? := fun j hj => (h.ext hx).cell hi hj
  have e2 : cellsMC (f i) = [.string ⟨(f i).1.toArray⟩, .int .i64 k, .bool b, .bool d.neg, .string ⟨d.digits.toArray⟩, .int .i64 d.exp, .string ⟨s.toArray⟩, .slice a1 n1 c1, .slice a2 n2 c2] := by rw [cellsMC, e]
  rw [e2] at hc
  exact ⟨hc 0 (by omega), hc 1 (by omega), hc 2 (by omega), hc 3 (by omega), hc 4 (by omega), hc 5 (by omega), hc 6 (by omega), hc 7 (by omega), hc 8 (by omega)⟩
end Go.Proofs.YtjapbjmeoaagmaaGreatDoor
end

section
set_option linter.unusedVariables false
set_option maxRecDepth 100000
namespace Go.Proofs.YtjapbjmeoaagmaaGreatDoor
open Go.RowKit Go.Mem Orange
theorem or_strange (n : Int) (h0 : 0 ≤ n) (h1 : n < 256) : bits .or .i32 2097152 n = 2097152 + n := by
  have h := (bits_nat .i32 31 (by decide) wraps_i32 2097152 n.toNat (by decide) (by omega)).2
  rw [nat_join 8 2097152 n.toNat (by decide) (by omega)] at h
  have e : ((n.toNat : Nat) : Int) = n := by omega
  rw [e] at h
  have e2 : ((2097152 : Nat) : Int) = 2097152 := rfl
  rw [e2] at h
  rw [h]
  omega
theorem slice_eq {a b : Option Addr} {n m c d : Nat} (h0 : a = b) (h1 : n = m) (h2 : c = d) : Value.slice a n c = Value.slice b m d := by rw [h0, h1, h2]
def lenOf' : Value → Nat | .slice _ n _ => n | _ => 0
set_option maxHeartbeats 1600000 in
theorem each_any (f : Nat) (hf : f = 112 ∨ f = 113) (s : ByteArray) (p : Nat) (w : World) (hp : p < w.heap.size) (hl : s.size ≤ 140737488355328)
    (I : List Int → World → Prop) (hext : ∀ done w w', I done w → Ext w w' → I done w') (hI : I [] w)
    (hstep : ∀ done r w', I done w' → done.length + 1 ≤ s.size → -2147483648 ≤ r → r ≤ 2147483647 → w.heap.size < w'.heap.size → Calls Tryz.prog f #[.int .i32 r, .pointer (some ⟨p, 0, none⟩)] w' fun e w'' => e = .returned (.tuple #[]) ∧ I (done ++ [r]) w'' ∧ Kept (w.heap.size + 1) p w' w'') :
    Calls Tryz.prog 111 #[.string s, .func (.func f) #[] #[.pointer (some ⟨p, 0, none⟩)]] w fun e w' => e = .returned (.tuple #[]) ∧ I (marks s.data.toList) w' ∧ Kept w.heap.size p w w' := by
  have HSTEP := Lib.hid hstep
  have HEXT := Lib.hid hext
  clear hstep hext
  rcases hf with rfl | rfl
  all_goals
    go_enter Tryz.func111, Tryz.ntmps111
    go_wp2_with (refine wpList_bytes_of_string w rfl 9 56 5 _ rfl s rfl Tryz.underlying9 Tryz.underlying56 Tryz.underlying5 hl ?_; intro cap w1 hw1 hcap hcm hsz hat)
    have hL : s.data.toList.length = s.size := Array.length_toList
    obtain ⟨L, hLe⟩ : ∃ L, s.data.toList = L := ⟨_, rfl⟩
    rw [hLe] at hat hL
    have HLE := Lib.hid hLe
    clear hLe
    go_loopw [4] (fun v wr => ∃ (i o : Nat) (done : List Int), i ≤ s.size ∧ marks L = done ++ marks (L.drop i) ∧ done.length ≤ i ∧ I done wr ∧ Kept (w.heap.size + 1) p w1 wr ∧ v = .slice (some ⟨w.heap.size, o, none⟩) (s.size - i) (cap - i) ∧ (i < s.size → o = i)) (fun v _ => lenOf' v)
    case atStart => exact ⟨0, 0, [], by omega, rfl, by simp, HEXT.out _ _ _ hI hw1, Kept.refl _ _ _, rfl, fun _ => rfl⟩
    case round =>
      obtain ⟨i, o, done, hi, hm, hdl, hId, hk, rfl, ho⟩ := hrel
      have HM := Lib.hid hm
      clear hm
      by_cases hlt : i < s.size
      · obtain rfl := ho hlt
        have hbs : Bytes wr (.slice (some ⟨w.heap.size, o, none⟩) (s.size - o) (cap - o)) (L.drop o) := by
          have := (hat.kept hk (by omega) (by omega)).drop o
          rw [Nat.zero_add] at this
          exact Bytes.mk this (by simp [hL]) (by omega) (by omega) (by omega)
        obtain ⟨x, t, hxt⟩ : ∃ x t, L.drop o = x :: t := by
          cases h : L.drop o with
          | nil => simp at h; omega
          | cons x t => exact ⟨x, t, rfl⟩
        have hmc := marks_cons x t
        have hmk : Orange.mark (L.drop o) = if (next (L.drop o)).2 = 0 then 2097152 + (x.toNat : Int) else (next (L.drop o)).1 := by rw [hxt]; rfl
        rw [← hxt] at hmc
        have hle := next_le (L.drop o)
        have hbd := next_bd (L.drop o)
        have hlen : (L.drop o).length = s.size - o := by simp [hL]
        rw [hlen] at hle
        have hx8 : x.toNat < 256 := x.toNat_lt
        have hc0 : wr.cell? ⟨w.heap.size, o, none⟩ = some (.int .u8 x.toNat) := by
          have h1 := hbs
          rw [hxt] at h1
          rcases h1.cases with ⟨h, _⟩ | ⟨x', t', b', o', cap', h, h2, _, _, _, _, h3, _, _⟩
          · cases h
          · simp only [List.cons.injEq] at h
            simp only [Value.slice.injEq, Option.some.injEq, Addr.mk.injEq, and_true] at h2
            obtain ⟨⟨rfl, rfl⟩, _, _⟩ := h2
            obtain ⟨rfl, _⟩ := h
            exact h3
        have hcl : w.heap.size < wr.heap.size := by have := hk.size; omega
        have HMC := Lib.hid hmc
        have HMK := Lib.hid hmk
        clear hmc hmk hxt hlen
        by_cases hz : (next (L.drop o)).2 = 0
        · have hor := or_strange x.toNat (by omega) (by omega)
          go_wp2_with (first
            | (go_at_call 139; refine (next_any _ _ _ hbs).mono ?_; rintro e w' ⟨rfl, hb1⟩; have hc1 := hb1.cell (p := ⟨w.heap.size, o, none⟩) hcl; rw [hc0] at hc1)
            | (refine (HSTEP.out done _ _ (HEXT.out _ _ _ hId hb1) (by omega) (by omega) (by omega) (by have := hb1.size; omega)).mono ?_; rintro e w2 ⟨rfl, hI2, hk2⟩))
          all_goals
            have hk3 : Kept (w.heap.size + 1) p w1 w2 := (hk.trans (Kept.ofBelow (hb1.mono (by omega)))).trans hk2
            go_roundw
            case rel =>
              have hm2 : marks L = (done ++ [2097152 + (x.toNat : Int)]) ++ marks (L.drop (o + 1)) := by
                rw [HM.out, HMC.out, HMK.out, if_pos hz]
                simp [adv, hz]
              exact ⟨o + 1, if cap - o = 1 then o else o + 1, _, by omega, hm2, by simp; omega, hI2, hk3, slice_eq (by split <;> rfl) (by omega) (by omega), fun h => if_neg (by omega)⟩
            case measure => simp [lenOf']; omega
        · have hz1 : ((((next (L.drop o)).2 : Nat) : Int) == 0) = false := by simp; omega
          go_wp2_with (first
            | (go_at_call 139; refine (next_any _ _ _ hbs).mono ?_; rintro e w' ⟨rfl, hb1⟩)
            | (refine (HSTEP.out done _ _ (HEXT.out _ _ _ hId hb1) (by omega) (by omega) (by omega) (by have := hb1.size; omega)).mono ?_; rintro e w2 ⟨rfl, hI2, hk2⟩))
          all_goals
            have hk3 : Kept (w.heap.size + 1) p w1 w2 := (hk.trans (Kept.ofBelow (hb1.mono (by omega)))).trans hk2
            go_roundw
            case rel =>
              have hm2 : marks L = (done ++ [(next (L.drop o)).1]) ++ marks (L.drop (o + (next (L.drop o)).2)) := by
                rw [HM.out, HMC.out, HMK.out, if_neg hz]
                simp [adv, hz]
              exact ⟨o + (next (L.drop o)).2, if cap - o = (next (L.drop o)).2 then o else o + (next (L.drop o)).2, _, by omega, hm2, by simp; omega, hI2, hk3, slice_eq (by split <;> rfl) (by omega) (by omega), fun h => if_neg (by omega)⟩
            case measure => simp [lenOf']; omega
      · have hz2 : ¬ (0 < s.size - i) := by omega
        obtain rfl : i = s.size := by omega
        go_wp2_with fail
        go_end0
        refine ⟨rfl, ?_, ((Kept.ofBelow hw1).trans (hk.mono (by omega)))⟩
        have := HM.out
        rw [List.drop_eq_nil_of_le (by omega), marks_nil, List.append_nil] at this
        rw [HLE.out, this]
        exact hId
end Go.Proofs.YtjapbjmeoaagmaaGreatDoor
end

section
set_option linter.unusedVariables false
set_option maxRecDepth 100000
namespace Go.Proofs.YtjapbjmeoaagmaaGreatDoor
open Go.RowKit Go.Mem Orange
theorem marks_len : ∀ (b : List UInt8), (marks b).length ≤ b.length := by
  have h : ∀ (n : Nat) (b : List UInt8), b.length ≤ n → (marks b).length ≤ b.length := by
    intro n
    induction n with
    | zero => intro b hb; cases b with
      | nil => simp [marks_nil]
      | cons x t => simp at hb
    | succ n ih =>
      intro b hb
      cases b with
      | nil => simp [marks_nil]
      | cons x t =>
        rw [marks_cons, List.length_cons]
        have ha := adv_pos (x :: t)
        have := ih ((x :: t).drop (adv (x :: t))) (by simp at hb ⊢; omega)
        simp at this ⊢; omega
  exact fun b => h b.length b (Nat.le_refl _)
def cells32 (xs : List Int) : List Value := xs.map fun r => Value.int .i32 r
theorem info32 : (Tryz.prog.info? 21).map (fun i => (i.zero, i.size, i.bytes)) = some (some (.int .i32 0), 1, 4) := by kernel_rfl
def Gath (base p : Nat) (done : List Int) (w : World) : Prop :=
  ∃ v, w.heap[p]? = some (.cells #[v] 152 (0, 0)) ∧ w.ownsRow base 21 1 v done.length (cells32 done)
theorem Gath.ext {base p : Nat} {done : List Int} {w w' : World} (h : Gath base p done w) (hb : Ext w w') : Gath base p done w' := by
  obtain ⟨v, h1, h2⟩ := h
  refine ⟨v, by rw [hb.block _ (lt_of_block h1)]; exact h1, h2.1, ?_⟩
  rcases h2.2 with h | ⟨g, cap, cur, e, hb', hg, rest⟩
  · exact .inl h
  · exact .inr ⟨g, cap, cur, e, hb', by rw [hb.block g (Array.getElem?_eq_some_iff.1 hg).1]; exact hg, rest⟩
theorem Gath.kept {base p B q : Nat} {done : List Int} {w w' : World} (h : Gath base p done w) (hk : Kept B q w w') (hB : w.heap.size ≤ B) (hpq : p ≠ q) (hq : q < base) : Gath base p done w' := by
  obtain ⟨v, h1, h2⟩ := h
  have hp := lt_of_block h1
  refine ⟨v, by rw [hk.block _ (by omega) hpq]; exact h1, h2.1, ?_⟩
  rcases h2.2 with h | ⟨g, cap, cur, e, hb', hg, rest⟩
  · exact .inl h
  · have hgl := (Array.getElem?_eq_some_iff.1 hg).1
    exact .inr ⟨g, cap, cur, e, hb', by rw [hk.block g (by omega) (by omega)]; exact hg, rest⟩
theorem own_shape {w : World} {base : Nat} {e : TypeId} {size : Nat} {v : Value} {n : Nat} {xs : List Value} (h : w.ownsRow base e size v n xs) : ∃ a c, v = .slice a n c := by
  rcases h.2 with ⟨rfl, rfl⟩ | ⟨g, cap, cur, rfl, _⟩
  · exact ⟨_, _, rfl⟩
  · exact ⟨_, _, rfl⟩
theorem one_grown {w w' : World} {o : Obj} {base p : Nat} {v u : Value} {t : TypeId} {e : TypeId} {size n : Nat} {xs : List Value} (h : w.heap[p]? = some (.cells #[u] t (0, 0))) (hown : (w.alloc o).ownsRow base e size v n xs) (hg : (w.alloc o).grownBy w' v.ownBlock) (hp : p < base) : w'.heap[p]? = some (.cells #[u] t (0, 0)) := by
  have hl := lt_of_block h
  rw [hg.block p (by simp; omega) (fun e => by have := (hown.lt p e.symm).1; omega), Below.heap_alloc _ _ _ hl]
  exact h
set_option maxHeartbeats 800000 in
theorem lessFn (f : Nat) (hf : f = 112 ∨ f = 113) (r : Int) (base p : Nat) (done : List Int) (w : World) (h : Gath base p done w) (hp : p < base) (hbase : base ≤ w.heap.size) (hn : done.length + 1 ≤ 35184372088832) :
    Calls Tryz.prog f #[.int .i32 r, .pointer (some ⟨p, 0, none⟩)] w fun e w' => e = .returned (.tuple #[]) ∧ Gath base p (done ++ [r]) w' ∧ Kept base p w w' := by
  obtain ⟨v, h1, h2⟩ := h
  have hc := cell_of_one h1
  have hf0 := free_of_one h1
  have hpl := lt_of_block h1
  rcases hf with rfl | rfl
  · obtain ⟨i0, hi, hz0, hz1, hz2⟩ := info_parts info32
    have hown' : (w.alloc (.cells #[.int .i32 r] 21)).ownsRow base 21 1 v done.length (cells32 done) := h2.alloc _
    have hbs : base ≤ (w.alloc (.cells #[.int .i32 r] 21)).heap.size := by simp; omega
    have H1 := Lib.hid h1
    clear h1
    go_enter Tryz.func112, Tryz.ntmps112
    go_wp2_with (at_builtin; refine wpList_append_src _ rfl _ _ 152 152 rfl base 21 i0 (.int .i32 0) 1 4 Tryz.underlying152 hi hz0 hz1 hz2 rfl (by decide) v _ _ rfl hown' _ 1 [.int .i32 r] rfl (Src.ofSlice _ Tryz.underlying152 ⟨w.heap.size, 0, none⟩ 1 1 _ rfl (cell_of_block1 (heap_alloc_new _ _)) (one_of1 rfl)) (by simp only [maxLen]; omega) (by omega) hbs ?_; intro v5 w5 hown5 hgr5; obtain ⟨a5, c5, rfl⟩ := own_shape hown5; have h5 := one_grown H1.out hown' hgr5 hp; have hc5 := cell_of_one h5; have hf5 := free_of_one h5; have H5 := Lib.hid h5; clear h5)
    go_end0
    have hk1 : Kept base p w (w.alloc (.cells #[.int .i32 r] 21)) := Kept.ofBelow ((Below.refl base w).alloc hbase _)
    have hk2 : Kept base p (w.alloc (.cells #[.int .i32 r] 21)) w5 := Kept.ofBelow (Below.ofGrown hgr5 hown' hbs)
    refine ⟨rfl, ⟨_, one_setCell H5.out, ?_⟩, (hk1.trans hk2).trans (Kept.setCell _)⟩
    have e : cells32 (done ++ [r]) = cells32 done ++ [.int .i32 r] := by simp [cells32]
    rw [e, List.length_append]
    exact ownsRow_setCell_below hown5 hp _
  · obtain ⟨i0, hi, hz0, hz1, hz2⟩ := info_parts info32
    have hown' : (w.alloc (.cells #[.int .i32 r] 21)).ownsRow base 21 1 v done.length (cells32 done) := h2.alloc _
    have hbs : base ≤ (w.alloc (.cells #[.int .i32 r] 21)).heap.size := by simp; omega
    have H1 := Lib.hid h1
    clear h1
    go_enter Tryz.func113, Tryz.ntmps113
    go_wp2_with (at_builtin; refine wpList_append_src _ rfl _ _ 152 152 rfl base 21 i0 (.int .i32 0) 1 4 Tryz.underlying152 hi hz0 hz1 hz2 rfl (by decide) v _ _ rfl hown' _ 1 [.int .i32 r] rfl (Src.ofSlice _ Tryz.underlying152 ⟨w.heap.size, 0, none⟩ 1 1 _ rfl (cell_of_block1 (heap_alloc_new _ _)) (one_of1 rfl)) (by simp only [maxLen]; omega) (by omega) hbs ?_; intro v5 w5 hown5 hgr5; obtain ⟨a5, c5, rfl⟩ := own_shape hown5; have h5 := one_grown H1.out hown' hgr5 hp; have hc5 := cell_of_one h5; have hf5 := free_of_one h5; have H5 := Lib.hid h5; clear h5)
    go_end0
    have hk1 : Kept base p w (w.alloc (.cells #[.int .i32 r] 21)) := Kept.ofBelow ((Below.refl base w).alloc hbase _)
    have hk2 : Kept base p (w.alloc (.cells #[.int .i32 r] 21)) w5 := Kept.ofBelow (Below.ofGrown hgr5 hown' hbs)
    refine ⟨rfl, ⟨_, one_setCell H5.out, ?_⟩, (hk1.trans hk2).trans (Kept.setCell _)⟩
    have e : cells32 (done ++ [r]) = cells32 done ++ [.int .i32 r] := by simp [cells32]
    rw [e, List.length_append]
    exact ownsRow_setCell_below hown5 hp _
theorem Gath.read {base p : Nat} {done : List Int} {w : World} (h : Gath base p done w) : ∃ a c, w.cell? ⟨p, 0, none⟩ = some (.slice a done.length c) ∧
    (0 < done.length → ∃ g, a = some ⟨g, 0, none⟩ ∧ ∀ i, (h : i < done.length) → w.cell? ⟨g, i, none⟩ = some (.int .i32 done[i])) := by
  obtain ⟨v, h1, h2⟩ := h
  obtain ⟨a, c, rfl⟩ := own_shape h2
  refine ⟨a, c, cell_of_one h1, fun hn => ?_⟩
  rcases h2.2 with ⟨h, h0⟩ | ⟨g, cap, cur, e, hb, hg, hnc, hcm, hcs, ht⟩
  · omega
  · simp only [Value.slice.injEq] at e
    obtain ⟨rfl, _, rfl⟩ := e
    refine ⟨g, rfl, fun i hi => ?_⟩
    have hc : (cells32 done)[i]? = some (.int .i32 done[i]) := by simp [cells32, hi]
    rw [← ht, Nat.mul_one, List.getElem?_take] at hc
    simp only [hi, if_true, Array.getElem?_toList] at hc
    simp [World.cell?, hg, hc]
end Go.Proofs.YtjapbjmeoaagmaaGreatDoor
end

section
set_option linter.unusedVariables false
set_option maxRecDepth 100000
namespace Go.Proofs.YtjapbjmeoaagmaaGreatDoor
open Go.RowKit Go.Mem Orange
set_option maxHeartbeats 1600000 in
theorem less_any (s t : ByteArray) (w : World) (hs : s.size ≤ 35184372088000) (ht : t.size ≤ 35184372088000) :
    Calls Tryz.prog 91 #[.string s, .string t] w fun e w' => e = .returned (.bool (lessL (marks s.data.toList) (marks t.data.toList))) ∧ Ext w w' := by
  go_enter Tryz.func91, Tryz.ntmps91
  go_wp2_with fail
  generalize hw1 : ((w.alloc (.cells #[.slice none 0 0] 152)).alloc (.cells #[.slice none 0 0] 152)) = w1
  have hsz : w1.heap.size = w.heap.size + 2 := by rw [← hw1]; simp
  have hb1 : w1.heap[w.heap.size]? = some (.cells #[.slice none 0 0] 152 (0, 0)) := by rw [← hw1, Below.heap_alloc _ _ _ (by simp)]; exact heap_alloc_new _ _
  have hb2 : w1.heap[w.heap.size + 1]? = some (.cells #[.slice none 0 0] 152 (0, 0)) := by rw [← hw1, show w.heap.size + 1 = (w.alloc (.cells #[.slice none 0 0] 152)).heap.size by simp]; exact heap_alloc_new _ _
  have hx1 : Ext w w1 := by rw [← hw1]; exact ((ext_refl w).alloc (Nat.le_refl _) _).alloc (by simp) _
  clear hw1
  refine (each_any _ (.inl rfl) s _ _ (by omega) (by omega) (fun done w' => Gath (w1.heap.size + 1) w.heap.size done w') (fun _ _ _ h hx => h.ext hx) ⟨_, hb1, World.ownsRow_nil _ _ _ _⟩ ?_).mono ?_
  · intro done r w' h hd _ _ hlt
    exact lessFn _ (.inl rfl) r _ _ done w' h (by omega) (by omega) (by omega)
  rintro e w2 ⟨rfl, hg1, hk2⟩
  have hb2' : w2.heap[w.heap.size + 1]? = some (.cells #[.slice none 0 0] 152 (0, 0)) := by rw [hk2.block _ (by omega) (by omega)]; exact hb2
  have hz2 := hk2.size
  clear hb1 hb2
  go_wp2_with fail
  refine (each_any _ (.inr rfl) t _ _ (by omega) (by omega) (fun done w' => Gath (w2.heap.size + 1) (w.heap.size + 1) done w') (fun _ _ _ h hx => h.ext hx) ⟨_, hb2', World.ownsRow_nil _ _ _ _⟩ ?_).mono ?_
  · intro done r w' h hd _ _ hlt
    exact lessFn _ (.inr rfl) r _ _ done w' h (by omega) (by omega) (by omega)
  rintro e w3 ⟨rfl, hg2, hk3⟩
  have hg1' := hg1.kept hk3 (Nat.le_refl _) (by omega) (by omega)
  have hx3 : Ext w w3 := hx1.trans (((hk2.mono (show w.heap.size ≤ w1.heap.size by omega)).below (Nat.le_refl _)).trans ((hk3.mono (show w.heap.size ≤ w2.heap.size by omega)).below (by omega)))
  obtain ⟨a1, c1, hc1, he1⟩ := hg1'.read
  obtain ⟨a2, c2, hc2, he2⟩ := hg2.read
  have hl1 : (marks s.data.toList).length ≤ 35184372088000 := Nat.le_trans (marks_len _) (by rw [Array.length_toList]; exact hs)
  have hl2 : (marks t.data.toList).length ≤ 35184372088000 := Nat.le_trans (marks_len _) (by rw [Array.length_toList]; exact ht)
  obtain ⟨l, hLe⟩ : ∃ l, marks s.data.toList = l := ⟨_, rfl⟩
  obtain ⟨m, hMe⟩ : ∃ m, marks t.data.toList = m := ⟨_, rfl⟩
  rw [hLe] at hc1 he1 hl1
  rw [hMe] at hc2 he2 hl2
  have HLE := Lib.hid hLe
  have HME := Lib.hid hMe
  clear hLe hMe
  have HE1 := Lib.hid he1
  have HE2 := Lib.hid he2
  clear he1 he2 hg1 hg1' hg2 hk2 hk3 hb2' hz2
  go_wp2_with fail
  all_goals
    go_loopw [19] (fun kv wr => ∃ k n : Nat, kv = .int .i64 k ∧ k ≤ l.length ∧ k ≤ m.length ∧ wr = w3.drewN n ∧ lessL l m = lessL (l.drop k) (m.drop k)) (fun kv _ => l.length - (intOf kv).toNat)
    case atStart => exact ⟨0, 0, rfl, by omega, by omega, rfl, rfl⟩
    case round =>
      obtain ⟨k, n, rfl, hk1, hk2, rfl, hr⟩ := hrel
      have HR := Lib.hid hr
      clear hr
      by_cases hlt : k < l.length ∧ k < m.length
      · obtain ⟨h1, h2⟩ := hlt
        obtain ⟨g1, rfl, hg1⟩ := HE1.out (by omega)
        obtain ⟨g2, rfl, hg2⟩ := HE2.out (by omega)
        have hx1 := hg1 k h1
        have hx2 := hg2 k h2
        have hat := lessL_at l m k h1 h2
        generalize l[k] = x at hx1 hat
        generalize m[k] = y at hx2 hat
        have HAT := Lib.hid hat
        clear hat hg1 hg2
        by_cases hxy : x = y
        · have hb : (x != y) = false := by simp [hxy]
          have HXY := Lib.hid hxy
          clear hxy
          go_wp2_with fail
          go_quiet (fail)
          go_wp2_with fail
          go_roundw
          case rel => exact ⟨k + 1, _, by go_num, by omega, by omega, rfl, by rw [HR.out, HAT.out, if_pos HXY.out]⟩
          case measure => simp [intOf]; omega
        · have hb : (x != y) = true := by simp [hxy]
          go_wp2_with fail
          go_quiet (fail)
          go_wp2_with fail
          go_quiet (fail)
          go_wp2_with fail
          go_ret
          exact ⟨ret_bool (by rw [HLE.out, HME.out, HR.out, HAT.out, if_neg hxy]), below_drewN (below_drewN (below_drewN hx3 _) _) _⟩
      · have hkk : k = min l.length m.length := by omega
        have hend := lessL_end l m k hkk
        have HEND := Lib.hid hend
        clear hend hkk
        go_wp2_with fail
        go_ret
        exact ⟨ret_bool (by rw [HLE.out, HME.out, HR.out, HEND.out]), below_drewN hx3 _⟩
end Go.Proofs.YtjapbjmeoaagmaaGreatDoor
end

section
set_option linter.unusedVariables false
set_option linter.unusedSimpArgs false
set_option maxRecDepth 100000
namespace Go.Proofs.YtjapbjmeoaagmaaGreatDoor
open Go.RowKit Go.Mem Orange
def cmpV (a b : List UInt8) : Int := if keyLess a b = true then -1 else if keyLess b a = true then 1 else 0
theorem cmpV_lt (a b : List UInt8) : decide (cmpV a b < 0) = keyLess a b := by
  unfold cmpV
  cases h : keyLess a b with
  | true => rfl
  | false =>
    cases h2 : keyLess b a with
    | true => rfl
    | false => rfl
theorem ordered_any (s t : ByteArray) (w : World) (hs : s.size ≤ 35184372088000) (ht : t.size ≤ 35184372088000) :
    Calls Tryz.prog 71 #[.string s, .string t] w fun e w' => e = .returned (.int .i64 (cmpV s.data.toList t.data.toList)) ∧ Ext w w' := by
  go_enter Tryz.func71, Tryz.ntmps71
  go_wp2_with fail
  refine (less_any s t w hs ht).mono ?_
  rintro e w1 ⟨rfl, hx1⟩
  have hK : keyLess s.data.toList t.data.toList = lessL (marks s.data.toList) (marks t.data.toList) := rfl
  have hK2 : keyLess t.data.toList s.data.toList = lessL (marks t.data.toList) (marks s.data.toList) := rfl
  cases h : lessL (marks s.data.toList) (marks t.data.toList) with
  | true =>
    go_wp2_with fail
    go_ret
    refine ⟨?_, hx1⟩
    unfold cmpV
    rw [hK, h, if_pos rfl]
    rfl
  | false =>
    go_wp2_with fail
    refine (less_any t s w1 ht hs).mono ?_
    rintro e w2 ⟨rfl, hx2⟩
    cases h2 : lessL (marks t.data.toList) (marks s.data.toList) with
    | true =>
      go_wp2_with fail
      go_ret
      refine ⟨?_, ext_trans hx1 hx2⟩
      unfold cmpV
      rw [hK, h, if_neg (by decide), hK2, h2, if_pos rfl]
      rfl
    | false =>
      go_wp2_with fail
      go_ret
      refine ⟨?_, ext_trans hx1 hx2⟩
      unfold cmpV
      rw [hK, h, if_neg (by decide), hK2, h2, if_neg (by decide)]
      rfl
theorem cmp_any (kx ky : List UInt8) (c0 c1 c2 c3 c4 c5 c6 c7 d0 d1 d2 d3 d4 d5 d6 d7 : Value) (w : World) (hkx : kx.length ≤ 35184372088000) (hky : ky.length ≤ 35184372088000) :
    Calls Tryz.prog 70 #[.agg #[.string ⟨kx.toArray⟩, c0, c1, c2, c3, c4, c5, c6, c7], .agg #[.string ⟨ky.toArray⟩, d0, d1, d2, d3, d4, d5, d6, d7]] w fun e w' => e = .returned (.int .i64 (cmpV kx ky)) ∧ Ext w w' := by
  go_enter Tryz.func70, Tryz.ntmps70
  go_wp2_with fail
  refine (ordered_any _ _ _ (by simpa [ByteArray.size] using hkx) (by simpa [ByteArray.size] using hky)).mono ?_
  rintro e w1 ⟨rfl, hx1⟩
  go_wp2_with fail
  go_ret
  exact ⟨rfl, ext_trans (((ext_refl w).alloc (Nat.le_refl _) _).alloc (by simp) _) hx1⟩
end Go.Proofs.YtjapbjmeoaagmaaGreatDoor
end

section
set_option linter.unusedVariables false
set_option linter.unusedSimpArgs false
set_option maxRecDepth 100000
namespace Go.Proofs.YtjapbjmeoaagmaaGreatDoor
open Go.RowKit Go.Mem Orange
theorem cmpV_true {a b : List UInt8} (h : keyLess a b = true) : cmpV a b < 0 := by simpa [h] using cmpV_lt a b
theorem cmpV_false {a b : List UInt8} (h : keyLess a b = false) : ¬ cmpV a b < 0 := by simpa [h] using cmpV_lt a b
set_option maxHeartbeats 6400000 in
theorem insSort_any (g cap n : Nat) (f : Nat → MC) (a b : Nat) (w : World) (h : RowS w g cap n f) (hab : a ≤ b) (hb : b ≤ n) (hn : n ≤ 1000000) :
    Calls Tryz.prog 109 #[.slice (some ⟨g, 0, none⟩) n cap, .int .i64 a, .int .i64 b, .func (.func 70) #[] #[]] w (fun e w' => e = .returned (.tuple #[]) ∧ ∃ f', RowS w' g cap n f' ∧ Sw a b f f' ∧ SOn ltK a b f' ∧ KeptP g w w') := by
  have wa : IntKind.i64.wrap ((a : Int) + 1) = ((a + 1 : Nat) : Int) := by rw [IntWalk.i64_in _ (by omega)]; omega
  have H := Lib.hid h
  clear h
  go_enter Tryz.func109, Tryz.ntmps109
  go_wp2_with fail
  go_loopw [8] (fun iv wr => ∃ (i : Nat) (F0 : Nat → MC), iv = .int .i64 i ∧ a + 1 ≤ i ∧ (i ≤ b ∨ i = a + 1) ∧ SOn ltK a i F0 ∧ Sw a b f F0 ∧ RowS wr g cap n F0 ∧ KeptP g w wr) (fun iv _ => b - (intOf iv).toNat)
  case atStart => exact ⟨a + 1, f, rfl, by omega, .inr rfl, .short (by omega), .refl, H.out, KeptP.refl _ _⟩
  case round =>
    obtain ⟨i, F0, rfl, hi, hib, hso, hsw, hr, hk⟩ := hrel
    have HSO := Lib.hid hso
    have HSW := Lib.hid hsw
    have HR0 := Lib.hid hr
    have HK0 := Lib.hid hk
    clear hso hsw hr hk H wa
    by_cases hlt : i < b
    · have wi : IntKind.i64.wrap ((i : Int) + 1) = ((i + 1 : Nat) : Int) := by rw [IntWalk.i64_in _ (by omega)]; omega
      go_wp2_with fail
      go_loopw [9] (fun jv wx => ∃ (j : Nat) (F : Nat → MC), jv = .int .i64 j ∧ a ≤ j ∧ j ≤ i ∧ Ins ltK a i j F ∧ Sw a b f F ∧ RowS wx g cap n F ∧ KeptP g w wx) (fun jv _ => (intOf jv).toNat)
      case atStart => exact ⟨i, F0, rfl, by omega, by omega, Ins.start HSO.out, HSW.out, HR0.out, HK0.out⟩
      case round =>
        obtain ⟨j, F, rfl, hj, hji, hins, hsw, hr, hk⟩ := hrel
        have HIN := Lib.hid hins
        have HSW := Lib.hid hsw
        have HR := Lib.hid hr
        have HK := Lib.hid hk
        clear hins hsw hr hk
        by_cases hja : a < j
        · have q1 : decide ((a : Int) < (j : Int)) = true := by simp; omega
          obtain ⟨p, hp⟩ : ∃ p, j - 1 = p := ⟨_, rfl⟩
          have wj : IntKind.i64.wrap ((j : Int) - 1) = (p : Int) := by rw [IntWalk.i64_in _ (by omega)]; omega
          have hjn : j < n := by omega
          have hpn : p < n := by omega
          obtain ⟨jkey, jk, jb, jd, js, ja1, jn1, jc1, ja2, jn2, jc2, ej, hjk, hcj⟩ := HR.out.nine hjn
          obtain ⟨pkey, pk, pb, pd, ps, pa1, pn1, pc1, pa2, pn2, pc2, ep, hpk, hcp⟩ := HR.out.nine hpn
          have HCJ := Lib.hid hcj
          have HCP := Lib.hid hcp
          have hlt2 : ltK (F j) (F p) = keyLess jkey pkey := by rw [ej, ep]; rfl
          have HLT := Lib.hid hlt2
          clear hcj hcp ej ep hlt2
          have hjl : (j : Int) < n := by omega
          have hj0 : (0 : Int) ≤ j := by omega
          have hpl : (p : Int) < n := by omega
          have hp0 : (0 : Int) ≤ p := by omega
          go_upto_region 4 with fail
          refine Grow.wp_region_litW (G := Ext) (B := fun w' => Ext wr w') (anc := fun _ => []) (I := fun j => if j = 14 then some (Grow.Spec.val Ext (.int .i64 (cmpV jkey pkey))) else none) (by kernel_rfl) (by kernel_rfl) (by kernel_rfl) ?_ ?_ ?_
          · exact fun w w' h hg => ext_trans h hg
          · exact (ext_refl _).drew
          repeat
            (refine Grow.Wk.step (fun K hK => ?_)
             first
             | (refine Grow.step_read (by rfl) (by rfl) (fun w => ext_refl w) ?_
                apply Exists.intro
                refine ⟨fun w hB hF => ?_, ?_⟩
                · first | (replace hB : Ext _ w := hB; obtain ⟨x0, x1, x2, x3, x4, x5, x6, x7, x8⟩ := HCJ.out w hB; obtain ⟨y0, y1, y2, y3, y4, y5, y6, y7, y8⟩ := HCP.out w hB) | skip
                  go_simp
                  try exact rfl
                go_simp
                refine hK _ _ ?_
                clear hK K)
             | (refine Grow.step_off (by rfl) ?_
                go_simp
                refine hK _ _ ?_
                clear hK K))
          refine Grow.Wk.step (fun K hK => ?_)
          refine Grow.step_rel (by rfl) (by rfl) (fun w' hB hF => ?_) (fun v hv => ?_)
          · go_simp
            refine Grow.relUpon_enter ((cmp_any jkey pkey _ _ _ _ _ _ _ _ _ _ _ _ _ _ _ _ w' hjk hpk).mono ?_)
            rintro e w'' ⟨rfl, hw''⟩
            exact ⟨_, rfl, hw'', rfl, trivial⟩
          obtain rfl : v = _ := hv
          go_simp
          refine hK _ _ ?_
          clear hK K
          repeat
            (refine Grow.Wk.step (fun K hK => ?_)
             first
             | (refine Grow.step_read (by rfl) (by rfl) (fun w => ext_refl w) ?_
                apply Exists.intro
                refine ⟨fun w hB hF => ?_, ?_⟩
                · skip
                  go_simp
                  try exact rfl
                go_simp
                refine hK _ _ ?_
                clear hK K)
             | (refine Grow.step_off (by rfl) ?_
                go_simp
                refine hK _ _ ?_
                clear hK K))
          refine Grow.Wk.nil ?_
          intro wv hB hF
          replace hB : Ext wr wv := hB
          clear hF
          have HR4 := Lib.hid (HR.out.ext hB)
          have HKX := Lib.hid (HK.out.trans (KeptP.ofExt hB))
          clear hB
          cases hl : keyLess jkey pkey with
          | true =>
            have q3 := cmpV_true hl
            have HL := Lib.hid (HLT.out.trans hl)
            clear hl HLT HCJ HCP
            go_upto_region 6 with fail
            clear wj
            have wj2 : IntKind.i64.wrap ((j : Int) - 1) = (p : Int) := by rw [IntWalk.i64_in _ (by omega)]; omega
            obtain ⟨ikey, ik, ib, id', is', ia1, in1, ic1, ia2, in2, ic2, ei, hik, hci⟩ := HR4.out.nine hjn
            obtain ⟨jkey, jk, jb, jd, js, ja1, jn1, jc1, ja2, jn2, jc2, ej, hjk, hcj⟩ := HR4.out.nine hpn
            have HCI := Lib.hid hci
            have HCJ := Lib.hid hcj
            have hput := HR4.out.put hjn (F p) (HR4.out.2 _ hpn)
            rw [ej] at hput
            have HPUT := Lib.hid hput
            have HEI := Lib.hid ei
            have HEJ := Lib.hid ej
            have hil : (j : Int) < n := by omega
            have hjl : (p : Int) < n := by omega
            have hi0 : (0 : Int) ≤ j := by omega
            have hj0 : (0 : Int) ≤ p := by omega
            obtain ⟨F1, hF1⟩ : ∃ F1, (fun x => if x = j then ((jkey, cellsV jk jb jd js (.slice ja1 jn1 jc1) (.slice ja2 jn2 jc2)) : MC) else F x) = F1 := ⟨_, rfl⟩
            rw [hF1] at HPUT
            have HF1 := Lib.hid hF1
            clear hci hcj hput ei ej hF1
            refine GrowS.wp_region_restW (G0 := Ext) (G1 := fun w1 w' => KeptP g w1 w' ∧ RowS w' g cap n F1) (B0 := fun w' => Ext wv w') (B1 := fun w' => KeptP g wv w' ∧ RowS w' g cap n F1) (E := fun _ _ => False) (anc := fun j => []) (I := fun j => if j = 15 then some (GrowS.Spec.val _ undef) else none) 15 16 (fun j => ([[], [], [], [], [3], [], [], [6], [5, 6, 7], [5, 6, 7, 8], [], [], [10, 11], [10, 11, 12], [0, 1, 5, 6, 7, 8, 9, 10, 11, 12, 13], [0, 1, 5, 6, 7, 8, 9, 10, 11, 12, 13, 14], [0, 1, 2, 3, 4, 5, 6, 7, 8, 9, 10, 11, 12, 13, 14, 15], [0, 1, 2, 3, 4, 5, 6, 7, 8, 9, 10, 11, 12, 13, 14, 15, 16]] : List (List Nat)).getD j []) (Array.replicate 16 true ++ Array.replicate 2 false)
              (by kernel_rfl) (by kernel_rfl) (by kernel_rfl) (by kernel_rfl) (by kernel_rfl) (by kernel_rfl) ?_ ?_ ?_ ?_ ?_ ?_
            · exact fun w w' h hg => ext_trans h hg
            · exact fun w1 w' h hg => ⟨h.1.trans (KeptP.ofExt hg), h.2.ext hg⟩
            · exact fun w1 w' h hg => ⟨(KeptP.ofExt h).trans hg.1, hg.2⟩
            · exact fun _ _ _ _ h => h.elim
            · exact (ext_refl _).drew
            simp only [List.take_succ_cons, List.take_zero, List.drop_succ_cons, List.drop_zero]
            repeat
              (refine GrowS.Wk.step (fun K hK => ?_)
               first
               | (refine GrowS.step_read (by rfl) (by rfl) (fun w => ext_refl w) ?_
                  apply Exists.intro
                  refine ⟨fun w hB hF => ?_, ?_⟩
                  · first | (replace hB : Ext _ w := hB; obtain ⟨x0, x1, x2, x3, x4, x5, x6, x7, x8⟩ := HCI.out w hB; obtain ⟨y0, y1, y2, y3, y4, y5, y6, y7, y8⟩ := HCJ.out w hB) | skip
                    go_simp
                    try exact rfl
                  go_simp
                  refine hK _ _ ?_
                  clear hK K)
               | (refine GrowS.step_off (by rfl) ?_
                  go_simp
                  refine hK _ _ ?_
                  clear hK K))
            refine GrowS.Wk.step (fun K hK => ?_)
            refine GrowS.step_rel (by rfl) (by rfl) (fun w' hB hF => ?_) (fun v hv => ?_)
            · replace hB : Ext wv w' := hB
              obtain ⟨x0, x1, x2, x3, x4, x5, x6, x7, x8⟩ := HCI.out w' hB
              have fr := (HR4.out.ext hB).free
              have hput2 := (HR4.out.ext hB).put hjn (F p) (HR4.out.2 _ hpn)
              rw [HEJ.out, HF1.out] at hput2
              have HP2 := Lib.hid hput2
              have HKS := Lib.hid (KeptP.storeL (q := g) (w := w') (cellsMC (jkey, cellsV jk jb jd js (.slice ja1 jn1 jc1) (.slice ja2 jn2 jc2))) (j * 9))
              clear hput2
              go_simp
              exact ⟨⟨HKS.out, HP2.out⟩, rfl, trivial⟩
            obtain rfl : v = undef := hv
            go_simp
            refine hK _ _ ?_
            clear hK K
            refine GrowS.Wk.nil ?_
            intro w3 hB hF
            obtain ⟨hk3, hr3⟩ := hB
            clear hF
            have HR3 := Lib.hid hr3
            have HK3 := Lib.hid hk3
            clear hr3 hk3
            refine wpAny_one 16 (by decide +kernel) ?_
            refine wpOp_now rfl (by rfl) ?_
            unfold Oper.wp
            go_simp
            refine wpAny_one 17 (by decide +kernel) ?_
            refine wpOp_now rfl (by rfl) ?_
            unfold Oper.wp
            have hput3 := HR3.out.put hpn (ikey, cellsV ik ib id' is' (.slice ia1 in1 ic1) (.slice ia2 in2 ic2)) (by rw [← HEI.out]; exact HR4.out.2 _ hjn)
            have HP3 := Lib.hid hput3
            have HKS3 := Lib.hid (HK3.out.trans (KeptP.storeL (q := g) (w := w3) (cellsMC (ikey, cellsV ik ib id' is' (.slice ia1 in1 ic1) (.slice ia2 in2 ic2))) (p * 9)))
            obtain ⟨lkey, lk, lb, ld, ls, la1, ln1, lc1, la2, ln2, lc2, el, hlk, hcl⟩ := HR3.out.nine hpn
            obtain ⟨x0, x1, x2, x3, x4, x5, x6, x7, x8⟩ := hcl w3 (ext_refl _)
            have fr := HR3.out.free
            clear hput3 hcl el hlk
            go_simp
            clear x0 x1 x2 x3 x4 x5 x6 x7 x8 fr
            show wpAny _ _ _ _ 0 _ _ _
            refine ⟨by decide +kernel, ?_⟩
            have esw : (fun x => if x = p then ((ikey, cellsV ik ib id' is' (.slice ia1 in1 ic1) (.slice ia2 in2 ic2)) : MC) else F1 x) = sw F j p := by
              rw [← sw_put, ← HF1.out, HEI.out, HEJ.out]
            have hout := HP3.out
            rw [esw] at hout
            have hkout := HKS3.out
            clear esw HP3 HKS3 HR3 HK3 HF1 HEI HEJ HPUT HCI HCJ
            obtain ⟨w4, hw4⟩ : ∃ w4, storeL w3 g (p * 9) (cellsMC (ikey, cellsV ik ib id' is' (.slice ia1 in1 ic1) (.slice ia2 in2 ic2))) = w4 := ⟨_, rfl⟩
            rw [hw4] at hout hkout
            refine world_eq (W' := storeL w3 g (p * 9) (cellsMC (ikey, cellsV ik ib id' is' (.slice ia1 in1 ic1) (.slice ia2 in2 ic2)))) rfl ?_
            rw [hw4]
            clear hw4
            have HR5 := Lib.hid hout
            have HK4 := Lib.hid hkout
            clear hout hkout
            go_wp2_with fail
            go_roundw
            case rel =>
              have h1 := (HIN.out).next ltK_ord hja hji (by rw [hp]; exact HL.out)
              rw [hp] at h1
              exact ⟨p, sw F j p, rfl, by omega, by omega, h1, .step HSW.out (by omega) (by omega) (by omega) (by omega), HR5.out, HKX.out.trans HK4.out⟩
            case measure => simp [intOf]; omega
          | false =>
            have q3 := cmpV_false hl
            have HL := Lib.hid (HLT.out.trans hl)
            clear hl HLT HCJ HCP
            go_wp2_with fail
            go_roundw
            case rel => exact ⟨i + 1, F, by go_num, by omega, .inl (by omega), (HIN.out).stop ltK_ord (.inr ⟨hja, by rw [hp]; exact HL.out⟩), HSW.out, HR4.out, HKX.out⟩
            case measure => simp [intOf]; omega
        · have q1 : decide ((a : Int) < (j : Int)) = false := by simp; omega
          go_upto_region 4 with fail
          refine Grow.wp_region_litW (G := Ext) (B := fun w' => Ext wr w') (anc := fun _ => []) (I := fun j => none) (by kernel_rfl) (by kernel_rfl) (by kernel_rfl) ?_ ?_ ?_
          · exact fun w w' h hg => ext_trans h hg
          · exact (ext_refl _).drew
          repeat
            (refine Grow.Wk.step (fun K hK => ?_)
             first
             | (refine Grow.step_read (by rfl) (by rfl) (fun w => ext_refl w) ?_
                apply Exists.intro
                refine ⟨fun w hB hF => ?_, ?_⟩
                · skip
                  go_simp
                  try exact rfl
                go_simp
                refine hK _ _ ?_
                clear hK K)
             | (refine Grow.step_off (by rfl) ?_
                go_simp
                refine hK _ _ ?_
                clear hK K))
          refine Grow.Wk.nil ?_
          intro wv hB hF
          replace hB : Ext wr wv := hB
          clear hF
          have HR4 := Lib.hid (HR.out.ext hB)
          have HKX := Lib.hid (HK.out.trans (KeptP.ofExt hB))
          clear hB
          go_wp2_with fail
          go_roundw
          case rel => exact ⟨i + 1, F, by go_num, by omega, .inl (by omega), (HIN.out).stop ltK_ord (.inl (by omega)), HSW.out, HR4.out, HKX.out⟩
          case measure => simp [intOf]; omega
    · go_wp2_with fail
      go_end0
      exact ⟨rfl, F0, HR0.out, HSW.out, HSO.out.mono (Nat.le_refl _) (by omega), HK0.out⟩
end Go.Proofs.YtjapbjmeoaagmaaGreatDoor
end

section
set_option linter.unusedVariables false
set_option linter.unusedSimpArgs false
set_option maxRecDepth 100000
namespace Go.Proofs.YtjapbjmeoaagmaaGreatDoor
open Go.RowKit Go.Mem Orange
set_option maxHeartbeats 6400000 in
theorem swapRange_any (g cap n : Nat) (f : Nat → MC) (a b m : Nat) (cb : Value) (w : World) (h : RowS w g cap n f) (hd : a + m ≤ b) (hb : b + m ≤ n) (hn : n ≤ 1000000) :
    Calls Tryz.prog 186 #[.slice (some ⟨g, 0, none⟩) n cap, .int .i64 a, .int .i64 b, .int .i64 m, cb] w (fun e w' => e = .returned (.tuple #[]) ∧ RowS w' g cap n (exF f a b m) ∧ KeptP g w w') := by
  have H := Lib.hid h
  clear h
  go_enter Tryz.func186, Tryz.ntmps186
  go_wp2_with fail
  go_loopw [10] (fun kv wr => ∃ k : Nat, kv = .int .i64 k ∧ k ≤ m ∧ RowS wr g cap n (exF f a b k) ∧ KeptP g w wr) (fun kv _ => m - (intOf kv).toNat)
  case atStart => exact ⟨0, rfl, by omega, by rw [exF_zero]; exact H.out, KeptP.refl _ _⟩
  case round =>
    obtain ⟨k, rfl, hk, hr, hkp⟩ := hrel
    by_cases hlt : k < m
    · have HR := Lib.hid hr
      have HK := Lib.hid hkp
      clear hr hkp H
      obtain ⟨F, hF⟩ : ∃ F, exF f a b k = F := ⟨_, rfl⟩
      have hnx := exF_next (f := f) (a := a) (b := b) (n := m) (k := k) hd hlt
      rw [hF] at HR hnx
      have HN := Lib.hid hnx
      clear hnx hF
      have w1 : IntKind.i64.wrap ((a : Int) + k) = ((a + k : Nat) : Int) := by rw [IntWalk.i64_in _ (by omega)]; omega
      have w2 : IntKind.i64.wrap ((b : Int) + k) = ((b + k : Nat) : Int) := by rw [IntWalk.i64_in _ (by omega)]; omega
      have hia : a + k < n := by omega
      have hib : b + k < n := by omega
      go_upto_region 3 with fail
      obtain ⟨i, hi⟩ : ∃ i, a + k = i := ⟨_, rfl⟩
      obtain ⟨j, hj⟩ : ∃ j, b + k = j := ⟨_, rfl⟩
      rw [hi] at w1 hia HN
      rw [hj] at w2 hib HN
      obtain ⟨ikey, ik, ib, id', is', ia1, in1, ic1, ia2, in2, ic2, ei, hik, hci⟩ := HR.out.nine hia
      obtain ⟨jkey, jk, jb, jd, js, ja1, jn1, jc1, ja2, jn2, jc2, ej, hjk, hcj⟩ := HR.out.nine hib
      have HCI := Lib.hid hci
      have HCJ := Lib.hid hcj
      have hput := HR.out.put hia (F j) (HR.out.2 _ hib)
      rw [ej] at hput
      have HPUT := Lib.hid hput
      have HEI := Lib.hid ei
      have HEJ := Lib.hid ej
      have hil : (i : Int) < n := by omega
      have hjl : (j : Int) < n := by omega
      have hi0 : (0 : Int) ≤ i := by omega
      have hj0 : (0 : Int) ≤ j := by omega
      obtain ⟨F1, hF1⟩ : ∃ F1, (fun x => if x = i then ((jkey, cellsV jk jb jd js (.slice ja1 jn1 jc1) (.slice ja2 jn2 jc2)) : MC) else F x) = F1 := ⟨_, rfl⟩
      rw [hF1] at HPUT
      have HF1 := Lib.hid hF1
      clear hci hcj hput ei ej hF1
      refine GrowS.wp_region_restW (G0 := Ext) (G1 := fun w1 w' => KeptP g w1 w' ∧ RowS w' g cap n F1) (B0 := fun w' => Ext wr w') (B1 := fun w' => KeptP g wr w' ∧ RowS w' g cap n F1) (E := fun _ _ => False) (anc := fun j => []) (I := fun j => if j = 21 then some (GrowS.Spec.val _ undef) else none) 21 22 (fun j => ([[], [], [], [1, 2], [], [], [], [5, 6], [], [], [], [9, 10], [8, 9, 10, 11], [8, 9, 10, 11, 12], [], [], [], [15, 16], [14, 15, 16, 17], [14, 15, 16, 17, 18], [0, 1, 2, 3, 8, 9, 10, 11, 12, 13, 14, 15, 16, 17, 18, 19], [0, 1, 2, 3, 8, 9, 10, 11, 12, 13, 14, 15, 16, 17, 18, 19, 20], [0, 1, 2, 3, 4, 5, 6, 7, 8, 9, 10, 11, 12, 13, 14, 15, 16, 17, 18, 19, 20, 21], [0, 1, 2, 3, 4, 5, 6, 7, 8, 9, 10, 11, 12, 13, 14, 15, 16, 17, 18, 19, 20, 21, 22]] : List (List Nat)).getD j []) (Array.replicate 22 true ++ Array.replicate 2 false)
        (by kernel_rfl) (by kernel_rfl) (by kernel_rfl) (by kernel_rfl) (by kernel_rfl) (by kernel_rfl) ?_ ?_ ?_ ?_ ?_ ?_
      · exact fun w w' h hg => ext_trans h hg
      · exact fun w1 w' h hg => ⟨h.1.trans (KeptP.ofExt hg), h.2.ext hg⟩
      · exact fun w1 w' h hg => ⟨(KeptP.ofExt h).trans hg.1, hg.2⟩
      · exact fun _ _ _ _ h => h.elim
      · exact (ext_refl _).drew
      simp only [List.take_succ_cons, List.take_zero, List.drop_succ_cons, List.drop_zero]
      repeat
        (refine GrowS.Wk.step (fun K hK => ?_)
         first
         | (refine GrowS.step_read (by rfl) (by rfl) (fun w => ext_refl w) ?_
            apply Exists.intro
            refine ⟨fun w hB hF => ?_, ?_⟩
            · first | (replace hB : Ext _ w := hB; obtain ⟨x0, x1, x2, x3, x4, x5, x6, x7, x8⟩ := HCI.out w hB; obtain ⟨y0, y1, y2, y3, y4, y5, y6, y7, y8⟩ := HCJ.out w hB) | skip
              go_simp
              try exact rfl
            go_simp
            refine hK _ _ ?_
            clear hK K)
         | (refine GrowS.step_off (by rfl) ?_
            go_simp
            refine hK _ _ ?_
            clear hK K))
      refine GrowS.Wk.step (fun K hK => ?_)
      refine GrowS.step_rel (by rfl) (by rfl) (fun w' hB hF => ?_) (fun v hv => ?_)
      · replace hB : Ext wr w' := hB
        obtain ⟨x0, x1, x2, x3, x4, x5, x6, x7, x8⟩ := HCI.out w' hB
        have fr := (HR.out.ext hB).free
        have hput2 := (HR.out.ext hB).put hia (F j) (HR.out.2 _ hib)
        rw [HEJ.out, HF1.out] at hput2
        have HP2 := Lib.hid hput2
        have HKS := Lib.hid (KeptP.storeL (q := g) (w := w') (cellsMC (jkey, cellsV jk jb jd js (.slice ja1 jn1 jc1) (.slice ja2 jn2 jc2))) (i * 9))
        clear hput2
        go_simp
        exact ⟨⟨HKS.out, HP2.out⟩, rfl, trivial⟩
      obtain rfl : v = undef := hv
      go_simp
      refine hK _ _ ?_
      clear hK K
      refine GrowS.Wk.nil ?_
      intro w3 hB hF
      obtain ⟨hk3, hr3⟩ := hB
      clear hF
      have HR3 := Lib.hid hr3
      have HK3 := Lib.hid hk3
      clear hr3 hk3
      refine wpAny_one 22 (by decide +kernel) ?_
      refine wpOp_now rfl (by rfl) ?_
      unfold Oper.wp
      go_simp
      refine wpAny_one 23 (by decide +kernel) ?_
      refine wpOp_now rfl (by rfl) ?_
      unfold Oper.wp
      have hput3 := HR3.out.put hib (ikey, cellsV ik ib id' is' (.slice ia1 in1 ic1) (.slice ia2 in2 ic2)) (by rw [← HEI.out]; exact HR.out.2 _ hia)
      have HP3 := Lib.hid hput3
      have HKS3 := Lib.hid (HK3.out.trans (KeptP.storeL (q := g) (w := w3) (cellsMC (ikey, cellsV ik ib id' is' (.slice ia1 in1 ic1) (.slice ia2 in2 ic2))) (j * 9)))
      obtain ⟨lkey, lk, lb, ld, ls, la1, ln1, lc1, la2, ln2, lc2, el, hlk, hcl⟩ := HR3.out.nine hib
      obtain ⟨x0, x1, x2, x3, x4, x5, x6, x7, x8⟩ := hcl w3 (ext_refl _)
      have fr := HR3.out.free
      clear hput3 hcl el hlk
      go_simp
      clear x0 x1 x2 x3 x4 x5 x6 x7 x8 fr
      show wpAny _ _ _ _ 0 _ _ _
      refine ⟨by decide +kernel, ?_⟩
      have esw : (fun x => if x = j then ((ikey, cellsV ik ib id' is' (.slice ia1 in1 ic1) (.slice ia2 in2 ic2)) : MC) else F1 x) = sw F i j := by
        rw [← sw_put, ← HF1.out, HEI.out, HEJ.out]
      have hout := HP3.out
      rw [esw] at hout
      have hkout := HKS3.out
      clear esw HP3 HKS3 HR3 HK3 HF1 HEI HEJ HPUT HCI HCJ
      obtain ⟨w4, hw4⟩ : ∃ w4, storeL w3 g (j * 9) (cellsMC (ikey, cellsV ik ib id' is' (.slice ia1 in1 ic1) (.slice ia2 in2 ic2))) = w4 := ⟨_, rfl⟩
      rw [hw4] at hout hkout
      refine world_eq (W' := storeL w3 g (j * 9) (cellsMC (ikey, cellsV ik ib id' is' (.slice ia1 in1 ic1) (.slice ia2 in2 ic2)))) rfl ?_
      rw [hw4]
      clear hw4
      have HR4 := Lib.hid hout
      have HK4 := Lib.hid hkout
      clear hout hkout
      go_wp2_with fail
      go_roundw
      case rel => exact ⟨k + 1, by go_num, by omega, by rw [← HN.out]; exact HR4.out, HK.out.trans HK4.out⟩
      case measure => simp [intOf]; omega
    · go_wp2_with fail
      go_end0
      obtain rfl : k = m := by omega
      exact ⟨rfl, hr, hkp⟩
end Go.Proofs.YtjapbjmeoaagmaaGreatDoor
end

section
set_option linter.unusedVariables false
set_option linter.unusedSimpArgs false
set_option maxRecDepth 100000
namespace Go.Proofs.YtjapbjmeoaagmaaGreatDoor
open Go.RowKit Go.Mem Orange
set_option maxHeartbeats 3200000 in
theorem rotate_any (g cap n : Nat) (f : Nat → MC) (a m b : Nat) (cb : Value) (w : World) (h : RowS w g cap n f) (h1 : a < m) (h2 : m < b) (hb : b ≤ n) (hn : n ≤ 1000000) :
    Calls Tryz.prog 148 #[.slice (some ⟨g, 0, none⟩) n cap, .int .i64 a, .int .i64 m, .int .i64 b, cb] w (fun e w' => e = .returned (.tuple #[]) ∧ RowS w' g cap n (rotF f a m b) ∧ Sw a b f (rotF f a m b) ∧ KeptP g w w') := by
  have w1 : IntKind.i64.wrap ((m : Int) - a) = ((m - a : Nat) : Int) := by rw [IntWalk.i64_in _ (by omega)]; omega
  have w2 : IntKind.i64.wrap ((b : Int) - m) = ((b - m : Nat) : Int) := by rw [IntWalk.i64_in _ (by omega)]; omega
  have H := Lib.hid h
  clear h
  go_enter Tryz.func148, Tryz.ntmps148
  go_wp2_with fail
  go_loopw [10, 11] (fun iv jv wr => ∃ (i j : Nat) (F : Nat → MC), iv = .int .i64 i ∧ jv = .int .i64 j ∧ 0 < i ∧ 0 < j ∧ i ≤ m - a ∧ j ≤ b - m ∧ rotF F (m - i) m (m + j) = rotF f a m b ∧ Sw a b f F ∧ RowS wr g cap n F ∧ KeptP g w wr) (fun iv jv _ => (intOf iv).toNat + (intOf jv).toNat)
  case atStart => exact ⟨m - a, b - m, f, rfl, rfl, by omega, by omega, by omega, by omega, by rw [show m - (m - a) = a by omega, show m + (b - m) = b by omega], .refl, H.out, KeptP.refl _ _⟩
  case round =>
    obtain ⟨i, j, F, rfl, rfl, hi0, hj0, hi, hj, hrot, hsw, hr, hk⟩ := hrel
    have HROT := Lib.hid hrot
    have HSW := Lib.hid hsw
    have HR := Lib.hid hr
    have HK := Lib.hid hk
    clear hrot hsw hr hk H w1 w2
    have w3 : IntKind.i64.wrap ((m : Int) - i) = ((m - i : Nat) : Int) := by rw [IntWalk.i64_in _ (by omega)]; omega
    by_cases he : i = j
    · subst he
      have q : (((i : Nat) : Int) != (i : Int)) = false := by simp
      go_wp2_with fail
      refine (swapRange_any g cap n F (m - i) m i _ _ HR.out (by omega) (by omega) hn).mono ?_
      rintro e w4 ⟨rfl, hr4, hk4⟩
      go_wp2_with fail
      go_end0
      rw [rot_eq (by omega), HROT.out] at hr4
      refine ⟨rfl, hr4, ?_, HK.out.trans hk4⟩
      rw [← HROT.out, ← rot_eq (by omega)]
      exact HSW.out.trans (exF_sw (n := i) (by omega) (by omega) (by omega) i (Nat.le_refl _))
    · have q : (((i : Nat) : Int) != (j : Int)) = true := by simp; omega
      by_cases hgt : j < i
      · have q2 : decide ((j : Int) < (i : Int)) = true := by simp; omega
        have w4 : IntKind.i64.wrap ((i : Int) - j) = ((i - j : Nat) : Int) := by rw [IntWalk.i64_in _ (by omega)]; omega
        go_wp2_with fail
        refine (swapRange_any g cap n F (m - i) m j _ _ HR.out (by omega) (by omega) hn).mono ?_
        rintro e w5 ⟨rfl, hr4, hk4⟩
        go_wp2_with fail
        go_roundw
        case rel =>
          refine ⟨i - j, j, _, rfl, rfl, by omega, hj0, by omega, hj, ?_, HSW.out.trans (exF_sw (n := j) (by omega) (by omega) (by omega) j (Nat.le_refl _)), hr4, HK.out.trans hk4⟩
          rw [show m - (i - j) = m - i + j by omega]
          exact rot_gt (by omega) hgt HROT.out
        case measure => simp [intOf]; omega
      · have q2 : decide ((j : Int) < (i : Int)) = false := by simp; omega
        have w4 : IntKind.i64.wrap ((j : Int) - i) = ((j - i : Nat) : Int) := by rw [IntWalk.i64_in _ (by omega)]; omega
        obtain ⟨mj, hmj⟩ : ∃ x, m + j = x := ⟨_, rfl⟩
        obtain ⟨mi, hmi⟩ : ∃ x, m + j - i = x := ⟨_, rfl⟩
        have w5 : IntKind.i64.wrap ((m : Int) + j) = (mj : Int) := by rw [IntWalk.i64_in _ (by omega)]; omega
        have w6 : IntKind.i64.wrap ((mj : Int) - i) = (mi : Int) := by rw [IntWalk.i64_in _ (by omega)]; omega
        go_wp2_with fail
        refine (swapRange_any g cap n F (m - i) mi i _ _ HR.out (by omega) (by omega) hn).mono ?_
        rintro e w7 ⟨rfl, hr4, hk4⟩
        go_wp2_with fail
        subst hmi
        go_roundw
        case rel =>
          refine ⟨i, j - i, _, rfl, rfl, hi0, by omega, hi, by omega, ?_, HSW.out.trans (exF_sw (n := i) (by omega) (by omega) (by omega) i (Nat.le_refl _)), hr4, HK.out.trans hk4⟩
          rw [show m + (j - i) = m + j - i by omega]
          exact rot_lt (by omega) (by omega) HROT.out
        case measure => simp [intOf]; omega
end Go.Proofs.YtjapbjmeoaagmaaGreatDoor
end

section
set_option linter.unusedVariables false
set_option linter.unusedSimpArgs false
set_option maxRecDepth 100000
namespace Go.Proofs.YtjapbjmeoaagmaaGreatDoor
open Go.RowKit Go.Mem Orange
def SymOk (D : Nat) : Prop := ∀ (g cap n : Nat) (f : Nat → MC) (a m b : Nat) (w : World), b - a < D → RowS w g cap n f → a < m → m < b → b ≤ n → n ≤ 1000000 → SOn ltK a m f → SOn ltK m b f →
    Calls Tryz.prog 110 #[.slice (some ⟨g, 0, none⟩) n cap, .int .i64 a, .int .i64 m, .int .i64 b, .func (.func 70) #[] #[]] w (fun e w' => e = .returned (.tuple #[]) ∧ ∃ f', RowS w' g cap n f' ∧ Sw a b f f' ∧ SOn ltK a b f' ∧ KeptP g w w')
theorem rotF_none {f : Nat → MC} {s m E : Nat} (h : m ≤ s ∨ E ≤ m) : rotF f s m E = f := by
  funext x
  simp only [rotF]
  repeat' split
  all_goals first | rfl | (congr 1; omega) | (exfalso; omega)
end Go.Proofs.YtjapbjmeoaagmaaGreatDoor
end

section
set_option linter.unusedVariables false
set_option linter.unusedSimpArgs false
set_option maxRecDepth 100000
namespace Go.Proofs.YtjapbjmeoaagmaaGreatDoor
open Go.RowKit Go.Mem Orange
set_option maxHeartbeats 12800000 in
theorem sym_a (D : Nat) (ih : SymOk D) (g cap n : Nat) (f : Nat → MC) (a m b : Nat) (w : World) (hD : b - a < D + 1) (h : RowS w g cap n f) (ham : a < m) (hmb : m < b) (hb : b ≤ n) (hn : n ≤ 1000000) (h1 : SOn ltK a m f) (h2 : SOn ltK m b f) (hma : m = a + 1) :
    Calls Tryz.prog 110 #[.slice (some ⟨g, 0, none⟩) n cap, .int .i64 a, .int .i64 m, .int .i64 b, .func (.func 70) #[] #[]] w (fun e w' => e = .returned (.tuple #[]) ∧ ∃ f', RowS w' g cap n f' ∧ Sw a b f f' ∧ SOn ltK a b f' ∧ KeptP g w w') := by
  have H := Lib.hid h
  have H1 := Lib.hid h1
  have H2 := Lib.hid h2
  have IH := Lib.hid ih
  clear h h1 h2 ih
  go_enter Tryz.func110, Tryz.ntmps110
  have w1 : IntKind.i64.wrap ((m : Int) - a) = 1 := by rw [IntWalk.i64_in _ (by omega)]; omega
  have HMA := Lib.hid hma
  clear hma
  go_wp2_with fail
  clear w1 IH
  go_loopw [10, 11] (fun iv jv wr => ∃ i j : Nat, iv = .int .i64 i ∧ jv = .int .i64 j ∧ m ≤ i ∧ i ≤ j ∧ j ≤ b ∧ (i = m ∨ ltK (f (i - 1)) (f a) = true) ∧ (j = b ∨ ltK (f j) (f a) = false) ∧ Ext w wr) (fun iv jv _ => (intOf jv).toNat - (intOf iv).toNat)
  case atStart => exact ⟨m, b, rfl, rfl, by omega, by omega, by omega, .inl rfl, .inl rfl, ext_refl _⟩
  case round =>
    obtain ⟨i, j, rfl, rfl, hi, hij, hj, hli, hlj, hx⟩ := hrel
    have HLI := Lib.hid hli
    have HLJ := Lib.hid hlj
    have HX := Lib.hid hx
    clear hli hlj hx
    by_cases hlt : i < j
    · have q2 : ((i : Nat) : Int) < j := by omega
      obtain ⟨sm, hsm⟩ : ∃ sm, i + j = sm := ⟨_, rfl⟩
      obtain ⟨c, hc⟩ : ∃ c, sm / 2 = c := ⟨_, rfl⟩
      have s1 : IntKind.i64.wrap ((i : Int) + j) = (sm : Int) := by rw [IntWalk.i64_in _ (by omega)]; omega
      have s2 : (sm : Int) / 2 = (c : Int) := by omega
      have s3 : IntKind.i64.wrap ((c : Int) + 1) = ((c + 1 : Nat) : Int) := by rw [IntWalk.i64_in _ (by omega)]; omega
      have HR := Lib.hid (H.out.ext HX.out)
      obtain ⟨jkey, jk, jb, jd, js, ja1, jn1, jc1, ja2, jn2, jc2, ej, hjk, hcj⟩ := HR.out.nine (i := c) (by omega)
      obtain ⟨pkey, pk, pb, pd, ps, pa1, pn1, pc1, pa2, pn2, pc2, ep, hpk, hcp⟩ := HR.out.nine (i := a) (by omega)
      have HCJ := Lib.hid hcj
      have HCP := Lib.hid hcp
      have hlt2 : ltK (f c) (f a) = keyLess jkey pkey := by rw [ej, ep]; rfl
      have HLT := Lib.hid hlt2
      clear hcj hcp ej ep hlt2
      have hjl : ((c : Nat) : Int) < n := by omega
      have hj0 : (0 : Int) ≤ ((c : Nat) : Int) := by omega
      have hpl : ((a : Nat) : Int) < n := by omega
      have hp0 : (0 : Int) ≤ ((a : Nat) : Int) := by omega
      cases hl : keyLess jkey pkey with
      | true =>
        have q3 := cmpV_true hl
        go_upto_region 5 with fail
        refine Grow.wp_region_litW (G := Ext) (B := fun w' => Ext wr w') (anc := fun _ => []) (I := fun j => if j = 9 then some (Grow.Spec.val Ext (.int .i64 (cmpV jkey pkey))) else none) (by kernel_rfl) (by kernel_rfl) (by kernel_rfl) ?_ ?_ ?_
        · exact fun w w' h hg => ext_trans h hg
        · exact (ext_refl _).drew
        repeat
          (refine Grow.Wk.step (fun K hK => ?_)
           first
           | (refine Grow.step_read (by rfl) (by rfl) (fun w => ext_refl w) ?_
              apply Exists.intro
              refine ⟨fun w hB hF => ?_, ?_⟩
              · first | (replace hB : Ext _ w := hB; obtain ⟨x0, x1, x2, x3, x4, x5, x6, x7, x8⟩ := HCJ.out w hB; obtain ⟨y0, y1, y2, y3, y4, y5, y6, y7, y8⟩ := HCP.out w hB) | skip
                go_simp
                try exact rfl
              go_simp
              refine hK _ _ ?_
              clear hK K)
           | (refine Grow.step_off (by rfl) ?_
              go_simp
              refine hK _ _ ?_
              clear hK K))
        refine Grow.Wk.step (fun K hK => ?_)
        refine Grow.step_rel (by rfl) (by rfl) (fun w' hB hF => ?_) (fun v hv => ?_)
        · go_simp
          refine Grow.relUpon_enter ((cmp_any jkey pkey _ _ _ _ _ _ _ _ _ _ _ _ _ _ _ _ w' hjk hpk).mono ?_)
          rintro e w'' ⟨rfl, hw''⟩
          exact ⟨_, rfl, hw'', rfl, trivial⟩
        obtain rfl : v = _ := hv
        go_simp
        refine hK _ _ ?_
        clear hK K
        repeat
          (refine Grow.Wk.step (fun K hK => ?_)
           first
           | (refine Grow.step_read (by rfl) (by rfl) (fun w => ext_refl w) ?_
              apply Exists.intro
              refine ⟨fun w hB hF => ?_, ?_⟩
              · skip
                go_simp
                try exact rfl
              go_simp
              refine hK _ _ ?_
              clear hK K)
           | (refine Grow.step_off (by rfl) ?_
              go_simp
              refine hK _ _ ?_
              clear hK K))
        refine Grow.Wk.nil ?_
        intro wv hB hF
        replace hB : Ext wr wv := hB
        clear hF HCJ HCP
        have HXV := Lib.hid (ext_trans HX.out hB)
        clear hB
        have HL := Lib.hid (HLT.out.trans hl)
        clear hl HLT
        go_wp2_with fail
        go_roundw
        case rel => exact ⟨c + 1, j, by go_num, rfl, by omega, by omega, hj, .inr HL.out, HLJ.out, HXV.out⟩
        case measure => simp [intOf]; omega
      | false =>
        have q3 := cmpV_false hl
        go_upto_region 5 with fail
        refine Grow.wp_region_litW (G := Ext) (B := fun w' => Ext wr w') (anc := fun _ => []) (I := fun j => if j = 9 then some (Grow.Spec.val Ext (.int .i64 (cmpV jkey pkey))) else none) (by kernel_rfl) (by kernel_rfl) (by kernel_rfl) ?_ ?_ ?_
        · exact fun w w' h hg => ext_trans h hg
        · exact (ext_refl _).drew
        repeat
          (refine Grow.Wk.step (fun K hK => ?_)
           first
           | (refine Grow.step_read (by rfl) (by rfl) (fun w => ext_refl w) ?_
              apply Exists.intro
              refine ⟨fun w hB hF => ?_, ?_⟩
              · first | (replace hB : Ext _ w := hB; obtain ⟨x0, x1, x2, x3, x4, x5, x6, x7, x8⟩ := HCJ.out w hB; obtain ⟨y0, y1, y2, y3, y4, y5, y6, y7, y8⟩ := HCP.out w hB) | skip
                go_simp
                try exact rfl
              go_simp
              refine hK _ _ ?_
              clear hK K)
           | (refine Grow.step_off (by rfl) ?_
              go_simp
              refine hK _ _ ?_
              clear hK K))
        refine Grow.Wk.step (fun K hK => ?_)
        refine Grow.step_rel (by rfl) (by rfl) (fun w' hB hF => ?_) (fun v hv => ?_)
        · go_simp
          refine Grow.relUpon_enter ((cmp_any jkey pkey _ _ _ _ _ _ _ _ _ _ _ _ _ _ _ _ w' hjk hpk).mono ?_)
          rintro e w'' ⟨rfl, hw''⟩
          exact ⟨_, rfl, hw'', rfl, trivial⟩
        obtain rfl : v = _ := hv
        go_simp
        refine hK _ _ ?_
        clear hK K
        repeat
          (refine Grow.Wk.step (fun K hK => ?_)
           first
           | (refine Grow.step_read (by rfl) (by rfl) (fun w => ext_refl w) ?_
              apply Exists.intro
              refine ⟨fun w hB hF => ?_, ?_⟩
              · skip
                go_simp
                try exact rfl
              go_simp
              refine hK _ _ ?_
              clear hK K)
           | (refine Grow.step_off (by rfl) ?_
              go_simp
              refine hK _ _ ?_
              clear hK K))
        refine Grow.Wk.nil ?_
        intro wv hB hF
        replace hB : Ext wr wv := hB
        clear hF HCJ HCP
        have HXV := Lib.hid (ext_trans HX.out hB)
        clear hB
        have HL := Lib.hid (HLT.out.trans hl)
        clear hl HLT
        go_wp2_with fail
        go_roundw
        case rel => exact ⟨i, c, rfl, rfl, hi, by omega, by omega, HLI.out, .inr HL.out, HXV.out⟩
        case measure => simp [intOf]; omega
    · have q2 : ¬ ((i : Nat) : Int) < j := by omega
      obtain rfl : i = j := by omega
      have HR := Lib.hid (H.out.ext HX.out)
      obtain ⟨i1, hi1⟩ : ∃ i1, i - 1 = i1 := ⟨_, rfl⟩
      have s1 : IntKind.i64.wrap ((i : Int) - 1) = (i1 : Int) := by rw [IntWalk.i64_in _ (by omega)]; omega
      go_wp2_with fail
      go_loopw [13] (fun kv wr => ∃ (k : Nat), kv = .int .i64 k ∧ a ≤ k ∧ k ≤ i1 ∧ RowS wr g cap n (upF f a k) ∧ Sw a b f (upF f a k) ∧ KeptP g w wr) (fun kv _ => i1 - (intOf kv).toNat)
      case atStart => exact ⟨a, rfl, by omega, by have := HMA.out; omega, by rw [upF_self]; exact HR.out, by rw [upF_self]; exact .refl, KeptP.ofExt HX.out⟩
      case round =>
        obtain ⟨k, rfl, hk0, hk1, hr, hsw, hk⟩ := hrel
        have HRK := Lib.hid hr
        have HSW := Lib.hid hsw
        have HKX := Lib.hid hk
        clear hr hsw hk
        by_cases hlt2 : k < i1
        · have q3 : ((k : Nat) : Int) < i1 := by omega
          obtain ⟨k1, hk1e⟩ : ∃ k1, k + 1 = k1 := ⟨_, rfl⟩
          have s2 : IntKind.i64.wrap ((k : Int) + 1) = (k1 : Int) := by rw [IntWalk.i64_in _ (by omega)]; omega
          obtain ⟨F, hF⟩ : ∃ F, upF f a k = F := ⟨_, rfl⟩
          have hnx := upF_next (f := f) (a := a) (k := k) hk0
          rw [hF, hk1e] at hnx
          rw [hF] at HRK HSW
          have HNX := Lib.hid hnx
          clear hnx hF
          have hkn : k < n := by omega
          have hk1n : k1 < n := by omega
          go_upto_region 11 with fail
          obtain ⟨ikey, ik, ib, id', is', ia1, in1, ic1, ia2, in2, ic2, ei, hik, hci⟩ := HRK.out.nine hkn
          obtain ⟨jkey, jk, jb, jd, js, ja1, jn1, jc1, ja2, jn2, jc2, ej, hjk, hcj⟩ := HRK.out.nine hk1n
          have HCI := Lib.hid hci
          have HCJ := Lib.hid hcj
          have hput := HRK.out.put hkn (F k1) (HRK.out.2 _ hk1n)
          rw [ej] at hput
          have HPUT := Lib.hid hput
          have HEI := Lib.hid ei
          have HEJ := Lib.hid ej
          have hil : (k : Int) < n := by omega
          have hjl : (k1 : Int) < n := by omega
          have hi0 : (0 : Int) ≤ k := by omega
          have hj0 : (0 : Int) ≤ k1 := by omega
          obtain ⟨F1, hF1⟩ : ∃ F1, (fun x => if x = k then ((jkey, cellsV jk jb jd js (.slice ja1 jn1 jc1) (.slice ja2 jn2 jc2)) : MC) else F x) = F1 := ⟨_, rfl⟩
          rw [hF1] at HPUT
          have HF1 := Lib.hid hF1
          clear hci hcj hput ei ej hF1
          refine GrowS.wp_region_restW (G0 := Ext) (G1 := fun w1 w' => KeptP g w1 w' ∧ RowS w' g cap n F1) (B0 := fun w' => Ext wr w') (B1 := fun w' => KeptP g wr w' ∧ RowS w' g cap n F1) (E := fun _ _ => False) (anc := fun j => []) (I := fun j => if j = 15 then some (GrowS.Spec.val _ undef) else none) 15 16 (fun j => ([[], [], [], [], [3], [], [], [6], [5, 6, 7], [5, 6, 7, 8], [], [], [10, 11], [10, 11, 12], [0, 1, 5, 6, 7, 8, 9, 10, 11, 12, 13], [0, 1, 5, 6, 7, 8, 9, 10, 11, 12, 13, 14], [0, 1, 2, 3, 4, 5, 6, 7, 8, 9, 10, 11, 12, 13, 14, 15], [0, 1, 2, 3, 4, 5, 6, 7, 8, 9, 10, 11, 12, 13, 14, 15, 16]] : List (List Nat)).getD j []) (Array.replicate 16 true ++ Array.replicate 2 false)
            (by kernel_rfl) (by kernel_rfl) (by kernel_rfl) (by kernel_rfl) (by kernel_rfl) (by kernel_rfl) ?_ ?_ ?_ ?_ ?_ ?_
          · exact fun w w' h hg => ext_trans h hg
          · exact fun w1 w' h hg => ⟨h.1.trans (KeptP.ofExt hg), h.2.ext hg⟩
          · exact fun w1 w' h hg => ⟨(KeptP.ofExt h).trans hg.1, hg.2⟩
          · exact fun _ _ _ _ h => h.elim
          · exact (ext_refl _).drew
          simp only [List.take_succ_cons, List.take_zero, List.drop_succ_cons, List.drop_zero]
          repeat
            (refine GrowS.Wk.step (fun K hK => ?_)
             first
             | (refine GrowS.step_read (by rfl) (by rfl) (fun w => ext_refl w) ?_
                apply Exists.intro
                refine ⟨fun w hB hF => ?_, ?_⟩
                · first | (replace hB : Ext _ w := hB; obtain ⟨x0, x1, x2, x3, x4, x5, x6, x7, x8⟩ := HCI.out w hB; obtain ⟨y0, y1, y2, y3, y4, y5, y6, y7, y8⟩ := HCJ.out w hB) | skip
                  go_simp
                  try exact rfl
                go_simp
                refine hK _ _ ?_
                clear hK K)
             | (refine GrowS.step_off (by rfl) ?_
                go_simp
                refine hK _ _ ?_
                clear hK K))
          refine GrowS.Wk.step (fun K hK => ?_)
          refine GrowS.step_rel (by rfl) (by rfl) (fun w' hB hF => ?_) (fun v hv => ?_)
          · replace hB : Ext wr w' := hB
            obtain ⟨x0, x1, x2, x3, x4, x5, x6, x7, x8⟩ := HCI.out w' hB
            have fr := (HRK.out.ext hB).free
            have hput2 := (HRK.out.ext hB).put hkn (F k1) (HRK.out.2 _ hk1n)
            rw [HEJ.out, HF1.out] at hput2
            have HP2 := Lib.hid hput2
            have HKS := Lib.hid (KeptP.storeL (q := g) (w := w') (cellsMC (jkey, cellsV jk jb jd js (.slice ja1 jn1 jc1) (.slice ja2 jn2 jc2))) (k * 9))
            clear hput2
            go_simp
            exact ⟨⟨HKS.out, HP2.out⟩, rfl, trivial⟩
          obtain rfl : v = undef := hv
          go_simp
          refine hK _ _ ?_
          clear hK K
          refine GrowS.Wk.nil ?_
          intro w3 hB hF
          obtain ⟨hk3, hr3⟩ := hB
          clear hF
          have HR3 := Lib.hid hr3
          have HK3 := Lib.hid hk3
          clear hr3 hk3
          refine wpAny_one 16 (by decide +kernel) ?_
          refine wpOp_now rfl (by rfl) ?_
          unfold Oper.wp
          go_simp
          refine wpAny_one 17 (by decide +kernel) ?_
          refine wpOp_now rfl (by rfl) ?_
          unfold Oper.wp
          have hput3 := HR3.out.put hk1n (ikey, cellsV ik ib id' is' (.slice ia1 in1 ic1) (.slice ia2 in2 ic2)) (by rw [← HEI.out]; exact HRK.out.2 _ hkn)
          have HP3 := Lib.hid hput3
          have HKS3 := Lib.hid (HK3.out.trans (KeptP.storeL (q := g) (w := w3) (cellsMC (ikey, cellsV ik ib id' is' (.slice ia1 in1 ic1) (.slice ia2 in2 ic2))) (k1 * 9)))
          obtain ⟨lkey, lk, lb, ld, ls, la1, ln1, lc1, la2, ln2, lc2, el, hlk, hcl⟩ := HR3.out.nine hk1n
          obtain ⟨x0, x1, x2, x3, x4, x5, x6, x7, x8⟩ := hcl w3 (ext_refl _)
          have fr := HR3.out.free
          clear hput3 hcl el hlk
          go_simp
          clear x0 x1 x2 x3 x4 x5 x6 x7 x8 fr
          show wpAny _ _ _ _ 0 _ _ _
          refine ⟨by decide +kernel, ?_⟩
          have esw : (fun x => if x = k1 then ((ikey, cellsV ik ib id' is' (.slice ia1 in1 ic1) (.slice ia2 in2 ic2)) : MC) else F1 x) = sw F k k1 := by
            rw [← sw_put, ← HF1.out, HEI.out, HEJ.out]
          have hout := HP3.out
          rw [esw] at hout
          have hkout := HKS3.out
          clear esw HP3 HKS3 HR3 HK3 HF1 HEI HEJ HPUT HCI HCJ
          obtain ⟨w4, hw4⟩ : ∃ w4, storeL w3 g (k1 * 9) (cellsMC (ikey, cellsV ik ib id' is' (.slice ia1 in1 ic1) (.slice ia2 in2 ic2))) = w4 := ⟨_, rfl⟩
          rw [hw4] at hout hkout
          refine world_eq (W' := storeL w3 g (k1 * 9) (cellsMC (ikey, cellsV ik ib id' is' (.slice ia1 in1 ic1) (.slice ia2 in2 ic2)))) rfl ?_
          rw [hw4]
          clear hw4
          have HR5 := Lib.hid hout
          have HK4 := Lib.hid hkout
          clear hout hkout
          go_wp2_with fail
          go_roundw
          case rel => exact ⟨k1, rfl, by omega, by omega, by rw [← HNX.out]; exact HR5.out, by rw [← HNX.out]; exact .step HSW.out (by omega) (by omega) (by omega) (by omega), HKX.out.trans HK4.out⟩
          case measure => simp [intOf]; omega
        · have q3 : ¬ ((k : Nat) : Int) < i1 := by omega
          obtain rfl : k = i1 := by omega
          go_wp2_with fail
          refine bodyPost_ret (results_none rfl _ _ _) rfl ?_
          refine ⟨rfl, _, HRK.out, HSW.out, ?_, HKX.out⟩
          rw [← hi1]
          exact upF_sorted ltK_ord HMA.out H2.out hi hj HLI.out HLJ.out
end Go.Proofs.YtjapbjmeoaagmaaGreatDoor
end

section
set_option linter.unusedVariables false
set_option linter.unusedSimpArgs false
set_option maxRecDepth 100000
namespace Go.Proofs.YtjapbjmeoaagmaaGreatDoor
open Go.RowKit Go.Mem Orange
set_option maxHeartbeats 12800000 in
theorem sym_b (D : Nat) (ih : SymOk D) (g cap n : Nat) (f : Nat → MC) (a m b : Nat) (w : World) (hD : b - a < D + 1) (h : RowS w g cap n f) (ham : a < m) (hmb : m < b) (hb : b ≤ n) (hn : n ≤ 1000000) (h1 : SOn ltK a m f) (h2 : SOn ltK m b f) (hma : ¬ m = a + 1) (hbm : b = m + 1) :
    Calls Tryz.prog 110 #[.slice (some ⟨g, 0, none⟩) n cap, .int .i64 a, .int .i64 m, .int .i64 b, .func (.func 70) #[] #[]] w (fun e w' => e = .returned (.tuple #[]) ∧ ∃ f', RowS w' g cap n f' ∧ Sw a b f f' ∧ SOn ltK a b f' ∧ KeptP g w w') := by
  have H := Lib.hid h
  have H1 := Lib.hid h1
  have H2 := Lib.hid h2
  have IH := Lib.hid ih
  clear h h1 h2 ih
  go_enter Tryz.func110, Tryz.ntmps110
  obtain ⟨da, hda⟩ : ∃ da, m - a = da := ⟨_, rfl⟩
  have w1 : IntKind.i64.wrap ((m : Int) - a) = (da : Int) := by rw [IntWalk.i64_in _ (by omega)]; omega
  have w2 : IntKind.i64.wrap ((b : Int) - m) = 1 := by rw [IntWalk.i64_in _ (by omega)]; omega
  have q1 : ((da : Int) == 1) = false := by simp; omega
  have HMA := Lib.hid hbm
  clear hbm hda hma
  go_wp2_with fail
  clear w1 w2 q1 IH
  go_loopw [14, 15] (fun iv jv wr => ∃ i j : Nat, iv = .int .i64 i ∧ jv = .int .i64 j ∧ a ≤ i ∧ i ≤ j ∧ j ≤ m ∧ (i = a ∨ ltK (f m) (f (i - 1)) = false) ∧ (j = m ∨ ltK (f m) (f j) = true) ∧ Ext w wr) (fun iv jv _ => (intOf jv).toNat - (intOf iv).toNat)
  case atStart => exact ⟨a, m, rfl, rfl, by omega, by omega, by omega, .inl rfl, .inl rfl, ext_refl _⟩
  case round =>
    obtain ⟨i, j, rfl, rfl, hi, hij, hj, hli, hlj, hx⟩ := hrel
    have HLI := Lib.hid hli
    have HLJ := Lib.hid hlj
    have HX := Lib.hid hx
    clear hli hlj hx
    by_cases hlt : i < j
    · have q2 : ((i : Nat) : Int) < j := by omega
      obtain ⟨sm, hsm⟩ : ∃ sm, i + j = sm := ⟨_, rfl⟩
      obtain ⟨c, hc⟩ : ∃ c, sm / 2 = c := ⟨_, rfl⟩
      have s1 : IntKind.i64.wrap ((i : Int) + j) = (sm : Int) := by rw [IntWalk.i64_in _ (by omega)]; omega
      have s2 : (sm : Int) / 2 = (c : Int) := by omega
      have s3 : IntKind.i64.wrap ((c : Int) + 1) = ((c + 1 : Nat) : Int) := by rw [IntWalk.i64_in _ (by omega)]; omega
      have HR := Lib.hid (H.out.ext HX.out)
      obtain ⟨jkey, jk, jb, jd, js, ja1, jn1, jc1, ja2, jn2, jc2, ej, hjk, hcj⟩ := HR.out.nine (i := m) (by omega)
      obtain ⟨pkey, pk, pb, pd, ps, pa1, pn1, pc1, pa2, pn2, pc2, ep, hpk, hcp⟩ := HR.out.nine (i := c) (by omega)
      have HCJ := Lib.hid hcj
      have HCP := Lib.hid hcp
      have hlt2 : ltK (f m) (f c) = keyLess jkey pkey := by rw [ej, ep]; rfl
      have HLT := Lib.hid hlt2
      clear hcj hcp ej ep hlt2
      have hjl : ((m : Nat) : Int) < n := by omega
      have hj0 : (0 : Int) ≤ ((m : Nat) : Int) := by omega
      have hpl : ((c : Nat) : Int) < n := by omega
      have hp0 : (0 : Int) ≤ ((c : Nat) : Int) := by omega
      cases hl : keyLess jkey pkey with
      | true =>
        have q3 := cmpV_true hl
        go_upto_region 17 with fail
        refine Grow.wp_region_litW (G := Ext) (B := fun w' => Ext wr w') (anc := fun _ => []) (I := fun j => if j = 9 then some (Grow.Spec.val Ext (.int .i64 (cmpV jkey pkey))) else none) (by kernel_rfl) (by kernel_rfl) (by kernel_rfl) ?_ ?_ ?_
        · exact fun w w' h hg => ext_trans h hg
        · exact (ext_refl _).drew
        repeat
          (refine Grow.Wk.step (fun K hK => ?_)
           first
           | (refine Grow.step_read (by rfl) (by rfl) (fun w => ext_refl w) ?_
              apply Exists.intro
              refine ⟨fun w hB hF => ?_, ?_⟩
              · first | (replace hB : Ext _ w := hB; obtain ⟨x0, x1, x2, x3, x4, x5, x6, x7, x8⟩ := HCJ.out w hB; obtain ⟨y0, y1, y2, y3, y4, y5, y6, y7, y8⟩ := HCP.out w hB) | skip
                go_simp
                try exact rfl
              go_simp
              refine hK _ _ ?_
              clear hK K)
           | (refine Grow.step_off (by rfl) ?_
              go_simp
              refine hK _ _ ?_
              clear hK K))
        refine Grow.Wk.step (fun K hK => ?_)
        refine Grow.step_rel (by rfl) (by rfl) (fun w' hB hF => ?_) (fun v hv => ?_)
        · go_simp
          refine Grow.relUpon_enter ((cmp_any jkey pkey _ _ _ _ _ _ _ _ _ _ _ _ _ _ _ _ w' hjk hpk).mono ?_)
          rintro e w'' ⟨rfl, hw''⟩
          exact ⟨_, rfl, hw'', rfl, trivial⟩
        obtain rfl : v = _ := hv
        go_simp
        refine hK _ _ ?_
        clear hK K
        repeat
          (refine Grow.Wk.step (fun K hK => ?_)
           first
           | (refine Grow.step_read (by rfl) (by rfl) (fun w => ext_refl w) ?_
              apply Exists.intro
              refine ⟨fun w hB hF => ?_, ?_⟩
              · skip
                go_simp
                try exact rfl
              go_simp
              refine hK _ _ ?_
              clear hK K)
           | (refine Grow.step_off (by rfl) ?_
              go_simp
              refine hK _ _ ?_
              clear hK K))
        refine Grow.Wk.nil ?_
        intro wv hB hF
        replace hB : Ext wr wv := hB
        clear hF HCJ HCP
        have HXV := Lib.hid (ext_trans HX.out hB)
        clear hB
        have HL := Lib.hid (HLT.out.trans hl)
        clear hl HLT
        go_wp2_with fail
        go_roundw
        case rel => exact ⟨i, c, rfl, rfl, hi, by omega, by omega, HLI.out, .inr HL.out, HXV.out⟩
        case measure => simp [intOf]; omega
      | false =>
        have q3 := cmpV_false hl
        go_upto_region 17 with fail
        refine Grow.wp_region_litW (G := Ext) (B := fun w' => Ext wr w') (anc := fun _ => []) (I := fun j => if j = 9 then some (Grow.Spec.val Ext (.int .i64 (cmpV jkey pkey))) else none) (by kernel_rfl) (by kernel_rfl) (by kernel_rfl) ?_ ?_ ?_
        · exact fun w w' h hg => ext_trans h hg
        · exact (ext_refl _).drew
        repeat
          (refine Grow.Wk.step (fun K hK => ?_)
           first
           | (refine Grow.step_read (by rfl) (by rfl) (fun w => ext_refl w) ?_
              apply Exists.intro
              refine ⟨fun w hB hF => ?_, ?_⟩
              · first | (replace hB : Ext _ w := hB; obtain ⟨x0, x1, x2, x3, x4, x5, x6, x7, x8⟩ := HCJ.out w hB; obtain ⟨y0, y1, y2, y3, y4, y5, y6, y7, y8⟩ := HCP.out w hB) | skip
                go_simp
                try exact rfl
              go_simp
              refine hK _ _ ?_
              clear hK K)
           | (refine Grow.step_off (by rfl) ?_
              go_simp
              refine hK _ _ ?_
              clear hK K))
        refine Grow.Wk.step (fun K hK => ?_)
        refine Grow.step_rel (by rfl) (by rfl) (fun w' hB hF => ?_) (fun v hv => ?_)
        · go_simp
          refine Grow.relUpon_enter ((cmp_any jkey pkey _ _ _ _ _ _ _ _ _ _ _ _ _ _ _ _ w' hjk hpk).mono ?_)
          rintro e w'' ⟨rfl, hw''⟩
          exact ⟨_, rfl, hw'', rfl, trivial⟩
        obtain rfl : v = _ := hv
        go_simp
        refine hK _ _ ?_
        clear hK K
        repeat
          (refine Grow.Wk.step (fun K hK => ?_)
           first
           | (refine Grow.step_read (by rfl) (by rfl) (fun w => ext_refl w) ?_
              apply Exists.intro
              refine ⟨fun w hB hF => ?_, ?_⟩
              · skip
                go_simp
                try exact rfl
              go_simp
              refine hK _ _ ?_
              clear hK K)
           | (refine Grow.step_off (by rfl) ?_
              go_simp
              refine hK _ _ ?_
              clear hK K))
        refine Grow.Wk.nil ?_
        intro wv hB hF
        replace hB : Ext wr wv := hB
        clear hF HCJ HCP
        have HXV := Lib.hid (ext_trans HX.out hB)
        clear hB
        have HL := Lib.hid (HLT.out.trans hl)
        clear hl HLT
        go_wp2_with fail
        go_roundw
        case rel => exact ⟨c + 1, j, by go_num, rfl, by omega, by omega, hj, .inr HL.out, HLJ.out, HXV.out⟩
        case measure => simp [intOf]; omega
    · have q2 : ¬ ((i : Nat) : Int) < j := by omega
      obtain rfl : i = j := by omega
      have HR := Lib.hid (H.out.ext HX.out)
      go_wp2_with fail
      go_loopw [17] (fun kv wr => ∃ (k : Nat), kv = .int .i64 k ∧ i ≤ k ∧ k ≤ m ∧ RowS wr g cap n (downF f m k) ∧ Sw a b f (downF f m k) ∧ KeptP g w wr) (fun kv _ => (intOf kv).toNat)
      case atStart => exact ⟨m, rfl, by omega, by omega, by rw [downF_self]; exact HR.out, by rw [downF_self]; exact .refl, KeptP.ofExt HX.out⟩
      case round =>
        obtain ⟨k, rfl, hk0, hk1, hr, hsw, hk⟩ := hrel
        have HRK := Lib.hid hr
        have HSW := Lib.hid hsw
        have HKX := Lib.hid hk
        clear hr hsw hk
        by_cases hlt2 : i < k
        · have q3 : ((i : Nat) : Int) < k := by omega
          obtain ⟨k1, hk1e⟩ : ∃ k1, k - 1 = k1 := ⟨_, rfl⟩
          have s2 : IntKind.i64.wrap ((k : Int) - 1) = (k1 : Int) := by rw [IntWalk.i64_in _ (by omega)]; omega
          obtain ⟨F, hF⟩ : ∃ F, downF f m k = F := ⟨_, rfl⟩
          have hnx := downF_next (f := f) (m := m) (k := k) hk1 (by omega)
          rw [hF, hk1e] at hnx
          rw [hF] at HRK HSW
          have HNX := Lib.hid hnx
          clear hnx hF
          have hkn : k < n := by omega
          have hk1n : k1 < n := by omega
          go_upto_region 23 with fail
          obtain ⟨ikey, ik, ib, id', is', ia1, in1, ic1, ia2, in2, ic2, ei, hik, hci⟩ := HRK.out.nine hkn
          obtain ⟨jkey, jk, jb, jd, js, ja1, jn1, jc1, ja2, jn2, jc2, ej, hjk, hcj⟩ := HRK.out.nine hk1n
          have HCI := Lib.hid hci
          have HCJ := Lib.hid hcj
          have hput := HRK.out.put hkn (F k1) (HRK.out.2 _ hk1n)
          rw [ej] at hput
          have HPUT := Lib.hid hput
          have HEI := Lib.hid ei
          have HEJ := Lib.hid ej
          have hil : (k : Int) < n := by omega
          have hjl : (k1 : Int) < n := by omega
          have hi0 : (0 : Int) ≤ k := by omega
          have hj0 : (0 : Int) ≤ k1 := by omega
          obtain ⟨F1, hF1⟩ : ∃ F1, (fun x => if x = k then ((jkey, cellsV jk jb jd js (.slice ja1 jn1 jc1) (.slice ja2 jn2 jc2)) : MC) else F x) = F1 := ⟨_, rfl⟩
          rw [hF1] at HPUT
          have HF1 := Lib.hid hF1
          clear hci hcj hput ei ej hF1
          refine GrowS.wp_region_restW (G0 := Ext) (G1 := fun w1 w' => KeptP g w1 w' ∧ RowS w' g cap n F1) (B0 := fun w' => Ext wr w') (B1 := fun w' => KeptP g wr w' ∧ RowS w' g cap n F1) (E := fun _ _ => False) (anc := fun j => []) (I := fun j => if j = 15 then some (GrowS.Spec.val _ undef) else none) 15 16 (fun j => ([[], [], [], [], [3], [], [], [6], [5, 6, 7], [5, 6, 7, 8], [], [], [10, 11], [10, 11, 12], [0, 1, 5, 6, 7, 8, 9, 10, 11, 12, 13], [0, 1, 5, 6, 7, 8, 9, 10, 11, 12, 13, 14], [0, 1, 2, 3, 4, 5, 6, 7, 8, 9, 10, 11, 12, 13, 14, 15], [0, 1, 2, 3, 4, 5, 6, 7, 8, 9, 10, 11, 12, 13, 14, 15, 16]] : List (List Nat)).getD j []) (Array.replicate 16 true ++ Array.replicate 2 false)
            (by kernel_rfl) (by kernel_rfl) (by kernel_rfl) (by kernel_rfl) (by kernel_rfl) (by kernel_rfl) ?_ ?_ ?_ ?_ ?_ ?_
          · exact fun w w' h hg => ext_trans h hg
          · exact fun w1 w' h hg => ⟨h.1.trans (KeptP.ofExt hg), h.2.ext hg⟩
          · exact fun w1 w' h hg => ⟨(KeptP.ofExt h).trans hg.1, hg.2⟩
          · exact fun _ _ _ _ h => h.elim
          · exact (ext_refl _).drew
          simp only [List.take_succ_cons, List.take_zero, List.drop_succ_cons, List.drop_zero]
          repeat
            (refine GrowS.Wk.step (fun K hK => ?_)
             first
             | (refine GrowS.step_read (by rfl) (by rfl) (fun w => ext_refl w) ?_
                apply Exists.intro
                refine ⟨fun w hB hF => ?_, ?_⟩
                · first | (replace hB : Ext _ w := hB; obtain ⟨x0, x1, x2, x3, x4, x5, x6, x7, x8⟩ := HCI.out w hB; obtain ⟨y0, y1, y2, y3, y4, y5, y6, y7, y8⟩ := HCJ.out w hB) | skip
                  go_simp
                  try exact rfl
                go_simp
                refine hK _ _ ?_
                clear hK K)
             | (refine GrowS.step_off (by rfl) ?_
                go_simp
                refine hK _ _ ?_
                clear hK K))
          refine GrowS.Wk.step (fun K hK => ?_)
          refine GrowS.step_rel (by rfl) (by rfl) (fun w' hB hF => ?_) (fun v hv => ?_)
          · replace hB : Ext wr w' := hB
            obtain ⟨x0, x1, x2, x3, x4, x5, x6, x7, x8⟩ := HCI.out w' hB
            have fr := (HRK.out.ext hB).free
            have hput2 := (HRK.out.ext hB).put hkn (F k1) (HRK.out.2 _ hk1n)
            rw [HEJ.out, HF1.out] at hput2
            have HP2 := Lib.hid hput2
            have HKS := Lib.hid (KeptP.storeL (q := g) (w := w') (cellsMC (jkey, cellsV jk jb jd js (.slice ja1 jn1 jc1) (.slice ja2 jn2 jc2))) (k * 9))
            clear hput2
            go_simp
            exact ⟨⟨HKS.out, HP2.out⟩, rfl, trivial⟩
          obtain rfl : v = undef := hv
          go_simp
          refine hK _ _ ?_
          clear hK K
          refine GrowS.Wk.nil ?_
          intro w3 hB hF
          obtain ⟨hk3, hr3⟩ := hB
          clear hF
          have HR3 := Lib.hid hr3
          have HK3 := Lib.hid hk3
          clear hr3 hk3
          refine wpAny_one 16 (by decide +kernel) ?_
          refine wpOp_now rfl (by rfl) ?_
          unfold Oper.wp
          go_simp
          refine wpAny_one 17 (by decide +kernel) ?_
          refine wpOp_now rfl (by rfl) ?_
          unfold Oper.wp
          have hput3 := HR3.out.put hk1n (ikey, cellsV ik ib id' is' (.slice ia1 in1 ic1) (.slice ia2 in2 ic2)) (by rw [← HEI.out]; exact HRK.out.2 _ hkn)
          have HP3 := Lib.hid hput3
          have HKS3 := Lib.hid (HK3.out.trans (KeptP.storeL (q := g) (w := w3) (cellsMC (ikey, cellsV ik ib id' is' (.slice ia1 in1 ic1) (.slice ia2 in2 ic2))) (k1 * 9)))
          obtain ⟨lkey, lk, lb, ld, ls, la1, ln1, lc1, la2, ln2, lc2, el, hlk, hcl⟩ := HR3.out.nine hk1n
          obtain ⟨x0, x1, x2, x3, x4, x5, x6, x7, x8⟩ := hcl w3 (ext_refl _)
          have fr := HR3.out.free
          clear hput3 hcl el hlk
          go_simp
          clear x0 x1 x2 x3 x4 x5 x6 x7 x8 fr
          show wpAny _ _ _ _ 0 _ _ _
          refine ⟨by decide +kernel, ?_⟩
          have esw : (fun x => if x = k1 then ((ikey, cellsV ik ib id' is' (.slice ia1 in1 ic1) (.slice ia2 in2 ic2)) : MC) else F1 x) = sw F k k1 := by
            rw [← sw_put, ← HF1.out, HEI.out, HEJ.out]
          have hout := HP3.out
          rw [esw] at hout
          have hkout := HKS3.out
          clear esw HP3 HKS3 HR3 HK3 HF1 HEI HEJ HPUT HCI HCJ
          obtain ⟨w4, hw4⟩ : ∃ w4, storeL w3 g (k1 * 9) (cellsMC (ikey, cellsV ik ib id' is' (.slice ia1 in1 ic1) (.slice ia2 in2 ic2))) = w4 := ⟨_, rfl⟩
          rw [hw4] at hout hkout
          refine world_eq (W' := storeL w3 g (k1 * 9) (cellsMC (ikey, cellsV ik ib id' is' (.slice ia1 in1 ic1) (.slice ia2 in2 ic2)))) rfl ?_
          rw [hw4]
          clear hw4
          have HR5 := Lib.hid hout
          have HK4 := Lib.hid hkout
          clear hout hkout
          go_wp2_with fail
          go_roundw
          case rel => exact ⟨k1, rfl, by omega, by omega, by rw [← HNX.out]; exact HR5.out, by rw [← HNX.out]; exact .step HSW.out (by omega) (by omega) (by omega) (by omega), HKX.out.trans HK4.out⟩
          case measure => simp [intOf]; omega
        · have q3 : ¬ ((i : Nat) : Int) < k := by omega
          obtain rfl : i = k := by omega
          go_wp2_with fail
          refine bodyPost_ret (results_none rfl _ _ _) rfl ?_
          refine ⟨rfl, _, HRK.out, HSW.out, ?_, HKX.out⟩
          exact downF_sorted ltK_ord HMA.out H1.out hi hj HLI.out HLJ.out
end Go.Proofs.YtjapbjmeoaagmaaGreatDoor
end
