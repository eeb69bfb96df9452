/- A text of this proof. -/
import Derived.Test.YtjapbjmeoaagmaaGreatDoorEValueAtGrowT
set_option linter.unusedVariables false
set_option linter.unusedSimpArgs false
set_option maxRecDepth 100000
namespace Go.GrowS
open Go.Mem Go.RowKit
section
variable {P : Program} {ops : Array Oper} {md : Region.Mode} {G : Nat → World → World → Prop} {E : List PanicEntry → World → Prop}
structure Spec (G : Nat → World → World → Prop) where
 S : Value → Prop
 R : Value → World → Prop
 inh : ∃ v, S v
 lasts : ∀ i v w w', R v w → G i w w' → R v w'
def relUpon (P : Program) (G : World → World → Prop) (E : List PanicEntry → World → Prop) (S : Value → Prop) (R : Value → World → Prop) (w : World) : Result Next → Prop
 | .ok (.value u) w' => G w w' ∧ S u ∧ R u w'
 | .ok .skip w' => G w w' ∧ S undef ∧ R undef w'
 | .ok (.enter f args) w' => Calls P f args w' (fun e w'' => (∃ v, e = .returned v ∧ G w w'' ∧ S v ∧ R v w'') ∨ (∃ ch, e = .panicked ch ∧ E ch w''))
 | .ok (.row row args) w' => Rows P row args w' (fun v w'' => G w w'' ∧ S v ∧ R v w'')
 | _ => False
def detUpon (G : World → World → Prop) (v : Value) (w : World) : Result Next → Prop
 | .ok (.value u) w' => G w w' ∧ u = v
 | .ok .skip w' => G w w' ∧ undef = v
 | _ => False
abbrev Env := Nat → World → Prop
def upd (F : Env) (k : Nat) (p : World → Prop) : Env := fun j w => if j = k then p w else F j w
theorem upd_comm (F : Env) {i j : Nat} (h : i ≠ j) (p q : World → Prop) : upd (upd F i p) j q = upd (upd F j q) i p := by
 funext k w
 simp only [upd]; by_cases h1 : k = j
 · subst h1; simp [Ne.symm h]
 · by_cases h2 : k = i
   · subst h2; simp [h]
   · simp [h1, h2]
def facts (A : List Nat) (F : Env) (w : World) : Prop := ∀ j ∈ A, F j w
theorem facts_upd {A : List Nat} {F : Env} {i : Nat} {p : World → Prop} (h : i ∉ A) (w : World) : facts A (upd F i p) w ↔ facts A F w := by
 unfold facts upd; constructor
 · intro h1 j hj; have := h1 j hj; rwa [if_neg (fun (e : j = i) => h (e ▸ hj))] at this
 · intro h1 j hj; rw [if_neg (fun (e : j = i) => h (e ▸ hj))]; exact h1 j hj
def relStep (P : Program) (G : Nat → World → World → Prop) (E : List PanicEntry → World → Prop) (B : Nat → World → Prop) (i : Nat) (A : List Nat) (s : Spec G) (o : Oper) (a : Act) (F : Env) : Prop :=
 ∀ w, B i w → facts A F w → relUpon P (G i) E s.S s.R w ((execOp a.eval o).run P w)
def detStep (P : Program) (G : Nat → World → World → Prop) (B : Nat → World → Prop) (i : Nat) (A : List Nat) (v : Value) (o : Oper) (a : Act) (F : Env) : Prop :=
 ∀ w, B i w → facts A F w → detUpon (G i) v w ((execOp a.eval o).run P w)
def walk (P : Program) (ops : Array Oper) (G : Nat → World → World → Prop) (E : List PanicEntry → World → Prop) (B : Nat → World → Prop) (anc : Nat → List Nat) (I : Nat → Act → Option (Spec G)) (Q : Act → Env → Prop) : List Oper → Nat → Act → Env → Prop
 | [], _, a, F => Q a F
 | o :: rest, k, a, F =>
   if Region.wanted o (yielded ops a.tmps) then
    match I k a with
    | some s => relStep P G E B k (anc k) s o a F ∧ ∀ v, s.S v → walk P ops G E B anc I Q rest (k + 1) (a.put o.dst v) (upd F k (s.R v))
    | none => ∃ v, detStep P G B k (anc k) v o a F ∧ walk P ops G E B anc I Q rest (k + 1) (a.put o.dst v) F
   else walk P ops G E B anc I Q rest (k + 1) (a.put o.dst undef) F
def opG (P : Program) (ops : Array Oper) (G : Nat → World → World → Prop) (E : List PanicEntry → World → Prop) (B : Nat → World → Prop) (anc : Nat → List Nat) (I : Nat → Act → Option (Spec G)) (i : Nat) (K : Act → Env → Prop) (a : Act) (F : Env) : Prop :=
 match ops[i]? with
 | none => K a F
 | some o =>
   if Region.wanted o (yielded ops a.tmps) then
    match I i a with
    | some s => relStep P G E B i (anc i) s o a F ∧ ∀ v, s.S v → K (a.put o.dst v) (upd F i (s.R v))
    | none => ∀ w0, B i w0 → facts (anc i) F w0 → ∃ v, detStep P G B i (anc i) v o a F ∧ K (a.put o.dst v) F
   else K (a.put o.dst undef) F
variable {B : Nat → World → Prop} {anc : Nat → List Nat} {I : Nat → Act → Option (Spec G)}
theorem opG_mono {i : Nat} {a : Act} {F : Env} {K K' : Act → Env → Prop} (h : ∀ a F, K a F → K' a F) (hh : opG P ops G E B anc I i K a F) : opG P ops G E B anc I i K' a F := by
 unfold opG at *; cases ho : ops[i]? with
 | none => simp only [ho] at hh ⊢; exact h _ _ hh
 | some o =>
   simp only [ho] at hh ⊢; split
   · rename_i hw
     simp only [hw, if_true] at hh; cases hI : I i a with
     | none =>
       simp only [hI] at hh ⊢; intro w0 h0 h1; obtain ⟨v, h2, h3⟩ := hh w0 h0 h1; exact ⟨v, h2, h _ _ h3⟩
     | some s =>
       simp only [hI] at hh ⊢; exact ⟨hh.1, fun v hv => h _ _ (hh.2 v hv)⟩
   · rename_i hw
     simp only [hw] at hh; exact h _ _ hh
def Closed (md : Region.Mode) (ops : Array Oper) (listed : Array Bool) : Prop :=
 ∀ j oj, ops[j]? = some oj → listed.getD j false = true → ∀ e ∈ oj.after, Region.binds md e = true → listed.getD e.on false = true
theorem Closed.set {listed : Array Bool} {i : Nat} (inv : Closed md ops listed) (hi : i ∈ Region.ready md ops listed) : Closed md ops (listed.setIfInBounds i true) := by
 obtain ⟨_, oi, hoi, hall⟩ := mem_ready.1 hi; intro j oj hj hl e he hb; by_cases hij : i = j
 · subst hij; have : oj = oi := Option.some.inj (hj.symm.trans hoi); subst this; exact getD_set_true (hall e he hb)
 · rw [getD_set_ne false hij] at hl; exact getD_set_true (inv j oj hj hl e he hb)
def ancOk (md : Region.Mode) (ops : Array Oper) (anc : Nat → List Nat) : Bool :=
 (List.range ops.size).all fun i => (anc i).all fun j =>
   match ops[i]? with
   | some o => o.after.any fun e => Region.binds md e && decide (e.on < i) && (e.on == j || (anc e.on).contains j)
   | none => false
theorem anc_listed (hA : ancOk md ops anc = true) {listed : Array Bool} (inv : Closed md ops listed) : ∀ (i : Nat) (o : Oper), ops[i]? = some o →
 (∀ e ∈ o.after, Region.binds md e = true → listed.getD e.on false = true) → ∀ j ∈ anc i, listed.getD j false = true := by
 intro i; induction i using Nat.strongRecOn with
 | _ i ih =>
   intro o ho hall j hj; have hi := (Array.getElem?_eq_some_iff.1 ho).1; have h1 := List.all_eq_true.1 (List.all_eq_true.1 hA i (List.mem_range.2 hi)) j hj; simp only [ho] at h1; obtain ⟨e, he, h2⟩ := Array.any_eq_true'.1 h1; simp only [Bool.and_eq_true, Bool.or_eq_true, beq_iff_eq, decide_eq_true_eq] at h2; obtain ⟨⟨hb, hlt⟩, h3⟩ := h2; have hle := hall e he hb; rcases h3 with h3 | h3
   · rw [← h3]; exact hle
   · have he2 : e.on < ops.size := by omega
     exact ih e.on hlt ops[e.on] (Array.getElem?_eq_getElem he2) (inv e.on _ (Array.getElem?_eq_getElem he2) hle) j (by simpa using h3)
theorem anc_not (hA : ancOk md ops anc = true) {listed : Array Bool} (inv : Closed md ops listed) {i j : Nat} (hi : i ∈ Region.ready md ops listed) (hj : j ∈ Region.ready md ops listed) : i ∉ anc j := by
 intro h; obtain ⟨_, o, ho, hall⟩ := mem_ready.1 hj; have h1 := anc_listed hA inv j o ho hall i h; have h2 := (mem_ready.1 hi).1; rcases Nat.lt_or_ge i listed.size with h' | h'
 · simp [h'] at h1 h2; rw [h1] at h2; cases h2
 · simp [Array.getElem?_eq_none h'] at h1
def Keeps (ops : Array Oper) (anc : Nat → List Nat) (I : Nat → Act → Option (Spec G)) : Prop := ∀ (i : Nat) (oi : Oper) (a : Act) (j : Nat) (oj : Oper) (x : Value), ops[i]? = some oi → ops[j]? = some oj → j ∉ anc i → (∀ s, oj.dst = some s → s ∉ oi.looksAt ops) → I i (a.put oj.dst x) = I i a
def Shows (P : Program) (ops : Array Oper) (G : Nat → World → World → Prop) (E : List PanicEntry → World → Prop) (B : Nat → World → Prop) (anc : Nat → List Nat) (I : Nat → Act → Option (Spec G)) (i : Nat) (oi : Oper) (a : Act) (F : Env) (u : Value → Prop) (f : Env → Value → Env) : Prop :=
 (Region.wanted oi (yielded ops a.tmps) = true ∧ ∃ s, I i a = some s ∧ relStep P G E B i (anc i) s oi a F ∧ u = s.S ∧ f = fun F v => upd F i (s.R v)) ∨
 (Region.wanted oi (yielded ops a.tmps) = true ∧ I i a = none ∧ ∃ v, detStep P G B i (anc i) v oi a F ∧ u = (fun x => x = v) ∧ f = fun F _ => F) ∨
 (Region.wanted oi (yielded ops a.tmps) = false ∧ u = (fun x => x = undef) ∧ f = fun F _ => F)
theorem Shows.opG {i : Nat} {oi : Oper} {a : Act} {F : Env} {u : Value → Prop} {f : Env → Value → Env} (hi : ops[i]? = some oi) (hy : Shows P ops G E B anc I i oi a F u f) {K : Act → Env → Prop}
 (h : ∀ v, u v → K (a.put oi.dst v) (f F v)) : opG P ops G E B anc I i K a F := by
 unfold GrowS.opG; simp only [hi]; rcases hy with ⟨hw, s, hs, h1, rfl, rfl⟩ | ⟨hw, hs, v, h1, rfl, rfl⟩ | ⟨hw, rfl, rfl⟩
 · simp only [hw, if_true, hs]; exact ⟨h1, h⟩
 · simp only [hw, if_true, hs]; exact fun _ _ _ => ⟨v, h1, h v rfl⟩
 · simp only [hw]; exact h _ rfl
theorem Shows.keep {i : Nat} {oi oj : Oper} {a : Act} {F : Env} {u : Value → Prop} {f : Env → Value → Env} (hk : Keeps ops anc I) (hi : ops[i]? = some oi) {j : Nat} (hj : ops[j]? = some oj) (hnj : j ∉ anc i) (hy : Shows P ops G E B anc I i oi a F u f) (hsi : ∀ cs b, oi.op ≠ .select cs b)
 (h3 : ∀ d, oj.dst = some d → d ∉ oi.looksAt ops) (x : Value) {F' : Env} (hF : ∀ w, facts (anc i) F' w → facts (anc i) F w) : Shows P ops G E B anc I i oi (a.put oj.dst x) F' u f := by
 unfold Shows relStep detStep at *; rw [execOp_put oi hsi a oj.dst x h3, wanted_put oi a oj.dst x h3, hk i oi a j oj x hi hj hnj h3]; rcases hy with ⟨hw, s, hs, h1, h2⟩ | ⟨hw, hs, v, h1, h2⟩ | h
 · exact .inl ⟨hw, s, hs, fun w hb hf => h1 w hb (hF w hf), h2⟩
 · exact .inr (.inl ⟨hw, hs, v, fun w hb hf => h1 w hb (hF w hf), h2⟩)
 · exact .inr (.inr h)
theorem Shows.inh {i : Nat} {oi : Oper} {a : Act} {F : Env} {u : Value → Prop} {f : Env → Value → Env} (hy : Shows P ops G E B anc I i oi a F u f) : ∃ v, u v := by
 rcases hy with ⟨_, s, _, _, rfl, _⟩ | ⟨_, _, v, _, rfl, _⟩ | ⟨_, rfl, _⟩
 · exact s.inh
 · exact ⟨v, rfl⟩
 · exact ⟨undef, rfl⟩
theorem Shows.upd {i j : Nat} {oi : Oper} {a : Act} {F : Env} {u : Value → Prop} {f : Env → Value → Env} (hy : Shows P ops G E B anc I i oi a F u f) (hij : i ≠ j) (F' : Env) (v : Value) (p : World → Prop) :
 upd (f F' v) j p = f (upd F' j p) v := by
 rcases hy with ⟨_, s, _, _, _, rfl⟩ | ⟨_, _, _, _, _, rfl⟩ | ⟨_, _, rfl⟩
 · exact upd_comm F' hij _ _
 · rfl
 · rfl
theorem Shows.facts {i j : Nat} {oi : Oper} {a : Act} {F : Env} {u : Value → Prop} {f : Env → Value → Env} (hy : Shows P ops G E B anc I i oi a F u f) (hij : i ∉ anc j) (F' : Env) (v : Value) (w : World) :
 facts (anc j) (f F' v) w ↔ GrowS.facts (anc j) F' w := by
 rcases hy with ⟨_, s, _, _, _, rfl⟩ | ⟨_, _, _, _, _, rfl⟩ | ⟨_, _, rfl⟩
 · exact facts_upd hij w
 · exact Iff.rfl
 · exact Iff.rfl
theorem detUpon_one {G : World → World → Prop} {v v' : Value} {w : World} {r : Result Next} (h : detUpon G v w r) (h' : detUpon G v' w r) : v = v' := by
 cases r with
 | ok n w' => cases n <;> simp only [detUpon] at h h' <;> exact h.2.symm.trans h'.2
 | halt x w' => simp only [detUpon] at h
theorem opG_put {i j : Nat} {oi oj : Oper} (hk : Keeps ops anc I) (hi : ops[i]? = some oi) (hij : i ≠ j) (hj : ops[j]? = some oj) (hap : oi.apart ops oj = true)
 (hsi : ∀ cs b, oi.op ≠ .select cs b) (hsj : ∀ cs b, oj.op ≠ .select cs b) (hni : i ∉ anc j) (hnj : j ∉ anc i) {K : Act → Env → Prop} {a : Act} {F : Env} {u : Value → Prop} {f : Env → Value → Env}
 (hy : Shows P ops G E B anc I i oi a F u f) (h : ∀ v, u v → opG P ops G E B anc I j K (a.put oi.dst v) (f F v)) :
 opG P ops G E B anc I j (fun a' F' => Shows P ops G E B anc I i oi a' F' u f ∧ ∀ v, u v → K (a'.put oi.dst v) (f F' v)) a F := by
 obtain ⟨h1, h2, h3⟩ := Oper.apart_spec hap; have hkj := fun v => hk j oj a i oi v hj hi hni h1; have hyk : ∀ (x : Value) {F' : Env}, (∀ w, facts (anc i) F' w → facts (anc i) F w) → Shows P ops G E B anc I i oi (a.put oj.dst x) F' u f := fun x F' hF => hy.keep hk hi hj hnj hsi h3 x hF; unfold GrowS.opG at *; simp only [hj] at *; by_cases hw : Region.wanted oj (yielded ops a.tmps) = true
 · simp only [hw, if_true]; cases hI : I j a with
   | some s =>
     simp only [hI]; refine ⟨?_, fun x hx => ⟨hyk x (fun w hf => (facts_upd hnj w).1 hf), fun v hv => ?_⟩⟩
     · obtain ⟨v0, hv0⟩ := hy.inh; have h4 := h v0 hv0; rw [wanted_put oj a oi.dst v0 h1, if_pos hw, hkj v0, hI] at h4; intro w hb hf; have h5 := h4.1 w hb ((hy.facts hni F v0 w).2 hf); rwa [execOp_put oj hsj a oi.dst v0 h1] at h5
     · have h4 := h v hv; rw [wanted_put oj a oi.dst v h1, if_pos hw, hkj v, hI] at h4; have h5 := h4.2 x hx; rw [← Act.put_comm a v x h2, ← hy.upd hij]; exact h5
   | none =>
     simp only [hI]; intro w0 hb0 hf0; obtain ⟨v0, hv0⟩ := hy.inh; have h4 := h v0 hv0; rw [wanted_put oj a oi.dst v0 h1, if_pos hw, hkj v0, hI] at h4; obtain ⟨x, hx, hK⟩ := h4 w0 hb0 ((hy.facts hni F v0 w0).2 hf0); have hdet : detStep P G B j (anc j) x oj a F := by
      intro w hb hf; have h5 := hx w hb ((hy.facts hni F v0 w).2 hf); rwa [execOp_put oj hsj a oi.dst v0 h1] at h5
     refine ⟨x, hdet, hyk x (fun w hf => hf), fun v hv => ?_⟩; have h6 := h v hv; rw [wanted_put oj a oi.dst v h1, if_pos hw, hkj v, hI] at h6; obtain ⟨x', hx', hK'⟩ := h6 w0 hb0 ((hy.facts hni F v w0).2 hf0); have h7 := hx' w0 hb0 ((hy.facts hni F v w0).2 hf0); rw [execOp_put oj hsj a oi.dst v h1] at h7; have hxx : x = x' := detUpon_one (hdet w0 hb0 hf0) h7; subst hxx; rw [← Act.put_comm a v x h2]
     exact hK'
 · simp only [hw]; refine ⟨hyk undef (fun w hf => hf), fun v hv => ?_⟩; have h4 := h v hv; rw [wanted_put oj a oi.dst v h1, if_neg hw] at h4; rw [← Act.put_comm a v undef h2]; exact h4
theorem shows_of {i : Nat} {oi : Oper} {a : Act} {F : Env} {K : Act → Env → Prop} 
 (h : if Region.wanted oi (yielded ops a.tmps) then
   match I i a with
   | some s => relStep P G E B i (anc i) s oi a F ∧ ∀ v, s.S v → K (a.put oi.dst v) (upd F i (s.R v))
   | none => ∃ v, detStep P G B i (anc i) v oi a F ∧ K (a.put oi.dst v) F
 else K (a.put oi.dst undef) F) : ∃ u f, Shows P ops G E B anc I i oi a F u f ∧ ∀ v, u v → K (a.put oi.dst v) (f F v) := by
 by_cases hw : Region.wanted oi (yielded ops a.tmps) = true
 · simp only [hw, if_true] at h; cases hI : I i a with
   | some s =>
     simp only [hI] at h; exact ⟨_, _, .inl ⟨hw, s, hI, h.1, rfl, rfl⟩, h.2⟩
   | none =>
     simp only [hI] at h; obtain ⟨v, h1, h2⟩ := h; exact ⟨_, _, .inr (.inl ⟨hw, hI, v, h1, rfl, rfl⟩), fun x hx => by subst hx; exact h2⟩
 · simp only [hw] at h; exact ⟨_, _, .inr (.inr ⟨by simpa using hw, rfl, rfl⟩), fun x hx => by subst hx; exact h⟩
def anyGL (P : Program) (md : Region.Mode) (ops : Array Oper) (G : Nat → World → World → Prop) (E : List PanicEntry → World → Prop) (B : Nat → World → Prop) (anc : Nat → List Nat) (I : Nat → Act → Option (Spec G)) (n : Nat) (L : Array Bool → Act → Env → Prop) : Nat → Array Bool → Act → Env → Prop
 | 0, listed, a, F => L listed a F
 | fuel + 1, listed, a, F =>
   Region.ready md ops listed ≠ [] ∧
   ∀ i ∈ Region.ready md ops listed, i < n ∧ opG P ops G E B anc I i (anyGL P md ops G E B anc I n L fuel (listed.setIfInBounds i true)) a F
structure InvOk (md : Region.Mode) (ops : Array Oper) (G : Nat → World → World → Prop) (B : Nat → World → Prop) (Inv : Array Bool → World → Prop) : Prop where
 pre : ∀ listed i w, Inv listed w → i ∈ Region.ready md ops listed → B i w
 last : ∀ listed i w w', Inv listed w → i ∈ Region.ready md ops listed → G i w w' → Inv (listed.setIfInBounds i true) w'
 skip : ∀ listed i o w, Inv listed w → i ∈ Region.ready md ops listed → ops[i]? = some o → o.guard ≠ none → Inv (listed.setIfInBounds i true) w
theorem wanted_none {o : Oper} (h : o.guard = none) (y : Nat → Option Bool) : Region.wanted o y = true := by unfold Region.wanted; rw [h]
theorem put_defers (a : Act) (d : Option Nat) (v : Value) : (a.put d v).defers = a.defers := by cases d <;> rfl
theorem wpOp_of_opG {Inv : Array Bool → World → Prop} (hI0 : InvOk md ops G B Inv) {listed : Array Bool} {Q' : Exit → Act → World → Prop} {D : List Deferred} (hE : ∀ ch a w, a.defers = D → E ch w → Q' (.panic ch) a w) {K : Act → Env → Prop} {K' : Act → World → Prop} {i : Nat} {a : Act} {F : Env} {w : World}
 (hi : i ∈ Region.ready md ops listed) (hd : a.defers = D)
 (hK : ∀ a F w, a.defers = D → Inv (listed.setIfInBounds i true) w → (∀ k, F k w) → (∀ k i w w', F k w → G i w w' → F k w') → K a F → K' a w)
 (hw : Inv listed w) (hF : ∀ k, F k w) (hl : ∀ k i w w', F k w → G i w w' → F k w') (h1 : opG P ops G E B anc I i K a F) : wpOp P ops Q' i K' a w := by
 unfold opG at h1; unfold wpOp; have hb := hI0.pre _ _ _ hw hi; cases ho : ops[i]? with
 | none => obtain ⟨_, o, ho', _⟩ := mem_ready.1 hi; rw [ho] at ho'; cases ho'
 | some o =>
   simp only [ho] at h1 ⊢; split
   · rename_i hwt
     simp only [hwt, if_true] at h1; refine .inl ?_; unfold Oper.wp; cases hI : I i a with
     | none =>
       simp only [hI] at h1; obtain ⟨v, h2, h3⟩ := h1 w hb (fun j _ => hF j); have h4 := h2 w hb (fun j _ => hF j); generalize (execOp a.eval o).run P w = r at *; cases r with
       | ok n w' =>
         cases n <;> simp only [detUpon] at h4 <;> simp only [Oper.upon]
         case value u =>
          obtain ⟨e1, e2⟩ := h4; rw [e2]; exact hK _ _ _ ((put_defers _ _ _).trans hd) (hI0.last _ _ _ _ hw hi e1) (fun k => hl k _ _ _ (hF k) e1) hl h3
         case skip =>
          obtain ⟨e1, e2⟩ := h4; rw [e2]; exact hK _ _ _ ((put_defers _ _ _).trans hd) (hI0.last _ _ _ _ hw hi e1) (fun k => hl k _ _ _ (hF k) e1) hl h3
       | halt x w' => simp only [detUpon] at h4
     | some s =>
       simp only [hI] at h1; obtain ⟨h2, h3⟩ := h1; have h4 := h2 w hb (fun j _ => hF j); have next : ∀ v w', G i w w' → s.S v → s.R v w' → K' (a.put o.dst v) w' := by
        intro v w' g1 g2 g3; refine hK _ _ _ ((put_defers _ _ _).trans hd) (hI0.last _ _ _ _ hw hi g1) (fun k => ?_) (fun k j w1 w2 => ?_) (h3 v g2)
        · unfold upd; split
          · exact g3
          · exact hl k _ _ _ (hF k) g1
        · unfold upd; split
          · exact s.lasts j v w1 w2
          · exact hl k j w1 w2
       generalize (execOp a.eval o).run P w = r at *; cases r with
       | ok n w' =>
         cases n <;> simp only [relUpon] at h4 <;> simp only [Oper.upon]
         case value u => exact next _ _ h4.1 h4.2.1 h4.2.2
         case skip => exact next _ _ h4.1 h4.2.1 h4.2.2
         case enter f args =>
          refine h4.mono fun e w'' h5 => ?_; rcases h5 with ⟨v, he, g1, g2, g3⟩ | ⟨ch, he, h5⟩
          · subst he; exact next _ _ g1 g2 g3
          · subst he; exact hE _ _ _ hd h5
         case row row args => exact h4.mono fun v w'' ⟨g1, g2, g3⟩ => next _ _ g1 g2 g3
       | halt x w' => simp only [relUpon] at h4
   · rename_i hwt
     simp only [hwt] at h1; exact hK _ _ _ ((put_defers _ _ _).trans hd) (hI0.skip _ _ _ _ hw hi ho (fun hg => hwt (wanted_none hg _))) hF hl h1
theorem wpAny_of_headG {Inv : Array Bool → World → Prop} (hI0 : InvOk md ops G B Inv) {n g : Nat} {L : Array Bool → Act → Env → Prop} {Q' : Exit → Act → World → Prop} {D : List Deferred} (hE : ∀ ch a w, a.defers = D → E ch w → Q' (.panic ch) a w)
 (hL : ∀ listed a F w, Inv listed w → (∀ k, F k w) → L listed a F → wpAny P md ops Q' g listed a w) :
 ∀ (f : Nat) (listed : Array Bool) (a : Act) (F : Env) (w : World), a.defers = D → Inv listed w → (∀ k, F k w) → (∀ k i w w', F k w → G i w w' → F k w') →
   anyGL P md ops G E B anc I n L f listed a F → wpAny P md ops Q' (f + g) listed a w
 | 0, listed, a, F, w, _, hw, hF, _, h => by rw [Nat.zero_add]; exact hL _ _ _ _ hw hF h
 | f + 1, listed, a, F, w, hd, hw, hF, hl, h => by
   rw [show f + 1 + g = (f + g) + 1 by omega]; exact ⟨fun h0 => absurd h0 h.1, fun i hi => wpOp_of_opG hI0 hE hi hd (fun a' F' w' hd' hb hf hl' h' => wpAny_of_headG hI0 hE hL f _ a' F' w' hd' hb hf hl' h') hw hF hl (h.2 i hi).2⟩
end
section
variable {P : Program} {ops : Array Oper} {G : Nat → World → World → Prop} {E : List PanicEntry → World → Prop} {B : Nat → World → Prop} {anc : Nat → List Nat} {I : Nat → Act → Option (Spec G)} {Q : Act → Env → Prop} {o : Oper} {rest : List Oper} {k : Nat} {a : Act} {F : Env} {K : Act → Env → Prop}
def Step (P : Program) (ops : Array Oper) (G : Nat → World → World → Prop) (E : List PanicEntry → World → Prop) (B : Nat → World → Prop) (anc : Nat → List Nat) (I : Nat → Act → Option (Spec G)) (o : Oper) (k : Nat) (a : Act) (F : Env) (K : Act → Env → Prop) : Prop :=
 (Region.wanted o (yielded ops a.tmps) = false ∧ K (a.put o.dst undef) F) ∨
 (Region.wanted o (yielded ops a.tmps) = true ∧ ((∃ s, I k a = some s ∧ relStep P G E B k (anc k) s o a F ∧ ∀ v, s.S v → K (a.put o.dst v) (upd F k (s.R v))) ∨
   (I k a = none ∧ ∃ v, detStep P G B k (anc k) v o a F ∧ K (a.put o.dst v) F)))
theorem walk_step (h : ∀ K : Act → Env → Prop, (∀ a F, walk P ops G E B anc I Q rest (k + 1) a F → K a F) → Step P ops G E B anc I o k a F K) : walk P ops G E B anc I Q (o :: rest) k a F := by
 unfold walk; rcases h _ (fun _ _ h => h) with ⟨h1, h2⟩ | ⟨h1, ⟨s, h2, h3⟩ | ⟨h2, h3⟩⟩
 · rw [if_neg (by simp [h1])]; exact h2
 · rw [if_pos h1]; simp only [h2]; exact h3
 · rw [if_pos h1]; simp only [h2]; exact h3
theorem step_off (hg : Region.wanted o (yielded ops a.tmps) = false) (h : K (a.put o.dst undef) F) : Step P ops G E B anc I o k a F K := .inl ⟨hg, h⟩
theorem step_read (hg : Region.wanted o (yielded ops a.tmps) = true) (hI : I k a = none) (hG : ∀ w, G k w w) (h : ∃ u, (∀ w, B k w → facts (anc k) F w → (execOp a.eval o).run P w = .ok (.value u) w) ∧ K (a.put o.dst u) F) : Step P ops G E B anc I o k a F K := by
 obtain ⟨u, hrun, h⟩ := h; refine .inr ⟨hg, .inr ⟨hI, u, fun w hb hf => ?_, h⟩⟩; rw [hrun w hb hf]; exact ⟨hG w, rfl⟩
theorem step_rel {s : Spec G} (hg : Region.wanted o (yielded ops a.tmps) = true) (hI : I k a = some s) (hrun : ∀ w, B k w → facts (anc k) F w → relUpon P (G k) E s.S s.R w ((execOp a.eval o).run P w)) (h : ∀ v, s.S v → K (a.put o.dst v) (upd F k (s.R v))) : Step P ops G E B anc I o k a F K :=
 .inr ⟨hg, .inl ⟨s, hI, hrun, h⟩⟩
theorem relUpon_value {G : World → World → Prop} {S : Value → Prop} {R : Value → World → Prop} {w w' : World} {u : Value} (hG : G w w') (hS : S u) (hR : R u w') : relUpon P G E S R w (.ok (.value u) w') := ⟨hG, hS, hR⟩
theorem relUpon_enter {G : World → World → Prop} {S : Value → Prop} {R : Value → World → Prop} {w w' : World} {f : FuncId} {args : Array Value} (h : Calls P f args w' (fun e w'' => (∃ v, e = .returned v ∧ G w w'' ∧ S v ∧ R v w'') ∨ (∃ ch, e = .panicked ch ∧ E ch w''))) : relUpon P G E S R w (.ok (.enter f args) w') := h
end
section
variable {P : Program} {ops : Array Oper} {G : Nat → World → World → Prop} {E : List PanicEntry → World → Prop} {B : Nat → World → Prop} {anc : Nat → List Nat}
structure Wk (P : Program) (ops : Array Oper) (G : Nat → World → World → Prop) (E : List PanicEntry → World → Prop) (B : Nat → World → Prop) (anc : Nat → List Nat) (I : Nat → Act → Option (Spec G)) (Q : Act → Env → Prop) (l : List Oper) (k : Nat) (a : Act) (F : Env) : Prop where
 out : walk P ops G E B anc I Q l k a F
theorem Wk.step {I : Nat → Act → Option (Spec G)} {Q : Act → Env → Prop} {o : Oper} {rest : List Oper} {k : Nat} {a : Act} {F : Env} (h : ∀ K : Act → Env → Prop, (∀ a F, Wk P ops G E B anc I Q rest (k + 1) a F → K a F) → Step P ops G E B anc I o k a F K) : Wk P ops G E B anc I Q (o :: rest) k a F :=
 ⟨walk_step (fun K hK => h K (fun a F w => hK a F w.out))⟩
theorem Wk.nil {I : Nat → Act → Option (Spec G)} {Q : Act → Env → Prop} {k : Nat} {a : Act} {F : Env} (h : Q a F) : Wk P ops G E B anc I Q [] k a F := ⟨h⟩
end
def Spec.val (G : Nat → World → World → Prop) (u : Value) : Spec G := ⟨fun v => v = u, fun _ _ => True, ⟨u, rfl⟩, fun _ _ _ _ _ _ => trivial⟩
def lexRest (md : Region.Mode) (ops : Array Oper) (target : Array Bool) : Nat → Nat → Array Bool → Bool
 | 0, _, listed => decide (listed = target)
 | f + 1, k, listed => (Region.ready md ops listed).contains k && Region.free md ops listed k && lexRest md ops target f (k + 1) (listed.setIfInBounds k true)
section
variable {P : Program} {ops : Array Oper} {md : Region.Mode} {G : Nat → World → World → Prop} {E : List PanicEntry → World → Prop} {B : Nat → World → Prop} {anc : Nat → List Nat} {I : Nat → Act → Option (Spec G)}
end
section
variable {P : Program} {G : Nat → World → World → Prop} {E : List PanicEntry → World → Prop} {B : Nat → World → Prop} {anc : Nat → List Nat}
def atS (sp : Nat) (B0 B1 : World → Prop) : Nat → World → Prop := fun i w => if i = sp then B0 w else B0 w ∨ B1 w
def gS (sp : Nat) (G0 G1 : World → World → Prop) : Nat → World → World → Prop := fun i => if i = sp then G1 else G0
def invS (sp : Nat) (B0 B1 : World → Prop) : Array Bool → World → Prop := fun listed w => if listed.getD sp true = true then B1 w else B0 w
def unguardedB (ops : Array Oper) (sp : Nat) : Bool := match ops[sp]? with | some o => o.guard.isNone | none => false
theorem invS_ok {md : Region.Mode} {ops : Array Oper} {sp : Nat} {B0 B1 : World → Prop} {G0 G1 : World → World → Prop} (hg : unguardedB ops sp = true) (h00 : ∀ w w', B0 w → G0 w w' → B0 w') (h11 : ∀ w w', B1 w → G0 w w' → B1 w') (h01 : ∀ w w', B0 w → G1 w w' → B1 w') : InvOk md ops (gS sp G0 G1) (atS sp B0 B1) (invS sp B0 B1) := by
 have un : ∀ {listed : Array Bool} {i : Nat}, i ∈ Region.ready md ops listed → i < listed.size ∧ listed.getD i true = false := by
  intro listed i hi; have h := (mem_ready.1 hi).1; refine ⟨?_, h⟩; rcases Nat.lt_or_ge i listed.size with h' | h'
  · exact h'
  · simp [h'] at h
 have other : ∀ {listed : Array Bool} {i : Nat}, i ≠ sp → (listed.setIfInBounds i true).getD sp true = listed.getD sp true := by
  intro listed i hi; simp [Array.getD_eq_getD_getElem?, Array.getElem?_setIfInBounds_ne hi]
 refine ⟨fun listed i w h hi => ?_, fun listed i w w' h hi hg' => ?_, fun listed i o w h hi ho hgo => ?_⟩
 · unfold invS at h; unfold atS; by_cases e : i = sp
   · subst e; rw [if_pos rfl]; rwa [if_neg (by rw [(un hi).2]; decide)] at h
   · rw [if_neg e]; split at h
     · exact .inr h
     · exact .inl h
 · unfold invS at h ⊢; unfold gS at hg'; by_cases e : i = sp
   · subst e; rw [if_pos rfl] at hg'; rw [if_neg (by rw [(un hi).2]; decide)] at h; rw [if_pos (by simp [Array.getD_eq_getD_getElem?, (un hi).1])]; exact h01 _ _ h hg'
   · rw [if_neg e] at hg'; rw [other e]; split at h
     · rename_i h'; rw [if_pos h']; exact h11 _ _ h hg'
     · rename_i h'; rw [if_neg h']; exact h00 _ _ h hg'
 · have e : i ≠ sp := by
    intro e; subst e; unfold unguardedB at hg; cases hgg : o.guard with
    | none => exact hgo hgg
    | some x => simp [ho, hgg] at hg
   unfold invS at h ⊢; rw [other e]; exact h
end
end Go.GrowS
