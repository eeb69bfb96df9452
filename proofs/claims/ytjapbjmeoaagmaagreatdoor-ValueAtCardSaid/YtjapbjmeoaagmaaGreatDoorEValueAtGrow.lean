/- A text of this proof. -/
import Derived.Deep.Quiet
import Derived.StillTail
import Derived.Below
set_option linter.unusedVariables false
set_option linter.unusedSimpArgs false
set_option maxRecDepth 100000
namespace Go.Grow
section
variable {P : Program} {ops : Array Oper} {md : Region.Mode} {G : World → World → Prop}
structure Spec (G : World → World → Prop) where
 S : Value → Prop
 R : Value → World → Prop
 inh : ∃ v, S v
 lasts : ∀ v w w', R v w → G w w' → R v w'
def relUpon (P : Program) (G : World → World → Prop) (S : Value → Prop) (R : Value → World → Prop) (w : World) : Result Next → Prop
 | .ok (.value u) w' => G w w' ∧ S u ∧ R u w'
 | .ok .skip w' => G w w' ∧ S undef ∧ R undef w'
 | .ok (.enter f args) w' => Calls P f args w' (fun e w'' => ∃ v, e = .returned v ∧ G w w'' ∧ S v ∧ R v w'')
 | .ok (.row row args) w' => Rows P row args w' (fun v w'' => G w w'' ∧ S v ∧ R v w'')
 | _ => False
def detUpon (G : World → World → Prop) (v : Value) (w : World) : Result Next → Prop
 | .ok (.value u) w' => G w w' ∧ u = v
 | .ok .skip w' => G w w' ∧ undef = v
 | _ => False
abbrev Env := Nat → World → Prop
def upd (F : Env) (k : Nat) (p : World → Prop) : Env := fun j w => if j = k then p w else F j w
theorem upd_comm (F : Env) {i j : Nat} (h : i ≠ j) (p q : World → Prop) : upd (upd F i p) j q = upd (upd F j q) i p := by
 funext k w
 simp only [upd]; by_cases h1 : k = j
 · subst h1; simp [Ne.symm h]
 · by_cases h2 : k = i
   · subst h2; simp [h]
   · simp [h1, h2]
def facts (A : List Nat) (F : Env) (w : World) : Prop := ∀ j ∈ A, F j w
theorem facts_upd {A : List Nat} {F : Env} {i : Nat} {p : World → Prop} (h : i ∉ A) (w : World) : facts A (upd F i p) w ↔ facts A F w := by
 unfold facts upd; constructor
 · intro h1 j hj; have := h1 j hj; rwa [if_neg (fun (e : j = i) => h (e ▸ hj))] at this
 · intro h1 j hj; rw [if_neg (fun (e : j = i) => h (e ▸ hj))]; exact h1 j hj
def relStep (P : Program) (G : World → World → Prop) (B : World → Prop) (A : List Nat) (s : Spec G) (o : Oper) (a : Act) (F : Env) : Prop :=
 ∀ w, B w → facts A F w → relUpon P G s.S s.R w ((execOp a.eval o).run P w)
def detStep (P : Program) (G : World → World → Prop) (B : World → Prop) (A : List Nat) (v : Value) (o : Oper) (a : Act) (F : Env) : Prop :=
 ∀ w, B w → facts A F w → detUpon G v w ((execOp a.eval o).run P w)
def walk (P : Program) (ops : Array Oper) (G : World → World → Prop) (B : World → Prop) (anc : Nat → List Nat) (I : Nat → Act → Option (Spec G)) (Q : Act → Env → Prop) : List Oper → Nat → Act → Env → Prop
 | [], _, a, F => Q a F
 | o :: rest, k, a, F =>
   if Region.wanted o (yielded ops a.tmps) then
    match I k a with
    | some s => relStep P G B (anc k) s o a F ∧ ∀ v, s.S v → walk P ops G B anc I Q rest (k + 1) (a.put o.dst v) (upd F k (s.R v))
    | none => ∃ v, detStep P G B (anc k) v o a F ∧ walk P ops G B anc I Q rest (k + 1) (a.put o.dst v) F
   else walk P ops G B anc I Q rest (k + 1) (a.put o.dst undef) F
def opG (P : Program) (ops : Array Oper) (G : World → World → Prop) (B : World → Prop) (anc : Nat → List Nat) (I : Nat → Act → Option (Spec G)) (i : Nat) (K : Act → Env → Prop) (a : Act) (F : Env) : Prop :=
 match ops[i]? with
 | none => K a F
 | some o =>
   if Region.wanted o (yielded ops a.tmps) then
    match I i a with
    | some s => relStep P G B (anc i) s o a F ∧ ∀ v, s.S v → K (a.put o.dst v) (upd F i (s.R v))
    | none => ∀ w0, B w0 → facts (anc i) F w0 → ∃ v, detStep P G B (anc i) v o a F ∧ K (a.put o.dst v) F
   else K (a.put o.dst undef) F
def anyG (P : Program) (md : Region.Mode) (ops : Array Oper) (G : World → World → Prop) (B : World → Prop) (anc : Nat → List Nat) (I : Nat → Act → Option (Spec G)) (Q : Act → Env → Prop) : Nat → Array Bool → Act → Env → Prop
 | 0, listed, a, F => Region.ready md ops listed = [] ∧ Q a F
 | fuel + 1, listed, a, F =>
   (Region.ready md ops listed = [] → Q a F) ∧
   ∀ i ∈ Region.ready md ops listed, opG P ops G B anc I i (anyG P md ops G B anc I Q fuel (listed.setIfInBounds i true)) a F
variable {B : World → Prop} {anc : Nat → List Nat} {I : Nat → Act → Option (Spec G)}
theorem opG_mono {i : Nat} {a : Act} {F : Env} {K K' : Act → Env → Prop} (h : ∀ a F, K a F → K' a F) (hh : opG P ops G B anc I i K a F) : opG P ops G B anc I i K' a F := by
 unfold opG at *; cases ho : ops[i]? with
 | none => simp only [ho] at hh ⊢; exact h _ _ hh
 | some o =>
   simp only [ho] at hh ⊢; split
   · rename_i hw
     simp only [hw, if_true] at hh; cases hI : I i a with
     | none =>
       simp only [hI] at hh ⊢; intro w0 h0 h1; obtain ⟨v, h2, h3⟩ := hh w0 h0 h1; exact ⟨v, h2, h _ _ h3⟩
     | some s =>
       simp only [hI] at hh ⊢; exact ⟨hh.1, fun v hv => h _ _ (hh.2 v hv)⟩
   · rename_i hw
     simp only [hw] at hh; exact h _ _ hh
theorem wpAny_of (hlast : ∀ w w', B w → G w w' → B w') {Q : Act → Env → Prop} {Q' : Exit → Act → World → Prop}
 (hQ : ∀ a F w, B w → (∀ k, F k w) → Q a F → Q' .normal a w) : ∀ (fuel : Nat) (listed : Array Bool) (a : Act) (F : Env) (w : World), B w → (∀ k, F k w) → (∀ k w w', F k w → G w w' → F k w') →
 anyG P md ops G B anc I Q fuel listed a F → wpAny P md ops Q' fuel listed a w
 | 0, _, _, _, _, hw, hF, _, h => ⟨h.1, hQ _ _ _ hw hF h.2⟩
 | fuel + 1, listed, a, F, w, hw, hF, hl, h => by
   refine ⟨fun h0 => hQ _ _ _ hw hF (h.1 h0), fun i hi => ?_⟩; have h1 := h.2 i hi; unfold opG at h1; unfold wpOp; cases ho : ops[i]? with
   | none => simp only [ho] at h1 ⊢; exact wpAny_of hlast hQ fuel _ _ _ _ hw hF hl h1
   | some o =>
     simp only [ho] at h1 ⊢; split
     · rename_i hwt
       simp only [hwt, if_true] at h1; refine .inl ?_; unfold Oper.wp; cases hI : I i a with
       | none =>
         simp only [hI] at h1; obtain ⟨v, h2, h3⟩ := h1 w hw (fun j _ => hF j); have h4 := h2 w hw (fun j _ => hF j); generalize (execOp a.eval o).run P w = r at *; cases r with
         | ok n w' =>
           cases n <;> simp only [detUpon] at h4 <;> simp only [Oper.upon]
           case value u =>
            obtain ⟨e1, e2⟩ := h4; rw [e2]; exact wpAny_of hlast hQ fuel _ _ _ _ (hlast _ _ hw e1) (fun k => hl k _ _ (hF k) e1) hl h3
           case skip =>
            obtain ⟨e1, e2⟩ := h4; rw [e2]; exact wpAny_of hlast hQ fuel _ _ _ _ (hlast _ _ hw e1) (fun k => hl k _ _ (hF k) e1) hl h3
         | halt x w' => simp only [detUpon] at h4
       | some s =>
         simp only [hI] at h1; obtain ⟨h2, h3⟩ := h1; have h4 := h2 w hw (fun j _ => hF j); have next : ∀ v w', G w w' → s.S v → s.R v w' → wpAny P md ops Q' fuel (listed.setIfInBounds i true) (a.put o.dst v) w' := by
          intro v w' g1 g2 g3; refine wpAny_of hlast hQ fuel _ _ _ _ (hlast _ _ hw g1) (fun k => ?_) (fun k w1 w2 => ?_) (h3 v g2)
          · unfold upd; split
            · exact g3
            · exact hl k _ _ (hF k) g1
          · unfold upd; split
            · exact s.lasts v w1 w2
            · exact hl k w1 w2
         generalize (execOp a.eval o).run P w = r at *; cases r with
         | ok n w' =>
           cases n <;> simp only [relUpon] at h4 <;> simp only [Oper.upon]
           case value u => exact next _ _ h4.1 h4.2.1 h4.2.2
           case skip => exact next _ _ h4.1 h4.2.1 h4.2.2
           case enter f args => exact h4.mono fun e w'' ⟨v, he, g1, g2, g3⟩ => by subst he; exact next _ _ g1 g2 g3
           case row row args => exact h4.mono fun v w'' ⟨g1, g2, g3⟩ => next _ _ g1 g2 g3
         | halt x w' => simp only [relUpon] at h4
     · rename_i hwt
       simp only [hwt] at h1; exact wpAny_of hlast hQ fuel _ _ _ _ hw hF hl h1
def Closed (md : Region.Mode) (ops : Array Oper) (listed : Array Bool) : Prop :=
 ∀ j oj, ops[j]? = some oj → listed.getD j false = true → ∀ e ∈ oj.after, Region.binds md e = true → listed.getD e.on false = true
theorem Closed.set {listed : Array Bool} {i : Nat} (inv : Closed md ops listed) (hi : i ∈ Region.ready md ops listed) : Closed md ops (listed.setIfInBounds i true) := by
 obtain ⟨_, oi, hoi, hall⟩ := mem_ready.1 hi; intro j oj hj hl e he hb; by_cases hij : i = j
 · subst hij; have : oj = oi := Option.some.inj (hj.symm.trans hoi); subst this; exact getD_set_true (hall e he hb)
 · rw [getD_set_ne false hij] at hl; exact getD_set_true (inv j oj hj hl e he hb)
def ancOk (md : Region.Mode) (ops : Array Oper) (anc : Nat → List Nat) : Bool :=
 (List.range ops.size).all fun i => (anc i).all fun j =>
   match ops[i]? with
   | some o => o.after.any fun e => Region.binds md e && decide (e.on < i) && (e.on == j || (anc e.on).contains j)
   | none => false
theorem anc_listed (hA : ancOk md ops anc = true) {listed : Array Bool} (inv : Closed md ops listed) : ∀ (i : Nat) (o : Oper), ops[i]? = some o →
 (∀ e ∈ o.after, Region.binds md e = true → listed.getD e.on false = true) → ∀ j ∈ anc i, listed.getD j false = true := by
 intro i; induction i using Nat.strongRecOn with
 | _ i ih =>
   intro o ho hall j hj; have hi := (Array.getElem?_eq_some_iff.1 ho).1; have h1 := List.all_eq_true.1 (List.all_eq_true.1 hA i (List.mem_range.2 hi)) j hj; simp only [ho] at h1; obtain ⟨e, he, h2⟩ := Array.any_eq_true'.1 h1; simp only [Bool.and_eq_true, Bool.or_eq_true, beq_iff_eq, decide_eq_true_eq] at h2; obtain ⟨⟨hb, hlt⟩, h3⟩ := h2; have hle := hall e he hb; rcases h3 with h3 | h3
   · rw [← h3]; exact hle
   · have he2 : e.on < ops.size := by omega
     exact ih e.on hlt ops[e.on] (Array.getElem?_eq_getElem he2) (inv e.on _ (Array.getElem?_eq_getElem he2) hle) j (by simpa using h3)
theorem anc_not (hA : ancOk md ops anc = true) {listed : Array Bool} (inv : Closed md ops listed) {i j : Nat} (hi : i ∈ Region.ready md ops listed) (hj : j ∈ Region.ready md ops listed) : i ∉ anc j := by
 intro h; obtain ⟨_, o, ho, hall⟩ := mem_ready.1 hj; have h1 := anc_listed hA inv j o ho hall i h; have h2 := (mem_ready.1 hi).1; rcases Nat.lt_or_ge i listed.size with h' | h'
 · simp [h'] at h1 h2; rw [h1] at h2; cases h2
 · simp [Array.getElem?_eq_none h'] at h1
def Keeps (ops : Array Oper) (I : Nat → Act → Option (Spec G)) : Prop := ∀ (i : Nat) (oi : Oper) (a : Act) (d : Option Nat) (x : Value), ops[i]? = some oi → (∀ s, d = some s → s ∉ oi.looksAt ops) → I i (a.put d x) = I i a
def Shows (P : Program) (ops : Array Oper) (G : World → World → Prop) (B : World → Prop) (anc : Nat → List Nat) (I : Nat → Act → Option (Spec G)) (i : Nat) (oi : Oper) (a : Act) (F : Env) (u : Value → Prop) (f : Env → Value → Env) : Prop :=
 (Region.wanted oi (yielded ops a.tmps) = true ∧ ∃ s, I i a = some s ∧ relStep P G B (anc i) s oi a F ∧ u = s.S ∧ f = fun F v => upd F i (s.R v)) ∨
 (Region.wanted oi (yielded ops a.tmps) = true ∧ I i a = none ∧ ∃ v, detStep P G B (anc i) v oi a F ∧ u = (fun x => x = v) ∧ f = fun F _ => F) ∨
 (Region.wanted oi (yielded ops a.tmps) = false ∧ u = (fun x => x = undef) ∧ f = fun F _ => F)
theorem Shows.opG {i : Nat} {oi : Oper} {a : Act} {F : Env} {u : Value → Prop} {f : Env → Value → Env} (hi : ops[i]? = some oi) (hy : Shows P ops G B anc I i oi a F u f) {K : Act → Env → Prop}
 (h : ∀ v, u v → K (a.put oi.dst v) (f F v)) : opG P ops G B anc I i K a F := by
 unfold Grow.opG; simp only [hi]; rcases hy with ⟨hw, s, hs, h1, rfl, rfl⟩ | ⟨hw, hs, v, h1, rfl, rfl⟩ | ⟨hw, rfl, rfl⟩
 · simp only [hw, if_true, hs]; exact ⟨h1, h⟩
 · simp only [hw, if_true, hs]; exact fun _ _ _ => ⟨v, h1, h v rfl⟩
 · simp only [hw]; exact h _ rfl
theorem Shows.keep {i : Nat} {oi oj : Oper} {a : Act} {F : Env} {u : Value → Prop} {f : Env → Value → Env} (hk : Keeps ops I) (hi : ops[i]? = some oi) (hy : Shows P ops G B anc I i oi a F u f) (hsi : ∀ cs b, oi.op ≠ .select cs b)
 (h3 : ∀ d, oj.dst = some d → d ∉ oi.looksAt ops) (x : Value) {F' : Env} (hF : ∀ w, facts (anc i) F' w → facts (anc i) F w) : Shows P ops G B anc I i oi (a.put oj.dst x) F' u f := by
 unfold Shows relStep detStep at *; rw [execOp_put oi hsi a oj.dst x h3, wanted_put oi a oj.dst x h3, hk i oi a oj.dst x hi h3]; rcases hy with ⟨hw, s, hs, h1, h2⟩ | ⟨hw, hs, v, h1, h2⟩ | h
 · exact .inl ⟨hw, s, hs, fun w hb hf => h1 w hb (hF w hf), h2⟩
 · exact .inr (.inl ⟨hw, hs, v, fun w hb hf => h1 w hb (hF w hf), h2⟩)
 · exact .inr (.inr h)
theorem Shows.inh {i : Nat} {oi : Oper} {a : Act} {F : Env} {u : Value → Prop} {f : Env → Value → Env} (hy : Shows P ops G B anc I i oi a F u f) : ∃ v, u v := by
 rcases hy with ⟨_, s, _, _, rfl, _⟩ | ⟨_, _, v, _, rfl, _⟩ | ⟨_, rfl, _⟩
 · exact s.inh
 · exact ⟨v, rfl⟩
 · exact ⟨undef, rfl⟩
theorem Shows.upd {i j : Nat} {oi : Oper} {a : Act} {F : Env} {u : Value → Prop} {f : Env → Value → Env} (hy : Shows P ops G B anc I i oi a F u f) (hij : i ≠ j) (F' : Env) (v : Value) (p : World → Prop) :
 upd (f F' v) j p = f (upd F' j p) v := by
 rcases hy with ⟨_, s, _, _, _, rfl⟩ | ⟨_, _, _, _, _, rfl⟩ | ⟨_, _, rfl⟩
 · exact upd_comm F' hij _ _
 · rfl
 · rfl
theorem Shows.facts {i j : Nat} {oi : Oper} {a : Act} {F : Env} {u : Value → Prop} {f : Env → Value → Env} (hy : Shows P ops G B anc I i oi a F u f) (hij : i ∉ anc j) (F' : Env) (v : Value) (w : World) :
 facts (anc j) (f F' v) w ↔ Grow.facts (anc j) F' w := by
 rcases hy with ⟨_, s, _, _, _, rfl⟩ | ⟨_, _, _, _, _, rfl⟩ | ⟨_, _, rfl⟩
 · exact facts_upd hij w
 · exact Iff.rfl
 · exact Iff.rfl
theorem detUpon_one {v v' : Value} {w : World} {r : Result Next} (h : detUpon G v w r) (h' : detUpon G v' w r) : v = v' := by
 cases r with
 | ok n w' => cases n <;> simp only [detUpon] at h h' <;> exact h.2.symm.trans h'.2
 | halt x w' => simp only [detUpon] at h
theorem opG_put {i j : Nat} {oi oj : Oper} (hk : Keeps ops I) (hi : ops[i]? = some oi) (hij : i ≠ j) (hj : ops[j]? = some oj) (hap : oi.apart ops oj = true)
 (hsi : ∀ cs b, oi.op ≠ .select cs b) (hsj : ∀ cs b, oj.op ≠ .select cs b) (hni : i ∉ anc j) (hnj : j ∉ anc i) {K : Act → Env → Prop} {a : Act} {F : Env} {u : Value → Prop} {f : Env → Value → Env}
 (hy : Shows P ops G B anc I i oi a F u f) (h : ∀ v, u v → opG P ops G B anc I j K (a.put oi.dst v) (f F v)) :
 opG P ops G B anc I j (fun a' F' => Shows P ops G B anc I i oi a' F' u f ∧ ∀ v, u v → K (a'.put oi.dst v) (f F' v)) a F := by
 obtain ⟨h1, h2, h3⟩ := Oper.apart_spec hap; have hkj := fun v => hk j oj a oi.dst v hj h1; unfold Grow.opG at *; simp only [hj] at *; by_cases hw : Region.wanted oj (yielded ops a.tmps) = true
 · simp only [hw, if_true]; cases hI : I j a with
   | some s =>
     simp only [hI]; refine ⟨?_, fun x hx => ⟨hy.keep hk hi hsi h3 x (fun w hf => (facts_upd hnj w).1 hf), fun v hv => ?_⟩⟩
     · obtain ⟨v0, hv0⟩ := hy.inh; have h4 := h v0 hv0; rw [wanted_put oj a oi.dst v0 h1, if_pos hw, hkj v0, hI] at h4; intro w hb hf; have h5 := h4.1 w hb ((hy.facts hni F v0 w).2 hf); rwa [execOp_put oj hsj a oi.dst v0 h1] at h5
     · have h4 := h v hv; rw [wanted_put oj a oi.dst v h1, if_pos hw, hkj v, hI] at h4; have h5 := h4.2 x hx; rw [← Act.put_comm a v x h2, ← hy.upd hij]; exact h5
   | none =>
     simp only [hI]; intro w0 hb0 hf0; obtain ⟨v0, hv0⟩ := hy.inh; have h4 := h v0 hv0; rw [wanted_put oj a oi.dst v0 h1, if_pos hw, hkj v0, hI] at h4; obtain ⟨x, hx, hK⟩ := h4 w0 hb0 ((hy.facts hni F v0 w0).2 hf0); have hdet : detStep P G B (anc j) x oj a F := by
      intro w hb hf; have h5 := hx w hb ((hy.facts hni F v0 w).2 hf); rwa [execOp_put oj hsj a oi.dst v0 h1] at h5
     refine ⟨x, hdet, hy.keep hk hi hsi h3 x (fun w hf => hf), fun v hv => ?_⟩; have h6 := h v hv; rw [wanted_put oj a oi.dst v h1, if_pos hw, hkj v, hI] at h6; obtain ⟨x', hx', hK'⟩ := h6 w0 hb0 ((hy.facts hni F v w0).2 hf0); have h7 := hx' w0 hb0 ((hy.facts hni F v w0).2 hf0); rw [execOp_put oj hsj a oi.dst v h1] at h7; have hxx : x = x' := detUpon_one (hdet w0 hb0 hf0) h7; subst hxx
     rw [← Act.put_comm a v x h2]; exact hK'
 · simp only [hw]; refine ⟨hy.keep hk hi hsi h3 undef (fun w hf => hf), fun v hv => ?_⟩; have h4 := h v hv; rw [wanted_put oj a oi.dst v h1, if_neg hw] at h4; rw [← Act.put_comm a v undef h2]; exact h4
theorem anyG_first {Q : Act → Env → Prop} {i : Nat} {oi : Oper} {u : Value → Prop} {f : Env → Value → Env} (hk : Keeps ops I) (hA : ancOk md ops anc = true) (hi : ops[i]? = some oi) (hsel : ∀ (j : Nat) (o : Oper) cs b, ops[j]? = some o → o.op ≠ .select cs b) :
 ∀ (fuel : Nat) (listed : Array Bool) (a : Act) (F : Env), Closed md ops listed →
   (∀ j oj, ops[j]? = some oj → j ≠ i → listed.getD j true = false → (∀ e ∈ oj.after, Region.binds md e = true → e.on ≠ i) → oi.apart ops oj = true) →
   i ∈ Region.ready md ops listed → Shows P ops G B anc I i oi a F u f →
   (∀ v, u v → anyG P md ops G B anc I Q fuel (listed.setIfInBounds i true) (a.put oi.dst v) (f F v)) → anyG P md ops G B anc I Q (fuel + 1) listed a F := by
 intro fuel; induction fuel with
 | zero =>
   intro listed a F _ _ hr hy H; refine ⟨fun h => (by rw [h] at hr; cases hr), fun j hj => ?_⟩; by_cases hji : j = i
   · subst hji; exact hy.opG hi H
   · have h1 := ready_mono hj hji; obtain ⟨v, hv⟩ := hy.inh; rw [(H v hv).1] at h1; cases h1
 | succ fuel ih =>
   intro listed a F inv hfree hr hy H; refine ⟨fun h => (by rw [h] at hr; cases hr), fun j hj => ?_⟩; by_cases hji : j = i
   · subst hji; exact hy.opG hi H
   · obtain ⟨hjun, oj, hoj, hall⟩ := mem_ready.1 hj; have hnot : ∀ e ∈ oj.after, Region.binds md e = true → e.on ≠ i := fun e he hb heq => by
      have h1 := hall e he hb; have h0 := (mem_ready.1 hr).1; rw [heq] at h1; rcases Nat.lt_or_ge i listed.size with h' | h'
      · simp [h'] at h0 h1; rw [h0] at h1; cases h1
      · simp [Array.getElem?_eq_none h'] at h1
     have h2 := opG_put hk hi (Ne.symm hji) hoj (hfree j oj hoj hji hjun hnot) (fun cs b => hsel i oi cs b hi) (fun cs b => hsel j oj cs b hoj) (anc_not hA inv hr hj) (anc_not hA inv hj hr) hy
      (fun v hv => (H v hv).2 j (ready_mono hj hji))
     have hfree' : ∀ k ok, ops[k]? = some ok → k ≠ i → (listed.setIfInBounds j true).getD k true = false →
      (∀ e ∈ ok.after, Region.binds md e = true → e.on ≠ i) → oi.apart ops ok = true := fun k ok hk hki hun hno => by
      refine hfree k ok hk hki ?_ hno; by_cases hjk : j = k
      · subst hjk; exact hjun
      · rw [getD_set_ne true hjk] at hun; exact hun
     refine opG_mono (fun a' F' h3 => ih (listed.setIfInBounds j true) a' F' (inv.set hj) hfree' (ready_mono hr (Ne.symm hji)) h3.1 ?_) h2; rw [Array.setIfInBounds_comm _ _ hji]; exact h3.2
theorem shows_of {i : Nat} {oi : Oper} {a : Act} {F : Env} {K : Act → Env → Prop} 
 (h : if Region.wanted oi (yielded ops a.tmps) then
   match I i a with
   | some s => relStep P G B (anc i) s oi a F ∧ ∀ v, s.S v → K (a.put oi.dst v) (upd F i (s.R v))
   | none => ∃ v, detStep P G B (anc i) v oi a F ∧ K (a.put oi.dst v) F
 else K (a.put oi.dst undef) F) : ∃ u f, Shows P ops G B anc I i oi a F u f ∧ ∀ v, u v → K (a.put oi.dst v) (f F v) := by
 by_cases hw : Region.wanted oi (yielded ops a.tmps) = true
 · simp only [hw, if_true] at h; cases hI : I i a with
   | some s =>
     simp only [hI] at h; exact ⟨_, _, .inl ⟨hw, s, hI, h.1, rfl, rfl⟩, h.2⟩
   | none =>
     simp only [hI] at h; obtain ⟨v, h1, h2⟩ := h; exact ⟨_, _, .inr (.inl ⟨hw, hI, v, h1, rfl, rfl⟩), fun x hx => by subst hx; exact h2⟩
 · simp only [hw] at h; exact ⟨_, _, .inr (.inr ⟨by simpa using hw, rfl, rfl⟩), fun x hx => by subst hx; exact h⟩
theorem anyG_lex {Q : Act → Env → Prop} (hkk : Keeps ops I) (hA : ancOk md ops anc = true) (hs : Region.noSelect ops = true) : ∀ (l : List Oper) (k : Nat) (listed : Array Bool) (a : Act) (F : Env), (∀ j, l[j]? = ops[k + j]?) → Closed md ops listed →
 Region.lexFrom md ops l.length k listed = true → walk P ops G B anc I Q l k a F → anyG P md ops G B anc I Q l.length listed a F
 | [], _, _, _, _, _, _, hB, h => ⟨by simpa [Region.lexFrom] using hB, h⟩
 | o :: l, k, listed, a, F, hl, inv, hB, h => by
   have h0 : ops[k]? = some o := by simpa using (hl 0).symm
   simp only [List.length_cons, Region.lexFrom, Bool.and_eq_true] at hB; obtain ⟨⟨hr, hf⟩, hB'⟩ := hB; have hr' : k ∈ Region.ready md ops listed := by simpa using hr
   obtain ⟨u, f, hy, hK⟩ := shows_of (P := P) (ops := ops) (G := G) (B := B) (anc := anc) (I := I) (K := walk P ops G B anc I Q l (k + 1)) h; exact anyG_first hkk hA h0 (Region.noSelect_spec hs) l.length listed a F inv (Region.free_spec h0 hf) hr' hy
    (fun v hv => anyG_lex hkk hA hs l (k + 1) _ _ _ (fun j => by have := hl (j + 1); simpa [Nat.add_assoc, Nat.add_comm 1 j] using this) (inv.set hr') hB' (hK v hv))
theorem wp_region {id : Nat} {Q : Exit → Act → World → Prop} {a : Act} {w : World} (hkk : Keeps ops I) (hm : P.follows .mixedOrders = true) (hB : Region.lexB .any ops = true) (hA : ancOk .any ops anc = true) (hlast : ∀ w w', B w → G w w' → B w') (hw : B { w with drawn := w.drawn + 1 })
 (h : walk P ops G B anc I (fun a' F => ∀ w', B w' → (∀ k, F k w') → Q .normal a' w') ops.toList 0 a (fun _ _ => True)) : (Code.region id ops true).wp P Q a w := by
 simp only [Region.lexB, Bool.and_eq_true] at hB; refine wp_region_any hm (wpAny_of (anc := anc) (I := I) hlast (Q := fun a' F => ∀ w', B w' → (∀ k, F k w') → Q .normal a' w') (fun _ _ w' hb hf h => h w' hb hf) _ _ _ (fun _ _ => True) _ hw (fun _ => trivial) (fun _ _ _ _ _ => trivial) ?_)
 have := anyG_lex (P := P) (G := G) (B := B) (anc := anc) (I := I) (md := .any) hkk hA hB.1 ops.toList 0 (Array.replicate ops.size false) a (fun _ _ => True) (by simp) (fun j oj _ hl => by
  have : (Array.replicate ops.size false).getD j false = false := by
   rcases Nat.lt_or_ge j ops.size with h | h
   · simp [h]
   · simp [h]
  rw [this] at hl; cases hl) (by simpa using hB.2) h
 simpa using this
def anyGL (P : Program) (md : Region.Mode) (ops : Array Oper) (G : World → World → Prop) (B : World → Prop) (anc : Nat → List Nat) (I : Nat → Act → Option (Spec G)) (n : Nat) (L : Array Bool → Act → Env → Prop) : Nat → Array Bool → Act → Env → Prop
 | 0, listed, a, F => L listed a F
 | fuel + 1, listed, a, F =>
   Region.ready md ops listed ≠ [] ∧
   ∀ i ∈ Region.ready md ops listed, i < n ∧ opG P ops G B anc I i (anyGL P md ops G B anc I n L fuel (listed.setIfInBounds i true)) a F
theorem wpOp_of_opG (hlast : ∀ w w', B w → G w w' → B w') {Q' : Exit → Act → World → Prop} {K : Act → Env → Prop} {K' : Act → World → Prop} {i : Nat} {a : Act} {F : Env} {w : World}
 (hK : ∀ a F w, B w → (∀ k, F k w) → (∀ k w w', F k w → G w w' → F k w') → K a F → K' a w)
 (hw : B w) (hF : ∀ k, F k w) (hl : ∀ k w w', F k w → G w w' → F k w') (h1 : opG P ops G B anc I i K a F) : wpOp P ops Q' i K' a w := by
 unfold opG at h1; unfold wpOp; cases ho : ops[i]? with
 | none => simp only [ho] at h1 ⊢; exact hK _ _ _ hw hF hl h1
 | some o =>
   simp only [ho] at h1 ⊢; split
   · rename_i hwt
     simp only [hwt, if_true] at h1; refine .inl ?_; unfold Oper.wp; cases hI : I i a with
     | none =>
       simp only [hI] at h1; obtain ⟨v, h2, h3⟩ := h1 w hw (fun j _ => hF j); have h4 := h2 w hw (fun j _ => hF j); generalize (execOp a.eval o).run P w = r at *; cases r with
       | ok n w' =>
         cases n <;> simp only [detUpon] at h4 <;> simp only [Oper.upon]
         case value u =>
          obtain ⟨e1, e2⟩ := h4; rw [e2]; exact hK _ _ _ (hlast _ _ hw e1) (fun k => hl k _ _ (hF k) e1) hl h3
         case skip =>
          obtain ⟨e1, e2⟩ := h4; rw [e2]; exact hK _ _ _ (hlast _ _ hw e1) (fun k => hl k _ _ (hF k) e1) hl h3
       | halt x w' => simp only [detUpon] at h4
     | some s =>
       simp only [hI] at h1; obtain ⟨h2, h3⟩ := h1; have h4 := h2 w hw (fun j _ => hF j); have next : ∀ v w', G w w' → s.S v → s.R v w' → K' (a.put o.dst v) w' := by
        intro v w' g1 g2 g3; refine hK _ _ _ (hlast _ _ hw g1) (fun k => ?_) (fun k w1 w2 => ?_) (h3 v g2)
        · unfold upd; split
          · exact g3
          · exact hl k _ _ (hF k) g1
        · unfold upd; split
          · exact s.lasts v w1 w2
          · exact hl k w1 w2
       generalize (execOp a.eval o).run P w = r at *; cases r with
       | ok n w' =>
         cases n <;> simp only [relUpon] at h4 <;> simp only [Oper.upon]
         case value u => exact next _ _ h4.1 h4.2.1 h4.2.2
         case skip => exact next _ _ h4.1 h4.2.1 h4.2.2
         case enter f args => exact h4.mono fun e w'' ⟨v, he, g1, g2, g3⟩ => by subst he; exact next _ _ g1 g2 g3
         case row row args => exact h4.mono fun v w'' ⟨g1, g2, g3⟩ => next _ _ g1 g2 g3
       | halt x w' => simp only [relUpon] at h4
   · rename_i hwt
     simp only [hwt] at h1; exact hK _ _ _ hw hF hl h1
theorem wpAny_of_headG (hlast : ∀ w w', B w → G w w' → B w') {n g : Nat} {L : Array Bool → Act → Env → Prop} {Q' : Exit → Act → World → Prop}
 (hL : ∀ listed a F w, B w → (∀ k, F k w) → L listed a F → wpAny P md ops Q' g listed a w) :
 ∀ (f : Nat) (listed : Array Bool) (a : Act) (F : Env) (w : World), B w → (∀ k, F k w) → (∀ k w w', F k w → G w w' → F k w') →
   anyGL P md ops G B anc I n L f listed a F → wpAny P md ops Q' (f + g) listed a w
 | 0, listed, a, F, w, hw, hF, _, h => by rw [Nat.zero_add]; exact hL _ _ _ _ hw hF h
 | f + 1, listed, a, F, w, hw, hF, hl, h => by
   rw [show f + 1 + g = (f + g) + 1 by omega]; exact ⟨fun h0 => absurd h0 h.1, fun i hi => wpOp_of_opG hlast (fun a' F' w' hb hf hl' h' => wpAny_of_headG hlast hL f _ a' F' w' hb hf hl' h') hw hF hl (h.2 i hi).2⟩
theorem wp_region_lit {id : Nat} {Q : Exit → Act → World → Prop} {a : Act} {w : World} {l : List Oper} {I : Nat → Option (Spec G)} (hm : P.follows .mixedOrders = true) (hB : Region.lexB .any l.toArray = true) (hA : ancOk .any l.toArray anc = true)
 (hlast : ∀ w w', B w → G w w' → B w') (hw : B w.drew)
 (h : walk P l.toArray G B anc (fun j _ => I j) (fun a' F => ∀ w', B w' → (∀ k, F k w') → Q .normal a' w') l 0 a (fun _ _ => True)) : (Code.region id l.toArray true).wp P Q a w :=
 wp_region (fun _ _ _ _ _ _ _ => rfl) hm hB hA hlast hw (by simpa using h)
end
end Go.Grow
