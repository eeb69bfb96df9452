/- A text of this proof. -/
import Derived.Test.YtjapbjmeoaagmaaGreatDoorEPrintIsDec
set_option linter.unusedVariables false
set_option linter.unusedSimpArgs false
set_option maxRecDepth 100000
namespace Orange
def digV (c : UInt8) : Nat := c.toNat - 48
def val : List UInt8 → Nat
 | [] => 0
 | c :: t => digV c * 10 ^ t.length + val t
def allD (l : List UInt8) : Prop := ∀ c ∈ l, isDig c = true
theorem allD.nil : allD [] := fun _ h => absurd h (by simp)
theorem allD.cons {c : UInt8} {t : List UInt8} (h : allD (c :: t)) : isDig c = true ∧ allD t := ⟨h c (List.mem_cons_self ..), fun x hx => h x (List.mem_cons_of_mem _ hx)⟩
theorem allD.app {a b : List UInt8} (ha : allD a) (hb : allD b) : allD (a ++ b) := fun x hx => (List.mem_append.1 hx).elim (ha x) (hb x)
theorem allD.sub {a b : List UInt8} (hb : allD b) (h : ∀ x ∈ a, x ∈ b) : allD a := fun x hx => hb x (h x hx)
theorem digV_lt {c : UInt8} (h : isDig c = true) : digV c < 10 := by
 have := (isDig_iff c).1 h; unfold digV; omega
theorem val_nil : val [] = 0 := rfl
theorem val_cons (c : UInt8) (t : List UInt8) : val (c :: t) = digV c * 10 ^ t.length + val t := rfl
theorem val_app : ∀ (a b : List UInt8), val (a ++ b) = val a * 10 ^ b.length + val b
 | [], b => by simp [val_nil]
 | c :: t, b => by
   rw [List.cons_append, val_cons, val_app t b, val_cons, List.length_append, Nat.pow_add]; generalize 10 ^ t.length = p; generalize 10 ^ b.length = q; grind
theorem val_snoc (l : List UInt8) (c : UInt8) : val (l ++ [c]) = val l * 10 + digV c := by
 rw [val_app, val_cons, val_nil]; simp
def zeros (n : Nat) : List UInt8 := List.replicate n 48
theorem val_zeros (n : Nat) : val (zeros n) = 0 := by
 induction n with
 | zero => rfl
 | succ n ih =>
   have : zeros (n + 1) = 48 :: zeros n := rfl; rw [this, val_cons, ih]; simp [digV]
theorem allD_zeros (n : Nat) : allD (zeros n) := fun c hc => by
 have := List.eq_of_mem_replicate hc; subst this; rfl
theorem zeros_len (n : Nat) : (zeros n).length = n := List.length_replicate ..
def dgt (k : Nat) : UInt8 := UInt8.ofNat (48 + k)
theorem dgt_toNat {k : Nat} (h : k < 10) : (dgt k).toNat = 48 + k := by unfold dgt; rw [UInt8.toNat_ofNat']; omega
theorem dgt_dig {k : Nat} (h : k < 10) : isDig (dgt k) = true := by rw [isDig_iff, dgt_toNat h]; omega
theorem dgt_val {k : Nat} (h : k < 10) : digV (dgt k) = k := by unfold digV; rw [dgt_toNat h]; omega
theorem dgt_of {c : UInt8} (h : isDig c = true) : dgt (digV c) = c := by
 have := (isDig_iff c).1 h; apply UInt8.toNat_inj.1
 rw [dgt_toNat (digV_lt h)]; unfold digV; omega
def digs (N : Nat) : List UInt8 := if h : N = 0 then [] else digs (N / 10) ++ [dgt (N % 10)]
termination_by N
decreasing_by omega
theorem digs_zero : digs 0 = [] := by rw [digs]; simp
theorem digs_pos {N : Nat} (h : N ≠ 0) : digs N = digs (N / 10) ++ [dgt (N % 10)] := by rw [digs, dif_neg h]
theorem digs_all : ∀ N, allD (digs N) := by
 intro N; induction N using Nat.strongRecOn with
 | _ N ih =>
   by_cases h : N = 0
   · subst h; rw [digs_zero]; exact allD.nil
   · rw [digs_pos h]; exact (ih (N / 10) (by omega)).app (fun c hc => by rw [List.mem_singleton.1 hc]; exact dgt_dig (by omega))
theorem digs_val : ∀ N, val (digs N) = N := by
 intro N; induction N using Nat.strongRecOn with
 | _ N ih =>
   by_cases h : N = 0
   · subst h; rw [digs_zero]; rfl
   · rw [digs_pos h, val_snoc, ih (N / 10) (by omega), dgt_val (by omega)]; omega
theorem digs_snoc {N d : Nat} (hd : d < 10) (h : N ≠ 0 ∨ d ≠ 0) : digs (N * 10 + d) = digs N ++ [dgt d] := by
 rw [digs_pos (by omega), show (N * 10 + d) / 10 = N by omega, show (N * 10 + d) % 10 = d by omega]
theorem snocRec {p : List UInt8 → Prop} (h0 : p []) (h1 : ∀ l c, p l → p (l ++ [c])) (l : List UInt8) : p l := by
 rw [← List.reverse_reverse («as» := l)]; induction l.reverse with
 | nil => exact h0
 | cons c t ih => rw [List.reverse_cons]; exact h1 _ _ ih
theorem trimL0_c (c : UInt8) (t : List UInt8) : trimL0 (c :: t) = if c = 48 then trimL0 t else c :: t := by
 unfold trimL0; rw [List.dropWhile_cons]; by_cases h : c = 48 <;> simp [h]
theorem trimR0_s (t : List UInt8) (c : UInt8) : trimR0 (t ++ [c]) = if c = 48 then trimR0 t else t ++ [c] := by
 unfold trimR0; rw [List.reverse_append, List.reverse_singleton, List.singleton_append, List.dropWhile_cons]; by_cases h : c = 48 <;> simp [h]
theorem trimL0_app (l : List UInt8) (c : UInt8) : trimL0 (l ++ [c]) = if trimL0 l = [] then (if c = 48 then [] else [c]) else trimL0 l ++ [c] := by
 induction l with
 | nil =>
   rw [List.nil_append, trimL0_c]; show _ = if trimL0 [] = [] then _ else _
   rw [if_pos (show trimL0 [] = [] from rfl)]; rfl
 | cons x t ih =>
   rw [List.cons_append, trimL0_c, trimL0_c]; by_cases h : x = 48
   · rw [if_pos h, if_pos h, ih]
   · rw [if_neg h, if_neg h, if_neg (by simp)]; rfl
theorem digs_of (l : List UInt8) : allD l → digs (val l) = trimL0 l := by
 refine snocRec (p := fun l => allD l → digs (val l) = trimL0 l) (fun _ => by rw [val_nil, digs_zero]; rfl) (fun l c ih h => ?_) l; have hl : allD l := h.sub (fun x hx => List.mem_append_left _ hx); have hc : isDig c = true := h c (by simp); have ih := ih hl; rw [val_snoc, trimL0_app]; by_cases h0 : val l = 0
 · have he : trimL0 l = [] := by rw [← ih, h0, digs_zero]
   rw [if_pos he, h0]; by_cases hc0 : c = 48
   · subst hc0; rw [if_pos rfl]; show digs (0 * 10 + 0) = []
     rw [show (0 * 10 + 0 : Nat) = 0 from rfl, digs_zero]
   · have hd : digV c ≠ 0 := fun e => hc0 (by rw [← dgt_of hc, e]; rfl); rw [if_neg hc0, digs_snoc (digV_lt hc) (.inr hd), digs_zero, dgt_of hc]; rfl
 · have he : trimL0 l ≠ [] := fun e => h0 (by rw [← digs_val (val l), ih, e]; rfl); rw [if_neg he, digs_snoc (digV_lt hc) (.inl h0), ih, dgt_of hc]
theorem trimR0_zero (l : List UInt8) : trimR0 (l ++ [48]) = trimR0 l := by rw [trimR0_s, if_pos rfl]
theorem trimR0_len (l : List UInt8) : (trimR0 l).length ≤ l.length := by
 unfold trimR0; rw [List.length_reverse]; have h := (List.dropWhile_sublist (p := (· == (48 : UInt8))) (l := l.reverse)).length_le; simpa using h
theorem trimR0_val (l : List UInt8) : val l = val (trimR0 l) * 10 ^ (l.length - (trimR0 l).length) ∧ (allD l → allD (trimR0 l)) := by
 refine snocRec (p := fun l => val l = val (trimR0 l) * 10 ^ (l.length - (trimR0 l).length) ∧ (allD l → allD (trimR0 l))) ⟨by rfl, fun h => h⟩ (fun l c ih => ?_) l; rw [trimR0_s]; by_cases h : c = 48
 · subst h; rw [if_pos rfl, val_snoc]; have hl := trimR0_len l; refine ⟨?_, fun ha => ih.2 (ha.sub (fun x hx => List.mem_append_left _ hx))⟩; have e : (l ++ [48]).length - (trimR0 l).length = (l.length - (trimR0 l).length) + 1 := by simp; omega
   rw [e, Nat.pow_succ]; conv => lhs; rw [ih.1]
   show _ * 10 + 0 = _; generalize 10 ^ (l.length - (trimR0 l).length) = p; grind
 · rw [if_neg h]; simp
def normN (neg : Bool) (N : Nat) (x : Int) : Num := if N = 0 then Num.zero else ⟨neg, trimR0 (digs N), x + (digs N).length - (trimR0 (digs N)).length⟩
def shortR (l : List UInt8) : List UInt8 := trimR0 (trimL0 l)
def formR (neg : Bool) (l : List UInt8) (x : Int) : Num := if shortR l = [] then Num.zero else ⟨neg, shortR l, x + (trimL0 l).length - (shortR l).length⟩
def toldP (d : Num) : Num × Int := if sane d then (d, 0) else (Num.zero, 4)
theorem formP_told (neg : Bool) (l : List UInt8) (x : Int) : formP neg l x = toldP (formR neg l x) := by
 unfold formP formR toldP shortR; simp only
 split
 · rfl
 · rfl
theorem digs_ne {N : Nat} (h : N ≠ 0) : digs N ≠ [] := fun e => h (by rw [← digs_val N, e]; rfl)
theorem trimR0_ne {N : Nat} (h : N ≠ 0) : trimR0 (digs N) ≠ [] := fun e => h (by
 rw [← digs_val N, (trimR0_val (digs N)).1, e, val_nil, Nat.zero_mul])
theorem formR_norm (neg : Bool) (l : List UInt8) (x : Int) (h : allD l) : formR neg l x = normN neg (val l) x := by
 unfold formR normN shortR; rw [← digs_of l h]; by_cases h0 : val l = 0
 · rw [h0, digs_zero, if_pos (show trimR0 [] = [] from rfl), if_pos rfl]
 · rw [if_neg (trimR0_ne h0), if_neg h0]
theorem normN_ten (neg : Bool) (N : Nat) (x : Int) : normN neg (N * 10) x = normN neg N (x + 1) := by
 unfold normN; by_cases h : N = 0
 · subst h; rfl
 · rw [if_neg (by omega), if_neg h]; have e : digs (N * 10) = digs N ++ [48] := by
    have := digs_snoc (N := N) (d := 0) (by omega) (.inl h); rw [Nat.add_zero] at this; exact this
   rw [e, trimR0_zero]; congr 1
   simp; omega
theorem normN_pow (neg : Bool) (k : Nat) : ∀ (N : Nat) (x : Int), normN neg (N * 10 ^ k) x = normN neg N (x + k) := by
 induction k with
 | zero => intro N x; simp
 | succ k ih =>
   intro N x; rw [Nat.pow_succ, ← Nat.mul_assoc, normN_ten, ih]; congr 1; omega
def normZ (z : Int) (x : Int) : Num := normN (decide (z < 0)) z.natAbs x
def sgn (d : Num) : Int := if d.neg then -1 else 1
def zv (d : Num) (m : Int) : Int := sgn d * (val d.digits * 10 ^ (d.exp - m).toNat : Nat)
theorem pow_pos10 (k : Nat) : 0 < 10 ^ k := Nat.pow_pos (by omega)
theorem trimL0_id (l : List UInt8) (h : l.head? ≠ some 48) : trimL0 l = l := by
 cases l with
 | nil => rfl
 | cons c t => rw [trimL0_c, if_neg (by simpa using h)]
theorem trimR0_id (l : List UInt8) (h : l.getLast? ≠ some 48) : trimR0 l = l := by
 refine snocRec (p := fun l => l.getLast? ≠ some 48 → trimR0 l = l) (fun _ => rfl) (fun l c _ h => ?_) l h; rw [trimR0_s, if_neg (by simpa using h)]
theorem sane_parts {d : Num} (h : sane d = true) : (d = Num.zero) ∨ (d.digits ≠ [] ∧ allD d.digits ∧ d.digits.length ≤ 40 ∧ -400 ≤ height d ∧ height d ≤ 400 ∧ -800 ≤ d.exp ∧ d.exp ≤ 800 ∧ d.digits.head? ≠ some 48 ∧ d.digits.getLast? ≠ some 48) := by
 obtain ⟨neg, l, x⟩ := d; unfold sane at h; simp only at h; split at h
 · rename_i h0
   refine .inl ?_; have hl : l = [] := List.eq_nil_of_length_eq_zero h0; subst hl; cases neg with
   | true => simp at h
   | false =>
     have : x = 0 := by simpa using h
     subst this; rfl
 · rename_i h0
   split at h
   · cases h
   · rename_i h1
     split at h
     · cases h
     · rename_i h2
       simp only [Bool.or_eq_true, decide_eq_true_eq, Bool.not_eq_true', not_or, Bool.not_eq_false, Bool.and_eq_true, bne_iff_ne, ne_eq] at h1 h2 h; refine .inr ⟨fun e => h0 (by rw [show l = [] from e]; rfl), List.all_eq_true.1 h1.2, by show l.length ≤ 40; omega, h.1.1.1, h.1.1.2, by show -800 ≤ x; omega, by show x ≤ 800; omega, h.1.2, h.2⟩
theorem val_pos {l : List UInt8} (h : allD l) (h0 : l ≠ []) (h1 : l.head? ≠ some 48) : val l ≠ 0 := fun e => by
 have := digs_of l h; rw [trimL0_id l h1, e, digs_zero] at this; exact h0 this.symm
theorem sane_norm {d : Num} (h : sane d = true) : normZ (zv d d.exp) d.exp = d := by
 rcases sane_parts h with e | ⟨h0, ha, _, _, _, _, _, hh, hl⟩
 · subst e; rfl
 · obtain ⟨neg, l, x⟩ := d; simp only at h0 ha hh hl; have hv := val_pos ha h0 hh; have e : zv ⟨neg, l, x⟩ x = (if neg = true then -1 else 1) * ((val l : Nat) : Int) := by
    unfold zv sgn; simp
   simp only
   rw [e]; unfold normZ; have e2 : ((if neg = true then -1 else 1) * ((val l : Nat) : Int)).natAbs = val l := by cases neg <;> simp
   have e3 : decide ((if neg = true then -1 else 1) * ((val l : Nat) : Int) < 0) = neg := by
    cases neg <;> simp <;> omega
   rw [e2, e3]; unfold normN; rw [if_neg hv, digs_of l ha, trimL0_id l hh, trimR0_id l hl]; congr 1; omega
theorem sane_zero : sane Num.zero = true := by decide
theorem toldP_sane {d : Num} (h : sane d = true) : toldP d = (d, 0) := by unfold toldP; rw [if_pos h]
def low (a b : Num) : Int := min a.exp b.exp
def under (d : Num) (m : Int) : Prop := d.digits = [] ∨ m ≤ d.exp
theorem under.low {a b : Num} : under a (low a b) ∧ under b (low a b) := ⟨.inr (by unfold Orange.low; omega), .inr (by unfold Orange.low; omega)⟩
theorem under.deep {d : Num} {m n : Int} (h : under d m) (hn : n ≤ m) : under d n := h.elim .inl (fun h => .inr (by omega))
end Orange
