/- A text of this proof. -/

set_option linter.unusedVariables false
set_option linter.unusedSimpArgs false
set_option maxRecDepth 100000
namespace Orange
def sound (r : Int) : Bool := (decide (0 ≤ r) && decide (r < 55296)) || (decide (57343 < r) && decide (r ≤ 1114111))
def cont (c : UInt8) : Bool := decide (128 ≤ c.toNat) && decide (c.toNat < 192)
abbrev low6 (c : UInt8) : Int := (c.toNat : Int) - 128
def two (x : UInt8) : List UInt8 → Int × Nat
 | c :: _ =>
   let r := ((x.toNat : Int) - 192) * 64 + low6 c
   if cont c && decide (128 ≤ r) then (r, 2) else (0, 0)
 | _ => (0, 0)
def three (x : UInt8) : List UInt8 → Int × Nat
 | c :: d :: _ =>
   let r := (((x.toNat : Int) - 224) * 64 + low6 c) * 64 + low6 d
   if cont c && cont d && decide (2048 ≤ r) && sound r then (r, 3) else (0, 0)
 | _ => (0, 0)
def four (x : UInt8) : List UInt8 → Int × Nat
 | c :: d :: e :: _ =>
   let r := ((((x.toNat : Int) - 240) * 64 + low6 c) * 64 + low6 d) * 64 + low6 e
   if cont c && cont d && cont e && decide (65536 ≤ r) && sound r then (r, 4) else (0, 0)
 | _ => (0, 0)
def next : List UInt8 → Int × Nat
 | [] => (0, 0)
 | x :: t =>
   if x.toNat < 128 then (x.toNat, 1)
   else if x.toNat < 192 then (0, 0)
   else if x.toNat < 224 then two x t
   else if x.toNat < 240 then three x t
   else if x.toNat < 248 then four x t
   else (0, 0)
def byte (n : Int) : UInt8 := UInt8.ofNat n.toNat
def enc (r : Int) : List UInt8 :=
 if r < 128 then [byte r]
 else if r < 2048 then [byte (192 + r / 64), byte (128 + r % 64)]
 else if r < 65536 then [byte (224 + r / 4096), byte (128 + r / 64 % 64), byte (128 + r % 64)]
 else [byte (240 + r / 262144), byte (128 + r / 4096 % 64), byte (128 + r / 64 % 64), byte (128 + r % 64)]
theorem byte_of {n : Int} {c : UInt8} (h : n = c.toNat) : byte n = c := by
 subst h; simp [byte]
theorem sound_iff (r : Int) : sound r = true ↔ (0 ≤ r ∧ r < 55296) ∨ (57343 < r ∧ r ≤ 1114111) := by simp [sound]
theorem cont_iff (c : UInt8) : cont c = true ↔ 128 ≤ c.toNat ∧ c.toNat < 192 := by simp [cont]
theorem enc_pos (r : Int) : 1 ≤ (enc r).length ∧ (enc r).length ≤ 4 := by
 unfold enc; split
 · simp
 split
 · simp
 split <;> simp
theorem next_spec (b : List UInt8) : (next b = (0, 0)) ∨ (sound (next b).1 = true ∧ (next b).2 = (enc (next b).1).length ∧ ∃ t, b = enc (next b).1 ++ t) := by
 cases b with
 | nil => exact .inl rfl
 | cons x t =>
   have hx := x.toNat_lt; simp only [next]; split
   · rename_i h
     refine .inr ⟨by simp [sound_iff]; omega, ?_, t, ?_⟩
     · have : ((x.toNat : Int)) < 128 := by omega
       simp [enc, this]
     · have : ((x.toNat : Int)) < 128 := by omega
       simp [enc, this, byte_of (c := x) rfl]
   split
   · exact .inl rfl
   split
   · match t with
     | [] => exact .inl rfl
     | c :: t =>
       simp only [two]; split
       · rename_i h
         simp only [Bool.and_eq_true, cont_iff, decide_eq_true_eq, low6] at h; refine .inr ⟨by simp [sound_iff, low6]; omega, ?_, t, ?_⟩
         · simp only [low6, enc]; rw [if_neg (by omega), if_pos (by omega)]; rfl
         · simp only [low6, enc]; rw [if_neg (by omega), if_pos (by omega), byte_of (c := x) (by omega), byte_of (c := c) (by omega)]; rfl
       · exact .inl rfl
   split
   · match t with
     | [] => exact .inl rfl
     | [_] => exact .inl rfl
     | c :: d :: t =>
       simp only [three]; split
       · rename_i h
         simp only [Bool.and_eq_true, cont_iff, decide_eq_true_eq, low6] at h; have hc := h.1.1.1; have hd := h.1.1.2; refine .inr ⟨by simpa [low6] using h.2, ?_, t, ?_⟩
         · simp only [low6, enc]; rw [if_neg (by omega), if_neg (by omega), if_pos (by omega)]; rfl
         · simp only [low6, enc]; rw [if_neg (by omega), if_neg (by omega), if_pos (by omega), byte_of (c := x) (by omega), byte_of (c := c) (by omega), byte_of (c := d) (by omega)]; rfl
       · exact .inl rfl
   split
   · match t with
     | [] => exact .inl rfl
     | [_] => exact .inl rfl
     | [_, _] => exact .inl rfl
     | c :: d :: e :: t =>
       simp only [four]; split
       · rename_i h
         simp only [Bool.and_eq_true, cont_iff, decide_eq_true_eq, low6] at h; have hc := h.1.1.1.1; have hd := h.1.1.1.2; have he := h.1.1.2; have hs := h.2; refine .inr ⟨by simpa [low6] using h.2, ?_, t, ?_⟩
         · simp only [low6, enc]; rw [if_neg (by omega), if_neg (by omega), if_neg (by omega)]; rfl
         · rw [sound_iff] at hs; simp only [low6, enc]; rw [if_neg (by omega), if_neg (by omega), if_neg (by omega), byte_of (c := x) (by omega), byte_of (c := c) (by omega), byte_of (c := d) (by omega), byte_of (c := e) (by omega)]; rfl
       · exact .inl rfl
   · exact .inl rfl
end Orange
