/- orangeryref02: what zeros, wide, plus and minus do. -/
import Derived.Test.YtpheohgceepboaaDoorR2A
import Derived.Test.YtpheohgceepboaaDoorDecN
import Derived.Test.YtpheohgceepboaaDoorGrowT
import Derived.Test.YtpheohgceepboaaDoorDecY
set_option linter.unusedVariables false
set_option linter.unusedSimpArgs false
set_option maxRecDepth 100000
namespace Orange
/-- so many digits of a number -/
def padD : Nat → Nat → List UInt8
  | 0, _ => []
  | j + 1, N => dgt (N / 10 ^ j % 10) :: padD j N
theorem padD_len : ∀ (j N : Nat), (padD j N).length = j
  | 0, _ => rfl
  | j + 1, N => by rw [padD, List.length_cons, padD_len j N]
theorem padD_all : ∀ (j N : Nat), allD (padD j N)
  | 0, _ => allD.nil
  | j + 1, N => fun c hc => by
    rw [padD] at hc
    rcases List.mem_cons.1 hc with e | e
    · rw [e]; exact dgt_dig (Nat.mod_lt _ (by omega))
    · exact padD_all j N c e
theorem padD_val : ∀ (j N : Nat), val (padD j N) = N % 10 ^ j
  | 0, N => by rw [padD, val_nil, Nat.pow_zero, Nat.mod_one]
  | j + 1, N => by
    rw [padD, val_cons, padD_len, padD_val j N, dgt_val (Nat.mod_lt _ (by omega)), Nat.mod_pow_succ, Nat.mul_comm (10 ^ j)]
    omega
theorem padD_congr : ∀ (j N M : Nat), N % 10 ^ j = M % 10 ^ j → padD j N = padD j M
  | 0, _, _, _ => rfl
  | j + 1, N, M, h => by
    have h1 : N / 10 ^ j % 10 = M / 10 ^ j % 10 := by
      rw [← Nat.mod_mul_right_div_self, ← Nat.mod_mul_right_div_self, ← Nat.pow_succ, h]
    have h2 : N % 10 ^ j = M % 10 ^ j := by
      have e : (10 : Nat) ^ j ∣ 10 ^ (j + 1) := ⟨10, by rw [Nat.pow_succ]⟩
      rw [← Nat.mod_mod_of_dvd N e, h, Nat.mod_mod_of_dvd M e]
    rw [padD, padD, h1, padD_congr j N M h2]
theorem padD_step (j T d : Nat) (hT : T < 10 ^ j) (hd : d < 10) : dgt d :: padD j T = padD (j + 1) (d * 10 ^ j + T) := by
  rw [padD]
  have h1 : (d * 10 ^ j + T) / 10 ^ j % 10 = d := by
    rw [Nat.mul_comm, Nat.mul_add_div (pow_pos10 j), Nat.div_eq_of_lt hT, Nat.add_zero, Nat.mod_eq_of_lt hd]
  have h2 : padD j (d * 10 ^ j + T) = padD j T := padD_congr j _ _ (by rw [Nat.add_comm, Nat.add_mul_mod_self_right])
  rw [h1, h2]
theorem val_drop (l : List UInt8) (i : Nat) (h : i < l.length) : val (l.drop i) = digV l[i] * 10 ^ (l.length - 1 - i) + val (l.drop (i + 1)) := by
  rw [List.drop_eq_getElem_cons h, val_cons, List.length_drop, show l.length - (i + 1) = l.length - 1 - i by omega]
/-- one step of a sum -/
theorem plus_step (j T c x y A B : Nat) (hc : c ≤ 1) (hx : x ≤ 9) (hy : y ≤ 9) (hT : T < 10 ^ j) (h : A + B = T + c * 10 ^ j) :
    (x + y + c) % 10 * 10 ^ j + T < 10 ^ (j + 1) ∧ (x + y + c) / 10 ≤ 1 ∧ (x * 10 ^ j + A) + (y * 10 ^ j + B) = ((x + y + c) % 10 * 10 ^ j + T) + (x + y + c) / 10 * 10 ^ (j + 1) := by
  have hm : (x + y + c) % 10 < 10 := Nat.mod_lt _ (by omega)
  have e : (x + y + c) = (x + y + c) % 10 + 10 * ((x + y + c) / 10) := by omega
  have hq : (x + y + c) / 10 ≤ 1 := by omega
  generalize (x + y + c) % 10 = m at *
  generalize (x + y + c) / 10 = q at *
  rw [Nat.pow_succ]
  generalize 10 ^ j = p at *
  refine ⟨?_, hq, ?_⟩
  · have : m * p ≤ 9 * p := Nat.mul_le_mul_right p (by omega)
    omega
  · have e2 : (x + y + c) * p = (m + 10 * q) * p := by rw [← e]
    simp only [Nat.add_mul] at e2
    have e3 : 10 * q * p = q * (p * 10) := by rw [Nat.mul_comm 10 q, Nat.mul_assoc, Nat.mul_comm 10 p]
    omega
/-- one step of a difference -/
theorem minus_step (j T c x y A B : Nat) (hc : c ≤ 1) (hx : x ≤ 9) (hy : y ≤ 9) (hT : T < 10 ^ j) (h : A + c * 10 ^ j = T + B) :
    (x + 10 - y - c) % 10 * 10 ^ j + T < 10 ^ (j + 1) ∧ (x + 10 - y - c) / 10 ≤ 1 ∧ (x * 10 ^ j + A) + (1 - (x + 10 - y - c) / 10) * 10 ^ (j + 1) = ((x + 10 - y - c) % 10 * 10 ^ j + T) + (y * 10 ^ j + B) := by
  obtain ⟨v, hv⟩ : ∃ v, x + 10 - y - c = v := ⟨_, rfl⟩
  rw [hv]
  have hv2 : v + y + c = x + 10 := by omega
  have hm : v % 10 < 10 := Nat.mod_lt _ (by omega)
  have e : v = v % 10 + 10 * (v / 10) := by omega
  have hq : v / 10 ≤ 1 := by omega
  generalize v % 10 = m at *
  generalize v / 10 = q at *
  rw [Nat.pow_succ]
  generalize 10 ^ j = p at *
  refine ⟨?_, hq, ?_⟩
  · have : m * p ≤ 9 * p := Nat.mul_le_mul_right p (by omega)
    omega
  · have e2 : (v + y + c) * p = (x + 10) * p := by rw [hv2]
    rw [e] at e2
    have hq2 : q = 0 ∨ q = 1 := by omega
    rcases hq2 with rfl | rfl
    · simp only [Nat.add_mul, Nat.mul_zero, Nat.zero_mul, Nat.sub_zero, Nat.one_mul] at e2 ⊢; omega
    · simp only [Nat.add_mul, Nat.mul_one, Nat.sub_self, Nat.zero_mul, Nat.one_mul] at e2 ⊢; omega
theorem zeros_snoc (n : Nat) : zeros (n + 1) = zeros n ++ [48] := List.replicate_succ'
end Orange
namespace Go.Proofs.YtpheohgceepboaaDoor
open Go.RowKit Go.Mem Orange
set_option maxHeartbeats 1600000 in
theorem r2zeros_any (n : Int) (w : World) (hn : n ≤ 1000000) (hn0 : -1000000000 ≤ n) :
    Calls Tryd.prog 38 #[.int .i64 n] w fun e w' => e = .returned (.string ⟨(zeros n.toNat).toArray⟩) ∧ Ext w w' := by
  go_enter Tryd.func38, Tryd.ntmps38
  go_wp2_with fail
  go_loop [3, 4] (fun sv kv => ∃ k : Nat, kv = .int .i64 k ∧ k ≤ n.toNat ∧ sv = .string ⟨(zeros k).toArray⟩) (fun _ kv => n.toNat - (intOf kv).toNat)
  case atStart => exact ⟨0, rfl, by omega, rfl⟩
  case round =>
    obtain ⟨k, rfl, hk, rfl⟩ := hrel
    by_cases hlt : (k : Int) < n
    · have hcat := ba_app (zeros k) [48]
      rw [← zeros_snoc] at hcat
      have hl := zeros_len k
      go_wp2_with fail
      go_round
      case rel => exact ⟨k + 1, by go_num, by omega, rfl⟩
      case measure => simp [intOf]; omega
    · obtain rfl : k = n.toNat := by omega
      go_wp2_with fail
      go_ret
      exact ⟨rfl, ext_refl _⟩
def wideP (s : List UInt8) (n : Nat) : List UInt8 := zeros (n - s.length) ++ s
theorem wideP_val (s : List UInt8) (n : Nat) : val (wideP s n) = val s := by unfold wideP; rw [val_app, val_zeros]; simp
theorem wideP_len (s : List UInt8) (n : Nat) (h : s.length ≤ n) : (wideP s n).length = n := by unfold wideP; rw [List.length_append, zeros_len]; omega
theorem wideP_all {s : List UInt8} (n : Nat) (h : allD s) : allD (wideP s n) := (allD_zeros _).app h
set_option maxHeartbeats 1600000 in
theorem r2wide_any (s : List UInt8) (n : Nat) (w : World) (hn : n ≤ 1000000) (hs : s.length ≤ 1000000) :
    Calls Tryd.prog 39 #[.string ⟨s.toArray⟩, .int .i64 n] w fun e w' => e = .returned (.string ⟨(wideP s n).toArray⟩) ∧ Ext w w' := by
  have hcat := ba_app (zeros (n - s.length)) s
  have hl := zeros_len (n - s.length)
  have e2 : ((n : Int) - s.length).toNat = n - s.length := by omega
  go_enter Tryd.func39, Tryd.ntmps39
  go_wp2_with fail
  refine (r2zeros_any ((n : Int) - s.length) _ (by omega) (by omega)).mono ?_
  rintro e wn ⟨rfl, hw⟩
  rw [e2]
  go_wp2_with fail
  go_ret
  exact ⟨rfl, hw⟩
-- the fact of the round's byte: $1: the list, $2: its name for the byte, $3: the index
set_option maxHeartbeats 6400000 in
theorem r2plus_any (a b : List UInt8) (w : World) (hl : a.length = b.length) (hn : a.length ≤ 1000000) (ha : allD a) (hb : allD b) :
    Calls Tryd.prog 42 #[.string ⟨a.toArray⟩, .string ⟨b.toArray⟩] w fun e w' => e = .returned (.string ⟨(padD (a.length + 1) (val a + val b)).toArray⟩) ∧ Ext w w' := by
  have HAx := Lib.hid ha
  have HAy := Lib.hid hb
  clear ha hb
  obtain ⟨n, hna⟩ : ∃ n, a.length = n := ⟨_, rfl⟩
  have hnb : b.length = n := by omega
  go_enter Tryd.func42, Tryd.ntmps42
  go_wp2_with fail
  go_loopw [5, 6, 7] (fun sv cv iv wr => ∃ (j T c : Nat), j ≤ n ∧ iv = .int .i64 ((n : Int) - 1 - j) ∧ cv = .int .i64 c ∧ c ≤ 1 ∧ sv = .string ⟨(padD j T).toArray⟩ ∧ T < 10 ^ j ∧ val (a.drop (n - j)) + val (b.drop (n - j)) = T + c * 10 ^ j ∧ Ext w wr) (fun _ _ iv _ => (intOf iv + 1).toNat)
  case atStart => exact ⟨0, 0, 0, by omega, by simp, rfl, by omega, rfl, by simp, by rw [Nat.sub_zero, List.drop_of_length_le (by omega), List.drop_of_length_le (by omega), val_nil], ext_refl _⟩
  case round =>
    obtain ⟨j, T, c, hj, rfl, rfl, hc, rfl, hT, hs, hE⟩ := hrel
    have HS := Lib.hid hs
    have HT := Lib.hid hT
    clear hs hT
    by_cases hlt : j < n
    · obtain ⟨I, hI⟩ : ∃ I, n - 1 - j = I := ⟨_, rfl⟩
      have hIi : (n : Int) - 1 - j = (I : Int) := by omega
      have hIa : I < a.length := by omega
      have hIb : I < b.length := by omega
      have hIn : I < n := by omega
      have hq1 : n - j = I + 1 := by omega
      have hq2 : n - 1 - I = j := by omega
      have hq3 : n - (j + 1) = I := by omega
      have hq4 : (I : Int) - 1 = (n : Int) - 1 - ((j + 1 : Nat) : Int) := by omega
      have hb1 : (I : Int) < n := by omega
      have hb2 : (0 : Int) ≤ I := by omega
      rw [hIi]
      have hgx := sx_get a I (by omega)
      have hdx := (isDig_iff a[I]).1 (HAx.out _ (List.getElem_mem (by omega)))
      have hvx : ((a[I].toNat : Nat) : Int) - 48 = (digV a[I] : Nat) := by unfold digV; omega
      have hlx := digV_lt (HAx.out _ (List.getElem_mem (show I < a.length by omega)))
      have hrx := val_drop a I (by omega)
      generalize a[I] = x at *
      generalize digV x = dx at *
      obtain ⟨hdx1, hdx2⟩ := hdx
      have ex1 : IntKind.u8.wrap ((x.toNat : Int) - 48) = (dx : Int) := by rw [IntWalk.u8_in _ (by omega)]; exact hvx
      have ex2 : IntKind.i64.wrap ((dx : Nat) : Int) = (dx : Int) := IntWalk.i64_in _ (by omega)
      clear hvx
      have hgy := sx_get b I (by omega)
      have hdy := (isDig_iff b[I]).1 (HAy.out _ (List.getElem_mem (by omega)))
      have hvy : ((b[I].toNat : Nat) : Int) - 48 = (digV b[I] : Nat) := by unfold digV; omega
      have hly := digV_lt (HAy.out _ (List.getElem_mem (show I < b.length by omega)))
      have hry := val_drop b I (by omega)
      generalize b[I] = y at *
      generalize digV y = dy at *
      obtain ⟨hdy1, hdy2⟩ := hdy
      have ey1 : IntKind.u8.wrap ((y.toNat : Int) - 48) = (dy : Int) := by rw [IntWalk.u8_in _ (by omega)]; exact hvy
      have ey2 : IntKind.i64.wrap ((dy : Nat) : Int) = (dy : Int) := IntWalk.i64_in _ (by omega)
      clear hvy
      have hss := HS.out
      rw [hq1] at hss
      have hst := plus_step j T c dx dy (val (a.drop (I + 1))) (val (b.drop (I + 1))) hc (by omega) (by omega) HT.out hss
      clear hss
      rw [hna, hq2] at hrx
      rw [hnb, hq2] at hry
      rw [← hrx, ← hry] at hst
      obtain ⟨V, hV⟩ : ∃ V, dx + dy + c = V := ⟨_, rfl⟩
      rw [hV] at hst
      have e3 : IntKind.i64.wrap ((dx : Int) + dy) = (dx : Int) + dy := IntWalk.i64_in _ (by omega)
      have e4 : IntKind.i64.wrap ((dx : Int) + dy + c) = (V : Int) := by rw [IntWalk.i64_in _ (by omega)]; omega
      have hVb : V ≤ 19 := by omega
      obtain ⟨M, hM⟩ : ∃ M, V % 10 = M := ⟨_, rfl⟩
      obtain ⟨Q, hQ⟩ : ∃ Q, V / 10 = Q := ⟨_, rfl⟩
      have q1 : (V : Int).tdiv 10 = (Q : Int) := by rw [Int.tdiv_eq_ediv_of_nonneg (by omega)]; omega
      have q2 : (V : Int).tmod 10 = (M : Int) := by rw [Int.tmod_eq_emod_of_nonneg (by omega)]; omega
      rw [hM, hQ] at hst
      have hm : M < 10 := by omega
      have hm2 : (M : Int) < 10 := by omega
      have hm3 : (M : Int) + 1 ≤ 10 := by omega
      have hm4 : (0 : Int) ≤ (M : Int) + 1 := by omega
      have hm5 : (M : Int) ≤ (M : Int) + 1 := by omega
      have hf := fig_at M hm
      have q6 : ((M : Int) + 1).toNat = M + 1 := by omega
      have hcat := ba_app [dgt M] (padD j T)
      have hps := padD_step j T M HT.out hm
      have hpl := padD_len j T
      rw [List.cons_append, List.nil_append, hps] at hcat
      have HST := Lib.hid hst
      generalize dgt M = g at *
      have hqb : Q ≤ 1 := by have := HST.out.2.1; exact this
      clear hst hV hM hQ hps hrx hry hI hIi
      go_wp2_with fail
      refine Grow.wp_region_lit (G := Ext) (B := fun w' => Ext wr w') (anc := fun _ => []) (I := fun _ => none) (by kernel_rfl) (by kernel_rfl) (by kernel_rfl) ?_ ?_ ?_
      · exact fun w w' h hg => ext_trans h hg
      · exact (ext_refl _).drew
      repeat
        (refine Grow.walk_step (fun K hK => ?_)
         first
         | (refine Grow.step_read (by rfl) (by rfl) ext_refl ?_
            apply Exists.intro
            refine ⟨fun w hB hF => ?_, ?_⟩
            · skip
              go_simp
              try exact rfl
            go_simp
            refine hK _ _ ?_
            clear hK K)
         | (refine Grow.step_off (by rfl) ?_
            go_simp
            refine hK _ _ ?_
            clear hK K))
      refine Grow.walk_nil ?_
      intro wn hB hF
      clear hF
      go_wp2_with fail
      go_roundw
      case rel => exact ⟨j + 1, M * 10 ^ j + T, Q, by omega, by first | (congr 1; done) | (congr 1; omega), rfl, hqb, rfl, HST.out.1, by rw [hq3]; exact HST.out.2.2, ext_trans hE hB⟩
      case measure => simp [intOf]; omega
    · obtain rfl : j = n := by omega
      have hs := HS.out
      rw [Nat.sub_self, List.drop_zero, List.drop_zero] at hs
      have HR : Hid (padD (j + 1) (val a + val b) = padD (j + 1) (c * 10 ^ j + T)) := Lib.hid (by rw [hs, Nat.add_comm T])
      have hcat := ba_app [dgt c] (padD j T)
      rw [List.cons_append, List.nil_append, padD_step j T c HT.out (by omega)] at hcat
      have hf : ByteArray.extract ⟨#[48, 49]⟩ c (c + 1) = ⟨#[dgt c]⟩ := by
        have : c = 0 ∨ c = 1 := by omega
        rcases this with rfl | rfl <;> decide +kernel
      have q6 : ((c : Int) + 1).toNat = c + 1 := by omega
      have hm3 : (c : Int) + 1 ≤ 2 := by omega
      have hm5 : (c : Int) ≤ (c : Int) + 1 := by omega
      have hpl := padD_len j T
      generalize dgt c = g at *
      clear hs
      go_wp2_with fail
      go_ret
      exact ⟨by rw [hna, HR.out]; rfl, hE⟩
set_option maxHeartbeats 6400000 in
theorem r2minus_any (a b : List UInt8) (w : World) (hl : a.length = b.length) (hn : a.length ≤ 1000000) (ha : allD a) (hb : allD b) (hle : val b ≤ val a) :
    Calls Tryd.prog 43 #[.string ⟨a.toArray⟩, .string ⟨b.toArray⟩] w fun e w' => e = .returned (.string ⟨(padD a.length (val a - val b)).toArray⟩) ∧ Ext w w' := by
  have HAx := Lib.hid ha
  have HAy := Lib.hid hb
  clear ha hb
  obtain ⟨n, hna⟩ : ∃ n, a.length = n := ⟨_, rfl⟩
  have hnb : b.length = n := by omega
  go_enter Tryd.func43, Tryd.ntmps43
  go_wp2_with fail
  go_loopw [5, 6, 7] (fun sv cv iv wr => ∃ (j T c : Nat), j ≤ n ∧ iv = .int .i64 ((n : Int) - 1 - j) ∧ cv = .int .i64 c ∧ c ≤ 1 ∧ sv = .string ⟨(padD j T).toArray⟩ ∧ T < 10 ^ j ∧ val (a.drop (n - j)) + c * 10 ^ j = T + val (b.drop (n - j)) ∧ Ext w wr) (fun _ _ iv _ => (intOf iv + 1).toNat)
  case atStart => exact ⟨0, 0, 0, by omega, by simp, rfl, by omega, rfl, by simp, by rw [Nat.sub_zero, List.drop_of_length_le (by omega), List.drop_of_length_le (by omega), val_nil], ext_refl _⟩
  case round =>
    obtain ⟨j, T, c, hj, rfl, rfl, hc, rfl, hT, hs, hE⟩ := hrel
    have HS := Lib.hid hs
    have HT := Lib.hid hT
    clear hs hT
    by_cases hlt : j < n
    · obtain ⟨I, hI⟩ : ∃ I, n - 1 - j = I := ⟨_, rfl⟩
      have hIi : (n : Int) - 1 - j = (I : Int) := by omega
      have hIa : I < a.length := by omega
      have hIb : I < b.length := by omega
      have hIn : I < n := by omega
      have hq1 : n - j = I + 1 := by omega
      have hq2 : n - 1 - I = j := by omega
      have hq3 : n - (j + 1) = I := by omega
      have hq4 : (I : Int) - 1 = (n : Int) - 1 - ((j + 1 : Nat) : Int) := by omega
      have hb1 : (I : Int) < n := by omega
      have hb2 : (0 : Int) ≤ I := by omega
      rw [hIi]
      have hgx := sx_get a I (by omega)
      have hdx := (isDig_iff a[I]).1 (HAx.out _ (List.getElem_mem (by omega)))
      have hvx : ((a[I].toNat : Nat) : Int) - 48 = (digV a[I] : Nat) := by unfold digV; omega
      have hlx := digV_lt (HAx.out _ (List.getElem_mem (show I < a.length by omega)))
      have hrx := val_drop a I (by omega)
      generalize a[I] = x at *
      generalize digV x = dx at *
      obtain ⟨hdx1, hdx2⟩ := hdx
      have ex1 : IntKind.u8.wrap ((x.toNat : Int) - 48) = (dx : Int) := by rw [IntWalk.u8_in _ (by omega)]; exact hvx
      have ex2 : IntKind.i64.wrap ((dx : Nat) : Int) = (dx : Int) := IntWalk.i64_in _ (by omega)
      clear hvx
      have hgy := sx_get b I (by omega)
      have hdy := (isDig_iff b[I]).1 (HAy.out _ (List.getElem_mem (by omega)))
      have hvy : ((b[I].toNat : Nat) : Int) - 48 = (digV b[I] : Nat) := by unfold digV; omega
      have hly := digV_lt (HAy.out _ (List.getElem_mem (show I < b.length by omega)))
      have hry := val_drop b I (by omega)
      generalize b[I] = y at *
      generalize digV y = dy at *
      obtain ⟨hdy1, hdy2⟩ := hdy
      have ey1 : IntKind.u8.wrap ((y.toNat : Int) - 48) = (dy : Int) := by rw [IntWalk.u8_in _ (by omega)]; exact hvy
      have ey2 : IntKind.i64.wrap ((dy : Nat) : Int) = (dy : Int) := IntWalk.i64_in _ (by omega)
      clear hvy
      have hss := HS.out
      rw [hq1] at hss
      have hst := minus_step j T c dx dy (val (a.drop (I + 1))) (val (b.drop (I + 1))) hc (by omega) (by omega) HT.out hss
      clear hss
      rw [hna, hq2] at hrx
      rw [hnb, hq2] at hry
      rw [← hrx, ← hry] at hst
      obtain ⟨V, hV⟩ : ∃ V, dx + 10 - dy - c = V := ⟨_, rfl⟩
      rw [hV] at hst
      have e3 : IntKind.i64.wrap ((dx : Int) - dy) = (dx : Int) - dy := IntWalk.i64_in _ (by omega)
      have e5 : IntKind.i64.wrap ((dx : Int) - dy - c) = (dx : Int) - dy - c := IntWalk.i64_in _ (by omega)
      have e4 : IntKind.i64.wrap ((dx : Int) - dy - c + 10) = (V : Int) := by rw [IntWalk.i64_in _ (by omega)]; omega
      have hVb : V ≤ 19 := by omega
      obtain ⟨M, hM⟩ : ∃ M, V % 10 = M := ⟨_, rfl⟩
      obtain ⟨Q, hQ⟩ : ∃ Q, V / 10 = Q := ⟨_, rfl⟩
      have q1 : (V : Int).tdiv 10 = (Q : Int) := by rw [Int.tdiv_eq_ediv_of_nonneg (by omega)]; omega
      have q2 : (V : Int).tmod 10 = (M : Int) := by rw [Int.tmod_eq_emod_of_nonneg (by omega)]; omega
      rw [hM, hQ] at hst
      have hm : M < 10 := by omega
      have hm2 : (M : Int) < 10 := by omega
      have hm3 : (M : Int) + 1 ≤ 10 := by omega
      have hm4 : (0 : Int) ≤ (M : Int) + 1 := by omega
      have hm5 : (M : Int) ≤ (M : Int) + 1 := by omega
      have hf := fig_at M hm
      have q6 : ((M : Int) + 1).toNat = M + 1 := by omega
      have hcat := ba_app [dgt M] (padD j T)
      have hps := padD_step j T M HT.out hm
      have hpl := padD_len j T
      rw [List.cons_append, List.nil_append, hps] at hcat
      have HST := Lib.hid hst
      generalize dgt M = g at *
      have hqb : Q ≤ 1 := by have := HST.out.2.1; exact this
      clear hst hV hM hQ hps hrx hry hI hIi
      go_wp2_with fail
      refine Grow.wp_region_lit (G := Ext) (B := fun w' => Ext wr w') (anc := fun _ => []) (I := fun _ => none) (by kernel_rfl) (by kernel_rfl) (by kernel_rfl) ?_ ?_ ?_
      · exact fun w w' h hg => ext_trans h hg
      · exact (ext_refl _).drew
      repeat
        (refine Grow.walk_step (fun K hK => ?_)
         first
         | (refine Grow.step_read (by rfl) (by rfl) ext_refl ?_
            apply Exists.intro
            refine ⟨fun w hB hF => ?_, ?_⟩
            · skip
              go_simp
              try exact rfl
            go_simp
            refine hK _ _ ?_
            clear hK K)
         | (refine Grow.step_off (by rfl) ?_
            go_simp
            refine hK _ _ ?_
            clear hK K))
      refine Grow.walk_nil ?_
      intro wn hB hF
      clear hF
      go_wp2_with fail
      go_roundw
      case rel => exact ⟨j + 1, M * 10 ^ j + T, 1 - Q, by omega, by first | (congr 1; done) | (congr 1; omega), by first | (congr 1; done) | (congr 1; omega), by omega, rfl, HST.out.1, by rw [hq3]; exact HST.out.2.2, ext_trans hE hB⟩
      case measure => simp [intOf]; omega
    · obtain rfl : j = n := by omega
      have hs := HS.out
      rw [Nat.sub_self, List.drop_zero, List.drop_zero] at hs
      have hbl := val_lt_pow HAy.out (k := j) (by omega)
      have hal := val_lt_pow HAx.out (k := j) (by omega)
      have hc0 : c = 0 := by
        rcases (show c = 0 ∨ c = 1 by omega) with h | h
        · exact h
        · exfalso
          subst h
          have := HT.out
          omega
      subst hc0
      have HR : Hid (padD j (val a - val b) = padD j T) := Lib.hid (by rw [show val a - val b = T by omega])
      have hpl := padD_len j T
      clear hs hbl hal hle
      go_wp2_with fail
      go_ret
      exact ⟨by rw [hna, HR.out]; rfl, hE⟩
end Go.Proofs.YtpheohgceepboaaDoor
