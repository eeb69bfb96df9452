/- A text of this proof. -/
import Derived.Test.YtjapbjmeoaagmaaGreatDoorEPrintIsShelf
import Derived.Test.YtjapbjmeoaagmaaGreatDoorEPrintIsConv
import Derived.Test.YtjapbjmeoaagmaaGreatDoorEPrintIsStr
import Derived.Test.YtjapbjmeoaagmaaGreatDoorEPrintIsUtfGo
import Derived.Shelf.Strings.SlTrimAscii
import Derived.Lib.AsciiSet
import Derived.Laws.Strings3
import Derived.Laws.ResultCell
import Derived.Deep.LoopGhost
import Derived.Deep.WholeRow
import Derived.Test.YtjapbjmeoaagmaaGreatDoorEPrintIsSh
set_option linter.unusedVariables false
set_option linter.unusedSimpArgs false
set_option maxRecDepth 100000
namespace Orange
def isWhite (c : UInt8) : Bool := decide (c.toNat = 9) || decide (c.toNat = 10) || decide (c.toNat = 13) || decide (c.toNat = 32)
def whiteN (xs : List UInt8) (a : Nat) : Nat := xs.length - ((xs.drop a).dropWhile isWhite).length
def clampN (n : Nat) (at0 : Int) : Nat := (min (max at0 0) (n : Int)).toNat
theorem clampN_le (n : Nat) (at0 : Int) : clampN n at0 ≤ n := by unfold clampN; omega
theorem clampN_eq (n : Nat) (at0 : Int) : min (max at0 0) (n : Int) = (clampN n at0 : Int) := by unfold clampN; omega
theorem clampN_nat (n a : Nat) (h : a ≤ n) : clampN n (a : Int) = a := by unfold clampN; omega
theorem white_set (x : UInt8) : ([9, 10, 13, 32] : List UInt8).contains x = isWhite x := by
 have h1 := u8f (p := fun n => ([9, 10, 13, 32] : List UInt8).contains (UInt8.ofNat n) == isWhite (UInt8.ofNat n)) (by decide +kernel) x; rw [UInt8.ofNat_toNat, beq_iff_eq] at h1; exact h1
theorem dropWhile_le (p : UInt8 → Bool) (l : List UInt8) : (l.dropWhile p).length ≤ l.length := (List.dropWhile_sublist (p := p) (l := l)).length_le
end Orange
namespace Go.Proofs.YtjapbjmeoaagmaaGreatDoor
open Go.RowKit Go.Mem Go.Lib Orange
set_option maxHeartbeats 8000000 in
set_option maxRecDepth 1000000 in
theorem mkset_gen (P : Program) (hf : P.funcs[128]? = some Tryz.f128)
 (t3 : P.underlying 3 = some (.int .i64)) (a3 : ∀ w, (isAgg 3).run P w = .ok false w) (z3 : ∀ w, (sizeOf 3).run P w = .ok 1 w) (v3 : ∀ w, (zeroValue 3).run P w = .ok (.int .i64 0) w)
 (t4 : P.underlying 4 = some .bool) (a4 : ∀ w, (isAgg 4).run P w = .ok false w) (z4 : ∀ w, (sizeOf 4).run P w = .ok 1 w) (v4 : ∀ w, (zeroValue 4).run P w = .ok (.bool false) w)
 (t5 : P.underlying 5 = some (.int .u8)) (a5 : ∀ w, (isAgg 5).run P w = .ok false w) (z5 : ∀ w, (sizeOf 5).run P w = .ok 1 w) (v5 : ∀ w, (zeroValue 5).run P w = .ok (.int .u8 0) w)
 (t9 : P.underlying 9 = some .string) (a9 : ∀ w, (isAgg 9).run P w = .ok false w) (z9 : ∀ w, (sizeOf 9).run P w = .ok 1 w) (v9 : ∀ w, (zeroValue 9).run P w = .ok (.string ⟨#[]⟩) w)
 (tS : P.underlying 164 = some (.array 256 4)) (aS : ∀ w, (isAgg 164).run P w = .ok true w) (zS : ∀ w, (sizeOf 164).run P w = .ok 256 w)
 (hvS : ∀ w, (zeroValue 164).run P w = .ok (.agg (Array.replicate 256 (.bool false))) w) (hiS : (P.info? 164).map (·.size) = some 256) (cs : List UInt8) (w : World) (hs : cs.length < 4294967281)
 (hascii : ∀ (j : Nat) b, cs[j]? = some b → b.toNat < 128) :
 Calls P 128 #[.string ⟨cs.toArray⟩] w fun e w' => e = .returned (.tuple #[.agg (Lib.setCells cs), .bool true]) ∧ w' = w.alloc (.cells (Lib.setCells cs) 164) := by
 have HA := Hd hascii; have HAS := Hd aS; have HZS := Hd zS; clear hascii aS zS; go_enter hf, Tryz.ntmps128
 go_wp2
 rw [← Lib.setCells_nil]; go_loopg [4] cs.length (fun g s4 wx => ∃ i : Nat, i + g = cs.length ∧ s4 = .int .i64 i ∧ wx = w.alloc (.cells (Lib.setCells (cs.take i)) 164))
 case atStart => exact ⟨0, by omega, rfl, rfl⟩
 case round =>
  obtain ⟨i, hig, rfl, rfl⟩ := hrel; cases gk with
  | zero =>
    obtain rfl : i = cs.length := by omega
    have hiz : ¬ ((cs.length : Int) < (cs.length : Int)) := by omega
    rw [List.take_length]; have hld := run_loadVar_new (P := P) w 164 (Lib.setCells cs) 256 4 tS (by rw [Lib.setCells_size]; exact hiS); have hsz := Lib.setCells_size cs; have hlc := run_loadCellsFrom_new (P := P) w 164 (Lib.setCells cs) 256 hsz; have hsc := run_storeCells_new (P := P) w 164 (Lib.setCells cs) (Lib.setCells cs) (by rw [hsz]; exact hiS) rfl (Lib.setCells_one _); go_wp2
    simp only [HAS.out, HZS.out, Result.andThen, ↓reduceIte, hlc]; rw [Oper.upon_value]; go_wp2
    simp only [HZS.out, Result.andThen, ↓reduceIte, hsc]; rw [Oper.upon_skip]; go_wp2
    (try simp only [Exit.inBlock, Exit.then])
    refine bodyPost_ret (v := .tuple #[.agg (Lib.setCells cs), .bool true]) ?_ rfl ⟨rfl, rfl⟩; rw [results_cell_tmp rfl]; simp [asAddr, Result.andThen, hld]
  | succ g =>
    have hi : i < cs.length := by omega
    have hiz : (i : Int) < (cs.length : Int) := by omega
    have hg := sx_get cs i hi; have hx128' := HA.out i cs[i] (List.getElem?_eq_getElem hi); have htk : cs.take (i + 1) = cs.take i ++ [cs[i]] := by rw [List.take_add_one, List.getElem?_eq_getElem hi]; rfl
    have HTK := Hd htk; clear htk; generalize cs[i] = x at *; have hx128 : ¬ ((128 : Int) ≤ (x.toNat : Int)) := by omega
    have hx256 : (x.toNat : Int) < 256 := by omega
    have hcell := Lib.setCells_at (cs.take i) x; go_wp2
    go_roundg g
    case measure => omega
    case rel => exact ⟨i + 1, by omega, by first | rfl | simp, by rw [HTK.out, Lib.setCells_snoc]⟩
theorem mkset_any (cs : List UInt8) (w : World) (hs : cs.length < 4294967281) (hascii : ∀ (j : Nat) b, cs[j]? = some b → b.toNat < 128) :
 Calls Tryz.prog 128 #[.string ⟨cs.toArray⟩] w fun e w' => e = .returned (.tuple #[.agg (Lib.setCells cs), .bool true]) ∧ w' = w.alloc (.cells (Lib.setCells cs) 164) :=
 mkset_gen Tryz.prog Tryz.func128 Tryz.underlying3 Tryz.isAgg3 Tryz.sizeOf3 Tryz.zeroValue3 Tryz.underlying4 Tryz.isAgg4 Tryz.sizeOf4 Tryz.zeroValue4 Tryz.underlying5 Tryz.isAgg5 Tryz.sizeOf5 Tryz.zeroValue5 Tryz.underlying9 Tryz.isAgg9 Tryz.sizeOf9 Tryz.zeroValue9
  Tryz.underlying164 Tryz.isAgg164 Tryz.sizeOf164 (fun w => by rw [Tryz.zeroValue164]; rfl) (by kernel_rfl) cs w hs hascii
theorem inset_any (b : Nat) (x : UInt8) (v : Bool) (w : World) (hc : w.cell? ⟨b, x.toNat, none⟩ = some (.bool v)) :
 Calls Tryz.prog 159 #[.pointer (some ⟨b, 0, none⟩), .int .u8 x.toNat] w fun e w' => e = .returned (.bool v) ∧ w = w' := by
 have hx256 : (x.toNat : Int) < 256 := by have := UInt8.toNat_lt x; omega
 go_enter Tryz.func159, Tryz.ntmps159
 go_wp2_with fail; go_ret; exact ⟨rfl, rfl⟩
theorem Bytes.shape {w : World} {v : Value} {xs : List UInt8} (h : Bytes w v xs) : (xs = [] ∧ ∃ a cap, v = .slice a 0 cap ∧ cap ≤ 9223372036854775807) ∨ (0 < xs.length ∧ ∃ b o cap, v = .slice (some ⟨b, o, none⟩) xs.length cap ∧ xs.length ≤ cap ∧ cap ≤ 9223372036854775807 ∧ xs.length ≤ 140737488355328 ∧ BytesAt w (some ⟨b, o, none⟩) xs) := by
 obtain ⟨a, cap, e, h1, h2, h3, h4⟩ := h; by_cases h0 : xs.length = 0
 · obtain rfl : xs = [] := List.eq_nil_of_length_eq_zero h0; exact .inl ⟨rfl, a, cap, e, h2⟩
 · obtain ⟨b, o, rfl, hlt, hc⟩ := h4 (by omega); exact .inr ⟨by omega, b, o, cap, e, h1, h2, h3, h4⟩
theorem Bytes.tail {w : World} {b o n cap : Nat} {x : UInt8} {t : List UInt8} (h : BytesAt w (some ⟨b, o, none⟩) (x :: t)) (hn : t.length + 1 ≤ cap) (hc : cap ≤ 9223372036854775807) (hl : t.length + 1 ≤ 140737488355328) (a : Option Addr) (ha : 0 < t.length → a = some ⟨b, o + 1, none⟩) : Bytes w (.slice a t.length (cap - 1)) t := by
 cases t with
 | nil => exact Bytes.nil _ _ _ (by omega)
 | cons y u =>
   rw [ha (by simp)]; have := h.drop 1; simp only [List.drop_succ_cons, List.drop_zero] at this; exact Bytes.mk this rfl (by simp at hn ⊢; omega) (by omega) (by simp at hl ⊢; omega)
set_option maxHeartbeats 3200000 in
theorem trimSet_any (v : Value) (xs : List UInt8) (p : UInt8 → Bool) (b : Nat) (w : World) (hx : Bytes w v xs) (hset : ∀ x : UInt8, w.cell? ⟨b, x.toNat, none⟩ = some (.bool (p x))) :
 Calls Tryz.prog 129 #[v, .pointer (some ⟨b, 0, none⟩)] w fun e w' => (∃ a c, e = .returned (.slice a (xs.dropWhile p).length c)) ∧ w = w' := by
 have HS := Hd hset; have HX := Hd hx; clear hset hx; go_enter Tryz.func129, Tryz.ntmps129
 go_wp2_with fail; go_loop [0] (fun s => ∃ ys : List UInt8, Bytes w s ys ∧ xs.dropWhile p = ys.dropWhile p) (fun s => match s with | .slice _ n _ => n | _ => 0)
 case atStart => exact ⟨xs, HX.out, rfl⟩
 case round =>
  obtain ⟨ys, hy, hd⟩ := hrel; have HD := Hd hd; clear hd; rcases hy.cases with ⟨rfl, a, cap, rfl, hcap⟩ | ⟨x, t, b', o, cap, rfl, rfl, hcap, hcm, hlm, hlt, hc0, _, hat⟩
  · go_wp2_with fail; go_ret; exact ⟨⟨none, 0, by rw [HD.out]; rfl⟩, rfl⟩
  · have HAT := Hd hat; have HY := Hd hy; clear hat hy; go_wp2_with fail; refine (inset_any b x _ _ (HS.out x)).mono ?_; rintro e w1 ⟨rfl, rfl⟩; cases hin : p x with
    | true =>
      have HN : Hid ((x :: t).dropWhile p = t.dropWhile p) := Hd (by rw [List.dropWhile_cons, if_pos hin]); clear hin; by_cases hc1 : cap = 1
      · subst hc1; obtain rfl : t = [] := List.eq_nil_of_length_eq_zero (by omega); go_wp2_with fail; go_round
        case rel => exact ⟨[], Bytes.nil _ _ _ (by omega), by rw [HD.out, HN.out]⟩
        case measure => simp
      · have hc2 : (cap : Int) - 1 ≠ 0 := by omega
        go_wp2_with fail; go_round
        case rel => exact ⟨t, Bytes.tail (n := 0) HAT.out hcap hcm hlm _ (fun _ => rfl), by rw [HD.out, HN.out]⟩
        case measure => simp
    | false =>
      have HN : Hid ((x :: t).dropWhile p = x :: t) := Hd (by rw [List.dropWhile_cons, if_neg (by rw [hin]; simp)]); clear hin; go_wp2_with fail; go_ret; exact ⟨⟨_, _, by rw [HD.out, HN.out]; rfl⟩, rfl⟩
set_option maxHeartbeats 4000000 in
set_option maxRecDepth 1000000 in
theorem trimLeft_gen (P : Program) (hf : P.funcs[95]? = some Tryz.f95)
 (t3 : P.underlying 3 = some (.int .i64)) (a3 : ∀ w, (isAgg 3).run P w = .ok false w) (z3 : ∀ w, (sizeOf 3).run P w = .ok 1 w) (v3 : ∀ w, (zeroValue 3).run P w = .ok (.int .i64 0) w)
 (t4 : P.underlying 4 = some .bool) (a4 : ∀ w, (isAgg 4).run P w = .ok false w) (z4 : ∀ w, (sizeOf 4).run P w = .ok 1 w) (v4 : ∀ w, (zeroValue 4).run P w = .ok (.bool false) w)
 (t5 : P.underlying 5 = some (.int .u8)) (a5 : ∀ w, (isAgg 5).run P w = .ok false w) (z5 : ∀ w, (sizeOf 5).run P w = .ok 1 w) (v5 : ∀ w, (zeroValue 5).run P w = .ok (.int .u8 0) w)
 (t9 : P.underlying 9 = some .string) (a9 : ∀ w, (isAgg 9).run P w = .ok false w) (z9 : ∀ w, (sizeOf 9).run P w = .ok 1 w) (v9 : ∀ w, (zeroValue 9).run P w = .ok (.string ⟨#[]⟩) w)
 (t22 : P.underlying 56 = some (.slice 5)) (a22 : ∀ w, (isAgg 56).run P w = .ok false w) (z22 : ∀ w, (sizeOf 56).run P w = .ok 1 w)
 (tS : P.underlying 164 = some (.array 256 4)) (aS : ∀ w, (isAgg 164).run P w = .ok true w) (zS : ∀ w, (sizeOf 164).run P w = .ok 256 w)
 (hvS : ∀ w, (zeroValue 164).run P w = .ok (.agg (Array.replicate 256 (.bool false))) w) (hiS : (P.info? 164).map (·.size) = some 256)
 (e1 : ∀ args w, (callFunc 128 args).run P w = .ok (.enter 128 args) w) (e2 : ∀ args w, (callFunc 129 args).run P w = .ok (.enter 129 args) w)
 (v : Value) (xs cs : List UInt8) (p : UInt8 → Bool) (w : World) (hx : Bytes w v xs) (hc : 2 ≤ cs.length) (hcs : cs.length < 4294967281) (hp : ∀ x, cs.contains x = p x)
 (hM : ∀ w, Calls P 128 #[.string ⟨cs.toArray⟩] w fun e w' => e = .returned (.tuple #[.agg (Lib.setCells cs), .bool true]) ∧ w' = w.alloc (.cells (Lib.setCells cs) 164))
 (hT : ∀ (v : Value) (xs : List UInt8) (b : Nat) (w : World), Bytes w v xs → (∀ x : UInt8, w.cell? ⟨b, x.toNat, none⟩ = some (.bool (p x))) → Calls P 129 #[v, .pointer (some ⟨b, 0, none⟩)] w fun e w' => (∃ a c, e = .returned (.slice a (xs.dropWhile p).length c)) ∧ w = w') :
 Calls P 95 #[v, .string ⟨cs.toArray⟩] w fun e w' => (∃ a c, e = .returned (.slice a (xs.dropWhile p).length c)) ∧ Ext w w' := by
 have HM := Hd hM; have HT := Hd hT; have HP := Hd hp; have HAS := Hd aS; have HZS := Hd zS; have HX := Hd hx; have hxc := hx; clear hM hT hp aS zS hx; obtain ⟨a, cap, rfl, h1, h2, h3, h4⟩ := hxc; clear h4; by_cases h0 : xs.length = 0
 · obtain rfl : xs = [] := List.eq_nil_of_length_eq_zero h0; go_enter hf, Tryz.ntmps95
   go_wp2
   go_ret; exact ⟨⟨none, 0, rfl⟩, ext_refl _⟩
 · have hn0 : ((xs.length : Int) == 0) = false := by simp; intro h; subst h; simp at h0
   have hne : cs ≠ [] := fun e => by subst e; simp at hc
   have hem : cs.isEmpty = false := by simpa using hne
   have hn1 : ((cs.length : Int) == 1) = false := by simp; omega
   have hsc := run_storeCells_new (P := P) (w.alloc (.cells (Lib.setCells cs) 164)) 164 (Array.replicate 256 (.bool false)) (Lib.setCells cs) (by rw [Lib.setCells_size]; exact hiS) (by rw [Lib.setCells_size]; rfl) (Lib.setCells_one _); have hsz : (w.alloc (.cells (Lib.setCells cs) 164)).heap.size = w.heap.size + 1 := by simp
   rw [hsz] at hsc; go_enter hf, Tryz.ntmps95
   go_wp2_with fail; refine (HM.out w).mono ?_; rintro e w' ⟨rfl, rfl⟩; go_wp2_with fail; simp only [HZS.out, Result.andThen, ↓reduceIte, hsc, Lib.setCells_size]; rw [Oper.upon_skip]; have hE : Ext w ((w.alloc (.cells (Lib.setCells cs) 164)).alloc (.cells (Lib.setCells cs) 164)) := ext_trans ((ext_refl w).alloc (Nat.le_refl _) _) ((ext_refl _).alloc (Nat.le_refl _) _)
   have hset : ∀ x : UInt8, ((w.alloc (.cells (Lib.setCells cs) 164)).alloc (.cells (Lib.setCells cs) 164)).cell? ⟨w.heap.size + 1, x.toNat, none⟩ = some (.bool (p x)) := fun x => by
    rw [World.cell?_alloc_at _ _ _ _ (by simp), Lib.setCells_at, HP.out]
   have HSET := Hd hset; clear hset hsc; go_wp2_with fail; refine (HT.out _ xs (w.heap.size + 1) _ (HX.out.ext hE) HSET.out).mono ?_; rintro e w' ⟨⟨a', c', rfl⟩, rfl⟩; go_wp2_with fail; go_ret; exact ⟨⟨_, _, rfl⟩, hE⟩
theorem trimLeft_any (v : Value) (xs cs : List UInt8) (p : UInt8 → Bool) (w : World) (hx : Bytes w v xs) (hc : 2 ≤ cs.length) (hcs : cs.length < 4294967281) (hascii : ∀ (j : Nat) b, cs[j]? = some b → b.toNat < 128) (hp : ∀ x, cs.contains x = p x) :
 Calls Tryz.prog 95 #[v, .string ⟨cs.toArray⟩] w fun e w' => (∃ a c, e = .returned (.slice a (xs.dropWhile p).length c)) ∧ Ext w w' :=
 trimLeft_gen Tryz.prog Tryz.func95 Tryz.underlying3 Tryz.isAgg3 Tryz.sizeOf3 Tryz.zeroValue3 Tryz.underlying4 Tryz.isAgg4 Tryz.sizeOf4 Tryz.zeroValue4 Tryz.underlying5 Tryz.isAgg5 Tryz.sizeOf5 Tryz.zeroValue5 Tryz.underlying9 Tryz.isAgg9 Tryz.sizeOf9 Tryz.zeroValue9 Tryz.underlying56 Tryz.isAgg56 Tryz.sizeOf56
  Tryz.underlying164 Tryz.isAgg164 Tryz.sizeOf164 (fun w => by rw [Tryz.zeroValue164]; rfl) (by kernel_rfl) (enters_of Tryz.func128 (by kernel_rfl) rfl) (enters_of Tryz.func129 (by kernel_rfl) rfl) v xs cs p w hx hc hcs hp
  (fun w => mkset_any cs w hcs hascii) (fun v xs b w h1 h2 => trimSet_any v xs p b w h1 h2)
theorem equal_any (v u : Value) (xs ys : List UInt8) (w : World) (hx : Bytes w v xs) (hy : Bytes w u ys) :
 Calls Tryz.prog 188 #[v, u] w fun e w' => e = .returned (.bool (xs == ys)) ∧ w = w' := by
 have h1 := run_string_of_bytes w hx 56 9 5 Tryz.underlying56 Tryz.underlying5 Tryz.underlying9; have h2 := run_string_of_bytes w hy 56 9 5 Tryz.underlying56 Tryz.underlying5 Tryz.underlying9; clear hx hy; go_enter Tryz.func188, Tryz.ntmps188
 go_wp2_with fail; go_ret; exact ⟨rfl, rfl⟩
set_option maxHeartbeats 1600000 in
theorem hasPre_any (v u : Value) (xs ys : List UInt8) (w : World) (hx : Bytes w v xs) (hy : Bytes w u ys) (hy0 : 0 < ys.length) :
 Calls Tryz.prog 151 #[v, u] w fun e w' => e = .returned (.bool (decide (ys.length ≤ xs.length) && xs.take ys.length == ys)) ∧ w = w' := by
 have HX := Hd hx; have HY := Hd hy; obtain ⟨a', cap', rfl, h1', h2', h3', _⟩ := hy; rcases Bytes.shape hx with ⟨rfl, a, cap, rfl, hcap⟩ | ⟨h0, b, o, cap, rfl, hn, hm, hl, hat⟩
 · have hys : ¬ ys = [] := fun e => by subst e; simp at hy0
   have hd : ¬ (ys.length : Int) ≤ 0 := by omega
   have hd2 : decide (ys.length ≤ 0) = false := decide_eq_false (by omega); clear hx; go_enter Tryz.func151, Tryz.ntmps151
   go_wp2_with fail; go_ret; refine ⟨ret_bool ?_, rfl⟩; simp [hd2]
 · clear hx; by_cases hle : ys.length ≤ xs.length
   · have hs : Bytes w (.slice (some ⟨b, o, none⟩) ys.length cap) (xs.take ys.length) := Bytes.mk (hat.take _) (by simp; omega) (by omega) hm (by omega); have HS := Hd hs; have HAT := Hd hat; clear hs hat; go_enter Tryz.func151, Tryz.ntmps151
     go_wp2_with fail; refine (equal_any _ _ _ _ _ HS.out HY.out).mono ?_; rintro e w1 ⟨rfl, rfl⟩; go_wp2_with fail; go_ret; refine ⟨ret_bool ?_, rfl⟩; simp [hle]
   · have hd : ¬ (ys.length : Int) ≤ xs.length := by omega
     clear hat; go_enter Tryz.func151, Tryz.ntmps151
     go_wp2_with fail; go_ret; refine ⟨ret_bool ?_, rfl⟩; simp [hle]
set_option maxHeartbeats 1600000 in
theorem white_any (v : Value) (xs : List UInt8) (at0 : Int) (w : World) (hx : Bytes w v xs) :
 Calls Tryz.prog 75 #[v, .int .i64 at0] w fun e w' => e = .returned (.int .i64 (whiteN xs (clampN xs.length at0) : Nat)) ∧ Ext w w' := by
 have HX := Hd hx; have hcl := clampN_eq xs.length at0; have hcle := clampN_le xs.length at0; generalize clampN xs.length at0 = k at *; rcases Bytes.shape hx with ⟨rfl, a, cap, rfl, hcap⟩ | ⟨h0, b, o, cap, rfl, hn, hm, hl, hat⟩
 · obtain rfl : k = 0 := by simpa using hcle
   clear hx hcle; simp only [List.length_nil, Int.ofNat_zero, Int.natCast_zero] at hcl; go_enter Tryz.func75, Tryz.ntmps75
   go_wp2_with fail; refine (trimLeft_any _ [] [9, 10, 13, 32] isWhite _ (Bytes.nil _ _ _ (by omega)) (by decide) (by decide) (ascii_of_all (by decide)) white_set).mono ?_; rintro e wn ⟨⟨a', c', rfl⟩, hw⟩; go_wp2_with fail; go_ret; exact ⟨rfl, hw⟩
 · have HAT := Hd hat; have hle2 := dropWhile_le isWhite (xs.drop k); rw [List.length_drop] at hle2; have hw : whiteN xs k = xs.length - ((xs.drop k).dropWhile isWhite).length := rfl; have HW := Hd hw; clear hx hat hw; by_cases hck : cap = k
   · subst hck; obtain rfl : cap = xs.length := by omega
     have hnil : xs.drop xs.length = [] := List.drop_length; have HNIL := Hd hnil; clear hnil hle2; go_enter Tryz.func75, Tryz.ntmps75
     go_wp2_with fail; refine (trimLeft_any _ [] [9, 10, 13, 32] isWhite _ (Bytes.nil _ _ _ (by omega)) (by decide) (by decide) (ascii_of_all (by decide)) white_set).mono ?_; rintro e wn ⟨⟨a', c', rfl⟩, hw⟩; go_wp2_with fail; go_ret; exact ⟨ret_int (by rw [HW.out, HNIL.out]; simp), hw⟩
   · have hc2 : (cap : Int) - k ≠ 0 := by omega
     have hsl : Bytes w (.slice (some ⟨b, o + k, none⟩) (xs.length - k) (cap - k)) (xs.drop k) := Bytes.mk (HAT.out.drop k) (by simp) (by omega) (by omega) (by omega); have HSL := Hd hsl; clear hsl; go_enter Tryz.func75, Tryz.ntmps75
     go_wp2_with fail; refine (trimLeft_any _ (xs.drop k) [9, 10, 13, 32] isWhite _ HSL.out (by decide) (by decide) (ascii_of_all (by decide)) white_set).mono ?_; rintro e wn ⟨⟨a', c', rfl⟩, hw⟩; go_wp2_with fail; go_ret; exact ⟨ret_int (by rw [HW.out]; omega), hw⟩
end Go.Proofs.YtjapbjmeoaagmaaGreatDoor
