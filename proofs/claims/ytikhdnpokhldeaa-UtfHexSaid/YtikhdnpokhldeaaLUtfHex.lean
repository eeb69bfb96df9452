/- UtfHex: a character that is escaped by its four digits, or by a pair of them, is told, whatever follows: whatever the input, the law returns true and the input reads as it did. No condition. -/
import Derived.Test.YtikhdnpokhldeaaRows
import Derived.Test.YtikhdnpokhldeaaApp
import Derived.Test.YtikhdnpokhldeaaWEscB
import Derived.Test.YtikhdnpokhldeaaRefG
import Derived.Test.YtikhdnpokhldeaaFrame
import Derived.SizedLaws
import Derived.OpenShut
import Derived.IntWalk
set_option linter.unusedVariables false
set_option linter.unusedSimpArgs false
namespace Go.Proofs.Ytikhdnpokhldeaa.utfHex
open Go.ChangeShapes Go.WideShapes Go.ChangeAt Go.RowKit Go.Mem Orange

def dg (g : Bool) (n : Nat) : UInt8 := if g then upB.get! n else loB.get! n
def hx4 (g : Bool) (n : Nat) : List UInt8 := [117, dg g (n / 4096 % 16), dg g (n / 256 % 16), dg g (n / 16 % 16), dg g (n % 16)]
theorem hexD_dg (g : Bool) (n : Nat) (h : n < 16) : hexD (dg g n) = n := by
  have h1 : ∀ g : Bool, ∀ k : Fin 16, hexD (dg g k.val) = (k.val : Int) := by decide +kernel
  exact h1 g ⟨n, h⟩
theorem hexv_hx (g : Bool) (n : Nat) (h : n < 65536) (t : List UInt8) : hexv ([dg g (n / 4096 % 16), dg g (n / 256 % 16), dg g (n / 16 % 16), dg g (n % 16)] ++ t) = n := by
  have h1 := hexD_dg g (n / 4096 % 16) (by omega)
  have h2 := hexD_dg g (n / 256 % 16) (by omega)
  have h3 := hexD_dg g (n / 16 % 16) (by omega)
  have h4 := hexD_dg g (n % 16) (by omega)
  have : hexN ([dg g (n / 4096 % 16), dg g (n / 256 % 16), dg g (n / 16 % 16), dg g (n % 16)] ++ t |>.take 4) 0 = some (n : Int) := by
    simp only [List.cons_append, List.nil_append, List.take_succ_cons, List.take_zero, hexN, h1, h2, h3, h4]
    rw [if_neg (by omega), if_neg (by omega), if_neg (by omega), if_neg (by omega)]
    congr 1; omega
  rw [hexv, if_neg (by simp), this]
theorem esc_single (g : Bool) (n : Nat) (h : n < 65536) (hs : sound n = true) (t : List UInt8) : escape (hx4 g n ++ t) = ((n : Int), 5) := by
  have hv := hexv_hx g n h t
  show escape (117 :: ([dg g (n / 4096 % 16), dg g (n / 256 % 16), dg g (n / 16 % 16), dg g (n % 16)] ++ t)) = _
  rw [escape_u, hv, if_pos ⟨by omega, hs⟩]
theorem esc_pair (g : Bool) (n m : Nat) (h : 55296 ≤ n ∧ n ≤ 56319) (k : 56320 ≤ m ∧ m ≤ 57343) (t : List UInt8) : escape (hx4 g n ++ ([92] ++ (hx4 g m ++ t))) = (65536 + ((n : Int) - 55296) * 1024 + m - 56320, 11) := by
  have hv := hexv_hx g n (by omega) ([92] ++ (hx4 g m ++ t))
  have hw := hexv_hx g m (by omega) t
  show escape (117 :: ([dg g (n / 4096 % 16), dg g (n / 256 % 16), dg g (n / 16 % 16), dg g (n % 16)] ++ ([92] ++ (hx4 g m ++ t)))) = _
  have hns : ¬ (sound (n : Int) = true) := by rw [sound_iff]; omega
  rw [escape_u, hv, if_neg (fun h => hns h.2)]
  rw [if_neg (by simp [hx4]; omega)]
  have hd : ([dg g (n / 4096 % 16), dg g (n / 256 % 16), dg g (n / 16 % 16), dg g (n % 16)] ++ ([92] ++ (hx4 g m ++ t))).drop 6 = [dg g (m / 4096 % 16), dg g (m / 256 % 16), dg g (m / 16 % 16), dg g (m % 16)] ++ t := rfl
  rw [hd, hw, if_neg (by omega)]
theorem pair_esc (g : Bool) (n m : Nat) (r : Int) (h : 55296 ≤ n ∧ n ≤ 56319) (k : 56320 ≤ m ∧ m ≤ 57343) (e : (65536 : Int) + ((n : Int) - 55296) * 1024 + m - 56320 = r) (t : List UInt8) : escape ((hx4 g n ++ [92] ++ hx4 g m) ++ t) = (r, 11) := by
  have := esc_pair g n m h k t
  rw [e] at this
  rw [← this]; simp
/-- what has been written of the units -/
def txt (g : Bool) (us : List Nat) : Nat → List UInt8
  | 0 => []
  | k + 1 => txt g us k ++ (if k = 0 then [] else [92]) ++ hx4 g (us.getD k 0)
theorem txt_len (g : Bool) (us : List Nat) : ∀ k, (txt g us k).length ≤ 6 * k
  | 0 => by simp [txt]
  | k + 1 => by
    have := txt_len g us k
    simp only [txt, List.length_append, hx4, List.length_cons, List.length_nil]
    split <;> simp <;> omega

theorem bytes_of_cells {w : World} {b : Nat} {cs : Array Value} {e : TypeId} {xs : List UInt8} (hh : w.heap[b]? = some (.cells cs e (0, 0))) (h : cs.toList = cells8 xs) (n : Nat) (hn : n = xs.length) (hl : n ≤ 140737488355328) :
    Bytes w (.slice (some ⟨b, 0, none⟩) n n) xs := by
  refine Bytes.mk ?_ hn (Nat.le_refl _) (by omega) hl
  intro _
  refine ⟨b, 0, rfl, (Array.getElem?_eq_some_iff.1 hh).1, fun i hi => ?_⟩
  rw [cell_of_cells hh, ← Array.getElem?_toList, h, Nat.zero_add]
  simp [cells8, hi]
theorem hx4_cells (g : Bool) (n : Nat) : (#[.int .u8 117, .int .u8 (dg g (n / 4096 % 16)).toNat, .int .u8 (dg g (n / 256 % 16)).toNat, .int .u8 (dg g (n / 16 % 16)).toNat, .int .u8 (dg g (n % 16)).toNat] : Array Value).toList = cells8 (hx4 g n) := rfl

set_option maxHeartbeats 6400000 in
set_option maxRecDepth 100000 in
theorem walk (r : Int) (hr0 : -2147483648 ≤ r) (hr1 : r ≤ 2147483647) (great : Bool) (va : Value) (xs : List UInt8) (w : World) (hxs : Bytes w va xs) :
    Calls Try.prog 8 #[.int .i32 r, .bool great, va] w fun e w' => e = .returned (.bool true) ∧ Ext w w' := by
  have hx0 := hxs
  obtain ⟨a, ca, rfl, hxc, hxm, hxl, hxat⟩ := hx0
  clear hxat
  have HXS := Lib.hid hxs
  clear hxs
  by_cases hlen : xs.length ≤ 200
  · have hd : decide (200 < (xs.length : Int)) = false := by simp; omega
    by_cases hneg : r < 0
    · go_enter Try.func8, Try.ntmps8
      go_wp2_with fail
      refine (awake_any _).mono ?_
      rintro e w1 ⟨rfl, hw1⟩
      go_wp2_with fail
      go_ret
      exact ⟨rfl, hw1⟩
    · obtain ⟨n, rfl⟩ : ∃ n : Nat, r = n := ⟨r.toNat, by omega⟩
      have hd0 : decide ((n : Int) < 0) = false := by simp
      clear hneg
      by_cases hbig : 1114111 < (n : Int)
      · go_enter Try.func8, Try.ntmps8
        go_wp2_with fail
        refine (awake_any _).mono ?_
        rintro e w1 ⟨rfl, hw1⟩
        go_wp2_with fail
        go_ret
        exact ⟨rfl, hw1⟩
      · have hd1 : decide (1114111 < (n : Int)) = false := by simp; omega
        by_cases hA : (n : Int) < 55296
        · have hd3 : decide (55296 ≤ (n : Int)) = false := by simp; omega
          have hd5 : decide (65535 < (n : Int)) = false := by simp; omega
          have hs : sound (n : Int) = true := by rw [sound_iff]; omega
          have HS := Lib.hid hs
          clear hs
          cases great
          · go_enter Try.func8, Try.ntmps8
            go_wp2_with fail
            refine (awake_any _).mono ?_
            rintro e w1 ⟨rfl, hw1⟩
            go_wp2_with fail
            have hw2 : Ext w (w1.alloc (.cells #[.int .i64 (n : Int)] 3)) := hw1.alloc hw1.size _
            have hc0 : (w1.alloc (.cells #[.int .i64 (n : Int)] 3)).cell? ⟨w1.heap.size, 0, none⟩ = some (.int .i64 n) := cell_of_one (heap_alloc_new _ _)
            have hg : w1.heap.size < (w1.alloc (.cells #[.int .i64 (n : Int)] 3)).heap.size := by simp
            generalize (w1.alloc (.cells #[.int .i64 (n : Int)] 3)) = w2 at *
            generalize w1.heap.size = gb at *
            have hxs := HXS.out
            go_loopw [10, 11] (fun v iv wr => ∃ k : Nat, iv = .int .i64 k ∧ k ≤ 1 ∧ OwnB wr w2.heap.size 5 v (txt false [n] k) ∧ Ext w2 wr) (fun _ iv _ => 1 - (intOf iv).toNat)
            case atStart => exact ⟨0, rfl, by omega, OwnB.nil _ _ _, ext_refl _⟩
            case round =>
              obtain ⟨k, rfl, hk, hown, hb⟩ := hrel
              have hcr0 : wr.cell? ⟨gb, 0, none⟩ = some (.int .i64 (n : Nat)) := by rw [hb.cell (p := ⟨gb, 0, none⟩) hg]; exact hc0
              have hk2 : k = 0 ∨ k = 1 := by omega
              rcases hk2 with rfl | rfl
              · go_wp2_with fail
                have e1 : (((n : Nat) : Int) / 4096 % 16).toNat = n / 4096 % 16 := by omega
                have e2 : (((n : Nat) : Int) / 256 % 16).toNat = n / 256 % 16 := by omega
                have e3 : (((n : Nat) : Int) / 16 % 16).toNat = n / 16 % 16 := by omega
                have e4 : (((n : Nat) : Int) % 16).toNat = n % 16 := by omega
                have b1 : ((n : Nat) : Int) / 4096 % 16 < 16 := by omega
                have b2 : ((n : Nat) : Int) / 256 % 16 < 16 := by omega
                have b3 : ((n : Nat) : Int) / 16 % 16 < 16 := by omega
                have b4 : ((n : Nat) : Int) % 16 < 16 := by omega
                have q1 : IntKind.i64.wrap (((n : Nat) : Int) / 4096) = ((n : Nat) : Int) / 4096 := IntWalk.i64_in _ (by omega)
                have q2 : IntKind.i64.wrap (((n : Nat) : Int) / 256) = ((n : Nat) : Int) / 256 := IntWalk.i64_in _ (by omega)
                have q3 : IntKind.i64.wrap (((n : Nat) : Int) / 16) = ((n : Nat) : Int) / 16 := IntWalk.i64_in _ (by omega)
                have z1 : (((n : Nat) : Int) / 4096).tmod 16 = ((n : Nat) : Int) / 4096 % 16 := Int.tmod_eq_emod_of_nonneg (by omega)
                have z2 : (((n : Nat) : Int) / 256).tmod 16 = ((n : Nat) : Int) / 256 % 16 := Int.tmod_eq_emod_of_nonneg (by omega)
                have z3 : (((n : Nat) : Int) / 16).tmod 16 = ((n : Nat) : Int) / 16 % 16 := Int.tmod_eq_emod_of_nonneg (by omega)
                have z4 : ((n : Nat) : Int).tmod 16 = ((n : Nat) : Int) % 16 := Int.tmod_eq_emod_of_nonneg (by omega)
                have x1 := lo_at (n / 4096 % 16) (by omega)
                have x2 := lo_at (n / 256 % 16) (by omega)
                have x3 := lo_at (n / 16 % 16) (by omega)
                have x4 := lo_at (n % 16) (by omega)
                refine Grow.wp_region_tail (G := Ext) (B := fun w' => Ext wr w' ∧ True) (anc := fun _ => []) (I := fun j => if j = 20 then some (Grow.Spec.slice 5 5 (.cells #[.int .u8 117, .int .u8 (dg false (n / 4096 % 16)).toNat, .int .u8 (dg false (n / 256 % 16)).toNat, .int .u8 (dg false (n / 16 % 16)).toNat, .int .u8 (dg false (n % 16)).toNat] 5 (0, 0))) else none) 21 (by kernel_rfl) (by kernel_rfl) (by kernel_rfl) ?_ ?_ ?_
                · exact fun w w' h hg => ⟨ext_trans h.1 hg, trivial⟩
                · exact ⟨(ext_refl _).drew, trivial⟩
                simp only [List.take_succ_cons, List.take_zero, List.drop_succ_cons, List.drop_zero]
                repeat
                  (refine Grow.walk_step (fun K hK => ?_)
                   first
                   | (refine Grow.step_read (by rfl) (by rfl) ext_refl ?_
                      apply Exists.intro
                      refine ⟨fun w hB hF => ?_, ?_⟩
                      · obtain ⟨hB1, hB2⟩ := hB
                        go_simp
                        try exact rfl
                      go_simp
                      refine hK _ _ ?_
                      clear hK K)
                   | (refine Grow.step_off (by rfl) ?_
                      go_simp
                      refine hK _ _ ?_
                      clear hK K))
                refine Grow.walk_step (fun K hK => ?_)
                refine Grow.step_rel (by rfl) (by rfl) (fun w hB hF => ?_) (fun v hv => ?_)
                · go_simp
                  exact Grow.relUpon_value ((ext_refl _).alloc (Nat.le_refl _) _) ⟨_, rfl⟩ ⟨_, rfl, by simp, heap_alloc_new _ _⟩
                go_simp
                refine hK _ _ ?_
                clear hK K
                clear hv
                refine Grow.walk_nil ?_
                intro w3 hB hF
                have hF11 := hF 20
                simp only [Grow.upd, Grow.Spec.slice, if_true] at hF11
                obtain ⟨b9, rfl, hb9, hh3⟩ := hF11
                have hext3 : Ext wr w3 := hB.1
                clear hF hB e1 e2 e3 e4 b1 b2 b3 q1 q2 q3 z1 z2 z3 z4 x1 x2 x3 x4
                have hown3 := OwnB.ext hown hext3
                have hby3 := bytes_of_cells hh3 (hx4_cells false n) 5 rfl (by omega)
                have hbase3 : w2.heap.size ≤ w3.heap.size := Nat.le_trans hb.size hext3.size
                have hlen3 := txt_len false [n] 0
                go_wp2_with (at_builtin; refine wpList_append_bytes rfl _ _ rfl w2.heap.size _ _ rfl hown3 _ (hx4 false n) rfl hby3 (by simp only [List.length_append, hx4, List.length_cons, List.length_nil]; omega) hbase3 ?_; intro a7 c7 w7 hown7 hw7)
                go_roundw
                case rel => exact ⟨1, rfl, by omega, by simpa [txt, hx4, List.length_append] using hown7, hb.trans ((hext3.mono hb.size).trans hw7)⟩
                case measure => simp [intOf]
              · have ht : txt false [n] 1 = hx4 false n := rfl
                rw [ht] at hown
                clear ht
                obtain ⟨a10, c10, rfl⟩ := own8_shape hown
                have hlT : (hx4 false n).length = 5 := rfl
                rw [hlT] at hown
                rw [hlT]
                have hxr := hxs.ext (ext_trans hw2 hb)
                have hbz := hb.size
                have hesc := esc_single false n (by omega) HS.out xs
                have HESC := Lib.hid hesc
                clear hesc hlT
                go_wp2_with (at_builtin; refine wpList_append_bytes rfl _ _ rfl w2.heap.size _ _ rfl hown _ xs rfl hxr (by show 5 + xs.length ≤ _; omega) hbz ?_; intro a11 c11 w11 hown11 hw11)
                refine (escape_any _ ((hx4 false n) ++ xs) _ (by have := hown11.bytes (by rw [List.length_append]; show 5 + xs.length ≤ _; omega); simpa [hx4] using this)).mono ?_
                rintro e w12 ⟨rfl, rfl⟩
                rw [HESC.out]
                go_wp2_with fail
                go_ret
                exact ⟨rfl, hw2.trans ((hb.trans hw11).mono hw2.size)⟩
            

          · go_enter Try.func8, Try.ntmps8
            go_wp2_with fail
            refine (awake_any _).mono ?_
            rintro e w1 ⟨rfl, hw1⟩
            go_wp2_with fail
            have hw2 : Ext w (w1.alloc (.cells #[.int .i64 (n : Int)] 3)) := hw1.alloc hw1.size _
            have hc0 : (w1.alloc (.cells #[.int .i64 (n : Int)] 3)).cell? ⟨w1.heap.size, 0, none⟩ = some (.int .i64 n) := cell_of_one (heap_alloc_new _ _)
            have hg : w1.heap.size < (w1.alloc (.cells #[.int .i64 (n : Int)] 3)).heap.size := by simp
            generalize (w1.alloc (.cells #[.int .i64 (n : Int)] 3)) = w2 at *
            generalize w1.heap.size = gb at *
            have hxs := HXS.out
            go_loopw [10, 11] (fun v iv wr => ∃ k : Nat, iv = .int .i64 k ∧ k ≤ 1 ∧ OwnB wr w2.heap.size 5 v (txt true [n] k) ∧ Ext w2 wr) (fun _ iv _ => 1 - (intOf iv).toNat)
            case atStart => exact ⟨0, rfl, by omega, OwnB.nil _ _ _, ext_refl _⟩
            case round =>
              obtain ⟨k, rfl, hk, hown, hb⟩ := hrel
              have hcr0 : wr.cell? ⟨gb, 0, none⟩ = some (.int .i64 (n : Nat)) := by rw [hb.cell (p := ⟨gb, 0, none⟩) hg]; exact hc0
              have hk2 : k = 0 ∨ k = 1 := by omega
              rcases hk2 with rfl | rfl
              · go_wp2_with fail
                have e1 : (((n : Nat) : Int) / 4096 % 16).toNat = n / 4096 % 16 := by omega
                have e2 : (((n : Nat) : Int) / 256 % 16).toNat = n / 256 % 16 := by omega
                have e3 : (((n : Nat) : Int) / 16 % 16).toNat = n / 16 % 16 := by omega
                have e4 : (((n : Nat) : Int) % 16).toNat = n % 16 := by omega
                have b1 : ((n : Nat) : Int) / 4096 % 16 < 16 := by omega
                have b2 : ((n : Nat) : Int) / 256 % 16 < 16 := by omega
                have b3 : ((n : Nat) : Int) / 16 % 16 < 16 := by omega
                have b4 : ((n : Nat) : Int) % 16 < 16 := by omega
                have q1 : IntKind.i64.wrap (((n : Nat) : Int) / 4096) = ((n : Nat) : Int) / 4096 := IntWalk.i64_in _ (by omega)
                have q2 : IntKind.i64.wrap (((n : Nat) : Int) / 256) = ((n : Nat) : Int) / 256 := IntWalk.i64_in _ (by omega)
                have q3 : IntKind.i64.wrap (((n : Nat) : Int) / 16) = ((n : Nat) : Int) / 16 := IntWalk.i64_in _ (by omega)
                have z1 : (((n : Nat) : Int) / 4096).tmod 16 = ((n : Nat) : Int) / 4096 % 16 := Int.tmod_eq_emod_of_nonneg (by omega)
                have z2 : (((n : Nat) : Int) / 256).tmod 16 = ((n : Nat) : Int) / 256 % 16 := Int.tmod_eq_emod_of_nonneg (by omega)
                have z3 : (((n : Nat) : Int) / 16).tmod 16 = ((n : Nat) : Int) / 16 % 16 := Int.tmod_eq_emod_of_nonneg (by omega)
                have z4 : ((n : Nat) : Int).tmod 16 = ((n : Nat) : Int) % 16 := Int.tmod_eq_emod_of_nonneg (by omega)
                have x1 := up_at (n / 4096 % 16) (by omega)
                have x2 := up_at (n / 256 % 16) (by omega)
                have x3 := up_at (n / 16 % 16) (by omega)
                have x4 := up_at (n % 16) (by omega)
                refine Grow.wp_region_tail (G := Ext) (B := fun w' => Ext wr w' ∧ True) (anc := fun _ => []) (I := fun j => if j = 20 then some (Grow.Spec.slice 5 5 (.cells #[.int .u8 117, .int .u8 (dg true (n / 4096 % 16)).toNat, .int .u8 (dg true (n / 256 % 16)).toNat, .int .u8 (dg true (n / 16 % 16)).toNat, .int .u8 (dg true (n % 16)).toNat] 5 (0, 0))) else none) 21 (by kernel_rfl) (by kernel_rfl) (by kernel_rfl) ?_ ?_ ?_
                · exact fun w w' h hg => ⟨ext_trans h.1 hg, trivial⟩
                · exact ⟨(ext_refl _).drew, trivial⟩
                simp only [List.take_succ_cons, List.take_zero, List.drop_succ_cons, List.drop_zero]
                repeat
                  (refine Grow.walk_step (fun K hK => ?_)
                   first
                   | (refine Grow.step_read (by rfl) (by rfl) ext_refl ?_
                      apply Exists.intro
                      refine ⟨fun w hB hF => ?_, ?_⟩
                      · obtain ⟨hB1, hB2⟩ := hB
                        go_simp
                        try exact rfl
                      go_simp
                      refine hK _ _ ?_
                      clear hK K)
                   | (refine Grow.step_off (by rfl) ?_
                      go_simp
                      refine hK _ _ ?_
                      clear hK K))
                refine Grow.walk_step (fun K hK => ?_)
                refine Grow.step_rel (by rfl) (by rfl) (fun w hB hF => ?_) (fun v hv => ?_)
                · go_simp
                  exact Grow.relUpon_value ((ext_refl _).alloc (Nat.le_refl _) _) ⟨_, rfl⟩ ⟨_, rfl, by simp, heap_alloc_new _ _⟩
                go_simp
                refine hK _ _ ?_
                clear hK K
                clear hv
                refine Grow.walk_nil ?_
                intro w3 hB hF
                have hF11 := hF 20
                simp only [Grow.upd, Grow.Spec.slice, if_true] at hF11
                obtain ⟨b9, rfl, hb9, hh3⟩ := hF11
                have hext3 : Ext wr w3 := hB.1
                clear hF hB e1 e2 e3 e4 b1 b2 b3 q1 q2 q3 z1 z2 z3 z4 x1 x2 x3 x4
                have hown3 := OwnB.ext hown hext3
                have hby3 := bytes_of_cells hh3 (hx4_cells true n) 5 rfl (by omega)
                have hbase3 : w2.heap.size ≤ w3.heap.size := Nat.le_trans hb.size hext3.size
                have hlen3 := txt_len true [n] 0
                go_wp2_with (at_builtin; refine wpList_append_bytes rfl _ _ rfl w2.heap.size _ _ rfl hown3 _ (hx4 true n) rfl hby3 (by simp only [List.length_append, hx4, List.length_cons, List.length_nil]; omega) hbase3 ?_; intro a7 c7 w7 hown7 hw7)
                go_roundw
                case rel => exact ⟨1, rfl, by omega, by simpa [txt, hx4, List.length_append] using hown7, hb.trans ((hext3.mono hb.size).trans hw7)⟩
                case measure => simp [intOf]
              · have ht : txt true [n] 1 = hx4 true n := rfl
                rw [ht] at hown
                clear ht
                obtain ⟨a10, c10, rfl⟩ := own8_shape hown
                have hlT : (hx4 true n).length = 5 := rfl
                rw [hlT] at hown
                rw [hlT]
                have hxr := hxs.ext (ext_trans hw2 hb)
                have hbz := hb.size
                have hesc := esc_single true n (by omega) HS.out xs
                have HESC := Lib.hid hesc
                clear hesc hlT
                go_wp2_with (at_builtin; refine wpList_append_bytes rfl _ _ rfl w2.heap.size _ _ rfl hown _ xs rfl hxr (by show 5 + xs.length ≤ _; omega) hbz ?_; intro a11 c11 w11 hown11 hw11)
                refine (escape_any _ ((hx4 true n) ++ xs) _ (by have := hown11.bytes (by rw [List.length_append]; show 5 + xs.length ≤ _; omega); simpa [hx4] using this)).mono ?_
                rintro e w12 ⟨rfl, rfl⟩
                rw [HESC.out]
                go_wp2_with fail
                go_ret
                exact ⟨rfl, hw2.trans ((hb.trans hw11).mono hw2.size)⟩
            

        · by_cases hB : (n : Int) < 57344
          · have hd3 : decide (55296 ≤ (n : Int)) = true := by simp; omega
            have hd4 : decide ((n : Int) < 57344) = true := by simp; omega
            go_enter Try.func8, Try.ntmps8
            go_wp2_with fail
            refine (awake_any _).mono ?_
            rintro e w1 ⟨rfl, hw1⟩
            go_wp2_with fail
            go_ret
            exact ⟨rfl, hw1⟩
          · have hd3 : decide (55296 ≤ (n : Int)) = true := by simp; omega
            have hd4 : decide ((n : Int) < 57344) = false := by simp; omega
            by_cases hC : (n : Int) ≤ 65535
            · have hd5 : decide (65535 < (n : Int)) = false := by simp; omega
              have hs : sound (n : Int) = true := by rw [sound_iff]; omega
              have HS := Lib.hid hs
              clear hs
              cases great
              · go_enter Try.func8, Try.ntmps8
                go_wp2_with fail
                refine (awake_any _).mono ?_
                rintro e w1 ⟨rfl, hw1⟩
                go_wp2_with fail
                have hw2 : Ext w (w1.alloc (.cells #[.int .i64 (n : Int)] 3)) := hw1.alloc hw1.size _
                have hc0 : (w1.alloc (.cells #[.int .i64 (n : Int)] 3)).cell? ⟨w1.heap.size, 0, none⟩ = some (.int .i64 n) := cell_of_one (heap_alloc_new _ _)
                have hg : w1.heap.size < (w1.alloc (.cells #[.int .i64 (n : Int)] 3)).heap.size := by simp
                generalize (w1.alloc (.cells #[.int .i64 (n : Int)] 3)) = w2 at *
                generalize w1.heap.size = gb at *
                have hxs := HXS.out
                go_loopw [10, 11] (fun v iv wr => ∃ k : Nat, iv = .int .i64 k ∧ k ≤ 1 ∧ OwnB wr w2.heap.size 5 v (txt false [n] k) ∧ Ext w2 wr) (fun _ iv _ => 1 - (intOf iv).toNat)
                case atStart => exact ⟨0, rfl, by omega, OwnB.nil _ _ _, ext_refl _⟩
                case round =>
                  obtain ⟨k, rfl, hk, hown, hb⟩ := hrel
                  have hcr0 : wr.cell? ⟨gb, 0, none⟩ = some (.int .i64 (n : Nat)) := by rw [hb.cell (p := ⟨gb, 0, none⟩) hg]; exact hc0
                  have hk2 : k = 0 ∨ k = 1 := by omega
                  rcases hk2 with rfl | rfl
                  · go_wp2_with fail
                    have e1 : (((n : Nat) : Int) / 4096 % 16).toNat = n / 4096 % 16 := by omega
                    have e2 : (((n : Nat) : Int) / 256 % 16).toNat = n / 256 % 16 := by omega
                    have e3 : (((n : Nat) : Int) / 16 % 16).toNat = n / 16 % 16 := by omega
                    have e4 : (((n : Nat) : Int) % 16).toNat = n % 16 := by omega
                    have b1 : ((n : Nat) : Int) / 4096 % 16 < 16 := by omega
                    have b2 : ((n : Nat) : Int) / 256 % 16 < 16 := by omega
                    have b3 : ((n : Nat) : Int) / 16 % 16 < 16 := by omega
                    have b4 : ((n : Nat) : Int) % 16 < 16 := by omega
                    have q1 : IntKind.i64.wrap (((n : Nat) : Int) / 4096) = ((n : Nat) : Int) / 4096 := IntWalk.i64_in _ (by omega)
                    have q2 : IntKind.i64.wrap (((n : Nat) : Int) / 256) = ((n : Nat) : Int) / 256 := IntWalk.i64_in _ (by omega)
                    have q3 : IntKind.i64.wrap (((n : Nat) : Int) / 16) = ((n : Nat) : Int) / 16 := IntWalk.i64_in _ (by omega)
                    have z1 : (((n : Nat) : Int) / 4096).tmod 16 = ((n : Nat) : Int) / 4096 % 16 := Int.tmod_eq_emod_of_nonneg (by omega)
                    have z2 : (((n : Nat) : Int) / 256).tmod 16 = ((n : Nat) : Int) / 256 % 16 := Int.tmod_eq_emod_of_nonneg (by omega)
                    have z3 : (((n : Nat) : Int) / 16).tmod 16 = ((n : Nat) : Int) / 16 % 16 := Int.tmod_eq_emod_of_nonneg (by omega)
                    have z4 : ((n : Nat) : Int).tmod 16 = ((n : Nat) : Int) % 16 := Int.tmod_eq_emod_of_nonneg (by omega)
                    have x1 := lo_at (n / 4096 % 16) (by omega)
                    have x2 := lo_at (n / 256 % 16) (by omega)
                    have x3 := lo_at (n / 16 % 16) (by omega)
                    have x4 := lo_at (n % 16) (by omega)
                    refine Grow.wp_region_tail (G := Ext) (B := fun w' => Ext wr w' ∧ True) (anc := fun _ => []) (I := fun j => if j = 20 then some (Grow.Spec.slice 5 5 (.cells #[.int .u8 117, .int .u8 (dg false (n / 4096 % 16)).toNat, .int .u8 (dg false (n / 256 % 16)).toNat, .int .u8 (dg false (n / 16 % 16)).toNat, .int .u8 (dg false (n % 16)).toNat] 5 (0, 0))) else none) 21 (by kernel_rfl) (by kernel_rfl) (by kernel_rfl) ?_ ?_ ?_
                    · exact fun w w' h hg => ⟨ext_trans h.1 hg, trivial⟩
                    · exact ⟨(ext_refl _).drew, trivial⟩
                    simp only [List.take_succ_cons, List.take_zero, List.drop_succ_cons, List.drop_zero]
                    repeat
                      (refine Grow.walk_step (fun K hK => ?_)
                       first
                       | (refine Grow.step_read (by rfl) (by rfl) ext_refl ?_
                          apply Exists.intro
                          refine ⟨fun w hB hF => ?_, ?_⟩
                          · obtain ⟨hB1, hB2⟩ := hB
                            go_simp
                            try exact rfl
                          go_simp
                          refine hK _ _ ?_
                          clear hK K)
                       | (refine Grow.step_off (by rfl) ?_
                          go_simp
                          refine hK _ _ ?_
                          clear hK K))
                    refine Grow.walk_step (fun K hK => ?_)
                    refine Grow.step_rel (by rfl) (by rfl) (fun w hB hF => ?_) (fun v hv => ?_)
                    · go_simp
                      exact Grow.relUpon_value ((ext_refl _).alloc (Nat.le_refl _) _) ⟨_, rfl⟩ ⟨_, rfl, by simp, heap_alloc_new _ _⟩
                    go_simp
                    refine hK _ _ ?_
                    clear hK K
                    clear hv
                    refine Grow.walk_nil ?_
                    intro w3 hB hF
                    have hF11 := hF 20
                    simp only [Grow.upd, Grow.Spec.slice, if_true] at hF11
                    obtain ⟨b9, rfl, hb9, hh3⟩ := hF11
                    have hext3 : Ext wr w3 := hB.1
                    clear hF hB e1 e2 e3 e4 b1 b2 b3 q1 q2 q3 z1 z2 z3 z4 x1 x2 x3 x4
                    have hown3 := OwnB.ext hown hext3
                    have hby3 := bytes_of_cells hh3 (hx4_cells false n) 5 rfl (by omega)
                    have hbase3 : w2.heap.size ≤ w3.heap.size := Nat.le_trans hb.size hext3.size
                    have hlen3 := txt_len false [n] 0
                    go_wp2_with (at_builtin; refine wpList_append_bytes rfl _ _ rfl w2.heap.size _ _ rfl hown3 _ (hx4 false n) rfl hby3 (by simp only [List.length_append, hx4, List.length_cons, List.length_nil]; omega) hbase3 ?_; intro a7 c7 w7 hown7 hw7)
                    go_roundw
                    case rel => exact ⟨1, rfl, by omega, by simpa [txt, hx4, List.length_append] using hown7, hb.trans ((hext3.mono hb.size).trans hw7)⟩
                    case measure => simp [intOf]
                  · have ht : txt false [n] 1 = hx4 false n := rfl
                    rw [ht] at hown
                    clear ht
                    obtain ⟨a10, c10, rfl⟩ := own8_shape hown
                    have hlT : (hx4 false n).length = 5 := rfl
                    rw [hlT] at hown
                    rw [hlT]
                    have hxr := hxs.ext (ext_trans hw2 hb)
                    have hbz := hb.size
                    have hesc := esc_single false n (by omega) HS.out xs
                    have HESC := Lib.hid hesc
                    clear hesc hlT
                    go_wp2_with (at_builtin; refine wpList_append_bytes rfl _ _ rfl w2.heap.size _ _ rfl hown _ xs rfl hxr (by show 5 + xs.length ≤ _; omega) hbz ?_; intro a11 c11 w11 hown11 hw11)
                    refine (escape_any _ ((hx4 false n) ++ xs) _ (by have := hown11.bytes (by rw [List.length_append]; show 5 + xs.length ≤ _; omega); simpa [hx4] using this)).mono ?_
                    rintro e w12 ⟨rfl, rfl⟩
                    rw [HESC.out]
                    go_wp2_with fail
                    go_ret
                    exact ⟨rfl, hw2.trans ((hb.trans hw11).mono hw2.size)⟩
                

              · go_enter Try.func8, Try.ntmps8
                go_wp2_with fail
                refine (awake_any _).mono ?_
                rintro e w1 ⟨rfl, hw1⟩
                go_wp2_with fail
                have hw2 : Ext w (w1.alloc (.cells #[.int .i64 (n : Int)] 3)) := hw1.alloc hw1.size _
                have hc0 : (w1.alloc (.cells #[.int .i64 (n : Int)] 3)).cell? ⟨w1.heap.size, 0, none⟩ = some (.int .i64 n) := cell_of_one (heap_alloc_new _ _)
                have hg : w1.heap.size < (w1.alloc (.cells #[.int .i64 (n : Int)] 3)).heap.size := by simp
                generalize (w1.alloc (.cells #[.int .i64 (n : Int)] 3)) = w2 at *
                generalize w1.heap.size = gb at *
                have hxs := HXS.out
                go_loopw [10, 11] (fun v iv wr => ∃ k : Nat, iv = .int .i64 k ∧ k ≤ 1 ∧ OwnB wr w2.heap.size 5 v (txt true [n] k) ∧ Ext w2 wr) (fun _ iv _ => 1 - (intOf iv).toNat)
                case atStart => exact ⟨0, rfl, by omega, OwnB.nil _ _ _, ext_refl _⟩
                case round =>
                  obtain ⟨k, rfl, hk, hown, hb⟩ := hrel
                  have hcr0 : wr.cell? ⟨gb, 0, none⟩ = some (.int .i64 (n : Nat)) := by rw [hb.cell (p := ⟨gb, 0, none⟩) hg]; exact hc0
                  have hk2 : k = 0 ∨ k = 1 := by omega
                  rcases hk2 with rfl | rfl
                  · go_wp2_with fail
                    have e1 : (((n : Nat) : Int) / 4096 % 16).toNat = n / 4096 % 16 := by omega
                    have e2 : (((n : Nat) : Int) / 256 % 16).toNat = n / 256 % 16 := by omega
                    have e3 : (((n : Nat) : Int) / 16 % 16).toNat = n / 16 % 16 := by omega
                    have e4 : (((n : Nat) : Int) % 16).toNat = n % 16 := by omega
                    have b1 : ((n : Nat) : Int) / 4096 % 16 < 16 := by omega
                    have b2 : ((n : Nat) : Int) / 256 % 16 < 16 := by omega
                    have b3 : ((n : Nat) : Int) / 16 % 16 < 16 := by omega
                    have b4 : ((n : Nat) : Int) % 16 < 16 := by omega
                    have q1 : IntKind.i64.wrap (((n : Nat) : Int) / 4096) = ((n : Nat) : Int) / 4096 := IntWalk.i64_in _ (by omega)
                    have q2 : IntKind.i64.wrap (((n : Nat) : Int) / 256) = ((n : Nat) : Int) / 256 := IntWalk.i64_in _ (by omega)
                    have q3 : IntKind.i64.wrap (((n : Nat) : Int) / 16) = ((n : Nat) : Int) / 16 := IntWalk.i64_in _ (by omega)
                    have z1 : (((n : Nat) : Int) / 4096).tmod 16 = ((n : Nat) : Int) / 4096 % 16 := Int.tmod_eq_emod_of_nonneg (by omega)
                    have z2 : (((n : Nat) : Int) / 256).tmod 16 = ((n : Nat) : Int) / 256 % 16 := Int.tmod_eq_emod_of_nonneg (by omega)
                    have z3 : (((n : Nat) : Int) / 16).tmod 16 = ((n : Nat) : Int) / 16 % 16 := Int.tmod_eq_emod_of_nonneg (by omega)
                    have z4 : ((n : Nat) : Int).tmod 16 = ((n : Nat) : Int) % 16 := Int.tmod_eq_emod_of_nonneg (by omega)
                    have x1 := up_at (n / 4096 % 16) (by omega)
                    have x2 := up_at (n / 256 % 16) (by omega)
                    have x3 := up_at (n / 16 % 16) (by omega)
                    have x4 := up_at (n % 16) (by omega)
                    refine Grow.wp_region_tail (G := Ext) (B := fun w' => Ext wr w' ∧ True) (anc := fun _ => []) (I := fun j => if j = 20 then some (Grow.Spec.slice 5 5 (.cells #[.int .u8 117, .int .u8 (dg true (n / 4096 % 16)).toNat, .int .u8 (dg true (n / 256 % 16)).toNat, .int .u8 (dg true (n / 16 % 16)).toNat, .int .u8 (dg true (n % 16)).toNat] 5 (0, 0))) else none) 21 (by kernel_rfl) (by kernel_rfl) (by kernel_rfl) ?_ ?_ ?_
                    · exact fun w w' h hg => ⟨ext_trans h.1 hg, trivial⟩
                    · exact ⟨(ext_refl _).drew, trivial⟩
                    simp only [List.take_succ_cons, List.take_zero, List.drop_succ_cons, List.drop_zero]
                    repeat
                      (refine Grow.walk_step (fun K hK => ?_)
                       first
                       | (refine Grow.step_read (by rfl) (by rfl) ext_refl ?_
                          apply Exists.intro
                          refine ⟨fun w hB hF => ?_, ?_⟩
                          · obtain ⟨hB1, hB2⟩ := hB
                            go_simp
                            try exact rfl
                          go_simp
                          refine hK _ _ ?_
                          clear hK K)
                       | (refine Grow.step_off (by rfl) ?_
                          go_simp
                          refine hK _ _ ?_
                          clear hK K))
                    refine Grow.walk_step (fun K hK => ?_)
                    refine Grow.step_rel (by rfl) (by rfl) (fun w hB hF => ?_) (fun v hv => ?_)
                    · go_simp
                      exact Grow.relUpon_value ((ext_refl _).alloc (Nat.le_refl _) _) ⟨_, rfl⟩ ⟨_, rfl, by simp, heap_alloc_new _ _⟩
                    go_simp
                    refine hK _ _ ?_
                    clear hK K
                    clear hv
                    refine Grow.walk_nil ?_
                    intro w3 hB hF
                    have hF11 := hF 20
                    simp only [Grow.upd, Grow.Spec.slice, if_true] at hF11
                    obtain ⟨b9, rfl, hb9, hh3⟩ := hF11
                    have hext3 : Ext wr w3 := hB.1
                    clear hF hB e1 e2 e3 e4 b1 b2 b3 q1 q2 q3 z1 z2 z3 z4 x1 x2 x3 x4
                    have hown3 := OwnB.ext hown hext3
                    have hby3 := bytes_of_cells hh3 (hx4_cells true n) 5 rfl (by omega)
                    have hbase3 : w2.heap.size ≤ w3.heap.size := Nat.le_trans hb.size hext3.size
                    have hlen3 := txt_len true [n] 0
                    go_wp2_with (at_builtin; refine wpList_append_bytes rfl _ _ rfl w2.heap.size _ _ rfl hown3 _ (hx4 true n) rfl hby3 (by simp only [List.length_append, hx4, List.length_cons, List.length_nil]; omega) hbase3 ?_; intro a7 c7 w7 hown7 hw7)
                    go_roundw
                    case rel => exact ⟨1, rfl, by omega, by simpa [txt, hx4, List.length_append] using hown7, hb.trans ((hext3.mono hb.size).trans hw7)⟩
                    case measure => simp [intOf]
                  · have ht : txt true [n] 1 = hx4 true n := rfl
                    rw [ht] at hown
                    clear ht
                    obtain ⟨a10, c10, rfl⟩ := own8_shape hown
                    have hlT : (hx4 true n).length = 5 := rfl
                    rw [hlT] at hown
                    rw [hlT]
                    have hxr := hxs.ext (ext_trans hw2 hb)
                    have hbz := hb.size
                    have hesc := esc_single true n (by omega) HS.out xs
                    have HESC := Lib.hid hesc
                    clear hesc hlT
                    go_wp2_with (at_builtin; refine wpList_append_bytes rfl _ _ rfl w2.heap.size _ _ rfl hown _ xs rfl hxr (by show 5 + xs.length ≤ _; omega) hbz ?_; intro a11 c11 w11 hown11 hw11)
                    refine (escape_any _ ((hx4 true n) ++ xs) _ (by have := hown11.bytes (by rw [List.length_append]; show 5 + xs.length ≤ _; omega); simpa [hx4] using this)).mono ?_
                    rintro e w12 ⟨rfl, rfl⟩
                    rw [HESC.out]
                    go_wp2_with fail
                    go_ret
                    exact ⟨rfl, hw2.trans ((hb.trans hw11).mono hw2.size)⟩
                

            · have hd5 : decide (65535 < (n : Int)) = true := by simp; omega
              obtain ⟨p, hp⟩ : ∃ p : Nat, 55296 + ((n : Int) - 65536) / 1024 = p := ⟨(55296 + ((n : Int) - 65536) / 1024).toNat, by omega⟩
              obtain ⟨q, hq⟩ : ∃ q : Nat, 56320 + ((n : Int) - 65536) % 1024 = q := ⟨(56320 + ((n : Int) - 65536) % 1024).toNat, by omega⟩
              have hp1 : 55296 ≤ p ∧ p ≤ 56319 := by omega
              have hq1 : 56320 ≤ q ∧ q ≤ 57343 := by omega
              have hpq : (65536 : Int) + ((p : Int) - 55296) * 1024 + q - 56320 = n := by omega
              have HP := Lib.hid hp1
              have HQ := Lib.hid hq1
              have HPQ := Lib.hid hpq
              have hpb : p < 65536 := by omega
              have hqb : q < 65536 := by omega
              clear hp1 hq1 hpq
              cases great
              · go_enter Try.func8, Try.ntmps8
                go_wp2_with fail
                refine (awake_any _).mono ?_
                rintro e w1 ⟨rfl, hw1⟩
                go_wp2_with fail
                have hw2 : Ext w ((w1.alloc (.cells #[.int .i64 (n : Int)] 3)).alloc (.cells #[.int .i64 (p : Int), .int .i64 (q : Int)] 3)) := (hw1.alloc hw1.size _).alloc (by have := hw1.size; simp; omega) _
                have hc0 : ((w1.alloc (.cells #[.int .i64 (n : Int)] 3)).alloc (.cells #[.int .i64 (p : Int), .int .i64 (q : Int)] 3)).cell? ⟨(w1.alloc (.cells #[.int .i64 (n : Int)] 3)).heap.size, 0, none⟩ = some (.int .i64 (p : Int)) := by rw [cell_of_cells (heap_alloc_new _ _)]; rfl
                have hc1 : ((w1.alloc (.cells #[.int .i64 (n : Int)] 3)).alloc (.cells #[.int .i64 (p : Int), .int .i64 (q : Int)] 3)).cell? ⟨(w1.alloc (.cells #[.int .i64 (n : Int)] 3)).heap.size, 1, none⟩ = some (.int .i64 (q : Int)) := by rw [cell_of_cells (heap_alloc_new _ _)]; rfl
                have hg : (w1.alloc (.cells #[.int .i64 (n : Int)] 3)).heap.size < ((w1.alloc (.cells #[.int .i64 (n : Int)] 3)).alloc (.cells #[.int .i64 (p : Int), .int .i64 (q : Int)] 3)).heap.size := by simp
                have hsz1 : (w1.alloc (.cells #[.int .i64 (n : Int)] 3)).heap.size = w1.heap.size + 1 := by simp
                rw [hsz1] at hc0 hc1 hg
                generalize ((w1.alloc (.cells #[.int .i64 (n : Int)] 3)).alloc (.cells #[.int .i64 (p : Int), .int .i64 (q : Int)] 3)) = w2 at *
                generalize w1.heap.size + 1 = gb at *
                clear hp hq
                have hxs := HXS.out
                go_loopw [10, 11] (fun v iv wr => ∃ k : Nat, iv = .int .i64 k ∧ k ≤ 2 ∧ OwnB wr w2.heap.size 5 v (txt false [p, q] k) ∧ Ext w2 wr) (fun _ iv _ => 2 - (intOf iv).toNat)
                case atStart => exact ⟨0, rfl, by omega, OwnB.nil _ _ _, ext_refl _⟩
                case round =>
                  obtain ⟨k, rfl, hk, hown, hb⟩ := hrel
                  have hcr0 : wr.cell? ⟨gb, 0, none⟩ = some (.int .i64 (p : Nat)) := by rw [hb.cell (p := ⟨gb, 0, none⟩) hg]; exact hc0
                  have hcr1 : wr.cell? ⟨gb, 1, none⟩ = some (.int .i64 (q : Nat)) := by rw [hb.cell (p := ⟨gb, 1, none⟩) hg]; exact hc1
                  have hk2 : k = 0 ∨ k = 1 ∨ k = 2 := by omega
                  rcases hk2 with rfl | rfl | rfl
                  · go_wp2_with fail
                    have e1 : (((p : Nat) : Int) / 4096 % 16).toNat = p / 4096 % 16 := by omega
                    have e2 : (((p : Nat) : Int) / 256 % 16).toNat = p / 256 % 16 := by omega
                    have e3 : (((p : Nat) : Int) / 16 % 16).toNat = p / 16 % 16 := by omega
                    have e4 : (((p : Nat) : Int) % 16).toNat = p % 16 := by omega
                    have b1 : ((p : Nat) : Int) / 4096 % 16 < 16 := by omega
                    have b2 : ((p : Nat) : Int) / 256 % 16 < 16 := by omega
                    have b3 : ((p : Nat) : Int) / 16 % 16 < 16 := by omega
                    have b4 : ((p : Nat) : Int) % 16 < 16 := by omega
                    have q1 : IntKind.i64.wrap (((p : Nat) : Int) / 4096) = ((p : Nat) : Int) / 4096 := IntWalk.i64_in _ (by omega)
                    have q2 : IntKind.i64.wrap (((p : Nat) : Int) / 256) = ((p : Nat) : Int) / 256 := IntWalk.i64_in _ (by omega)
                    have q3 : IntKind.i64.wrap (((p : Nat) : Int) / 16) = ((p : Nat) : Int) / 16 := IntWalk.i64_in _ (by omega)
                    have z1 : (((p : Nat) : Int) / 4096).tmod 16 = ((p : Nat) : Int) / 4096 % 16 := Int.tmod_eq_emod_of_nonneg (by omega)
                    have z2 : (((p : Nat) : Int) / 256).tmod 16 = ((p : Nat) : Int) / 256 % 16 := Int.tmod_eq_emod_of_nonneg (by omega)
                    have z3 : (((p : Nat) : Int) / 16).tmod 16 = ((p : Nat) : Int) / 16 % 16 := Int.tmod_eq_emod_of_nonneg (by omega)
                    have z4 : ((p : Nat) : Int).tmod 16 = ((p : Nat) : Int) % 16 := Int.tmod_eq_emod_of_nonneg (by omega)
                    have x1 := lo_at (p / 4096 % 16) (by omega)
                    have x2 := lo_at (p / 256 % 16) (by omega)
                    have x3 := lo_at (p / 16 % 16) (by omega)
                    have x4 := lo_at (p % 16) (by omega)
                    refine Grow.wp_region_tail (G := Ext) (B := fun w' => Ext wr w' ∧ True) (anc := fun _ => []) (I := fun j => if j = 20 then some (Grow.Spec.slice 5 5 (.cells #[.int .u8 117, .int .u8 (dg false (p / 4096 % 16)).toNat, .int .u8 (dg false (p / 256 % 16)).toNat, .int .u8 (dg false (p / 16 % 16)).toNat, .int .u8 (dg false (p % 16)).toNat] 5 (0, 0))) else none) 21 (by kernel_rfl) (by kernel_rfl) (by kernel_rfl) ?_ ?_ ?_
                    · exact fun w w' h hg => ⟨ext_trans h.1 hg, trivial⟩
                    · exact ⟨(ext_refl _).drew, trivial⟩
                    simp only [List.take_succ_cons, List.take_zero, List.drop_succ_cons, List.drop_zero]
                    repeat
                      (refine Grow.walk_step (fun K hK => ?_)
                       first
                       | (refine Grow.step_read (by rfl) (by rfl) ext_refl ?_
                          apply Exists.intro
                          refine ⟨fun w hB hF => ?_, ?_⟩
                          · obtain ⟨hB1, hB2⟩ := hB
                            go_simp
                            try exact rfl
                          go_simp
                          refine hK _ _ ?_
                          clear hK K)
                       | (refine Grow.step_off (by rfl) ?_
                          go_simp
                          refine hK _ _ ?_
                          clear hK K))
                    refine Grow.walk_step (fun K hK => ?_)
                    refine Grow.step_rel (by rfl) (by rfl) (fun w hB hF => ?_) (fun v hv => ?_)
                    · go_simp
                      exact Grow.relUpon_value ((ext_refl _).alloc (Nat.le_refl _) _) ⟨_, rfl⟩ ⟨_, rfl, by simp, heap_alloc_new _ _⟩
                    go_simp
                    refine hK _ _ ?_
                    clear hK K
                    clear hv
                    refine Grow.walk_nil ?_
                    intro w3 hB hF
                    have hF11 := hF 20
                    simp only [Grow.upd, Grow.Spec.slice, if_true] at hF11
                    obtain ⟨b9, rfl, hb9, hh3⟩ := hF11
                    have hext3 : Ext wr w3 := hB.1
                    clear hF hB e1 e2 e3 e4 b1 b2 b3 q1 q2 q3 z1 z2 z3 z4 x1 x2 x3 x4
                    have hown3 := OwnB.ext hown hext3
                    have hby3 := bytes_of_cells hh3 (hx4_cells false p) 5 rfl (by omega)
                    have hbase3 : w2.heap.size ≤ w3.heap.size := Nat.le_trans hb.size hext3.size
                    have hlen3 := txt_len false [p, q] 0
                    go_wp2_with (at_builtin; refine wpList_append_bytes rfl _ _ rfl w2.heap.size _ _ rfl hown3 _ (hx4 false p) rfl hby3 (by simp only [List.length_append, hx4, List.length_cons, List.length_nil]; omega) hbase3 ?_; intro a7 c7 w7 hown7 hw7)
                    go_roundw
                    case rel => exact ⟨1, rfl, by omega, by simpa [txt, hx4, List.length_append] using hown7, hb.trans ((hext3.mono hb.size).trans hw7)⟩
                    case measure => simp [intOf]
                  · have hbc := bytes_new wr #[.int .u8 92] 5 [92] rfl 1 rfl (by omega)
                    have hownA := OwnB.ext hown ((ext_refl wr).alloc (Nat.le_refl _) (.cells #[.int .u8 92] 5))
                    have hlA := txt_len false [p, q] 1
                    have hsA : w2.heap.size ≤ (wr.alloc (.cells #[.int .u8 92] 5)).heap.size := by have := hb.size; simp; omega
                    have hrs := hb.size
                    go_wp2_with (at_builtin; refine wpList_append_bytes rfl _ _ rfl w2.heap.size _ _ rfl hownA _ [92] rfl hbc (by simp only [List.length_cons, List.length_nil]; omega) hsA ?_; intro a8 c8 w8 hown8 hw8; have hE8 : Below w2.heap.size wr w8 := ((Below.refl w2.heap.size wr).alloc hrs _).trans hw8; have hcr8 : w8.cell? ⟨gb, 1, none⟩ = some (.int .i64 (q : Nat)) := (by rw [hE8.cell (p := ⟨gb, 1, none⟩) hg]; exact hcr1); clear hcr1 hcr0)
                    have hs8 : w2.heap.size ≤ w8.heap.size := Nat.le_trans hrs hE8.size
                    have e1 : (((q : Nat) : Int) / 4096 % 16).toNat = q / 4096 % 16 := by omega
                    have e2 : (((q : Nat) : Int) / 256 % 16).toNat = q / 256 % 16 := by omega
                    have e3 : (((q : Nat) : Int) / 16 % 16).toNat = q / 16 % 16 := by omega
                    have e4 : (((q : Nat) : Int) % 16).toNat = q % 16 := by omega
                    have b1 : ((q : Nat) : Int) / 4096 % 16 < 16 := by omega
                    have b2 : ((q : Nat) : Int) / 256 % 16 < 16 := by omega
                    have b3 : ((q : Nat) : Int) / 16 % 16 < 16 := by omega
                    have b4 : ((q : Nat) : Int) % 16 < 16 := by omega
                    have q1 : IntKind.i64.wrap (((q : Nat) : Int) / 4096) = ((q : Nat) : Int) / 4096 := IntWalk.i64_in _ (by omega)
                    have q2 : IntKind.i64.wrap (((q : Nat) : Int) / 256) = ((q : Nat) : Int) / 256 := IntWalk.i64_in _ (by omega)
                    have q3 : IntKind.i64.wrap (((q : Nat) : Int) / 16) = ((q : Nat) : Int) / 16 := IntWalk.i64_in _ (by omega)
                    have z1 : (((q : Nat) : Int) / 4096).tmod 16 = ((q : Nat) : Int) / 4096 % 16 := Int.tmod_eq_emod_of_nonneg (by omega)
                    have z2 : (((q : Nat) : Int) / 256).tmod 16 = ((q : Nat) : Int) / 256 % 16 := Int.tmod_eq_emod_of_nonneg (by omega)
                    have z3 : (((q : Nat) : Int) / 16).tmod 16 = ((q : Nat) : Int) / 16 % 16 := Int.tmod_eq_emod_of_nonneg (by omega)
                    have z4 : ((q : Nat) : Int).tmod 16 = ((q : Nat) : Int) % 16 := Int.tmod_eq_emod_of_nonneg (by omega)
                    have x1 := lo_at (q / 4096 % 16) (by omega)
                    have x2 := lo_at (q / 256 % 16) (by omega)
                    have x3 := lo_at (q / 16 % 16) (by omega)
                    have x4 := lo_at (q % 16) (by omega)
                    refine Grow.wp_region_tail (G := Ext) (B := fun w' => Ext w8 w' ∧ True) (anc := fun _ => []) (I := fun j => if j = 20 then some (Grow.Spec.slice 5 5 (.cells #[.int .u8 117, .int .u8 (dg false (q / 4096 % 16)).toNat, .int .u8 (dg false (q / 256 % 16)).toNat, .int .u8 (dg false (q / 16 % 16)).toNat, .int .u8 (dg false (q % 16)).toNat] 5 (0, 0))) else none) 21 (by kernel_rfl) (by kernel_rfl) (by kernel_rfl) ?_ ?_ ?_
                    · exact fun w w' h hg => ⟨ext_trans h.1 hg, trivial⟩
                    · exact ⟨(ext_refl _).drew, trivial⟩
                    simp only [List.take_succ_cons, List.take_zero, List.drop_succ_cons, List.drop_zero]
                    repeat
                      (refine Grow.walk_step (fun K hK => ?_)
                       first
                       | (refine Grow.step_read (by rfl) (by rfl) ext_refl ?_
                          apply Exists.intro
                          refine ⟨fun w hB hF => ?_, ?_⟩
                          · obtain ⟨hB1, hB2⟩ := hB
                            go_simp
                            try exact rfl
                          go_simp
                          refine hK _ _ ?_
                          clear hK K)
                       | (refine Grow.step_off (by rfl) ?_
                          go_simp
                          refine hK _ _ ?_
                          clear hK K))
                    refine Grow.walk_step (fun K hK => ?_)
                    refine Grow.step_rel (by rfl) (by rfl) (fun w hB hF => ?_) (fun v hv => ?_)
                    · go_simp
                      exact Grow.relUpon_value ((ext_refl _).alloc (Nat.le_refl _) _) ⟨_, rfl⟩ ⟨_, rfl, by simp, heap_alloc_new _ _⟩
                    go_simp
                    refine hK _ _ ?_
                    clear hK K
                    clear hv
                    refine Grow.walk_nil ?_
                    intro w3 hB hF
                    have hF11 := hF 20
                    simp only [Grow.upd, Grow.Spec.slice, if_true] at hF11
                    obtain ⟨b9, rfl, hb9, hh3⟩ := hF11
                    have hext3 : Ext w8 w3 := hB.1
                    clear hF hB e1 e2 e3 e4 b1 b2 b3 q1 q2 q3 z1 z2 z3 z4 x1 x2 x3 x4
                    have hown3 := OwnB.ext hown8 hext3
                    have hby3 := bytes_of_cells hh3 (hx4_cells false q) 5 rfl (by omega)
                    have hbase3 : w2.heap.size ≤ w3.heap.size := Nat.le_trans hs8 hext3.size
                    have hlen3 := txt_len false [p, q] 1
                    go_wp2_with (at_builtin; refine wpList_append_bytes rfl _ _ rfl w2.heap.size _ _ rfl hown3 _ (hx4 false q) rfl hby3 (by simp only [List.length_append, hx4, List.length_cons, List.length_nil]; omega) hbase3 ?_; intro a7 c7 w7 hown7 hw7)
                    go_roundw
                    case rel => exact ⟨2, rfl, by omega, by simpa [txt, hx4, List.length_append] using hown7, hb.trans (hE8.trans ((hext3.mono hs8).trans hw7))⟩
                    case measure => simp [intOf]
                  · have ht : txt false [p, q] 2 = hx4 false p ++ [92] ++ hx4 false q := rfl
                    rw [ht] at hown
                    clear ht
                    obtain ⟨a10, c10, rfl⟩ := own8_shape hown
                    have hlT : (hx4 false p ++ [92] ++ hx4 false q).length = 11 := rfl
                    rw [hlT] at hown
                    rw [hlT]
                    have hxr := hxs.ext (ext_trans hw2 hb)
                    have hbz := hb.size
                    have hesc := pair_esc false p q n HP.out HQ.out HPQ.out xs
                    have HESC := Lib.hid hesc
                    clear hesc hlT
                    go_wp2_with (at_builtin; refine wpList_append_bytes rfl _ _ rfl w2.heap.size _ _ rfl hown _ xs rfl hxr (by show 11 + xs.length ≤ _; omega) hbz ?_; intro a11 c11 w11 hown11 hw11)
                    refine (escape_any _ ((hx4 false p ++ [92] ++ hx4 false q) ++ xs) _ (by have := hown11.bytes (by rw [List.length_append]; show 11 + xs.length ≤ _; omega); simpa [hx4] using this)).mono ?_
                    rintro e w12 ⟨rfl, rfl⟩
                    rw [HESC.out]
                    go_wp2_with fail
                    go_ret
                    exact ⟨rfl, hw2.trans ((hb.trans hw11).mono hw2.size)⟩
                

              · go_enter Try.func8, Try.ntmps8
                go_wp2_with fail
                refine (awake_any _).mono ?_
                rintro e w1 ⟨rfl, hw1⟩
                go_wp2_with fail
                have hw2 : Ext w ((w1.alloc (.cells #[.int .i64 (n : Int)] 3)).alloc (.cells #[.int .i64 (p : Int), .int .i64 (q : Int)] 3)) := (hw1.alloc hw1.size _).alloc (by have := hw1.size; simp; omega) _
                have hc0 : ((w1.alloc (.cells #[.int .i64 (n : Int)] 3)).alloc (.cells #[.int .i64 (p : Int), .int .i64 (q : Int)] 3)).cell? ⟨(w1.alloc (.cells #[.int .i64 (n : Int)] 3)).heap.size, 0, none⟩ = some (.int .i64 (p : Int)) := by rw [cell_of_cells (heap_alloc_new _ _)]; rfl
                have hc1 : ((w1.alloc (.cells #[.int .i64 (n : Int)] 3)).alloc (.cells #[.int .i64 (p : Int), .int .i64 (q : Int)] 3)).cell? ⟨(w1.alloc (.cells #[.int .i64 (n : Int)] 3)).heap.size, 1, none⟩ = some (.int .i64 (q : Int)) := by rw [cell_of_cells (heap_alloc_new _ _)]; rfl
                have hg : (w1.alloc (.cells #[.int .i64 (n : Int)] 3)).heap.size < ((w1.alloc (.cells #[.int .i64 (n : Int)] 3)).alloc (.cells #[.int .i64 (p : Int), .int .i64 (q : Int)] 3)).heap.size := by simp
                have hsz1 : (w1.alloc (.cells #[.int .i64 (n : Int)] 3)).heap.size = w1.heap.size + 1 := by simp
                rw [hsz1] at hc0 hc1 hg
                generalize ((w1.alloc (.cells #[.int .i64 (n : Int)] 3)).alloc (.cells #[.int .i64 (p : Int), .int .i64 (q : Int)] 3)) = w2 at *
                generalize w1.heap.size + 1 = gb at *
                clear hp hq
                have hxs := HXS.out
                go_loopw [10, 11] (fun v iv wr => ∃ k : Nat, iv = .int .i64 k ∧ k ≤ 2 ∧ OwnB wr w2.heap.size 5 v (txt true [p, q] k) ∧ Ext w2 wr) (fun _ iv _ => 2 - (intOf iv).toNat)
                case atStart => exact ⟨0, rfl, by omega, OwnB.nil _ _ _, ext_refl _⟩
                case round =>
                  obtain ⟨k, rfl, hk, hown, hb⟩ := hrel
                  have hcr0 : wr.cell? ⟨gb, 0, none⟩ = some (.int .i64 (p : Nat)) := by rw [hb.cell (p := ⟨gb, 0, none⟩) hg]; exact hc0
                  have hcr1 : wr.cell? ⟨gb, 1, none⟩ = some (.int .i64 (q : Nat)) := by rw [hb.cell (p := ⟨gb, 1, none⟩) hg]; exact hc1
                  have hk2 : k = 0 ∨ k = 1 ∨ k = 2 := by omega
                  rcases hk2 with rfl | rfl | rfl
                  · go_wp2_with fail
                    have e1 : (((p : Nat) : Int) / 4096 % 16).toNat = p / 4096 % 16 := by omega
                    have e2 : (((p : Nat) : Int) / 256 % 16).toNat = p / 256 % 16 := by omega
                    have e3 : (((p : Nat) : Int) / 16 % 16).toNat = p / 16 % 16 := by omega
                    have e4 : (((p : Nat) : Int) % 16).toNat = p % 16 := by omega
                    have b1 : ((p : Nat) : Int) / 4096 % 16 < 16 := by omega
                    have b2 : ((p : Nat) : Int) / 256 % 16 < 16 := by omega
                    have b3 : ((p : Nat) : Int) / 16 % 16 < 16 := by omega
                    have b4 : ((p : Nat) : Int) % 16 < 16 := by omega
                    have q1 : IntKind.i64.wrap (((p : Nat) : Int) / 4096) = ((p : Nat) : Int) / 4096 := IntWalk.i64_in _ (by omega)
                    have q2 : IntKind.i64.wrap (((p : Nat) : Int) / 256) = ((p : Nat) : Int) / 256 := IntWalk.i64_in _ (by omega)
                    have q3 : IntKind.i64.wrap (((p : Nat) : Int) / 16) = ((p : Nat) : Int) / 16 := IntWalk.i64_in _ (by omega)
                    have z1 : (((p : Nat) : Int) / 4096).tmod 16 = ((p : Nat) : Int) / 4096 % 16 := Int.tmod_eq_emod_of_nonneg (by omega)
                    have z2 : (((p : Nat) : Int) / 256).tmod 16 = ((p : Nat) : Int) / 256 % 16 := Int.tmod_eq_emod_of_nonneg (by omega)
                    have z3 : (((p : Nat) : Int) / 16).tmod 16 = ((p : Nat) : Int) / 16 % 16 := Int.tmod_eq_emod_of_nonneg (by omega)
                    have z4 : ((p : Nat) : Int).tmod 16 = ((p : Nat) : Int) % 16 := Int.tmod_eq_emod_of_nonneg (by omega)
                    have x1 := up_at (p / 4096 % 16) (by omega)
                    have x2 := up_at (p / 256 % 16) (by omega)
                    have x3 := up_at (p / 16 % 16) (by omega)
                    have x4 := up_at (p % 16) (by omega)
                    refine Grow.wp_region_tail (G := Ext) (B := fun w' => Ext wr w' ∧ True) (anc := fun _ => []) (I := fun j => if j = 20 then some (Grow.Spec.slice 5 5 (.cells #[.int .u8 117, .int .u8 (dg true (p / 4096 % 16)).toNat, .int .u8 (dg true (p / 256 % 16)).toNat, .int .u8 (dg true (p / 16 % 16)).toNat, .int .u8 (dg true (p % 16)).toNat] 5 (0, 0))) else none) 21 (by kernel_rfl) (by kernel_rfl) (by kernel_rfl) ?_ ?_ ?_
                    · exact fun w w' h hg => ⟨ext_trans h.1 hg, trivial⟩
                    · exact ⟨(ext_refl _).drew, trivial⟩
                    simp only [List.take_succ_cons, List.take_zero, List.drop_succ_cons, List.drop_zero]
                    repeat
                      (refine Grow.walk_step (fun K hK => ?_)
                       first
                       | (refine Grow.step_read (by rfl) (by rfl) ext_refl ?_
                          apply Exists.intro
                          refine ⟨fun w hB hF => ?_, ?_⟩
                          · obtain ⟨hB1, hB2⟩ := hB
                            go_simp
                            try exact rfl
                          go_simp
                          refine hK _ _ ?_
                          clear hK K)
                       | (refine Grow.step_off (by rfl) ?_
                          go_simp
                          refine hK _ _ ?_
                          clear hK K))
                    refine Grow.walk_step (fun K hK => ?_)
                    refine Grow.step_rel (by rfl) (by rfl) (fun w hB hF => ?_) (fun v hv => ?_)
                    · go_simp
                      exact Grow.relUpon_value ((ext_refl _).alloc (Nat.le_refl _) _) ⟨_, rfl⟩ ⟨_, rfl, by simp, heap_alloc_new _ _⟩
                    go_simp
                    refine hK _ _ ?_
                    clear hK K
                    clear hv
                    refine Grow.walk_nil ?_
                    intro w3 hB hF
                    have hF11 := hF 20
                    simp only [Grow.upd, Grow.Spec.slice, if_true] at hF11
                    obtain ⟨b9, rfl, hb9, hh3⟩ := hF11
                    have hext3 : Ext wr w3 := hB.1
                    clear hF hB e1 e2 e3 e4 b1 b2 b3 q1 q2 q3 z1 z2 z3 z4 x1 x2 x3 x4
                    have hown3 := OwnB.ext hown hext3
                    have hby3 := bytes_of_cells hh3 (hx4_cells true p) 5 rfl (by omega)
                    have hbase3 : w2.heap.size ≤ w3.heap.size := Nat.le_trans hb.size hext3.size
                    have hlen3 := txt_len true [p, q] 0
                    go_wp2_with (at_builtin; refine wpList_append_bytes rfl _ _ rfl w2.heap.size _ _ rfl hown3 _ (hx4 true p) rfl hby3 (by simp only [List.length_append, hx4, List.length_cons, List.length_nil]; omega) hbase3 ?_; intro a7 c7 w7 hown7 hw7)
                    go_roundw
                    case rel => exact ⟨1, rfl, by omega, by simpa [txt, hx4, List.length_append] using hown7, hb.trans ((hext3.mono hb.size).trans hw7)⟩
                    case measure => simp [intOf]
                  · have hbc := bytes_new wr #[.int .u8 92] 5 [92] rfl 1 rfl (by omega)
                    have hownA := OwnB.ext hown ((ext_refl wr).alloc (Nat.le_refl _) (.cells #[.int .u8 92] 5))
                    have hlA := txt_len true [p, q] 1
                    have hsA : w2.heap.size ≤ (wr.alloc (.cells #[.int .u8 92] 5)).heap.size := by have := hb.size; simp; omega
                    have hrs := hb.size
                    go_wp2_with (at_builtin; refine wpList_append_bytes rfl _ _ rfl w2.heap.size _ _ rfl hownA _ [92] rfl hbc (by simp only [List.length_cons, List.length_nil]; omega) hsA ?_; intro a8 c8 w8 hown8 hw8; have hE8 : Below w2.heap.size wr w8 := ((Below.refl w2.heap.size wr).alloc hrs _).trans hw8; have hcr8 : w8.cell? ⟨gb, 1, none⟩ = some (.int .i64 (q : Nat)) := (by rw [hE8.cell (p := ⟨gb, 1, none⟩) hg]; exact hcr1); clear hcr1 hcr0)
                    have hs8 : w2.heap.size ≤ w8.heap.size := Nat.le_trans hrs hE8.size
                    have e1 : (((q : Nat) : Int) / 4096 % 16).toNat = q / 4096 % 16 := by omega
                    have e2 : (((q : Nat) : Int) / 256 % 16).toNat = q / 256 % 16 := by omega
                    have e3 : (((q : Nat) : Int) / 16 % 16).toNat = q / 16 % 16 := by omega
                    have e4 : (((q : Nat) : Int) % 16).toNat = q % 16 := by omega
                    have b1 : ((q : Nat) : Int) / 4096 % 16 < 16 := by omega
                    have b2 : ((q : Nat) : Int) / 256 % 16 < 16 := by omega
                    have b3 : ((q : Nat) : Int) / 16 % 16 < 16 := by omega
                    have b4 : ((q : Nat) : Int) % 16 < 16 := by omega
                    have q1 : IntKind.i64.wrap (((q : Nat) : Int) / 4096) = ((q : Nat) : Int) / 4096 := IntWalk.i64_in _ (by omega)
                    have q2 : IntKind.i64.wrap (((q : Nat) : Int) / 256) = ((q : Nat) : Int) / 256 := IntWalk.i64_in _ (by omega)
                    have q3 : IntKind.i64.wrap (((q : Nat) : Int) / 16) = ((q : Nat) : Int) / 16 := IntWalk.i64_in _ (by omega)
                    have z1 : (((q : Nat) : Int) / 4096).tmod 16 = ((q : Nat) : Int) / 4096 % 16 := Int.tmod_eq_emod_of_nonneg (by omega)
                    have z2 : (((q : Nat) : Int) / 256).tmod 16 = ((q : Nat) : Int) / 256 % 16 := Int.tmod_eq_emod_of_nonneg (by omega)
                    have z3 : (((q : Nat) : Int) / 16).tmod 16 = ((q : Nat) : Int) / 16 % 16 := Int.tmod_eq_emod_of_nonneg (by omega)
                    have z4 : ((q : Nat) : Int).tmod 16 = ((q : Nat) : Int) % 16 := Int.tmod_eq_emod_of_nonneg (by omega)
                    have x1 := up_at (q / 4096 % 16) (by omega)
                    have x2 := up_at (q / 256 % 16) (by omega)
                    have x3 := up_at (q / 16 % 16) (by omega)
                    have x4 := up_at (q % 16) (by omega)
                    refine Grow.wp_region_tail (G := Ext) (B := fun w' => Ext w8 w' ∧ True) (anc := fun _ => []) (I := fun j => if j = 20 then some (Grow.Spec.slice 5 5 (.cells #[.int .u8 117, .int .u8 (dg true (q / 4096 % 16)).toNat, .int .u8 (dg true (q / 256 % 16)).toNat, .int .u8 (dg true (q / 16 % 16)).toNat, .int .u8 (dg true (q % 16)).toNat] 5 (0, 0))) else none) 21 (by kernel_rfl) (by kernel_rfl) (by kernel_rfl) ?_ ?_ ?_
                    · exact fun w w' h hg => ⟨ext_trans h.1 hg, trivial⟩
                    · exact ⟨(ext_refl _).drew, trivial⟩
                    simp only [List.take_succ_cons, List.take_zero, List.drop_succ_cons, List.drop_zero]
                    repeat
                      (refine Grow.walk_step (fun K hK => ?_)
                       first
                       | (refine Grow.step_read (by rfl) (by rfl) ext_refl ?_
                          apply Exists.intro
                          refine ⟨fun w hB hF => ?_, ?_⟩
                          · obtain ⟨hB1, hB2⟩ := hB
                            go_simp
                            try exact rfl
                          go_simp
                          refine hK _ _ ?_
                          clear hK K)
                       | (refine Grow.step_off (by rfl) ?_
                          go_simp
                          refine hK _ _ ?_
                          clear hK K))
                    refine Grow.walk_step (fun K hK => ?_)
                    refine Grow.step_rel (by rfl) (by rfl) (fun w hB hF => ?_) (fun v hv => ?_)
                    · go_simp
                      exact Grow.relUpon_value ((ext_refl _).alloc (Nat.le_refl _) _) ⟨_, rfl⟩ ⟨_, rfl, by simp, heap_alloc_new _ _⟩
                    go_simp
                    refine hK _ _ ?_
                    clear hK K
                    clear hv
                    refine Grow.walk_nil ?_
                    intro w3 hB hF
                    have hF11 := hF 20
                    simp only [Grow.upd, Grow.Spec.slice, if_true] at hF11
                    obtain ⟨b9, rfl, hb9, hh3⟩ := hF11
                    have hext3 : Ext w8 w3 := hB.1
                    clear hF hB e1 e2 e3 e4 b1 b2 b3 q1 q2 q3 z1 z2 z3 z4 x1 x2 x3 x4
                    have hown3 := OwnB.ext hown8 hext3
                    have hby3 := bytes_of_cells hh3 (hx4_cells true q) 5 rfl (by omega)
                    have hbase3 : w2.heap.size ≤ w3.heap.size := Nat.le_trans hs8 hext3.size
                    have hlen3 := txt_len true [p, q] 1
                    go_wp2_with (at_builtin; refine wpList_append_bytes rfl _ _ rfl w2.heap.size _ _ rfl hown3 _ (hx4 true q) rfl hby3 (by simp only [List.length_append, hx4, List.length_cons, List.length_nil]; omega) hbase3 ?_; intro a7 c7 w7 hown7 hw7)
                    go_roundw
                    case rel => exact ⟨2, rfl, by omega, by simpa [txt, hx4, List.length_append] using hown7, hb.trans (hE8.trans ((hext3.mono hs8).trans hw7))⟩
                    case measure => simp [intOf]
                  · have ht : txt true [p, q] 2 = hx4 true p ++ [92] ++ hx4 true q := rfl
                    rw [ht] at hown
                    clear ht
                    obtain ⟨a10, c10, rfl⟩ := own8_shape hown
                    have hlT : (hx4 true p ++ [92] ++ hx4 true q).length = 11 := rfl
                    rw [hlT] at hown
                    rw [hlT]
                    have hxr := hxs.ext (ext_trans hw2 hb)
                    have hbz := hb.size
                    have hesc := pair_esc true p q n HP.out HQ.out HPQ.out xs
                    have HESC := Lib.hid hesc
                    clear hesc hlT
                    go_wp2_with (at_builtin; refine wpList_append_bytes rfl _ _ rfl w2.heap.size _ _ rfl hown _ xs rfl hxr (by show 11 + xs.length ≤ _; omega) hbz ?_; intro a11 c11 w11 hown11 hw11)
                    refine (escape_any _ ((hx4 true p ++ [92] ++ hx4 true q) ++ xs) _ (by have := hown11.bytes (by rw [List.length_append]; show 11 + xs.length ≤ _; omega); simpa [hx4] using this)).mono ?_
                    rintro e w12 ⟨rfl, rfl⟩
                    rw [HESC.out]
                    go_wp2_with fail
                    go_ret
                    exact ⟨rfl, hw2.trans ((hb.trans hw11).mono hw2.size)⟩
                

  · have hd : decide (200 < (xs.length : Int)) = true := by simp; omega
    go_enter Try.func8, Try.ntmps8
    go_wp2_with fail
    refine (awake_any _).mono ?_
    rintro e w1 ⟨rfl, hw1⟩
    go_wp2_with fail
    go_ret
    exact ⟨rfl, hw1⟩

set_option linter.unusedSimpArgs false
theorem own : ownKnob Try.prog.godebug = none := by kernel_rfl
theorem laid : laidOutB Try.prog = true := by kernel_rfl
theorem cells1 : Try.prog.cellsOf 5 = 1 := by kernel_rfl
theorem bytes1 : Try.prog.bytesOf 5 = 1 := by kernel_rfl
set_option maxHeartbeats 1600000 in
set_option maxRecDepth 100000 in
theorem lifted (os : Os) (started : os.Started) (H : Type) (enc : TypeId × Value → H) :
    ReturnsInHanded {} Try.checked os 8 .any (Rows.utfHexSpec.pre6 enc Try.prog Try.f8 Rows.utfHexRow.domain false) (Rows.utfHexSpec.post enc Try.prog Try.f8 false true false false) := by
  refine returnsInHanded_of_change_sized (C := Try.checked) own started (by kernel_rfl) Try.func8
    (ChangeSpec.witness6 (enc := enc) (C := Try.checked) false ⟨#[], #[.int .i32 0, .bool false, .slice none 0 0], []⟩ 8 (by kernel_rfl) (by kernel_rfl) (by kernel_rfl) (by kernel_rfl)) ?_
  intro W base args ds gs before hval0 hW _ hsz0 _
  have hsz : (DataW.weightsEach Try.prog (Try.f8.params.toList ++ Rows.utfHexSpec.plain.varTypes Try.prog) (ds ++ gs)).all (· ≤ reachBytes) = true := hsz0
  clear hsz0
  have hval : ∀ (j : Nat) t v, Try.f8.params[j]? = some t → args[j]? = some v → Value.okWide Try.prog W .any base t v := hval0
  have hW' := hW
  obtain ⟨p, q, hA0, hV, rfl, _, _⟩ := hW
  have hA : DataW.TrodAll enc Try.prog W 0 (fun _ => true) true Try.f8.params.toList args.toList ds p := hA0
  rw [Try.params8] at hA hval hsz
  obtain ⟨v0, vs0, d0, ds0, p0, q0, ha0, rfl, rfl, h0, r0⟩ := trodAll_cons hA
  obtain ⟨v1, vs1, d1, ds1, p1, q1, ha1, rfl, rfl, h1, r1⟩ := trodAll_cons r0
  obtain ⟨v2, vs2, d2, ds2, p2, q2, ha2, rfl, rfl, h2, r2⟩ := trodAll_cons r1
  obtain ⟨hb3, rfl, rfl⟩ := trodAll_nil r2
  subst hb3
  subst ha2
  subst ha1
  obtain rfl : args = #[v0, v1, v2] := by cases args; simpa using ha0
  obtain ⟨rfl, rfl⟩ := trodVars_none hV
  have hk0 := h0
  obtain ⟨a0, rfl, rfl, rfl, wf0⟩ := open_int Try.underlying21 (hval 0 21 v0 rfl rfl) h0
  have hr0 : -2147483648 ≤ a0 ∧ a0 ≤ 2147483647 := by simpa [Lit.wf, IntKind.min, IntKind.max, IntKind.signed, IntKind.bits] using wf0
  have hk1 := h1
  obtain ⟨a1, rfl, rfl, rfl⟩ := open_bool Try.underlying4 (hval 1 4 v1 rfl rfl) h1
  have hk2 := h2
  obtain ⟨a2, len2, cap2, rfl⟩ := okWide_slice Try.underlying22 (hval 2 22 v2 rfl rfl)
  obtain ⟨xs2, hx2⟩ := bytes_of_trod Try.underlying22 Try.underlying5 cells1 h2 (fun elems spare e => by subst e; have := sized_slice hsz (j := 2) rfl rfl Try.underlying22; rw [bytes1] at this; simp only [reachBytes] at this; omega)
  have hlt := fun x hx => hW'.lt x hx
  simp only [List.append_nil, List.nil_append] at hW' hlt
  refine (walk a0 hr0.1 hr0.2 a1 _ xs2 W hx2).mono fun e W' ⟨he, hb⟩ => ?_
  subst he
  have hargs := (trodAll_cons_mk (Below.trod laid (by kernel_rfl) (of_decide_eq_true (by kernel_rfl)) hk0 hb (fun x hx => by first | exact hlt x hx | exact absurd hx (List.not_mem_nil) | exact hlt x (by simp [hx]))) (trodAll_cons_mk (Below.trod laid (by kernel_rfl) (of_decide_eq_true (by kernel_rfl)) hk1 hb (fun x hx => by first | exact hlt x hx | exact absurd hx (List.not_mem_nil) | exact hlt x (by simp [hx]))) (trodAll_cons_mk (Below.trod laid (by kernel_rfl) (of_decide_eq_true (by kernel_rfl)) hk2 hb (fun x hx => by first | exact hlt x hx | exact absurd hx (List.not_mem_nil) | exact hlt x (by simp [hx]))) trodAll_mk0)))
  exact ⟨_, rfl, _, _, _, [], _, [], hW', trodAll_cons_mk (shut_bool Try.underlying4 _) trodAll_mk0, hargs, rfl, hb.frame _, fun h => by cases h⟩

theorem proved : Rows.UtfHexSaid :=
  OpenClaim.holds_of_wide 8 Try.f8 rfl rfl rfl rfl rfl rfl rfl ⟨rfl, rfl, rfl, rfl, rfl⟩ rfl rfl rfl rfl rfl (by kernel_rfl) Try.func8 (by kernel_rfl)
    (of_decide_eq_true (by kernel_rfl)) (by unfold Func.isWrapper; first | (rw [if_pos (by decide +kernel)]; kernel_rfl) | (rw [if_neg (by decide +kernel)]; exact ⟨rfl, rfl⟩))
    (fun os started H enc _ => lifted os started H enc)
end Go.Proofs.Ytikhdnpokhldeaa.utfHex
