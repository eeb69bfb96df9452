/- Several texts of this proof in one. -/
import Derived.Test.YtjapbjmeoaagmaaGreatDoorQValueAt1
import Derived.Test.YtjapbjmeoaagmaaGreatDoorEValueAtGst
import Derived.LoopN
import Derived.Deep.MidRow
import Derived.ChangeKeysEq
import Derived.Tactics
import Derived.Tactics2
import Derived.Defers
import Derived.Laws.Pointers
import Derived.Laws.LoneSync
import Derived.RegionTactic
import Derived.RegionCalls
import Derived.ChangeAlike
import Derived.Test.YtjapbjmeoaagmaaGreatDoorEValueAtOwn
import Derived.Test.YtjapbjmeoaagmaaGreatDoorEValueAtConv
import Derived.Maps.OwnSet
import Derived.Maps.RangeWalk
import Derived.Sort.MapsRangeIn
import Derived.Test.YtjapbjmeoaagmaaGreatDoorEValueAtSh
import Derived.Test.YtjapbjmeoaagmaaGreatDoorEValueAtSi
set_option linter.unusedVariables false
set_option linter.unusedSimpArgs false
set_option maxRecDepth 100000
section
set_option maxRecDepth 100000
namespace Orange
def mk0 (i : Nat) : Int := if i = 34 ∨ i = 39 ∨ i = 92 then 1 else 0
def cnt0 (i : Nat) : Int := (if 34 < i then 1 else 0) + (if 39 < i then 1 else 0) + (if 92 < i then 1 else 0)
theorem cnt0_succ (i : Nat) : cnt0 (i + 1) = cnt0 i + mk0 i := by
 unfold cnt0 mk0; split <;> split <;> split <;> split <;> split <;> split <;> split <;> omega
theorem cnt0_le (i : Nat) : 0 ≤ cnt0 i ∧ cnt0 i ≤ 3 := by
 unfold cnt0; split <;> split <;> split <;> omega
theorem mk0_one (i : Nat) (h : mk0 i = 0) : mapv i = 3 := by
 unfold mk0 at h; unfold mapv; split at h
 · omega
 · rw [if_neg (by omega), if_neg (by omega), if_neg (by omega)]
theorem mk0_is (i : Nat) : mk0 i = 0 ∨ mk0 i = 1 := by unfold mk0; split <;> simp
theorem mk0_two (i : Nat) (h : mk0 i = 1) : mapv i = cnt0 i := by
 unfold mk0 at h; split at h
 · rename_i h'; rcases h' with h' | h' | h' <;> (subst h'; decide)
 · omega
end Orange
namespace Go.Proofs.YtjapbjmeoaagmaaGreatDoor
open Go.RowKit Go.Mem Orange
theorem GB.new (w : World) : GB (w.alloc (.cells Tryz.zeroCells248 248)) w.heap.size (.slice none 0 0) 0 (fun _ => 0) where
 lt := by simp
 prio := by simp; rfl
 pre := by simp; rfl
 tab := by simp; rfl
 siz := by simp; rfl
 map := fun i hi => by
  have h : Tryz.zeroCells248 = #[.string ⟨#[]⟩, .int .i64 0, .string ⟨#[]⟩, .pointer none, .slice none 0 0, .int .i64 0] ++ Array.replicate 256 (.int .u8 0) := by kernel_rfl
  rw [h]; simp [Array.getElem?_append, hi]
 free := fun j => by simp
theorem GB.congr {w : World} {g : Nat} {pt : Value} {ts ts' : Int} {f f' : Nat → Int} (h : GB w g pt ts f) (hs : ts = ts') (hf : ∀ i, i < 256 → f i = f' i) : GB w g pt ts' f' :=
 ⟨h.lt, h.prio, h.pre, h.tab, hs ▸ h.siz, fun i hi => by rw [h.map i hi, hf i hi], h.free⟩
theorem GB.range {w : World} {g : Nat} {pt : Value} {ts : Int} {f : Nat → Int} (h : GB w g pt ts f) : ∃ ls : List Value, w.rangeAt g 6 ls ∧ ls.length = 256 ∧ ∀ i, i < 256 → ls.toArray[i]? = some (.int .u8 (f i)) := by
 refine ⟨(List.range 256).map fun i => Value.int .u8 (f i), fun j v hv => ?_, by simp, fun i hi => by simp [hi]⟩; rw [List.getElem?_map] at hv; by_cases hj : j < 256
 · rw [List.getElem?_range hj] at hv; simp only [Option.map_some, Option.some.injEq] at hv; rw [← hv]; exact h.map j hj
 · rw [List.getElem?_eq_none (by simpa using hj)] at hv; cases hv
theorem index_map {arr : Array Value} {v : Value} {i : Nat} (hi : i < 256) (h : arr[i]? = some v) (w : World) : (Instr.index 210 (.agg arr) (.int .i64 i)).run Tryz.prog w = .ok v w := by
 have hs : Tryz.prog.cellsOf 5 = 1 := by kernel_rfl
 have hp : Tryz.prog.plainKey 5 = true := by kernel_rfl
 obtain ⟨inf, hinf⟩ : ∃ inf, Tryz.prog.info? 5 = some inf := by
  cases h : Tryz.prog.info? 5 with
  | some x => exact ⟨x, rfl⟩
  | none => exact absurd h (by decide +kernel)
 have hpp := run_part_plain (P := Tryz.prog) hp (xs := arr) (off := i) h (w := w); have h0 : (0 : Int) ≤ i ∧ (i : Int) < (256 : Nat) := ⟨by omega, by omega⟩
 unfold Instr.index; simp only [asIntOf, Sem.run_bind, Sem.run_pure, Result.andThen_ok, run_underlying Tryz.underlying210 w]; rw [if_pos h0]; simp only [Sem.run_bind, run_sizeOf w hinf, Result.andThen_ok, hs, Int.toNat_natCast, Nat.mul_one, hpp]
theorem St0.next {w wx : World} {g tb : Nat} (h : St0 w wx g tb) (hg : g < tb) (hw : w.heap.size ≤ g) : St1 w (((wx.setCell ⟨tb, 2, none⟩ (.pointer (some ⟨tb + 1, 0, none⟩))).alloc (.cells #[.string ⟨#[]⟩, .int .i64 0, .string ⟨#[34]⟩, .pointer (some ⟨tb + 2, 0, none⟩), .slice none 0 0] 246)).alloc (.cells #[.string ⟨#[34]⟩, .int .i64 6, .string ⟨#[]⟩, .pointer none, .slice none 0 0] 246)).drew.drew.drew g tb := by
 obtain ⟨h1, h2, h3, h4⟩ := h
 refine ⟨(((Below.setCell (p := ⟨tb, 2, none⟩) h1 (by simp; omega) _).alloc (by simp; omega) _).alloc (by simp; omega) _).drew.drew.drew, ((((h2.other tb 2 (by omega) _).alloc _).alloc _).drew).drew.drew, by simp [h3], (((h4.set 2 _ (by simp)).alloc _).alloc _).drew.drew.drew, ((Blk.new (by simp [h3]) _ _).alloc _).drew.drew.drew, (Blk.new (by simp [h3]) _ _).drew.drew.drew⟩
theorem St1.next {w wx : World} {g tb : Nat} (h : St1 w wx g tb) (hg : g < tb) (hw : w.heap.size ≤ g) : St2 w (((((wx.setCell ⟨tb + 1, 4, none⟩ (.slice (some ⟨tb + 4, 0, none⟩) 3 3)).setCell ⟨tb + 1, 2, none⟩ (.string ⟨#[]⟩)).setCell ⟨tb + 1, 3, none⟩ (.pointer none)).alloc (.cells #[.string ⟨#[92, 92]⟩, .int .i64 4, .string ⟨#[]⟩, .pointer none, .slice none 0 0] 246)).alloc (.cells #[.pointer (some ⟨tb + 2, 0, none⟩), .pointer none, .pointer (some ⟨tb + 3, 0, none⟩)] 243)).drew.drew.drew.drew.drew.drew g tb := by
 obtain ⟨h1, h2, h3, h4, h5, h6⟩ := h; refine ⟨(((Below.setCell (p := ⟨tb + 1, 3, none⟩) (Below.setCell (p := ⟨tb + 1, 2, none⟩) (Below.setCell (p := ⟨tb + 1, 4, none⟩) h1 (by simp; omega) _) (by simp; omega) _) (by simp; omega) _).alloc (by simp; omega) _).alloc (by simp; omega) _).drew.drew.drew.drew.drew.drew,
  (((((h2.other (tb + 1) 4 (by omega) _).other (tb + 1) 2 (by omega) _).other (tb + 1) 3 (by omega) _).alloc _).alloc _).drew.drew.drew.drew.drew.drew, by simp [h3],
  (((((h4.other (tb + 1) 4 (by omega) _).other (tb + 1) 2 (by omega) _).other (tb + 1) 3 (by omega) _).alloc _).alloc _).drew.drew.drew.drew.drew.drew,
  (((((h5.set 4 _ (by simp)).set 2 _ (by simp)).set 3 _ (by simp)).alloc _).alloc _).drew.drew.drew.drew.drew.drew,
  (((((h6.other (tb + 1) 4 (by omega) _).other (tb + 1) 2 (by omega) _).other (tb + 1) 3 (by omega) _).alloc _).alloc _).drew.drew.drew.drew.drew.drew,
  ((Blk.new (by simp [h3]) _ _).alloc _).drew.drew.drew.drew.drew.drew, (Blk.new (by simp [h3]) _ _).drew.drew.drew.drew.drew.drew⟩
theorem St2.next {w wx : World} {g tb : Nat} (h : St2 w wx g tb) (hg : g < tb) (hw : w.heap.size ≤ g) : Ext w (((wx.setCell ⟨tb, 1, none⟩ (.pointer (some ⟨tb + 5, 0, none⟩))).alloc (.cells #[.string ⟨#[92, 39]⟩, .int .i64 2, .string ⟨#[]⟩, .pointer none, .slice none 0 0] 246)).drew.drew.drew) ∧ Trie (((wx.setCell ⟨tb, 1, none⟩ (.pointer (some ⟨tb + 5, 0, none⟩))).alloc (.cells #[.string ⟨#[92, 39]⟩, .int .i64 2, .string ⟨#[]⟩, .pointer none, .slice none 0 0] 246)).drew.drew.drew) g tb := by
 obtain ⟨h1, h2, h3, h4, h5, h6, h7, h8⟩ := h; exact ⟨((Below.setCell (p := ⟨tb, 1, none⟩) h1 (by simp; omega) _).alloc (by simp; omega) _).drew.drew.drew,
  hg, ((h2.other tb 1 (by omega) _).alloc _).drew.drew.drew, ((h4.set 1 _ (by simp)).alloc _).drew.drew.drew, ((h5.other tb 1 (by omega) _).alloc _).drew.drew.drew, ((h6.other tb 1 (by omega) _).alloc _).drew.drew.drew, ((h7.other tb 1 (by omega) _).alloc _).drew.drew.drew, ((h8.other tb 1 (by omega) _).alloc _).drew.drew.drew, (Blk.new (by simp [h3]) _ _).drew.drew.drew⟩
set_option maxHeartbeats 3200000 in
theorem mkgen_any (rb rc : Nat) (w : World) (hb : rb < w.heap.size) (k0 : w.cell? ⟨rb, 0, none⟩ = some (.string ⟨#[92, 34]⟩)) (k1 : w.cell? ⟨rb, 1, none⟩ = some (.string ⟨#[34]⟩)) (k2 : w.cell? ⟨rb, 2, none⟩ = some (.string ⟨#[92, 92]⟩)) (k3 : w.cell? ⟨rb, 3, none⟩ = some (.string ⟨#[92, 92]⟩)) (k4 : w.cell? ⟨rb, 4, none⟩ = some (.string ⟨#[39]⟩)) (k5 : w.cell? ⟨rb, 5, none⟩ = some (.string ⟨#[92, 39]⟩)) :
 Calls Tryz.prog 180 #[.slice (some ⟨rb, 0, none⟩) 6 rc] w (fun e w' => e = .returned (.pointer (some ⟨w.heap.size, 0, none⟩)) ∧ Ext w w' ∧ ∃ tb, Trie w' w.heap.size tb) := by
 have HK : Hid (∀ w', Ext w w' → (w'.cell? ⟨rb, 0, none⟩ = some (.string ⟨#[92, 34]⟩) ∧ w'.cell? ⟨rb, 1, none⟩ = some (.string ⟨#[34]⟩) ∧ w'.cell? ⟨rb, 2, none⟩ = some (.string ⟨#[92, 92]⟩) ∧ w'.cell? ⟨rb, 3, none⟩ = some (.string ⟨#[92, 92]⟩) ∧ w'.cell? ⟨rb, 4, none⟩ = some (.string ⟨#[39]⟩) ∧ w'.cell? ⟨rb, 5, none⟩ = some (.string ⟨#[92, 39]⟩))) := Hd (fun w' h => by
  have hc : ∀ j, w'.cell? ⟨rb, j, none⟩ = w.cell? ⟨rb, j, none⟩ := fun j => World.cell?_of_block (w := w) (a := ⟨rb, j, none⟩) (h.block rb hb); simp only [hc]; exact ⟨k0, k1, k2, k3, k4, k5⟩)
 clear k0 k1 k2 k3 k4 k5; go_enter Tryz.func180, Tryz.ntmps180
 go_upto_region 2 with fail; have hG := GB.new w; have hE : Ext w (w.alloc (.cells Tryz.zeroCells248 248)) := (ext_refl w).alloc (Nat.le_refl _) _; generalize hW : w.alloc (.cells Tryz.zeroCells248 248) = wr at *; have HG := Hd hG; have HE := Hd hE; clear hW hG hE; obtain ⟨g, hgg⟩ := Ex w.heap.size; have HGG := Hd hgg; rw [hgg] at HG hb ⊢; clear hgg; have hgb : ¬ g = rb := by omega
 have ⟨q0, q1, q2, q3, q4, q5⟩ := HK.out _ HE.out; have m34 := HG.out.map 34 (by omega); have m39 := HG.out.map 39 (by omega); have m92 := HG.out.map 92 (by omega); have fr := HG.out.free; have s0 : ((⟨#[92, 34]⟩ : ByteArray)[0]'(by decide)).toNat = 92 := rfl; have s1 : ((⟨#[92, 34]⟩ : ByteArray)[1]'(by decide)).toNat = 34 := rfl
 have s2 : ((⟨#[92, 92]⟩ : ByteArray)[0]'(by decide)).toNat = 92 := rfl; have s3 : ((⟨#[92, 92]⟩ : ByteArray)[1]'(by decide)).toNat = 92 := rfl; have s4 : ((⟨#[39]⟩ : ByteArray)[0]'(by decide)).toNat = 39 := rfl; simp only [Nat.reduceAdd] at m34 m39 m92; go_wp2_with fail; refine wp_loop_rounds 4 ?_; rw [rounds_succ]; go_wp2_with fail; refine wp_loop_rounds 3 ?_; rw [rounds_succ]; go_wp2_with fail
 go_region
 go_wp2_with fail; rw [rounds_succ]; go_wp2_with fail; go_region
 go_wp2_with fail; rw [rounds_succ]; go_wp2_with fail; rw [rounds_succ]; go_wp2_with fail; refine wp_loop_rounds 3 ?_; rw [rounds_succ]; go_wp2_with fail; go_region
 go_wp2_with fail; rw [rounds_succ]; go_wp2_with fail; go_region
 go_wp2_with fail; rw [rounds_succ]; go_wp2_with fail; rw [rounds_succ]; go_wp2_with fail; refine wp_loop_rounds 2 ?_; rw [rounds_succ]; go_wp2_with fail; go_region
 go_wp2_with fail; rw [rounds_succ]; go_wp2_with fail; rw [rounds_succ]; go_upto_region 10 with fail
 have hG1 : GB ((((((wr.setCell ⟨g, 98, none⟩ (.int .u8 1)).setCell ⟨g, 40, none⟩ (.int .u8 1)).setCell ⟨g, 98, none⟩ (.int .u8 1)).setCell ⟨g, 98, none⟩ (.int .u8 1)).setCell ⟨g, 45, none⟩ (.int .u8 1)).drew.drew.drew.drew.drew) g (.slice none 0 0) 0 mk0 := ((((((HG.out.setM 92 1 (by omega)).setM 34 1 (by omega)).setM 92 1 (by omega)).setM 92 1 (by omega)).setM 39 1 (by omega)).drew.drew.drew.drew.drew).congr rfl (fun i hi => by
  by_cases h1 : i = 39 <;> by_cases h2 : i = 92 <;> by_cases h3 : i = 34 <;> simp [mk0, h1, h2, h3])
 have hp : ∀ j, w.heap.size ≤ (⟨g, j, none⟩ : Addr).block := fun j => Nat.le_of_eq HGG.out
 have hE1 : Ext w ((((((wr.setCell ⟨g, 98, none⟩ (.int .u8 1)).setCell ⟨g, 40, none⟩ (.int .u8 1)).setCell ⟨g, 98, none⟩ (.int .u8 1)).setCell ⟨g, 98, none⟩ (.int .u8 1)).setCell ⟨g, 45, none⟩ (.int .u8 1)).drew.drew.drew.drew.drew) := (((((Below.setCell HE.out (hp _) _).setCell (hp _) _).setCell (hp _) _).setCell (hp _) _).setCell (hp _) _).drew.drew.drew.drew.drew
 generalize (((((wr.setCell ⟨g, 98, none⟩ (.int .u8 1)).setCell ⟨g, 40, none⟩ (.int .u8 1)).setCell ⟨g, 98, none⟩ (.int .u8 1)).setCell ⟨g, 98, none⟩ (.int .u8 1)).setCell ⟨g, 45, none⟩ (.int .u8 1)).drew.drew.drew.drew.drew = wa at *; clear q0 q1 q2 q3 q4 q5 m34 m39 m92 fr s0 s1 s2 s3 s4 HG HE; have HG := Hd hG1; have HE := Hd hE1; obtain ⟨ls, hrg, hll, har⟩ := GB.range hG1; have HAR := Hd har
 clear hG1 hE1 har; iterate 11 go_step
 refine wp_load_mid (P := Tryz.prog) 210 (.tmp 39) (by rfl) g 6 (by rfl) ls (.array 256 5) hrg (by kernel_rfl) rfl (by rw [hll]; kernel_rfl) ?_; clear hrg; have hls : ls.toArray.size = 256 := by simpa using hll
 generalize ls.toArray = arr at *; clear hll; go_wp2_with fail; go_loopw [8, 41] (fun _ iv wr => ∃ i : Nat, iv = .int .i64 i ∧ i ≤ 256 ∧ GB wr g (.slice none 0 0) (cnt0 i) mk0 ∧ Ext w wr) (fun _ iv _ => 1000 - (intOf iv).toNat)
 case atStart => exact ⟨0, rfl, by omega, HG.out, HE.out⟩
 case round =>
  obtain ⟨i, rfl, hi, hg, he⟩ := hrel; by_cases hlt : i < 256
  · have h1 : (i : Int) < 256 := by omega
    have h0 : (0 : Int) ≤ i := by omega
    have ha := index_map hlt (HAR.out i hlt); have hs := hg.siz; have hf := hg.free 5; have hcs := cnt0_succ i; have hcl := cnt0_le i; have hml := mk0_is i; have HGB := Hd (hg.setS (cnt0 i + mk0 i)); have HEE := Hd (Below.setCell (p := ⟨g, 5, none⟩) he (hp 5) (.int .i64 (cnt0 i + mk0 i))); clear hg he; have HCS := Hd hcs; generalize mk0 i = mv at *; generalize cnt0 i = cv at *
    have e1 : IntKind.i64.wrap mv = mv := IntWalk.i64_in _ (by omega); have e2 : IntKind.i64.wrap (cv + mv) = cv + mv := IntWalk.i64_in _ (by omega); clear hcs hcl hml; go_wp2_with fail; refine ⟨⟨i + 1, by go_num, by omega, by rw [HCS.out]; exact HGB.out, HEE.out⟩, by simp [intOf]; omega⟩
  · have h1 : ¬ (i : Int) < 256 := by omega
    obtain rfl : i = 256 := by omega
    have hg3 : GB wr g (.slice none 0 0) 3 mk0 := hg; obtain ⟨ls, hrg, hll, har⟩ := GB.range hg3; have HG3 := Hd hg3; have HE3 := Hd he; clear hg hg3 he HAR hls HG HE; have HAR := Hd har; clear har; go_upto_region 16 with fail; iterate 11 go_step
    refine wp_load_mid (P := Tryz.prog) 210 (.tmp 56) (by rfl) g 6 (by rfl) ls (.array 256 5) hrg (by kernel_rfl) rfl (by rw [hll]; kernel_rfl) ?_; clear hrg; have hls : ls.toArray.size = 256 := by simpa using hll
    generalize ls.toArray = arr2 at *; clear hll; go_wp2_with fail; go_loopw [9, 10, 11, 58] (fun xv _ _ iv wx => ∃ i : Nat, iv = .int .i64 i ∧ xv = .int .u8 (cnt0 i) ∧ i ≤ 256 ∧ GB wx g (.slice none 0 0) 3 (fun j => if j < i then mapv j else mk0 j) ∧ Ext w wx) (fun _ _ _ iv _ => 1000 - (intOf iv).toNat)
    case atStart => exact ⟨0, rfl, rfl, by omega, HG3.out.congr rfl (fun i hi => by simp), HE3.out⟩
    case round =>
     obtain ⟨i, rfl, rfl, hi, hg, he⟩ := hrel; by_cases hlt : i < 256
     · have h1 : (i : Int) < 256 := by omega
       have h0 : (0 : Int) ≤ i := by omega
       have ha := index_map hlt (HAR.out i hlt); have hs := hg.siz; have hm := hg.map i hlt; rw [if_neg (by omega)] at hm; have hf := hg.free (6 + i); have hcl := cnt0_le i; have HCS := Hd (cnt0_succ i); have HGB : Hid (GB (wr.setCell ⟨g, 6 + i, none⟩ (.int .u8 (mapv i))) g (.slice none 0 0) 3 (fun j => if j < i + 1 then mapv j else mk0 j)) := Hd ((hg.setM i (mapv i) hlt).congr rfl (fun j hj => by
        by_cases e : j = i
        · subst e; rw [if_pos rfl, if_pos (by omega)]
        · rw [if_neg e]; by_cases e2 : j < i
          · rw [if_pos e2, if_pos (by omega)]
          · rw [if_neg e2, if_neg (by omega)]))
       have HEE := Hd (Below.setCell (p := ⟨g, 6 + i, none⟩) he (hp (6 + i)) (.int .u8 (mapv i))); clear hg he; have hmv := mk0_one i; have hmw := mk0_two i; rcases mk0_is i with hz | hz
       · rw [hz] at ha hm; have hmv := hmv hz; rw [hmv] at HGB HEE; rw [hz] at HCS; generalize cnt0 i = cv at *; clear hz hmv hmw; go_wp2_with fail; go_region
         go_wp2_with fail; refine ⟨⟨i + 1, by go_num, by rw [HCS.out]; simp, by omega, HGB.out.drew, HEE.out.drew⟩, by simp [intOf]; omega⟩
       · rw [hz] at ha hm; have hmw := hmw hz; rw [hmw] at HGB HEE; rw [hz] at HCS; generalize cnt0 i = cv at *; have e1 : IntKind.u8.wrap (cv + 1) = cv + 1 := IntWalk.u8_in _ (by omega); clear hz hmv hmw; go_wp2_with fail; refine ⟨⟨i + 1, by go_num, by rw [HCS.out], by omega, HGB.out, HEE.out⟩, by simp [intOf]; omega⟩
     · have h1 : ¬ (i : Int) < 256 := by omega
       obtain rfl : i = 256 := by omega
       have HG4 : Hid (GB wr g (.slice none 0 0) 3 mapv) := Hd (hg.congr rfl (fun i hi => by rw [if_pos hi])); have HE4 := Hd he; clear hg he HAR hls HG3 HE3; have hs := HG4.out.siz; have ht := HG4.out.tab; have hf := HG4.out.free; have hgl := HG4.out.lt
       have hms : ∀ w : World, (Instr.makeSlice 244 (.int .i64 3) (.int .i64 3)).run Tryz.prog w = .ok (.slice (some ⟨w.heap.size, 0, none⟩) 3 3) (w.alloc (.cells #[.pointer none, .pointer none, .pointer none] 243)) := fun w => by kernel_rfl
       go_upto_region 25 with fail; obtain ⟨tb, htb⟩ := Ex wr.heap.size; rw [htb]; have hS0 : St0 w ((wr.setCell ⟨g, 4, none⟩ (.slice (some ⟨tb, 0, none⟩) 3 3)).alloc (.cells #[.pointer none, .pointer none, .pointer none] 243)) g tb :=
        ⟨(Below.setCell HE4.out (hp 4) _).alloc (by have := HE4.out.size; simp; omega) _, (HG4.out.setT _).alloc _, by simp [htb], Blk.new (by simp [htb]) _ _⟩
       have hgs : g < tb := by omega
       have hwg : w.heap.size ≤ g := Nat.le_of_eq HGG.out; generalize (wr.setCell ⟨g, 4, none⟩ (.slice (some ⟨tb, 0, none⟩) 3 3)).alloc (.cells #[.pointer none, .pointer none, .pointer none] 243) = wt at *; clear hs ht hf hgl htb HG4 HE4 hms; have v1 : IntKind.i64.wrap 1 = 1 := by decide
       have v3 : IntKind.i64.wrap 3 = 3 := by decide
       have v5 : IntKind.i64.wrap 5 = 5 := by decide
       go_wp2_with fail; go_loopw [12] (fun kv wx => (kv = .int .i64 0 ∧ St0 w wx g tb) ∨ (kv = .int .i64 2 ∧ St1 w wx g tb) ∨ (kv = .int .i64 4 ∧ St2 w wx g tb) ∨ (kv = .int .i64 6 ∧ Ext w wx ∧ Trie wx g tb)) (fun kv _ => 100 - (intOf kv).toNat)
       case atStart => exact .inl ⟨rfl, hS0⟩
       case round =>
        clear hS0; rcases hrel with ⟨rfl, h⟩ | ⟨rfl, h⟩ | ⟨rfl, h⟩ | ⟨rfl, hx, h⟩
        · have ⟨q0, q1, q2, q3, q4, q5⟩ := HK.out _ h.1; have hsz := h.2.2.1; have HN := Hd (h.next hgs hwg); have HC1 := add_first g tb ⟨#[34]⟩ 6 wr.drew (by simp; omega) (by simp; omega) (by omega) (by simpa using h.2.1.pre) (by simpa using h.2.1.tab) (by simpa [mapv] using h.2.1.map 92 (by omega)) (by simpa using h.2.2.2.cell 2) (by simpa using h.2.2.2.free 2); simp only [World.size_drew, hsz] at HC1
          replace HC1 := Hd HC1; clear h; go_wp2_with fail; go_region_with (go_at_call 208; go_loud (refine HC1.out.mono ?_; rintro e w' ⟨rfl, rfl⟩))
          all_goals go_wp2_with fail
          all_goals exact ⟨.inr (.inl ⟨rfl, HN.out⟩), by simp [intOf]⟩
        · have ⟨q0, q1, q2, q3, q4, q5⟩ := HK.out _ h.1; have hsz := h.2.2.1; have HN := Hd (h.next hgs hwg)
          have HC1 := add_second g tb (tb + 1) ⟨#[92, 92]⟩ 4 wr.drew (by simp; omega) (by simp; omega) (by omega) (by simpa using h.2.1.pre) (by simpa using h.2.1.tab) (by simpa [mapv] using h.2.1.map 92 (by omega)) (by simpa using h.2.2.2.1.cell 2) (by simp; omega) (by omega) (some ⟨tb + 2, 0, none⟩) (by simpa using h.2.2.2.2.1.cell 2) (by simpa using h.2.2.2.2.1.cell 3) (.slice none 0 0) (by simpa using h.2.2.2.2.1.cell 4) (by simpa using h.2.2.2.2.1.free 2) (by simpa using h.2.2.2.2.1.free 3) (by simpa using h.2.2.2.2.1.free 4) (by simpa using h.2.1.siz) (by simpa [mapv] using h.2.1.map 34 (by omega))
          simp only [World.size_drew, hsz] at HC1; replace HC1 := Hd HC1; clear h; go_wp2_with fail; go_region_with (go_at_call 208; go_loud (refine HC1.out.mono ?_; rintro e w' ⟨rfl, rfl⟩))
          all_goals go_wp2_with fail
          all_goals exact ⟨.inr (.inr (.inl ⟨rfl, HN.out⟩)), by simp [intOf]⟩
        · have ⟨q0, q1, q2, q3, q4, q5⟩ := HK.out _ h.1; have hsz := h.2.2.1; have HN := Hd (h.next hgs hwg); have HC1 := add_third g tb ⟨#[92, 39]⟩ 2 wr.drew (by simp; omega) (by simp; omega) (by omega) (by simpa using h.2.1.pre) (by simpa using h.2.1.tab) (by simpa [mapv] using h.2.1.map 39 (by omega)) (by simpa using h.2.2.2.1.cell 1) (by simpa using h.2.2.2.1.free 1)
          simp only [World.size_drew, hsz] at HC1; replace HC1 := Hd HC1; clear h; go_wp2_with fail; go_region_with (go_at_call 208; go_loud (refine HC1.out.mono ?_; rintro e w' ⟨rfl, rfl⟩))
          all_goals go_wp2_with fail
          all_goals exact ⟨.inr (.inr (.inr ⟨rfl, HN.out⟩)), by simp [intOf]⟩
        · go_wp2_with fail; go_ret; rw [HGG.out]; exact ⟨rfl, hx, tb, h⟩
theorem race_off (w : World) : (callFunc 221 #[]).run Tryz.prog w = .ok (.value (.tuple #[])) w := run_call_mark0 Tryz.func221 (by kernel_rfl) (by kernel_rfl) (by kernel_rfl) .disable (by kernel_rfl) w
theorem race_on (w : World) : (callFunc 223 #[]).run Tryz.prog w = .ok (.value (.tuple #[])) w := run_call_mark0 Tryz.func223 (by kernel_rfl) (by kernel_rfl) (by kernel_rfl) .enable (by kernel_rfl) w
theorem race_acq (a : Addr) (w : World) : (callFunc 224 #[.pointer (some a)]).run Tryz.prog w = .ok (.value (.tuple #[])) w := run_call_marked Tryz.func224 (by kernel_rfl) (by kernel_rfl) (by kernel_rfl) .acquire (by kernel_rfl) a w
theorem race_rel (a : Addr) (w : World) : (callFunc 226 #[.pointer (some a)]).run Tryz.prog w = .ok (.value (.tuple #[])) w := run_call_marked Tryz.func226 (by kernel_rfl) (by kernel_rfl) (by kernel_rfl) .releaseMerge (by kernel_rfl) a w
theorem store_deferred (a : Addr) (x : Value) (u : FrameMode) (w : World) (hc : w.cell? a = some x) (hz : w.frozen? a = false) :
 CallsD Tryz.prog 178 #[.pointer (some a), .bool true] u w fun e u' w' => u' = u ∧ (e = .returned (.tuple #[]) ∧ w' = w.drew.setCell a (.int .u32 1)) := by
 have hc' : w.drew.cell? a = some x := by go_simp
 have hz' : w.drew.frozen? a = false := by go_simp
 have hst := run_call_store (P := Tryz.prog) Tryz.func205 (by kernel_rfl) (by kernel_rfl) (by kernel_rfl) (by kernel_rfl) (k := .u32) (y := 1) hc' hz'; go_enter_d Tryz.func178, Tryz.ntmps178
 go_wp2
 go_region_calls
 all_goals (go_end0; exact ⟨rfl, rfl⟩)
theorem unlock_deferred (a : Addr) (u : FrameMode) (w : World) (hc : w.cell? a = some (.int .i32 1)) (hz : w.frozen? a = false) :
 CallsD Tryz.prog 177 #[.pointer (some a)] u w fun e u' w' => u' = u ∧ (e = .returned (.tuple #[]) ∧ w' = w.setCell a (.int .i32 0)) := by
 have hd := race_off; have he := race_on; have hr := race_rel; have hadd := run_call_add (P := Tryz.prog) Tryz.func227 (by kernel_rfl) (by kernel_rfl) (by kernel_rfl) .i32 (by kernel_rfl) (y := -1) (s := 0) hc hz (by simp [go_sem]; rfl); have hcv := run_convert_to_unsafe (P := Tryz.prog) (src := 258) (dst := 127) Tryz.underlying258 Tryz.underlying127 (by kernel_rfl) hc
 go_enter_d Tryz.func177, Tryz.ntmps177
 go_wp2
 go_end0
 go_wp2
 go_end0
 exact ⟨rfl, rfl⟩
theorem lock_free (a : Addr) (w : World) (hc : w.cell? a = some (.int .i32 0)) (hz : w.frozen? a = false) :
 Calls Tryz.prog 176 #[.pointer (some a)] w fun e w' => e = .returned (.tuple #[]) ∧ w' = w.setCell a (.int .i32 1) := by
 have hd := race_off; have he := race_on; have ha := race_acq; have hcas := run_call_cas_hit (P := Tryz.prog) Tryz.func222 (by kernel_rfl) (by kernel_rfl) (by kernel_rfl) .i32 (by kernel_rfl) (y := 1) hc hz; have hc' : (w.setCell a (.int .i32 1)).cell? a = some (.int .i32 1) := World.cell?_setCell_same w a _ hc
 have hcv := run_convert_to_unsafe (P := Tryz.prog) (src := 258) (dst := 127) Tryz.underlying258 Tryz.underlying127 (by kernel_rfl) hc'; go_enter Tryz.func176, Tryz.ntmps176
 go_wp2
 first | go_end0 | (simp only [Exit.inBlock, Exit.then]; refine bodyPost_ret (results_none rfl _ _ _) rfl ?_) | refine bodyPost_ret (results_none rfl _ _ _) rfl ?_
 go_wp2
 go_end0
 exact ⟨rfl, rfl⟩
theorem bload_zero (b : Nat) (w : World) (h : w.cell? ⟨b, 0, none⟩ = some (.int .u32 0)) : Calls Tryz.prog 141 #[.pointer (some ⟨b, 0, none⟩)] w fun e w' => e = .returned (.bool false) ∧ w' = w := by
 have hl := run_call_load (P := Tryz.prog) Tryz.func175 (by kernel_rfl) (by kernel_rfl) (by kernel_rfl) .u32 (by kernel_rfl) h; go_enter Tryz.func141, Tryz.ntmps141
 go_wp2_with fail; go_ret; exact ⟨rfl, rfl⟩
set_option maxHeartbeats 1600000 in
theorem slow_any (b : Nat) (f : Value) (R : World → Prop) (w : World)
 (h0 : w.cell? ⟨b, 0, none⟩ = some (.int .u32 0)) (h1 : w.cell? ⟨b, 1, none⟩ = some (.int .i32 0))
 (f0 : w.frozen? ⟨b, 0, none⟩ = false) (f1 : w.frozen? ⟨b, 1, none⟩ = false) (r : Value) (hf : f = .func (.func 107) #[r] #[])
 (hB : Calls Tryz.prog 107 #[r] (w.setCell ⟨b, 1, none⟩ (.int .i32 1)) fun e w' => e = .returned (.tuple #[]) ∧ w'.cell? ⟨b, 0, none⟩ = some (.int .u32 0) ∧ w'.cell? ⟨b, 1, none⟩ = some (.int .i32 1) ∧ (∀ j, w'.frozen? ⟨b, j, none⟩ = false) ∧ R w') :
 Calls Tryz.prog 142 #[.pointer (some ⟨b, 0, none⟩), f] w fun e w' => e = .returned (.tuple #[]) ∧ ∃ w2, R w2 ∧ w' = (w2.drew.setCell ⟨b, 0, none⟩ (.int .u32 1)).setCell ⟨b, 1, none⟩ (.int .i32 0) := by
 subst hf; have hz0 : (w.setCell ⟨b, 1, none⟩ (.int .i32 1)).cell? ⟨b, 0, none⟩ = some (.int .u32 0) := (World.cell?_setCell_other _ ⟨b, 1, none⟩ ⟨b, 0, none⟩ _ (by simp)).trans h0; have hnot : ∀ (x : Bool) (w : World), (Op.unary .not (.bool x)).run Tryz.prog w = .ok (.bool (!x)) w := fun _ _ => rfl; have HB := Hd hB; clear hB; go_enter_defers Tryz.func142, Tryz.ntmps142
 go_wp2_with (first | (go_at_call 176; refine (lock_free ⟨b, 1, none⟩ _ (by go_simp) (by go_simp)).mono ?_; rintro e w' ⟨rfl, rfl⟩) | (go_at_call 141; refine (bload_zero b _ hz0).mono ?_; rintro e w' ⟨rfl, rfl⟩))
 refine (HB.out).mono ?_; rintro e w' ⟨rfl, k0, k1, kf, hR⟩; go_wp2_with fail; refine leaves_cons (f := 178) (args := #[.pointer (some ⟨b, 0, none⟩), .bool true]) (by simp) (by simp [go_sem]) ?_; refine (store_deferred ⟨b, 0, none⟩ (.int .u32 0) .returning _ k0 (kf 0)).mono ?_; rintro e u' w'' ⟨rfl, rfl, rfl⟩
 refine leaves_cons (f := 177) (args := #[.pointer (some ⟨b, 1, none⟩)]) (by simp [settle]) (by simp [go_sem]) ?_; refine (unlock_deferred ⟨b, 1, none⟩ _ _ ?_ (by simp [kf])).mono ?_
 · refine (World.cell?_setCell_other _ ⟨b, 0, none⟩ ⟨b, 1, none⟩ _ (by simp)).trans ?_; rw [World.cell?_drew]; exact k1
 rintro e u' w'' ⟨rfl, rfl, rfl⟩; simp [Leaves, settle, results, Tryz.results142]
 exact ⟨w', hR, rfl⟩
set_option maxHeartbeats 1600000 in
theorem do_any (b : Nat) (f : Value) (R : World → Prop) (w : World)
 (h0 : w.cell? ⟨b, 0, none⟩ = some (.int .u32 0)) (h1 : w.cell? ⟨b, 1, none⟩ = some (.int .i32 0))
 (f0 : w.frozen? ⟨b, 0, none⟩ = false) (f1 : w.frozen? ⟨b, 1, none⟩ = false) (r : Value) (hf : f = .func (.func 107) #[r] #[])
 (hB : Calls Tryz.prog 107 #[r] (w.setCell ⟨b, 1, none⟩ (.int .i32 1)) fun e w' => e = .returned (.tuple #[]) ∧ w'.cell? ⟨b, 0, none⟩ = some (.int .u32 0) ∧ w'.cell? ⟨b, 1, none⟩ = some (.int .i32 1) ∧ (∀ j, w'.frozen? ⟨b, j, none⟩ = false) ∧ R w') :
 Calls Tryz.prog 106 #[.pointer (some ⟨b, 0, none⟩), f] w fun e w' => e = .returned (.tuple #[]) ∧ ∃ w2, R w2 ∧ w' = (w2.drew.setCell ⟨b, 0, none⟩ (.int .u32 1)).setCell ⟨b, 1, none⟩ (.int .i32 0) := by
 subst hf; have HS := Hd (slow_any b _ R w h0 h1 f0 f1 r rfl hB); have hnot : ∀ (x : Bool) (w : World), (Op.unary .not (.bool x)).run Tryz.prog w = .ok (.bool (!x)) w := fun _ _ => rfl; clear hB h1 f0 f1; go_enter Tryz.func106, Tryz.ntmps106
 go_wp2_with fail; refine (bload_zero b _ h0).mono ?_; rintro e w' ⟨rfl, rfl⟩; clear h0; go_wp2_with fail; refine (HS.out).mono ?_; rintro e w' ⟨rfl, hw⟩; have HW := Hd hw; clear hw HS; go_wp2_with fail; go_end0
 exact ⟨rfl, HW.out⟩
def keys6 : Array Value := #[.string ⟨#[92, 34]⟩, .string ⟨#[34]⟩, .string ⟨#[92, 92]⟩, .string ⟨#[92, 92]⟩, .string ⟨#[39]⟩, .string ⟨#[92, 39]⟩]
set_option maxHeartbeats 1600000 in
theorem build_any (b rb rc : Nat) (w : World) (hb : rb < w.heap.size) (hK : ∀ j, j < 6 → w.cell? ⟨rb, j, none⟩ = keys6[j]?) (h4 : w.cell? ⟨b, 4, none⟩ = some (.slice (some ⟨rb, 0, none⟩) 6 rc)) :
 Calls Tryz.prog 143 #[.pointer (some ⟨b, 0, none⟩)] w (fun e w' => ∃ g tb, e = .returned (.iface 208 (.pointer (some ⟨g, 0, none⟩))) ∧ w.heap.size ≤ g ∧ Ext w w' ∧ Trie w' g tb) := by
 have q0 : w.cell? ⟨rb, 0, none⟩ = some (.string ⟨#[92, 34]⟩) := hK 0 (by omega); have HC := Hd (mkgen_any rb rc w hb (hK 0 (by omega)) (hK 1 (by omega)) (hK 2 (by omega)) (hK 3 (by omega)) (hK 4 (by omega)) (hK 5 (by omega))); clear hK; go_enter Tryz.func143, Tryz.ntmps143
 go_wp2_with fail; refine wp_loop_rounds 1 ?_; rw [rounds_succ]; go_wp2_with fail; refine (HC.out).mono ?_; rintro e w' ⟨rfl, hx, tb, ht⟩; go_wp2_with fail; go_ret; exact ⟨_, tb, rfl, Nat.le_refl _, hx, ht⟩
def repV (d s : Int) (r o : Value) : Array Value := #[.int .u32 d, .int .i32 s, .int .u32 0, r, o]
theorem trie_other {w : World} {g tb : Nat} (h : Trie w g tb) (b o : Nat) (hb : b < g) (hbt : b < tb) (v : Value) : Trie (w.setCell ⟨b, o, none⟩ v) g tb :=
 ⟨h.lt, h.gb.other b o (by omega) v, h.b0.other b o (by omega) v, h.b1.other b o (by omega) v, h.b2.other b o (by omega) v, h.b3.other b o (by omega) v, h.b4.other b o (by omega) v, h.b5.other b o (by omega) v⟩
set_option maxHeartbeats 1600000 in
theorem once_any (b rb rc : Nat) (w : World) (hbr : ¬ rb = b) (cs : Array Value) (hcs : ∀ j, j < 6 → cs[j]? = keys6[j]?) (hK : Blk w rb cs) (hB : Blk w b (repV 0 1 .nilIface (.slice (some ⟨rb, 0, none⟩) 6 rc))) :
 Calls Tryz.prog 107 #[.pointer (some ⟨b, 0, none⟩)] w (fun e w' => e = .returned (.tuple #[]) ∧ ∃ g tb w1, Ext w w1 ∧ Trie w1 g tb ∧ w.heap.size ≤ g ∧ w.heap.size ≤ tb ∧ w' = (w1.setCell ⟨b, 3, none⟩ (.iface 208 (.pointer (some ⟨g, 0, none⟩)))).setCell ⟨b, 4, none⟩ (.slice none 0 0)) := by
 have HC := Hd (build_any b rb rc w hK.lt (fun j hj => (hK.cell j).trans (hcs j hj)) (hB.cell 4)); have HB := Hd hB; clear hK hB hcs; go_enter Tryz.func107, Tryz.ntmps107
 go_wp2_with fail; refine (HC.out).mono ?_; rintro e w' ⟨g, tb, rfl, hg, hx, ht⟩; have h := HB.out.ext hx; have c3 : w'.cell? ⟨b, 3, none⟩ = some .nilIface := h.cell 3; have c4 : w'.cell? ⟨b, 4, none⟩ = some (.slice (some ⟨rb, 0, none⟩) 6 rc) := h.cell 4; have f3 := h.free 3; have f4 := h.free 4; have HT := Hd ht; have HX := Hd hx; clear h ht hx; go_wp2_with fail; go_end0
 exact ⟨rfl, g, tb, w', HX.out, HT.out, hg, by have := HT.out.lt; omega, rfl⟩
theorem rdo_any (b rb rc : Nat) (w : World) (B : Nat) (hBb : B ≤ b) (hbr : ¬ rb = b) (cs : Array Value) (hcs : ∀ j, j < 6 → cs[j]? = keys6[j]?) (hK : Blk w rb cs) (hB : Blk w b (repV 0 0 .nilIface (.slice (some ⟨rb, 0, none⟩) 6 rc))) :
 Calls Tryz.prog 106 #[.pointer (some ⟨b, 0, none⟩), .func (.func 107) #[.pointer (some ⟨b, 0, none⟩)] #[]] w (fun e w' => e = .returned (.tuple #[]) ∧ Below B w w' ∧ ∃ g tb, w'.cell? ⟨b, 3, none⟩ = some (.iface 208 (.pointer (some ⟨g, 0, none⟩))) ∧ Trie w' g tb) := by
 have hb1 : Blk (w.setCell ⟨b, 1, none⟩ (.int .i32 1)) b (repV 0 1 .nilIface (.slice (some ⟨rb, 0, none⟩) 6 rc)) := hB.set 1 _ (by simp [repV]); have hk1 : Blk (w.setCell ⟨b, 1, none⟩ (.int .i32 1)) rb cs := hK.other b 1 hbr _
 refine (do_any b _ (fun w2 => Below B w w2 ∧ ∃ g tb, w2.cell? ⟨b, 3, none⟩ = some (.iface 208 (.pointer (some ⟨g, 0, none⟩))) ∧ Trie w2 g tb ∧ b < g ∧ b < tb) w (hB.cell 0) (hB.cell 1) (hB.free 0) (hB.free 1) _ rfl ((once_any b rb rc _ hbr cs hcs hk1 hb1).mono ?_)).mono ?_
 · rintro e w' ⟨rfl, g, tb, w1, hx, ht, hg, hgt, rfl⟩; have h1 := (hb1.ext hx).set 3 (.iface 208 (.pointer (some ⟨g, 0, none⟩))) (by simp [repV]); have h2 := h1.set 4 (.slice none 0 0) (by simp [repV]); have hlt := hb1.lt
   refine ⟨rfl, h2.cell 0, h2.cell 1, h2.free, Below.setCell (p := ⟨b, 4, none⟩) (Below.setCell (p := ⟨b, 3, none⟩) ((Below.setCell (p := ⟨b, 1, none⟩) (Below.refl B w) hBb _).trans (hx.mono (by have := hB.lt; simp; omega))) hBb _) hBb _, g, tb, h2.cell 3, trie_other (trie_other ht b 3 (by omega) (by omega) _) b 4 (by omega) (by omega) _, by omega, by omega⟩
 · rintro e w' ⟨rfl, w2, ⟨h1, g, tb, h3, h4, h5, h6⟩, rfl⟩; have hT : Trie w2.drew g tb := ⟨h4.lt, h4.gb.drew, h4.b0.drew, h4.b1.drew, h4.b2.drew, h4.b3.drew, h4.b4.drew, h4.b5.drew⟩
   refine ⟨rfl, Below.setCell (p := ⟨b, 1, none⟩) (Below.setCell (p := ⟨b, 0, none⟩) h1.drew hBb _) hBb _, g, tb, ?_, trie_other (trie_other hT b 0 h5 h6 _) b 1 h5 h6 _⟩; rw [World.cell?_setCell_other _ _ _ _ (by simp), World.cell?_setCell_other _ _ _ _ (by simp)]; simpa using h3
set_option maxHeartbeats 1600000 in
theorem newrep_any (rb : Nat) (w : World) (hK : Blk w rb keys6) :
 Calls Tryz.prog 87 #[.slice (some ⟨rb, 0, none⟩) 6 6] w (fun e w' => ∃ b rb' rc, e = .returned (.pointer (some ⟨b, 0, none⟩)) ∧ Ext w w' ∧ w.heap.size ≤ b ∧ ¬ rb' = b ∧ (∃ cs : Array Value, (∀ j, j < 6 → cs[j]? = keys6[j]?) ∧ Blk w' rb' cs) ∧ Blk w' b (repV 0 0 .nilIface (.slice (some ⟨rb', 0, none⟩) 6 rc))) := by
 have HK := Hd hK; have q0 : w.cell? ⟨rb, 0, none⟩ = some (.string ⟨#[92, 34]⟩) := hK.cell 0; have q1 : w.cell? ⟨rb, 1, none⟩ = some (.string ⟨#[34]⟩) := hK.cell 1; have q2 : w.cell? ⟨rb, 2, none⟩ = some (.string ⟨#[92, 92]⟩) := hK.cell 2; have q3 : w.cell? ⟨rb, 3, none⟩ = some (.string ⟨#[92, 92]⟩) := hK.cell 3; have q4 : w.cell? ⟨rb, 4, none⟩ = some (.string ⟨#[39]⟩) := hK.cell 4
 have q5 : w.cell? ⟨rb, 5, none⟩ = some (.string ⟨#[92, 39]⟩) := hK.cell 5; clear hK; have v1 : IntKind.i64.wrap (Int.tmod 6 2) = 0 := by decide
 go_enter Tryz.func87, Tryz.ntmps87
 go_wp2_with fail; go_ret; refine ⟨w.heap.size + 1, w.heap.size, _, rfl, (((ext_refl w).alloc (Nat.le_refl _) _).alloc (by simp) _).drew, by omega, by omega, ⟨_, fun j hj => ?_, ((Blk.new rfl _ _).alloc _).drew⟩, (Blk.new (by simp) _ _).drew⟩; rw [Array.getElem?_append_left (by simp; omega)]; rfl
set_option maxHeartbeats 1600000 in
theorem look_end (g tb : Nat) (w : World) (hT : Trie w g tb) :
 Calls Tryz.prog 268 #[.pointer (some ⟨g, 0, none⟩), .string ⟨#[]⟩, .bool false] w (fun e w' => e = .returned (.tuple #[.string ⟨#[]⟩, .int .i64 0, .bool false]) ∧ Ext w w') := by
 have hp := hT.gb.prio; clear hT; have hem : ByteArray.empty = (⟨#[]⟩ : ByteArray) := rfl; go_enter Tryz.func268, Tryz.ntmps268
 go_wp2_with fail; refine wp_loop_rounds 1 ?_; rw [rounds_succ]; go_wp2_with fail; go_ret3; exact ⟨rfl, ext_refl _⟩
theorem gsw_any (q : Nat) (w : World) : Calls Tryz.prog 267 #[.iface 290 (.pointer (some ⟨q, 0, none⟩))] w (fun e w' => e = .returned (.iface 290 (.pointer (some ⟨q, 0, none⟩))) ∧ w' = w) := by
 have hta : ∀ w : World, (Instr.typeAssert (.iface 290 (.pointer (some ⟨q, 0, none⟩))) 292 294 true).run Tryz.prog w = .ok (.tuple #[.iface 290 (.pointer (some ⟨q, 0, none⟩)), .bool true]) w := fun w => by kernel_rfl
 go_enter Tryz.func267, Tryz.ntmps267
 go_wp2_with fail; go_ret; exact ⟨rfl, rfl⟩
set_option maxHeartbeats 1600000 in
theorem aw_any (q bb : Nat) (w : World) (h0 : w.cell? ⟨q, 0, none⟩ = some (.slice (some ⟨bb, 0, none⟩) 0 1)) (f0 : w.frozen? ⟨q, 0, none⟩ = false) (hB : Blk w bb #[.int .u8 0]) (hqb : ¬ q = bb) (hq : q < w.heap.size) :
 Calls Tryz.prog 282 #[.pointer (some ⟨q, 0, none⟩), .string ⟨#[97]⟩] w (fun e w' => e = .returned (.tuple #[.int .i64 1, .nilIface]) ∧ w' = (w.setCell ⟨bb, 0, none⟩ (.int .u8 97)).setCell ⟨q, 0, none⟩ (.slice (some ⟨bb, 0, none⟩) 1 1)) := by
 have b0 : w.cell? ⟨bb, 0, none⟩ = some (.int .u8 0) := hB.cell 0; have g0 := hB.free 0; have hbl := hB.lt; clear hB; go_enter Tryz.func282, Tryz.ntmps282
 go_wp2_with fail; go_ret2; exact ⟨rfl, rfl⟩
theorem Trie.drew {w : World} {g tb : Nat} (h : Trie w g tb) : Trie w.drew g tb := ⟨h.lt, h.gb.drew, h.b0.drew, h.b1.drew, h.b2.drew, h.b3.drew, h.b4.drew, h.b5.drew⟩
set_option maxHeartbeats 1600000 in
theorem gwrite_a (g tb q bb B : Nat) (w : World) (hT : Trie w g tb) (hQ : Blk w q #[.slice (some ⟨bb, 0, none⟩) 0 1]) (hB : Blk w bb #[.int .u8 0]) (hqb : ¬ q = bb) (hBq : B ≤ q) (hBb : B ≤ bb) :
 Calls Tryz.prog 266 #[.pointer (some ⟨g, 0, none⟩), .iface 290 (.pointer (some ⟨q, 0, none⟩)), .string ⟨#[97]⟩] w (fun e w' => e = .returned (.tuple #[.int .i64 1, .nilIface]) ∧ Below B w w' ∧ Blk w' q #[.slice (some ⟨bb, 0, none⟩) 1 1] ∧ Blk w' bb #[.int .u8 97]) := by
 have hlq := hQ.lt; have HQ := Hd hQ; have HB := Hd hB; clear hQ hB; have HT := Hd hT; have hp := hT.gb.prio; have hs := hT.gb.siz; have hm := hT.gb.map 97 (by omega); simp only [Nat.reduceAdd] at hm; have hm' : w.cell? ⟨g, 103, none⟩ = some (.int .u8 3) := hm; clear hT hm; have hem : ByteArray.empty = (⟨#[]⟩ : ByteArray) := rfl; have e97 : ((⟨#[97]⟩ : ByteArray)[0]'(by decide)).toNat = 97 := rfl
 go_enter Tryz.func266, Tryz.ntmps266
 go_wp2_with fail; refine (gsw_any q _).mono ?_; rintro e w' ⟨rfl, rfl⟩; go_wp2_with fail; refine wp_loop_rounds 3 ?_; rw [rounds_succ]; go_wp2_with fail; go_region
 go_wp2_with fail; rw [rounds_succ]; go_wp2_with fail; refine (look_end g tb _ HT.out.drew).mono ?_; rintro e w2 ⟨rfl, hx⟩; have HX := Hd hx; clear hx hp hs hm'; go_wp2_with fail; rw [rounds_succ]; go_wp2_with fail; have hmf : ∀ (fn : Fn) (first cap : Array Value) (w : World), (Instr.makeFunc fn first cap).run Tryz.prog w = .ok (.func fn first cap) w := fun _ _ _ _ => rfl
 have hq2 := HQ.out.drew.ext HX.out; have hb2 := HB.out.drew.ext HX.out; have HQ2 := Hd hq2; have HB2 := Hd hb2; have HC := Hd (aw_any q bb w2.drew (hq2.drew.cell 0) (hq2.drew.free 0) hb2.drew hqb hq2.drew.lt); clear hq2 hb2 HQ HB HT hem e97; have hna : ∀ w : World, (nilAhead 403 290 (.pointer (some ⟨q, 0, none⟩)) "WriteString").run Tryz.prog w = .ok (some false) w := fun w => by kernel_rfl
 have hme : ∀ w : World, (method 403 290 (.pointer (some ⟨q, 0, none⟩)) "WriteString").run Tryz.prog w = .ok (282, .pointer (some ⟨q, 0, none⟩)) w := fun w => by kernel_rfl
 go_region_with (go_at_call 282; go_loud (refine HC.out.mono ?_; rintro e w' ⟨rfl, rfl⟩))
 all_goals go_wp2_with fail
 all_goals
  go_ret2; refine ⟨rfl, ?_, ?_, ?_⟩
  · have h1 : Below B w' w'.drew := (Below.refl _ _).drew; have h2 : Below B w' w2 := h1.trans (HX.out.mono (by have := hlq; simp; omega)); exact (Below.setCell (p := ⟨q, 0, none⟩) (Below.setCell (p := ⟨bb, 0, none⟩) h2 hBb _) hBq _).drew
  · exact ((HQ2.out.other bb 0 hqb _).set 0 _ (by simp)).drew
  · exact ((HB2.out.set 0 _ (by simp)).other q 0 (fun e => hqb e.symm) _).drew
set_option maxHeartbeats 1600000 in
theorem grep_a (g tb : Nat) (w : World) (hT : Trie w g tb) :
 Calls Tryz.prog 265 #[.pointer (some ⟨g, 0, none⟩), .string ⟨#[97]⟩] w (fun e w' => e = .returned (.string ⟨#[97]⟩) ∧ Ext w w') := by
 have hms : ∀ w : World, (Instr.makeSlice 289 (.int .i64 0) (.int .i64 1)).run Tryz.prog w = .ok (.slice (some ⟨w.heap.size, 0, none⟩) 0 1) (w.alloc (.cells #[.int .u8 0] 5)) := fun w => by kernel_rfl
 have HT := Hd hT; clear hT; go_enter Tryz.func265, Tryz.ntmps265
 go_wp2_with fail; refine (gwrite_a g tb (w.heap.size + 1) w.heap.size w.heap.size _ (HT.out.ext (((ext_refl w).alloc (Nat.le_refl _) _).alloc (by simp) _)) (Blk.new (by simp) _ _) ((Blk.new rfl _ _).alloc _) (by omega) (by omega) (by omega)).mono ?_; rintro e w' ⟨rfl, hb, hq, hbb⟩; have HB : Hid (Ext w w') := Hd ((((ext_refl w).alloc (Nat.le_refl _) _).alloc (by simp) _).trans hb)
 have c0 : w'.cell? ⟨w.heap.size + 1, 0, none⟩ = some (.slice (some ⟨w.heap.size, 0, none⟩) 1 1) := hq.cell 0; have c1 : w'.cell? ⟨w.heap.size, 0, none⟩ = some (.int .u8 97) := hbb.cell 0; have hbs : Bytes w' (.slice (some ⟨w.heap.size, 0, none⟩) 1 1) [97] := Bytes.mk (fun _ => ⟨w.heap.size, 0, rfl, hbb.lt, fun i hi => by
  obtain rfl : i = 0 := by simpa using hi
  exact c1⟩) rfl (by omega) (by omega) (by omega)
 have hcv : (convert 289 9 (.slice (some ⟨w.heap.size, 0, none⟩) 1 1)).run Tryz.prog w' = .ok (.string ⟨#[97]⟩) w' :=
  run_string_of_bytes (P := Tryz.prog) w' hbs 289 9 5 Tryz.underlying289 Tryz.underlying5 Tryz.underlying9
 clear hb hq hbb HT hbs; go_wp2_with fail; go_ret; exact ⟨rfl, HB.out⟩
set_option maxHeartbeats 1600000 in
theorem rep_a (b rb rc B : Nat) (w : World) (hBb : B ≤ b) (hbr : ¬ rb = b) (cs : Array Value) (hcs : ∀ j, j < 6 → cs[j]? = keys6[j]?) (hK : Blk w rb cs) (hB : Blk w b (repV 0 0 .nilIface (.slice (some ⟨rb, 0, none⟩) 6 rc))) :
 Calls Tryz.prog 88 #[.pointer (some ⟨b, 0, none⟩), .string ⟨#[97]⟩] w (fun e w' => e = .returned (.string ⟨#[97]⟩) ∧ Below B w w') := by
 have hmf : ∀ (fn : Fn) (first cap : Array Value) (w : World), (Instr.makeFunc fn first cap).run Tryz.prog w = .ok (.func fn first cap) w := fun _ _ _ _ => rfl; have hme : ∀ (g : Nat) (w : World), (method 403 208 (.pointer (some ⟨g, 0, none⟩)) "Replace").run Tryz.prog w = .ok (265, .pointer (some ⟨g, 0, none⟩)) w := fun g w => by kernel_rfl
 have hlt := hB.lt; have HC := Hd (rdo_any b rb rc w B hBb hbr cs hcs hK hB); clear hK hB hcs; go_enter Tryz.func88, Tryz.ntmps88
 go_wp2_with fail; refine (HC.out).mono ?_; rintro e w1 ⟨rfl, hb, g, tb, c3, ht⟩; have HB := Hd hb; have HG := Hd (grep_a g tb w1 ht); clear hb ht HC; go_wp2_with fail; refine (HG.out).mono ?_; rintro e w2 ⟨rfl, hx⟩; have HE := Hd (HB.out.trans (hx.mono (by have := HB.out.size; omega))); clear hx; go_wp2_with fail; go_ret; exact ⟨rfl, HE.out⟩
set_option maxHeartbeats 1600000 in
theorem name_a (w : World) : Calls Tryz.prog 64 #[.string ⟨#[97]⟩] w (fun e w' => e = .returned (.string ⟨#[97]⟩) ∧ Ext w w') := by
 have hq : (quote (⟨#[97]⟩ : ByteArray).data.toList) = [34, 97, 34] := by decide +kernel
 have HQ := Hd (quote_any ⟨#[97]⟩ w (by decide)); rw [hq] at HQ; clear hq; have esl : (⟨#[34, 97, 34]⟩ : ByteArray).extract 1 2 = ⟨#[97]⟩ := by decide
 go_enter Tryz.func64, Tryz.ntmps64
 go_wp2_with fail; refine (HQ.out).mono ?_; rintro e w1 ⟨rfl, hx⟩; have HX := Hd hx; clear hx HQ; go_wp2_with fail; have v2 : IntKind.i64.wrap 2 = 2 := by decide
 go_region_with (first
  | (go_at_call 87; go_loud (refine (newrep_any _ _ (by first | exact Blk.new rfl _ _ | exact (Blk.new rfl _ _).drew | exact Blk.new (by simp) _ _)).mono ?_; rintro e wn ⟨b, rb', rc, rfl, hx2, hlt, hne, ⟨cs, hcs, hK⟩, hB⟩))
  | (go_at_call 88; go_loud (refine (rep_a b rb' rc w1.heap.size _ (by simp at hlt ⊢; omega) hne cs hcs (by first | exact hK | exact hK.drew) (by first | exact hB | exact hB.drew)).mono ?_; rintro e w' ⟨rfl, hb3⟩)))
 all_goals go_wp2_with fail
 all_goals
  go_ret; refine ⟨rfl, HX.out.trans (Below.mono (B := w1.heap.size) ?_ HX.out.size)⟩; first
   | exact (((ext_refl w1).alloc (Nat.le_refl _) _).trans (hx2.mono (by simp))).trans hb3
   | exact ((((ext_refl w1).alloc (Nat.le_refl _) _).drew).trans (hx2.mono (by simp))).trans hb3
   | exact ((((ext_refl w1).drew.alloc (Nat.le_refl _) _)).trans (hx2.mono (by simp))).trans hb3
   | exact ((((ext_refl w1).alloc (Nat.le_refl _) _)).trans (hx2.mono (by simp))).trans (hb3.drew)
end Go.Proofs.YtjapbjmeoaagmaaGreatDoor
end

section
set_option maxRecDepth 100000
namespace Go.Mem
open Go.RowKit
theorem putL_list : ∀ (us : List Value) (cur : Array Value) (k : Nat), k + us.length ≤ cur.size → (putL cur k us).toList = cur.toList.take k ++ us ++ cur.toList.drop (k + us.length)
 | [], cur, k, h => by simp [putL]
 | u :: us, cur, k, h => by
   simp only [List.length_cons] at h; rw [putL, putL_list us _ (k + 1) (by simp; omega), Array.toList_setIfInBounds]; have h1 : (cur.toList.set k u).take (k + 1) = cur.toList.take k ++ [u] := by
    rw [List.take_add_one, List.take_set_of_le (Nat.le_refl _), List.getElem?_set_self (by simp; omega)]; rfl
   rw [h1, List.drop_set_of_lt (by omega)]; simp only [List.length_cons, List.append_assoc, List.singleton_append, List.cons_append, List.nil_append]; rw [show k + 1 + us.length = k + (us.length + 1) by omega]
def RowC (w : World) (g : Nat) (z : Nat) (e : TypeId) (cap : Nat) (ms : List (List Value)) : Prop :=
 ∃ cur : Array Value, w.heap[g]? = some (.cells cur e (0, 0)) ∧ cur.size = cap * z ∧ ms.length ≤ cap ∧ cap ≤ maxLen ∧ (∀ c ∈ ms, c.length = z) ∧ cur.toList.take (ms.length * z) = ms.flatten
theorem flat_len {z : Nat} : ∀ {ms : List (List Value)}, (∀ c ∈ ms, c.length = z) → ms.flatten.length = ms.length * z
 | [], _ => by simp
 | c :: ms, h => by
   rw [List.flatten_cons, List.length_append, h c List.mem_cons_self, flat_len (fun d hd => h d (List.mem_cons_of_mem _ hd)), List.length_cons, Nat.add_mul]; omega
theorem flat_get {z : Nat} : ∀ {ms : List (List Value)} (h : ∀ c ∈ ms, c.length = z) (i : Nat) (hi : i < ms.length) (j : Nat) (hj : j < z), ms.flatten[i * z + j]? = ms[i][j]?
 | c :: ms, h, 0, hi, j, hj => by
   rw [List.flatten_cons, Nat.zero_mul, Nat.zero_add, List.getElem?_append_left (by rw [h c List.mem_cons_self]; exact hj)]; simp
 | c :: ms, h, i + 1, hi, j, hj => by
   have hc := h c List.mem_cons_self; rw [List.flatten_cons, List.getElem?_append_right (by rw [hc, Nat.add_mul]; omega), hc, show (i + 1) * z + j - z = i * z + j by rw [Nat.add_mul]; omega, flat_get (fun d hd => h d (List.mem_cons_of_mem _ hd)) i (by simpa using hi) j hj]; simp
theorem flat_set {z : Nat} : ∀ {ms : List (List Value)} (h : ∀ c ∈ ms, c.length = z) (i : Nat) (hi : i < ms.length) (a b : Nat) (us : List Value) (hab : a + us.length = b) (hb : b ≤ z), (ms.set i (ms[i].take a ++ us ++ ms[i].drop b)).flatten = ms.flatten.take (i * z + a) ++ us ++ ms.flatten.drop (i * z + b)
 | c :: ms, h, 0, hi, a, b, us, hab, hb => by
   have hc := h c List.mem_cons_self; simp only [List.set_cons_zero, List.getElem_cons_zero, List.flatten_cons, Nat.zero_mul, Nat.zero_add]; rw [List.take_append_of_le_length (by omega), List.drop_append_of_le_length (by omega)]; simp only [List.append_assoc]
 | c :: ms, h, i + 1, hi, a, b, us, hab, hb => by
   have hc := h c List.mem_cons_self; simp only [List.set_cons_succ, List.getElem_cons_succ, List.flatten_cons]; rw [flat_set (fun d hd => h d (List.mem_cons_of_mem _ hd)) i (by simpa using hi) a b us hab hb]; have e1 : c.take (c.length + (i * z + a)) = c := List.take_of_length_le (by omega); have e2 : c.drop (c.length + (i * z + b)) = [] := List.drop_of_length_le (by omega)
   rw [show (i + 1) * z + a = c.length + (i * z + a) by rw [hc, Nat.add_mul]; omega, show (i + 1) * z + b = c.length + (i * z + b) by rw [hc, Nat.add_mul]; omega, List.take_append, List.drop_append, e1, e2]; simp
theorem RowC.lt {w : World} {g z cap : Nat} {e : TypeId} {ms : List (List Value)} (h : RowC w g z e cap ms) : g < w.heap.size := by
 obtain ⟨cur, h1, _⟩ := h; exact (Array.getElem?_eq_some_iff.1 h1).1
theorem RowC.keep {w w' : World} {g z cap : Nat} {e : TypeId} {ms : List (List Value)} (h : RowC w g z e cap ms) (hb : w'.heap[g]? = w.heap[g]?) : RowC w' g z e cap ms := by
 obtain ⟨cur, h1, h2⟩ := h; exact ⟨cur, hb.trans h1, h2⟩
theorem RowC.cell {w : World} {g z cap : Nat} {e : TypeId} {ms : List (List Value)} (h : RowC w g z e cap ms) {i : Nat} (hi : i < ms.length) {j : Nat} (hj : j < z) : w.cell? ⟨g, i * z + j, none⟩ = ms[i][j]? := by
 obtain ⟨cur, h1, h2, h3, h4, h5, h6⟩ := h; rw [cell_of_cells h1, ← flat_get h5 i hi j hj, ← h6, List.getElem?_take, if_pos (by
  have : (i + 1) * z ≤ ms.length * z := Nat.mul_le_mul_right _ hi; rw [Nat.add_mul] at this; omega)]
 simp
theorem RowC.free {w : World} {g z cap : Nat} {e : TypeId} {ms : List (List Value)} (h : RowC w g z e cap ms) (o : Nat) : w.frozen? ⟨g, o, none⟩ = false := by
 obtain ⟨cur, h1, _⟩ := h; exact free_of_cells h1
theorem RowC.store {w : World} {g z cap : Nat} {e : TypeId} {ms : List (List Value)} (h : RowC w g z e cap ms) {i : Nat} (hi : i < ms.length) (a b : Nat) (us : List Value) (hab : a + us.length = b) (hb : b ≤ z) : RowC (storeL w g (i * z + a) us) g z e cap (ms.set i (ms[i].take a ++ us ++ ms[i].drop b)) := by
 obtain ⟨cur, h1, h2, h3, h4, h5, h6⟩ := h; have hfl := flat_len h5; have hiz : (i + 1) * z ≤ ms.length * z := Nat.mul_le_mul_right _ hi; have hmz : ms.length * z ≤ cap * z := Nat.mul_le_mul_right _ h3; rw [Nat.add_mul] at hiz; refine ⟨putL cur (i * z + a) us, storeL_self us h1, by rw [putL_size]; exact h2, by simpa using h3, h4, fun c hc => ?_, ?_⟩
 · rcases List.mem_or_eq_of_mem_set hc with hc | rfl
   · exact h5 c hc
   · have := h5 ms[i] (List.getElem_mem hi); simp; omega
 · rw [List.length_set, putL_list us cur _ (by omega), flat_set h5 i hi a b us hab hb, ← h6]; have hl : cur.toList.length = cap * z := by simpa using h2
   rw [List.take_append, List.take_of_length_le (by simp; omega)]; simp only [List.length_append, List.length_take, hl]; rw [Nat.min_eq_left (by omega), List.take_take, Nat.min_eq_left (by omega), List.take_drop, show i * z + a + us.length + (ms.length * z - (i * z + a + us.length)) = ms.length * z by omega]; rw [show i * z + b = i * z + a + us.length by omega]
end Go.Mem
namespace Go.Proofs.YtjapbjmeoaagmaaGreatDoor
open Go.RowKit Go.Mem Orange
def TMc (w : World) (A : Nat → Prop) (l : List Mem1) (ms : List (List Value)) : Prop :=
 l.length = ms.length ∧ ∀ i, (h : i < l.length) → (h' : i < ms.length) → ∃ c, TV w A l[i].2 c ∧ ms[i] = .string ⟨l[i].1.toArray⟩ :: c.toList
theorem TMc.of {w : World} {A : Nat → Prop} : ∀ {l : List Mem1} {cs : List Value}, TM w A l cs → ∃ ms, cs = ms.flatten ∧ TMc w A l ms
 | _, _, .nil => ⟨[], rfl, rfl, fun i h => absurd h (by simp)⟩
 | _, _, .cons (k := k) (c := c) h1 h2 => by
   obtain ⟨ms, rfl, h3, h4⟩ := TMc.of h2; refine ⟨(.string ⟨k.toArray⟩ :: c.toList) :: ms, by simp, by simp [h3], fun i hi hi' => ?_⟩; cases i with
   | zero => exact ⟨c, h1, rfl⟩
   | succ i => exact h4 i (by simpa using hi) (by simpa using hi')
theorem TMc.tm {w : World} {A : Nat → Prop} : ∀ {l : List Mem1} {ms : List (List Value)}, TMc w A l ms → TM w A l ms.flatten
 | [], [], _ => .nil
 | (k, t) :: l, m :: ms, h => by
   obtain ⟨h1, h2⟩ := h; obtain ⟨c, h3, h4⟩ := h2 0 (by simp) (by simp); have h4' : m = .string ⟨k.toArray⟩ :: c.toList := h4; rw [List.flatten_cons, h4']; exact .cons h3 (TMc.tm ⟨by simpa using h1, fun i hi hi' => h2 (i + 1) (by simpa using hi) (by simpa using hi')⟩)
 | [], m :: ms, h => by simp [TMc] at h
 | _ :: l, [], h => by simp [TMc] at h
theorem TMc.nine {w : World} {A : Nat → Prop} {l : List Mem1} {ms : List (List Value)} (h : TMc w A l ms) : ∀ c ∈ ms, c.length = 9 := by
 intro c hc; obtain ⟨i, hi, rfl⟩ := List.mem_iff_getElem.1 hc; obtain ⟨c', h1, h2⟩ := h.2 i (by rw [h.1]; exact hi) hi; rw [h2]; simp [h1.size]
theorem TMc.keep {w w' : World} {A A' : Nat → Prop} {l : List Mem1} {ms : List (List Value)} (h : TMc w A l ms) (hs : w.heap.size ≤ w'.heap.size) (hA : ∀ g, A g → g < w.heap.size → A' g ∧ w'.heap[g]? = w.heap[g]?) : TMc w' A' l ms :=
 ⟨h.1, fun i hi hi' => by obtain ⟨c, h1, h2⟩ := h.2 i hi hi'; exact ⟨c, h1.keep hs hA, h2⟩⟩
theorem TMc.set {w : World} {A : Nat → Prop} {l : List Mem1} {ms : List (List Value)} (h : TMc w A l ms) (i : Nat) {k : List UInt8} {x : Tree} {c : Array Value} (hx : TV w A x c) : TMc w A (l.set i (k, x)) (ms.set i (.string ⟨k.toArray⟩ :: c.toList)) := by
 refine ⟨by simp [h.1], fun j hj hj' => ?_⟩; by_cases e : i = j
 · subst e; rw [List.getElem_set_self, List.getElem_set_self]; exact ⟨c, hx, rfl⟩
 · rw [List.getElem_set_ne e, List.getElem_set_ne e]; exact h.2 j (by simpa using hj) (by simpa using hj')
def TLc (w : World) (A : Nat → Prop) (l : List Tree) (ms : List (List Value)) : Prop :=
 l.length = ms.length ∧ ∀ i, (h : i < l.length) → (h' : i < ms.length) → ∃ c, TV w A l[i] c ∧ ms[i] = c.toList
theorem TLc.of {w : World} {A : Nat → Prop} : ∀ {l : List Tree} {cs : List Value}, TL w A l cs → ∃ ms, cs = ms.flatten ∧ TLc w A l ms
 | _, _, .nil => ⟨[], rfl, rfl, fun i h => absurd h (by simp)⟩
 | _, _, .cons (c := c) h1 h2 => by
   obtain ⟨ms, rfl, h3, h4⟩ := TLc.of h2; refine ⟨c.toList :: ms, by simp, by simp [h3], fun i hi hi' => ?_⟩; cases i with
   | zero => exact ⟨c, h1, rfl⟩
   | succ i => exact h4 i (by simpa using hi) (by simpa using hi')
theorem TLc.tl {w : World} {A : Nat → Prop} : ∀ {l : List Tree} {ms : List (List Value)}, TLc w A l ms → TL w A l ms.flatten
 | [], [], _ => .nil
 | t :: l, m :: ms, h => by
   obtain ⟨h1, h2⟩ := h; obtain ⟨c, h3, h4⟩ := h2 0 (by simp) (by simp); have h4' : m = c.toList := h4; rw [List.flatten_cons, h4']; exact .cons h3 (TLc.tl ⟨by simpa using h1, fun i hi hi' => h2 (i + 1) (by simpa using hi) (by simpa using hi')⟩)
 | [], m :: ms, h => by simp [TLc] at h
 | _ :: l, [], h => by simp [TLc] at h
theorem TLc.eight {w : World} {A : Nat → Prop} {l : List Tree} {ms : List (List Value)} (h : TLc w A l ms) : ∀ c ∈ ms, c.length = 8 := by
 intro c hc; obtain ⟨i, hi, rfl⟩ := List.mem_iff_getElem.1 hc; obtain ⟨c', h1, h2⟩ := h.2 i (by rw [h.1]; exact hi) hi; rw [h2]; simp [h1.size]
theorem TLc.keep {w w' : World} {A A' : Nat → Prop} {l : List Tree} {ms : List (List Value)} (h : TLc w A l ms) (hs : w.heap.size ≤ w'.heap.size) (hA : ∀ g, A g → g < w.heap.size → A' g ∧ w'.heap[g]? = w.heap[g]?) : TLc w' A' l ms :=
 ⟨h.1, fun i hi hi' => by obtain ⟨c, h1, h2⟩ := h.2 i hi hi'; exact ⟨c, h1.keep hs hA, h2⟩⟩
theorem TLc.set {w : World} {A : Nat → Prop} {l : List Tree} {ms : List (List Value)} (h : TLc w A l ms) (i : Nat) {x : Tree} {c : Array Value} (hx : TV w A x c) : TLc w A (l.set i x) (ms.set i c.toList) := by
 refine ⟨by simp [h.1], fun j hj hj' => ?_⟩; by_cases e : i = j
 · subst e; rw [List.getElem_set_self, List.getElem_set_self]; exact ⟨c, hx, rfl⟩
 · rw [List.getElem_set_ne e, List.getElem_set_ne e]; exact h.2 j (by simpa using hj) (by simpa using hj')
theorem RowC.ofOwn {w : World} {base z n : Nat} {e : TypeId} {v : Value} {ms : List (List Value)} (h : w.ownsRow base e z v n ms.flatten) (hm : ∀ c ∈ ms, c.length = z) (hn : ms.length = n) (h0 : 0 < n) : ∃ g cap, v = .slice (some ⟨g, 0, none⟩) n cap ∧ base ≤ g ∧ RowC w g z e cap ms := by
 obtain ⟨h1, h2 | ⟨g, cap, cur, rfl, hb, hg, hnc, hcm, hcs, ht⟩⟩ := h
 · exact absurd h2.2 (by omega)
 · exact ⟨g, cap, rfl, hb, cur, hg, hcs, by omega, hcm, hm, by rw [hn]; exact ht⟩
theorem RowC.row {w : World} {A : Nat → Prop} {g z cap n : Nat} {e : TypeId} {ms : List (List Value)} (h : RowC w g z e cap ms) (hA : A g) (hn : ms.length = n) : RowAt w A z (.slice (some ⟨g, 0, none⟩) n cap) n ms.flatten := by
 obtain ⟨cur, h1, h2, h3, h4, h5, h6⟩ := h; have hfl := flat_len h5; refine ⟨by rw [hfl, hn], _, cap, rfl, by omega, by simpa [maxLen] using h4, fun _ => ⟨g, 0, rfl, hA, (Array.getElem?_eq_some_iff.1 h1).1, fun i hi => ?_⟩⟩; rw [Nat.zero_add, cell_of_cells h1]; have : ms.flatten[i]? = some ms.flatten[i] := by simp [hi]
 rw [← this, ← h6, List.getElem?_take, if_pos (by omega)]; simp
set_option maxHeartbeats 1600000 in
theorem cloneM_any (v : Value) (n : Nat) (cs : List Value) (A : Nat → Prop) (w : World) (h : RowAt w A 9 v n cs) (h1 : ∀ u ∈ cs, u.oneCell' = true) (hn : n ≤ 1000000) :
 Calls Tryz.prog 47 #[v] w (fun e w' => ∃ v', e = .returned v' ∧ w'.ownsRow w.heap.size 43 9 v' n cs ∧ Ext w w') := by
 have hq : ∀ (w : World) (a : Option Addr) (n c : Nat), (binOp .eql 25 (.slice a n c) (.slice none 0 0)).run Tryz.prog w = .ok (.bool a.isNone) w := fun w a n c => Lib.run_eql_slice_nil w _ _ a n c 0 0 Tryz.underlying25; obtain ⟨h0, a, cap, rfl, h2, h3, h4⟩ := id h; cases a with
 | none =>
   have hn0 : n = 0 := by
    rcases Nat.eq_zero_or_pos n with h' | h'
    · exact h'
    · obtain ⟨g, o, e, _⟩ := h4 h'; cases e
   subst hn0; obtain rfl : cs = [] := List.eq_nil_of_length_eq_zero (by simpa using h0); clear h h4 h0 h1; go_enter Tryz.func47, Tryz.ntmps47
   go_wp2_with fail; go_ret; exact ⟨_, rfl, World.ownsRow_nil _ _ _ _, ext_refl _⟩
 | some a =>
   have HR := Hd h; have HO := Hd h1; clear h h4 h0 h1; go_enter Tryz.func47, Tryz.ntmps47
   have hx : Ext w (w.alloc (.cells #[] 43)) := (ext_refl w).alloc (Nat.le_refl _) _; have hown : (w.alloc (.cells #[] 43)).ownsRow w.heap.size 43 9 (.slice (some ⟨w.heap.size, 0, none⟩) 0 0) 0 [] :=
    ⟨rfl, .inr ⟨w.heap.size, 0, #[], rfl, Nat.le_refl _, heap_alloc_new _ _, Nat.le_refl _, by simp only [maxLen]; omega, rfl, rfl⟩⟩
   have hsrc := (HR.out.keep (A' := fun _ => True) hx.size (fun g _ hlt => ⟨trivial, hx.block g hlt⟩)).src (P := Tryz.prog) (tx := 25) (e' := 43) (by kernel_rfl) (by decide) HO.out; go_wp2_with (first
    | (at_builtin; refine wpList_append_src _ rfl _ _ 25 25 rfl w.heap.size 43 _ _ 9 128 (by kernel_rfl) (by rfl) (by rfl) (by rfl) (by kernel_rfl) (by rfl) (by decide) _ 0 [] rfl hown _ n cs rfl hsrc (by simp only [maxLen]; omega) (by omega) hx.size ?_; intro v' w' ho' hg)
    | fail)
   go_ret; exact ⟨_, rfl, by simpa using ho', hx.trans (Below.ofGrown hg hown hx.size)⟩
theorem TM.one {w : World} {A : Nat → Prop} : ∀ {m : List Mem1} {cs : List Value}, TM w A m cs → ∀ u ∈ cs, u.oneCell' = true
 | _, _, .nil => fun u h => by cases h
 | _, _, .cons h1 h2 => fun u h => by
   simp only [List.mem_cons, List.mem_append] at h; rcases h with (rfl | h) | h
   · simp [Value.oneCell']
   · exact TV.one h1 u h
   · exact TM.one h2 u h
theorem tv_withM {w : World} {A : Nat → Prop} {t : Tree} {k : Int} {b : Bool} {d : Num} {s : List UInt8} {L : List Tree} {M : List Mem1} {vL vM : Value} {cl cm : List Value} (hk : k = t.kind ∧ b = t.bit ∧ d.neg = t.num.neg ∧ d.digits = t.num.digits ∧ d.exp = t.num.exp ∧ s = t.str) (hL : t.list = L) (h1 : TL w A L cl) (h2 : RowAt w A 8 vL L.length cl) (h3 : TM w A M cm) (h4 : RowAt w A 9 vM M.length cm) : TV w A (t.withM M) (cellsV k b d s vL vM) := by
 obtain ⟨tk, tb, tn, ts, tl, tm⟩ := t; obtain ⟨d1, d2, d3⟩ := d; obtain ⟨n1, n2, n3⟩ := tn; obtain ⟨e1, e2, e3, e4, e5, e6⟩ := hk; simp only [Tree.kind, Tree.bit, Tree.num, Tree.str, Tree.list] at e1 e2 e3 e4 e5 e6 hL; subst e1 e2 e3 e4 e5 e6 hL; exact TV.mk h1 h2 h3 h4
theorem tv_withL {w : World} {A : Nat → Prop} {t : Tree} {k : Int} {b : Bool} {d : Num} {s : List UInt8} {L : List Tree} {M : List Mem1} {vL vM : Value} {cl cm : List Value} (hk : k = t.kind ∧ b = t.bit ∧ d.neg = t.num.neg ∧ d.digits = t.num.digits ∧ d.exp = t.num.exp ∧ s = t.str) (hM : t.mems = M) (h1 : TL w A L cl) (h2 : RowAt w A 8 vL L.length cl) (h3 : TM w A M cm) (h4 : RowAt w A 9 vM M.length cm) : TV w A (t.withL L) (cellsV k b d s vL vM) := by
 obtain ⟨tk, tb, tn, ts, tl, tm⟩ := t; obtain ⟨d1, d2, d3⟩ := d; obtain ⟨n1, n2, n3⟩ := tn; obtain ⟨e1, e2, e3, e4, e5, e6⟩ := hk; simp only [Tree.kind, Tree.bit, Tree.num, Tree.str, Tree.mems] at e1 e2 e3 e4 e5 e6 hM; subst e1 e2 e3 e4 e5 e6 hM; exact TV.mk h1 h2 h3 h4
theorem KeptP.storeL {q : Nat} {w : World} (us : List Value) (k : Nat) : KeptP q w (storeL w q k us) := by
 induction us generalizing w k with
 | nil => exact KeptP.refl _ _
 | cons u us ih => exact (KeptP.set u).trans (ih (k + 1))
set_option maxHeartbeats 6400000 in
theorem lay_any (t x : Tree) (c cx : Array Value) (A : Nat → Prop) (s : PStep) (w : World) (h : TV w A t c) (hx : TV w A x cx) (hst : (Orange.stepT t s).isSome = true) (hll : t.list.length ≤ 1000000) (hml : t.mems.length ≤ 1000000) :
 Calls Tryz.prog 46 #[.agg c, .agg (cellsS s), .agg cx] w (fun e w' => ∃ c', e = .returned (.agg c') ∧ TV w' (fun g => A g ∨ w.heap.size ≤ g) (layT t s x) c' ∧ Ext w w') := by
 obtain ⟨k, b, d, ss, la, ln, lc, ma, mn, mc, rfl⟩ := h.eight; obtain ⟨xk, xb, xd, xs, xa1, xn1, xc1, xa2, xn2, xc2, rfl⟩ := hx.eight; obtain ⟨cl, cm, htl, hrl, htm, hrm, hk, hb, hd1, hd2, hd3, hss⟩ := tv_rows h; obtain ⟨_, a1, c1, ea, hl1, hl2, -⟩ := id hrl; simp only [Value.slice.injEq] at ea; obtain ⟨rfl, eln, rfl⟩ := ea; subst eln; obtain ⟨_, a2, c2, ea, hm1, hm2, -⟩ := id hrm
 simp only [Value.slice.injEq] at ea; obtain ⟨rfl, emn, rfl⟩ := ea; subst emn; obtain ⟨wA, ewA⟩ : ∃ W, w.alloc (.cells (cellsV k b d ss (.slice la t.list.length lc) (.slice ma t.mems.length mc)) 27) = W := ⟨_, rfl⟩
 have nwA : wA.heap[w.heap.size]? = some (.cells (cellsV k b d ss (.slice la t.list.length lc) (.slice ma t.mems.length mc)) 27) := by rw [← ewA]; exact heap_alloc_new _ _
 have xwA : Ext w wA := by rw [← ewA]; exact (ext_refl _).alloc (Nat.le_refl _) _
 have swA : wA.heap.size = w.heap.size + 1 := by rw [← ewA]; simp
 obtain ⟨wB, ewB⟩ : ∃ W, wA.alloc (.cells (cellsS s) 46) = W := ⟨_, rfl⟩
 have nwB : wB.heap[wA.heap.size]? = some (.cells (cellsS s) 46) := by rw [← ewB]; exact heap_alloc_new _ _
 have xwB : Ext wA wB := by rw [← ewB]; exact (ext_refl _).alloc (Nat.le_refl _) _
 have swB : wB.heap.size = wA.heap.size + 1 := by rw [← ewB]; simp
 obtain ⟨wC, ewC⟩ : ∃ W, wB.alloc (.cells (cellsV xk xb xd xs (.slice xa1 xn1 xc1) (.slice xa2 xn2 xc2)) 27) = W := ⟨_, rfl⟩
 have nwC : wC.heap[wB.heap.size]? = some (.cells (cellsV xk xb xd xs (.slice xa1 xn1 xc1) (.slice xa2 xn2 xc2)) 27) := by rw [← ewC]; exact heap_alloc_new _ _
 have xwC : Ext wB wC := by rw [← ewC]; exact (ext_refl _).alloc (Nat.le_refl _) _
 have swC : wC.heap.size = wB.heap.size + 1 := by rw [← ewC]; simp
 obtain ⟨wD, ewD⟩ : ∃ W, wC.alloc (.cells zeroV 27) = W := ⟨_, rfl⟩
 have nwD : wD.heap[wC.heap.size]? = some (.cells zeroV 27) := by rw [← ewD]; exact heap_alloc_new _ _
 have xwD : Ext wC wD := by rw [← ewD]; exact (ext_refl _).alloc (Nat.le_refl _) _
 have swD : wD.heap.size = wC.heap.size + 1 := by rw [← ewD]; simp
 have hE := ext_trans (ext_trans (ext_trans xwA xwB) xwC) xwD; have HTL := Hd (htl.keep (w' := wD) (A' := fun g => A g ∧ g < w.heap.size) hE.size (fun g hg hlt => ⟨⟨hg, hlt⟩, hE.block g hlt⟩)); have HRL := Hd (hrl.keep (w' := wD) (A' := fun g => A g ∧ g < w.heap.size) hE.size (fun g hg hlt => ⟨⟨hg, hlt⟩, hE.block g hlt⟩))
 have HTM := Hd (htm.keep (w' := wD) (A' := fun g => A g ∧ g < w.heap.size) hE.size (fun g hg hlt => ⟨⟨hg, hlt⟩, hE.block g hlt⟩)); have HRM := Hd (hrm.keep (w' := wD) (A' := fun g => A g ∧ g < w.heap.size) hE.size (fun g hg hlt => ⟨⟨hg, hlt⟩, hE.block g hlt⟩)); have HTX := Hd (hx.keep (w' := wD) (A' := fun g => A g ∧ g < w.heap.size) hE.size (fun g hg hlt => ⟨⟨hg, hlt⟩, hE.block g hlt⟩))
 rw [swA] at nwB; rw [swB, swA] at nwC; rw [swC, swB, swA] at nwD; have HC : Hid (VAt wD w.heap.size (cellsV k b d ss (.slice la t.list.length lc) (.slice ma t.mems.length mc))) := Hd (VAt.ext (VAt.ext (VAt.ext nwA xwB) xwC) xwD); have HSP : Hid (SpAt wD (w.heap.size + 1) s) := Hd (SpAt.ext (SpAt.ext nwB xwC) xwD)
 have HX : Hid (VAt wD (w.heap.size + 1 + 1) (cellsV xk xb xd xs (.slice xa1 xn1 xc1) (.slice xa2 xn2 xc2))) := Hd (VAt.ext nwC xwD); have HV2 : Hid (VAt wD (w.heap.size + 1 + 1 + 1) zeroV) := Hd nwD; have HE := Hd hE; have HTK : Hid (k = t.kind ∧ b = t.bit ∧ d.neg = t.num.neg ∧ d.digits = t.num.digits ∧ d.exp = t.num.exp ∧ ss = t.str) := Hd ⟨hk, hb, hd1, hd2, hd3, hss⟩; have EA := Hd ewA
 have EB := Hd ewB; have EC := Hd ewC; have ED := Hd ewD; have HST := Hd hst; clear hk hb hd1 hd2 hd3 hss hst htl hrl htm hrm h hx hE nwA nwB nwC nwD xwA xwB xwC xwD swA swB swC swD ewA ewB ewC ewD; obtain ⟨L, hL⟩ := Ex t.list; obtain ⟨M, hM⟩ := Ex t.mems; rw [hL] at HTL HRL HC EA hl1 hll ⊢; rw [hM] at HTM HRM HC EA hm1 hml ⊢; have HL := Hd hL; have HM := Hd hM; clear hL hM
 simp only [cellsV, zeroV, noL, Num.zero, cellsS] at HC HV2 HSP HX EA EB EC ED ⊢; go_enter Tryz.func46, Tryz.ntmps46
 go_upto_region 1 with fail; rw [EA.out, EB.out, EC.out, ED.out]; obtain ⟨S, hS⟩ := Ex w.heap.size; rw [hS] at HC HV2 HSP HX HTM HRM HTL HRL HTX ⊢; have HS := Hd hS; clear hS EA EB EC ED; obtain ⟨c0, c1, c2, c3, c4, c5, c6, c7⟩ := HC.out.c8; obtain ⟨s0, s1, s2⟩ := HSP.out.cell; by_cases hn : s.named = true
 · have HF : Hid (findM s.name M ≠ none ∧ layT t s x = t.withM (setM s.name x M)) := Hd (by
    have h1 := HST.out; unfold Orange.stepT at h1; rw [if_pos hn] at h1; unfold getT at h1; rw [HM.out] at h1; refine ⟨fun e => ?_, ?_⟩
    · rw [e] at h1; simp at h1
    · unfold layT; rw [if_pos hn, HM.out])
   obtain ⟨i, hlt, HI⟩ : ∃ i, ∃ h : i < M.length, Hid (fIdx (hasKey s.name) M = i ∧ M[i].1 = s.name ∧ layT t s x = t.withM (M.set i (s.name, x))) := by
    rcases find_idx s.name M with ⟨hf, hi⟩ | ⟨i, hlt, hi, hk, hf, hse, -⟩
    · exact absurd hf HF.out.1
    · exact ⟨i, hlt, Hd ⟨hi, hk, by rw [← hse]; exact HF.out.2⟩⟩
   obtain ⟨ms, rfl, htc⟩ := TMc.of HTM.out; have HTC := Hd htc; clear htc HF; go_wp2_with fail; have hSD := HV2.out.lt; refine (cloneM_any _ M.length _ _ wD HRM.out (TM.one HTM.out) hml).mono ?_; rintro e w2 ⟨v', rfl, hown, hw2⟩; obtain ⟨g, cap, rfl, hgS, hrow⟩ := RowC.ofOwn hown HTC.out.nine HTC.out.1.symm (by omega); have HROW := Hd hrow; have hgr := hrow.lt; clear c0 c1 c2 c3 c4 c5 c6 c7
   clear s0 s1 s2 hown hrow; replace HC := Hd (HC.out.ext hw2); replace HSP := Hd (HSP.out.ext hw2); replace HX := Hd (HX.out.ext hw2); replace HV2 := Hd (HV2.out.ext hw2); replace HE := Hd (ext_trans HE.out hw2); replace HTC := Hd (HTC.out.keep (w' := w2) (A' := fun g => A g ∧ g < S) hw2.size (fun g hg hlt => ⟨hg, hw2.block g hlt⟩))
   replace HTX := Hd (HTX.out.keep (w' := w2) (A' := fun g => A g ∧ g < S) hw2.size (fun g hg hlt => ⟨hg, hw2.block g hlt⟩)); replace HTL := Hd (HTL.out.keep (w' := w2) (A' := fun g => A g ∧ g < S) hw2.size (fun g hg hlt => ⟨hg, hw2.block g hlt⟩)); replace HRL := Hd (HRL.out.keep (w' := w2) (A' := fun g => A g ∧ g < S) hw2.size (fun g hg hlt => ⟨hg, hw2.block g hlt⟩)); clear hw2 HTM HRM
   obtain ⟨c0, c1, c2, c3, c4, c5, c6, c7⟩ := HC.out.c8; obtain ⟨f0, f1, f2, f3, f4, f5, f6, f7⟩ := HC.out.f8; obtain ⟨s0, s1, s2⟩ := HSP.out.cell; go_upto_region 3 with fail; obtain ⟨wr, hwr⟩ := Ex (w2.setCell ⟨S, 7, none⟩ (.slice (some ⟨g, 0, none⟩) M.length cap)); have hk : KeptP S w2 wr := by rw [← hwr]; exact KeptP.set _
   have hSg : S < g := by omega
   have HSZ : Hid (S + 1 + 1 + 1 < g) := Hd (by omega); clear hSD; replace HC : Hid (VAt wr S (cellsV k b d ss (.slice la L.length lc) (.slice (some ⟨g, 0, none⟩) M.length cap))) := Hd (by rw [← hwr]; exact HC.out.set1 7 _); replace HSP : Hid (SpAt wr (S + 1) s) := Hd (by unfold SpAt; rw [hk.block _ (Array.getElem?_eq_some_iff.1 HSP.out).1 (by omega)]; exact HSP.out)
   replace HX := Hd (HX.out.kept hk (by omega)); replace HV2 := Hd (HV2.out.kept hk (by omega)); replace HE := Hd (ext_keptP HE.out hk (by rw [HS.out]; exact Nat.le_refl _)); replace HTC := Hd (HTC.out.keep (w' := wr) (A' := fun g => A g ∧ g < S) hk.size (fun g hg hlt => ⟨hg, hk.block g hlt (by have := hg.2; omega)⟩))
   replace HTX := Hd (HTX.out.keep (w' := wr) (A' := fun g => A g ∧ g < S) hk.size (fun g hg hlt => ⟨hg, hk.block g hlt (by have := hg.2; omega)⟩)); replace HTL := Hd (HTL.out.keep (w' := wr) (A' := fun g => A g ∧ g < S) hk.size (fun g hg hlt => ⟨hg, hk.block g hlt (by have := hg.2; omega)⟩))
   replace HRL := Hd (HRL.out.keep (w' := wr) (A' := fun g => A g ∧ g < S) hk.size (fun g hg hlt => ⟨hg, hk.block g hlt (by have := hg.2; omega)⟩)); replace HROW := Hd (HROW.out.keep (hk.block _ hgr (by omega))); rw [hwr]; clear hwr hk hgr; clear c0 c1 c2 c3 c4 c5 c6 c7; clear f0 f1 f2 f3 f4 f5 f6 f7; clear s0 s1 s2
   have HCALL : Hid (∀ w', Ext wr w' → Calls Tryz.prog 52 #[.slice (some ⟨g, 0, none⟩) M.length cap, .string ⟨s.name.toArray⟩] w' (fun e w'' => e = .returned (.int .i64 i) ∧ Ext w' w'')) := Hd (fun w' hw => by
    have h1 := place_any s.name (.slice (some ⟨g, 0, none⟩) M.length cap) M ms.flatten (fun _ => True) w' (RowC.row (HROW.out.keep (hw.block _ HROW.out.lt)) trivial HTC.out.1.symm) ((HTC.out.keep (A' := fun _ => True) hw.size (fun g hg hlt => ⟨trivial, hw.block g hlt⟩)).tm); rw [HI.out.1] at h1; exact h1)
   refine GrowS.wp_region_restW (G0 := Ext) (G1 := fun w1 w' => KeptP g w1 w' ∧ RowC w' g 9 43 cap (ms.set i (.string ⟨s.name.toArray⟩ :: (cellsV xk xb xd xs (.slice xa1 xn1 xc1) (.slice xa2 xn2 xc2)).toList))) (B0 := fun w' => Ext wr w') (B1 := fun w' => KeptP g wr w' ∧ RowC w' g 9 43 cap (ms.set i (.string ⟨s.name.toArray⟩ :: (cellsV xk xb xd xs (.slice xa1 xn1 xc1) (.slice xa2 xn2 xc2)).toList))) (E := fun _ _ => False) (anc := fun j => [])
    (I := fun j => if j = 6 then some (GrowS.Spec.val _ (.int .i64 i)) else if j = 10 then some (GrowS.Spec.val _ undef) else none) 10 11 (fun j => if j = 10 then [0, 1, 2, 3, 4, 5, 6, 7, 8, 9] else if j = 9 then [8] else []) (Array.replicate 11 true)
    (by kernel_rfl) (by kernel_rfl) (by kernel_rfl) (by kernel_rfl) (by kernel_rfl) (by kernel_rfl) ?_ ?_ ?_ ?_ ?_ ?_
   · exact fun w w' h hg => ext_trans h hg
   · exact fun w1 w' h hg => ⟨h.1.trans (KeptP.ofExt hg), h.2.keep (hg.block _ h.2.lt)⟩
   · exact fun w1 w' h hg => ⟨(KeptP.ofExt h).trans hg.1, hg.2⟩
   · exact fun _ _ _ _ h => h.elim
   · exact (ext_refl _).drew
   simp only [List.take_succ_cons, List.take_zero, List.drop_succ_cons, List.drop_zero]; have hlti : (i : Int) < M.length := by omega
   have hi0 : (0 : Int) ≤ i := by omega
   repeat
    (refine GrowS.Wk.step (fun K hK => ?_)
     first
     | (refine GrowS.step_read (by rfl) (by rfl) (fun w => ext_refl w) ?_
        apply Exists.intro; refine ⟨fun w hB hF => ?_, ?_⟩
        · replace hB : Ext wr w := hB; have HCW := HC.out.ext hB; have HXW := HX.out.ext hB; obtain ⟨c0, c1, c2, c3, c4, c5, c6, c7⟩ := HCW.c8; obtain ⟨s0, s1, s2⟩ := (HSP.out.ext hB).cell; obtain ⟨x0, x1, x2, x3, x4, x5, x6, x7⟩ := HXW.c8; go_simp; try exact rfl
        go_simp; refine hK _ _ ?_; clear hK K)
     | (refine GrowS.step_off (by rfl) ?_
        go_simp; refine hK _ _ ?_; clear hK K))
   refine GrowS.Wk.step (fun K hK => ?_); refine GrowS.step_rel (by rfl) (by rfl) (fun w' hB hF => ?_) (fun v hv => ?_)
   · replace hB : Ext wr w' := hB; go_simp; refine GrowS.relUpon_enter ((HCALL.out w' hB).mono ?_); rintro e w'' ⟨rfl, hw''⟩; exact .inl ⟨_, rfl, hw'', rfl, trivial⟩
   obtain rfl : v = .int .i64 i := hv; go_simp; refine hK _ _ ?_; clear hK K; repeat
    (refine GrowS.Wk.step (fun K hK => ?_)
     first
     | (refine GrowS.step_read (by rfl) (by rfl) (fun w => ext_refl w) ?_
        apply Exists.intro; refine ⟨fun w hB hF => ?_, ?_⟩
        · replace hB : Ext wr w := hB; have HXW := HX.out.ext hB; obtain ⟨x0, x1, x2, x3, x4, x5, x6, x7⟩ := HXW.c8; go_simp; try exact rfl
        go_simp; refine hK _ _ ?_; clear hK K)
     | (refine GrowS.step_off (by rfl) ?_
        go_simp; refine hK _ _ ?_; clear hK K))
   refine GrowS.Wk.step (fun K hK => ?_); refine GrowS.step_rel (by rfl) (by rfl) (fun w' hB hF => ?_) (fun v hv => ?_)
   · replace hB : Ext wr w' := hB; have HW := Hd (HROW.out.keep (hB.block _ HROW.out.lt)); have him : i < ms.length := by rw [← HTC.out.1]; exact hlt
     obtain ⟨oc, htv0, hoc⟩ := HTC.out.2 i hlt him; have h9 : ms[i].length = 9 := HTC.out.nine _ (List.getElem_mem him); have q1 := HW.out.cell him (j := 1) (by omega); have q2 := HW.out.cell him (j := 2) (by omega); have q3 := HW.out.cell him (j := 3) (by omega); have q4 := HW.out.cell him (j := 4) (by omega); have q5 := HW.out.cell him (j := 5) (by omega)
     have q6 := HW.out.cell him (j := 6) (by omega); have q7 := HW.out.cell him (j := 7) (by omega); have q8 := HW.out.cell him (j := 8) (by omega); have fr := HW.out.free; obtain ⟨zk, zb, zd, zs, za1, zn1, zc1, za2, zn2, zc2, rfl⟩ := htv0.eight; simp [hoc] at q1 q2 q3 q4 q5 q6 q7 q8
     have hst := HW.out.store him 1 9 (cellsV xk xb xd xs (.slice xa1 xn1 xc1) (.slice xa2 xn2 xc2)).toList rfl (by omega); rw [hoc] at hst; have HST2 := Hd hst; have HKS := Hd (KeptP.storeL (q := g) (w := w') (cellsV xk xb xd xs (.slice xa1 xn1 xc1) (.slice xa2 xn2 xc2)).toList (i * 9 + 1)); have hkey : M[i].1 = s.name := HI.out.2.1; rw [hkey] at HST2; clear hst hoc h9 htv0; go_simp
     exact ⟨⟨HKS.out, HST2.out⟩, rfl, trivial⟩
   obtain rfl : v = undef := hv; go_simp; refine hK _ _ ?_; clear hK K; refine GrowS.Wk.nil ?_; intro w4 hB hF; show wpAny _ _ _ _ 0 _ _ _; refine ⟨by decide +kernel, ?_⟩; obtain ⟨hk4, hrow4⟩ := hB; replace HC := Hd (HC.out.kept hk4 (by have := HSZ.out; omega)); replace HV2 := Hd (HV2.out.kept hk4 (by have := HSZ.out; omega)); replace HE := Hd (ext_keptP HE.out hk4 (by rw [HS.out]; omega))
   replace HTC := Hd (HTC.out.keep (w' := w4) (A' := fun g => A g ∧ g < S) hk4.size (fun g hg hlt => ⟨hg, hk4.block g hlt (by have := hg.2; omega)⟩)); replace HTX := Hd (HTX.out.keep (w' := w4) (A' := fun g => A g ∧ g < S) hk4.size (fun g hg hlt => ⟨hg, hk4.block g hlt (by have := hg.2; omega)⟩))
   replace HTL := Hd (HTL.out.keep (w' := w4) (A' := fun g => A g ∧ g < S) hk4.size (fun g hg hlt => ⟨hg, hk4.block g hlt (by have := hg.2; omega)⟩)); replace HRL := Hd (HRL.out.keep (w' := w4) (A' := fun g => A g ∧ g < S) hk4.size (fun g hg hlt => ⟨hg, hk4.block g hlt (by have := hg.2; omega)⟩))
   have HFIN : Hid (TV w4 (fun g => (A g ∧ g < S) ∨ S + 1 + 1 + 1 < g) (layT t s x) (cellsV k b d ss (.slice la L.length lc) (.slice (some ⟨g, 0, none⟩) M.length cap))) := Hd (by
    rw [HI.out.2.2]; refine tv_withM HTK.out HL.out (HTL.out.keep (Nat.le_refl _) (fun g hg _ => ⟨.inl hg, rfl⟩)) (HRL.out.keep (Nat.le_refl _) (fun g hg _ => ⟨.inl hg, rfl⟩)) (TMc.tm (TMc.set (HTC.out.keep (Nat.le_refl _) (fun g hg _ => ⟨.inl hg, rfl⟩)) i (HTX.out.keep (Nat.le_refl _) (fun g hg _ => ⟨.inl hg, rfl⟩)))) ?_; rw [List.length_set]
    exact RowC.row hrow4 (.inr HSZ.out) (by rw [List.length_set]; exact HTC.out.1.symm))
   clear hF hk4 hrow4 HCALL HROW HX HSP HTL HRL HTC HTX HI; obtain ⟨c0, c1, c2, c3, c4, c5, c6, c7⟩ := HC.out.c8; obtain ⟨y0, y1, y2, y3, y4, y5, y6, y7⟩ := HV2.out.c8; obtain ⟨z0, z1, z2, z3, z4, z5, z6, z7⟩ := HV2.out.f8; go_wp2_with fail
   have hV := VAt.store8 HV2.out (.int .i64 k) (.bool b) (.bool d.neg) (.string ⟨d.digits.toArray⟩) (.int .i64 d.exp) (.string ⟨ss.toArray⟩) (.slice la L.length lc) (.slice (some ⟨g, 0, none⟩) M.length cap); have HV := Hd hV; obtain ⟨v0, v1, v2, v3, v4, v5, v6, v7⟩ := HV.out.c8
   refine bodyPost_ret (v := .agg #[.int .i64 k, .bool b, .bool d.neg, .string ⟨d.digits.toArray⟩, .int .i64 d.exp, .string ⟨ss.toArray⟩, .slice la L.length lc, .slice (some ⟨g, 0, none⟩) M.length cap]) (by simp [results, Tryz.results46, go_sem, v0, v1, v2, v3, v4, v5, v6, v7]) rfl ?_
   exact ⟨_, rfl, HFIN.out.keep (by simp [World.setCell]) (fun g hg hlt => ⟨by rcases hg with hg | hg; exact .inl hg.1; exact .inr (by rw [HS.out]; omega), heap8 (by rcases hg with hg | hg; have := hg.2; omega; omega)⟩), ext_set8 HE.out (by rw [HS.out]; omega)⟩
 · replace hn : s.named = false := by simpa using hn
   obtain ⟨i, hlt, HI⟩ : ∃ i, ∃ h : i < L.length, Hid (s.pos = (i : Nat) ∧ layT t s x = t.withL (L.set i x)) := by
    have h1 := HST.out; unfold Orange.stepT at h1; rw [hn, if_neg (by simp), HL.out] at h1; by_cases hc : t.kind = 4 ∧ 0 ≤ s.pos ∧ s.pos < L.length
    · refine ⟨s.pos.toNat, by omega, Hd ⟨by omega, ?_⟩⟩; unfold layT; rw [hn, if_neg (by simp), HL.out]
    · rw [if_neg hc] at h1; cases h1
   obtain ⟨ms, rfl, htc⟩ := TLc.of HTL.out; have HTC := Hd htc; clear htc; go_wp2_with fail; have hSD := HV2.out.lt; refine (clone_any _ L.length _ _ wD HRL.out (TL.one HTL.out) hll).mono ?_; rintro e w2 ⟨v', rfl, hown, hw2⟩; obtain ⟨g, cap, rfl, hgS, hrow⟩ := RowC.ofOwn hown HTC.out.eight HTC.out.1.symm (by omega); have HROW := Hd hrow; have hgr := hrow.lt; clear c0 c1 c2 c3 c4 c5 c6 c7
   clear s0 s1 s2 hown hrow; replace HC := Hd (HC.out.ext hw2); replace HSP := Hd (HSP.out.ext hw2); replace HX := Hd (HX.out.ext hw2); replace HV2 := Hd (HV2.out.ext hw2); replace HE := Hd (ext_trans HE.out hw2); replace HTC := Hd (HTC.out.keep (w' := w2) (A' := fun g => A g ∧ g < S) hw2.size (fun g hg hlt => ⟨hg, hw2.block g hlt⟩))
   replace HTX := Hd (HTX.out.keep (w' := w2) (A' := fun g => A g ∧ g < S) hw2.size (fun g hg hlt => ⟨hg, hw2.block g hlt⟩)); replace HTM := Hd (HTM.out.keep (w' := w2) (A' := fun g => A g ∧ g < S) hw2.size (fun g hg hlt => ⟨hg, hw2.block g hlt⟩)); replace HRM := Hd (HRM.out.keep (w' := w2) (A' := fun g => A g ∧ g < S) hw2.size (fun g hg hlt => ⟨hg, hw2.block g hlt⟩)); clear hw2 HTL HRL
   obtain ⟨c0, c1, c2, c3, c4, c5, c6, c7⟩ := HC.out.c8; obtain ⟨f0, f1, f2, f3, f4, f5, f6, f7⟩ := HC.out.f8; obtain ⟨s0, s1, s2⟩ := HSP.out.cell; go_upto_region 5 with fail; obtain ⟨wr, hwr⟩ := Ex (w2.setCell ⟨S, 6, none⟩ (.slice (some ⟨g, 0, none⟩) L.length cap)); have hk : KeptP S w2 wr := by rw [← hwr]; exact KeptP.set _
   have hSg : S < g := by omega
   have HSZ : Hid (S + 1 + 1 + 1 < g) := Hd (by omega); clear hSD; replace HC : Hid (VAt wr S (cellsV k b d ss (.slice (some ⟨g, 0, none⟩) L.length cap) (.slice ma M.length mc))) := Hd (by rw [← hwr]; exact HC.out.set1 6 _); replace HSP : Hid (SpAt wr (S + 1) s) := Hd (by unfold SpAt; rw [hk.block _ (Array.getElem?_eq_some_iff.1 HSP.out).1 (by omega)]; exact HSP.out)
   replace HX := Hd (HX.out.kept hk (by omega)); replace HV2 := Hd (HV2.out.kept hk (by omega)); replace HE := Hd (ext_keptP HE.out hk (by rw [HS.out]; exact Nat.le_refl _)); replace HTC := Hd (HTC.out.keep (w' := wr) (A' := fun g => A g ∧ g < S) hk.size (fun g hg hlt => ⟨hg, hk.block g hlt (by have := hg.2; omega)⟩))
   replace HTX := Hd (HTX.out.keep (w' := wr) (A' := fun g => A g ∧ g < S) hk.size (fun g hg hlt => ⟨hg, hk.block g hlt (by have := hg.2; omega)⟩)); replace HTM := Hd (HTM.out.keep (w' := wr) (A' := fun g => A g ∧ g < S) hk.size (fun g hg hlt => ⟨hg, hk.block g hlt (by have := hg.2; omega)⟩))
   replace HRM := Hd (HRM.out.keep (w' := wr) (A' := fun g => A g ∧ g < S) hk.size (fun g hg hlt => ⟨hg, hk.block g hlt (by have := hg.2; omega)⟩)); replace HROW := Hd (HROW.out.keep (hk.block _ hgr (by omega))); rw [hwr]; clear hwr hk hgr; clear c0 c1 c2 c3 c4 c5 c6 c7; clear f0 f1 f2 f3 f4 f5 f6 f7; clear s0 s1 s2; have hlti : (i : Int) < L.length := by omega
   have hi0 : (0 : Int) ≤ i := by omega
   obtain ⟨c0, c1, c2, c3, c4, c5, c6, c7⟩ := HC.out.c8; obtain ⟨x0, x1, x2, x3, x4, x5, x6, x7⟩ := HX.out.c8; obtain ⟨s0, s1, s2⟩ := HSP.out.cell; rw [HI.out.1] at s1; have him : i < ms.length := by rw [← HTC.out.1]; exact hlt
   obtain ⟨oc, htv0, hoc⟩ := HTC.out.2 i hlt him; have q0 := HROW.out.cell him (j := 0) (by omega); have q1 := HROW.out.cell him (j := 1) (by omega); have q2 := HROW.out.cell him (j := 2) (by omega); have q3 := HROW.out.cell him (j := 3) (by omega); have q4 := HROW.out.cell him (j := 4) (by omega); have q5 := HROW.out.cell him (j := 5) (by omega); have q6 := HROW.out.cell him (j := 6) (by omega)
   have q7 := HROW.out.cell him (j := 7) (by omega); have fr := HROW.out.free; obtain ⟨zk, zb, zd, zs, za1, zn1, zc1, za2, zn2, zc2, rfl⟩ := htv0.eight; simp [hoc] at q0 q1 q2 q3 q4 q5 q6 q7
   have hst := HROW.out.store him 0 8 (cellsV xk xb xd xs (.slice xa1 xn1 xc1) (.slice xa2 xn2 xc2)).toList rfl (by omega); rw [hoc] at hst; have HST2 := Hd hst; have HKS := Hd (KeptP.storeL (q := g) (w := wr) (cellsV xk xb xd xs (.slice xa1 xn1 xc1) (.slice xa2 xn2 xc2)).toList (i * 8 + 0)); clear hst hoc htv0; go_upto_region 6 with fail
   obtain ⟨w4, hw4⟩ := Ex (((((((((wr.setCell ⟨g, i * 8, none⟩ (.int .i64 xk)).setCell ⟨g, i * 8 + 1, none⟩ (.bool xb)).setCell ⟨g, i * 8 + 2, none⟩ (.bool xd.neg)).setCell ⟨g, i * 8 + 3, none⟩ (.string ⟨xd.digits.toArray⟩)).setCell ⟨g, i * 8 + 4, none⟩ (.int .i64 xd.exp)).setCell ⟨g, i * 8 + 5, none⟩ (.string ⟨xs.toArray⟩)).setCell ⟨g, i * 8 + 6, none⟩ (.slice xa1 xn1 xc1)).setCell ⟨g, i * 8 + 7, none⟩ (.slice xa2 xn2 xc2)))
   have hk4 : KeptP g wr w4 := by rw [← hw4]; exact HKS.out
   have hrow4 : RowC w4 g 8 27 cap (ms.set i (cellsV xk xb xd xs (.slice xa1 xn1 xc1) (.slice xa2 xn2 xc2)).toList) := by rw [← hw4]; exact HST2.out
   rw [hw4]; clear hw4 HKS HST2 HROW fr q0 q1 q2 q3 q4 q5 q6 q7 s0 s1 s2; clear c0 c1 c2 c3 c4 c5 c6 c7 x0 x1 x2 x3 x4 x5 x6 x7; replace HC := Hd (HC.out.kept hk4 (by have := HSZ.out; omega)); replace HV2 := Hd (HV2.out.kept hk4 (by have := HSZ.out; omega)); replace HE := Hd (ext_keptP HE.out hk4 (by rw [HS.out]; omega))
   replace HTC := Hd (HTC.out.keep (w' := w4) (A' := fun g => A g ∧ g < S) hk4.size (fun g hg hlt => ⟨hg, hk4.block g hlt (by have := hg.2; omega)⟩)); replace HTX := Hd (HTX.out.keep (w' := w4) (A' := fun g => A g ∧ g < S) hk4.size (fun g hg hlt => ⟨hg, hk4.block g hlt (by have := hg.2; omega)⟩))
   replace HTM := Hd (HTM.out.keep (w' := w4) (A' := fun g => A g ∧ g < S) hk4.size (fun g hg hlt => ⟨hg, hk4.block g hlt (by have := hg.2; omega)⟩)); replace HRM := Hd (HRM.out.keep (w' := w4) (A' := fun g => A g ∧ g < S) hk4.size (fun g hg hlt => ⟨hg, hk4.block g hlt (by have := hg.2; omega)⟩))
   have HFIN : Hid (TV w4 (fun g => (A g ∧ g < S) ∨ S + 1 + 1 + 1 < g) (layT t s x) (cellsV k b d ss (.slice (some ⟨g, 0, none⟩) L.length cap) (.slice ma M.length mc))) := Hd (by
    rw [HI.out.2]; refine tv_withL HTK.out HM.out (TLc.tl (TLc.set (HTC.out.keep (Nat.le_refl _) (fun g hg _ => ⟨.inl hg, rfl⟩)) i (HTX.out.keep (Nat.le_refl _) (fun g hg _ => ⟨.inl hg, rfl⟩)))) ?_ (HTM.out.keep (Nat.le_refl _) (fun g hg _ => ⟨.inl hg, rfl⟩)) (HRM.out.keep (Nat.le_refl _) (fun g hg _ => ⟨.inl hg, rfl⟩)); rw [List.length_set]
    exact RowC.row hrow4 (.inr HSZ.out) (by rw [List.length_set]; exact HTC.out.1.symm))
   clear hk4 hrow4 HX HSP HTM HRM HTC HTX HI; obtain ⟨c0, c1, c2, c3, c4, c5, c6, c7⟩ := HC.out.c8; obtain ⟨y0, y1, y2, y3, y4, y5, y6, y7⟩ := HV2.out.c8; obtain ⟨z0, z1, z2, z3, z4, z5, z6, z7⟩ := HV2.out.f8; go_wp2_with fail
   have hV := VAt.store8 HV2.out (.int .i64 k) (.bool b) (.bool d.neg) (.string ⟨d.digits.toArray⟩) (.int .i64 d.exp) (.string ⟨ss.toArray⟩) (.slice (some ⟨g, 0, none⟩) L.length cap) (.slice ma M.length mc); have HV := Hd hV; obtain ⟨v0, v1, v2, v3, v4, v5, v6, v7⟩ := HV.out.c8
   refine bodyPost_ret (v := .agg #[.int .i64 k, .bool b, .bool d.neg, .string ⟨d.digits.toArray⟩, .int .i64 d.exp, .string ⟨ss.toArray⟩, .slice (some ⟨g, 0, none⟩) L.length cap, .slice ma M.length mc]) (by simp [results, Tryz.results46, go_sem, v0, v1, v2, v3, v4, v5, v6, v7]) rfl ?_
   exact ⟨_, rfl, HFIN.out.keep (by simp [World.setCell]) (fun g hg hlt => ⟨by rcases hg with hg | hg; exact .inl hg.1; exact .inr (by rw [HS.out]; omega), heap8 (by rcases hg with hg | hg; have := hg.2; omega; omega)⟩), ext_set8 HE.out (by rw [HS.out]; omega)⟩
end Go.Proofs.YtjapbjmeoaagmaaGreatDoor
end

section
set_option maxRecDepth 100000
namespace Go.GrowS
open Go.Mem Go.RowKit
section
variable {P : Program} {ops : Array Oper} {md : Region.Mode} {G : Nat → World → World → Prop} {E : List PanicEntry → World → Prop} {B : Nat → World → Prop} {anc : Nat → List Nat} {I : Nat → Act → Option (Spec G)}
def walkO (P : Program) (ops : Array Oper) (G : Nat → World → World → Prop) (E : List PanicEntry → World → Prop) (B : Nat → World → Prop) (anc : Nat → List Nat) (I : Nat → Act → Option (Spec G)) (Q : Act → Env → Prop) : List Nat → Act → Env → Prop
 | [], a, F => Q a F
 | k :: ord, a, F => ∃ o, ops[k]? = some o ∧ Step P ops G E B anc I o k a F (walkO P ops G E B anc I Q ord)
def ordB (md : Region.Mode) (ops : Array Oper) (target : Array Bool) : List Nat → Array Bool → Bool
 | [], listed => decide (listed = target)
 | k :: ord, listed => (Region.ready md ops listed).contains k && Region.free md ops listed k && decide (k < ops.size) && ordB md ops target ord (listed.setIfInBounds k true)
theorem anyGL_ord {target : Array Bool} {Lq : Act → Env → Prop} (hkk : Keeps ops anc I) (hA : ancOk md ops anc = true) (hsel : Region.noSelect ops = true) (hrd : Region.ready md ops target = []) :
 ∀ (ord : List Nat) (listed : Array Bool) (a : Act) (F : Env), Closed md ops listed → ordB md ops target ord listed = true → walkO P ops G E B anc I Lq ord a F →
 anyGL P md ops G E B anc I ops.size (fun listed' a' F' => listed' = target ∧ Lq a' F') ord.length listed a F
 | [], listed, a, F, _, hB, h => ⟨by simpa [ordB] using hB, h⟩
 | k :: ord, listed, a, F, inv, hB, h => by
   obtain ⟨o, h0, h⟩ := h; simp only [ordB, Bool.and_eq_true, decide_eq_true_eq] at hB; obtain ⟨⟨⟨hr, hf⟩, hkn⟩, hB'⟩ := hB; have hr' : k ∈ Region.ready md ops listed := by simpa using hr
   obtain ⟨u, f, hy, hK⟩ := shows_of (P := P) (ops := ops) (G := G) (E := E) (B := B) (anc := anc) (I := I) (i := k) (oi := o) (a := a) (F := F) (K := walkO P ops G E B anc I Lq ord) (by
    unfold Step at h; rcases h with ⟨h1, h2⟩ | ⟨h1, ⟨s, h2, h3⟩ | ⟨h2, h3⟩⟩
    · rw [if_neg (by simp [h1])]; exact h2
    · rw [if_pos h1]; simp only [h2]; exact h3
    · rw [if_pos h1]; simp only [h2]; exact h3)
   exact anyGL_firstF (wt := fun _ => []) hkk hA h0 (Region.noSelect_spec hsel) (by unfold ancOk; simp) (fun t i ht hi hts => absurd hts (by omega)) hkn (fun listed' a' F' hL => (by rw [hL.1, hrd]; intro j hj; cases hj)) ord.length listed a F inv (Region.free_spec h0 hf) hr' hy
    (fun v hv => anyGL_ord hkk hA hsel hrd ord _ _ _ (inv.set hr') hB' (hK v hv))
def fullB (md : Region.Mode) (ops : Array Oper) (ord : List Nat) (listed target : Array Bool) : Bool :=
 Region.noSelect ops && (Region.ready md ops target).isEmpty && ordB md ops target ord listed
theorem any_ord {Q : Exit → Act → World → Prop} {a : Act} {w : World} (ord : List Nat) (listed target : Array Bool) (hkk : Keeps ops anc I) (hB : fullB .any ops ord listed target = true) (hA : ancOk .any ops anc = true) (hc : Closed .any ops listed)
 {Inv : Array Bool → World → Prop} (hI0 : InvOk .any ops G B Inv) (hE : ∀ ch a' w, a'.defers = a.defers → E ch w → Q (.panic ch) a' w) (hw : Inv listed w)
 (h : walkO P ops G E B anc I (fun a' F => ∀ w', Inv target w' → (∀ k, F k w') → Q .normal a' w') ord a (fun _ _ => True)) : wpAny P .any ops Q ord.length listed a w := by
 simp only [fullB, Bool.and_eq_true] at hB; obtain ⟨⟨hsel, hrd⟩, hord⟩ := hB; have hrd' : Region.ready .any ops target = [] := by simpa using hrd
 have H := anyGL_ord (P := P) (G := G) (E := E) (B := B) (anc := anc) (I := I) (md := .any) (target := target) hkk hA hsel hrd' ord listed a (fun _ _ => True) hc hord h; have := wpAny_of_headG (Q' := Q) (g := 0) hI0 hE (fun listed a' F' w' hb hf hL => by
  obtain ⟨rfl, h2⟩ := hL; exact ⟨hrd', h2 w' hb hf⟩) _ _ _ (fun _ _ => True) _ rfl hw (fun _ => trivial) (fun _ _ _ _ _ _ => trivial) H
 simpa using this
theorem inv_const {ops : Array Oper} {B : World → Prop} {G : World → World → Prop} (h : ∀ w w', B w → G w w' → B w') : InvOk md ops (fun _ => G) (fun _ => B) (fun _ w => B w) :=
 ⟨fun _ _ _ h _ => h, fun _ _ _ _ hw _ hg => h _ _ hw hg, fun _ _ _ _ hw _ _ _ => hw⟩
theorem closed_none {ops : Array Oper} {n : Nat} : Closed md ops (Array.replicate n false) := fun j oj _ hl => (by rw [getD_replicate_false] at hl; cases hl)
def closedB (md : Region.Mode) (ops : Array Oper) (listed : Array Bool) : Bool := (List.range ops.size).all fun j => !listed.getD j false || match ops[j]? with | some o => o.after.all (fun e => !Region.binds md e || listed.getD e.on false) | none => true
theorem closed_of {ops : Array Oper} {listed : Array Bool} (h : closedB md ops listed = true) : Closed md ops listed := by
 intro j oj hj hl e he hb; have h1 := List.all_eq_true.1 h j (List.mem_range.2 (Array.getElem?_eq_some_iff.1 hj).1); rw [hj, hl] at h1; simp only [Bool.not_true, Bool.false_or] at h1; obtain ⟨i, hi, rfl⟩ := Array.mem_iff_getElem.1 he; have h2 := (Array.all_eq_true.1 h1) i hi; rw [hb] at h2; simpa using h2
structure WkO (P : Program) (ops : Array Oper) (G : Nat → World → World → Prop) (E : List PanicEntry → World → Prop) (B : Nat → World → Prop) (anc : Nat → List Nat) (I : Nat → Act → Option (Spec G)) (Q : Act → Env → Prop) (ord : List Nat) (a : Act) (F : Env) : Prop where
 out : walkO P ops G E B anc I Q ord a F
theorem WkO.step {Q : Act → Env → Prop} {o : Oper} {ord : List Nat} {k : Nat} {a : Act} {F : Env} (ho : ops[k]? = some o) (h : ∀ K : Act → Env → Prop, (∀ a F, WkO P ops G E B anc I Q ord a F → K a F) → Step P ops G E B anc I o k a F K) : WkO P ops G E B anc I Q (k :: ord) a F :=
 ⟨⟨o, ho, h _ (fun a F w => w.out)⟩⟩
theorem WkO.nil {Q : Act → Env → Prop} {a : Act} {F : Env} (h : Q a F) : WkO P ops G E B anc I Q [] a F := ⟨h⟩
def inv3 (al st : Nat) (B0 B1 B2 : World → Prop) : Array Bool → World → Prop := fun listed w => if listed.getD st true = true then B2 w else if listed.getD al true = true then B1 w else B0 w
def at3 (al st : Nat) (aft : Nat → Bool) (B0 B1 B2 : World → Prop) : Nat → World → Prop := fun i w => if i = al then B0 w else if i = st then B1 w else if aft i then (B1 w ∨ B2 w) else B0 w ∨ B1 w ∨ B2 w
def g3 (al st : Nat) (aft : Nat → Bool) (G0 GA GC GS : World → World → Prop) : Nat → World → World → Prop := fun i => if i = al then GA else if i = st then GS else if aft i then GC else G0
theorem inv3_ok {ops : Array Oper} {al st : Nat} {aft : Nat → Bool} {B0 B1 B2 : World → Prop} {G0 GA GC GS : World → World → Prop} (hne : al ≠ st) (hga : unguardedB ops al = true) (hgs : unguardedB ops st = true) (hst : Region.waitsFor .any ops st al = true) (haft0 : ((List.range ops.size).all fun i => !aft i || Region.waitsFor .any ops i al) = true)
 (h0 : ∀ w w', B0 w → G0 w w' → B0 w') (h1 : ∀ w w', B1 w → G0 w w' → B1 w') (h2 : ∀ w w', B2 w → G0 w w' → B2 w') (hA : ∀ w w', B0 w → GA w w' → B1 w') (hC1 : ∀ w w', B1 w → GC w w' → B1 w') (hC2 : ∀ w w', B2 w → GC w w' → B2 w') (hS : ∀ w w', B1 w → GS w w' → B2 w') :
 InvOk .any ops (g3 al st aft G0 GA GC GS) (at3 al st aft B0 B1 B2) (fun listed w => inv3 al st B0 B1 B2 listed w ∧ Closed .any ops listed ∧ listed.size = ops.size) := by
 have haft : ∀ i, aft i = true → i < ops.size → Region.waitsFor .any ops i al = true := fun i h1 h2 => by
  have := List.all_eq_true.1 haft0 i (List.mem_range.2 h2); simpa [h1] using this
 have un : ∀ {listed : Array Bool} {i : Nat}, i ∈ Region.ready .any ops listed → i < listed.size ∧ listed.getD i true = false := by
  intro listed i hi; have h := (mem_ready.1 hi).1; refine ⟨?_, h⟩; rcases Nat.lt_or_ge i listed.size with h' | h'
  · exact h'
  · simp [h'] at h
 have other : ∀ {listed : Array Bool} {i k : Nat}, i ≠ k → (listed.setIfInBounds i true).getD k true = listed.getD k true := by
  intro listed i k hi; simp [Array.getD_eq_getD_getElem?, Array.getElem?_setIfInBounds_ne hi]
 have self : ∀ {listed : Array Bool} {i : Nat}, i < listed.size → (listed.setIfInBounds i true).getD i true = true := by
  intro listed i hi; simp [Array.getD_eq_getD_getElem?, hi]
 have gt : ∀ {listed : Array Bool} {i : Nat}, listed.getD i false = true → listed.getD i true = true := by
  intro listed i hi; simp only [Array.getD_eq_getD_getElem?] at hi ⊢; cases h : listed[i]? with
  | none => rfl
  | some b => rw [h] at hi; simpa using hi
 have done : ∀ {listed : Array Bool} {i : Nat}, i ∈ Region.ready .any ops listed → Region.waitsFor .any ops i al = true → listed.getD al true = true := by
  intro listed i hi hw; obtain ⟨_, o, ho, hall⟩ := mem_ready.1 hi; obtain ⟨o', ho', e, he, hb, hon⟩ := Region.waitsFor_spec hw; rw [ho] at ho'; cases ho'; have := hall e he hb; rw [hon] at this; exact gt this
 have lst : ∀ {listed : Array Bool}, Closed .any ops listed → listed.size = ops.size → listed.getD al true = false → listed.getD st true = true → False := by
  intro listed hc hz h1 h2; obtain ⟨o', ho', e, he, hb, hon⟩ := Region.waitsFor_spec hst; have h3 := hc st o' ho' (by
   simp only [Array.getD_eq_getD_getElem?] at h2 ⊢; cases h : listed[st]? with
   | some b => rw [h] at h2; simpa using h2
   | none => exact absurd h (by
     have := (Array.getElem?_eq_some_iff.1 ho').1; simp; omega)) e he hb
  rw [hon] at h3; rw [gt h3] at h1; cases h1
 refine ⟨fun listed i w h hi => ?_, fun listed i w w' h hi hg' => ?_, fun listed i o w h hi ho hgo => ?_⟩
 · obtain ⟨hi3, hc, hz⟩ := h; have hu := un hi; unfold inv3 at hi3; unfold at3; by_cases e1 : i = al
   · rw [if_pos e1]; rw [e1] at hu; by_cases e2 : listed.getD st true = true
     · exact (lst hc hz hu.2 e2).elim
     · rw [if_neg e2, if_neg (by rw [hu.2]; simp)] at hi3; exact hi3
   · rw [if_neg e1]; by_cases e2 : i = st
     · rw [if_pos e2]; rw [e2] at hu; have hd := done (by rw [← e2]; exact hi) hst; rw [if_neg (by rw [hu.2]; simp), if_pos hd] at hi3; exact hi3
     · rw [if_neg e2]; by_cases e3 : aft i = true
       · rw [if_pos e3]; have hd := done hi (haft i e3 (by have := hu.1; omega)); by_cases e4 : listed.getD st true = true
         · rw [if_pos e4] at hi3; exact .inr hi3
         · rw [if_neg e4, if_pos hd] at hi3; exact .inl hi3
       · rw [if_neg e3]; by_cases e4 : listed.getD st true = true
         · rw [if_pos e4] at hi3; exact .inr (.inr hi3)
         · rw [if_neg e4] at hi3; by_cases e5 : listed.getD al true = true
           · rw [if_pos e5] at hi3; exact .inr (.inl hi3)
           · rw [if_neg e5] at hi3; exact .inl hi3
 · obtain ⟨hi3, hc, hz⟩ := h; have hu := un hi; refine ⟨?_, hc.set hi, by simpa using hz⟩; unfold inv3 at hi3 ⊢; unfold g3 at hg'; by_cases e1 : i = al
   · rw [if_pos e1] at hg'; subst e1; rw [other hne]; by_cases e2 : listed.getD st true = true
     · exact (lst hc hz hu.2 e2).elim
     · rw [if_neg e2, if_neg (by rw [hu.2]; simp)] at hi3; rw [if_neg e2, if_pos (self hu.1)]; exact hA _ _ hi3 hg'
   · rw [if_neg e1] at hg'; by_cases e2 : i = st
     · rw [if_pos e2] at hg'; subst e2; have hd := done hi hst; rw [if_neg (by rw [hu.2]; simp), if_pos hd] at hi3; rw [if_pos (self hu.1)]; exact hS _ _ hi3 hg'
     · rw [if_neg e2] at hg'; rw [other e1, other e2]; by_cases e3 : aft i = true
       · rw [if_pos e3] at hg'; have hd := done hi (haft i e3 (by have := hu.1; omega)); by_cases e4 : listed.getD st true = true
         · rw [if_pos e4] at hi3 ⊢; exact hC2 _ _ hi3 hg'
         · rw [if_neg e4, if_pos hd] at hi3 ⊢; exact hC1 _ _ hi3 hg'
       · rw [if_neg e3] at hg'; by_cases e4 : listed.getD st true = true
         · rw [if_pos e4] at hi3 ⊢; exact h2 _ _ hi3 hg'
         · rw [if_neg e4] at hi3 ⊢; by_cases e5 : listed.getD al true = true
           · rw [if_pos e5] at hi3 ⊢; exact h1 _ _ hi3 hg'
           · rw [if_neg e5] at hi3 ⊢; exact h0 _ _ hi3 hg'
 · obtain ⟨hi3, hc, hz⟩ := h; refine ⟨?_, hc.set hi, by simpa using hz⟩; unfold inv3 at hi3 ⊢; have n1 : i ≠ al := fun e => by subst e; unfold unguardedB at hga; rw [ho] at hga; simp at hga; exact hgo hga
   have n2 : i ≠ st := fun e => by subst e; unfold unguardedB at hgs; rw [ho] at hgs; simp at hgs; exact hgo hgs
   rw [other n1, other n2]; exact hi3
end
end Go.GrowS
end

section
set_option maxRecDepth 100000
namespace Go.Proofs.YtjapbjmeoaagmaaGreatDoor
open Go.RowKit Go.Mem Orange
theorem PlAt.tail {w : World} {A : Nat → Prop} {g o cap : Nat} {s s' : PStep} {l : List PStep} (h : PlAt w A (.slice (some ⟨g, o, none⟩) (l.length + 1 + 1) cap) (s :: s' :: l)) : PlAt w A (.slice (some ⟨g, o + 3, none⟩) (l.length + 1) (cap - 1)) (s' :: l) := by
 obtain ⟨⟨h0, a, c, e, h1, h2, h3⟩, h4⟩ := h; simp only [Value.slice.injEq] at e; obtain ⟨rfl, -, rfl⟩ := e; obtain ⟨g', o', e, hA, hg, hc⟩ := h3 (by simp); simp only [Option.some.injEq, Addr.mk.injEq] at e; obtain ⟨rfl, rfl, -⟩ := e; refine ⟨⟨?_, _, _, rfl, ?_, by omega, fun _ => ⟨g, o + 3, rfl, hA, hg, fun i hi => ?_⟩⟩, fun x hx => h4 x (List.mem_cons_of_mem _ hx)⟩
 · rw [List.flatMap_cons, List.length_append] at h0; simp only [List.length_cons] at h0 ⊢; simp at h0 ⊢; omega
 · simp only [List.length_cons] at h1 ⊢; omega
 · have hi2 : i + 3 < ((s :: s' :: l).flatMap fun s => (cellsS s).toList).length := by
    rw [List.flatMap_cons, List.length_append]; simp at hi ⊢; omega
   have := hc (i + 3) hi2; rw [show o + 3 + i = o + (i + 3) by omega, this]; congr 1
theorem step_weight {t x : Tree} {s : PStep} (h : Orange.stepT t s = some x) : weightT x ≤ weightT t := by
 obtain ⟨k, b, d, ss, l, m⟩ := t; unfold Orange.stepT at h; rw [weightT]; split at h
 · unfold getT at h; split at h
   · rcases find_idx s.name m with ⟨hf, -⟩ | ⟨i, hi, -, -, hf, -⟩
     · rw [show (Tree.mk k b d ss l m).mems = m from rfl, hf] at h; cases h
     · rw [show (Tree.mk k b d ss l m).mems = m from rfl, hf] at h; cases h
       have := (weightM_mem hi).2; omega
   · cases h
 · split at h
   · obtain ⟨hi, rfl⟩ := List.getElem?_eq_some_iff.1 h; have := weightL_mem (l := l) hi; show weightT l[s.pos.toNat] ≤ _; omega
   · cases h
theorem changeT_kind {F : Tree → PStep → Bool → Tree × Int} {t : Tree} {s : PStep} {l : List PStep} (h : t.kind ≠ kindS s) : changeT F t (s :: l) = (tNull, 8) := by
 rw [changeT.eq_def]; simp only; rw [if_pos h]
theorem changeT_one {F : Tree → PStep → Bool → Tree × Int} {t : Tree} {s : PStep} (h : t.kind = kindS s) : changeT F t [s] = F t s (Orange.stepT t s).isSome := by
 rw [changeT.eq_def]; simp only; rw [if_neg (by simp [h])]
theorem changeT_none {F : Tree → PStep → Bool → Tree × Int} {t : Tree} {s : PStep} {l : List PStep} (h : t.kind = kindS s) (hl : l ≠ []) (hs : Orange.stepT t s = none) : changeT F t (s :: l) = (tNull, 6) := by
 cases l with
 | nil => exact absurd rfl hl
 | cons a l => rw [changeT.eq_def]; simp only; rw [if_neg (by simp [h]), hs]
theorem changeT_some {F : Tree → PStep → Bool → Tree × Int} {t x : Tree} {s : PStep} {l : List PStep} (h : t.kind = kindS s) (hl : l ≠ []) (hs : Orange.stepT t s = some x) : changeT F t (s :: l) = if (changeT F x l).2 ≠ 0 then (tNull, (changeT F x l).2) else (layT t s (changeT F x l).1, 0) := by
 cases l with
 | nil => exact absurd rfl hl
 | cons a l => rw [changeT.eq_def]; simp only; rw [if_neg (by simp [h]), hs]
def specTB {G : Nat → World → World → Prop} {p : Nat} (hk : ∀ i w w', G i w w' → KeptP p w w') (A : Nat → Prop) (hp : ∀ g, A g → g ≠ p) (X : Tree) (b : Value) : GrowS.Spec G :=
 ⟨fun v => ∃ k b' d s a1 n1 c1 a2 n2 c2, v = .tuple #[.agg (cellsV k b' d s (.slice a1 n1 c1) (.slice a2 n2 c2)), b], fun v w => ∃ c, v = .tuple #[.agg c, b] ∧ TV w A X c, ⟨_, 0, false, Num.zero, [], none, 0, 0, none, 0, 0, rfl⟩,
   fun i v w w' ⟨c, e, h⟩ hg => ⟨c, e, h.keep (hk _ _ _ hg).size (fun g hgA hlt => ⟨hgA, (hk _ _ _ hg).block g hlt (hp g hgA)⟩)⟩⟩
def specTG {G : Nat → World → World → Prop} {p : Nat} (hk : ∀ i w w', G i w w' → KeptP p w w') (A : Nat → Prop) (hp : ∀ g, A g → g ≠ p) (X : Tree) : GrowS.Spec G :=
 ⟨fun v => ∃ k b' d s a1 n1 c1 a2 n2 c2, v = .agg (cellsV k b' d s (.slice a1 n1 c1) (.slice a2 n2 c2)), fun v w => ∃ c, v = .agg c ∧ TV w A X c, ⟨_, 0, false, Num.zero, [], none, 0, 0, none, 0, 0, rfl⟩,
   fun i v w w' ⟨c, e, h⟩ hg => ⟨c, e, h.keep (hk _ _ _ hg).size (fun g hgA hlt => ⟨hgA, (hk _ _ _ hg).block g hlt (hp g hgA)⟩)⟩⟩
def DoesF (F : Tree → PStep → Bool → Tree × Int) (fid : FuncId) (caps : Array Value) (X0 : Nat → Prop) (w0 : World) : Prop :=
 ∀ (A : Nat → Prop) (t : Tree) (c : Array Value) (s : PStep) (w' : World), Ext w0 w' → TV w' A t c → weightT t ≤ 1000000 → i64R s.pos → t.kind = kindS s →
   Calls Tryz.prog fid (#[.agg c, .agg (cellsS s), .bool (Orange.stepT t s).isSome] ++ caps) w' (fun e w'' => ∃ c', e = .returned (.tuple #[.agg c', .int .i64 (F t s (Orange.stepT t s).isSome).2]) ∧ TV w'' (fun g => A g ∨ X0 g ∨ w'.heap.size ≤ g) (F t s (Orange.stepT t s).isSome).1 c' ∧ Ext w' w'')
set_option maxHeartbeats 6400000 in
theorem change_any (F : Tree → PStep → Bool → Tree × Int) (fid : FuncId) (caps : Array Value) (X0 : Nat → Prop) (w0 : World) (hX0 : ∀ g, X0 g → g < w0.heap.size) (hfid : ∀ (args : Array Value) (w : World), Sem.run Tryz.prog (callFunc fid args) w = .ok (.enter fid args) w) (hF : DoesF F fid caps X0 w0) : ∀ (l : List PStep) (A : Nat → Prop) (t : Tree) (c : Array Value) (v : Value) (w : World), l ≠ [] → Ext w0 w → TV w A t c → PlAt w A v l → weightT t ≤ 1000000 →
 Calls Tryz.prog 44 #[.agg c, v, .func (.func fid) #[] caps] w (fun e w' => ∃ c', e = .returned (.tuple #[.agg c', .int .i64 (changeT F t l).2]) ∧ TV w' (fun g => A g ∨ X0 g ∨ w.heap.size ≤ g) (changeT F t l).1 c' ∧ Ext w w') := by
 intro l; induction l with
 | nil => intro A t c v w h; exact absurd rfl h
 | cons s l ih =>
   intro A t c v w _ hw0 h hl hwt; obtain ⟨k, b, d, ss, la, ln, lc, ma, mn, mc, rfl⟩ := h.eight; obtain ⟨_, _, -, -, -, -, hk, -⟩ := tv_rows h; obtain ⟨_, va, vc, rfl, hvn, hvm, -⟩ := id hl.1; obtain ⟨R, hR⟩ := Ex (changeT F t (s :: l)); rw [hR]; have HR := Hd hR; have HK := Hd hk; have HW0 := Hd hw0; have HWT := Hd hwt; have IH := Hd ih; have HF := Hd hF; have HX0 := Hd hX0
   obtain ⟨wA, ewA⟩ : ∃ W, w.alloc (.cells (cellsV k b d ss (.slice la ln lc) (.slice ma mn mc)) 27) = W := ⟨_, rfl⟩
   have nwA : wA.heap[w.heap.size]? = some (.cells (cellsV k b d ss (.slice la ln lc) (.slice ma mn mc)) 27) := by rw [← ewA]; exact heap_alloc_new _ _
   have xwA : Ext w wA := by rw [← ewA]; exact (ext_refl _).alloc (Nat.le_refl _) _
   have swA : wA.heap.size = w.heap.size + 1 := by rw [← ewA]; simp
   obtain ⟨wB, ewB⟩ : ∃ W, wA.alloc (.cells zeroV 27) = W := ⟨_, rfl⟩
   have nwB : wB.heap[wA.heap.size]? = some (.cells zeroV 27) := by rw [← ewB]; exact heap_alloc_new _ _
   have xwB : Ext wA wB := by rw [← ewB]; exact (ext_refl _).alloc (Nat.le_refl _) _
   have swB : wB.heap.size = wA.heap.size + 1 := by rw [← ewB]; simp
   have HE := Hd (ext_trans xwA xwB); have HT := Hd (h.keep (w' := wB) (A' := fun g => A g ∧ g < w.heap.size) HE.out.size (fun g hg hlt => ⟨⟨hg, hlt⟩, HE.out.block g hlt⟩)); have HL := Hd (hl.keep (w' := wB) (A' := fun g => A g ∧ g < w.heap.size) HE.out.size (fun g hg hlt => ⟨⟨hg, hlt⟩, HE.out.block g hlt⟩)); rw [swA] at nwB
   have HC : Hid (VAt wB w.heap.size (cellsV k b d ss (.slice la ln lc) (.slice ma mn mc))) := Hd (VAt.ext nwA xwB); have HV2 : Hid (VAt wB (w.heap.size + 1) zeroV) := Hd nwB; have EA := Hd ewA; have EB := Hd ewB; clear hR h hl hk hw0 hwt ih hF hX0 nwA nwB xwA xwB swA swB ewA ewB; obtain ⟨g, o, rfl, hgA, hel⟩ := HL.out.elem 0 (by simp); simp only [cellsV, zeroV, noL, Num.zero] at EA EB ⊢
   go_enter Tryz.func44, Tryz.ntmps44
   go_upto_region 1 with fail; rw [EA.out, EB.out]; obtain ⟨S, hS⟩ := Ex w.heap.size; rw [hS] at HC HV2 HT HL hel hgA ⊢; have HS := Hd hS; clear hS EA EB; have HEL : Hid (∀ w', Ext wB w' → w'.cell? ⟨g, o, none⟩ = some (.string ⟨s.name.toArray⟩) ∧ w'.cell? ⟨g, o + 1, none⟩ = some (.int .i64 s.pos) ∧ w'.cell? ⟨g, o + 2, none⟩ = some (.bool s.named)) := Hd (fun w' hw => by
    have h1 := hel w' (fun g hg hlt => hw.block g hlt); simpa using h1)
   clear hel; obtain ⟨s0, s1, s2⟩ := HEL.out wB (ext_refl _); obtain ⟨c0, c1, c2, c3, c4, c5, c6, c7⟩ := HC.out.c8; have hlen : (0 : Int) < ((s :: l).length : Int) := by simp
   obtain ⟨nm, hnm⟩ := Ex s.named; rw [hnm] at s2; have HNM := Hd hnm; clear hnm; go_upto_if 16 with fail
   go_cut [8] (fun s8 wx => s8 = .int .i64 (kindS s) ∧ wB = wx)
   case first =>
    have HN : Hid (kindS s = if s.named = true then 5 else 4) := Hd rfl; cases nm with
    | true =>
      go_wp2_with fail; go_meet; exact ⟨by rw [HN.out, HNM.out]; rfl, rfl⟩
    | false =>
      go_wp2_with fail; go_meet; exact ⟨by rw [HN.out, HNM.out]; rfl, rfl⟩
   case rest =>
    obtain ⟨rfl, rfl⟩ := hcut; obtain ⟨K, hK⟩ := Ex (kindS s); rw [hK]; have HKS := Hd hK; clear hK; by_cases hkk : k = K
    · have HKT : Hid (t.kind = kindS s) := Hd (by rw [← HK.out, HKS.out, hkk]); have hkb : (k != K) = false := by simp [hkk]
      clear hkk; go_upto_region 6 with fail; obtain ⟨X, hX⟩ := Ex ((Orange.stepT t s).getD tNull); obtain ⟨OK, hOK⟩ := Ex ((Orange.stepT t s).isSome); have HX := Hd hX; have HOK := Hd hOK; clear hX hOK
      have HCALL : Hid (∀ w', Ext wB w' → Calls Tryz.prog 50 #[.agg (cellsV k b d ss (.slice la ln lc) (.slice ma mn mc)), .agg (cellsS s)] w' (fun e w'' => ∃ c', e = .returned (.tuple #[.agg c', .bool OK]) ∧ TV w'' (fun g => A g ∧ g < S) X c' ∧ Ext w' w'')) := Hd (fun w' hw => by
       rw [← HX.out, ← HOK.out]; exact step_any t _ _ s w' (HT.out.keep hw.size (fun g hg hlt => ⟨hg, hw.block g hlt⟩)) (HL.out.2 s List.mem_cons_self))
      go_cut [9, 10] (fun s9 s10 wx => ∃ p cx, s9 = .pointer (some ⟨p, 0, none⟩) ∧ s10 = .bool OK ∧ Ext wB wx ∧ wB.heap.size ≤ p ∧ VAt wx p cx ∧ TV wx (fun g => A g ∧ g < S) X cx)
      case first =>
       refine GrowS.wp_region_two 4 8 (by decide) (by decide) (by decide) (by kernel_rfl) ?_ ?_
       · simp only [GrowS.moreL, List.modify_succ_cons, List.modify_zero_cons, List.push_toArray, List.cons_append, List.nil_append]; show wpAny _ _ _ _ 11 (Array.replicate 11 false) _ _; have hPS : S + 1 < wB.heap.size := HV2.out.lt; obtain ⟨p, hp⟩ := Ex wB.heap.size
         have hk : ∀ i w w', GrowS.g3 8 9 (fun i => i == 4) (fun w w' => Ext w w' ∧ w'.heap.size = w.heap.size) (fun w w' => Ext w w' ∧ VAt w' w.heap.size zeroV) Ext (fun w w' => KeptP p w w' ∧ ∃ cx, VAt w' p cx ∧ TV w' (fun g => A g ∧ g < S) X cx) i w w' → KeptP p w w' := fun i w w' h => by
          unfold GrowS.g3 at h; split at h
          · exact KeptP.ofExt h.1
          · split at h
            · exact h.1
            · split at h
              · exact KeptP.ofExt h
              · exact KeptP.ofExt h.1
         refine GrowS.any_ord (G := GrowS.g3 8 9 (fun i => i == 4) (fun w w' => Ext w w' ∧ w'.heap.size = w.heap.size) (fun w w' => Ext w w' ∧ VAt w' w.heap.size zeroV) Ext (fun w w' => KeptP p w w' ∧ ∃ cx, VAt w' p cx ∧ TV w' (fun g => A g ∧ g < S) X cx))
          (B := GrowS.at3 8 9 (fun i => i == 4) (fun w' => Ext wB w' ∧ w'.heap.size = p) (fun w' => Ext wB w' ∧ VAt w' p zeroV) (fun w' => Ext wB w' ∧ ∃ cx, VAt w' p cx ∧ TV w' (fun g => A g ∧ g < S) X cx)) (E := fun _ _ => False) (anc := fun j => if j = 9 then [4] else [])
          (I := fun j _ => if j = 4 then some (specTB hk (fun g => A g ∧ g < S) (by intro g hg; have := hg.2; omega) X (.bool OK)) else if j = 8 then some (GrowS.Spec.val _ (.pointer (some ⟨p, 0, none⟩))) else if j = 9 then some (GrowS.Spec.val _ undef) else none)
          [0, 1, 2, 3, 8, 4, 5, 6, 7, 9, 10] (Array.replicate 11 false) (Array.replicate 11 true) (fun _ _ _ _ _ _ _ _ _ _ => rfl) (by kernel_rfl) (by kernel_rfl) GrowS.closed_none
          (GrowS.inv3_ok (al := 8) (st := 9) (by decide) (by kernel_rfl) (by kernel_rfl) (by kernel_rfl) (by kernel_rfl) ?_ ?_ ?_ ?_ ?_ ?_ ?_) ?_ ?_ ?_
         · exact fun w w' h hg => ⟨ext_trans h.1 hg.1, hg.2.trans h.2⟩
         · exact fun w w' h hg => ⟨ext_trans h.1 hg.1, h.2.ext hg.1⟩
         · exact fun w w' h hg => ⟨ext_trans h.1 hg.1, by obtain ⟨cx, h2, h3⟩ := h.2; exact ⟨cx, h2.ext hg.1, h3.keep hg.1.size (fun g hgA hlt => ⟨hgA, hg.1.block g hlt⟩)⟩⟩
         · exact fun w w' h hg => ⟨ext_trans h.1 hg.1, by rw [← h.2]; exact hg.2⟩
         · exact fun w w' h hg => ⟨ext_trans h.1 hg, h.2.ext hg⟩
         · exact fun w w' h hg => ⟨ext_trans h.1 hg, by obtain ⟨cx, h2, h3⟩ := h.2; exact ⟨cx, h2.ext hg, h3.keep hg.size (fun g hgA hlt => ⟨hgA, hg.block g hlt⟩)⟩⟩
         · exact fun w w' h hg => ⟨ext_keptP h.1 hg.1 (by omega), hg.2⟩
         · exact fun _ _ _ _ h => h.elim
         · exact ⟨by unfold GrowS.inv3; simp; exact ⟨(ext_refl _).drew, hp⟩, GrowS.closed_none, by kernel_rfl⟩
         · refine GrowS.WkO.out ?_; repeat
            (refine GrowS.WkO.step (by rfl) (fun K hK => ?_)
             first
             | (refine GrowS.step_read (by rfl) (by rfl) (fun w => ⟨ext_refl w, rfl⟩) ?_
                apply Exists.intro; refine ⟨fun w hB hF => ?_, ?_⟩
                · have hX : Ext wB w := (by have h3 : _ ∨ _ ∨ _ := hB; rcases h3 with h3 | h3 | h3 <;> exact h3.1); have HCW := HC.out.ext hX; obtain ⟨c0, c1, c2, c3, c4, c5, c6, c7⟩ := HCW.c8; obtain ⟨s0, s1, s2⟩ := HEL.out w hX; go_simp; try exact rfl
                go_simp; refine hK _ _ ?_; clear hK K)
             | (refine GrowS.step_off (by rfl) ?_
                go_simp; refine hK _ _ ?_; clear hK K))
           refine GrowS.WkO.step (by rfl) (fun K hK => ?_); refine GrowS.step_rel (by rfl) (by rfl) (fun w' hB hF => ?_) (fun v hv => ?_)
           · replace hB : Ext wB w' ∧ w'.heap.size = p := hB; go_simp; exact GrowS.relUpon_value ⟨(ext_refl w').alloc (Nat.le_refl _) _, heap_alloc_new _ _⟩ rfl trivial
           obtain rfl : v = .pointer (some ⟨p, 0, none⟩) := hv; go_simp; refine hK _ _ ?_; clear hK K; refine GrowS.WkO.step (by rfl) (fun K hK => ?_); refine GrowS.step_rel (by rfl) (by rfl) (fun w' hB hF => ?_) (fun v hv => ?_)
           · have hX : Ext wB w' := (by have h3 : _ ∨ _ := hB; rcases h3 with h3 | h3 <;> exact h3.1)
             go_simp; refine GrowS.relUpon_enter ((HCALL.out w' hX).mono ?_); rintro e w'' ⟨c', rfl, htv, hw''⟩; obtain ⟨yk, yb, yd, ys, ya1, yn1, yc1, ya2, yn2, yc2, rfl⟩ := htv.eight; exact .inl ⟨_, rfl, hw'', ⟨_, _, _, _, _, _, _, _, _, _, rfl⟩, _, rfl, htv⟩
           obtain ⟨yk, yb, yd, ys, ya1, yn1, yc1, ya2, yn2, yc2, rfl⟩ := hv; go_simp; refine hK _ _ ?_; clear hK K; repeat
            (refine GrowS.WkO.step (by rfl) (fun K hK => ?_)
             first
             | (refine GrowS.step_read (by rfl) (by rfl) (fun w => ⟨ext_refl w, rfl⟩) ?_
                apply Exists.intro; refine ⟨fun w hB hF => ?_, ?_⟩
                · skip
                  go_simp; try exact rfl
                go_simp; refine hK _ _ ?_; clear hK K)
             | (refine GrowS.step_off (by rfl) ?_
                go_simp; refine hK _ _ ?_; clear hK K))
           refine GrowS.WkO.step (by rfl) (fun K hK => ?_); refine GrowS.step_rel (by rfl) (by rfl) (fun w' hB hF => ?_) (fun v hv => ?_)
           · replace hB : Ext wB w' ∧ VAt w' p zeroV := hB; obtain ⟨c', ec, htv⟩ := hF 4 (by simp); obtain rfl := tuple_inj ec; have HCW := Hd hB.2; have hst := VAt.store8 HCW.out (.int .i64 yk) (.bool yb) (.bool yd.neg) (.string ⟨yd.digits.toArray⟩) (.int .i64 yd.exp) (.string ⟨ys.toArray⟩) (.slice ya1 yn1 yc1) (.slice ya2 yn2 yc2); have HST := Hd hst; have HTV := Hd htv; clear hst htv ec hF hB
             obtain ⟨q0, q1, q2, q3, q4, q5, q6, q7⟩ := HCW.out.c8; obtain ⟨f0, f1, f2, f3, f4, f5, f6, f7⟩ := HCW.out.f8; go_simp; exact ⟨⟨KeptP.store8 _ _ _ _ _ _ _ _, _, HST.out, HTV.out.keep (by simp [World.setCell]) (fun g hg hlt => ⟨hg, heap8 (by have := hg.2; omega)⟩)⟩, rfl, trivial⟩
           obtain rfl : v = undef := hv; go_simp; refine hK _ _ ?_; clear hK K; repeat
            (refine GrowS.WkO.step (by rfl) (fun K hK => ?_)
             first
             | (refine GrowS.step_read (by rfl) (by rfl) (fun w => ⟨ext_refl w, rfl⟩) ?_
                apply Exists.intro; refine ⟨fun w hB hF => ?_, ?_⟩
                · skip
                  go_simp; try exact rfl
                go_simp; refine hK _ _ ?_; clear hK K)
             | (refine GrowS.step_off (by rfl) ?_
                go_simp; refine hK _ _ ?_; clear hK K))
           refine GrowS.WkO.nil ?_; intro w4 hI4 hF; have h4 := hI4.1; clear hF hI4; unfold GrowS.inv3 at h4; rw [if_pos (by decide)] at h4; obtain ⟨hE4, cx, hv4, ht4⟩ := h4; go_wp2_with fail; go_meet; exact ⟨p, cx, rfl, rfl, hE4, by omega, hv4, ht4⟩
       · simp only [GrowS.moreL, List.modify_succ_cons, List.modify_zero_cons, List.push_toArray, List.cons_append, List.nil_append]; have hPS : S + 1 < wB.heap.size := HV2.out.lt; have hk0 : ∀ (i : Nat) (w w' : World), Ext w w' → KeptP S w w' := fun _ _ _ h => KeptP.ofExt h
         refine GrowS.any_restTA (G := fun _ => Ext) (B := fun _ w' => Ext wB w') (E := fun _ _ => False) (anc := fun _ => []) (Inv := fun _ w' => Ext wB w')
          (I := fun j _ => if j = 4 then some (specTB hk0 (fun g => A g ∧ g < S) (by intro g hg; have := hg.2; omega) X (.bool OK)) else none)
          5 (fun j => if j = 2 then [1] else if j = 3 then [1, 2] else if j = 4 then [0, 1, 2, 3] else if 5 ≤ j then [0, 1, 2, 3, 4] else []) #[true, true, true, true, true, false, false, false, false, false, false] (fun _ _ _ _ _ _ _ _ _ _ => rfl) (by kernel_rfl) (by kernel_rfl) (GrowS.inv_const fun _ _ h hg => ext_trans h hg) ?_ ?_ ?_
         · exact fun _ _ _ _ h => h.elim
         · exact (ext_refl _).drew
         · refine GrowS.Wk.out ?_; simp only [List.take_succ_cons, List.take_zero, List.drop_succ_cons, List.drop_zero]; repeat
            (refine GrowS.Wk.step (fun K hK => ?_)
             first
             | (refine GrowS.step_read (by rfl) (by rfl) (fun w => ext_refl w) ?_
                apply Exists.intro; refine ⟨fun w hB hF => ?_, ?_⟩
                · replace hB : Ext wB w := hB; have HCW := HC.out.ext hB; obtain ⟨c0, c1, c2, c3, c4, c5, c6, c7⟩ := HCW.c8; obtain ⟨s0, s1, s2⟩ := HEL.out w hB; go_simp; try exact rfl
                go_simp; refine hK _ _ ?_; clear hK K)
             | (refine GrowS.step_off (by rfl) ?_
                go_simp; refine hK _ _ ?_; clear hK K))
           refine GrowS.Wk.step (fun K hK => ?_); refine GrowS.step_rel (by rfl) (by rfl) (fun w' hB hF => ?_) (fun v hv => ?_)
           · replace hB : Ext wB w' := hB; go_simp; refine GrowS.relUpon_enter ((HCALL.out w' hB).mono ?_); rintro e w'' ⟨c', rfl, htv, hw''⟩; obtain ⟨yk, yb, yd, ys, ya1, yn1, yc1, ya2, yn2, yc2, rfl⟩ := htv.eight; exact .inl ⟨_, rfl, hw'', ⟨_, _, _, _, _, _, _, _, _, _, rfl⟩, _, rfl, htv⟩
           obtain ⟨yk, yb, yd, ys, ya1, yn1, yc1, ya2, yn2, yc2, rfl⟩ := hv; go_simp; refine hK _ _ ?_; clear hK K; refine GrowS.Wk.nil ?_; intro w5 hE5 hF5; obtain ⟨c', ec, htv⟩ := hF5 4; obtain rfl := tuple_inj ec; have HTV := Hd htv; have HE5 := Hd hE5; clear hF5 ec htv hE5 hk0; obtain ⟨p, hp⟩ := Ex w5.heap.size; have hSp : S + 1 < p := by have := HE5.out.size; omega
           show wpAny _ _ _ _ 6 _ _ _; refine GrowS.any_ord (G := GrowS.g3 8 9 (fun i => false) (fun w w' => Ext w w' ∧ w'.heap.size = w.heap.size) (fun w w' => Ext w w' ∧ VAt w' w.heap.size zeroV) Ext (fun w w' => KeptP p w w' ∧ ∃ cx, VAt w' p cx ∧ TV w' (fun g => A g ∧ g < S) X cx))
            (B := GrowS.at3 8 9 (fun i => false) (fun w' => Ext w5 w' ∧ w'.heap.size = p) (fun w' => Ext w5 w' ∧ VAt w' p zeroV) (fun w' => Ext w5 w' ∧ ∃ cx, VAt w' p cx ∧ TV w' (fun g => A g ∧ g < S) X cx)) (E := fun _ _ => False) (anc := fun j => [])
            (I := fun j _ => if j = 8 then some (GrowS.Spec.val _ (.pointer (some ⟨p, 0, none⟩))) else if j = 9 then some (GrowS.Spec.val _ undef) else none)
            [5, 6, 7, 8, 9, 10] #[true, true, true, true, true, false, false, false, false, false, false] (Array.replicate 11 true) (fun _ _ _ _ _ _ _ _ _ _ => rfl) (by kernel_rfl) (by kernel_rfl) (GrowS.closed_of (by kernel_rfl))
            (GrowS.inv3_ok (al := 8) (st := 9) (by decide) (by kernel_rfl) (by kernel_rfl) (by kernel_rfl) (by kernel_rfl) ?_ ?_ ?_ ?_ ?_ ?_ ?_) ?_ ?_ ?_
           · exact fun w w' h hg => ⟨ext_trans h.1 hg.1, hg.2.trans h.2⟩
           · exact fun w w' h hg => ⟨ext_trans h.1 hg.1, h.2.ext hg.1⟩
           · exact fun w w' h hg => ⟨ext_trans h.1 hg.1, by obtain ⟨cx, h2, h3⟩ := h.2; exact ⟨cx, h2.ext hg.1, h3.keep hg.1.size (fun g hgA hlt => ⟨hgA, hg.1.block g hlt⟩)⟩⟩
           · exact fun w w' h hg => ⟨ext_trans h.1 hg.1, by rw [← h.2]; exact hg.2⟩
           · exact fun w w' h hg => ⟨ext_trans h.1 hg, h.2.ext hg⟩
           · exact fun w w' h hg => ⟨ext_trans h.1 hg, by obtain ⟨cx, h2, h3⟩ := h.2; exact ⟨cx, h2.ext hg, h3.keep hg.size (fun g hgA hlt => ⟨hgA, hg.block g hlt⟩)⟩⟩
           · exact fun w w' h hg => ⟨ext_keptP h.1 hg.1 (by omega), hg.2⟩
           · exact fun _ _ _ _ h => h.elim
           · exact ⟨by unfold GrowS.inv3; rw [if_neg (by decide), if_neg (by decide)]; exact ⟨ext_refl _, hp⟩, GrowS.closed_of (by kernel_rfl), by kernel_rfl⟩
           · refine GrowS.WkO.out ?_; repeat
              (refine GrowS.WkO.step (by rfl) (fun K hK => ?_)
               first
               | (refine GrowS.step_read (by rfl) (by rfl) (fun w => ⟨ext_refl w, rfl⟩) ?_
                  apply Exists.intro; refine ⟨fun w hB hF => ?_, ?_⟩
                  · skip
                    go_simp; try exact rfl
                  go_simp; refine hK _ _ ?_; clear hK K)
               | (refine GrowS.step_off (by rfl) ?_
                  go_simp; refine hK _ _ ?_; clear hK K))
             refine GrowS.WkO.step (by rfl) (fun K hK => ?_); refine GrowS.step_rel (by rfl) (by rfl) (fun w' hB hF => ?_) (fun v hv => ?_)
             · replace hB : Ext w5 w' ∧ w'.heap.size = p := hB; go_simp; exact GrowS.relUpon_value ⟨(ext_refl w').alloc (Nat.le_refl _) _, heap_alloc_new _ _⟩ rfl trivial
             obtain rfl : v = .pointer (some ⟨p, 0, none⟩) := hv; go_simp; refine hK _ _ ?_; clear hK K; refine GrowS.WkO.step (by rfl) (fun K hK => ?_); refine GrowS.step_rel (by rfl) (by rfl) (fun w' hB hF => ?_) (fun v hv => ?_)
             · replace hB : Ext w5 w' ∧ VAt w' p zeroV := hB; have HCW := Hd hB.2; have HTW := Hd (HTV.out.keep hB.1.size (fun g hg hlt => ⟨hg, hB.1.block g hlt⟩)); have hst := VAt.store8 HCW.out (.int .i64 yk) (.bool yb) (.bool yd.neg) (.string ⟨yd.digits.toArray⟩) (.int .i64 yd.exp) (.string ⟨ys.toArray⟩) (.slice ya1 yn1 yc1) (.slice ya2 yn2 yc2); have HST := Hd hst; clear hst hF hB
               obtain ⟨q0, q1, q2, q3, q4, q5, q6, q7⟩ := HCW.out.c8; obtain ⟨f0, f1, f2, f3, f4, f5, f6, f7⟩ := HCW.out.f8; go_simp; exact ⟨⟨KeptP.store8 _ _ _ _ _ _ _ _, _, HST.out, HTW.out.keep (by simp [World.setCell]) (fun g hg hlt => ⟨hg, heap8 (by have := hg.2; omega)⟩)⟩, rfl, trivial⟩
             obtain rfl : v = undef := hv; go_simp; refine hK _ _ ?_; clear hK K; repeat
              (refine GrowS.WkO.step (by rfl) (fun K hK => ?_)
               first
               | (refine GrowS.step_read (by rfl) (by rfl) (fun w => ⟨ext_refl w, rfl⟩) ?_
                  apply Exists.intro; refine ⟨fun w hB hF => ?_, ?_⟩
                  · skip
                    go_simp; try exact rfl
                  go_simp; refine hK _ _ ?_; clear hK K)
               | (refine GrowS.step_off (by rfl) ?_
                  go_simp; refine hK _ _ ?_; clear hK K))
             refine GrowS.WkO.nil ?_; intro w4 hI4 hF; have h4 := hI4.1; clear hF hI4; unfold GrowS.inv3 at h4; rw [if_pos (by decide)] at h4; obtain ⟨hE4, cx, hv4, ht4⟩ := h4; go_wp2_with fail; go_meet; exact ⟨p, cx, rfl, rfl, ext_trans HE5.out hE4, by have := HE5.out.size; omega, hv4, ht4⟩
      case rest =>
       obtain ⟨wC, hwC⟩ : ∃ x, x = wc := ⟨_, rfl⟩
       rw [← hwC] at hcut ⊢; clear hwC; obtain ⟨p, cx, rfl, rfl, hEx, hpS, hvp, htx⟩ := hcut; have hlt2 := HV2.out.lt; have HEX := Hd hEx; have HVP := Hd hvp; have HTX := Hd htx; replace HE := Hd (ext_trans HE.out hEx); replace HC := Hd (HC.out.ext hEx); replace HV2 := Hd (HV2.out.ext hEx); replace HT := Hd (HT.out.keep hEx.size (fun g hg hlt => ⟨hg, hEx.block g hlt⟩))
       replace HL := Hd (HL.out.keep hEx.size (fun g hg hlt => ⟨hg, hEx.block g hlt⟩)); replace HEL : Hid (∀ w', Ext wC w' → _) := Hd (fun w' hw => HEL.out w' (ext_trans hEx hw)); have hPS : S + 1 < p := by omega
       clear hEx hvp htx HCALL; clear c0 c1 c2 c3 c4 c5 c6 c7; clear s0 s1 s2 hkb hlen; go_upto_region 7 with fail; cases l with
       | nil =>
         go_upto_region 8 with fail; have hw0S : w0.heap.size ≤ S := by have := HW0.out.size; have := HS.out; omega
         obtain ⟨Y, hY⟩ := Ex ((F t s OK).1); obtain ⟨ER, hER⟩ := Ex ((F t s OK).2); have HRE : Hid (R = (Y, ER)) := Hd (by rw [← HR.out, changeT_one HKT.out, HOK.out, ← hY, ← hER])
         have HCALL : Hid (∀ w', Ext wC w' → Calls Tryz.prog fid (#[.agg (cellsV k b d ss (.slice la ln lc) (.slice ma mn mc)), .agg (cellsS s), .bool OK] ++ caps) w' (fun e w'' => ∃ c', e = .returned (.tuple #[.agg c', .int .i64 ER]) ∧ TV w'' (fun g => (A g ∧ g < S) ∨ X0 g ∨ wC.heap.size ≤ g) Y c' ∧ Ext w' w'')) := Hd (fun w' hw => by
          have h1 := HF.out (fun g => A g ∧ g < S) t _ s w' (ext_trans HW0.out (ext_trans HE.out hw)) (HT.out.keep hw.size (fun g hg hlt => ⟨hg, hw.block g hlt⟩)) HWT.out (HL.out.2 s List.mem_cons_self) HKT.out; rw [HOK.out, hY, hER] at h1; refine h1.mono ?_; rintro e w'' ⟨c', h2, h3, h4⟩
          exact ⟨c', h2, h3.keep (Nat.le_refl _) (fun g hg _ => ⟨by rcases hg with hg | hg | hg; exact .inl hg; exact .inr (.inl hg); exact .inr (.inr (Nat.le_trans hw.size hg)), rfl⟩), h4⟩)
         have HAS : Hid (∀ g, ((A g ∧ g < S) ∨ X0 g ∨ wC.heap.size ≤ g) → g ≠ S + 1) := Hd (fun g hg => by
          have h2 := HV2.out.lt; rcases hg with hg | hg | hg
          · have := hg.2; omega
          · have := HX0.out g hg; omega
          · omega)
         clear hY hER; have h1 : ∀ w1 w', (KeptP (S + 1) w1 w' ∧ ∃ cx, VAt w' (S + 1) cx ∧ TV w' (fun g => (A g ∧ g < S) ∨ X0 g ∨ wC.heap.size ≤ g) Y cx) → KeptP (S + 1) w1 w' := fun _ _ h => h.1; have hk : ∀ i w w', GrowS.gS 9 Ext (fun w1 w' => KeptP (S + 1) w1 w' ∧ ∃ cx, VAt w' (S + 1) cx ∧ TV w' (fun g => (A g ∧ g < S) ∨ X0 g ∨ wC.heap.size ≤ g) Y cx) i w w' → KeptP (S + 1) w w' := fun i w w' hg => by
          unfold GrowS.gS at hg; split at hg; exact hg.1; exact KeptP.ofExt hg
         refine GrowS.wp_region_restW (G0 := Ext) (G1 := fun w1 w' => KeptP (S + 1) w1 w' ∧ ∃ cx, VAt w' (S + 1) cx ∧ TV w' (fun g => (A g ∧ g < S) ∨ X0 g ∨ wC.heap.size ≤ g) Y cx) (B0 := fun w' => Ext wC w') (B1 := fun w' => KeptP (S + 1) wC w' ∧ ∃ cx, VAt w' (S + 1) cx ∧ TV w' (fun g => (A g ∧ g < S) ∨ X0 g ∨ wC.heap.size ≤ g) Y cx) (E := fun _ _ => False) (anc := fun j => if j = 9 then [6] else [])
          (I := fun j => if j = 6 then some (specTB hk (fun g => (A g ∧ g < S) ∨ X0 g ∨ wC.heap.size ≤ g) HAS.out Y (.int .i64 ER)) else if j = 9 then some (GrowS.Spec.val _ undef) else none) 9 11 (fun j => if j = 9 then [0, 1, 2, 3, 4, 5, 6, 7, 8] else []) (Array.replicate 11 true)
          (by kernel_rfl) (by kernel_rfl) (by kernel_rfl) (by kernel_rfl) (by kernel_rfl) (by kernel_rfl) ?_ ?_ ?_ ?_ ?_ ?_
         · exact fun w w' h hg => ext_trans h hg
         · exact fun w1 w' h hg => ⟨h.1.trans (KeptP.ofExt hg), by
            obtain ⟨cx, h2, h3⟩ := h.2; exact ⟨cx, h2.ext hg, h3.keep hg.size (fun g hgA hlt => ⟨hgA, hg.block g hlt⟩)⟩⟩
         · exact fun w1 w' h hg => ⟨(KeptP.ofExt h).trans hg.1, hg.2⟩
         · exact fun _ _ _ _ h => h.elim
         · exact (ext_refl _).drew
         simp only [List.take_succ_cons, List.take_zero, List.drop_succ_cons, List.drop_zero]; repeat
          (refine GrowS.Wk.step (fun K hK => ?_)
           first
           | (refine GrowS.step_read (by rfl) (by rfl) (fun w => ext_refl w) ?_
              apply Exists.intro; refine ⟨fun w hB hF => ?_, ?_⟩
              · replace hB : Ext wC w := hB; have HCW := HC.out.ext hB; obtain ⟨c0, c1, c2, c3, c4, c5, c6, c7⟩ := HCW.c8; obtain ⟨s0, s1, s2⟩ := HEL.out w hB; go_simp; try exact rfl
              go_simp; refine hK _ _ ?_; clear hK K)
           | (refine GrowS.step_off (by rfl) ?_
              go_simp; refine hK _ _ ?_; clear hK K))
         refine GrowS.Wk.step (fun K hK => ?_); refine GrowS.step_rel (by rfl) (by rfl) (fun w' hB hF => ?_) (fun v hv => ?_)
         · replace hB : Ext wC w' := hB; go_simp; refine GrowS.relUpon_enter ((HCALL.out w' hB).mono ?_); rintro e w'' ⟨c', rfl, htv, hw''⟩; obtain ⟨yk, yb, yd, ys, ya1, yn1, yc1, ya2, yn2, yc2, rfl⟩ := htv.eight; exact .inl ⟨_, rfl, hw'', ⟨_, _, _, _, _, _, _, _, _, _, rfl⟩, _, rfl, htv⟩
         obtain ⟨yk, yb, yd, ys, ya1, yn1, yc1, ya2, yn2, yc2, rfl⟩ := hv; go_simp; refine hK _ _ ?_; clear hK K; repeat
          (refine GrowS.Wk.step (fun K hK => ?_)
           first
           | (refine GrowS.step_read (by rfl) (by rfl) (fun w => ext_refl w) ?_
              apply Exists.intro; refine ⟨fun w hB hF => ?_, ?_⟩
              · skip
                go_simp; try exact rfl
              go_simp; refine hK _ _ ?_; clear hK K)
           | (refine GrowS.step_off (by rfl) ?_
              go_simp; refine hK _ _ ?_; clear hK K))
         refine GrowS.Wk.step (fun K hK => ?_); refine GrowS.step_rel (by rfl) (by rfl) (fun w' hB hF => ?_) (fun v hv => ?_)
         · replace hB : Ext wC w' := hB; obtain ⟨c', ec, htv⟩ := hF 6 (by simp); obtain rfl := tuple_inj ec; have HCW := Hd (HV2.out.ext hB); have hst := VAt.store8 HCW.out (.int .i64 yk) (.bool yb) (.bool yd.neg) (.string ⟨yd.digits.toArray⟩) (.int .i64 yd.exp) (.string ⟨ys.toArray⟩) (.slice ya1 yn1 yc1) (.slice ya2 yn2 yc2); have HST := Hd hst; have HTV := Hd htv; clear hst htv ec hF
           obtain ⟨q0, q1, q2, q3, q4, q5, q6, q7⟩ := HCW.out.c8; obtain ⟨f0, f1, f2, f3, f4, f5, f6, f7⟩ := HCW.out.f8; go_simp; exact ⟨⟨KeptP.store8 _ _ _ _ _ _ _ _, _, HST.out, HTV.out.keep (by simp [World.setCell]) (fun g hg hlt => ⟨hg, heap8 (HAS.out g hg)⟩)⟩, rfl, trivial⟩
         obtain rfl : v = undef := hv; go_simp; refine hK _ _ ?_; clear hK K; repeat
          (refine GrowS.Wk.step (fun K hK => ?_)
           first
           | (refine GrowS.step_read (by rfl) (by rfl) (fun w => ext_refl w) ?_
              apply Exists.intro; refine ⟨fun w hB hF => ?_, ?_⟩
              · skip
                go_simp; try exact rfl
              go_simp; refine hK _ _ ?_; clear hK K)
           | (refine GrowS.step_off (by rfl) ?_
              go_simp; refine hK _ _ ?_; clear hK K))
         refine GrowS.Wk.nil ?_; intro w4 hB hF; show wpAny _ _ _ _ 0 _ _ _; refine ⟨by decide +kernel, ?_⟩; obtain ⟨hk4, cx4, hv4, htx4⟩ := hB; obtain ⟨zk, zb, zd, zs, za1, zn1, zc1, za2, zn2, zc2, rfl⟩ := htx4.eight; have HE4 := Hd (ext_keptP HE.out hk4 (by rw [HS.out]; omega)); have HV4 := Hd hv4; have HT4 := Hd (htx4.keep (A' := fun g => A g ∨ X0 g ∨ w.heap.size ≤ g) (Nat.le_refl _) (fun g hg _ => ⟨by
          rcases hg with hg | hg | hg
          · exact .inl hg.1
          · exact .inr (.inl hg)
          · exact .inr (.inr (Nat.le_trans HE.out.size hg)), rfl⟩))
         clear hF hk4 hv4 htx4 h1 hk HCALL; go_wp2_with fail; have v0 := HV4.out.cell 0; have v1 := HV4.out.cell 1; have v2 := HV4.out.cell 2; have v3 := HV4.out.cell 3; have v4 := HV4.out.cell 4; have v5 := HV4.out.cell 5; have v6 := HV4.out.cell 6; have v7 := HV4.out.cell 7; simp only [List.getElem?_toArray, List.getElem?_cons_zero, List.getElem?_cons_succ] at v0 v1 v2 v3 v4 v5 v6 v7
         refine bodyPost_ret (v := .tuple #[.agg #[.int .i64 zk, .bool zb, .bool zd.neg, .string ⟨zd.digits.toArray⟩, .int .i64 zd.exp, .string ⟨zs.toArray⟩, .slice za1 zn1 zc1, .slice za2 zn2 zc2], .int .i64 ER]) (by simp [results, Tryz.results44, go_sem, v0, v1, v2, v3, v4, v5, v6, v7]) rfl ?_; rw [HRE.out]; exact ⟨_, rfl, HT4.out, HE4.out⟩
       | cons s' l =>
         have hl1 : ((l.length : Int) + 1 + 1 == 1) = false := by simp; omega
         cases OK with
         | false =>
           have HRE : Hid (R = (tNull, 6)) := Hd (by
            rw [← HR.out]; refine changeT_none HKT.out (by simp) ?_; have := HOK.out; cases h : Orange.stepT t s with
            | none => rfl
            | some y => rw [h] at this; cases this)
           obtain ⟨y0, y1, y2, y3, y4, y5, y6, y7⟩ := HV2.out.c8; obtain ⟨z0, z1, z2, z3, z4, z5, z6, z7⟩ := HV2.out.f8; go_wp2_with fail; have hV := VAt.store8 HV2.out (.int .i64 0) (.bool false) (.bool false) (.string ⟨#[]⟩) (.int .i64 0) (.string ⟨#[]⟩) (.slice none 0 0) (.slice none 0 0); have HV := Hd hV; obtain ⟨v0, v1, v2, v3, v4, v5, v6, v7⟩ := HV.out.c8
           refine bodyPost_ret (v := .tuple #[.agg #[.int .i64 0, .bool false, .bool false, .string ⟨#[]⟩, .int .i64 0, .string ⟨#[]⟩, .slice none 0 0, .slice none 0 0], .int .i64 6]) (by simp [results, Tryz.results44, go_sem, v0, v1, v2, v3, v4, v5, v6, v7]) rfl ?_; rw [HRE.out]; exact ⟨_, rfl, TV.leaf _ _ 0 false Num.zero [], ext_set8 HE.out (by rw [HS.out]; omega)⟩
         | true =>
           have HST : Hid (Orange.stepT t s = some X) := Hd (by
            have h1 := HOK.out; have h2 := HX.out; cases h : Orange.stepT t s with
            | none => rw [h] at h1; cases h1
            | some y => rw [h] at h2; exact congrArg some h2)
           have HRE : Hid (R = if (changeT F X (s' :: l)).2 ≠ 0 then (tNull, (changeT F X (s' :: l)).2) else (layT t s (changeT F X (s' :: l)).1, 0)) := Hd (by
            rw [← HR.out]; exact changeT_some HKT.out (by simp) HST.out)
           go_upto_region 11 with fail; have hlt2 := HV2.out.lt; have hw0S : w0.heap.size ≤ S := by have := HW0.out.size; have := HS.out; omega
           obtain ⟨Y, hY⟩ := Ex ((changeT F X (s' :: l)).1); obtain ⟨ER, hER⟩ := Ex ((changeT F X (s' :: l)).2); rw [hY, hER] at HRE; obtain ⟨xk, xb, xd, xs, xa1, xn1, xc1, xa2, xn2, xc2, rfl⟩ := HTX.out.eight
           have HCALL : Hid (∀ w', Ext wC w' → Calls Tryz.prog 44 #[.agg (cellsV xk xb xd xs (.slice xa1 xn1 xc1) (.slice xa2 xn2 xc2)), .slice (some ⟨g, o + 3, none⟩) (l.length + 1) (vc - 1), .func (.func fid) #[] caps] w' (fun e w'' => ∃ c', e = .returned (.tuple #[.agg c', .int .i64 ER]) ∧ TV w'' (fun g => (A g ∧ g < S) ∨ X0 g ∨ w'.heap.size ≤ g) Y c' ∧ Ext w' w'')) := Hd (fun w' hw => by
            have h1 := IH.out (fun g => A g ∧ g < S) X _ (.slice (some ⟨g, o + 3, none⟩) (l.length + 1) (vc - 1)) w' (by simp) (ext_trans HW0.out (ext_trans HE.out hw)) (HTX.out.keep hw.size (fun g hg hlt => ⟨hg, hw.block g hlt⟩)) (PlAt.tail (HL.out.keep hw.size (fun g hg hlt => ⟨hg, hw.block g hlt⟩))) (Nat.le_trans (step_weight HST.out) HWT.out); rw [hY, hER] at h1; exact h1)
           clear hY hER; have hs1 : (1 : Int) ≤ (l.length : Int) + 1 + 1 := by omega
           have hs2 : ¬ vc = 1 := by have := hvn; simp only [List.length_cons] at this; omega
           go_cut [11, 12] (fun s11 s12 wx => ∃ p4 cx, s11 = .pointer (some ⟨p4, 0, none⟩) ∧ s12 = .int .i64 ER ∧ Ext wC wx ∧ wC.heap.size ≤ p4 ∧ VAt wx p4 cx ∧ TV wx (fun g => (A g ∧ g < S) ∨ X0 g ∨ (wC.heap.size ≤ g ∧ g ≠ p4)) Y cx)
           case first =>
            refine GrowS.wp_region_two 4 8 (by decide) (by decide) (by decide) (by kernel_rfl) ?_ ?_
            · simp only [GrowS.moreL, List.modify_succ_cons, List.modify_zero_cons, List.push_toArray, List.cons_append, List.nil_append]; show wpAny _ _ _ _ 11 (Array.replicate 11 false) _ _; have hPS : S + 1 < wC.heap.size := HV2.out.lt; obtain ⟨p4, hp⟩ := Ex wC.heap.size
              have hk : ∀ i w w', GrowS.g3 8 9 (fun i => i == 4) (fun w w' => Ext w w' ∧ w'.heap.size = w.heap.size) (fun w w' => Ext w w' ∧ VAt w' w.heap.size zeroV) Ext (fun w w' => KeptP p4 w w' ∧ ∃ cx, VAt w' p4 cx ∧ TV w' (fun g => (A g ∧ g < S) ∨ X0 g ∨ p4 + 1 ≤ g) Y cx) i w w' → KeptP p4 w w' := fun i w w' h => by
               unfold GrowS.g3 at h; split at h
               · exact KeptP.ofExt h.1
               · split at h
                 · exact h.1
                 · split at h
                   · exact KeptP.ofExt h
                   · exact KeptP.ofExt h.1
              refine GrowS.any_ord (G := GrowS.g3 8 9 (fun i => i == 4) (fun w w' => Ext w w' ∧ w'.heap.size = w.heap.size) (fun w w' => Ext w w' ∧ VAt w' w.heap.size zeroV) Ext (fun w w' => KeptP p4 w w' ∧ ∃ cx, VAt w' p4 cx ∧ TV w' (fun g => (A g ∧ g < S) ∨ X0 g ∨ p4 + 1 ≤ g) Y cx))
               (B := GrowS.at3 8 9 (fun i => i == 4) (fun w' => Ext wC w' ∧ w'.heap.size = p4) (fun w' => Ext wC w' ∧ VAt w' p4 zeroV) (fun w' => Ext wC w' ∧ ∃ cx, VAt w' p4 cx ∧ TV w' (fun g => (A g ∧ g < S) ∨ X0 g ∨ p4 + 1 ≤ g) Y cx)) (E := fun _ _ => False) (anc := fun j => if j = 9 then [4] else [])
               (I := fun j _ => if j = 4 then some (specTB hk (fun g => (A g ∧ g < S) ∨ X0 g ∨ p4 + 1 ≤ g) (by intro g hg; rcases hg with hg | hg | hg; have := hg.2; omega; have := HX0.out g hg; omega; omega) Y (.int .i64 ER)) else if j = 8 then some (GrowS.Spec.val _ (.pointer (some ⟨p4, 0, none⟩))) else if j = 9 then some (GrowS.Spec.val _ undef) else none)
               [0, 1, 2, 3, 8, 4, 5, 6, 7, 9, 10] (Array.replicate 11 false) (Array.replicate 11 true) (fun _ _ _ _ _ _ _ _ _ _ => rfl) (by kernel_rfl) (by kernel_rfl) GrowS.closed_none
               (GrowS.inv3_ok (al := 8) (st := 9) (by decide) (by kernel_rfl) (by kernel_rfl) (by kernel_rfl) (by kernel_rfl) ?_ ?_ ?_ ?_ ?_ ?_ ?_) ?_ ?_ ?_
              · exact fun w w' h hg => ⟨ext_trans h.1 hg.1, hg.2.trans h.2⟩
              · exact fun w w' h hg => ⟨ext_trans h.1 hg.1, h.2.ext hg.1⟩
              · exact fun w w' h hg => ⟨ext_trans h.1 hg.1, by obtain ⟨cx, h2, h3⟩ := h.2; exact ⟨cx, h2.ext hg.1, h3.keep hg.1.size (fun g hgA hlt => ⟨hgA, hg.1.block g hlt⟩)⟩⟩
              · exact fun w w' h hg => ⟨ext_trans h.1 hg.1, by rw [← h.2]; exact hg.2⟩
              · exact fun w w' h hg => ⟨ext_trans h.1 hg, h.2.ext hg⟩
              · exact fun w w' h hg => ⟨ext_trans h.1 hg, by obtain ⟨cx, h2, h3⟩ := h.2; exact ⟨cx, h2.ext hg, h3.keep hg.size (fun g hgA hlt => ⟨hgA, hg.block g hlt⟩)⟩⟩
              · exact fun w w' h hg => ⟨ext_keptP h.1 hg.1 (by omega), hg.2⟩
              · exact fun _ _ _ _ h => h.elim
              · exact ⟨by unfold GrowS.inv3; simp; exact ⟨(ext_refl _).drew, hp⟩, GrowS.closed_none, by kernel_rfl⟩
              · refine GrowS.WkO.out ?_; repeat
                 (refine GrowS.WkO.step (by rfl) (fun K hK => ?_)
                  first
                  | (refine GrowS.step_read (by rfl) (by rfl) (fun w => ⟨ext_refl w, rfl⟩) ?_
                     apply Exists.intro; refine ⟨fun w hB hF => ?_, ?_⟩
                     · have hX : Ext wC w := (by have h3 : _ ∨ _ ∨ _ := hB; rcases h3 with h3 | h3 | h3 <;> exact h3.1); have HCW := HVP.out.ext hX; obtain ⟨c0, c1, c2, c3, c4, c5, c6, c7⟩ := HCW.c8; go_simp; try exact rfl
                     go_simp; refine hK _ _ ?_; clear hK K)
                  | (refine GrowS.step_off (by rfl) ?_
                     go_simp; refine hK _ _ ?_; clear hK K))
                refine GrowS.WkO.step (by rfl) (fun K hK => ?_); refine GrowS.step_rel (by rfl) (by rfl) (fun w' hB hF => ?_) (fun v hv => ?_)
                · replace hB : Ext wC w' ∧ w'.heap.size = p4 := hB; go_simp; exact GrowS.relUpon_value ⟨(ext_refl w').alloc (Nat.le_refl _) _, heap_alloc_new _ _⟩ rfl trivial
                obtain rfl : v = .pointer (some ⟨p4, 0, none⟩) := hv; go_simp; refine hK _ _ ?_; clear hK K; refine GrowS.WkO.step (by rfl) (fun K hK => ?_); refine GrowS.step_rel (by rfl) (by rfl) (fun w' hB hF => ?_) (fun v hv => ?_)
                · have hX : Ext wC w' ∧ p4 < w'.heap.size := (by
                   have h3 : (Ext wC w' ∧ VAt w' p4 zeroV) ∨ (Ext wC w' ∧ ∃ cx, VAt w' p4 cx ∧ TV w' (fun g => (A g ∧ g < S) ∨ X0 g ∨ p4 + 1 ≤ g) Y cx) := hB; rcases h3 with h3 | ⟨h3, cx, h4, _⟩
                   · exact ⟨h3.1, h3.2.lt⟩
                   · exact ⟨h3, h4.lt⟩)
                  go_simp; refine GrowS.relUpon_enter ((HCALL.out w' hX.1).mono ?_); rintro e w'' ⟨c', rfl, htv, hw''⟩; obtain ⟨yk, yb, yd, ys, ya1, yn1, yc1, ya2, yn2, yc2, rfl⟩ := htv.eight; exact .inl ⟨_, rfl, hw'', ⟨_, _, _, _, _, _, _, _, _, _, rfl⟩, _, rfl, htv.keep (Nat.le_refl _) (fun g hg _ => ⟨by rcases hg with hg | hg | hg; exact .inl hg; exact .inr (.inl hg); exact .inr (.inr (by omega)), rfl⟩)⟩
                obtain ⟨yk, yb, yd, ys, ya1, yn1, yc1, ya2, yn2, yc2, rfl⟩ := hv; go_simp; refine hK _ _ ?_; clear hK K; repeat
                 (refine GrowS.WkO.step (by rfl) (fun K hK => ?_)
                  first
                  | (refine GrowS.step_read (by rfl) (by rfl) (fun w => ⟨ext_refl w, rfl⟩) ?_
                     apply Exists.intro; refine ⟨fun w hB hF => ?_, ?_⟩
                     · skip
                       go_simp; try exact rfl
                     go_simp; refine hK _ _ ?_; clear hK K)
                  | (refine GrowS.step_off (by rfl) ?_
                     go_simp; refine hK _ _ ?_; clear hK K))
                refine GrowS.WkO.step (by rfl) (fun K hK => ?_); refine GrowS.step_rel (by rfl) (by rfl) (fun w' hB hF => ?_) (fun v hv => ?_)
                · replace hB : Ext wC w' ∧ VAt w' p4 zeroV := hB; obtain ⟨c', ec, htv⟩ := hF 4 (by simp); obtain rfl := tuple_inj ec; have HCW := Hd hB.2; have hst := VAt.store8 HCW.out (.int .i64 yk) (.bool yb) (.bool yd.neg) (.string ⟨yd.digits.toArray⟩) (.int .i64 yd.exp) (.string ⟨ys.toArray⟩) (.slice ya1 yn1 yc1) (.slice ya2 yn2 yc2); have HST := Hd hst; have HTV := Hd htv; clear hst htv ec hF hB
                  obtain ⟨q0, q1, q2, q3, q4, q5, q6, q7⟩ := HCW.out.c8; obtain ⟨f0, f1, f2, f3, f4, f5, f6, f7⟩ := HCW.out.f8; go_simp; exact ⟨⟨KeptP.store8 _ _ _ _ _ _ _ _, _, HST.out, HTV.out.keep (by simp [World.setCell]) (fun g hg hlt => ⟨hg, heap8 (by rcases hg with hg | hg | hg; have := hg.2; omega; have := HX0.out g hg; omega; omega)⟩)⟩, rfl, trivial⟩
                obtain rfl : v = undef := hv; go_simp; refine hK _ _ ?_; clear hK K; repeat
                 (refine GrowS.WkO.step (by rfl) (fun K hK => ?_)
                  first
                  | (refine GrowS.step_read (by rfl) (by rfl) (fun w => ⟨ext_refl w, rfl⟩) ?_
                     apply Exists.intro; refine ⟨fun w hB hF => ?_, ?_⟩
                     · skip
                       go_simp; try exact rfl
                     go_simp; refine hK _ _ ?_; clear hK K)
                  | (refine GrowS.step_off (by rfl) ?_
                     go_simp; refine hK _ _ ?_; clear hK K))
                refine GrowS.WkO.nil ?_; intro w4 hI4 hF; have h4 := hI4.1; clear hF hI4; unfold GrowS.inv3 at h4; rw [if_pos (by decide)] at h4; obtain ⟨hE4, cx, hv4, ht4⟩ := h4; go_wp2_with fail; go_meet; exact ⟨p4, cx, rfl, rfl, hE4, by omega, hv4, ht4.keep (Nat.le_refl _) (fun g hg _ => ⟨by rcases hg with hg | hg | hg; exact .inl hg; exact .inr (.inl hg); exact .inr (.inr ⟨by omega, by omega⟩), rfl⟩)⟩
            · simp only [GrowS.moreL, List.modify_succ_cons, List.modify_zero_cons, List.push_toArray, List.cons_append, List.nil_append]; have hPS : S + 1 < wC.heap.size := HV2.out.lt; have hk0 : ∀ (i : Nat) (w w' : World), Ext w w' → KeptP S w w' := fun _ _ _ h => KeptP.ofExt h
              refine GrowS.any_restTA (G := fun _ => Ext) (B := fun _ w' => Ext wC w') (E := fun _ _ => False) (anc := fun _ => []) (Inv := fun _ w' => Ext wC w')
               (I := fun j _ => if j = 4 then some (specTB hk0 (fun g => (A g ∧ g < S) ∨ X0 g ∨ wC.heap.size ≤ g) (by intro g hg; rcases hg with hg | hg | hg; have := hg.2; omega; have := HX0.out g hg; omega; omega) Y (.int .i64 ER)) else none)
               5 (fun j => if j = 2 then [1] else if j = 4 then [0, 1, 2, 3] else if 5 ≤ j then [0, 1, 2, 3, 4] else []) #[true, true, true, true, true, false, false, false, false, false, false] (fun _ _ _ _ _ _ _ _ _ _ => rfl) (by kernel_rfl) (by kernel_rfl) (GrowS.inv_const fun _ _ h hg => ext_trans h hg) ?_ ?_ ?_
              · exact fun _ _ _ _ h => h.elim
              · exact (ext_refl _).drew
              · refine GrowS.Wk.out ?_; simp only [List.take_succ_cons, List.take_zero, List.drop_succ_cons, List.drop_zero]; repeat
                 (refine GrowS.Wk.step (fun K hK => ?_)
                  first
                  | (refine GrowS.step_read (by rfl) (by rfl) (fun w => ext_refl w) ?_
                     apply Exists.intro; refine ⟨fun w hB hF => ?_, ?_⟩
                     · replace hB : Ext wC w := hB; have HCW := HVP.out.ext hB; obtain ⟨c0, c1, c2, c3, c4, c5, c6, c7⟩ := HCW.c8; go_simp; try exact rfl
                     go_simp; refine hK _ _ ?_; clear hK K)
                  | (refine GrowS.step_off (by rfl) ?_
                     go_simp; refine hK _ _ ?_; clear hK K))
                refine GrowS.Wk.step (fun K hK => ?_); refine GrowS.step_rel (by rfl) (by rfl) (fun w' hB hF => ?_) (fun v hv => ?_)
                · replace hB : Ext wC w' := hB; go_simp; refine GrowS.relUpon_enter ((HCALL.out w' hB).mono ?_); rintro e w'' ⟨c', rfl, htv, hw''⟩; obtain ⟨yk, yb, yd, ys, ya1, yn1, yc1, ya2, yn2, yc2, rfl⟩ := htv.eight
                  exact .inl ⟨_, rfl, hw'', ⟨_, _, _, _, _, _, _, _, _, _, rfl⟩, _, rfl, htv.keep (Nat.le_refl _) (fun g hg _ => ⟨by rcases hg with hg | hg | hg; exact .inl hg; exact .inr (.inl hg); exact .inr (.inr (Nat.le_trans hB.size hg)), rfl⟩)⟩
                obtain ⟨yk, yb, yd, ys, ya1, yn1, yc1, ya2, yn2, yc2, rfl⟩ := hv; go_simp; refine hK _ _ ?_; clear hK K; refine GrowS.Wk.nil ?_; intro w5 hE5 hF5; obtain ⟨c', ec, htv⟩ := hF5 4; obtain rfl := tuple_inj ec; have HTV := Hd htv; have HE5 := Hd hE5; clear hF5 ec htv hE5 hk0; obtain ⟨p4, hp⟩ := Ex w5.heap.size; have hSp : S + 1 < p4 := by have := HE5.out.size; omega
                show wpAny _ _ _ _ 6 _ _ _; refine GrowS.any_ord (G := GrowS.g3 8 9 (fun i => false) (fun w w' => Ext w w' ∧ w'.heap.size = w.heap.size) (fun w w' => Ext w w' ∧ VAt w' w.heap.size zeroV) Ext (fun w w' => KeptP p4 w w' ∧ ∃ cx, VAt w' p4 cx ∧ TV w' (fun g => (A g ∧ g < S) ∨ X0 g ∨ (wC.heap.size ≤ g ∧ g ≠ p4)) Y cx))
                 (B := GrowS.at3 8 9 (fun i => false) (fun w' => Ext w5 w' ∧ w'.heap.size = p4) (fun w' => Ext w5 w' ∧ VAt w' p4 zeroV) (fun w' => Ext w5 w' ∧ ∃ cx, VAt w' p4 cx ∧ TV w' (fun g => (A g ∧ g < S) ∨ X0 g ∨ (wC.heap.size ≤ g ∧ g ≠ p4)) Y cx)) (E := fun _ _ => False) (anc := fun j => [])
                 (I := fun j _ => if j = 8 then some (GrowS.Spec.val _ (.pointer (some ⟨p4, 0, none⟩))) else if j = 9 then some (GrowS.Spec.val _ undef) else none)
                 [5, 6, 7, 8, 9, 10] #[true, true, true, true, true, false, false, false, false, false, false] (Array.replicate 11 true) (fun _ _ _ _ _ _ _ _ _ _ => rfl) (by kernel_rfl) (by kernel_rfl) (GrowS.closed_of (by kernel_rfl))
                 (GrowS.inv3_ok (al := 8) (st := 9) (by decide) (by kernel_rfl) (by kernel_rfl) (by kernel_rfl) (by kernel_rfl) ?_ ?_ ?_ ?_ ?_ ?_ ?_) ?_ ?_ ?_
                · exact fun w w' h hg => ⟨ext_trans h.1 hg.1, hg.2.trans h.2⟩
                · exact fun w w' h hg => ⟨ext_trans h.1 hg.1, h.2.ext hg.1⟩
                · exact fun w w' h hg => ⟨ext_trans h.1 hg.1, by obtain ⟨cx, h2, h3⟩ := h.2; exact ⟨cx, h2.ext hg.1, h3.keep hg.1.size (fun g hgA hlt => ⟨hgA, hg.1.block g hlt⟩)⟩⟩
                · exact fun w w' h hg => ⟨ext_trans h.1 hg.1, by rw [← h.2]; exact hg.2⟩
                · exact fun w w' h hg => ⟨ext_trans h.1 hg, h.2.ext hg⟩
                · exact fun w w' h hg => ⟨ext_trans h.1 hg, by obtain ⟨cx, h2, h3⟩ := h.2; exact ⟨cx, h2.ext hg, h3.keep hg.size (fun g hgA hlt => ⟨hgA, hg.block g hlt⟩)⟩⟩
                · exact fun w w' h hg => ⟨ext_keptP h.1 hg.1 (by omega), hg.2⟩
                · exact fun _ _ _ _ h => h.elim
                · exact ⟨by unfold GrowS.inv3; rw [if_neg (by decide), if_neg (by decide)]; exact ⟨ext_refl _, hp⟩, GrowS.closed_of (by kernel_rfl), by kernel_rfl⟩
                · refine GrowS.WkO.out ?_; repeat
                   (refine GrowS.WkO.step (by rfl) (fun K hK => ?_)
                    first
                    | (refine GrowS.step_read (by rfl) (by rfl) (fun w => ⟨ext_refl w, rfl⟩) ?_
                       apply Exists.intro; refine ⟨fun w hB hF => ?_, ?_⟩
                       · skip
                         go_simp; try exact rfl
                       go_simp; refine hK _ _ ?_; clear hK K)
                    | (refine GrowS.step_off (by rfl) ?_
                       go_simp; refine hK _ _ ?_; clear hK K))
                  refine GrowS.WkO.step (by rfl) (fun K hK => ?_); refine GrowS.step_rel (by rfl) (by rfl) (fun w' hB hF => ?_) (fun v hv => ?_)
                  · replace hB : Ext w5 w' ∧ w'.heap.size = p4 := hB; go_simp; exact GrowS.relUpon_value ⟨(ext_refl w').alloc (Nat.le_refl _) _, heap_alloc_new _ _⟩ rfl trivial
                  obtain rfl : v = .pointer (some ⟨p4, 0, none⟩) := hv; go_simp; refine hK _ _ ?_; clear hK K; refine GrowS.WkO.step (by rfl) (fun K hK => ?_); refine GrowS.step_rel (by rfl) (by rfl) (fun w' hB hF => ?_) (fun v hv => ?_)
                  · replace hB : Ext w5 w' ∧ VAt w' p4 zeroV := hB; have HCW := Hd hB.2; have HTW := Hd (HTV.out.keep (A' := fun g => ((A g ∧ g < S) ∨ X0 g ∨ (wC.heap.size ≤ g ∧ g ≠ p4)) ∧ g ≠ p4) hB.1.size (fun g hg hlt => ⟨⟨by rcases hg with hg | hg | hg; exact .inl hg; exact .inr (.inl hg); exact .inr (.inr ⟨hg, by omega⟩), by omega⟩, hB.1.block g hlt⟩))
                    have hst := VAt.store8 HCW.out (.int .i64 yk) (.bool yb) (.bool yd.neg) (.string ⟨yd.digits.toArray⟩) (.int .i64 yd.exp) (.string ⟨ys.toArray⟩) (.slice ya1 yn1 yc1) (.slice ya2 yn2 yc2); have HST := Hd hst; clear hst hF hB; obtain ⟨q0, q1, q2, q3, q4, q5, q6, q7⟩ := HCW.out.c8; obtain ⟨f0, f1, f2, f3, f4, f5, f6, f7⟩ := HCW.out.f8; go_simp
                    exact ⟨⟨KeptP.store8 _ _ _ _ _ _ _ _, _, HST.out, HTW.out.keep (by simp [World.setCell]) (fun g hg hlt => ⟨hg.1, heap8 hg.2⟩)⟩, rfl, trivial⟩
                  obtain rfl : v = undef := hv; go_simp; refine hK _ _ ?_; clear hK K; repeat
                   (refine GrowS.WkO.step (by rfl) (fun K hK => ?_)
                    first
                    | (refine GrowS.step_read (by rfl) (by rfl) (fun w => ⟨ext_refl w, rfl⟩) ?_
                       apply Exists.intro; refine ⟨fun w hB hF => ?_, ?_⟩
                       · skip
                         go_simp; try exact rfl
                       go_simp; refine hK _ _ ?_; clear hK K)
                    | (refine GrowS.step_off (by rfl) ?_
                       go_simp; refine hK _ _ ?_; clear hK K))
                  refine GrowS.WkO.nil ?_; intro w4 hI4 hF; have h4 := hI4.1; clear hF hI4; unfold GrowS.inv3 at h4; rw [if_pos (by decide)] at h4; obtain ⟨hE4, cx, hv4, ht4⟩ := h4; go_wp2_with fail; go_meet; exact ⟨p4, cx, rfl, rfl, ext_trans HE5.out hE4, by have := HE5.out.size; omega, hv4, ht4⟩
           case rest =>
            obtain ⟨p4, cx4, rfl, rfl, hE4, hp4, hv4, ht4⟩ := hcut; obtain ⟨w5, rfl⟩ : ∃ w5, w5 = wc := ⟨_, rfl⟩
            obtain ⟨zk, zb, zd, zs, za1, zn1, zc1, za2, zn2, zc2, rfl⟩ := ht4.eight; have HV4 := Hd hv4; have HT4 := Hd ht4; have HE5 := Hd (ext_trans HE.out hE4); have HC5 := Hd (HC.out.ext hE4); have HV5 := Hd (HV2.out.ext hE4); have HTT := Hd (HT.out.keep (w' := w5) (A' := fun g => (A g ∧ g < S) ∨ X0 g ∨ (wC.heap.size ≤ g ∧ g ≠ p4)) hE4.size (fun g hg hlt => ⟨.inl hg, hE4.block g hlt⟩))
            have HEL5 : Hid (∀ w', Ext w5 w' → _) := Hd (fun w' hw => HEL.out w' (ext_trans hE4 hw)); have HPC := Hd (Nat.lt_of_lt_of_le hlt2 hE4.size); clear hv4 ht4 hE4 HCALL; by_cases hz : ER = 0
            · subst hz; have HRZ : Hid (R = (layT t s Y, 0)) := Hd (by rw [HRE.out]; simp); have hlen : t.list.length ≤ 1000000 ∧ t.mems.length ≤ 1000000 := by
               have h1 := countT_ins t; have h2 := countL_len t.ins; have h3 := ins_len t; have h4 := count_weight t; have h5 := HWT.out; exact ⟨by omega, by omega⟩
              have HLAY : Hid (∀ w', Ext w5 w' → Calls Tryz.prog 46 #[.agg (cellsV k b d ss (.slice la ln lc) (.slice ma mn mc)), .agg (cellsS s), .agg (cellsV zk zb zd zs (.slice za1 zn1 zc1) (.slice za2 zn2 zc2))] w' (fun e w'' => ∃ c', e = .returned (.agg c') ∧ TV w'' (fun g => (A g ∧ g < S) ∨ X0 g ∨ wC.heap.size ≤ g) (layT t s Y) c' ∧ Ext w' w'')) := Hd (fun w' hw => by
               refine (lay_any t Y _ _ (fun g => (A g ∧ g < S) ∨ X0 g ∨ (wC.heap.size ≤ g ∧ g ≠ p4)) s w' (HTT.out.keep hw.size (fun g hg hlt => ⟨hg, hw.block g hlt⟩)) (HT4.out.keep hw.size (fun g hg hlt => ⟨hg, hw.block g hlt⟩)) (by rw [HST.out]; rfl) hlen.1 hlen.2).mono ?_; rintro e w'' ⟨c', h2, h3, h4⟩; exact ⟨c', h2, h3.keep (Nat.le_refl _) (fun g hg _ => ⟨by
                rcases hg with (hg | hg | hg) | hg
                · exact .inl hg
                · exact .inr (.inl hg)
                · exact .inr (.inr hg.1)
                · exact .inr (.inr (Nat.le_trans (Nat.le_of_lt (Nat.lt_of_le_of_lt hp4 (Nat.lt_of_lt_of_le HV4.out.lt hw.size))) hg)), rfl⟩), h4⟩)
              have HAS : Hid (∀ g, ((A g ∧ g < S) ∨ X0 g ∨ wC.heap.size ≤ g) → g ≠ S + 1) := Hd (fun g hg => by
               rcases hg with hg | hg | hg
               · have := hg.2; omega
               · have := HX0.out g hg; omega
               · omega)
              obtain ⟨Z, hZ⟩ := Ex (layT t s Y); rw [hZ] at HRZ HLAY; clear hZ hlen; have hl0 : (0 : Int) < (l.length : Int) + 1 + 1 := by omega
              go_upto_region 14 with fail; have hk : ∀ i w w', GrowS.gS 6 Ext (fun w1 w' => KeptP (S + 1) w1 w' ∧ ∃ cx, VAt w' (S + 1) cx ∧ TV w' (fun g => (A g ∧ g < S) ∨ X0 g ∨ wC.heap.size ≤ g) Z cx) i w w' → KeptP (S + 1) w w' := fun i w w' hg => by
               unfold GrowS.gS at hg; split at hg; exact hg.1; exact KeptP.ofExt hg
              refine GrowS.wp_region_restW (G0 := Ext) (G1 := fun w1 w' => KeptP (S + 1) w1 w' ∧ ∃ cx, VAt w' (S + 1) cx ∧ TV w' (fun g => (A g ∧ g < S) ∨ X0 g ∨ wC.heap.size ≤ g) Z cx) (B0 := fun w' => Ext w5 w') (B1 := fun w' => KeptP (S + 1) w5 w' ∧ ∃ cx, VAt w' (S + 1) cx ∧ TV w' (fun g => (A g ∧ g < S) ∨ X0 g ∨ wC.heap.size ≤ g) Z cx) (E := fun _ _ => False) (anc := fun j => if j = 6 then [5] else [])
               (I := fun j => if j = 5 then some (specTG hk (fun g => (A g ∧ g < S) ∨ X0 g ∨ wC.heap.size ≤ g) HAS.out Z) else if j = 6 then some (GrowS.Spec.val _ undef) else none) 6 8 (fun j => if j = 6 then [0, 1, 2, 3, 4, 5] else []) (Array.replicate 8 true)
               (by kernel_rfl) (by kernel_rfl) (by kernel_rfl) (by kernel_rfl) (by kernel_rfl) (by kernel_rfl) ?_ ?_ ?_ ?_ ?_ ?_
              · exact fun w w' h hg => ext_trans h hg
              · exact fun w1 w' h hg => ⟨h.1.trans (KeptP.ofExt hg), by
                 obtain ⟨cx, h2, h3⟩ := h.2; exact ⟨cx, h2.ext hg, h3.keep hg.size (fun g hgA hlt => ⟨hgA, hg.block g hlt⟩)⟩⟩
              · exact fun w1 w' h hg => ⟨(KeptP.ofExt h).trans hg.1, hg.2⟩
              · exact fun _ _ _ _ h => h.elim
              · exact (ext_refl _).drew
              simp only [List.take_succ_cons, List.take_zero, List.drop_succ_cons, List.drop_zero]; repeat
               (refine GrowS.Wk.step (fun K hK => ?_)
                first
                | (refine GrowS.step_read (by rfl) (by rfl) (fun w => ext_refl w) ?_
                   apply Exists.intro; refine ⟨fun w hB hF => ?_, ?_⟩
                   · replace hB : Ext w5 w := hB; have HCW := HC5.out.ext hB; obtain ⟨c0, c1, c2, c3, c4, c5, c6, c7⟩ := HCW.c8; obtain ⟨s0, s1, s2⟩ := HEL5.out w hB; have HPW := HV4.out.ext hB; have p0 := HPW.cell 0; have p1 := HPW.cell 1; have p2 := HPW.cell 2; have p3 := HPW.cell 3; have p5 := HPW.cell 4; have p6 := HPW.cell 5; have p7 := HPW.cell 6; have p8 := HPW.cell 7; simp at p0 p1 p2 p3 p5 p6 p7 p8; go_simp
                     try exact rfl
                   go_simp; refine hK _ _ ?_; clear hK K)
                | (refine GrowS.step_off (by rfl) ?_
                   go_simp; refine hK _ _ ?_; clear hK K))
              refine GrowS.Wk.step (fun K hK => ?_); refine GrowS.step_rel (by rfl) (by rfl) (fun w' hB hF => ?_) (fun v hv => ?_)
              · replace hB : Ext w5 w' := hB; go_simp; refine GrowS.relUpon_enter ((HLAY.out w' hB).mono ?_); rintro e w'' ⟨c', rfl, htv, hw''⟩; obtain ⟨yk, yb, yd, ys, ya1, yn1, yc1, ya2, yn2, yc2, rfl⟩ := htv.eight; exact .inl ⟨_, rfl, hw'', ⟨_, _, _, _, _, _, _, _, _, _, rfl⟩, _, rfl, htv⟩
              obtain ⟨yk, yb, yd, ys, ya1, yn1, yc1, ya2, yn2, yc2, rfl⟩ := hv; go_simp; refine hK _ _ ?_; clear hK K; refine GrowS.Wk.step (fun K hK => ?_); refine GrowS.step_rel (by rfl) (by rfl) (fun w' hB hF => ?_) (fun v hv => ?_)
              · replace hB : Ext w5 w' := hB; obtain ⟨c', ec, htv⟩ := hF 5 (by simp); simp only [Value.agg.injEq] at ec; subst ec; have HCW := Hd (HV5.out.ext hB); have HST2 := Hd (VAt.store8 HCW.out (.int .i64 yk) (.bool yb) (.bool yd.neg) (.string ⟨yd.digits.toArray⟩) (.int .i64 yd.exp) (.string ⟨ys.toArray⟩) (.slice ya1 yn1 yc1) (.slice ya2 yn2 yc2)); have HTV := Hd htv; clear htv hF
                obtain ⟨q0, q1, q2, q3, q4, q5, q6, q7⟩ := HCW.out.c8; obtain ⟨f0, f1, f2, f3, f4, f5, f6, f7⟩ := HCW.out.f8; go_simp; exact ⟨⟨KeptP.store8 _ _ _ _ _ _ _ _, _, HST2.out, HTV.out.keep (by simp [World.setCell]) (fun g hg hlt => ⟨hg, heap8 (HAS.out g hg)⟩)⟩, rfl, trivial⟩
              obtain rfl : v = undef := hv; go_simp; refine hK _ _ ?_; clear hK K; repeat
               (refine GrowS.Wk.step (fun K hK => ?_)
                first
                | (refine GrowS.step_read (by rfl) (by rfl) (fun w => ext_refl w) ?_
                   apply Exists.intro; refine ⟨fun w hB hF => ?_, ?_⟩
                   · skip
                     go_simp; try exact rfl
                   go_simp; refine hK _ _ ?_; clear hK K)
                | (refine GrowS.step_off (by rfl) ?_
                   go_simp; refine hK _ _ ?_; clear hK K))
              refine GrowS.Wk.nil ?_; intro w6 hB hF; show wpAny _ _ _ _ 0 _ _ _; refine ⟨by decide +kernel, ?_⟩; obtain ⟨hk6, cx6, hv6, htx6⟩ := hB; obtain ⟨uk, ub, ud, us, ua1, un1, uc1, ua2, un2, uc2, rfl⟩ := htx6.eight; have HE6 := Hd (ext_keptP HE5.out hk6 (by rw [HS.out]; omega)); have HV6 := Hd hv6; have HT6 := Hd (htx6.keep (A' := fun g => A g ∨ X0 g ∨ w.heap.size ≤ g) (Nat.le_refl _) (fun g hg _ => ⟨by
               rcases hg with hg | hg | hg
               · exact .inl hg.1
               · exact .inr (.inl hg)
               · exact .inr (.inr (Nat.le_trans HE.out.size hg)), rfl⟩))
              clear hF hk6 hv6 htx6 hk HLAY; go_wp2_with fail; have v0 := HV6.out.cell 0; have v1 := HV6.out.cell 1; have v2 := HV6.out.cell 2; have v3 := HV6.out.cell 3; have v4 := HV6.out.cell 4; have v5 := HV6.out.cell 5; have v6 := HV6.out.cell 6; have v7 := HV6.out.cell 7; simp only [List.getElem?_toArray, List.getElem?_cons_zero, List.getElem?_cons_succ] at v0 v1 v2 v3 v4 v5 v6 v7
              refine bodyPost_ret (v := .tuple #[.agg #[.int .i64 uk, .bool ub, .bool ud.neg, .string ⟨ud.digits.toArray⟩, .int .i64 ud.exp, .string ⟨us.toArray⟩, .slice ua1 un1 uc1, .slice ua2 un2 uc2], .int .i64 0]) (by simp [results, Tryz.results44, go_sem, v0, v1, v2, v3, v4, v5, v6, v7]) rfl ?_; rw [HRZ.out]; exact ⟨_, rfl, HT6.out, HE6.out⟩
            · have hern : (ER != 0) = true := by simpa using hz
              have HRZ : Hid (R = (tNull, ER)) := Hd (by rw [HRE.out, if_pos hz]); obtain ⟨y0, y1, y2, y3, y4, y5, y6, y7⟩ := HV5.out.c8; obtain ⟨z0, z1, z2, z3, z4, z5, z6, z7⟩ := HV5.out.f8; go_wp2_with fail; have hV := VAt.store8 HV5.out (.int .i64 0) (.bool false) (.bool false) (.string ⟨#[]⟩) (.int .i64 0) (.string ⟨#[]⟩) (.slice none 0 0) (.slice none 0 0); have HV := Hd hV
              obtain ⟨v0, v1, v2, v3, v4, v5, v6, v7⟩ := HV.out.c8; refine bodyPost_ret (v := .tuple #[.agg #[.int .i64 0, .bool false, .bool false, .string ⟨#[]⟩, .int .i64 0, .string ⟨#[]⟩, .slice none 0 0, .slice none 0 0], .int .i64 ER]) (by simp [results, Tryz.results44, go_sem, v0, v1, v2, v3, v4, v5, v6, v7]) rfl ?_; rw [HRZ.out]
              exact ⟨_, rfl, TV.leaf _ _ 0 false Num.zero [], ext_set8 HE5.out (by rw [HS.out]; omega)⟩
    · have HRR : Hid (R = (tNull, 8)) := Hd (by rw [← HR.out]; exact changeT_kind (by rw [← HK.out, HKS.out]; exact hkk)); have hkb : (k != K) = true := by simpa using hkk
      clear hkk; obtain ⟨y0, y1, y2, y3, y4, y5, y6, y7⟩ := HV2.out.c8; obtain ⟨z0, z1, z2, z3, z4, z5, z6, z7⟩ := HV2.out.f8; go_wp2_with fail; have hV := VAt.store8 HV2.out (.int .i64 0) (.bool false) (.bool false) (.string ⟨#[]⟩) (.int .i64 0) (.string ⟨#[]⟩) (.slice none 0 0) (.slice none 0 0); have HV := Hd hV; obtain ⟨v0, v1, v2, v3, v4, v5, v6, v7⟩ := HV.out.c8
      refine bodyPost_ret (v := .tuple #[.agg #[.int .i64 0, .bool false, .bool false, .string ⟨#[]⟩, .int .i64 0, .string ⟨#[]⟩, .slice none 0 0, .slice none 0 0], .int .i64 8]) (by simp [results, Tryz.results44, go_sem, v0, v1, v2, v3, v4, v5, v6, v7]) rfl ?_; rw [HRR.out]; exact ⟨_, rfl, TV.leaf _ _ 0 false Num.zero [], ext_set8 HE.out (by rw [HS.out]; omega)⟩
theorem ownsRow_low {w : World} {b b' : Nat} {e : TypeId} {z n : Nat} {v : Value} {cs : List Value} (h : w.ownsRow b e z v n cs) (hb : b' ≤ b) : w.ownsRow b' e z v n cs := by
 obtain ⟨h1, h2⟩ := h; refine ⟨h1, ?_⟩; rcases h2 with h2 | ⟨g, cap, cur, h3, h4, h5⟩
 · exact .inl h2
 · exact .inr ⟨g, cap, cur, h3, Nat.le_trans hb h4, h5⟩
def specRow (e : TypeId) (z n : Nat) (cs : List Value) (B : Nat) : GrowS.Spec (fun _ => Ext) :=
 ⟨fun v => ∃ a c, v = .slice a n c, fun v w => w.ownsRow B e z v n cs, ⟨_, none, 0, rfl⟩, fun i v w w' h hg => ownsRow_ext h hg⟩
def specOneR (e : TypeId) (c : Array Value) : GrowS.Spec (fun _ => Ext) :=
 ⟨fun v => ∃ g, v = .slice (some ⟨g, 0, none⟩) 1 1, fun v w => ∃ g, v = .slice (some ⟨g, 0, none⟩) 1 1 ∧ w.heap[g]? = some (.cells c e (0, 0)), ⟨_, 0, rfl⟩, fun i v w w' ⟨g, e1, h⟩ hg => ⟨g, e1, by rw [hg.block g (Array.getElem?_eq_some_iff.1 h).1]; exact h⟩⟩
set_option maxHeartbeats 12800000 in
theorem put1_does (x : Tree) (cx : Array Value) (px : Nat) (X0 : Nat → Prop) (w0 : World) (hX0 : ∀ g, X0 g → g < w0.heap.size) (hx : TV w0 X0 x cx) (hbox : VAt w0 px cx) : DoesF (putF x) 45 #[.pointer (some ⟨px, 0, none⟩)] X0 w0 := by
 intro A t c s w hw0 h hwt hpos hkS; obtain ⟨R, hR⟩ := Ex (putF x t s (Orange.stepT t s).isSome); rw [hR]; have HR := Hd hR; clear hR; obtain ⟨k, b, d, ss, la, ln, lc, ma, mn, mc, rfl⟩ := h.eight; obtain ⟨xk, xb, xd, xs, xa1, xn1, xc1, xa2, xn2, xc2, rfl⟩ := hx.eight; obtain ⟨cl, cm, htl, hrl, htm, hrm, hk, hb, hd1, hd2, hd3, hss⟩ := tv_rows h; obtain ⟨_, a1, c1, ea, hl1, hl2, -⟩ := id hrl
 simp only [Value.slice.injEq] at ea; obtain ⟨rfl, eln, rfl⟩ := ea; subst eln; obtain ⟨_, a2, c2, ea, hm1, hm2, -⟩ := id hrm; simp only [Value.slice.injEq] at ea; obtain ⟨rfl, emn, rfl⟩ := ea; subst emn; obtain ⟨wA, ewA⟩ : ∃ W, w.alloc (.cells (cellsV k b d ss (.slice la t.list.length lc) (.slice ma t.mems.length mc)) 27) = W := ⟨_, rfl⟩
 have nwA : wA.heap[w.heap.size]? = some (.cells (cellsV k b d ss (.slice la t.list.length lc) (.slice ma t.mems.length mc)) 27) := by rw [← ewA]; exact heap_alloc_new _ _
 have xwA : Ext w wA := by rw [← ewA]; exact (ext_refl _).alloc (Nat.le_refl _) _
 have swA : wA.heap.size = w.heap.size + 1 := by rw [← ewA]; simp
 obtain ⟨wB, ewB⟩ : ∃ W, wA.alloc (.cells (cellsS s) 46) = W := ⟨_, rfl⟩
 have nwB : wB.heap[wA.heap.size]? = some (.cells (cellsS s) 46) := by rw [← ewB]; exact heap_alloc_new _ _
 have xwB : Ext wA wB := by rw [← ewB]; exact (ext_refl _).alloc (Nat.le_refl _) _
 have swB : wB.heap.size = wA.heap.size + 1 := by rw [← ewB]; simp
 obtain ⟨wr, ewr⟩ : ∃ W, wB.alloc (.cells zeroV 27) = W := ⟨_, rfl⟩
 have nwr : wr.heap[wB.heap.size]? = some (.cells zeroV 27) := by rw [← ewr]; exact heap_alloc_new _ _
 have xwr : Ext wB wr := by rw [← ewr]; exact (ext_refl _).alloc (Nat.le_refl _) _
 have swr : wr.heap.size = wB.heap.size + 1 := by rw [← ewr]; simp
 have hE := ext_trans (ext_trans xwA xwB) xwr; have hE0 := ext_trans hw0 hE; have HTL := Hd (htl.keep (w' := wr) (A' := fun g => A g ∧ g < w.heap.size) hE.size (fun g hg hlt => ⟨⟨hg, hlt⟩, hE.block g hlt⟩)); have HRL := Hd (hrl.keep (w' := wr) (A' := fun g => A g ∧ g < w.heap.size) hE.size (fun g hg hlt => ⟨⟨hg, hlt⟩, hE.block g hlt⟩))
 have HTM := Hd (htm.keep (w' := wr) (A' := fun g => A g ∧ g < w.heap.size) hE.size (fun g hg hlt => ⟨⟨hg, hlt⟩, hE.block g hlt⟩)); have HRM := Hd (hrm.keep (w' := wr) (A' := fun g => A g ∧ g < w.heap.size) hE.size (fun g hg hlt => ⟨⟨hg, hlt⟩, hE.block g hlt⟩))
 have HTT := Hd (h.keep (w' := wr) (A' := fun g => (A g ∧ g < w.heap.size) ∨ X0 g) hE.size (fun g hg hlt => ⟨.inl ⟨hg, hlt⟩, hE.block g hlt⟩)); have HTX := Hd (hx.keep (w' := wr) (A' := X0) hE0.size (fun g hg hlt => ⟨hg, hE0.block g hlt⟩)); rw [swA] at nwB; rw [swB, swA] at nwr
 have HC : Hid (VAt wr w.heap.size (cellsV k b d ss (.slice la t.list.length lc) (.slice ma t.mems.length mc))) := Hd (VAt.ext (VAt.ext nwA xwB) xwr); have HSP : Hid (SpAt wr (w.heap.size + 1) s) := Hd (SpAt.ext nwB xwr); have HV2 : Hid (VAt wr (w.heap.size + 1 + 1) zeroV) := Hd nwr; have HX : Hid (VAt wr px (cellsV xk xb xd xs (.slice xa1 xn1 xc1) (.slice xa2 xn2 xc2))) := Hd (hbox.ext hE0)
 have HX0S : Hid (∀ g, X0 g → g < w.heap.size) := Hd (fun g hg => Nat.lt_of_lt_of_le (hX0 g hg) hw0.size); have HE := Hd hE; have HTK : Hid (k = t.kind ∧ b = t.bit ∧ d.neg = t.num.neg ∧ d.digits = t.num.digits ∧ d.exp = t.num.exp ∧ ss = t.str) := Hd ⟨hk, hb, hd1, hd2, hd3, hss⟩; have HKS := Hd hkS; have EA := Hd ewA; have EB := Hd ewB; have EC := Hd ewr
 have hlen : t.list.length ≤ 1000000 ∧ t.mems.length ≤ 1000000 := by
  have h1 := countT_ins t; have h2 := countL_len t.ins; have h3 := ins_len t; have h4 := count_weight t; exact ⟨by omega, by omega⟩
 obtain ⟨hll, hml⟩ := hlen; clear hk hb hd1 hd2 hd3 hss htl hrl htm hrm h hx hE hE0 nwA nwB nwr xwA xwB xwr swA swB swr ewA ewB ewr hw0 hbox hX0 hkS hwt; obtain ⟨L, hL⟩ := Ex t.list; obtain ⟨M, hM⟩ := Ex t.mems; rw [hL] at HTL HRL HC EA hl1 hll HTT ⊢; rw [hM] at HTM HRM HC EA hm1 hml HTT ⊢; have HLe := Hd hL; have HMe := Hd hM; clear hL hM
 simp only [cellsV, zeroV, noL, Num.zero, cellsS] at HC HV2 HSP HX EA EB EC ⊢; obtain ⟨OK, hOK⟩ := Ex ((Orange.stepT t s).isSome); have hr := HR.out; rw [hOK] at hr ⊢; replace HR := Hd hr; have HOK := Hd hOK; clear hr hOK; go_enter Tryz.func45, Tryz.ntmps45
 go_upto_region 2 with fail; rw [EA.out, EB.out, EC.out]; obtain ⟨S, hS⟩ := Ex w.heap.size; rw [hS] at HC HV2 HSP HTL HRL HTM HRM HTT HX0S ⊢; have HS := Hd hS; clear hS EA EB EC; cases OK with
 | true =>
   replace HR : Hid (R = (layT t s x, 0)) := Hd (by rw [← HR.out]; unfold putF; rw [if_pos rfl]); obtain ⟨c0, c1, c2, c3, c4, c5, c6, c7⟩ := HC.out.c8; obtain ⟨s0, s1, s2⟩ := HSP.out.cell; obtain ⟨x0, x1, x2, x3, x4, x5, x6, x7⟩ := HX.out.c8
   have HLAY := Hd (lay_any t x _ _ (fun g => (A g ∧ g < S) ∨ X0 g) s wr HTT.out (HTX.out.keep (Nat.le_refl _) (fun g hg _ => ⟨.inr hg, rfl⟩)) (by rw [HOK.out]) (by rw [HLe.out]; exact hll) (by rw [HMe.out]; exact hml)); go_wp2_with fail; refine (HLAY.out).mono ?_; rintro e w5 ⟨c', rfl, htv, hx5⟩; obtain ⟨yk, yb, yd, ys, ya1, yn1, yc1, ya2, yn2, yc2, rfl⟩ := htv.eight; have HT5 := Hd htv
   have HE5 := Hd (ext_trans HE.out hx5); have HV5 := Hd (HV2.out.ext hx5); have HP5 := Hd HV2.out.lt; clear htv hx5 HLAY s0 s1 s2; clear c0 c1 c2 c3 c4 c5 c6 c7 x0 x1 x2 x3 x4 x5 x6 x7; obtain ⟨y0, y1, y2, y3, y4, y5, y6, y7⟩ := HV5.out.c8; obtain ⟨z0, z1, z2, z3, z4, z5, z6, z7⟩ := HV5.out.f8; go_wp2_with fail
   have hV := VAt.store8 HV5.out (.int .i64 yk) (.bool yb) (.bool yd.neg) (.string ⟨yd.digits.toArray⟩) (.int .i64 yd.exp) (.string ⟨ys.toArray⟩) (.slice ya1 yn1 yc1) (.slice ya2 yn2 yc2); have HV := Hd hV; obtain ⟨v0, v1, v2, v3, v4, v5, v6, v7⟩ := HV.out.c8
   refine bodyPost_ret (v := .tuple #[.agg #[.int .i64 yk, .bool yb, .bool yd.neg, .string ⟨yd.digits.toArray⟩, .int .i64 yd.exp, .string ⟨ys.toArray⟩, .slice ya1 yn1 yc1, .slice ya2 yn2 yc2], .int .i64 0]) (by simp [results, Tryz.results45, go_sem, v0, v1, v2, v3, v4, v5, v6, v7]) rfl ?_; rw [HR.out]
   exact ⟨_, rfl, HT5.out.keep (by simp [World.setCell]) (fun g hg hlt => ⟨by rcases hg with (hg | hg) | hg; exact .inl hg.1; exact .inr (.inl hg); exact .inr (.inr (by have := HE.out.size; omega)), heap8 (by have := HP5.out; rcases hg with (hg | hg) | hg; have := hg.2; omega; have := HX0S.out g hg; omega; omega)⟩), ext_set8 HE5.out (by rw [HS.out]; omega)⟩
 | false =>
   have HCM : Hid (∀ w', Ext wr w' → Calls Tryz.prog 47 #[.slice ma M.length mc] w' (fun e w'' => ∃ v', e = .returned v' ∧ w''.ownsRow w'.heap.size 43 9 v' M.length cm ∧ Ext w' w'')) := Hd (fun w' hw =>
    cloneM_any _ M.length cm (fun _ => True) w' (HRM.out.keep hw.size (fun g _ hlt => ⟨trivial, hw.block g hlt⟩)) (TM.one HTM.out) hml)
   have HCLL : Hid (∀ w', Ext wr w' → Calls Tryz.prog 48 #[.slice la L.length lc] w' (fun e w'' => ∃ v', e = .returned v' ∧ w''.ownsRow w'.heap.size 27 8 v' L.length cl ∧ Ext w' w'')) := Hd (fun w' hw =>
    clone_any _ L.length cl (fun _ => True) w' (HRL.out.keep hw.size (fun g _ hlt => ⟨trivial, hw.block g hlt⟩)) (TL.one HTL.out) hll)
   obtain ⟨s0, s1, s2⟩ := HSP.out.cell; have c6 := HC.out.cell 6; simp at c6; cases hn : s.named with
   | true =>
     replace HR : Hid (R = (t.withM (t.mems ++ [(s.name, x)]), 0)) := Hd (by rw [← HR.out]; unfold putF; rw [if_neg (by decide), if_pos hn]); rw [hn] at s2; clear hn HCLL c6; have HCL := HCM; go_upto_region 5 with fail; clear s0 s1 s2; have hP0 : S + 2 < wr.heap.size := HV2.out.lt; obtain ⟨P0, hP⟩ := Ex wr.heap.size; rw [hP] at hP0; have HP0 := Hd hP; clear hP
     refine GrowS.wp_region_restTA (G := fun _ => Ext) (B := fun _ w' => Ext wr w') (E := fun _ _ => False) (anc := fun _ => []) (Inv := fun _ w' => Ext wr w')
      (I := fun j _ => if j = 2 then some (specRow 43 9 M.length cm P0) else if j = 7 then some (specOneR 43 #[.string ⟨s.name.toArray⟩, .int .i64 xk, .bool xb, .bool xd.neg, .string ⟨xd.digits.toArray⟩, .int .i64 xd.exp, .string ⟨xs.toArray⟩, .slice xa1 xn1 xc1, .slice xa2 xn2 xc2]) else none)
      8 (fun j => ([[], [0], [0, 1], [], [3], [], [3, 4, 5], [3, 4, 5, 6], [0, 1, 2, 3, 4, 5, 6, 7], [0, 1, 2, 3, 4, 5, 6, 7], [0, 1, 2, 3, 4, 5, 6, 7]] : List (List Nat)).getD j []) #[true, true, true, true, true, true, true, true, false, false, false] (fun _ _ _ _ _ _ _ _ _ _ => rfl) (by kernel_rfl) (by kernel_rfl) (by kernel_rfl) (GrowS.inv_const fun _ _ h hg => ext_trans h hg) ?_ ?_ ?_
     · exact fun _ _ _ _ h => h.elim
     · exact (ext_refl _).drew
     refine GrowS.Wk.out ?_; simp only [List.take_succ_cons, List.take_zero, List.drop_succ_cons, List.drop_zero]; repeat
      (refine GrowS.Wk.step (fun K hK => ?_)
       first
       | (refine GrowS.step_read (by rfl) (by rfl) (fun w => ext_refl w) ?_
          apply Exists.intro; refine ⟨fun w hB hF => ?_, ?_⟩
          · replace hB : Ext wr w := hB; have HCW := HC.out.ext hB; have c6 := HCW.cell 6; have c7 := HCW.cell 7; simp at c6 c7; obtain ⟨s0, s1, s2⟩ := (HSP.out.ext hB).cell; have HXW := HX.out.ext hB; obtain ⟨x0, x1, x2, x3, x4, x5, x6, x7⟩ := HXW.c8; go_simp; try exact rfl
          go_simp; refine hK _ _ ?_; clear hK K)
       | (refine GrowS.step_off (by rfl) ?_
          go_simp; refine hK _ _ ?_; clear hK K))
     refine GrowS.Wk.step (fun K hK => ?_); refine GrowS.step_rel (by rfl) (by rfl) (fun w' hB hF => ?_) (fun v hv => ?_)
     · replace hB : Ext wr w' := hB; go_simp; refine GrowS.relUpon_enter ((HCL.out w' hB).mono ?_); rintro e w'' ⟨v', rfl, hown, hw''⟩; obtain ⟨ov, oc, rfl⟩ := ownsRow_shape hown; exact .inl ⟨_, rfl, hw'', ⟨_, _, rfl⟩, ownsRow_low hown (by have := hB.size; have := HP0.out; omega)⟩
     obtain ⟨ov, oc, rfl⟩ := hv; go_simp; refine hK _ _ ?_; clear hK K; repeat
      (refine GrowS.Wk.step (fun K hK => ?_)
       first
       | (refine GrowS.step_read (by rfl) (by rfl) (fun w => ext_refl w) ?_
          apply Exists.intro; refine ⟨fun w hB hF => ?_, ?_⟩
          · replace hB : Ext wr w := hB; have HCW := HC.out.ext hB; have c6 := HCW.cell 6; have c7 := HCW.cell 7; simp at c6 c7; obtain ⟨s0, s1, s2⟩ := (HSP.out.ext hB).cell; have HXW := HX.out.ext hB; obtain ⟨x0, x1, x2, x3, x4, x5, x6, x7⟩ := HXW.c8; go_simp; try exact rfl
          go_simp; refine hK _ _ ?_; clear hK K)
       | (refine GrowS.step_off (by rfl) ?_
          go_simp; refine hK _ _ ?_; clear hK K))
     refine GrowS.Wk.step (fun K hK => ?_); refine GrowS.step_rel (by rfl) (by rfl) (fun w' hB hF => ?_) (fun v hv => ?_)
     · go_simp; exact GrowS.relUpon_value ((ext_refl w').alloc (Nat.le_refl _) _) ⟨_, rfl⟩ ⟨_, rfl, heap_alloc_new _ _⟩
     obtain ⟨gn, rfl⟩ := hv; go_simp; refine hK _ _ ?_; clear hK K; refine GrowS.Wk.nil ?_; intro w3 hB hF; replace hB : Ext wr w3 := hB; have hown : w3.ownsRow P0 43 9 (.slice ov M.length oc) M.length cm := hF 2; obtain ⟨gn', eg, hnew⟩ := hF 7; simp only [Value.slice.injEq, Option.some.injEq, Addr.mk.injEq, and_true] at eg; subst eg; clear hF; show wpAny _ _ _ _ (2 + 1) _ _ _
     refine wpAny_one 8 (by kernel_rfl) ?_
     refine wpOp_append rfl (by rfl) _ _ _ _ rfl P0 43 _ _ 9 128 (by kernel_rfl) (by rfl) (by rfl) (by rfl) (by kernel_rfl) (by rfl) (by decide) _ M.length cm (by rfl) hown _ 1 [.string ⟨s.name.toArray⟩, .int .i64 xk, .bool xb, .bool xd.neg, .string ⟨xd.digits.toArray⟩, .int .i64 xd.exp, .string ⟨xs.toArray⟩, .slice xa1 xn1 xc1, .slice xa2 xn2 xc2] (by rfl) (src_one (e' := 43) (by kernel_rfl) hnew rfl (by intro u hu; simp at hu; rcases hu with rfl | rfl | rfl | rfl | rfl | rfl | rfl | rfl | rfl <;> rfl)) (by simp only [maxLen]; omega) (by omega) (by have := hB.size; have := HP0.out; omega) ?_
     intro v' w4 hown4 hgr hor; have hb4 : Below P0 w3 w4 := Below.ofGrown hgr hown (by have := hB.size; have := HP0.out; omega); have HXQ : Hid (Ext wr w4) := Hd (by rw [← HP0.out] at hb4; exact hB.trans hb4); obtain ⟨v9, c9, rfl⟩ := ownsRow_shape hown4; have HNR := Hd (RowAt.own (A := fun g => ((A g ∧ g < S) ∨ X0 g) ∨ P0 ≤ g) hown4 (by decide) (fun g _ hg _ => .inr hg))
     have HV4 := Hd (HC.out.ext HXQ.out); have f7 := HV4.out.free 7; have q7 := HV4.out.cell 7; simp at q7; clear hown hown4 hgr hor hb4 hnew hB; refine wpAny_one 9 (by kernel_rfl) ?_; refine wpOp_now rfl (by rfl) ?_; unfold Oper.wp; go_simp; refine wpAny_one 10 (by kernel_rfl) ?_; refine wpOp_now rfl (by rfl) ?_; unfold Oper.wp; go_simp; show wpAny _ _ _ _ 0 _ _ _; refine ⟨by decide +kernel, ?_⟩
     have hkq : ∀ g, (A g ∧ g < S) → g < wr.heap.size → (((A g ∧ g < S) ∨ X0 g) ∨ P0 ≤ g) ∧ w4.heap[g]? = wr.heap[g]? := fun g hg hlt => ⟨.inl (.inl hg), HXQ.out.block g hlt⟩; have hkx : ∀ g, X0 g → g < wr.heap.size → (((A g ∧ g < S) ∨ X0 g) ∨ P0 ≤ g) ∧ w4.heap[g]? = wr.heap[g]? := fun g hg hlt => ⟨.inl (.inr hg), HXQ.out.block g hlt⟩
     have HTN : Hid (TV w4 (fun g => ((A g ∧ g < S) ∨ X0 g) ∨ P0 ≤ g) (t.withM (t.mems ++ [(s.name, x)])) (cellsV k b d ss (.slice la L.length lc) (.slice v9 (M.length + 1) c9))) := Hd (by
      rw [HMe.out]; refine tv_withM HTK.out HLe.out (HTL.out.keep HXQ.out.size hkq) (HRL.out.keep HXQ.out.size hkq) (TM.append (HTM.out.keep HXQ.out.size hkq) (HTX.out.keep HXQ.out.size hkx)) ?_; rw [List.length_append]; exact HNR.out)
     have HVN : Hid (VAt (w4.setCell ⟨S, 7, none⟩ (.slice v9 (M.length + 1) c9)) S #[.int .i64 k, .bool b, .bool d.neg, .string ⟨d.digits.toArray⟩, .int .i64 d.exp, .string ⟨ss.toArray⟩, .slice la L.length lc, .slice v9 (M.length + 1) c9]) := Hd (HV4.out.set1 7 (.slice v9 (M.length + 1) c9)); have HV9 := Hd ((HV2.out.ext HXQ.out).oth (p := S) (i := 7) (u := .slice v9 (M.length + 1) c9) (by omega))
     have HE9 : Hid (Ext w (w4.setCell ⟨S, 7, none⟩ (.slice v9 (M.length + 1) c9))) := Hd (ext_keptP (ext_trans HE.out HXQ.out) (KeptP.set _) (by rw [HS.out]; exact Nat.le_refl _)); clear hkq hkx q7 f7; generalize hw5 : w4.setCell ⟨S, 7, none⟩ (.slice v9 (M.length + 1) c9) = w5 at *
     have HTF : Hid (TV w5 (fun g => ((A g ∧ g < S) ∨ X0 g) ∨ P0 ≤ g) (t.withM (t.mems ++ [(s.name, x)])) (cellsV k b d ss (.slice la L.length lc) (.slice v9 (M.length + 1) c9))) := Hd (by
      rw [← hw5]; exact HTN.out.keep (by simp [World.setCell]) (fun g hg hlt => ⟨hg, Below.heap_setCell _ _ _ _ (show g ≠ S by rcases hg with (hg | hg) | hg; have := hg.2; omega; have := HX0S.out g hg; omega; omega)⟩))
     clear hw5 HTN; obtain ⟨c0, c1, c2, c3, c4, c5, c6, c7⟩ := HVN.out.c8; obtain ⟨y0, y1, y2, y3, y4, y5, y6, y7⟩ := HV9.out.c8; obtain ⟨z0, z1, z2, z3, z4, z5, z6, z7⟩ := HV9.out.f8; go_wp2_with fail; have hV := VAt.store8 HV9.out (.int .i64 k) (.bool b) (.bool d.neg) (.string ⟨d.digits.toArray⟩) (.int .i64 d.exp) (.string ⟨ss.toArray⟩) (.slice la L.length lc) (.slice v9 (M.length + 1) c9)
     have HV := Hd hV; obtain ⟨v0, v1, v2, v3, v4, v5, v6, v7⟩ := HV.out.c8; refine bodyPost_ret (v := .tuple #[.agg #[.int .i64 k, .bool b, .bool d.neg, .string ⟨d.digits.toArray⟩, .int .i64 d.exp, .string ⟨ss.toArray⟩, .slice la L.length lc, .slice v9 (M.length + 1) c9], .int .i64 0]) (by simp [results, Tryz.results45, go_sem, v0, v1, v2, v3, v4, v5, v6, v7]) rfl ?_; rw [HR.out]
     exact ⟨_, rfl, HTF.out.keep (by simp [World.setCell]) (fun g hg hlt => ⟨by rcases hg with (hg | hg) | hg; exact .inl hg.1; exact .inr (.inl hg); exact .inr (.inr (by have := HP0.out; have := HE.out.size; omega)), heap8 (by rcases hg with (hg | hg) | hg; have := hg.2; omega; have := HX0S.out g hg; omega; omega)⟩), ext_set8 HE9.out (by rw [HS.out]; omega)⟩
   | false =>
     rw [hn] at s2; have HNM := Hd hn; clear hn HCM; by_cases hp : s.pos = L.length
     · replace HR : Hid (R = (t.withL (t.list ++ [x]), 0)) := Hd (by rw [← HR.out]; unfold putF; rw [if_neg (by decide), if_neg (by rw [HNM.out]; decide), if_pos (by rw [HLe.out]; exact hp)]); rw [hp] at s1; clear hp; have HCL := HCLL; go_upto_region 7 with fail; clear s0 s1 s2 c6; have hP0 : S + 2 < wr.heap.size := HV2.out.lt; obtain ⟨P0, hP⟩ := Ex wr.heap.size; rw [hP] at hP0; have HP0 := Hd hP
       clear hP; refine GrowS.wp_region_restTA (G := fun _ => Ext) (B := fun _ w' => Ext wr w') (E := fun _ _ => False) (anc := fun _ => []) (Inv := fun _ w' => Ext wr w')
        (I := fun j _ => if j = 2 then some (specRow 27 8 L.length cl P0) else if j = 4 then some (specOneR 27 #[.int .i64 xk, .bool xb, .bool xd.neg, .string ⟨xd.digits.toArray⟩, .int .i64 xd.exp, .string ⟨xs.toArray⟩, .slice xa1 xn1 xc1, .slice xa2 xn2 xc2]) else none)
        5 (fun j => ([[], [0], [0, 1], [], [3], [0, 1, 2, 3, 4], [0, 1, 2, 3, 4], [0, 1, 2, 3, 4]] : List (List Nat)).getD j []) #[true, true, true, true, true, false, false, false] (fun _ _ _ _ _ _ _ _ _ _ => rfl) (by kernel_rfl) (by kernel_rfl) (by kernel_rfl) (GrowS.inv_const fun _ _ h hg => ext_trans h hg) ?_ ?_ ?_
       · exact fun _ _ _ _ h => h.elim
       · exact (ext_refl _).drew
       refine GrowS.Wk.out ?_; simp only [List.take_succ_cons, List.take_zero, List.drop_succ_cons, List.drop_zero]; repeat
        (refine GrowS.Wk.step (fun K hK => ?_)
         first
         | (refine GrowS.step_read (by rfl) (by rfl) (fun w => ext_refl w) ?_
            apply Exists.intro; refine ⟨fun w hB hF => ?_, ?_⟩
            · replace hB : Ext wr w := hB; have HCW := HC.out.ext hB; have c6 := HCW.cell 6; have c7 := HCW.cell 7; simp at c6 c7; obtain ⟨s0, s1, s2⟩ := (HSP.out.ext hB).cell; have HXW := HX.out.ext hB; obtain ⟨x0, x1, x2, x3, x4, x5, x6, x7⟩ := HXW.c8; go_simp; try exact rfl
            go_simp; refine hK _ _ ?_; clear hK K)
         | (refine GrowS.step_off (by rfl) ?_
            go_simp; refine hK _ _ ?_; clear hK K))
       refine GrowS.Wk.step (fun K hK => ?_); refine GrowS.step_rel (by rfl) (by rfl) (fun w' hB hF => ?_) (fun v hv => ?_)
       · replace hB : Ext wr w' := hB; go_simp; refine GrowS.relUpon_enter ((HCL.out w' hB).mono ?_); rintro e w'' ⟨v', rfl, hown, hw''⟩; obtain ⟨ov, oc, rfl⟩ := ownsRow_shape hown; exact .inl ⟨_, rfl, hw'', ⟨_, _, rfl⟩, ownsRow_low hown (by have := hB.size; have := HP0.out; omega)⟩
       obtain ⟨ov, oc, rfl⟩ := hv; go_simp; refine hK _ _ ?_; clear hK K; repeat
        (refine GrowS.Wk.step (fun K hK => ?_)
         first
         | (refine GrowS.step_read (by rfl) (by rfl) (fun w => ext_refl w) ?_
            apply Exists.intro; refine ⟨fun w hB hF => ?_, ?_⟩
            · replace hB : Ext wr w := hB; have HCW := HC.out.ext hB; have c6 := HCW.cell 6; have c7 := HCW.cell 7; simp at c6 c7; obtain ⟨s0, s1, s2⟩ := (HSP.out.ext hB).cell; have HXW := HX.out.ext hB; obtain ⟨x0, x1, x2, x3, x4, x5, x6, x7⟩ := HXW.c8; go_simp; try exact rfl
            go_simp; refine hK _ _ ?_; clear hK K)
         | (refine GrowS.step_off (by rfl) ?_
            go_simp; refine hK _ _ ?_; clear hK K))
       refine GrowS.Wk.step (fun K hK => ?_); refine GrowS.step_rel (by rfl) (by rfl) (fun w' hB hF => ?_) (fun v hv => ?_)
       · go_simp; exact GrowS.relUpon_value ((ext_refl w').alloc (Nat.le_refl _) _) ⟨_, rfl⟩ ⟨_, rfl, heap_alloc_new _ _⟩
       obtain ⟨gn, rfl⟩ := hv; go_simp; refine hK _ _ ?_; clear hK K; refine GrowS.Wk.nil ?_; intro w3 hB hF; replace hB : Ext wr w3 := hB; have hown : w3.ownsRow P0 27 8 (.slice ov L.length oc) L.length cl := hF 2; obtain ⟨gn', eg, hnew⟩ := hF 4; simp only [Value.slice.injEq, Option.some.injEq, Addr.mk.injEq, and_true] at eg; subst eg; clear hF; show wpAny _ _ _ _ (2 + 1) _ _ _
       refine wpAny_one 5 (by kernel_rfl) ?_
       refine wpOp_append rfl (by rfl) _ _ _ _ rfl P0 27 _ _ 8 112 (by kernel_rfl) (by rfl) (by rfl) (by rfl) (by kernel_rfl) (by rfl) (by decide) _ L.length cl (by rfl) hown _ 1 [.int .i64 xk, .bool xb, .bool xd.neg, .string ⟨xd.digits.toArray⟩, .int .i64 xd.exp, .string ⟨xs.toArray⟩, .slice xa1 xn1 xc1, .slice xa2 xn2 xc2] (by rfl) (src_one (e' := 27) (by kernel_rfl) hnew rfl (by intro u hu; simp at hu; rcases hu with rfl | rfl | rfl | rfl | rfl | rfl | rfl | rfl <;> rfl)) (by simp only [maxLen]; omega) (by omega) (by have := hB.size; have := HP0.out; omega) ?_
       intro v' w4 hown4 hgr hor; have hb4 : Below P0 w3 w4 := Below.ofGrown hgr hown (by have := hB.size; have := HP0.out; omega); have HXQ : Hid (Ext wr w4) := Hd (by rw [← HP0.out] at hb4; exact hB.trans hb4); obtain ⟨v9, c9, rfl⟩ := ownsRow_shape hown4; have HNR := Hd (RowAt.own (A := fun g => ((A g ∧ g < S) ∨ X0 g) ∨ P0 ≤ g) hown4 (by decide) (fun g _ hg _ => .inr hg))
       have HV4 := Hd (HC.out.ext HXQ.out); have f6 := HV4.out.free 6; have q6 := HV4.out.cell 6; simp at q6; clear hown hown4 hgr hor hb4 hnew hB; refine wpAny_one 6 (by kernel_rfl) ?_; refine wpOp_now rfl (by rfl) ?_; unfold Oper.wp; go_simp; refine wpAny_one 7 (by kernel_rfl) ?_; refine wpOp_now rfl (by rfl) ?_; unfold Oper.wp; go_simp; show wpAny _ _ _ _ 0 _ _ _; refine ⟨by decide +kernel, ?_⟩
       have hkq : ∀ g, (A g ∧ g < S) → g < wr.heap.size → (((A g ∧ g < S) ∨ X0 g) ∨ P0 ≤ g) ∧ w4.heap[g]? = wr.heap[g]? := fun g hg hlt => ⟨.inl (.inl hg), HXQ.out.block g hlt⟩; have hkx : ∀ g, X0 g → g < wr.heap.size → (((A g ∧ g < S) ∨ X0 g) ∨ P0 ≤ g) ∧ w4.heap[g]? = wr.heap[g]? := fun g hg hlt => ⟨.inl (.inr hg), HXQ.out.block g hlt⟩
       have HTN : Hid (TV w4 (fun g => ((A g ∧ g < S) ∨ X0 g) ∨ P0 ≤ g) (t.withL (t.list ++ [x])) (cellsV k b d ss (.slice v9 (L.length + 1) c9) (.slice ma M.length mc))) := Hd (by
        rw [HLe.out]; refine tv_withL HTK.out HMe.out (TL.append (HTL.out.keep HXQ.out.size hkq) (HTX.out.keep HXQ.out.size hkx)) ?_ (HTM.out.keep HXQ.out.size hkq) (HRM.out.keep HXQ.out.size hkq); rw [List.length_append]; exact HNR.out)
       have HVN : Hid (VAt (w4.setCell ⟨S, 6, none⟩ (.slice v9 (L.length + 1) c9)) S #[.int .i64 k, .bool b, .bool d.neg, .string ⟨d.digits.toArray⟩, .int .i64 d.exp, .string ⟨ss.toArray⟩, .slice v9 (L.length + 1) c9, .slice ma M.length mc]) := Hd (HV4.out.set1 6 (.slice v9 (L.length + 1) c9)); have HV9 := Hd ((HV2.out.ext HXQ.out).oth (p := S) (i := 6) (u := .slice v9 (L.length + 1) c9) (by omega))
       have HE9 : Hid (Ext w (w4.setCell ⟨S, 6, none⟩ (.slice v9 (L.length + 1) c9))) := Hd (ext_keptP (ext_trans HE.out HXQ.out) (KeptP.set _) (by rw [HS.out]; exact Nat.le_refl _)); clear hkq hkx q6 f6; generalize hw5 : w4.setCell ⟨S, 6, none⟩ (.slice v9 (L.length + 1) c9) = w5 at *
       have HTF : Hid (TV w5 (fun g => ((A g ∧ g < S) ∨ X0 g) ∨ P0 ≤ g) (t.withL (t.list ++ [x])) (cellsV k b d ss (.slice v9 (L.length + 1) c9) (.slice ma M.length mc))) := Hd (by
        rw [← hw5]; exact HTN.out.keep (by simp [World.setCell]) (fun g hg hlt => ⟨hg, Below.heap_setCell _ _ _ _ (show g ≠ S by rcases hg with (hg | hg) | hg; have := hg.2; omega; have := HX0S.out g hg; omega; omega)⟩))
       clear hw5 HTN; obtain ⟨c0, c1, c2, c3, c4, c5, c6, c7⟩ := HVN.out.c8; obtain ⟨y0, y1, y2, y3, y4, y5, y6, y7⟩ := HV9.out.c8; obtain ⟨z0, z1, z2, z3, z4, z5, z6, z7⟩ := HV9.out.f8; go_wp2_with fail; have hV := VAt.store8 HV9.out (.int .i64 k) (.bool b) (.bool d.neg) (.string ⟨d.digits.toArray⟩) (.int .i64 d.exp) (.string ⟨ss.toArray⟩) (.slice v9 (L.length + 1) c9) (.slice ma M.length mc)
       have HV := Hd hV; obtain ⟨v0, v1, v2, v3, v4, v5, v6, v7⟩ := HV.out.c8; refine bodyPost_ret (v := .tuple #[.agg #[.int .i64 k, .bool b, .bool d.neg, .string ⟨d.digits.toArray⟩, .int .i64 d.exp, .string ⟨ss.toArray⟩, .slice v9 (L.length + 1) c9, .slice ma M.length mc], .int .i64 0]) (by simp [results, Tryz.results45, go_sem, v0, v1, v2, v3, v4, v5, v6, v7]) rfl ?_; rw [HR.out]
       exact ⟨_, rfl, HTF.out.keep (by simp [World.setCell]) (fun g hg hlt => ⟨by rcases hg with (hg | hg) | hg; exact .inl hg.1; exact .inr (.inl hg); exact .inr (.inr (by have := HP0.out; have := HE.out.size; omega)), heap8 (by rcases hg with (hg | hg) | hg; have := hg.2; omega; have := HX0S.out g hg; omega; omega)⟩), ext_set8 HE9.out (by rw [HS.out]; omega)⟩
     · replace HR : Hid (R = (tNull, 6)) := Hd (by rw [← HR.out]; unfold putF; rw [if_neg (by decide), if_neg (by rw [HNM.out]; decide), if_neg (by rw [HLe.out]; exact hp)]); have hpb : (s.pos == (L.length : Int)) = false := by simpa using hp
       obtain ⟨y0, y1, y2, y3, y4, y5, y6, y7⟩ := HV2.out.c8; obtain ⟨z0, z1, z2, z3, z4, z5, z6, z7⟩ := HV2.out.f8; go_wp2_with fail; have hV := VAt.store8 HV2.out (.int .i64 0) (.bool false) (.bool false) (.string ⟨#[]⟩) (.int .i64 0) (.string ⟨#[]⟩) (.slice none 0 0) (.slice none 0 0); have HV := Hd hV; obtain ⟨v0, v1, v2, v3, v4, v5, v6, v7⟩ := HV.out.c8
       refine bodyPost_ret (v := .tuple #[.agg #[.int .i64 0, .bool false, .bool false, .string ⟨#[]⟩, .int .i64 0, .string ⟨#[]⟩, .slice none 0 0, .slice none 0 0], .int .i64 6]) (by simp [results, Tryz.results45, go_sem, v0, v1, v2, v3, v4, v5, v6, v7]) rfl ?_; rw [HR.out]; exact ⟨_, rfl, TV.leaf _ _ 0 false Num.zero [], ext_set8 HE.out (by rw [HS.out]; omega)⟩
set_option maxHeartbeats 6400000 in
theorem vput_any (t x : Tree) (c cx : Array Value) (A : Nat → Prop) (v : Value) (l : List PStep) (w : World) (h : TV w A t c) (hl : PlAt w A v l) (hx : TV w A x cx) (hwt : weightT t ≤ 1000000) :
 Calls Tryz.prog 17 #[.agg c, v, .agg cx] w (fun e w' => ∃ c', e = .returned (.tuple #[.agg c', .int .i64 (putT t l x).2]) ∧ TV w' (fun g => A g ∨ w.heap.size ≤ g) (putT t l x).1 c' ∧ Ext w w') := by
 obtain ⟨R, hR⟩ := Ex (putT t l x); rw [hR]; have HR := Hd hR; clear hR; obtain ⟨k, b, d, ss, la, ln, lc, ma, mn, mc, rfl⟩ := h.eight; obtain ⟨xk, xb, xd, xs, xa1, xn1, xc1, xa2, xn2, xc2, rfl⟩ := hx.eight; obtain ⟨_, va, vc, rfl, hvn, hvm, -⟩ := id hl.1; obtain ⟨wA, ewA⟩ : ∃ W, w.alloc (.cells (cellsV k b d ss (.slice la ln lc) (.slice ma mn mc)) 27) = W := ⟨_, rfl⟩
 have nwA : wA.heap[w.heap.size]? = some (.cells (cellsV k b d ss (.slice la ln lc) (.slice ma mn mc)) 27) := by rw [← ewA]; exact heap_alloc_new _ _
 have xwA : Ext w wA := by rw [← ewA]; exact (ext_refl _).alloc (Nat.le_refl _) _
 have swA : wA.heap.size = w.heap.size + 1 := by rw [← ewA]; simp
 obtain ⟨wB, ewB⟩ : ∃ W, wA.alloc (.cells (cellsV xk xb xd xs (.slice xa1 xn1 xc1) (.slice xa2 xn2 xc2)) 27) = W := ⟨_, rfl⟩
 have nwB : wB.heap[wA.heap.size]? = some (.cells (cellsV xk xb xd xs (.slice xa1 xn1 xc1) (.slice xa2 xn2 xc2)) 27) := by rw [← ewB]; exact heap_alloc_new _ _
 have xwB : Ext wA wB := by rw [← ewB]; exact (ext_refl _).alloc (Nat.le_refl _) _
 have swB : wB.heap.size = wA.heap.size + 1 := by rw [← ewB]; simp
 obtain ⟨wr, ewr⟩ : ∃ W, wB.alloc (.cells zeroV 27) = W := ⟨_, rfl⟩
 have nwr : wr.heap[wB.heap.size]? = some (.cells zeroV 27) := by rw [← ewr]; exact heap_alloc_new _ _
 have xwr : Ext wB wr := by rw [← ewr]; exact (ext_refl _).alloc (Nat.le_refl _) _
 have swr : wr.heap.size = wB.heap.size + 1 := by rw [← ewr]; simp
 have hE := ext_trans (ext_trans xwA xwB) xwr; have HT := Hd (h.keep (w' := wr) (A' := fun g => A g ∧ g < w.heap.size) hE.size (fun g hg hlt => ⟨⟨hg, hlt⟩, hE.block g hlt⟩)); have HL := Hd (hl.keep (w' := wr) (A' := fun g => A g ∧ g < w.heap.size) hE.size (fun g hg hlt => ⟨⟨hg, hlt⟩, hE.block g hlt⟩))
 have HTX := Hd (hx.keep (w' := wr) (A' := fun g => A g ∧ g < w.heap.size) hE.size (fun g hg hlt => ⟨⟨hg, hlt⟩, hE.block g hlt⟩)); rw [swA] at nwB; rw [swB, swA] at nwr; have HC : Hid (VAt wr w.heap.size (cellsV k b d ss (.slice la ln lc) (.slice ma mn mc))) := Hd (VAt.ext (VAt.ext nwA xwB) xwr)
 have HX : Hid (VAt wr (w.heap.size + 1) (cellsV xk xb xd xs (.slice xa1 xn1 xc1) (.slice xa2 xn2 xc2))) := Hd (VAt.ext nwB xwr); have HV2 : Hid (VAt wr (w.heap.size + 1 + 1) zeroV) := Hd nwr; have HE := Hd hE; have HWT := Hd hwt; have EA := Hd ewA; have EB := Hd ewB; have EC := Hd ewr; clear h hx hl hE nwA nwB nwr xwA xwB xwr swA swB swr ewA ewB ewr hwt
 simp only [cellsV, zeroV, noL, Num.zero] at HC HV2 HX EA EB EC ⊢; go_enter Tryz.func17, Tryz.ntmps17
 go_upto_region 1 with fail; rw [EA.out, EB.out, EC.out]; obtain ⟨S, hS⟩ := Ex w.heap.size; rw [hS] at HC HV2 HX HT HL HTX ⊢; have HS := Hd hS; clear hS EA EB EC; cases l with
 | nil =>
   replace HR : Hid (R = (x, 0)) := Hd (by rw [← HR.out]; unfold putT; rw [if_pos rfl]); obtain ⟨x0, x1, x2, x3, x4, x5, x6, x7⟩ := HX.out.c8; obtain ⟨y0, y1, y2, y3, y4, y5, y6, y7⟩ := HV2.out.c8; obtain ⟨z0, z1, z2, z3, z4, z5, z6, z7⟩ := HV2.out.f8; go_wp2_with fail
   have hV := VAt.store8 HV2.out (.int .i64 xk) (.bool xb) (.bool xd.neg) (.string ⟨xd.digits.toArray⟩) (.int .i64 xd.exp) (.string ⟨xs.toArray⟩) (.slice xa1 xn1 xc1) (.slice xa2 xn2 xc2); have HV := Hd hV; obtain ⟨v0, v1, v2, v3, v4, v5, v6, v7⟩ := HV.out.c8
   refine bodyPost_ret (v := .tuple #[.agg #[.int .i64 xk, .bool xb, .bool xd.neg, .string ⟨xd.digits.toArray⟩, .int .i64 xd.exp, .string ⟨xs.toArray⟩, .slice xa1 xn1 xc1, .slice xa2 xn2 xc2], .int .i64 0]) (by simp [results, Tryz.results17, go_sem, v0, v1, v2, v3, v4, v5, v6, v7]) rfl ?_; rw [HR.out]
   exact ⟨_, rfl, HTX.out.keep (by simp [World.setCell]) (fun g hg hlt => ⟨.inl hg.1, heap8 (by have := hg.2; omega)⟩), ext_set8 HE.out (by rw [HS.out]; omega)⟩
 | cons s l =>
   replace HR : Hid (R = changeT (putF x) t (s :: l)) := Hd (by rw [← HR.out]; unfold putT; rw [if_neg (by simp)]); have hl0 : ((l.length : Int) + 1 == 0) = false := by simp; omega
   have HCALL := Hd (change_any (putF x) 45 #[.pointer (some ⟨S + 1, 0, none⟩)] (fun g => A g ∧ g < S) wr (fun g hg => by have := hg.2; have := HV2.out.lt; omega) (fun args w => rfl) (put1_does x _ (S + 1) _ wr (fun g hg => by have := hg.2; have := HV2.out.lt; omega) HTX.out HX.out) (s :: l) (fun g => A g ∧ g < S) t _ _ wr (by simp) (ext_refl _) HT.out HL.out HWT.out); rw [← HR.out] at HCALL
   obtain ⟨c0, c1, c2, c3, c4, c5, c6, c7⟩ := HC.out.c8; go_wp2_with fail; refine (HCALL.out).mono ?_; rintro e w5 ⟨c', rfl, htv, hx5⟩; obtain ⟨yk, yb, yd, ys, ya1, yn1, yc1, ya2, yn2, yc2, rfl⟩ := htv.eight; have HT5 := Hd htv; have HE5 := Hd (ext_trans HE.out hx5); have HV5 := Hd (HV2.out.ext hx5); have HP5 := Hd HV2.out.lt; clear htv hx5 HCALL; clear c0 c1 c2 c3 c4 c5 c6 c7; obtain ⟨R1, R2⟩ := R
   obtain ⟨y0, y1, y2, y3, y4, y5, y6, y7⟩ := HV5.out.c8; obtain ⟨z0, z1, z2, z3, z4, z5, z6, z7⟩ := HV5.out.f8; go_wp2_with fail; have hV := VAt.store8 HV5.out (.int .i64 yk) (.bool yb) (.bool yd.neg) (.string ⟨yd.digits.toArray⟩) (.int .i64 yd.exp) (.string ⟨ys.toArray⟩) (.slice ya1 yn1 yc1) (.slice ya2 yn2 yc2); have HV := Hd hV; obtain ⟨v0, v1, v2, v3, v4, v5, v6, v7⟩ := HV.out.c8
   refine bodyPost_ret (v := .tuple #[.agg #[.int .i64 yk, .bool yb, .bool yd.neg, .string ⟨yd.digits.toArray⟩, .int .i64 yd.exp, .string ⟨ys.toArray⟩, .slice ya1 yn1 yc1, .slice ya2 yn2 yc2], .int .i64 R2]) (by simp [results, Tryz.results17, go_sem, v0, v1, v2, v3, v4, v5, v6, v7]) rfl ?_
   exact ⟨_, rfl, HT5.out.keep (by simp [World.setCell]) (fun g hg hlt => ⟨by rcases hg with hg | hg | hg; exact .inl hg.1; exact .inl hg.1; exact .inr (by have := HE.out.size; omega), heap8 (by have := HP5.out; rcases hg with hg | hg | hg; have := hg.2; omega; have := hg.2; omega; omega)⟩), ext_set8 HE5.out (by rw [HS.out]; omega)⟩
set_option maxHeartbeats 6400000 in
theorem count_step (N : Nat) (ih : ∀ (t : Tree) (A : Nat → Prop) (c : Array Value) (w : World), SizeOf.sizeOf t < N → countT t ≤ 1000000 → TV w A t c →
 Calls Tryz.prog 18 #[.agg c] w (fun e w' => e = .returned (.int .i64 (countT t : Nat)) ∧ Ext w w')) :
 ∀ (t : Tree) (A : Nat → Prop) (c : Array Value) (w : World), SizeOf.sizeOf t < N + 1 → countT t ≤ 1000000 → TV w A t c →
 Calls Tryz.prog 18 #[.agg c] w (fun e w' => e = .returned (.int .i64 (countT t : Nat)) ∧ Ext w w') := by
 intro t A c w hN hct h; have IH := Hd ih; clear ih; obtain ⟨D, hD⟩ := Ex (countT t); rw [hD]; have HD0 := Hd hD; clear hD; obtain ⟨k, b, d, s, la, ln, lc, ma, mn, mc, rfl⟩ := h.eight; have hv := VAt.new w (cellsV k b d s (.slice la ln lc) (.slice ma mn mc)); have hx : Ext w (w.alloc (.cells (cellsV k b d s (.slice la ln lc) (.slice ma mn mc)) 27)) := (ext_refl w).alloc (Nat.le_refl _) _
 simp only [cellsV] at hv hx ⊢; go_enter Tryz.func18, Tryz.ntmps18
 go_upto_region 2 with fail; generalize w.alloc (.cells #[.int .i64 k, .bool b, .bool d.neg, .string ⟨d.digits.toArray⟩, .int .i64 d.exp, .string ⟨s.toArray⟩, .slice la ln lc, .slice ma mn mc] 27) = w1 at *; have HT := Hd (h.keep (w' := w1) (A' := fun _ => True) hx.size (fun g _ hlt => ⟨trivial, hx.block g hlt⟩)); obtain ⟨S, hS⟩ := Ex w.heap.size; rw [hS] at hv ⊢; have HE := Hd hx
 have HCT := Hd hct; have hcl := countT_ins t; have hll := countL_len t.ins; have hil := ins_len t; have hcb : t.list.length + t.mems.length ≤ 1000000 := by omega
 have HCB : Hid (t.ins.length ≤ 1000000) := Hd (by omega); obtain ⟨c0, c1, c2, c3, c4, c5, c6, c7⟩ := hv.c8; clear h hx hS hv hct; go_wp2_with fail; refine (inside_any t _ _ w1 HT.out hcb).mono ?_; rintro e w2 ⟨v2, cs, rfl, hown, htl, hw2⟩; obtain ⟨a2, cc2, rfl⟩ := ownsRow_shape hown; have HR := Hd (RowAt.own hown (by decide) (A := fun _ => True) (fun _ _ _ _ => trivial)); have HTL := Hd htl
 have HL := HCB; have HEW := Hd (ext_trans HE.out hw2); have HN : Hid (∀ i (hi : i < t.ins.length), SizeOf.sizeOf t.ins[i] < N ∧ countT t.ins[i] ≤ 1000000) := Hd (fun i hi => ⟨by have := ins_size (List.getElem_mem hi); omega, by have := countL_mem hi; have := HCT.out; omega⟩)
 have HD : Hid (D = countL t.ins + 1 ∧ countL t.ins ≤ 1000000) := Hd ⟨by rw [← HD0.out]; exact countT_ins t, by have := countT_ins t; have := HCT.out; omega⟩; clear hown htl hcl hll hil c0 c1 c2 c3 c4 c5 c6 c7 hN HCT HT HE hw2 hcb HD0 HCB; generalize t.ins = l at *; have HPOST := HD; go_wp2_with fail
 go_loopw [3, 9] (fun nv iv wr => ∃ i : Nat, iv = .int .i64 i ∧ i ≤ l.length ∧ nv = .int .i64 (countL (l.take i) + 1 : Nat) ∧ Ext w2 wr) (fun _ iv _ => 2000000 - (intOf iv).toNat)
 case atStart => exact ⟨0, rfl, by omega, by rw [List.take_zero, countL]; rfl, ext_refl _⟩
 case round =>
  obtain ⟨i, rfl, hi, rfl, hE⟩ := hrel; have HX := Hd hE; clear hE; have hll := HL.out; by_cases hlt : i < l.length
  · have hlti : (i : Int) < l.length := by omega
    have hi0 : (0 : Int) ≤ i := by omega
    obtain ⟨g, o, xk, xb, xd, xs, xa1, xn1, xc1, xa2, xn2, xc2, rfl, htx, hcell⟩ := row_elem HR.out HTL.out rfl i hlt; obtain ⟨x0, x1, x2, x3, x4, x5, x6, x7⟩ := hcell wr (fun g _ hg => HX.out.block g hg); have HTX := Hd (htx.keep (w' := wr) (A' := fun _ => True) HX.out.size (fun g _ hlt => ⟨trivial, HX.out.block g hlt⟩)); have HNI := Hd (HN.out i hlt); have HTK := Hd (countL_take l i hlt)
    have HDB : Hid (countL (l.take i) ≤ 1000000 ∧ countT l[i] ≤ 1000000) := Hd (by
     have h1 := HD.out.2; have h2 := countL_append (l.take i) (l.drop i); rw [List.take_append_drop, List.drop_eq_getElem_cons hlt, countL] at h2; omega)
    clear htx hcell; generalize l[i] = x at *; have hv3 := VAt.new wr #[.int .i64 xk, .bool xb, .bool xd.neg, .string ⟨xd.digits.toArray⟩, .int .i64 xd.exp, .string ⟨xs.toArray⟩, .slice xa1 xn1 xc1, .slice xa2 xn2 xc2]
    have hx3 : Ext wr (wr.alloc (.cells #[.int .i64 xk, .bool xb, .bool xd.neg, .string ⟨xd.digits.toArray⟩, .int .i64 xd.exp, .string ⟨xs.toArray⟩, .slice xa1 xn1 xc1, .slice xa2 xn2 xc2] 27)) := (ext_refl wr).alloc (Nat.le_refl _) _; obtain ⟨P, hP⟩ := Ex wr.heap.size; rw [hP] at hv3; go_upto_region 5 with fail; clear x0 x1 x2 x3 x4 x5 x6 x7 hP
    generalize wr.alloc (.cells #[.int .i64 xk, .bool xb, .bool xd.neg, .string ⟨xd.digits.toArray⟩, .int .i64 xd.exp, .string ⟨xs.toArray⟩, .slice xa1 xn1 xc1, .slice xa2 xn2 xc2] 27) = w3 at *; obtain ⟨c0, c1, c2, c3, c4, c5, c6, c7⟩ := hv3.c8; clear hv3; have HX3 := Hd hx3; clear hx3; have hdb1 := HDB.out.1; have hdb2 := HDB.out.2
    have e9 : IntKind.i64.wrap ((i : Int) + 1) = ((i + 1 : Nat) : Int) := by rw [IntWalk.i64_in _ (by omega)]; omega
    obtain ⟨n, hn⟩ := Ex (countL (l.take i) + 1); obtain ⟨m, hm⟩ := Ex (countT x); have HTK2 : Hid (countL (l.take (i + 1)) + 1 = n + m) := Hd (by rw [HTK.out]; omega); have e8 : IntKind.i64.wrap ((n : Int) + (m : Int)) = ((n + m : Nat) : Int) := by rw [IntWalk.i64_in _ (by omega)]; omega
    rw [hn]; go_wp2_with fail; refine (IH.out x _ _ w3 HNI.out.1 HNI.out.2 (HTX.out.keep (A' := fun _ => True) HX3.out.size (fun g _ hlt => ⟨trivial, HX3.out.block g hlt⟩))).mono ?_; rintro e w4 ⟨rfl, hw4⟩; rw [hm]; have HE4 := Hd (ext_trans HX.out (ext_trans HX3.out hw4)); clear hw4 c0 c1 c2 c3 c4 c5 c6 c7; go_wp2_with fail; go_roundw
    case rel => exact ⟨i + 1, by go_num, by omega, by rw [HTK2.out, Int.natCast_add], HE4.out⟩
    case measure => simp [intOf]; omega
  · obtain rfl : i = l.length := by omega
    have hnlt : ¬ ((l.length : Int) < (l.length : Int)) := by omega
    have hdb := HD.out.2; rw [List.take_length]; go_wp2_with fail; go_ret; exact ⟨ret_int (by rw [HPOST.out.1]; omega), ext_trans HEW.out HX.out⟩
theorem count_any (t : Tree) (A : Nat → Prop) (c : Array Value) (w : World) (hct : countT t ≤ 1000000) (h : TV w A t c) :
 Calls Tryz.prog 18 #[.agg c] w (fun e w' => e = .returned (.int .i64 (countT t : Nat)) ∧ Ext w w') := by
 have key : ∀ N : Nat, ∀ (t : Tree) (A : Nat → Prop) (c : Array Value) (w : World), SizeOf.sizeOf t < N → countT t ≤ 1000000 → TV w A t c →
  Calls Tryz.prog 18 #[.agg c] w (fun e w' => e = .returned (.int .i64 (countT t : Nat)) ∧ Ext w w') := by
  intro N; induction N with
  | zero => intro t A c w h; omega
  | succ N ih => exact count_step N ih
 exact key _ t A c w (Nat.lt_succ_self _) hct h
end Go.Proofs.YtjapbjmeoaagmaaGreatDoor
end

section
set_option maxRecDepth 100000
namespace Go.Proofs.YtjapbjmeoaagmaaGreatDoor
open Go.RowKit Go.Mem Orange Go.ChangeMaps Go.Maps Go.MapKept Go.WideMaps
def aggElem (v : Value) : Option (DataW (Array Value) × List MemPlace) := match v with | .agg c => some (.held c, []) | _ => none
theorem aggElem_inv {v : Value} {y : DataW (Array Value) × List MemPlace} (h : aggElem v = some y) : ∃ c, v = .agg c ∧ y = (.held c, []) := by
 cases v <;> simp [aggElem] at h
 exact ⟨_, rfl, h.symm⟩
def ReadsV (D : DataW (Array Value)) (l : List (List UInt8 × Array Value)) : Prop :=
 (∀ kl, Maps.has D kl = true ↔ ∃ p ∈ l, kl = .string p.1) ∧ ∀ p ∈ l, ∀ z, D.atKey (.string p.1) z = .held p.2
def MapV (w : World) (b : Nat) (l : List (List UInt8 × Array Value)) : Prop :=
 (l.map (·.1)).Nodup ∧ ∃ (n : Nat) (D : DataW (Array Value)), n ≤ l.length ∧ w.ownsMap Tryz.prog 9 aggElem b n D ∧ ReadsV D l
theorem MapV.new (w : World) : MapV (w.alloc (.map #[] 0)) w.heap.size [] :=
 ⟨by simp, 0, _, Nat.le_refl _, World.ownsMap_made w _ _ _, fun kl => by simp [Maps.has], by simp⟩
theorem MapV.lt {w : World} {b : Nat} {l : List (List UInt8 × Array Value)} (h : MapV w b l) : b < w.heap.size := by
 obtain ⟨_, n, D, _, h, _⟩ := h; exact h.lt
theorem MapV.same {w w' : World} {b : Nat} {l : List (List UInt8 × Array Value)} (h : MapV w b l) (he : w'.heap[b]? = w.heap[b]?) : MapV w' b l := by
 obtain ⟨h0, n, D, hn, ⟨es, clock, hb, r⟩, hD⟩ := h; exact ⟨h0, n, D, hn, ⟨es, clock, he.trans hb, r⟩, hD⟩
theorem MapV.look {w : World} {b : Nat} {l : List (List UInt8 × Array Value)} (h : MapV w b l) (k : List UInt8) (hk : k.length ≤ maxLen) :
 (k ∉ l.map (·.1) ∧ (Instr.lookup 73 (.map (some b)) (.string ⟨k.toArray⟩) true).run Tryz.prog w = .ok (.tuple #[.agg zeroV, .bool false]) w) ∨
 ∃ c, (k, c) ∈ l ∧ (Instr.lookup 73 (.map (some b)) (.string ⟨k.toArray⟩) true).run Tryz.prog w = .ok (.tuple #[.agg c, .bool true]) w := by
 obtain ⟨hnd, n, D, hn, ⟨es, clock, hb, F, hs, rfl⟩, hh, ha⟩ := h; have hky := keyOf_string_mk (s := ⟨k.toArray⟩) Tryz.underlying9 (show (ByteArray.mk k.toArray).size ≤ maxLen from hk); rcases Maps.fit_look true strLaw Tryz.underlying73 (z := .agg zeroV) (by rfl) hb F hky with ⟨hrun, _, hat⟩ | ⟨e0, y, _, _, hrun, hRv, hat, _⟩
 · refine .inl ⟨fun hm => ?_, hrun⟩; obtain ⟨p, hp, rfl⟩ := List.mem_map.1 hm; have h1 := Maps.has_false_of_atKey hat; have h2 := (hh (.string p.1)).2 ⟨p, hp, rfl⟩; simp only [List.toList_toArray] at h1; rw [h1] at h2; cases h2
 · obtain ⟨c, hc, rfl⟩ := aggElem_inv hRv; obtain ⟨p, hp, e⟩ := (hh _).1 (Maps.has_true_of_atKey hat); have e2 : k = p.1 := by
    simp only [List.toList_toArray, Lit.string.injEq] at e; exact e
   have h2 := ha p hp (.held zeroV); have h3 := hat (.held zeroV); simp only [List.toList_toArray] at h3; rw [← e2, h3] at h2; simp only [DataW.held.injEq] at h2; refine .inr ⟨c, ?_, by rw [hrun, hc]; rfl⟩; rw [h2, e2]; exact hp
theorem MapV.put {w : World} {b : Nat} {l : List (List UInt8 × Array Value)} (h : MapV w b l) (k : List UInt8) (c : Array Value) (hk : k.length ≤ maxLen) (hl : l.length < maxLen) (hnew : k ∉ l.map (·.1)) :
 ∃ w', (Instr.mapUpdate 73 (.map (some b)) (.string ⟨k.toArray⟩) (.agg c)).run Tryz.prog w = .ok () w' ∧ MapV w' b (l ++ [(k, c)]) ∧ w.grownBy w' (some b) := by
 obtain ⟨hnd, n, D, hn, hown, hh, ha⟩ := h; have hky := keyOf_string_mk (s := ⟨k.toArray⟩) Tryz.underlying9 (show (ByteArray.mk k.toArray).size ≤ maxLen from hk); obtain ⟨w', hrun, h1, h2⟩ := hown.update strLaw Tryz.underlying73 (by omega) hky (show aggElem (.agg c) = some (.held c, []) from rfl); simp only [List.toList_toArray] at h1
 refine ⟨w', hrun, ⟨?_, n + 1, _, by simp; omega, h1, fun kl => ?_, fun p hp z => ?_⟩, h2⟩
 · rw [List.map_append, List.nodup_append]; refine ⟨hnd, by simp, fun a ha b hb => ?_⟩; simp only [List.map_cons, List.map_nil, List.mem_singleton] at hb; subst hb; exact fun e => hnew (e ▸ ha)
 · by_cases e : kl = .string k
   · subst e; rw [Maps.has_put_same hown.isMap (by simp [WideAt.IsKeyLit])]; exact ⟨fun _ => ⟨(k, c), by simp, rfl⟩, fun _ => rfl⟩
   · rw [Maps.has_put_other e, hh]; constructor
     · rintro ⟨p, hp, rfl⟩; exact ⟨p, List.mem_append_left _ hp, rfl⟩
     · rintro ⟨p, hp, rfl⟩; rcases List.mem_append.1 hp with hp | hp
       · exact ⟨p, hp, rfl⟩
       · rw [List.mem_singleton.1 hp] at e; exact absurd rfl e
 · rcases List.mem_append.1 hp with hp | hp
   · have e : (Lit.string p.1) ≠ .string k := fun e => hnew (by injection e with e; rw [← e]; exact List.mem_map.2 ⟨p, hp, rfl⟩); rw [Maps.atKey_put_other e]; exact ha p hp z
   · rw [List.mem_singleton.1 hp, Maps.atKey_put_same hown.isMap (by simp [WideAt.IsKeyLit])]
theorem reads_size {w : World} {b n : Nat} {D : DataW (Array Value)} {l : List (List UInt8 × Array Value)} (hown : w.ownsMap Tryz.prog 9 aggElem b n D) (hnd : (l.map (·.1)).Nodup) (hh : ReadsV D l) : Maps.size D = l.length := by
 obtain ⟨es, rfl, hpw, hkey⟩ := hown.entries strLaw; have h1 : (es.map (·.1)).Nodup := List.pairwise_map.2 hpw; have h2 : (l.map (fun p => Lit.string p.1)).Nodup := by
  have h3 := List.pairwise_map.1 hnd; exact List.pairwise_map.2 (h3.imp (fun {a b} hab e => hab (by injection e)))
 have s1 : ∀ x ∈ es.map (·.1), x ∈ l.map (fun p => Lit.string p.1) := fun x hx => by
  obtain ⟨p, hp, rfl⟩ := List.mem_map.1 hx; obtain ⟨q, hq, e⟩ := (hh.1 p.1).1 (by rw [Maps.has_eq]; exact List.any_eq_true.2 ⟨p, hp, WideAt.sameKey_self (hkey p hp)⟩); exact List.mem_map.2 ⟨q, hq, e.symm⟩
 have s2 : ∀ x ∈ l.map (fun p => Lit.string p.1), x ∈ es.map (·.1) := fun x hx => by
  obtain ⟨q, hq, rfl⟩ := List.mem_map.1 hx; have := (hh.1 (.string q.1)).2 ⟨q, hq, rfl⟩; rw [Maps.has_eq] at this; obtain ⟨p, hp, hs⟩ := List.any_eq_true.1 this; exact List.mem_map.2 ⟨p, hp, WideAt.sameKey_eq hs⟩
 have l1 := GrowS.len_of_subset h1 s1; have l2 := GrowS.len_of_subset h2 s2; simp only [List.length_map] at l1 l2; show es.length = l.length; omega
theorem MapV.len {w : World} {b : Nat} {l : List (List UInt8 × Array Value)} (h : MapV w b l) (ty : TypeId) : (Builtin.len_ #[73] ty #[.map (some b)]).run Tryz.prog w = .ok (.int .i64 (l.length : Nat)) w := by
 obtain ⟨hnd, n, D, hn, hown, hh⟩ := h; rw [hown.len Tryz.underlying73 ty, reads_size hown hnd hh]
def RngV (w : World) (b r : Nat) (l : List (List UInt8 × Array Value)) (L : List UInt8 → Bool) (cnt : Nat) : Prop :=
 (l.map (·.1)).Nodup ∧ ∃ (n : Nat) (D : DataW (Array Value)) (left : Lit → Bool), n ≤ l.length ∧ w.ranges Tryz.prog 9 aggElem b r n D left cnt ∧ ReadsV D l ∧ ∀ k, left (.string k) = L k
theorem MapV.range {w : World} {b : Nat} {l : List (List UInt8 × Array Value)} (h : MapV w b l) :
 ∃ w', (Instr.range 73 (.map (some b))).run Tryz.prog w = .ok (.pointer (some ⟨w.heap.size, 0, none⟩)) w' ∧ RngV w' b w.heap.size l (fun k => (l.map (·.1)).contains k) l.length ∧ Ext w w' ∧ w'.heap.size = w.heap.size + 1 := by
 obtain ⟨hnd, n, D, hn, hown, hh⟩ := h; obtain ⟨w', hrun, hr, hg, hs⟩ := hown.range strLaw Tryz.underlying73; rw [reads_size hown hnd hh] at hr; refine ⟨w', hrun, ⟨hnd, n, D, _, hn, hr, hh, fun k => ?_⟩, ⟨hg.1, hg.2, hg.3, hg.4, fun k hk => hg.5 k hk (by simp)⟩, hs⟩; rw [Bool.eq_iff_iff, hh.1]; simp only [List.contains_iff_mem, List.mem_map, Lit.string.injEq]; constructor
 · rintro ⟨p, hp, e⟩; exact ⟨p, hp, e.symm⟩
 · rintro ⟨p, hp, e⟩; exact ⟨p, hp, e.symm⟩
theorem RngV.kept {w w' : World} {b r : Nat} {l : List (List UInt8 × Array Value)} {L : List UInt8 → Bool} {cnt : Nat} (h : RngV w b r l L cnt) (hx : Ext w w') : RngV w' b r l L cnt := by
 obtain ⟨hnd, n, D, left, hn, hr, hh, hL⟩ := h; exact ⟨hnd, n, D, left, hn, hr.kept (row := none) ⟨hx.os, hx.tape, hx.output, hx.size, fun k hk _ => hx.block k hk⟩ (by simp) (by simp), hh, hL⟩
theorem RngV.map {w : World} {b r : Nat} {l : List (List UInt8 × Array Value)} {L : List UInt8 → Bool} {cnt : Nat} (h : RngV w b r l L cnt) : MapV w b l := by
 obtain ⟨hnd, n, D, left, hn, hr, hh, hL⟩ := h; exact ⟨hnd, n, D, hn, hr.owns, hh⟩
theorem RngV.left_eq {w : World} {b r : Nat} {l : List (List UInt8 × Array Value)} {L : List UInt8 → Bool} {cnt : Nat} (h : RngV w b r l L cnt) : w.rangeLeft b r = cnt := by
 obtain ⟨hnd, n, D, left, hn, hr, hh, hL⟩ := h; exact hr.left_eq
theorem RngV.next {w : World} {b r : Nat} {l : List (List UInt8 × Array Value)} {L : List UInt8 → Bool} {cnt : Nat} (h : RngV w b r l L cnt) (ty : TypeId) :
 (cnt = 0 ∧ (∀ k, L k = false) ∧ (Instr.next (.pointer (some ⟨r, 0, none⟩)) false ty).run Tryz.prog w = .ok (.tuple #[.bool false]) w) ∨
 ∃ k c w' cnt', (k, c) ∈ l ∧ L k = true ∧ (Instr.next (.pointer (some ⟨r, 0, none⟩)) false ty).run Tryz.prog w = .ok (.tuple #[.bool true, .string ⟨k.toArray⟩, .agg c]) w' ∧ RngV w' b r l (fun x => L x && !(x == k)) cnt' ∧ cnt' < cnt ∧ w.grownBy w' (some r) ∧ w'.heap.size = w.heap.size ∧
   (Instr.entry (.pointer (some ⟨r, 0, none⟩))).run Tryz.prog w' = .ok (.tuple #[.string ⟨k.toArray⟩, .agg c]) w' := by
 obtain ⟨hnd, n, D, left, hn, hr, hh, hL⟩ := h; rcases hr.next strLaw ty with ⟨h0, hl, hrun⟩ | ⟨key, v, kl, y, w', cnt', hkey, hlk, hv, hat, hrun, hrg, hlt, hgr, hsz, hen⟩
 · exact .inl ⟨h0, fun k => by rw [← hL]; exact hl _, hrun⟩
 · obtain ⟨s, rfl⟩ := Maps.keyOf_string_inv Tryz.underlying9 hkey; obtain ⟨c, rfl, rfl⟩ := aggElem_inv hv; obtain ⟨p, hp, rfl⟩ := (hh.1 kl).1 (Maps.has_true_of_atKey hat); have e1 : s = ⟨p.1.toArray⟩ := by
    rw [Go.keyOf_string Tryz.underlying9] at hkey; simp [mapKey] at hkey
    have h2 : s.data.toList = p.1 := by simpa using hkey.2
    rw [← h2]
   have e2 : p.2 = c := by
    have h1 := hat (.held c); rw [hh.2 p hp] at h1; simpa using h1
   subst e1; refine .inr ⟨p.1, c, w', cnt', by rw [← e2]; exact hp, by rw [← hL]; exact hlk, hrun, ⟨hnd, n, D, _, hn, hrg, hh, fun k => ?_⟩, hlt, hgr, hsz, hen⟩; rw [hL]; congr 2
end Go.Proofs.YtjapbjmeoaagmaaGreatDoor
end

section
set_option maxRecDepth 100000
namespace Go.Proofs.YtjapbjmeoaagmaaGreatDoor
open Go.RowKit Go.Mem Orange
def EntV (w : World) (A : Nat → Prop) (l : List (List UInt8 × Array Value)) (m : List Mem1) : Prop :=
 l.length = m.length ∧ ∀ i (hi : i < m.length), ∃ c, l[i]? = some (m[i].1, c) ∧ TV w A m[i].2 c
theorem EntV.nil (w : World) (A : Nat → Prop) : EntV w A [] [] := ⟨rfl, fun i hi => absurd hi (Nat.not_lt_zero i)⟩
theorem EntV.keep {w w' : World} {A A' : Nat → Prop} {l : List (List UInt8 × Array Value)} {m : List Mem1} (h : EntV w A l m) (hs : w.heap.size ≤ w'.heap.size) (hA : ∀ g, A g → g < w.heap.size → A' g ∧ w'.heap[g]? = w.heap[g]?) : EntV w' A' l m :=
 ⟨h.1, fun i hi => by obtain ⟨c, h1, h2⟩ := h.2 i hi; exact ⟨c, h1, h2.keep hs hA⟩⟩
theorem EntV.snoc {w : World} {A : Nat → Prop} {l : List (List UInt8 × Array Value)} {m : List Mem1} {i : Nat} (hi : i < m.length) (h : EntV w A l (m.take i)) {c : Array Value} (hc : TV w A m[i].2 c) : EntV w A (l ++ [(m[i].1, c)]) (m.take (i + 1)) := by
 have h1 := h.1; rw [List.length_take] at h1; refine ⟨by simp only [List.length_append, List.length_cons, List.length_nil, List.length_take]; omega, fun j hj => ?_⟩; rw [List.length_take] at hj; by_cases e : j = i
 · subst e; refine ⟨c, ?_, ?_⟩
   · rw [List.getElem?_append_right (by omega), show j - l.length = 0 by omega]; simp
   · rw [List.getElem_take]; exact hc
 · obtain ⟨c', h2, h3⟩ := h.2 j (by rw [List.length_take]; omega); rw [List.getElem_take] at h2 h3; refine ⟨c', ?_, ?_⟩
   · rw [List.getElem?_append_left (by omega), h2, List.getElem_take]
   · rw [List.getElem_take]; exact h3
theorem EntV.keys {w : World} {A : Nat → Prop} {l : List (List UInt8 × Array Value)} {m : List Mem1} (h : EntV w A l m) : l.map (·.1) = m.map (·.1) := by
 apply List.ext_getElem
 · simp [h.1]
 · intro i a b; have hi : i < m.length := by simpa using b
   have hl : i < l.length := by simpa using a
   obtain ⟨c, h1, _⟩ := h.2 i hi; rw [List.getElem?_eq_getElem hl] at h1; simp only [Option.some.injEq] at h1; simp [h1]
theorem EntV.find {w : World} {A : Nat → Prop} {l : List (List UInt8 × Array Value)} {m : List Mem1} (h : EntV w A l m) (hn : (m.map (·.1)).Nodup) {k : List UInt8} {c : Array Value} (hk : (k, c) ∈ l) : ∃ t, (k, t) ∈ m ∧ findM k m = some t ∧ TV w A t c := by
 obtain ⟨i, hi, e⟩ := List.mem_iff_getElem.1 hk; have hm : i < m.length := by rw [← h.1]; exact hi
 obtain ⟨c', h1, h2⟩ := h.2 i hm; rw [List.getElem?_eq_getElem hi, e] at h1; simp only [Option.some.injEq, Prod.mk.injEq] at h1; obtain ⟨rfl, rfl⟩ := h1; have hmem : (m[i].1, m[i].2) ∈ m := List.getElem_mem hm; exact ⟨m[i].2, hmem, findM_of_mem hn hmem, h2⟩
theorem nodup_at {m : List Mem1} (h : (m.map (·.1)).Nodup) {i : Nat} (hi : i < m.length) : m[i].1 ∉ (m.take i).map (·.1) := by
 have e : m = m.take i ++ m.drop i := (List.take_append_drop i m).symm; rw [e, List.drop_eq_getElem_cons hi, List.map_append, List.map_cons, List.nodup_append] at h; intro hc; exact h.2.2 _ hc _ (List.mem_cons_self) rfl
set_option maxHeartbeats 6400000 in
theorem firsts_any (v : Value) (m : List Mem1) (cs : List Value) (A : Nat → Prop) (w : World) (hr : RowAt w A 9 v m.length cs) (ht : TM w A m cs) (hm : m.length ≤ 1000000) (hk : ∀ p ∈ m, p.1.length ≤ 1000000) (hnd : (m.map (·.1)).Nodup) :
 Calls Tryz.prog 54 #[v] w (fun e w' => ∃ b l, e = .returned (.map (some b)) ∧ MapV w' b l ∧ EntV w' (fun _ => True) l m ∧ Ext w w') := by
 obtain ⟨_, a, cap, rfl, hcap, hcm, -⟩ := id hr; have hmm := @run_makeMap Tryz.prog; have hx : Ext w (w.alloc (.map #[] 0)) := (ext_refl w).alloc (Nat.le_refl _) _; obtain ⟨S, hS⟩ := Ex w.heap.size; have HS := Hd hS; have HR := Hd (hr.keep (w' := w.alloc (.map #[] 0)) (A' := fun g => g < S) hx.size (fun g _ hlt => ⟨by omega, hx.block g hlt⟩))
 have HT := Hd (ht.keep (w' := w.alloc (.map #[] 0)) (A' := fun g => g < S) hx.size (fun g _ hlt => ⟨by omega, hx.block g hlt⟩)); have HK := Hd hk; have HND := Hd hnd; clear hr ht hk hS hnd; have hs0 := MapV.new w; rw [HS.out] at hs0; go_enter Tryz.func54, Tryz.ntmps54
 go_upto_region 2 with fail; rw [HS.out]; generalize w.alloc (.map #[] 0) = w1 at *; have HSA := Hd hs0; have HE := Hd hx; clear hs0 hx hmm; go_wp2_with fail; go_loopw [11] (fun iv wr => ∃ (i : Nat) (l : List (List UInt8 × Array Value)), iv = .int .i64 i ∧ i ≤ m.length ∧ MapV wr S l ∧ EntV wr (fun g => g < S) l (m.take i) ∧ Below S w1 wr) (fun iv _ => 2000000 - (intOf iv).toNat)
 case atStart => exact ⟨0, [], rfl, by omega, HSA.out, by rw [List.take_zero]; exact EntV.nil _ _, Below.refl _ _⟩
 case round =>
  obtain ⟨i, l, rfl, hi, hset, hen, hE⟩ := hrel; have HX := Hd hE; have HSE := Hd hset; have HEN := Hd hen; clear hE hset hen; by_cases hlt : i < m.length
  · have hlti : (i : Int) < m.length := by omega
    have hi0 : (0 : Int) ≤ i := by omega
    obtain ⟨g, o, xk, xb, xd, xs, xa1, xn1, xc1, xa2, xn2, xc2, rfl, htx, hcell⟩ := mem_elem HR.out HT.out rfl i hlt; obtain ⟨x0, x1, x2, x3, x4, x5, x6, x7, x8⟩ := hcell wr (fun g hg _ => HX.out.block g hg); have hki := HK.out m[i] (List.getElem_mem hlt); have hnew := nodup_at HND.out hlt; rw [← HEN.out.keys] at hnew
    have HTX := Hd (htx.keep (w' := wr) (A' := fun g => g < S) HX.out.size (fun g hg _ => ⟨hg, HX.out.block g hg⟩)); have hsn : Hid (∀ c, TV wr (fun g => g < S) m[i].2 c → EntV wr (fun g => g < S) (l ++ [(m[i].1, c)]) (m.take (i + 1))) := Hd (fun c hc => HEN.out.snoc hlt hc); have HSN := Hd (hsn.out _ HTX.out); have hll : l.length ≤ 1000000 := by have := HEN.out.1; rw [List.length_take] at this; omega
    obtain ⟨ky, hky⟩ := Ex (m[i].1); have hsn2 := HSN.out; rw [hky] at x0 hki hnew hsn2; replace HSN := Hd hsn2; have HNEW := Hd hnew; clear htx hcell hky hnew hsn hsn2 HTX; have hm9 := MAt.new wr #[.string ⟨ky.toArray⟩, .int .i64 xk, .bool xb, .bool xd.neg, .string ⟨xd.digits.toArray⟩, .int .i64 xd.exp, .string ⟨xs.toArray⟩, .slice xa1 xn1 xc1, .slice xa2 xn2 xc2]
    have hx3 : Ext wr (wr.alloc (.cells #[.string ⟨ky.toArray⟩, .int .i64 xk, .bool xb, .bool xd.neg, .string ⟨xd.digits.toArray⟩, .int .i64 xd.exp, .string ⟨xs.toArray⟩, .slice xa1 xn1 xc1, .slice xa2 xn2 xc2] 43)) := (ext_refl wr).alloc (Nat.le_refl _) _; obtain ⟨P, hP⟩ := Ex wr.heap.size; have hSP : S < P := by rw [← hP]; exact HSE.out.lt
    rw [hP] at hm9; go_upto_region 5 with fail; clear x0 x1 x2 x3 x4 x5 x6 x7 x8 hP; generalize wr.alloc (.cells #[.string ⟨ky.toArray⟩, .int .i64 xk, .bool xb, .bool xd.neg, .string ⟨xd.digits.toArray⟩, .int .i64 xd.exp, .string ⟨xs.toArray⟩, .slice xa1 xn1 xc1, .slice xa2 xn2 xc2] 43) = w3 at *; have hs3 := HSE.out.same (w' := w3) (hx3.block _ HSE.out.lt); have x0 := hm9.cell 0; simp at x0
    have hkm : ky.length ≤ maxLen := by simp only [maxLen]; omega
    rcases hs3.look ky hkm with ⟨_, hlk⟩ | ⟨c9, hc9, _⟩
    case inr => exact absurd (List.mem_map.2 ⟨_, hc9, rfl⟩) HNEW.out
    have hb3 : Below S w1 w3 := HX.out.trans (hx3.mono (by have := HSE.out.lt; omega)); have HB3 := Hd hb3; have HSN3 := Hd (HSN.out.keep (w' := w3) (A' := fun g => g < S) hx3.size (fun g hg hlt => ⟨hg, hx3.block g hlt⟩)); have HS3 := Hd hs3; have HM9 := Hd hm9; clear hb3 hx3 hm9 hs3 HSN HSE HEN; simp only [zeroV, cellsV] at hlk; go_upto_region 6 with fail
    have hx4 : Ext w3 (w3.alloc (.cells #[.int .i64 0, .bool false, .bool Num.zero.neg, .string ⟨Num.zero.digits.toArray⟩, .int .i64 Num.zero.exp, .string ⟨#[]⟩, .slice none 0 0, .slice none 0 0] 27)) := (ext_refl w3).alloc (Nat.le_refl _) _
    generalize w3.alloc (.cells #[.int .i64 0, .bool false, .bool Num.zero.neg, .string ⟨Num.zero.digits.toArray⟩, .int .i64 Num.zero.exp, .string ⟨#[]⟩, .slice none 0 0, .slice none 0 0] 27) = w4 at *; have hs4 := HS3.out.same (w' := w4) (hx4.block _ HS3.out.lt); have hm4 := HM9.out.ext hx4
    have HSN4 := Hd (HSN3.out.keep (w' := w4) (A' := fun g => g < S) hx4.size (fun g hg hlt => ⟨hg, hx4.block g hlt⟩)); have HB4 := Hd (HB3.out.trans (hx4.mono (by have := HS3.out.lt; omega))); obtain ⟨w5, hup, hs5, hg5⟩ := hs4.put ky (cellsV xk xb xd xs (.slice xa1 xn1 xc1) (.slice xa2 xn2 xc2)) hkm (by simp only [maxLen]; omega) HNEW.out
    have hb5 : Below S w4 w5 := ⟨hg5.1, hg5.2, hg5.3, hg5.4, fun k hk => hg5.5 k (Nat.lt_of_lt_of_le hk (by have := hs4.lt; omega)) (by simp; omega)⟩
    have HB5 := Hd (HB4.out.trans hb5); have HSN5 := Hd (HSN4.out.keep (w' := w5) (A' := fun g => g < S) hg5.4 (fun g hg hlt => ⟨hg, hb5.block g hg⟩)); have HS5 := Hd hs5; have y0 := hm4.cell 0; have y1 := hm4.cell 1; have y2 := hm4.cell 2; have y3 := hm4.cell 3; have y4 := hm4.cell 4; have y5 := hm4.cell 5; have y6 := hm4.cell 6; have y7 := hm4.cell 7; have y8 := hm4.cell 8
    simp at y0 y1 y2 y3 y4 y5 y6 y7 y8; simp only [cellsV] at hup; have e9 : IntKind.i64.wrap ((i : Int) + 1) = ((i + 1 : Nat) : Int) := by rw [IntWalk.i64_in _ (by omega)]; omega
    clear hx4 hs4 hm4 hb5 hs5 hg5 x0 hlk; go_wp2_with fail; go_roundw
    case rel => exact ⟨i + 1, _, by go_num, by omega, HS5.out, HSN5.out, HB5.out⟩
    case measure => simp [intOf]; omega
  · obtain rfl : i = m.length := by omega
    have hnlt : ¬ ((m.length : Int) < (m.length : Int)) := by omega
    have HF := HEN.out; rw [List.take_length] at HF; have HFF := Hd (HF.keep (w' := wr) (A' := fun _ => True) (Nat.le_refl _) (fun _ _ _ => ⟨trivial, rfl⟩)); clear HF; go_wp2_with fail; go_ret; exact ⟨S, rfl, l, HSE.out, HFF.out, HE.out.trans (HX.out.mono (by rw [HS.out]; exact Nat.le_refl _))⟩
theorem sameL_len : ∀ (l l' : List Tree), sameL l l' = true → l.length = l'.length
 | [], [], _ => rfl
 | [], _ :: _, h => by rw [sameL] at h; cases h
 | _ :: _, [], h => by rw [sameL] at h; cases h
 | t :: l, t' :: l', h => by
   rw [sameL, Bool.and_eq_true] at h; simp [sameL_len l l' h.2]
set_option maxHeartbeats 6400000 in
theorem eqf_any (l l' : List Tree) (ih : ∀ i (h : i < l.length) (h' : i < l'.length) (c c' : Array Value) (w : World), TV w (fun _ => True) l[i] c → TV w (fun _ => True) l'[i] c' →
 Calls Tryz.prog 25 #[.agg c, .agg c'] w (fun e w' => e = .returned (.bool (sameT l[i] l'[i])) ∧ Ext w w'))
 (v v' : Value) (cs cs' : List Value) (w : World) (hr : RowAt w (fun _ => True) 8 v l.length cs) (ht : TL w (fun _ => True) l cs) (hr' : RowAt w (fun _ => True) 8 v' l'.length cs') (ht' : TL w (fun _ => True) l' cs') (hn : l.length ≤ 1000000) (hn' : l'.length ≤ 1000000) :
 Calls Tryz.prog 53 #[v, v', .func (.func 25) #[] #[]] w (fun e w' => e = .returned (.bool (sameL l l')) ∧ Ext w w') := by
 obtain ⟨_, a, p, rfl, hcap, hcm, -⟩ := id hr; obtain ⟨_, a', p', rfl, hcap', hcm', -⟩ := id hr'; have IH := Hd ih; have HR := Hd hr; have HT := Hd ht; have HR' := Hd hr'; have HT' := Hd ht'; obtain ⟨T, hT⟩ := Ex (sameL l l'); rw [hT]; have HTT := Hd hT; clear ih hr ht hr' ht' hT; by_cases h5 : ¬ l.length = l'.length
 · have q1 : ((l.length : Int) == l'.length) = false := by simp; omega
   have HF : Hid (T = false) := Hd (by
    rw [← HTT.out]; cases hx : sameL l l' with
    | true => exact absurd (sameL_len _ _ hx) h5
    | false => rfl)
   clear h5; go_enter Tryz.func53, Tryz.ntmps53
   go_wp2_with fail; go_ret; exact ⟨ret_bool HF.out.symm, ext_refl _⟩
 replace h5 : l'.length = l.length := by omega
 have e5 : (l'.length : Int) = l.length := by omega
 have H5 := Hd h5; clear h5; go_enter Tryz.func53, Tryz.ntmps53
 go_upto_region 3 with fail; clear e5; go_wp2_with fail; go_loopw [17] (fun iv wr => ∃ i : Nat, iv = .int .i64 i ∧ i ≤ l.length ∧ Ext w wr ∧ sameL l l' = sameL (l.drop i) (l'.drop i)) (fun iv _ => 2000000 - (intOf iv).toNat)
 case atStart => exact ⟨0, rfl, by omega, ext_refl _, rfl⟩
 case round =>
  obtain ⟨i, rfl, hi, hE, hdr⟩ := hrel; have HX := Hd hE; have HDR := Hd hdr; clear hE hdr; by_cases hlt : i < l.length
  · have hlti : (i : Int) < l.length := by omega
    have hi0 : (0 : Int) ≤ i := by omega
    have hlt' : i < l'.length := by have := H5.out; omega
    have hlti' : (i : Int) < l'.length := by omega
    obtain ⟨g, o, xk, xb, xd, xs, xa1, xn1, xc1, xa2, xn2, xc2, rfl, htx, hcell⟩ := row_elem HR.out HT.out rfl i hlt; obtain ⟨g', o', yk, yb, yd, ys, ya1, yn1, yc1, ya2, yn2, yc2, rfl, hty, hcell'⟩ := row_elem HR'.out HT'.out rfl i hlt'; obtain ⟨x0, x1, x2, x3, x4, x5, x6, x7⟩ := hcell wr (fun g _ hg => HX.out.block g hg); have HTX := Hd htx; have HTY := Hd hty; have HCY := Hd hcell'
    have HIH := Hd (IH.out i hlt hlt'); have HDR2 : Hid (sameL l l' = (sameT l[i] l'[i] && sameL (l.drop (i + 1)) (l'.drop (i + 1)))) := Hd (by
     rw [HDR.out, List.drop_eq_getElem_cons hlt, List.drop_eq_getElem_cons hlt', sameL])
    obtain ⟨bq, hbq⟩ := Ex (sameT l[i] l'[i]); have hih := HIH.out; have hdr2 := HDR2.out; rw [hbq] at hih hdr2; replace HIH := Hd hih; replace HDR2 := Hd hdr2; clear hih hdr2 hbq htx hty hcell hcell'; have hv3 := VAt.new wr #[.int .i64 xk, .bool xb, .bool xd.neg, .string ⟨xd.digits.toArray⟩, .int .i64 xd.exp, .string ⟨xs.toArray⟩, .slice xa1 xn1 xc1, .slice xa2 xn2 xc2]
    have hx3 : Ext wr (wr.alloc (.cells #[.int .i64 xk, .bool xb, .bool xd.neg, .string ⟨xd.digits.toArray⟩, .int .i64 xd.exp, .string ⟨xs.toArray⟩, .slice xa1 xn1 xc1, .slice xa2 xn2 xc2] 27)) := (ext_refl wr).alloc (Nat.le_refl _) _; obtain ⟨P, hP⟩ := Ex wr.heap.size; rw [hP] at hv3; go_upto_region 6 with fail; clear x0 x1 x2 x3 x4 x5 x6 x7 hP
    generalize wr.alloc (.cells #[.int .i64 xk, .bool xb, .bool xd.neg, .string ⟨xd.digits.toArray⟩, .int .i64 xd.exp, .string ⟨xs.toArray⟩, .slice xa1 xn1 xc1, .slice xa2 xn2 xc2] 27) = w3 at *; have HX3 := Hd (ext_trans HX.out hx3); obtain ⟨y0, y1, y2, y3, y4, y5, y6, y7⟩ := HCY.out w3 (fun g _ hg => HX3.out.block g hg)
    have hv4 := VAt.new w3 #[.int .i64 yk, .bool yb, .bool yd.neg, .string ⟨yd.digits.toArray⟩, .int .i64 yd.exp, .string ⟨ys.toArray⟩, .slice ya1 yn1 yc1, .slice ya2 yn2 yc2]
    have hx4 : Ext w3 (w3.alloc (.cells #[.int .i64 yk, .bool yb, .bool yd.neg, .string ⟨yd.digits.toArray⟩, .int .i64 yd.exp, .string ⟨ys.toArray⟩, .slice ya1 yn1 yc1, .slice ya2 yn2 yc2] 27)) := (ext_refl w3).alloc (Nat.le_refl _) _; obtain ⟨P4, hP4⟩ := Ex w3.heap.size; rw [hP4] at hv4; clear hx3; go_upto_region 7 with fail; clear y0 y1 y2 y3 y4 y5 y6 y7 hP4
    generalize w3.alloc (.cells #[.int .i64 yk, .bool yb, .bool yd.neg, .string ⟨yd.digits.toArray⟩, .int .i64 yd.exp, .string ⟨ys.toArray⟩, .slice ya1 yn1 yc1, .slice ya2 yn2 yc2] 27) = w4 at *; have HX4 := Hd (ext_trans HX3.out hx4); replace hv3 := hv3.ext hx4
    have c0 := hv3.cell 0; have c1 := hv3.cell 1; have c2 := hv3.cell 2; have c3 := hv3.cell 3; have c4 := hv3.cell 4; have c5 := hv3.cell 5; have c6 := hv3.cell 6; have c7 := hv3.cell 7; have d0 := hv4.cell 0; have d1 := hv4.cell 1; have d2 := hv4.cell 2; have d3 := hv4.cell 3; have d4 := hv4.cell 4; have d5 := hv4.cell 5; have d6 := hv4.cell 6; have d7 := hv4.cell 7
    simp at c0 c1 c2 c3 c4 c5 c6 c7 d0 d1 d2 d3 d4 d5 d6 d7; clear hv3 hv4 hx4; have e9 : IntKind.i64.wrap ((i : Int) + 1) = ((i + 1 : Nat) : Int) := by rw [IntWalk.i64_in _ (by omega)]; omega
    go_wp2_with fail; refine (HIH.out _ _ w4 (HTX.out.keep (A' := fun _ => True) HX4.out.size (fun g _ hlt => ⟨trivial, HX4.out.block g hlt⟩)) (HTY.out.keep (A' := fun _ => True) HX4.out.size (fun g _ hlt => ⟨trivial, HX4.out.block g hlt⟩))).mono ?_; rintro e w5 ⟨rfl, hw5⟩; have HX5 := Hd (ext_trans HX4.out hw5); clear hw5 c0 c1 c2 c3 c4 c5 c6 c7 d0 d1 d2 d3 d4 d5 d6 d7; cases bq with
    | false =>
      have HF : Hid (T = false) := Hd (by rw [← HTT.out, HDR2.out]; rfl); go_wp2_with fail; go_ret; exact ⟨ret_bool HF.out.symm, HX5.out⟩
    | true =>
      have HN : Hid (sameL l l' = sameL (l.drop (i + 1)) (l'.drop (i + 1))) := Hd (by rw [HDR2.out, Bool.true_and]); go_wp2_with fail; go_roundw
      case rel => exact ⟨i + 1, by go_num, by omega, HX5.out, HN.out⟩
      case measure => simp [intOf]; omega
  · obtain rfl : i = l.length := by omega
    have hnlt : ¬ ((l.length : Int) < (l.length : Int)) := by omega
    have HF : Hid (T = true) := Hd (by
     rw [← HTT.out, HDR.out, List.drop_of_length_le (Nat.le_refl _), List.drop_of_length_le (by have := H5.out; omega), sameL])
    go_wp2_with fail; go_ret; exact ⟨ret_bool HF.out.symm, HX.out⟩
theorem sameT_mk (k : Int) (b : Bool) (d : Num) (s : List UInt8) (l : List Tree) (m : List Mem1) (k' : Int) (b' : Bool) (d' : Num) (s' : List UInt8) (l' : List Tree) (m' : List Mem1) :
 sameT (.mk k b d s l m) (.mk k' b' d' s' l' m') = (decide (k = k') && (b == b') && decide (d = d') && decide (s = s') && decide (m.length = m'.length) && sameL l l' && (sameM [] m m' && decide ((firstsL [] m).length = (firstsL [] m').length))) := by
 rw [sameT]; rfl
theorem sameM_no {m m' : List Mem1} {k : List UInt8} {t : Tree} (hn : (m.map (·.1)).Nodup) (h : (k, t) ∈ m) (hf : ∀ t', findM k m' = some t' → sameT t t' = false) : sameM [] m m' = false := by
 cases hs : sameM [] m m' with
 | false => rfl
 | true =>
   obtain ⟨t', h1, h2⟩ := (sameM_nodup m m' [] hn (by simp)).1 hs _ h; have h3 := hf t' h1; rw [h3] at h2; cases h2
def specF (m : List Mem1) : Grow.Spec Ext :=
 ⟨fun v => ∃ b, v = .map (some b), fun v w => ∃ b l, v = .map (some b) ∧ MapV w b l ∧ EntV w (fun _ => True) l m, ⟨_, 0, rfl⟩,
   fun v w w' ⟨b, l, e, h1, h2⟩ hg => ⟨b, l, e, h1.same (hg.block _ h1.lt), h2.keep hg.size (fun g _ hlt => ⟨trivial, hg.block g hlt⟩)⟩⟩
set_option maxHeartbeats 12800000 in
theorem same_step (N : Nat) (ih : ∀ (t u : Tree) (A A' : Nat → Prop) (c c' : Array Value) (w : World), SizeOf.sizeOf t < N → weightT t ≤ 1000000 → weightT u ≤ 1000000 → distT t → distT u → TV w A t c → TV w A' u c' →
 Calls Tryz.prog 25 #[.agg c, .agg c'] w (fun e w' => e = .returned (.bool (sameT t u)) ∧ Ext w w')) :
 ∀ (t u : Tree) (A A' : Nat → Prop) (c c' : Array Value) (w : World), SizeOf.sizeOf t < N + 1 → weightT t ≤ 1000000 → weightT u ≤ 1000000 → distT t → distT u → TV w A t c → TV w A' u c' →
 Calls Tryz.prog 25 #[.agg c, .agg c'] w (fun e w' => e = .returned (.bool (sameT t u)) ∧ Ext w w')
 | .mk k b d s l m, .mk k' b' d' s' l' m', A, A', c, c', w, hN, hwt, hwu, hdt, hdu, ht, hu => by
   have IH := Hd ih; clear ih; have hln : l.length + m.length ≤ 1000000 := by
    have h1 := countT_ins (.mk k b d s l m); have h2 := countL_len (Tree.mk k b d s l m).ins; have h3 := ins_len (.mk k b d s l m); have h4 := count_weight (.mk k b d s l m); have h5 : (Tree.mk k b d s l m).list.length + (Tree.mk k b d s l m).mems.length ≤ 1000000 := by omega
    exact h5
   have hln' : l'.length + m'.length ≤ 1000000 := by
    have h1 := countT_ins (.mk k' b' d' s' l' m'); have h2 := countL_len (Tree.mk k' b' d' s' l' m').ins; have h3 := ins_len (.mk k' b' d' s' l' m'); have h4 := count_weight (.mk k' b' d' s' l' m'); have h5 : (Tree.mk k' b' d' s' l' m').list.length + (Tree.mk k' b' d' s' l' m').mems.length ≤ 1000000 := by omega
    exact h5
   have HLN := Hd hln; have HLN' := Hd hln'; have HPL : Hid (∀ i (h : i < l.length), weightT l[i] ≤ 1000000 ∧ distT l[i]) := Hd (by
    rw [weightT] at hwt; rw [distT] at hdt; exact fun i h => ⟨by have := weightL_mem h; omega, (distL_iff l).1 hdt.2.1 _ (List.getElem_mem h)⟩)
   have HPL' : Hid (∀ i (h : i < l'.length), weightT l'[i] ≤ 1000000 ∧ distT l'[i]) := Hd (by
    rw [weightT] at hwu; rw [distT] at hdu; exact fun i h => ⟨by have := weightL_mem h; omega, (distL_iff l').1 hdu.2.1 _ (List.getElem_mem h)⟩)
   have HPM : Hid (∀ p ∈ m, p.1.length ≤ 1000000 ∧ weightT p.2 ≤ 1000000 ∧ distT p.2) := Hd (by
    rw [weightT] at hwt; rw [distT] at hdt; intro p hp; obtain ⟨i, hi, rfl⟩ := List.mem_iff_getElem.1 hp; have := weightM_mem hi; exact ⟨by omega, by omega, (distM_iff m).1 hdt.2.2 _ hp⟩)
   have HPM' : Hid (∀ p ∈ m', p.1.length ≤ 1000000 ∧ weightT p.2 ≤ 1000000 ∧ distT p.2) := Hd (by
    rw [weightT] at hwu; rw [distT] at hdu; intro p hp; obtain ⟨i, hi, rfl⟩ := List.mem_iff_getElem.1 hp; have := weightM_mem hi; exact ⟨by omega, by omega, (distM_iff m').1 hdu.2.2 _ hp⟩)
   have HND : Hid ((m.map (·.1)).Nodup ∧ (m'.map (·.1)).Nodup) := Hd (by rw [distT] at hdt hdu; exact ⟨hdt.1, hdu.1⟩); have HSU : Hid (SizeOf.sizeOf l < N ∧ SizeOf.sizeOf m < N) := Hd (by
    simp only [Tree.mk.sizeOf_spec] at hN; omega)
   clear hN hwt hwu hdt hdu hln hln'; cases ht with
   | mk htl hrl htm hrm =>
   cases hu with
   | mk hul hsl hum hsm =>
   rename_i vL vM cl cm vL' vM' cl' cm'
   obtain ⟨_, a1, p1, rfl, hp1, hq1, _⟩ := id hrl; obtain ⟨_, a2, p2, rfl, hp2, hq2, _⟩ := id hrm; obtain ⟨_, a3, p3, rfl, hp3, hq3, _⟩ := id hsl; obtain ⟨_, a4, p4, rfl, hp4, hq4, _⟩ := id hsm; obtain ⟨T, hT⟩ := Ex (sameT (.mk k b d s l m) (.mk k' b' d' s' l' m')); rw [hT]; rw [sameT_mk] at hT; have HT := Hd hT; have hv0 := VAt.new w (cellsV k b d s (.slice a1 l.length p1) (.slice a2 m.length p2))
   have hx0 : Ext w (w.alloc (.cells (cellsV k b d s (.slice a1 l.length p1) (.slice a2 m.length p2)) 27)) := (ext_refl w).alloc (Nat.le_refl _) _; have hv1 := VAt.new (w.alloc (.cells (cellsV k b d s (.slice a1 l.length p1) (.slice a2 m.length p2)) 27)) (cellsV k' b' d' s' (.slice a3 l'.length p3) (.slice a4 m'.length p4))
   have hx1 : Ext (w.alloc (.cells (cellsV k b d s (.slice a1 l.length p1) (.slice a2 m.length p2)) 27)) ((w.alloc (.cells (cellsV k b d s (.slice a1 l.length p1) (.slice a2 m.length p2)) 27)).alloc (.cells (cellsV k' b' d' s' (.slice a3 l'.length p3) (.slice a4 m'.length p4)) 27)) := (ext_refl _).alloc (Nat.le_refl _) _; replace hv0 := hv0.ext hx1
   have hsz0 : (w.alloc (.cells (cellsV k b d s (.slice a1 l.length p1) (.slice a2 m.length p2)) 27)).heap.size = w.heap.size + 1 := by simp
   rw [hsz0] at hv1; have hE := ext_trans hx0 hx1; clear hx0 hx1 hT; simp only [cellsV] at hv0 hv1 hsz0 hE ⊢; go_enter Tryz.func25, Tryz.ntmps25
   go_upto_region 1 with fail; generalize (w.alloc (.cells #[.int .i64 k, .bool b, .bool d.neg, .string ⟨d.digits.toArray⟩, .int .i64 d.exp, .string ⟨s.toArray⟩, .slice a1 l.length p1, .slice a2 m.length p2] 27)).alloc (.cells #[.int .i64 k', .bool b', .bool d'.neg, .string ⟨d'.digits.toArray⟩, .int .i64 d'.exp, .string ⟨s'.toArray⟩, .slice a3 l'.length p3, .slice a4 m'.length p4] 27) = w1 at *
   obtain ⟨S, hS⟩ := Ex w.heap.size; rw [hS] at hv0 hv1 ⊢; have HC := Hd hv0; have HD := Hd hv1; have HE := Hd hE; have HTL := Hd (htl.keep (A' := fun _ => True) hE.size (fun g _ hlt => ⟨trivial, hE.block g hlt⟩)); have HRL := Hd (hrl.keep (A' := fun _ => True) hE.size (fun g _ hlt => ⟨trivial, hE.block g hlt⟩))
   have HTM := Hd (htm.keep (A' := fun _ => True) hE.size (fun g _ hlt => ⟨trivial, hE.block g hlt⟩)); have HRM := Hd (hrm.keep (A' := fun _ => True) hE.size (fun g _ hlt => ⟨trivial, hE.block g hlt⟩)); have HUL := Hd (hul.keep (A' := fun _ => True) hE.size (fun g _ hlt => ⟨trivial, hE.block g hlt⟩)); have HSL := Hd (hsl.keep (A' := fun _ => True) hE.size (fun g _ hlt => ⟨trivial, hE.block g hlt⟩))
   have HUM := Hd (hum.keep (A' := fun _ => True) hE.size (fun g _ hlt => ⟨trivial, hE.block g hlt⟩)); have HSM := Hd (hsm.keep (A' := fun _ => True) hE.size (fun g _ hlt => ⟨trivial, hE.block g hlt⟩)); clear hv0 hv1 hE hsz0 htl hrl htm hrm hul hsl hum hsm hS
   have c0 := HC.out.cell 0; have c1 := HC.out.cell 1; have c2 := HC.out.cell 2; have c3 := HC.out.cell 3; have c4 := HC.out.cell 4; have c5 := HC.out.cell 5; have c6 := HC.out.cell 6; have c7 := HC.out.cell 7
   have d0 := HD.out.cell 0; have d1 := HD.out.cell 1; have d2 := HD.out.cell 2; have d3 := HD.out.cell 3; have d4 := HD.out.cell 4; have d5 := HD.out.cell 5; have d6 := HD.out.cell 6; have d7 := HD.out.cell 7; simp at c0 c1 c2 c3 c4 c5 c6 c7 d0 d1 d2 d3 d4 d5 d6 d7; have hneq := fun w => eql_num d d' w; by_cases h1 : ¬ k = k'
   · have q1 : (k == k') = false := by simpa using h1
     have HF : Hid (T = false) := Hd (by rw [← HT.out]; simp [h1]); go_wp2_with fail; go_ret; exact ⟨ret_bool HF.out.symm, HE.out⟩
   replace h1 : k = k' := Decidable.of_not_not h1; subst h1; by_cases h2 : ¬ b = b'
   · have q1 : (b == b') = false := by simpa using h2
     have HF : Hid (T = false) := Hd (by rw [← HT.out]; simp [h2]); go_wp2_with fail; go_ret; exact ⟨ret_bool HF.out.symm, HE.out⟩
   replace h2 : b = b' := Decidable.of_not_not h2; subst h2; by_cases h3 : ¬ d = d'
   · rw [decide_eq_false h3] at hneq; have HF : Hid (T = false) := Hd (by rw [← HT.out]; simp [h3]); go_wp2_with fail; go_ret; exact ⟨ret_bool HF.out.symm, HE.out⟩
   replace h3 : d = d' := Decidable.of_not_not h3; rw [decide_eq_true h3] at hneq; have HD3 := Hd h3; clear h3; by_cases h4 : ¬ s = s'
   · have q1 : (s == s') = false := by simpa using h4
     have HF : Hid (T = false) := Hd (by rw [← HT.out]; simp [h4]); go_wp2_with fail; go_ret; exact ⟨ret_bool HF.out.symm, HE.out⟩
   replace h4 : s = s' := Decidable.of_not_not h4; subst h4; by_cases h6 : ¬ m.length = m'.length
   · have q1 : ((m.length : Int) == m'.length) = false := by simp; omega
     have HF : Hid (T = false) := Hd (by rw [← HT.out]; simp [h6]); go_wp2_with fail; go_ret; exact ⟨ret_bool HF.out.symm, HE.out⟩
   replace h6 : m'.length = m.length := by omega
   have HT2 : Hid (T = (sameL l l' && sameM [] m m')) := Hd (by
    rw [← HT.out, firstsL_nodup m [] HND.out.1 (by simp), firstsL_nodup m' [] HND.out.2 (by simp)]; simp [HD3.out, h6])
   have e6 : (m'.length : Int) = m.length := by omega
   have H6 := Hd h6; clear HT h6; have HEQ : Hid (∀ w', Ext w1 w' → Calls Tryz.prog 53 #[.slice a1 l.length p1, .slice a3 l'.length p3, .func (.func 25) #[] #[]] w' (fun e w'' => e = .returned (.bool (sameL l l')) ∧ Ext w' w'')) := Hd (fun w' hw => by
    have h1 := HLN.out; have h2 := HLN'.out; exact eqf_any l l' (fun i h h' c c' w'' hc hc' => IH.out l[i] l'[i] _ _ c c' w'' (mem_sizeL l i h HSU.out.1) (HPL.out i h).1 (HPL'.out i h').1 (HPL.out i h).2 (HPL'.out i h').2 hc hc') _ _ _ _ w'
     (HRL.out.keep hw.size (fun g _ hlt => ⟨trivial, hw.block g hlt⟩)) (HTL.out.keep hw.size (fun g _ hlt => ⟨trivial, hw.block g hlt⟩)) (HSL.out.keep hw.size (fun g _ hlt => ⟨trivial, hw.block g hlt⟩)) (HUL.out.keep hw.size (fun g _ hlt => ⟨trivial, hw.block g hlt⟩)) (by omega) (by omega))
   obtain ⟨bl, hbl⟩ := Ex (sameL l l'); have hq := HEQ.out; have ht2 := HT2.out; rw [hbl] at hq ht2; replace HEQ := Hd hq; replace HT2 := Hd ht2; clear hq ht2 hbl; go_wp2_with fail; refine (HEQ.out w1 (ext_refl _)).mono ?_; rintro e w2 ⟨rfl, hw2⟩; cases bl with
   | false =>
     have HF : Hid (T = false) := Hd (by rw [HT2.out]; rfl); have HEE := Hd (ext_trans HE.out hw2); clear hw2; go_wp2_with fail; go_ret; exact ⟨ret_bool HF.out.symm, HEE.out⟩
   | true =>
   replace HT2 : Hid (T = sameM [] m m') := Hd (by rw [HT2.out, Bool.true_and]); clear HEQ; have HX2 := Hd hw2; replace HE := Hd (ext_trans HE.out hw2); replace HC := Hd (HC.out.ext hw2); replace HD := Hd (HD.out.ext hw2)
   have HFM : Hid (∀ w', Ext w2 w' → Calls Tryz.prog 54 #[.slice a2 m.length p2] w' (fun e w'' => ∃ b l, e = .returned (.map (some b)) ∧ MapV w'' b l ∧ EntV w'' (fun _ => True) l m ∧ Ext w' w'')) := Hd (fun w' hw => by
    have h1 := HLN.out; have hx := ext_trans HX2.out hw; exact firsts_any _ m _ (fun _ => True) w' (HRM.out.keep hx.size (fun g _ hlt => ⟨trivial, hx.block g hlt⟩)) (HTM.out.keep hx.size (fun g _ hlt => ⟨trivial, hx.block g hlt⟩)) (by omega) (fun p hp => (HPM.out p hp).1) HND.out.1)
   have HFM' : Hid (∀ w', Ext w2 w' → Calls Tryz.prog 54 #[.slice a4 m'.length p4] w' (fun e w'' => ∃ b l, e = .returned (.map (some b)) ∧ MapV w'' b l ∧ EntV w'' (fun _ => True) l m' ∧ Ext w' w'')) := Hd (fun w' hw => by
    have h1 := HLN'.out; have hx := ext_trans HX2.out hw; exact firsts_any _ m' _ (fun _ => True) w' (HSM.out.keep hx.size (fun g _ hlt => ⟨trivial, hx.block g hlt⟩)) (HUM.out.keep hx.size (fun g _ hlt => ⟨trivial, hx.block g hlt⟩)) (by omega) (fun p hp => (HPM'.out p hp).1) HND.out.2)
   clear hw2 c0 c1 c2 c3 c4 c5 c6 c7 d0 d1 d2 d3 d4 d5 d6 d7 hneq; go_upto_region 4 with fail; refine Grow.wp_region_litW (G := Ext) (B := fun w' => Ext w2 w') (anc := fun _ => []) (I := fun j => if j = 2 then some (specF m) else if j = 5 then some (specF m') else none) (by kernel_rfl) (by kernel_rfl) (by kernel_rfl) ?_ ?_ ?_
   · exact fun w w' h hg => ext_trans h hg
   · exact (ext_refl _).drew
   repeat
    (refine Grow.Wk.step (fun K hK => ?_)
     first
     | (refine Grow.step_read (by rfl) (by rfl) (fun w => ext_refl w) ?_
        apply Exists.intro; refine ⟨fun w hB hF => ?_, ?_⟩
        · replace hB : Ext _ w := hB; have c7 := (HC.out.ext hB).cell 7; have d7 := (HD.out.ext hB).cell 7; simp at c7 d7; go_simp; try exact rfl
        go_simp; refine hK _ _ ?_; clear hK K)
     | (refine Grow.step_off (by rfl) ?_
        go_simp; refine hK _ _ ?_; clear hK K))
   refine Grow.Wk.step (fun K hK => ?_); refine Grow.step_rel (by rfl) (by rfl) (fun w' hB hF => ?_) (fun v hv => ?_)
   · go_simp; refine Grow.relUpon_enter ((HFM.out w' hB).mono ?_); rintro e w'' ⟨b0, l0, rfl, h1, h2, hw''⟩; exact ⟨_, rfl, hw'', ⟨_, rfl⟩, _, _, rfl, h1, h2⟩
   obtain ⟨bx, rfl⟩ := hv; go_simp; refine hK _ _ ?_; clear hK K; repeat
    (refine Grow.Wk.step (fun K hK => ?_)
     first
     | (refine Grow.step_read (by rfl) (by rfl) (fun w => ext_refl w) ?_
        apply Exists.intro; refine ⟨fun w hB hF => ?_, ?_⟩
        · replace hB : Ext _ w := hB; have c7 := (HC.out.ext hB).cell 7; have d7 := (HD.out.ext hB).cell 7; simp at c7 d7; go_simp; try exact rfl
        go_simp; refine hK _ _ ?_; clear hK K)
     | (refine Grow.step_off (by rfl) ?_
        go_simp; refine hK _ _ ?_; clear hK K))
   refine Grow.Wk.step (fun K hK => ?_); refine Grow.step_rel (by rfl) (by rfl) (fun w' hB hF => ?_) (fun v hv => ?_)
   · go_simp; refine Grow.relUpon_enter ((HFM'.out w' hB).mono ?_); rintro e w'' ⟨b0, l0, rfl, h1, h2, hw''⟩; exact ⟨_, rfl, hw'', ⟨_, rfl⟩, _, _, rfl, h1, h2⟩
   obtain ⟨bY, rfl⟩ := hv; go_simp; refine hK _ _ ?_; clear hK K; repeat
    (refine Grow.Wk.step (fun K hK => ?_)
     first
     | (refine Grow.step_read (by rfl) (by rfl) (fun w => ext_refl w) ?_
        apply Exists.intro; refine ⟨fun w hB hF => ?_, ?_⟩
        · skip
          go_simp; try exact rfl
        go_simp; refine hK _ _ ?_; clear hK K)
     | (refine Grow.step_off (by rfl) ?_
        go_simp; refine hK _ _ ?_; clear hK K))
   refine Grow.Wk.nil ?_; intro w3 hB hF; obtain ⟨bx', lx, ex, hmx, hex⟩ := hF 2; obtain ⟨by', ly, ey, hmy, hey⟩ := hF 5; simp only [Value.map.injEq, Option.some.injEq] at ex ey; subst ex ey; replace hB : Ext w2 w3 := hB; replace HE := Hd (ext_trans HE.out hB); clear hF hB HFM HFM' HC HD; obtain ⟨w4, hrun, hrg, hx4, hs4⟩ := hmx.range; obtain ⟨R, hR⟩ := Ex w3.heap.size; rw [hR] at hrun hrg
   have HRG := Hd hrg; have HX4 := Hd hx4; have HEX := Hd hex; have HEY := Hd hey; have HMY := Hd hmy; have HMX := Hd hmx; have HR3 := Hd hR; clear hrg hx4 hs4 hex hey hmx hmy hR; go_upto_region 6 with fail
   go_loopw [8] (fun kv wr => ∃ (L : List UInt8 → Bool) (cnt : Nat), RngV wr bx R lx L cnt ∧ Ext w3 wr ∧ ∀ p ∈ m, L p.1 = false → ∃ t', findM p.1 m' = some t' ∧ sameT p.2 t' = true) (fun _ wr => wr.rangeLeft bx R)
   case atStart => exact ⟨_, _, HRG.out, HX4.out, fun p hp h => by
    rw [HEX.out.keys] at h; have h2 : (m.map (·.1)).contains p.1 = true := by simpa using ⟨p.2, hp⟩
    rw [h2] at h; cases h⟩
   case round =>
    obtain ⟨L, cnt, hrg, hE, hmt⟩ := hrel; have HX := Hd hE; have HMT := Hd hmt; have HRR := Hd hrg; have hlf := hrg.left_eq; clear hE hmt hrun; rcases hrg.next 0 with ⟨hc0, hL0, hnx⟩ | ⟨ky, cx, wn, cnt', hmem, hLk, hnx, hrgn, hlt, hgr, hsz, hent⟩
    · have HF : Hid (T = true) := Hd (by
       rw [HT2.out, (sameM_nodup m m' [] HND.out.1 (by simp))]; exact fun p hp => HMT.out p hp (hL0 _))
      have hl1 := HRR.out.map.len; have hl2 := (HMY.out.same (w' := wr) (HX.out.block _ HMY.out.lt)).len; rw [HEX.out.1] at hl1; rw [HEY.out.1, H6.out] at hl2; clear hrg; go_wp2_with fail; go_ret; exact ⟨ret_bool HF.out.symm, ext_trans HE.out HX.out⟩
    · obtain ⟨tx, htm', hfx, htvx⟩ := HEX.out.find HND.out.1 hmem; have hpx := HPM.out _ htm'; have hsz' : SizeOf.sizeOf tx < N := Nat.lt_trans (snd_lt (ky, tx)) (Nat.lt_trans (List.sizeOf_lt_of_mem htm') HSU.out.2); have HPX : Hid (SizeOf.sizeOf tx < N ∧ weightT tx ≤ 1000000 ∧ distT tx) := Hd ⟨hsz', hpx.2.1, hpx.2.2⟩; have hkm : ky.length ≤ 1000000 := hpx.1; have HTM' := Hd htm'
      have HMS : Hid (∀ p ∈ m, (L p.1 && !(p.1 == ky)) = false → p.1 ≠ ky → ∃ t', findM p.1 m' = some t' ∧ sameT p.2 t' = true) := Hd (fun p hp h hne => by
       refine HMT.out p hp ?_; have e : (p.1 == ky) = false := by simpa using hne
       rw [e] at h; simpa using h)
      have HFX := Hd hfx; obtain ⟨xk, xb, xd, xs, xa1, xn1, xc1, xa2, xn2, xc2, rfl⟩ := htvx.eight; have HRN := Hd hrgn; have hxn : Ext w3 wn := ⟨hgr.os.trans HX.out.os, hgr.tape.trans HX.out.tape, hgr.output.trans HX.out.output, Nat.le_trans HX.out.size hgr.size, fun k hk => (hgr.block k (Nat.lt_of_lt_of_le hk HX.out.size) (by have := HR3.out; simp; omega)).trans (HX.out.block k hk)⟩
      have HXN := Hd hxn; have HTVX := Hd htvx; have HLT := Hd hlt; have hn5 := VAt.new wn #[.int .i64 xk, .bool xb, .bool xd.neg, .string ⟨xd.digits.toArray⟩, .int .i64 xd.exp, .string ⟨xs.toArray⟩, .slice xa1 xn1 xc1, .slice xa2 xn2 xc2]
      have hx5 : Ext wn (wn.alloc (.cells #[.int .i64 xk, .bool xb, .bool xd.neg, .string ⟨xd.digits.toArray⟩, .int .i64 xd.exp, .string ⟨xs.toArray⟩, .slice xa1 xn1 xc1, .slice xa2 xn2 xc2] 27)) := (ext_refl _).alloc (Nat.le_refl _) _; obtain ⟨P5, hP5⟩ := Ex wn.heap.size; rw [hP5] at hn5; have HLF := Hd hlf; clear hrg hrgn hmem hLk hpx hsz' htm' hfx hxn htvx hlt hgr hsz HX hlf
      simp only [cellsV] at hnx hent; go_upto_region 8 with fail; clear hnx hent hP5; generalize wn.alloc (.cells #[.int .i64 xk, .bool xb, .bool xd.neg, .string ⟨xd.digits.toArray⟩, .int .i64 xd.exp, .string ⟨xs.toArray⟩, .slice xa1 xn1 xc1, .slice xa2 xn2 xc2] 27) = w5 at *; have HX5 := Hd (ext_trans HXN.out hx5); have HRN5 := Hd (HRN.out.kept hx5); clear hx5
      rcases (HMY.out.same (w' := w5) (HX5.out.block _ HMY.out.lt)).look ky (by simp only [Go.maxLen]; omega) with ⟨hno, hlk⟩ | ⟨cy, hmemy, hlk⟩
      · rw [HEY.out.keys] at hno; have HF : Hid (T = false) := Hd (by
         rw [HT2.out]; exact sameM_no HND.out.1 HTM'.out (fun t' h => by rw [findM_none hno] at h; cases h))
        simp only [zeroV, cellsV] at hlk; have hx6 : Ext w5 (w5.alloc (.cells #[.int .i64 0, .bool false, .bool Num.zero.neg, .string ⟨Num.zero.digits.toArray⟩, .int .i64 Num.zero.exp, .string ⟨#[]⟩, .slice none 0 0, .slice none 0 0] 27)) := (ext_refl _).alloc (Nat.le_refl _) _; go_upto_region 9 with fail
        generalize w5.alloc (.cells #[.int .i64 0, .bool false, .bool Num.zero.neg, .string ⟨Num.zero.digits.toArray⟩, .int .i64 Num.zero.exp, .string ⟨#[]⟩, .slice none 0 0, .slice none 0 0] 27) = w6 at *; have HX6 := Hd (ext_trans HX5.out hx6); clear hlk hx6 hn5 hno; go_wp2_with fail; go_ret; exact ⟨ret_bool HF.out.symm, ext_trans HE.out HX6.out⟩
      · obtain ⟨ty, htmy, hfy, htvy⟩ := HEY.out.find HND.out.2 hmemy; have hpy := HPM'.out _ htmy; have HPY := Hd hpy; have HFY := Hd hfy; have HTVY := Hd htvy; obtain ⟨yk, yb, yd, ys, ya1, yn1, yc1, ya2, yn2, yc2, rfl⟩ := htvy.eight; have hn6 := VAt.new w5 #[.int .i64 yk, .bool yb, .bool yd.neg, .string ⟨yd.digits.toArray⟩, .int .i64 yd.exp, .string ⟨ys.toArray⟩, .slice ya1 yn1 yc1, .slice ya2 yn2 yc2]
        have hx6 : Ext w5 (w5.alloc (.cells #[.int .i64 yk, .bool yb, .bool yd.neg, .string ⟨yd.digits.toArray⟩, .int .i64 yd.exp, .string ⟨ys.toArray⟩, .slice ya1 yn1 yc1, .slice ya2 yn2 yc2] 27)) := (ext_refl _).alloc (Nat.le_refl _) _; obtain ⟨P6, hP6⟩ := Ex w5.heap.size; rw [hP6] at hn6; simp only [cellsV] at hlk; clear hpy hfy htvy htmy hmemy; go_upto_region 9 with fail; clear hlk hP6
        generalize w5.alloc (.cells #[.int .i64 yk, .bool yb, .bool yd.neg, .string ⟨yd.digits.toArray⟩, .int .i64 yd.exp, .string ⟨ys.toArray⟩, .slice ya1 yn1 yc1, .slice ya2 yn2 yc2] 27) = w6 at *; have HX6 := Hd (ext_trans HX5.out hx6); have HRN6 := Hd (HRN5.out.kept hx6)
        have HIH := Hd (IH.out tx ty (fun _ => True) (fun _ => True) _ _ w6 HPX.out.1 HPX.out.2.1 HPY.out.2.1 HPX.out.2.2 HPY.out.2.2 (HTVX.out.keep HX6.out.size (fun g _ hlt => ⟨trivial, HX6.out.block g hlt⟩)) (HTVY.out.keep HX6.out.size (fun g _ hlt => ⟨trivial, HX6.out.block g hlt⟩))); obtain ⟨bq, hbq⟩ := Ex (sameT tx ty); have hih := HIH.out; rw [hbq] at hih; replace HIH := Hd hih; have HBQ := Hd hbq
        replace hn5 := hn5.ext hx6; have c0 := hn5.cell 0; have c1 := hn5.cell 1; have c2 := hn5.cell 2; have c3 := hn5.cell 3; have c4 := hn5.cell 4; have c5 := hn5.cell 5; have c6 := hn5.cell 6; have c7 := hn5.cell 7; have d0 := hn6.cell 0; have d1 := hn6.cell 1; have d2 := hn6.cell 2; have d3 := hn6.cell 3; have d4 := hn6.cell 4; have d5 := hn6.cell 5; have d6 := hn6.cell 6; have d7 := hn6.cell 7
        simp at c0 c1 c2 c3 c4 c5 c6 c7 d0 d1 d2 d3 d4 d5 d6 d7; clear hih hbq hn5 hn6 hx6; go_wp2_with fail; refine (HIH.out).mono ?_; rintro e w7 ⟨rfl, hw7⟩; have HX7 := Hd (ext_trans HX6.out hw7); have HRN7 := Hd (HRN6.out.kept hw7); clear hw7 c0 c1 c2 c3 c4 c5 c6 c7 d0 d1 d2 d3 d4 d5 d6 d7; cases bq with
        | false =>
          have HF : Hid (T = false) := Hd (by
           rw [HT2.out]; exact sameM_no HND.out.1 HTM'.out (fun t' h => by rw [HFY.out] at h; cases h; exact HBQ.out))
          go_wp2_with fail; go_ret; exact ⟨ret_bool HF.out.symm, ext_trans HE.out HX7.out⟩
        | true =>
          go_wp2_with fail; go_roundw
          case rel => exact ⟨_, _, HRN7.out, HX7.out, fun p hp h => by
           by_cases hne : p.1 = ky
           · have h1 := findM_of_mem HND.out.1 (show (p.1, p.2) ∈ m from hp); rw [hne, HFX.out] at h1; simp only [Option.some.injEq] at h1; rw [hne, ← h1]; exact ⟨ty, HFY.out, HBQ.out⟩
           · exact HMS.out p hp h hne⟩
          case measure => rw [HRN7.out.left_eq, HLF.out]; exact HLT.out
theorem same_any (t u : Tree) (A A' : Nat → Prop) (c c' : Array Value) (w : World) (hwt : weightT t ≤ 1000000) (hwu : weightT u ≤ 1000000) (hdt : distT t) (hdu : distT u) (ht : TV w A t c) (hu : TV w A' u c') :
 Calls Tryz.prog 25 #[.agg c, .agg c'] w (fun e w' => e = .returned (.bool (sameT t u)) ∧ Ext w w') := by
 have h : ∀ N : Nat, ∀ (t u : Tree) (A A' : Nat → Prop) (c c' : Array Value) (w : World), SizeOf.sizeOf t < N → weightT t ≤ 1000000 → weightT u ≤ 1000000 → distT t → distT u → TV w A t c → TV w A' u c' →
  Calls Tryz.prog 25 #[.agg c, .agg c'] w (fun e w' => e = .returned (.bool (sameT t u)) ∧ Ext w w') := by
  intro N; induction N with
  | zero => intro t u A A' c c' w h; omega
  | succ N ih => exact same_step N ih
 exact h _ t u A A' c c' w (Nat.lt_succ_self _) hwt hwu hdt hdu ht hu
end Go.Proofs.YtjapbjmeoaagmaaGreatDoor
end

section
set_option maxRecDepth 100000
namespace Orange
def awkS : List PStep := [⟨[97], 0, true⟩, ⟨[], 2, false⟩]
def awkT : Tree := tObj [([97], tBool true)]
def awkN (_ : PStep) : List UInt8 := [97]
theorem awk_put : putT (tObj []) [⟨[97], 0, true⟩] (tBool true) = (awkT, 0) := by kernel_rfl
theorem awk_at : atT awkT [⟨[97], 0, true⟩] = some (tBool true) := by kernel_rfl
theorem awk_place : placeTx awkN awkS = [36, 91, 39, 97, 39, 93, 91, 50, 93] := by decide +kernel
theorem awk_count : countT awkT = 2 := by decide +kernel
theorem awk_dist : distT awkT := by simp [awkT, tObj, tBool, distT, distL, distM]
theorem awk_same : sameT awkT awkT = true := by decide +kernel
end Orange
namespace Go.Proofs.YtjapbjmeoaagmaaGreatDoor
open Go.RowKit Go.Mem Orange
theorem set8_below {B q : Nat} {a w : World} (h : Below B a w) (hq : B ≤ q) (x0 x1 x2 x3 x4 x5 x6 x7 : Value) : Below B a ((((((((w.setCell ⟨q, 0, none⟩ x0).setCell ⟨q, 1, none⟩ x1).setCell ⟨q, 2, none⟩ x2).setCell ⟨q, 3, none⟩ x3).setCell ⟨q, 4, none⟩ x4).setCell ⟨q, 5, none⟩ x5).setCell ⟨q, 6, none⟩ x6).setCell ⟨q, 7, none⟩ x7) :=
 Below.setCell (p := ⟨q, 7, none⟩) (Below.setCell (p := ⟨q, 6, none⟩) (Below.setCell (p := ⟨q, 5, none⟩) (Below.setCell (p := ⟨q, 4, none⟩) (Below.setCell (p := ⟨q, 3, none⟩) (Below.setCell (p := ⟨q, 2, none⟩) (Below.setCell (p := ⟨q, 1, none⟩) (Below.setCell (p := ⟨q, 0, none⟩) h hq _) hq _) hq _) hq _) hq _) hq _) hq _) hq _
theorem tv_b {w : World} {A : Nat → Prop} {c : Array Value} (h : TV w A (tBool true) c) : c[1]? = some (.bool true) := by cases h; rfl
theorem awk_sane : (saneT 0 0 (.mk 9 false Num.zero [] [] [])).1 = 1 := by kernel_rfl
set_option maxHeartbeats 6400000 in
theorem vawake (w : World) (hT : Tab w) : Calls Tryz.prog 14 #[] w fun e w' => e = .returned (.bool true) ∧ Ext w w' := by
 have HTB := Hd hT; clear hT; obtain ⟨S, hS⟩ := Ex w.heap.size; have hcell := fun j => (Blk.new hS #[.string ⟨#[97]⟩, .int .i64 0, .bool true, .string ⟨#[]⟩, .int .i64 2, .bool false] 46).cell j; have hx1 : Ext w (w.alloc (.cells #[.string ⟨#[97]⟩, .int .i64 0, .bool true, .string ⟨#[]⟩, .int .i64 2, .bool false] 46)) := (ext_refl w).alloc (Nat.le_refl _) _
 have hs1 : (w.alloc (.cells #[.string ⟨#[97]⟩, .int .i64 0, .bool true, .string ⟨#[]⟩, .int .i64 2, .bool false] 46)).heap.size = S + 1 := by simp [hS]
 have HP2 : Hid (PlAt (w.alloc (.cells #[.string ⟨#[97]⟩, .int .i64 0, .bool true, .string ⟨#[]⟩, .int .i64 2, .bool false] 46)) (fun _ => True) (.slice (some ⟨S, 0, none⟩) 2 2) awkS) := Hd ⟨⟨rfl, _, _, rfl, Nat.le_refl _, by omega, fun _ => ⟨S, 0, rfl, trivial, by omega, fun i hi => by
  have hi' : i = 0 ∨ i = 1 ∨ i = 2 ∨ i = 3 ∨ i = 4 ∨ i = 5 := by
   have : i < 6 := hi; omega
  rcases hi' with rfl | rfl | rfl | rfl | rfl | rfl <;> exact hcell _⟩⟩, by intro s hs; simp only [awkS, List.mem_cons, List.not_mem_nil, or_false] at hs; rcases hs with rfl | rfl <;> exact ⟨by decide, by decide⟩⟩
 have HP1 : Hid (PlAt (w.alloc (.cells #[.string ⟨#[97]⟩, .int .i64 0, .bool true, .string ⟨#[]⟩, .int .i64 2, .bool false] 46)) (fun _ => True) (.slice (some ⟨S, 0, none⟩) 1 2) [⟨[97], 0, true⟩]) := Hd ⟨⟨rfl, _, _, rfl, by decide, by omega, fun _ => ⟨S, 0, rfl, trivial, by omega, fun i hi => by
  have hi' : i = 0 ∨ i = 1 ∨ i = 2 := by
   have : i < 3 := hi; omega
  rcases hi' with rfl | rfl | rfl <;> exact hcell _⟩⟩, by intro s hs; simp only [List.mem_cons, List.not_mem_nil, or_false] at hs; subst hs; exact ⟨by decide, by decide⟩⟩
 clear hcell; have HX1 := Hd hx1; clear hx1; go_enter Tryz.func14, Tryz.ntmps14
 go_upto_region 2 with fail; generalize w.alloc (.cells #[.string ⟨#[97]⟩, .int .i64 0, .bool true, .string ⟨#[]⟩, .int .i64 2, .bool false] 46) = w1 at *; have HS := Hd hS; clear hS; go_wp2_with fail; refine (vput_any (tObj []) (tBool true) _ _ (fun _ => True) _ [⟨[97], 0, true⟩] w1 (TV.leaf _ _ _ _ _ _) HP1.out (TV.leaf _ _ _ _ _ _) (by decide +kernel)).mono ?_; rintro e w2 ⟨c', rfl, htv, hx2⟩
 rw [awk_put] at htv ⊢; simp only at htv ⊢; have htv2 := htv.keep (A' := fun _ => True) (Nat.le_refl _) (fun g _ hlt => ⟨trivial, rfl⟩); have HX2 := Hd (ext_trans HX1.out hx2); have HP12 := Hd (HP1.out.keep (A' := fun _ => True) hx2.size (fun g _ hlt => ⟨trivial, hx2.block g hlt⟩)); have HP22 := Hd (HP2.out.keep (A' := fun _ => True) hx2.size (fun g _ hlt => ⟨trivial, hx2.block g hlt⟩))
 have hs2 := hx2.size; clear htv hx2 HP1 HP2 HX1; obtain ⟨k, b, d, ss, la, ln, lc, ma, mn, mc, rfl⟩ := htv2.eight; obtain ⟨Q, hQ⟩ := Ex w2.heap.size; have hv1 := VAt.new w2 (cellsV k b d ss (.slice la ln lc) (.slice ma mn mc)); have hx3 : Ext w2 (w2.alloc (.cells (cellsV k b d ss (.slice la ln lc) (.slice ma mn mc)) 27)) := (ext_refl _).alloc (Nat.le_refl _) _
 have hs3 : (w2.alloc (.cells (cellsV k b d ss (.slice la ln lc) (.slice ma mn mc)) 27)).heap.size = Q + 1 := by simp [hQ]
 rw [hQ] at hv1; simp only [cellsV] at hv1 hx3 hs3 ⊢; go_upto_region 3 with fail; have HV := Hd hv1; have HX3 := Hd (ext_trans HX2.out hx3); have HTV := Hd (htv2.keep (A' := fun _ => True) hx3.size (fun g _ hlt => ⟨trivial, hx3.block g hlt⟩)); have HP13 := Hd (HP12.out.keep (A' := fun _ => True) hx3.size (fun g _ hlt => ⟨trivial, hx3.block g hlt⟩))
 have HP23 := Hd (HP22.out.keep (A' := fun _ => True) hx3.size (fun g _ hlt => ⟨trivial, hx3.block g hlt⟩)); clear hv1 hx3 htv2 HP12 HP22 HX2 hQ hs2 hs1; generalize w2.alloc (.cells #[.int .i64 k, .bool b, .bool d.neg, .string ⟨d.digits.toArray⟩, .int .i64 d.exp, .string ⟨ss.toArray⟩, .slice la ln lc, .slice ma mn mc] 27) = w3 at *
 have HC : Hid (∀ w', Ext w3 w' → Calls Tryz.prog 19 #[.agg (cellsV k b d ss (.slice la ln lc) (.slice ma mn mc)), .slice (some ⟨S, 0, none⟩) 1 2] w' (fun e w'' => ∃ (k' : Int) (d' : Num) (s' : List UInt8) (a1 : Option Addr) (n1 m1 : Nat) (a2 : Option Addr) (n2 m2 : Nat), e = .returned (.tuple #[.agg (cellsV k' true d' s' (.slice a1 n1 m1) (.slice a2 n2 m2)), .bool true]) ∧ Ext w' w'')) := Hd (fun w' hw => by
  have h := at_any awkT _ (fun _ => True) _ [⟨[97], 0, true⟩] w' (HTV.out.keep (A' := fun _ => True) hw.size (fun g _ hlt => ⟨trivial, hw.block g hlt⟩)) (HP13.out.keep (A' := fun _ => True) hw.size (fun g _ hlt => ⟨trivial, hw.block g hlt⟩)); rw [awk_at] at h; refine h.mono ?_; rintro e w'' ⟨c', rfl, ht, hx⟩; obtain ⟨k', b', d', s', a1, n1, m1, a2, n2, m2, rfl⟩ := ht.eight; have hb := tv_b ht
  simp at hb; subst hb; exact ⟨k', d', s', a1, n1, m1, a2, n2, m2, rfl, hx⟩)
 simp only [cellsV] at HC; go_cut [4, 5] (fun p4 v5 wx => ∃ Q2 : Nat, p4 = .pointer (some ⟨Q2, 0, none⟩) ∧ v5 = .bool true ∧ Ext w3 wx ∧ wx.cell? ⟨Q2, 1, none⟩ = some (.bool true))
 case first =>
  have hcw := HV.out; have c0 := hcw.cell 0; have c1 := hcw.cell 1; have c2 := hcw.cell 2; have c3 := hcw.cell 3; have c4 := hcw.cell 4; have c5 := hcw.cell 5; have c6 := hcw.cell 6; have c7 := hcw.cell 7; simp at c0 c1 c2 c3 c4 c5 c6 c7; have hql := hcw.lt; clear hcw; have hN : VAt ((w3.alloc (.cells zeroV 27)).drew) (Q + 1) zeroV := by
   have h := (VAt.new w3 zeroV).ext (ext_refl _).drew; rw [hs3] at h; exact h
  have HN := Hd hN; clear hN
  go_region_with (go_at_call 19; go_loud (refine (HC.out _ (by first | exact (ext_refl _).drew | exact ((ext_refl _).drew.alloc (by simp) _) | exact ((ext_refl _).alloc (Nat.le_refl _) _).drew)).mono ?_; rintro e w' ⟨k', d', s', a1, n1, m1, a2, n2, m2, rfl, hx⟩; try (have hz := VAt.ext HN.out hx; simp only [zeroV, noL, Num.zero] at hz; obtain ⟨z0, z1, z2, z3, z4, z5, z6, z7⟩ := hz.c8; have y := hz.free)))
  all_goals go_wp2_with fail
  all_goals go_meet
  all_goals first
   | exact ⟨_, rfl, rfl, (ext_trans (ext_refl w3).drew hx).alloc (by have := hx.size; simp at this; omega) _, by simp⟩
   | exact ⟨_, rfl, rfl, set8_below (ext_trans ((ext_refl w3).alloc (Nat.le_refl _) _).drew hx) (by omega) _ _ _ _ _ _ _ _, (VAt.store8 hz _ _ _ _ _ _ _ _).cell 1⟩
 case rest =>
  obtain ⟨Q2, rfl, rfl, hx4, hB⟩ := hcut; have HX4 := Hd (ext_trans HX3.out hx4); have HV4 := Hd (HV.out.ext hx4); have HTV4 := Hd (HTV.out.keep (A' := fun _ => True) hx4.size (fun g _ hlt => ⟨trivial, hx4.block g hlt⟩)); have HP4 := Hd (HP23.out.keep (A' := fun _ => True) hx4.size (fun g _ hlt => ⟨trivial, hx4.block g hlt⟩)); have HB := Hd hB
  have hq2 : Q2 < wc.heap.size := World.block_lt_of_cell? _ _ hB; clear hx4 hB HV HTV HP13 HP23 HC HX3 hs3; go_wp2_with fail; have hpl := place_gen awkN (fun _ => True) _ awkS wc (HTB.out.ext HX4.out) HP4.out (by decide) (by decide) (fun s hs hn w' hw => by
   simp only [awkS, List.mem_cons, List.not_mem_nil, or_false] at hs; rcases hs with rfl | rfl
   · exact name_a w'
   · cases hn)
  rw [awk_place] at hpl; refine hpl.mono ?_; rintro e w5 ⟨rfl, hx5⟩; clear hpl; have HX5 := Hd (ext_trans HX4.out hx5); have HV5 := Hd (HV4.out.ext hx5); have HTV5 := Hd (HTV4.out.keep (A' := fun _ => True) hx5.size (fun g _ hlt => ⟨trivial, hx5.block g hlt⟩))
  have hb5 : w5.cell? ⟨Q2, 1, none⟩ = some (.bool true) := by rw [World.cell?_of_block (w := wc) (a := ⟨Q2, 1, none⟩) (hx5.block Q2 hq2)]; exact HB.out
  have hcw := HV5.out; have c0 := hcw.cell 0; have c1 := hcw.cell 1; have c2 := hcw.cell 2; have c3 := hcw.cell 3; have c4 := hcw.cell 4; have c5 := hcw.cell 5; have c6 := hcw.cell 6; have c7 := hcw.cell 7; simp at c0 c1 c2 c3 c4 c5 c6 c7; clear hx5 HV4 HTV4 HP4 HB HX4 hcw; go_wp2_with fail; refine (count_any awkT _ _ w5 (by decide +kernel) HTV5.out).mono ?_; rintro e w6 ⟨rfl, hx6⟩; rw [awk_count]
  have HX6 := Hd (ext_trans HX5.out hx6); have HV6 := Hd (HV5.out.ext hx6); have HTV6 := Hd (HTV5.out.keep (A' := fun _ => True) hx6.size (fun g _ hlt => ⟨trivial, hx6.block g hlt⟩)); clear c0 c1 c2 c3 c4 c5 c6 c7; have hcw := HV6.out; have c0 := hcw.cell 0; have c1 := hcw.cell 1; have c2 := hcw.cell 2; have c3 := hcw.cell 3; have c4 := hcw.cell 4; have c5 := hcw.cell 5; have c6 := hcw.cell 6
  have c7 := hcw.cell 7; simp at c0 c1 c2 c3 c4 c5 c6 c7; clear hx6 HV5 HTV5 HX5 hcw hb5; go_wp2_with fail; refine (same_any awkT awkT _ _ _ _ w6 (by decide +kernel) (by decide +kernel) awk_dist awk_dist HTV6.out HTV6.out).mono ?_; rintro e w7 ⟨rfl, hx7⟩; rw [awk_same]; have HX7 := Hd (ext_trans HX6.out hx7); clear hx7 HV6 HTV6 HX6 c0 c1 c2 c3 c4 c5 c6 c7; go_wp2_with fail
  refine (Sane_any (.mk 9 false Num.zero [] [] []) _ (fun _ => True) w7 (by decide +kernel) (TV.leaf _ _ _ _ _ _)).mono ?_; rintro e w8 ⟨rfl, hx8⟩; rw [awk_sane]; have HX8 := Hd (ext_trans HX7.out hx8); clear hx8 HX7; go_wp2_with fail; go_ret; exact ⟨rfl, HX8.out⟩
end Go.Proofs.YtjapbjmeoaagmaaGreatDoor
end

section
set_option maxRecDepth 100000
namespace Orange
def okP (l : List PStep) : Prop := l.length ≤ 140737488355328 ∧ ∀ s ∈ l, i64R s.pos ∧ s.name.length ≤ 140737488355328
end Orange
namespace Go.Proofs.YtjapbjmeoaagmaaGreatDoor
open Go.RowKit Go.Mem Orange Go.ChangeShapes Go.WideShapes Go.ChangeAt
theorem ts_build {W : World} {g o : Nat} : ∀ n : Nat, (∀ i, i < n → ∃ s : PStep, i64R s.pos ∧ s.name.length ≤ 140737488355328 ∧ ∀ j, j < 3 → W.cell? ⟨g, o + i * 3 + j, none⟩ = (cellsS s)[j]?) →
 ∃ l : List PStep, l.length = n ∧ (∀ s ∈ l, i64R s.pos ∧ s.name.length ≤ 140737488355328) ∧ ∀ i, (h : i < (l.flatMap fun s => (cellsS s).toList).length) → W.cell? ⟨g, o + i, none⟩ = some (l.flatMap fun s => (cellsS s).toList)[i]
 | 0, _ => ⟨[], rfl, fun s h => absurd h (by simp), fun i h => absurd h (by simp)⟩
 | n + 1, H => by
   obtain ⟨l, h1, h3, h4⟩ := ts_build n (fun i hi => H i (by omega)); obtain ⟨s, k1, k2, k3⟩ := H n (by omega); have hl : (l.flatMap fun s => (cellsS s).toList).length = n * 3 := by
    rw [List.length_flatMap, ← h1]; clear H h1 h3 h4; induction l with
    | nil => rfl
    | cons a l ih => rw [List.map_cons, List.sum_cons, ih]; simp [cellsS]; omega
   refine ⟨l ++ [s], by simp [h1], fun x hx => ?_, fun i hi => ?_⟩
   · rcases List.mem_append.1 hx with hx | hx
     · exact h3 x hx
     · rw [List.mem_singleton.1 hx]; exact ⟨k1, k2⟩
   · have hfm : ((l ++ [s]).flatMap fun s => (cellsS s).toList) = (l.flatMap fun s => (cellsS s).toList) ++ (cellsS s).toList := by simp
     have hi' : i < n * 3 + 3 := by rw [hfm, List.length_append, hl] at hi; simpa [cellsS] using hi
     have hgoal : ∀ L : List Value, L = (l.flatMap fun s => (cellsS s).toList) ++ (cellsS s).toList → ∀ h : i < L.length, W.cell? ⟨g, o + i, none⟩ = some L[i] := by
      rintro L rfl h; by_cases hlt : i < n * 3
      · rw [h4 i (by omega), List.getElem_append_left (by omega)]
      · have := k3 (i - n * 3) (by omega); rw [show o + n * 3 + (i - n * 3) = o + i by omega] at this; rw [this, List.getElem_append_right (by omega), Array.getElem_toList]; simp only [hl]; exact Array.getElem?_eq_getElem (by simp [cellsS]; omega)
     exact hgoal _ hfm hi
section
variable {H : Type} {enc : TypeId × Value → H} {W : World}
theorem cells_step : Tryz.prog.cellsOf 46 = 3 := by kernel_rfl
theorem bytes_step : Tryz.prog.bytesOf 46 = 32 := by kernel_rfl
theorem trod_steps (W : World) : ∀ (fuel : Nat) (cs : List Value) (d : DataW H) (ps : List MemPlace), trodV enc W fuel 28 cs = some (d, ps) → (∀ n ∈ d.weights Tryz.prog 28, n ≤ reachBytes) → ∃ l, (∀ v, cs = [v] → PlAt W (fun _ => True) v l) ∧ okP l := by
 intro fuel cs d ps h4 hwd; have cs' : Tryz.prog.cellsOf 9 = 1 := by kernel_rfl
 have ci : Tryz.prog.cellsOf 3 = 1 := by kernel_rfl
 have cb : Tryz.prog.cellsOf 4 = 1 := by kernel_rfl
 cases fuel with
 | zero => simp [trodV, DataW.trod] at h4
 | succ fuel =>
   rcases trod_slice Tryz.underlying28 (by rw [cells_step]; decide) h4 with ⟨e, _⟩ | ⟨a, n, cap, elems, spare, e, hnc, hcm, hd, hel, hcell⟩
   · subst e; exact ⟨[], fun v hv => by cases hv; exact ⟨RowAt.nil _ _ _ _ _ (by omega), by simp⟩, by simp, by simp⟩
   · subst e; have hwl : (elems.length + spare.length) * Tryz.prog.bytesOf 46 ≤ reachBytes ∧ ∀ n ∈ DataW.weightsAll Tryz.prog 46 elems, n ≤ reachBytes := by
      have h6 := hwd; rw [hd, DataW.weights, Tryz.underlying28] at h6; exact ⟨h6 _ List.mem_cons_self, fun n hn => h6 n (List.mem_cons_of_mem _ (List.mem_append_left _ hn))⟩
     rw [bytes_step] at hwl; have hn47 : n ≤ 140737488355328 := by have := hwl.1; rw [hel] at this; simp only [reachBytes] at this; omega
     rcases Nat.eq_zero_or_pos n with hz | hz
     · subst hz; exact ⟨[], fun v hv => by cases hv; exact ⟨RowAt.nil _ _ _ _ _ (by simp only [maxLen] at hcm; omega), by simp⟩, by simp, by simp⟩
     · obtain ⟨_, c0, _, _, _, hc0, hcell0⟩ := hcell 0 hz; rw [cells_step] at hcell0 hc0; have hsp : a.spot = none := by
        have := hcell0 0 (by omega); rw [List.getElem?_eq_getElem (by omega)] at this; have := World.cell?_spot this; simpa [Addr.add] using this
       obtain ⟨g, o, sp⟩ := a; simp only at hsp; subst hsp; have hg : g < W.heap.size := by
        have := hcell0 0 (by omega); rw [List.getElem?_eq_getElem (by omega)] at this; have := World.block_lt_of_cell? _ _ this; simpa [Addr.add] using this
       obtain ⟨l, h7, h9, h10⟩ := ts_build (W := W) (g := g) (o := o) n (fun i hi => by
        obtain ⟨x, c, ps', hxe, htx, hcl, hcc⟩ := hcell i hi; rw [cells_step] at hcc hcl; have hwx : ∀ n ∈ x.weights Tryz.prog 46, n ≤ reachBytes := fun n hn => hwl.2 n (weightsAll_mem (List.mem_of_getElem? hxe) n hn); cases fuel with
        | zero => simp [DataW.trod] at htx
        | succ fuel =>
          unfold DataW.trod at htx; rw [Tryz.underlying46] at htx; simp only at htx; split at htx
          · rw [Option.map_eq_some_iff] at htx; obtain ⟨xs, hm, htx⟩ := htx; simp only [List.mapM_cons, List.mapM_nil, Option.bind_eq_bind, Option.bind_eq_some_iff, Option.pure_def, Option.some.injEq] at hm; obtain ⟨z0, k0, _, ⟨z1, k1, _, ⟨z2, k2, _, rfl, rfl⟩, rfl⟩, rfl⟩ := hm; rw [cs'] at k0; rw [ci] at k1; rw [cb] at k2; match c, hcl with
            | [u0, u1, u2], _ =>
            simp only [List.drop_zero, List.drop_succ_cons, List.take_succ_cons, List.take_zero] at k0 k1 k2; obtain ⟨s, e3, rfl, hs⟩ := DataW.trod_string Tryz.underlying9 k0; obtain ⟨n', e4, rfl, hn'⟩ := DataW.trod_int Tryz.underlying3 k1; obtain ⟨b, e5, rfl⟩ := DataW.trod_bool Tryz.underlying4 k2; simp only [List.cons.injEq, and_true] at e3 e4 e5; subst e3 e4 e5; simp only [Prod.mk.injEq] at htx
            have hwm : s.data.toList.length ≤ reachBytes := hwx _ (by
             rw [← htx.1, DataW.weights, Tryz.underlying46]; simp [DataW.weightsEach, DataW.weights])
            refine ⟨⟨s.data.toList, n', b⟩, by simpa [Lit.wf, IntKind.min, IntKind.max, IntKind.signed, IntKind.bits, i64R] using hn', Nat.le_trans hwm (by decide), fun j hj => ?_⟩; have := hcc j hj; rw [add_plain, add_plain] at this; rw [this]; simp [cellsS]
          · cases htx)
       refine ⟨l, fun v hv => ?_, by omega, h9⟩; simp only [List.cons.injEq, and_true] at hv; subst hv; refine ⟨⟨?_, some ⟨g, o, none⟩, cap, by rw [h7], by omega, by simp only [maxLen] at hcm; omega, fun _ => ⟨g, o, rfl, trivial, hg, h10⟩⟩, fun s hs => (h9 s hs).1⟩; clear h10 h9 h7 hcell; induction l with
       | nil => rfl
       | cons a l ih => simp [ih, cellsS]; omega
end
end Go.Proofs.YtjapbjmeoaagmaaGreatDoor
end

section
set_option maxRecDepth 100000
namespace Orange
def fewP (l : List PStep) : Bool := decide (l.length ≤ 100) && l.all fun s => decide (s.name.length ≤ 100)
theorem fewP_step (l : List PStep) (i : Nat) (h : i < l.length) (hi : (l.take i).all (fun s => decide (s.name.length ≤ 100)) = true) :
 (l.take (i + 1)).all (fun s => decide (s.name.length ≤ 100)) = decide (l[i].name.length ≤ 100) := by
 rw [List.take_add_one, List.getElem?_eq_getElem h, Option.toList_some, List.all_append, hi]; simp
instance decAheadP : (l m : List PStep) → Decidable (aheadP l m)
 | [], _ => isTrue (by unfold aheadP; trivial)
 | _ :: _, [] => isFalse (fun h => by unfold aheadP at h; exact h)
 | s :: l, r :: m => match (inferInstance : Decidable (sameStep s r)), decAheadP l m with
   | isTrue h, isTrue k => isTrue (by unfold aheadP; exact ⟨h, k⟩)
   | isFalse h, _ => isFalse (fun e => by unfold aheadP at e; exact h e.1)
   | _, isFalse k => isFalse (fun e => by unfold aheadP at e; exact k e.2)
end Orange
namespace Go.Proofs.YtjapbjmeoaagmaaGreatDoor
open Go.RowKit Go.Mem Orange
set_option maxHeartbeats 3200000 in
theorem fewS_any (A : Nat → Prop) (v : Value) (l : List PStep) (w : World) (hl : PlAt w A v l) (hok : okP l) :
 Calls Tryz.prog 16 #[v] w (fun e w' => e = .returned (.bool (fewP l)) ∧ Ext w w') := by
 obtain ⟨_, va, vc, rfl, hvn, hvm, -⟩ := id hl.1; have HL := Hd hl; have HOK := Hd hok; clear hl hok; go_enter Tryz.func16, Tryz.ntmps16
 by_cases hlen : (100 : Int) < l.length
 · have hf : fewP l = false := by unfold fewP; rw [decide_eq_false (by omega)]; rfl
   rw [hf]; go_wp2_with fail; go_ret; exact ⟨rfl, ext_refl _⟩
 have hlen' : l.length ≤ 100 := by omega
 go_wp2_with fail; go_loopw [3] (fun iv wr => ∃ i : Nat, iv = .int .i64 i ∧ i ≤ l.length ∧ Ext w wr ∧ (l.take i).all (fun s => decide (s.name.length ≤ 100)) = true) (fun iv _ => 1000 - (intOf iv).toNat)
 case atStart => exact ⟨0, rfl, Nat.zero_le _, ext_refl _, by simp⟩
 case round =>
  obtain ⟨i, rfl, hi, hx, hall⟩ := hrel; by_cases hlt : i < l.length
  · have hlti : (i : Int) < l.length := by omega
    have hi0 : (0 : Int) ≤ i := by omega
    obtain ⟨g, o, rfl, hgA, hel⟩ := HL.out.elem i hlt; obtain ⟨c0, -, -⟩ := hel wr (fun g hg hlt => hx.block g hlt); have hst := fewP_step l i hlt hall; have hsz := (HOK.out.2 l[i] (List.getElem_mem hlt)).2; have HALL := Hd hall; clear hel hall; obtain ⟨s, hs⟩ := Ex (l[i].name); rw [hs] at c0 hst hsz; have HS := Hd hs; clear hs; by_cases hsl : (100 : Int) < s.length
    · have hf : fewP l = false := by
       unfold fewP; rw [Bool.and_eq_false_iff]; right
       rw [List.all_eq_false]; exact ⟨l[i], List.getElem_mem hlt, by rw [HS.out]; simp; omega⟩
      have HF := Hd hf; clear hst hf; go_wp2_with fail; go_ret; exact ⟨by rw [HF.out]; rfl, hx⟩
    · rw [decide_eq_true (by omega)] at hst; have HST := Hd hst; clear hst; go_wp2_with fail; refine ⟨⟨i + 1, by go_num, by omega, hx, HST.out⟩, by simp [intOf]; omega⟩
  · have hlti : ¬ (i : Int) < l.length := by omega
    have hf : fewP l = true := by
     rw [List.take_of_length_le (by omega)] at hall; unfold fewP; rw [decide_eq_true hlen', hall]; rfl
    have HF := Hd hf; clear hf hall; go_wp2_with fail; go_ret; exact ⟨by rw [HF.out]; rfl, hx⟩
end Go.Proofs.YtjapbjmeoaagmaaGreatDoor
end
