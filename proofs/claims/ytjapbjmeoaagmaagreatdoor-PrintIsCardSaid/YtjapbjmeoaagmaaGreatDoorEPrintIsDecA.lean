/- A text of this proof. -/
import Derived.Test.YtjapbjmeoaagmaaGreatDoorEPrintIsDec
import Derived.Test.YtjapbjmeoaagmaaGreatDoorEPrintIsShelf
import Derived.Test.YtjapbjmeoaagmaaGreatDoorEPrintIsConv
import Derived.Test.YtjapbjmeoaagmaaGreatDoorEPrintIsEsc
import Derived.Shelf.Strings.SlTrimAscii
import Derived.IntWalk
import Derived.Test.YtjapbjmeoaagmaaGreatDoorEPrintIsSh
set_option linter.unusedVariables false
set_option linter.unusedSimpArgs false
set_option maxRecDepth 100000
namespace Go.Proofs.YtjapbjmeoaagmaaGreatDoor
open Go.RowKit Go.Mem Orange
abbrev str (l : List UInt8) : Value := .string ⟨l.toArray⟩
abbrev Num.val (d : Num) : Value := .agg #[.bool d.neg, .string ⟨d.digits.toArray⟩, .int .i64 d.exp]
def figs : List UInt8 := [48, 49, 50, 51, 52, 53, 54, 55, 56, 57]
theorem figs_dig : (fun b => figs.contains b) = isDig := by
 funext b
 have h := u8f (p := fun n => figs.contains (UInt8.ofNat n) == isDig (UInt8.ofNat n)) (by decide +kernel) b; rw [UInt8.ofNat_toNat, beq_iff_eq] at h; exact h
theorem figs0 : (fun b => ([48] : List UInt8).contains b) = (· == 48) := by
 funext b; simp [List.contains, List.elem]; cases (b == 48) <;> rfl
theorem info116 : (Tryz.prog.info? (Tryz.lays161_ren.t 116)).map (fun i => (i.zero, i.size)) = some (some (.agg (Array.replicate 256 (.bool false))), 256) := by kernel_rfl
theorem trimLeft_dig (l : List UInt8) (w : World) :
 Calls Tryz.prog 216 #[.string ⟨l.toArray⟩, .string ⟨#[48, 49, 50, 51, 52, 53, 54, 55, 56, 57]⟩] w fun e w' => e = .returned (.string ⟨(l.dropWhile isDig).toArray⟩) ∧ Ext w w' := by
 have := Any.strings_TrimLeft_laid Tryz.lays161 info116 ⟨l.toArray⟩ ⟨#[48, 49, 50, 51, 52, 53, 54, 55, 56, 57]⟩ w (by decide) (ascii_of_all (by decide)); refine this.mono ?_; rintro e w' ⟨rfl, h⟩; refine ⟨?_, h⟩; have e : Lib.trimLeftS l figs = l.dropWhile isDig := by rw [← figs_dig]; rfl
 rw [← e]; try rfl
theorem trimLeft_0 (l : List UInt8) (w : World) :
 Calls Tryz.prog 216 #[.string ⟨l.toArray⟩, .string ⟨#[48]⟩] w fun e w' => e = .returned (.string ⟨(trimL0 l).toArray⟩) ∧ Ext w w' := by
 have := Any.strings_TrimLeft_laid Tryz.lays161 info116 ⟨l.toArray⟩ ⟨#[48]⟩ w (by decide) (ascii_of_all (by decide)); refine this.mono ?_; rintro e w' ⟨rfl, h⟩; refine ⟨?_, h⟩; have e : Lib.trimLeftS l [48] = trimL0 l := by unfold trimL0; rw [← figs0]; rfl
 rw [← e]; try rfl
theorem info116b : (Tryz.prog.info? (Tryz.lays162_ren.t 116)).map (fun i => (i.zero, i.size)) = some (some (.agg (Array.replicate 256 (.bool false))), 256) := by kernel_rfl
theorem trimRight_0 (l : List UInt8) (w : World) (hl : l.length ≤ 9223372036854775807) :
 Calls Tryz.prog 217 #[.string ⟨l.toArray⟩, .string ⟨#[48]⟩] w fun e w' => e = .returned (.string ⟨(trimR0 l).toArray⟩) ∧ Ext w w' := by
 have := Any.strings_TrimRight_laid Tryz.lays162 info116b ⟨l.toArray⟩ ⟨#[48]⟩ w (by show l.toArray.size ≤ _; simpa using hl) (by decide) (ascii_of_all (by decide)); refine this.mono ?_; rintro e w' ⟨rfl, h⟩; refine ⟨?_, h⟩; have e : Lib.trimRightS l [48] = trimR0 l := by unfold trimR0; rw [← figs0]; rfl
 rw [← e]; try rfl
theorem info116c : (Tryz.prog.info? (Tryz.lays160_ren.t 116)).map (fun i => (i.zero, i.size)) = some (some (.agg (Array.replicate 256 (.bool false))), 256) := by kernel_rfl
theorem dropWhile_nil {p : UInt8 → Bool} : ∀ {l : List UInt8}, l.dropWhile p = [] ↔ ∀ x ∈ l, p x = true
 | [] => by simp
 | x :: t => by
   rw [List.dropWhile_cons]; cases h : p x
   · simp [h]
   · simp [h, dropWhile_nil]
theorem trim_empty (l : List UInt8) : (Lib.trimS l figs).isEmpty = l.all isDig := by
 have hf : (fun b => figs.contains b) = isDig := figs_dig; have h1 : Lib.trimRightS l figs = (l.reverse.dropWhile isDig).reverse := by rw [← hf]; rfl
 have h2 : Lib.trimS l figs = ((l.reverse.dropWhile isDig).reverse).dropWhile isDig := by rw [← h1, ← hf]; rfl
 rw [h2, Bool.eq_iff_iff]; simp only [List.isEmpty_iff, List.all_eq_true, dropWhile_nil, List.mem_reverse]; constructor
 · intro h; cases hd : l.reverse.dropWhile isDig with
   | nil =>
     intro x hx; exact dropWhile_nil.1 hd x (List.mem_reverse.2 hx)
   | cons y t =>
     have hy : isDig y = true := h y (by rw [hd]; simp); have := List.head?_dropWhile_not isDig l.reverse; rw [hd] at this; simp only [List.head?_cons] at this; rw [hy] at this; cases this
 · intro h x hx; have := (List.dropWhile_sublist (p := isDig) (l := l.reverse)).subset hx; exact h x (List.mem_reverse.1 this)
theorem trim_dig (l : List UInt8) (w : World) (hl : l.length ≤ 9223372036854775807) :
 Calls Tryz.prog 137 #[.string ⟨l.toArray⟩, .string ⟨#[48, 49, 50, 51, 52, 53, 54, 55, 56, 57]⟩] w fun e w' => (∃ r : List UInt8, e = .returned (.string ⟨r.toArray⟩) ∧ r.isEmpty = l.all isDig) ∧ Ext w w' := by
 have := Any.strings_Trim_laid Tryz.lays160 info116c ⟨l.toArray⟩ ⟨#[48, 49, 50, 51, 52, 53, 54, 55, 56, 57]⟩ w (by show l.toArray.size ≤ _; simpa using hl) (by decide) (ascii_of_all (by decide)); refine this.mono ?_; rintro e w' ⟨rfl, h⟩; exact ⟨⟨Lib.trimS l figs, rfl, trim_empty l⟩, h⟩
theorem cutPrefix_1 (l : List UInt8) (c : UInt8) (w : World) :
 Calls Tryz.prog 191 #[.string ⟨l.toArray⟩, .string ⟨#[c]⟩] w fun e w' => e = .returned (.tuple #[.string ⟨(if l.head? = some c then l.drop 1 else l).toArray⟩, .bool (decide (l.head? = some c))]) ∧ w = w' := by
 refine (Tryz.strings_CutPrefix ⟨l.toArray⟩ ⟨#[c]⟩ w).mono ?_; rintro e w' ⟨rfl, rfl⟩; refine ⟨?_, rfl⟩; have e : Lib.hasPrefix l [c] = decide (l.head? = some c) := by
  cases l with
  | nil => rfl
  | cons x t => simp [Lib.hasPrefix, List.isPrefixOf, eq_comm, Bool.beq_eq_decide_eq]
 have e2 : Lib.trimPrefix l [c] = if l.head? = some c then l.drop 1 else l := by
  unfold Lib.trimPrefix; rw [e]; by_cases h : l.head? = some c <;> simp [h]
 rw [← e, ← e2]; try rfl
theorem hasPrefix_1 (l : List UInt8) (c : UInt8) (w : World) :
 Calls Tryz.prog 212 #[.string ⟨l.toArray⟩, .string ⟨#[c]⟩] w fun e w' => e = .returned (.bool (decide (l.head? = some c))) ∧ w = w' := by
 refine (Tryz.strings_HasPrefix ⟨l.toArray⟩ ⟨#[c]⟩ w).mono ?_; rintro e w' ⟨rfl, rfl⟩; refine ⟨?_, rfl⟩; have e : Lib.hasPrefix l [c] = decide (l.head? = some c) := by
  cases l with
  | nil => rfl
  | cons x t => simp [Lib.hasPrefix, List.isPrefixOf, eq_comm, Bool.beq_eq_decide_eq]
 rw [← e]; try rfl
theorem take_dig (l : List UInt8) : ByteArray.extract ⟨l.toArray⟩ 0 (l.length - (l.dropWhile isDig).length) = ⟨(l.takeWhile isDig).toArray⟩ := by
 have h : l.takeWhile isDig ++ l.dropWhile isDig = l := List.takeWhile_append_dropWhile; have h2 := congrArg List.length h; rw [List.length_append] at h2; have e : l.length - (l.dropWhile isDig).length = (l.takeWhile isDig).length := by omega
 rw [e]; apply ByteArray.ext
 apply Array.toList_inj.1
 simp only [ByteArray.data_extract, Array.toList_extract, List.extract_eq_take_drop, List.drop_zero, Nat.sub_zero]; have h3 : (l.takeWhile isDig ++ l.dropWhile isDig).take (l.takeWhile isDig).length = l.takeWhile isDig := List.take_left; rw [h] at h3; exact h3
theorem drop_le (l : List UInt8) : (l.dropWhile isDig).length ≤ l.length := (List.dropWhile_sublist (p := isDig) (l := l)).length_le
set_option maxHeartbeats 400000 in
theorem lead_any (l : List UInt8) (w : World) (hl : l.length ≤ 1000000) :
 Calls Tryz.prog 192 #[.string ⟨l.toArray⟩] w fun e w' => e = .returned (.tuple #[.string ⟨(l.takeWhile isDig).toArray⟩, .string ⟨(l.dropWhile isDig).toArray⟩]) ∧ Ext w w' := by
 have hle := drop_le l; have htk := take_dig l; go_enter Tryz.func192, Tryz.ntmps192
 go_wp2_with fail; refine (trimLeft_dig l w).mono ?_; rintro e w1 ⟨rfl, hw1⟩; go_wp2_with fail; go_ret2; exact ⟨rfl, hw1⟩
theorem isE_or (c : UInt8) : (bits .or .u8 (c.toNat : Int) 32 != 101) = !isE c := by
 have h1 := u8f (p := fun n => (bits .or .u8 ((UInt8.ofNat n).toNat : Int) 32 != 101) == !isE (UInt8.ofNat n)) (by decide +kernel) c; rw [UInt8.ofNat_toNat, beq_iff_eq] at h1; exact h1
theorem get0 (c : UInt8) (t : List UInt8) : (ByteArray.mk (c :: t).toArray)[0]'(by show 0 < (c :: t).toArray.size; simp) = c := rfl
theorem drop1 (c : UInt8) (t : List UInt8) (n : Nat) (h : n = t.length + 1) : ByteArray.extract ⟨(c :: t).toArray⟩ 1 n = ⟨t.toArray⟩ := by
 subst h; apply ByteArray.ext
 apply Array.toList_inj.1
 simp [ByteArray.data_extract, Array.toList_extract, List.extract_eq_take_drop]
theorem small_bd : ∀ (l : List UInt8) (n : Int), (∀ c ∈ l, isDig c = true) → 0 ≤ n → n ≤ 1000000 → 0 ≤ small l n ∧ small l n ≤ 1000000
 | [], n, _, h0, h1 => ⟨h0, h1⟩
 | c :: t, n, h, h0, h1 => by
   have hc := (isDig_iff c).1 (h c (List.mem_cons_self ..)); rw [small]; refine small_bd t _ (fun x hx => h x (List.mem_cons_of_mem _ hx)) ?_ ?_ <;> unfold dig <;> omega
theorem small_at (l : List UInt8) (k : Nat) (n : Int) (h : k < l.length) : small (l.drop k) n = small (l.drop (k + 1)) (min (n * 10 + ((l[k].toNat : Int) - 48)) 1000000) := by
 rw [List.drop_eq_getElem_cons h, small]; rfl
theorem take_all (l : List UInt8) : ∀ c ∈ l.takeWhile isDig, isDig c = true := fun c h => by
 induction l with
 | nil => simp at h
 | cons x t ih =>
   rw [List.takeWhile_cons] at h; split at h
   · rename_i hx
     rcases List.mem_cons.1 h with rfl | h
     · exact hx
     · exact ih h
   · simp at h
set_option maxHeartbeats 1600000 in
theorem exponent_any (l : List UInt8) (w : World) (hl : l.length ≤ 1000000) :
 Calls Tryz.prog 193 #[.string ⟨l.toArray⟩] w fun e w' => e = .returned (.tuple #[.int .i64 (expP l).1, .string ⟨(expP l).2.1.toArray⟩, .bool (expP l).2.2]) ∧ Ext w w' := by
 cases l with
 | nil =>
   go_enter Tryz.func193, Tryz.ntmps193
   go_wp2_with fail; exact bodyPost_ret (v := .tuple #[.int .i64 0, .string ⟨#[]⟩, .bool true]) (by simp [results, Tryz.results193, go_sem]) rfl ⟨rfl, ext_refl w⟩
 | cons c t =>
   have h0 := get0 c t; have hd := drop1 c t (t.length + 1) rfl; by_cases he : isE c = true
   · have hP : expP (c :: t) = (if t.head? = some 45 then - small ((if t.head? = some 45 ∨ t.head? = some 43 then t.drop 1 else t).takeWhile isDig) 0 else small ((if t.head? = some 45 ∨ t.head? = some 43 then t.drop 1 else t).takeWhile isDig) 0, (if t.head? = some 45 ∨ t.head? = some 43 then t.drop 1 else t).dropWhile isDig, !((if t.head? = some 45 ∨ t.head? = some 43 then t.drop 1 else t).takeWhile isDig).isEmpty) := by
      simp only [expP, he, if_true]
     have hq : (bits .or .u8 (c.toNat : Int) 32 != 101) = false := by rw [isE_or, he]; rfl
     have HP := Hd hP; clear hP; go_enter Tryz.func193, Tryz.ntmps193
     go_wp2_with fail; refine (hasPrefix_1 t 45 w).mono ?_; rintro e w1 ⟨rfl, rfl⟩; by_cases hm : t.head? = some 45
     · obtain ⟨u, rfl⟩ : ∃ u, t = 45 :: u := by cases t with | nil => simp at hm | cons x u => exact ⟨u, by simp at hm; rw [hm]⟩
       have hP : expP (c :: 45 :: u) = (- small (u.takeWhile isDig) 0, u.dropWhile isDig, !(u.takeWhile isDig).isEmpty) := by rw [HP.out]; simp
       clear HP hm; have HP := Hd hP; clear hP; have hd2 := drop1 45 u (u.length + 1) rfl; have HD := Hd hd; go_wp2_with fail; refine (lead_any u _ (by simp at hl; omega)).mono ?_; rintro e w2 ⟨rfl, hw2⟩; have hall := take_all u; have hle := (List.takeWhile_sublist (p := isDig) (l := u)).length_le; obtain ⟨ds, hds⟩ := Ex ((u).takeWhile isDig); obtain ⟨rs, hrs⟩ := Ex ((u).dropWhile isDig)
       rw [hds] at hall hle; rw [hds, hrs]; have HDS := Hd hds; have HRS := Hd hrs; clear hds hrs; have hdl : ds.length ≤ 1000000 := by simp at hl; omega
       have HALL := Hd hall; clear hall hle hq h0 hd; have hsz : (ByteArray.mk ds.toArray).size ≤ 140737488355328 := by show ds.toArray.size ≤ _; simp; omega
       go_wp2_with (refine wpList_bytes_of_string _ rfl 9 56 5 _ rfl ⟨ds.toArray⟩ rfl Tryz.underlying9 Tryz.underlying56 Tryz.underlying5 hsz ?_; intro cap w3 hE3 hcap hcm hsz3 hat)
       have HAT : Hid (BytesAt w3 (some ⟨w2.heap.size, 0, none⟩) ds) := Hd hat; clear hat hsz hsz3; go_loop [8, 39] (fun nv kv => ∃ (k : Nat) (n : Int), k ≤ ds.length ∧ kv = .int .i64 k ∧ nv = .int .i64 n ∧ 0 ≤ n ∧ n ≤ 1000000 ∧ small ds 0 = small (ds.drop k) n) (fun _ kv => ds.length - (intOf kv).toNat)
       case atStart => exact ⟨0, 0, by omega, rfl, rfl, by omega, by omega, rfl⟩
       case round =>
        obtain ⟨k, n, hk, rfl, rfl, hn0, hn1, hr⟩ := hrel; have HR := Hd hr; clear hr; by_cases hlt : k < ds.length
        · obtain ⟨b', o', e', _, hcell⟩ := HAT.out (by omega); simp only [Option.some.injEq, Addr.mk.injEq, and_true] at e'; obtain ⟨rfl, rfl⟩ := e'; have hck := hcell k hlt; rw [Nat.zero_add] at hck; have hdk := (isDig_iff ds[k]).1 (HALL.out _ (List.getElem_mem hlt)); have hst := small_at ds k n hlt; have hd1 := hdk.1; have hd2 := hdk.2; generalize ds[k] = x at hck hd1 hd2 hst; have HST := Hd hst
          clear hst hcell hdk; go_wp2_with fail; go_round
          case rel => exact ⟨k + 1, min (n * 10 + ((x.toNat : Int) - 48)) 1000000, by omega, by go_num, by first | rfl | (congr 1; omega), by omega, by omega, by rw [HR.out, HST.out]⟩
          case measure => simp [intOf]; omega
        · obtain rfl : k = ds.length := by omega
          have hfin : Hid (n = small ds 0) := Hd (by rw [HR.out, List.drop_length, small]); go_wp2_with fail; rw [HP.out, HDS.out, HRS.out, ← hfin.out]; exact bodyPost_ret (v := .tuple #[.int .i64 (-n), .string ⟨rs.toArray⟩, .bool (!ds.isEmpty)]) (by simp [results, Tryz.results193, go_sem]) rfl ⟨rfl, ext_trans hw2 hE3⟩
     · have hmd : decide (t.head? = some 45) = false := by simpa using hm
       rw [hmd]; go_wp2_with fail; refine (hasPrefix_1 t 43 w).mono ?_; rintro e w1 ⟨rfl, rfl⟩; by_cases hpl : t.head? = some 43
       · obtain ⟨u, rfl⟩ : ∃ u, t = 43 :: u := by cases t with | nil => simp at hpl | cons x u => exact ⟨u, by simp at hpl; rw [hpl]⟩
         have hP : expP (c :: 43 :: u) = (small (u.takeWhile isDig) 0, u.dropWhile isDig, !(u.takeWhile isDig).isEmpty) := by rw [HP.out]; simp
         clear HP hpl hm hmd; have HP := Hd hP; clear hP; have hd2 := drop1 43 u (u.length + 1) rfl; have HD := Hd hd; go_wp2_with fail; refine (lead_any u _ (by simp at hl; omega)).mono ?_; rintro e w2 ⟨rfl, hw2⟩; have hall := take_all u; have hle := (List.takeWhile_sublist (p := isDig) (l := u)).length_le; obtain ⟨ds, hds⟩ := Ex ((u).takeWhile isDig); obtain ⟨rs, hrs⟩ := Ex ((u).dropWhile isDig)
         rw [hds] at hall hle; rw [hds, hrs]; have HDS := Hd hds; have HRS := Hd hrs; clear hds hrs; have hdl : ds.length ≤ 1000000 := by simp at hl; omega
         have HALL := Hd hall; clear hall hle hq h0 hd; have hsz : (ByteArray.mk ds.toArray).size ≤ 140737488355328 := by show ds.toArray.size ≤ _; simp; omega
         go_wp2_with (refine wpList_bytes_of_string _ rfl 9 56 5 _ rfl ⟨ds.toArray⟩ rfl Tryz.underlying9 Tryz.underlying56 Tryz.underlying5 hsz ?_; intro cap w3 hE3 hcap hcm hsz3 hat)
         have HAT : Hid (BytesAt w3 (some ⟨w2.heap.size, 0, none⟩) ds) := Hd hat; clear hat hsz hsz3; go_loop [8, 39] (fun nv kv => ∃ (k : Nat) (n : Int), k ≤ ds.length ∧ kv = .int .i64 k ∧ nv = .int .i64 n ∧ 0 ≤ n ∧ n ≤ 1000000 ∧ small ds 0 = small (ds.drop k) n) (fun _ kv => ds.length - (intOf kv).toNat)
         case atStart => exact ⟨0, 0, by omega, rfl, rfl, by omega, by omega, rfl⟩
         case round =>
          obtain ⟨k, n, hk, rfl, rfl, hn0, hn1, hr⟩ := hrel; have HR := Hd hr; clear hr; by_cases hlt : k < ds.length
          · obtain ⟨b', o', e', _, hcell⟩ := HAT.out (by omega); simp only [Option.some.injEq, Addr.mk.injEq, and_true] at e'; obtain ⟨rfl, rfl⟩ := e'; have hck := hcell k hlt; rw [Nat.zero_add] at hck; have hdk := (isDig_iff ds[k]).1 (HALL.out _ (List.getElem_mem hlt)); have hst := small_at ds k n hlt; have hd1 := hdk.1; have hd2 := hdk.2; generalize ds[k] = x at hck hd1 hd2 hst; have HST := Hd hst
            clear hst hcell hdk; go_wp2_with fail; go_round
            case rel => exact ⟨k + 1, min (n * 10 + ((x.toNat : Int) - 48)) 1000000, by omega, by go_num, by first | rfl | (congr 1; omega), by omega, by omega, by rw [HR.out, HST.out]⟩
            case measure => simp [intOf]; omega
          · obtain rfl : k = ds.length := by omega
            have hfin : Hid (n = small ds 0) := Hd (by rw [HR.out, List.drop_length, small]); go_wp2_with fail; rw [HP.out, HDS.out, HRS.out, ← hfin.out]; exact bodyPost_ret (v := .tuple #[.int .i64 (n), .string ⟨rs.toArray⟩, .bool (!ds.isEmpty)]) (by simp [results, Tryz.results193, go_sem]) rfl ⟨rfl, ext_trans hw2 hE3⟩
       · have hpd : decide (t.head? = some 43) = false := by simpa using hpl
         rw [hpd]; have hP : expP (c :: t) = (small (t.takeWhile isDig) 0, t.dropWhile isDig, !(t.takeWhile isDig).isEmpty) := by rw [HP.out]; simp [hm, hpl]
         clear HP hpl hm hmd hpd; have HP := Hd hP; clear hP; have HD := Hd hd; go_wp2_with fail; refine (lead_any t _ (by simp at hl; omega)).mono ?_; rintro e w2 ⟨rfl, hw2⟩; have hall := take_all t; have hle := (List.takeWhile_sublist (p := isDig) (l := t)).length_le; obtain ⟨ds, hds⟩ := Ex ((t).takeWhile isDig); obtain ⟨rs, hrs⟩ := Ex ((t).dropWhile isDig); rw [hds] at hall hle; rw [hds, hrs]
         have HDS := Hd hds; have HRS := Hd hrs; clear hds hrs; have hdl : ds.length ≤ 1000000 := by simp at hl; omega
         have HALL := Hd hall; clear hall hle hq h0 hd; have hsz : (ByteArray.mk ds.toArray).size ≤ 140737488355328 := by show ds.toArray.size ≤ _; simp; omega
         go_wp2_with (refine wpList_bytes_of_string _ rfl 9 56 5 _ rfl ⟨ds.toArray⟩ rfl Tryz.underlying9 Tryz.underlying56 Tryz.underlying5 hsz ?_; intro cap w3 hE3 hcap hcm hsz3 hat)
         have HAT : Hid (BytesAt w3 (some ⟨w2.heap.size, 0, none⟩) ds) := Hd hat; clear hat hsz hsz3; go_loop [8, 39] (fun nv kv => ∃ (k : Nat) (n : Int), k ≤ ds.length ∧ kv = .int .i64 k ∧ nv = .int .i64 n ∧ 0 ≤ n ∧ n ≤ 1000000 ∧ small ds 0 = small (ds.drop k) n) (fun _ kv => ds.length - (intOf kv).toNat)
         case atStart => exact ⟨0, 0, by omega, rfl, rfl, by omega, by omega, rfl⟩
         case round =>
          obtain ⟨k, n, hk, rfl, rfl, hn0, hn1, hr⟩ := hrel; have HR := Hd hr; clear hr; by_cases hlt : k < ds.length
          · obtain ⟨b', o', e', _, hcell⟩ := HAT.out (by omega); simp only [Option.some.injEq, Addr.mk.injEq, and_true] at e'; obtain ⟨rfl, rfl⟩ := e'; have hck := hcell k hlt; rw [Nat.zero_add] at hck; have hdk := (isDig_iff ds[k]).1 (HALL.out _ (List.getElem_mem hlt)); have hst := small_at ds k n hlt; have hd1 := hdk.1; have hd2 := hdk.2; generalize ds[k] = x at hck hd1 hd2 hst; have HST := Hd hst
            clear hst hcell hdk; go_wp2_with fail; go_round
            case rel => exact ⟨k + 1, min (n * 10 + ((x.toNat : Int) - 48)) 1000000, by omega, by go_num, by first | rfl | (congr 1; omega), by omega, by omega, by rw [HR.out, HST.out]⟩
            case measure => simp [intOf]; omega
          · obtain rfl : k = ds.length := by omega
            have hfin : Hid (n = small ds 0) := Hd (by rw [HR.out, List.drop_length, small]); go_wp2_with fail; rw [HP.out, HDS.out, HRS.out, ← hfin.out]; exact bodyPost_ret (v := .tuple #[.int .i64 (n), .string ⟨rs.toArray⟩, .bool (!ds.isEmpty)]) (by simp [results, Tryz.results193, go_sem]) rfl ⟨rfl, ext_trans hw2 hE3⟩
   · have he' : isE c = false := by simpa using he
     have hP : expP (c :: t) = (0, c :: t, true) := by simp [expP, he']
     have hq : (bits .or .u8 (c.toNat : Int) 32 != 101) = true := by rw [isE_or, he']; rfl
     have HP := Hd hP; clear hP; go_enter Tryz.func193, Tryz.ntmps193
     go_wp2_with fail; rw [HP.out]; exact bodyPost_ret (v := .tuple #[.int .i64 0, .string ⟨(c :: t).toArray⟩, .bool true]) (by simp [results, Tryz.results193, go_sem]) rfl ⟨rfl, ext_refl w⟩
end Go.Proofs.YtjapbjmeoaagmaaGreatDoor
