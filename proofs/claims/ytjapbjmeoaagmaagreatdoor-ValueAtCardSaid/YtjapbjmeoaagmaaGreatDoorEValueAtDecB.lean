/- A text of this proof. -/
import Derived.Test.YtjapbjmeoaagmaaGreatDoorEValueAtDecA
import Derived.Test.YtjapbjmeoaagmaaGreatDoorEValueAtSh
set_option linter.unusedVariables false
set_option linter.unusedSimpArgs false
set_option maxRecDepth 100000
namespace Go.Proofs.YtjapbjmeoaagmaaGreatDoor
open Go.RowKit Go.Mem Orange
set_option maxHeartbeats 400000 in
theorem height_any (d : Num) (w : World) (hl : d.digits.length ≤ 140737488355328) (he : -140737488355328 ≤ d.exp ∧ d.exp ≤ 140737488355328) :
 Calls Tryz.prog 138 #[.agg #[.bool d.neg, .string ⟨d.digits.toArray⟩, .int .i64 d.exp]] w fun e w' => e = .returned (.int .i64 (height d)) ∧ Ext w w' := by
 obtain ⟨h1, h2⟩ := he; go_enter Tryz.func138, Tryz.ntmps138
 go_wp2_with fail; go_ret; exact ⟨rfl, (ext_refl w).alloc (Nat.le_refl _) _⟩
set_option maxHeartbeats 1600000 in
theorem sane_any (d : Num) (w : World) (hl : d.digits.length ≤ 140737488355328) :
 Calls Tryz.prog 100 #[.agg #[.bool d.neg, .string ⟨d.digits.toArray⟩, .int .i64 d.exp]] w fun e w' => e = .returned (.bool (sane d)) ∧ Ext w w' := by
 obtain ⟨neg, l, x⟩ := d; cases l with
 | nil =>
   go_enter Tryz.func100, Tryz.ntmps100
   go_wp2_with fail; all_goals
    go_ret; refine ⟨ret_bool ?_, (ext_refl w).alloc (Nat.le_refl _) _⟩; simp_all [sane]
 | cons c t =>
   have hn0 : (((c :: t).length : Int) == 0) = false := by simp; omega
   have hlen : (c :: t).length = t.length + 1 := rfl; by_cases h40 : 40 < t.length + 1
   · have hs : sane ⟨neg, c :: t, x⟩ = false := by simp [sane, h40]
     go_enter Tryz.func100, Tryz.ntmps100
     go_wp2_with fail; go_ret; exact ⟨by first | rfl | exact ret_bool hs.symm, (ext_refl w).alloc (Nat.le_refl _) _⟩
   · go_enter Tryz.func100, Tryz.ntmps100
     go_wp2_with fail; have hw0 : Ext w (w.alloc (.cells #[.bool neg, .string ⟨(c :: t).toArray⟩, .int .i64 x] 23)) := (ext_refl w).alloc (Nat.le_refl _) _; have hblk : (w.alloc (.cells #[.bool neg, .string ⟨(c :: t).toArray⟩, .int .i64 x] 23)).heap[w.heap.size]? = some (.cells #[.bool neg, .string ⟨(c :: t).toArray⟩, .int .i64 x] 23 (0, 0)) := heap_alloc_new _ _
     generalize w.alloc (.cells #[.bool neg, .string ⟨(c :: t).toArray⟩, .int .i64 x] 23) = w0 at *; have hlt := (Array.getElem?_eq_some_iff.1 hblk).1; refine (trim_dig (c :: t) w0 (by simp at hl ⊢; omega)).mono ?_; rintro e w1 ⟨⟨r, rfl, hr⟩, hw1⟩; have hblk1 : w1.heap[w.heap.size]? = some (.cells #[.bool neg, .string ⟨(c :: t).toArray⟩, .int .i64 x] 23 (0, 0)) := by rw [hw1.block _ hlt]; exact hblk
     have hc0 : w1.cell? ⟨w.heap.size, 0, none⟩ = some (.bool neg) := by rw [cell_of_cells hblk1]; rfl
     have hc1 : w1.cell? ⟨w.heap.size, 1, none⟩ = some (.string ⟨(c :: t).toArray⟩) := by rw [cell_of_cells hblk1]; rfl
     have hc2 : w1.cell? ⟨w.heap.size, 2, none⟩ = some (.int .i64 x) := by rw [cell_of_cells hblk1]; rfl
     have hlt1 := (Array.getElem?_eq_some_iff.1 hblk1).1; have HBLK := Hd hblk1; have hE1 := ext_trans hw0 hw1; clear hblk hblk1 hlt hw0 hw1; by_cases hall : (c :: t).all isDig = true
     · obtain rfl : r = [] := by rw [hall] at hr; simpa using hr
       clear hr; by_cases hx1 : x < -800
       · have hs : sane ⟨neg, c :: t, x⟩ = false := by simp only [sane, hlen, hall]; rw [if_neg (by omega), if_neg (by simp; omega), if_pos (by simp [hx1])]
         go_wp2_with fail; go_ret; exact ⟨by first | rfl | exact ret_bool hs.symm, hE1⟩
       · by_cases hx2 : 800 < x
         · have hs : sane ⟨neg, c :: t, x⟩ = false := by simp only [sane, hlen, hall]; rw [if_neg (by omega), if_neg (by simp; omega), if_pos (by simp [hx2])]
           go_wp2_with fail; go_ret; exact ⟨by first | rfl | exact ret_bool hs.symm, hE1⟩
         · have hs : sane ⟨neg, c :: t, x⟩ = (decide (-400 ≤ height ⟨neg, c :: t, x⟩) && decide (height ⟨neg, c :: t, x⟩ ≤ 400) && ((c :: t).head? != some 48) && ((c :: t).getLast? != some 48)) := by
            simp only [sane, hlen, hall]; rw [if_neg (by omega), if_neg (by simp; omega), if_neg (by simp; omega)]
           have HS := Hd hs; clear hs; go_wp2_with fail; refine (height_any ⟨neg, c :: t, x⟩ w1 hl (by simp only; omega)).mono ?_; rintro e w2 ⟨rfl, hw2⟩; have hblk2 : w2.heap[w.heap.size]? = some (.cells #[.bool neg, .string ⟨(c :: t).toArray⟩, .int .i64 x] 23 (0, 0)) := by rw [hw2.block _ hlt1]; exact HBLK.out
           have hc0 : w2.cell? ⟨w.heap.size, 0, none⟩ = some (.bool neg) := by rw [cell_of_cells hblk2]; rfl
           have hc1 : w2.cell? ⟨w.heap.size, 1, none⟩ = some (.string ⟨(c :: t).toArray⟩) := by rw [cell_of_cells hblk2]; rfl
           have hE2 := ext_trans hE1 hw2; clear hblk2 hw2 hc2; have h0 := get0 c t; have hgl : (ByteArray.mk (c :: t).toArray)[t.length]'(by show t.length < (c :: t).toArray.size; simp) = (c :: t)[t.length] := rfl; have hg2 : (c :: t).getLast? = some (c :: t)[t.length] := by rw [List.getLast?_eq_getElem?]; simp
           generalize (c :: t)[t.length] = z at hgl hg2; have HG2 := Hd hg2; clear hg2; obtain ⟨h, hh⟩ := Ex (height ⟨neg, c :: t, x⟩); rw [hh]; have HH := Hd hh; clear hh; by_cases hh1 : -400 ≤ h
           · by_cases hh2 : h ≤ 400
             · by_cases hcz : c.toNat = 48
               · have hc48 : Hid (c = 48) := Hd (UInt8.toNat_inj.1 hcz); go_wp2_with fail; go_ret; exact ⟨ret_bool (by rw [HS.out, hc48.out]; simp), hE2⟩
               · have hcn : ((c.toNat : Int) != 48) = true := by simp; omega
                 have hce : Hid (c ≠ 48) := Hd (fun e => hcz (by rw [e]; rfl)); go_wp2_with fail; go_ret; refine ⟨ret_bool ?_, hE2⟩; rw [HS.out, HH.out, HG2.out]; have e1 : ((z.toNat : Int) != 48) = (some z != some 48) := by
                  rw [Bool.eq_iff_iff]; simp [← UInt8.toNat_inj]; omega
                 simp [hh1, hh2, hce.out, e1]
             · go_wp2_with fail; go_ret; exact ⟨ret_bool (by rw [HS.out, HH.out]; simp; intro a b; omega), hE2⟩
           · go_wp2_with fail; go_ret; exact ⟨ret_bool (by rw [HS.out, HH.out]; simp; intro a b; omega), hE2⟩
     · have hall' : (c :: t).all isDig = false := by simpa using hall
       rw [hall'] at hr; have hs : sane ⟨neg, c :: t, x⟩ = false := by simp only [sane, hlen, hall']; rw [if_neg (by omega), if_pos (by simp)]
       have HS := Hd hs; clear hs hall hall'; go_wp2_with fail; go_ret; exact ⟨by first | rfl | exact ret_bool HS.out.symm, hE1⟩
end Go.Proofs.YtjapbjmeoaagmaaGreatDoor
