/- token: what digit, letter, name and number do. -/
import Derived.Test.YtglcpfnfldaimaaDoorTok
import Derived.Test.YtglcpfnfldaimaaDoorDecA
import Derived.Test.YtglcpfnfldaimaaDoorWEscA
import Derived.Test.YtglcpfnfldaimaaDoorApp
import Derived.Test.YtglcpfnfldaimaaDoorWUtfB
import Derived.Lib.OthersKept
set_option linter.unusedVariables false
set_option linter.unusedSimpArgs false
set_option maxRecDepth 100000
namespace Go.Proofs.YtglcpfnfldaimaaDoor
open Go.RowKit Go.Mem Orange

theorem letter_any (r : Int) (w : World) :
    Calls Tryd.prog 35 #[.int .i32 r] w fun e w' => e = .returned (.bool (letterR r)) ∧ w = w' := by
  by_cases h1 : 97 ≤ r
  · by_cases h2 : r ≤ 122
    · have hf : letterR r = true := by simp [letterR, h1, h2]
      go_enter Tryd.func35, Tryd.ntmps35
      go_wp2
      go_ret
      first | exact ⟨rfl, rfl⟩ | exact ⟨ret_bool hf.symm, rfl⟩
    · have hf : letterR r = decide (127 < r) := by
        simp only [letterR]; rw [Bool.eq_iff_iff]; simp; omega
      have h3 : ¬ r ≤ 90 := by omega
      have h4 : 65 ≤ r := by omega
      have h5 : (r == 95) = false := by simp; omega
      go_enter Tryd.func35, Tryd.ntmps35
      go_wp2
      go_ret
      first | exact ⟨rfl, rfl⟩ | exact ⟨ret_bool hf.symm, rfl⟩
  · have hn : ¬ 127 < r := by omega
    by_cases h3 : 65 ≤ r
    · by_cases h4 : r ≤ 90
      · have hf : letterR r = true := by simp [letterR, h3, h4]
        go_enter Tryd.func35, Tryd.ntmps35
        go_wp2
        go_ret
        first | exact ⟨rfl, rfl⟩ | exact ⟨ret_bool hf.symm, rfl⟩
      · by_cases h5 : r = 95
        · subst h5
          go_enter Tryd.func35, Tryd.ntmps35
          go_wp2
          go_ret
          exact ⟨rfl, rfl⟩
        · have hf : letterR r = false := by simp only [letterR]; rw [Bool.eq_false_iff]; simp; omega
          have h6 : (r == 95) = false := by simpa using h5
          go_enter Tryd.func35, Tryd.ntmps35
          go_wp2
          go_ret
          first | exact ⟨rfl, rfl⟩ | exact ⟨ret_bool hf.symm, rfl⟩
    · have hf : letterR r = false := by simp only [letterR]; rw [Bool.eq_false_iff]; simp; omega
      have h6 : (r == 95) = false := by simp; omega
      go_enter Tryd.func35, Tryd.ntmps35
      go_wp2
      go_ret
      first | exact ⟨rfl, rfl⟩ | exact ⟨ret_bool hf.symm, rfl⟩
theorem figs_idx (c : UInt8) : decide (0 ≤ Lib.indexByte figs c) = isDig c := by
  have h := u8f (p := fun n => decide (0 ≤ Lib.indexByte figs (UInt8.ofNat n)) == isDig (UInt8.ofNat n)) (by decide +kernel) c
  rw [UInt8.ofNat_toNat, beq_iff_eq] at h
  exact h
theorem digit_any (c : UInt8) (w : World) :
    Calls Tryd.prog 42 #[.int .u8 c.toNat] w fun e w' => e = .returned (.bool (isDig c)) ∧ w = w' := by
  go_enter Tryd.func42, Tryd.ntmps42
  go_wp2_with fail
  refine (idx_eq _ c _ w rfl).mono ?_
  rintro e w1 ⟨rfl, rfl⟩
  have h := figs_idx c
  have e : (ByteArray.mk #[48, 49, 50, 51, 52, 53, 54, 55, 56, 57]).data.toList = figs := rfl
  rw [e]
  generalize Lib.indexByte figs c = z at *
  have H := Lib.hid h
  clear h e
  go_wp2_with fail
  go_ret
  exact ⟨ret_bool (by rw [← H.out]), rfl⟩
theorem take_ext (l : List UInt8) (n : Nat) : ByteArray.extract ⟨l.toArray⟩ 0 n = ⟨(l.take n).toArray⟩ := by
  apply ByteArray.ext
  apply Array.toList_inj.1
  simp [ByteArray.data_extract, Array.toList_extract, List.extract_eq_take_drop]
theorem get_arr (l : List UInt8) (i : Nat) (h : i < l.length) : (ByteArray.mk l.toArray)[i]'(by show i < l.toArray.size; simpa using h) = l[i] := rfl

set_option maxHeartbeats 1600000 in
theorem name_any (l : List UInt8) (w : World) (hl : l.length ≤ 1000000000) :
    Calls Tryd.prog 36 #[.string ⟨l.toArray⟩] w fun e w' => e = .returned (.tuple #[.int .i64 (nameLen l), .bool (nameOk l)]) ∧ Ext w w' := by
  go_enter Tryd.func36, Tryd.ntmps36
  go_wp2_with fail
  go_loopw [4] (fun v4 wr => ∃ pos : Nat, v4 = .int .i64 l.length ∧ wr.heap[w.heap.size]? = some (.stringIter ⟨l.toArray⟩ pos) ∧ Ext w wr ∧ pos ≤ l.length ∧ ∀ i, (hi : i < l.length) → i < pos → nameB l[i] = true) (fun _ wr => l.length - wr.iterPos w.heap.size)
  case atStart =>
    refine ⟨0, rfl, ?_, (ext_refl w).alloc (Nat.le_refl _) _, by omega, fun i _ h => by omega⟩
    have := World.iter_heap w ⟨l.toArray⟩ 0
    simpa using this
  case round =>
    obtain ⟨pos, rfl, hit, hbw, hpos, hall⟩ := hrel
    have HALL := Lib.hid hall
    clear hall
    by_cases hp : pos < l.length
    · have hps : pos < (ByteArray.mk l.toArray).size := by show pos < l.toArray.size; simpa using hp
      have hnx : ∀ ty, (Instr.next (.pointer (some ⟨w.heap.size, 0, none⟩)) true ty).run Tryd.prog wr = _ := fun ty => Lib.run_next_any_at wr w.heap.size ⟨l.toArray⟩ pos ty hit hps
      have hit2 := Lib.iterAt_heap wr w.heap.size ⟨l.toArray⟩ pos (pos + (Utf8.decode ⟨l.toArray⟩ pos).2) hit
      have hbw2 := Lib.below_iterAt hbw (k := w.heap.size) (Nat.le_refl _) ⟨l.toArray⟩ (pos + (Utf8.decode ⟨l.toArray⟩ pos).2)
      by_cases ha : l[pos].toNat < 128
      · have hda : Utf8.decode ⟨l.toArray⟩ pos = (l[pos].toNat, 1) := decode_ascii ⟨l.toArray⟩ pos hps ha
        rw [hda] at hnx hit2 hbw2
        simp only at hnx hit2 hbw2
        have hnb : nameB l[pos] = (letterR l[pos].toNat || isDig l[pos]) := rfl
        have hdg : isDig l[pos] = (decide (48 ≤ l[pos].toNat) && decide (l[pos].toNat ≤ 57)) := rfl
        have HSTEP : Hid (nameB l[pos] = true → ∀ i, (hi : i < l.length) → i < pos + 1 → nameB l[i] = true) := Lib.hid (fun h i hi hi2 => by
          by_cases e : i = pos
          · subst e; exact h
          · exact HALL.out i hi (by omega))
        have HSTOP : Hid (nameB l[pos] = false → nameLen l = pos) := Lib.hid (fun h => nameLen_at l pos hp HALL.out h)
        generalize l[pos] = c at *
        have HNB := Lib.hid hnb
        have HDG := Lib.hid hdg
        clear hnb hdg hda
        go_wp2_with fail
        refine (letter_any _ _).mono ?_
        rintro e w2 ⟨rfl, rfl⟩
        have hmes : (wr.iterAt w.heap.size ⟨l.toArray⟩ (pos + 1)).iterPos w.heap.size = pos + 1 := by simp only [World.iterPos, hit2]
        have hmes0 : wr.iterPos w.heap.size = pos := by simp only [World.iterPos, hit]
        have HM := Lib.hid hmes
        have HM0 := Lib.hid hmes0
        clear hmes hmes0
        cases hlt : letterR (c.toNat : Int) with
        | true =>
          go_wp2_with fail
          go_roundw
          case rel => exact ⟨pos + 1, rfl, hit2, hbw2, by omega, HSTEP.out (by rw [HNB.out, hlt]; rfl)⟩
          case measure => rw [HM.out, HM0.out]; omega
        | false =>
          by_cases hd1 : 48 ≤ c.toNat
          · by_cases hd2 : c.toNat ≤ 57
            · have q1 : decide ((c.toNat : Int) < 48) = false := by simp; omega
              have q2 : decide (57 < (c.toNat : Int)) = false := by simp; omega
              go_wp2_with fail
              go_roundw
              case rel => exact ⟨pos + 1, rfl, hit2, hbw2, by omega, HSTEP.out (by rw [HNB.out, HDG.out]; simp [hd1, hd2])⟩
              case measure => rw [HM.out, HM0.out]; omega
            · have HN : Hid (nameLen l = pos) := Lib.hid (HSTOP.out (by rw [HNB.out, HDG.out, hlt]; simp; omega))
              have q1 : decide ((c.toNat : Int) < 48) = false := by simp; omega
              have q2 : decide (57 < (c.toNat : Int)) = true := by simp; omega
              have hxk : ByteArray.extract ⟨l.toArray⟩ 0 (pos) = ⟨(l.take (pos)).toArray⟩ := by have := take_ext l (pos); simpa using this
              have hml : min (pos) l.length = pos := by omega
              have hsz : (ByteArray.mk (l.take (pos)).toArray).size ≤ 140737488355328 := by show (l.take (pos)).toArray.size ≤ _; simp; omega
              have hzz : (ByteArray.mk (l.take (pos)).toArray).size = pos := by show (l.take (pos)).toArray.size = _; simp; try omega
              have hln : ((l.take (pos))).length = pos := by simp; try omega
              have HZZ := Lib.hid hzz
              have HLN := Lib.hid hln
              clear hzz hln
              go_wp2_with (refine wpList_bytes_of_string _ rfl 9 47 5 _ rfl ⟨(l.take (pos)).toArray⟩ rfl Tryd.underlying9 Tryd.underlying47 Tryd.underlying5 hsz ?_; intro cap3 w3 hE3 hcap3 hcm3 hsz3 hat3; rw [HZZ.out] at hcap3)
              refine (check_any _ (l.take (pos)) _ (Bytes.mk hat3 (by first | rfl | exact HLN.out.symm) (by simpa using hcap3) hcm3 (by omega))).mono ?_
              rintro e w4 ⟨rfl, hw4⟩
              go_wp2_with fail
              go_ret2
              refine ⟨?_, ext_trans hbw2 (ext_trans hE3 hw4)⟩
              rw [HN.out]; unfold nameOk; rw [HN.out]; try (first | rfl | (rw [List.take_length]; rfl))
          · have HN : Hid (nameLen l = pos) := Lib.hid (HSTOP.out (by rw [HNB.out, HDG.out, hlt]; simp; omega))
            have q1 : decide ((c.toNat : Int) < 48) = true := by simp; omega
            have hxk : ByteArray.extract ⟨l.toArray⟩ 0 (pos) = ⟨(l.take (pos)).toArray⟩ := by have := take_ext l (pos); simpa using this
            have hml : min (pos) l.length = pos := by omega
            have hsz : (ByteArray.mk (l.take (pos)).toArray).size ≤ 140737488355328 := by show (l.take (pos)).toArray.size ≤ _; simp; omega
            have hzz : (ByteArray.mk (l.take (pos)).toArray).size = pos := by show (l.take (pos)).toArray.size = _; simp; try omega
            have hln : ((l.take (pos))).length = pos := by simp; try omega
            have HZZ := Lib.hid hzz
            have HLN := Lib.hid hln
            clear hzz hln
            go_wp2_with (refine wpList_bytes_of_string _ rfl 9 47 5 _ rfl ⟨(l.take (pos)).toArray⟩ rfl Tryd.underlying9 Tryd.underlying47 Tryd.underlying5 hsz ?_; intro cap3 w3 hE3 hcap3 hcm3 hsz3 hat3; rw [HZZ.out] at hcap3)
            refine (check_any _ (l.take (pos)) _ (Bytes.mk hat3 (by first | rfl | exact HLN.out.symm) (by simpa using hcap3) hcm3 (by omega))).mono ?_
            rintro e w4 ⟨rfl, hw4⟩
            go_wp2_with fail
            go_ret2
            refine ⟨?_, ext_trans hbw2 (ext_trans hE3 hw4)⟩
            rw [HN.out]; unfold nameOk; rw [HN.out]; try (first | rfl | (rw [List.take_length]; rfl))
      · have hh := decode_high ⟨l.toArray⟩ pos hps (by show 128 ≤ l[pos].toNat; omega)
        have hle := decode_le ⟨l.toArray⟩ pos
        have hsp := fun k hk => decode_span ⟨l.toArray⟩ pos hps (by show 128 ≤ l[pos].toNat; omega) k hk
        obtain ⟨⟨r, k⟩, hD⟩ : ∃ D, Utf8.decode ⟨l.toArray⟩ pos = D := ⟨_, rfl⟩
        rw [hD] at hnx hit2 hbw2 hh hle hsp
        simp only at hnx hit2 hbw2 hh hle hsp
        obtain ⟨hr, hk1⟩ := hh
        have hkl : pos + k ≤ l.length := by
          have := (hsp (k - 1) (by omega)).1
          have e : (ByteArray.mk l.toArray).size = l.length := by show l.toArray.size = _; simp
          omega
        have HSTEP : Hid (∀ i, (hi : i < l.length) → i < pos + k → nameB l[i] = true) := Lib.hid (fun i hi hi2 => by
          by_cases e : i < pos
          · exact HALL.out i hi e
          · have := (hsp (i - pos) (by omega)).2
            rw [show pos + (i - pos) = i by omega, get_list l i hi] at this
            exact nameB_high _ this)
        have hlt : letterR (r : Int) = true := by
          have : decide (127 < (r : Int)) = true := by simp; omega
          simp only [letterR]; rw [this]; simp
        have hmes : (wr.iterAt w.heap.size ⟨l.toArray⟩ (pos + k)).iterPos w.heap.size = pos + k := by simp only [World.iterPos, hit2]
        have hmes0 : wr.iterPos w.heap.size = pos := by simp only [World.iterPos, hit]
        have HM := Lib.hid hmes
        have HM0 := Lib.hid hmes0
        clear hmes hmes0 hsp hD
        go_wp2_with fail
        refine (letter_any _ _).mono ?_
        rintro e w2 ⟨rfl, rfl⟩
        rw [hlt]
        go_wp2_with fail
        go_roundw
        case rel => exact ⟨pos + k, rfl, hit2, hbw2, hkl, HSTEP.out⟩
        case measure => rw [HM.out, HM0.out]; omega
    · have hps : ¬ pos < (ByteArray.mk l.toArray).size := by show ¬ pos < l.toArray.size; simpa using hp
      have hnx : ∀ ty, (Instr.next (.pointer (some ⟨w.heap.size, 0, none⟩)) true ty).run Tryd.prog wr = _ := fun ty => Lib.run_next_end_at wr w.heap.size ⟨l.toArray⟩ pos ty hit hps
      have HN : Hid (nameLen l = l.length) := Lib.hid (Nat.le_antisymm (nameLen_le l) (nameLen_ge l _ (Nat.le_refl _) (fun i hi _ => HALL.out i hi (by omega))))
      have hxk : ByteArray.extract ⟨l.toArray⟩ 0 (l.length) = ⟨l.toArray⟩ := by have := take_ext l (l.length); simpa using this
      have hml : min (l.length) l.length = l.length := by omega
      have hsz : (ByteArray.mk l.toArray).size ≤ 140737488355328 := by show l.toArray.size ≤ _; simp; omega
      have hzz : (ByteArray.mk l.toArray).size = l.length := by show l.toArray.size = _; simp; try omega
      have hln : (l).length = l.length := by simp; try omega
      have HZZ := Lib.hid hzz
      have HLN := Lib.hid hln
      clear hzz hln
      go_wp2_with (refine wpList_bytes_of_string _ rfl 9 47 5 _ rfl ⟨l.toArray⟩ rfl Tryd.underlying9 Tryd.underlying47 Tryd.underlying5 hsz ?_; intro cap3 w3 hE3 hcap3 hcm3 hsz3 hat3; rw [HZZ.out] at hcap3)
      refine (check_any _ l _ (Bytes.mk hat3 (by first | rfl | exact HLN.out.symm) (by simpa using hcap3) hcm3 (by omega))).mono ?_
      rintro e w4 ⟨rfl, hw4⟩
      go_wp2_with fail
      go_ret2
      refine ⟨?_, ext_trans hbw (ext_trans hE3 hw4)⟩
      rw [HN.out]; unfold nameOk; rw [HN.out]; try (first | rfl | (rw [List.take_length]; rfl))
end Go.Proofs.YtglcpfnfldaimaaDoor
