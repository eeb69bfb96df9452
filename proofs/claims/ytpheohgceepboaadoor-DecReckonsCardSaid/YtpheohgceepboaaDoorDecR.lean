/- dec: what Mul does. -/
import Derived.Test.YtpheohgceepboaaDoorDecQ
import Derived.Test.YtpheohgceepboaaDoorDecL2
set_option linter.unusedVariables false
set_option linter.unusedSimpArgs false
set_option maxRecDepth 100000
namespace Go.Proofs.YtpheohgceepboaaDoor
open Go.RowKit Go.Mem Orange

-- the end of Mul: store the number and the error. $1: NumAt of the result's block ahead; $2: Below; $3 the number; $4 the error; HF : Hid (mulP a b = ($3, $4))
theorem ext_newbox (w : World) (v : Value) (t : TypeId) : Ext w (w.alloc (.cells #[v] t)) := (ext_refl w).alloc (Nat.le_refl _) _
theorem ext_made (w : World) (n : Nat) : Ext w (w.alloc (.cells (madeCells #[.int .i64 0] n) 3)) := (ext_refl w).alloc (Nat.le_refl _) _
set_option maxHeartbeats 6400000 in
theorem mul_any (a b : Num) (w : World) (hal : a.digits.length ≤ 140737488355328) (hbl : b.digits.length ≤ 140737488355328) :
    Calls Tryd.prog 18 #[.agg #[.bool a.neg, .string ⟨a.digits.toArray⟩, .int .i64 a.exp], .agg #[.bool b.neg, .string ⟨b.digits.toArray⟩, .int .i64 b.exp]] w fun e w' => e = .returned (.tuple #[.agg #[.bool (mulP a b).1.neg, .string ⟨(mulP a b).1.digits.toArray⟩, .int .i64 (mulP a b).1.exp], .int .i64 (mulP a b).2]) ∧ Ext w w' := by
  have HP : Hid (mulP a b = if sane a = true ∧ sane b = true then toldP (normZ (zv a a.exp * zv b b.exp) (a.exp + b.exp)) else (Num.zero, 1)) := Lib.hid rfl
  have hmf : ∀ (fn : Fn) (first cap : Array Value) (w : World), (Instr.makeFunc fn first cap).run Tryd.prog w = .ok (.func fn first cap) w := fun _ _ _ _ => rfl
  obtain ⟨an, al, ax⟩ := a
  obtain ⟨bn, bl, bx⟩ := b
  simp only at hal hbl HP
  have hE := ext_refl w
  have hpA : w.heap.size ≤ w.heap.size := Nat.le_refl _
  have HA0 := NumAt.new w ⟨an, al, ax⟩
  have hx := ext_newnum w ⟨an, al, ax⟩
  simp only at HA0 hx
  replace hE := ext_trans hE hx
  have HA := Lib.hid HA0
  clear hx HA0
  generalize hwA : w.alloc (.cells #[.bool an, .string ⟨al.toArray⟩, .int .i64 ax] 25) = wA at *
  have hsA : wA.heap.size = w.heap.size + 1 := by rw [← hwA]; simp
  have HB0 := NumAt.new wA ⟨bn, bl, bx⟩
  have hx := ext_newnum wA ⟨bn, bl, bx⟩
  simp only at HB0 hx
  replace HA := Lib.hid (HA.out.ext hx)
  replace hE := ext_trans hE hx
  have HB := Lib.hid HB0
  clear hx HB0
  generalize hwB : wA.alloc (.cells #[.bool bn, .string ⟨bl.toArray⟩, .int .i64 bx] 25) = wB at *
  have hsB : wB.heap.size = w.heap.size + 2 := by rw [← hwB]; simp [hsA]
  rw [hsA] at HB
  have HR0 := NumAt.new wB ⟨false, [], 0⟩
  have hx := ext_newnum wB ⟨false, [], 0⟩
  simp only at HR0 hx
  replace HA := Lib.hid (HA.out.ext hx)
  replace HB := Lib.hid (HB.out.ext hx)
  replace hE := ext_trans hE hx
  have HR := Lib.hid HR0
  clear hx HR0
  generalize hwR : wB.alloc (.cells #[.bool false, .string ⟨#[]⟩, .int .i64 0] 25) = wR at *
  rw [hsB] at HR
  subst hwA hwB
  go_enter Tryd.func18, Tryd.ntmps18
  obtain ⟨fA0, fA1, fA2, gA0, gA1, gA2, lA⟩ := HA.out.cells
  simp only at fA0 fA1 fA2
  obtain ⟨fB0, fB1, fB2, gB0, gB1, gB2, lB⟩ := HB.out.cells
  simp only at fB0 fB1 fB2
  obtain ⟨fR0, fR1, fR2, gR0, gR1, gR2, lR⟩ := HR.out.cells
  simp only at fR0 fR1 fR2
  go_wp2_with fail
  clear fA0 fA1 fA2 gA0 gA1 gA2 lA
  clear fB0 fB1 fB2 gB0 gB1 gB2 lB
  clear fR0 fR1 fR2 gR0 gR1 gR2 lR
  clear hwR hsA hsB hpA
  refine (sane_any ⟨an, al, ax⟩ _ hal).mono ?_
  rintro e wn ⟨rfl, hw⟩
  replace HA := Lib.hid (HA.out.ext hw)
  replace HB := Lib.hid (HB.out.ext hw)
  replace HR := Lib.hid (HR.out.ext hw)
  replace hE := ext_trans hE hw
  clear hw
  cases hsa : sane ⟨an, al, ax⟩ with
  | false =>
    have HF : Hid (mulP ⟨an, al, ax⟩ ⟨bn, bl, bx⟩ = (Num.zero, 1)) := Lib.hid (by rw [HP.out, if_neg (fun h => by rw [hsa] at h; cases h.1)])
    clear hsa HP
    obtain ⟨fA0, fA1, fA2, gA0, gA1, gA2, lA⟩ := HA.out.cells
    simp only at fA0 fA1 fA2
    obtain ⟨fB0, fB1, fB2, gB0, gB1, gB2, lB⟩ := HB.out.cells
    simp only at fB0 fB1 fB2
    obtain ⟨fR0, fR1, fR2, gR0, gR1, gR2, lR⟩ := HR.out.cells
    simp only at fR0 fR1 fR2
    go_wp2_with fail
    have hN := ((HR.out).store (Num.zero)).cells
    simp only [Num.zero] at hN
    obtain ⟨r0, r1, r2, _⟩ := hN
    exact bodyPost_ret (v := .tuple #[.agg #[.bool (Num.zero).neg, .string ⟨(Num.zero).digits.toArray⟩, .int .i64 (Num.zero).exp], .int .i64 (1)]) (by simp [results, Num.zero, Tryd.results18, go_sem, r0, r1, r2]) rfl ⟨by rw [HF.out], below_store (hE) (by omega) _ _ _⟩
  | true =>
    have HSA := Lib.hid hsa
    clear hsa
    obtain ⟨fA0, fA1, fA2, gA0, gA1, gA2, lA⟩ := HA.out.cells
    simp only at fA0 fA1 fA2
    obtain ⟨fB0, fB1, fB2, gB0, gB1, gB2, lB⟩ := HB.out.cells
    simp only at fB0 fB1 fB2
    obtain ⟨fR0, fR1, fR2, gR0, gR1, gR2, lR⟩ := HR.out.cells
    simp only at fR0 fR1 fR2
    go_wp2_with fail
    clear fA0 fA1 fA2 gA0 gA1 gA2 lA
    clear fB0 fB1 fB2 gB0 gB1 gB2 lB
    clear fR0 fR1 fR2 gR0 gR1 gR2 lR
    refine (sane_any ⟨bn, bl, bx⟩ _ hbl).mono ?_
    rintro e wn ⟨rfl, hw⟩
    replace HA := Lib.hid (HA.out.ext hw)
    replace HB := Lib.hid (HB.out.ext hw)
    replace HR := Lib.hid (HR.out.ext hw)
    replace hE := ext_trans hE hw
    clear hw
    cases hsb : sane ⟨bn, bl, bx⟩ with
    | false =>
      have HF : Hid (mulP ⟨an, al, ax⟩ ⟨bn, bl, bx⟩ = (Num.zero, 1)) := Lib.hid (by rw [HP.out, if_neg (fun h => by rw [hsb] at h; cases h.2)])
      clear hsb HP
      obtain ⟨fA0, fA1, fA2, gA0, gA1, gA2, lA⟩ := HA.out.cells
      simp only at fA0 fA1 fA2
      obtain ⟨fB0, fB1, fB2, gB0, gB1, gB2, lB⟩ := HB.out.cells
      simp only at fB0 fB1 fB2
      obtain ⟨fR0, fR1, fR2, gR0, gR1, gR2, lR⟩ := HR.out.cells
      simp only at fR0 fR1 fR2
      go_wp2_with fail
      have hN := ((HR.out).store (Num.zero)).cells
      simp only [Num.zero] at hN
      obtain ⟨r0, r1, r2, _⟩ := hN
      exact bodyPost_ret (v := .tuple #[.agg #[.bool (Num.zero).neg, .string ⟨(Num.zero).digits.toArray⟩, .int .i64 (Num.zero).exp], .int .i64 (1)]) (by simp [results, Num.zero, Tryd.results18, go_sem, r0, r1, r2]) rfl ⟨by rw [HF.out], below_store (hE) (by omega) _ _ _⟩
    | true =>
      have HSB := Lib.hid hsb
      clear hsb HP
      have hla := sane_len HSA.out
      have hlb := sane_len HSB.out
      have hxa : -800 ≤ ax ∧ ax ≤ 800 := by
        rcases sane_parts HSA.out with e | e
        · simp only [Num.zero, Num.mk.injEq] at e; omega
        · exact ⟨e.2.2.2.2.2.1, e.2.2.2.2.2.2.1⟩
      have hxb : -800 ≤ bx ∧ bx ≤ 800 := by
        rcases sane_parts HSB.out with e | e
        · simp only [Num.zero, Num.mk.injEq] at e; omega
        · exact ⟨e.2.2.2.2.2.1, e.2.2.2.2.2.2.1⟩
      have HFORM := Lib.hid (mul_form HSA.out HSB.out (al.length + bl.length + 1) rfl)
      simp only at hla hlb HFORM
      obtain ⟨hxa1, hxa2⟩ := hxa
      obtain ⟨hxb1, hxb2⟩ := hxb
      obtain ⟨fA0, fA1, fA2, gA0, gA1, gA2, lA⟩ := HA.out.cells
      simp only at fA0 fA1 fA2
      obtain ⟨fB0, fB1, fB2, gB0, gB1, gB2, lB⟩ := HB.out.cells
      simp only at fB0 fB1 fB2
      obtain ⟨fR0, fR1, fR2, gR0, gR1, gR2, lR⟩ := HR.out.cells
      simp only at fR0 fR1 fR2
      go_wp2_with fail
      clear fA0 fA1 fA2 gA0 gA1 gA2 lA
      clear fB0 fB1 fB2 gB0 gB1 gB2 lB
      clear fR0 fR1 fR2 gR0 gR1 gR2 lR
      refine (column_any ⟨an, al, ax⟩ ax 0 al.length _ (sane_all HSA.out) (by simp only; omega) (by simp only; omega) (by simp only; omega) (by simp only; omega) (by omega)).mono ?_
      rintro e wn ⟨b1, rfl, hb1, hI1, hw⟩
      have HI1 := Lib.hid hI1
      have hb1w : w.heap.size ≤ b1 := Nat.le_trans hE.size hb1
      have hb1r : w.heap.size + 2 < b1 := Nat.lt_of_lt_of_le HR.out.cells.2.2.2.2.2.2 hb1
      replace HA := Lib.hid (HA.out.ext hw)
      replace HB := Lib.hid (HB.out.ext hw)
      replace HR := Lib.hid (HR.out.ext hw)
      replace hE := ext_trans hE hw
      clear hw hb1 hI1
      have hbx := Box.new wn (rowV b1 al.length) 52
      have hx := ext_newbox wn (rowV b1 al.length) 52
      have HBX := Lib.hid hbx
      have hpx : b1 < wn.heap.size := World.rowIs.lt HI1.out
      replace HA := Lib.hid (HA.out.ext hx)
      replace HB := Lib.hid (HB.out.ext hx)
      replace HR := Lib.hid (HR.out.ext hx)
      replace HI1 := Lib.hid (HI1.out.ext hx)
      replace hE := ext_trans hE hx
      clear hbx hx
      obtain ⟨fA0, fA1, fA2, gA0, gA1, gA2, lA⟩ := HA.out.cells
      simp only at fA0 fA1 fA2
      obtain ⟨fB0, fB1, fB2, gB0, gB1, gB2, lB⟩ := HB.out.cells
      simp only at fB0 fB1 fB2
      obtain ⟨fR0, fR1, fR2, gR0, gR1, gR2, lR⟩ := HR.out.cells
      simp only at fR0 fR1 fR2
      go_wp2_with fail
      clear fA0 fA1 fA2 gA0 gA1 gA2 lA
      clear fB0 fB1 fB2 gB0 gB1 gB2 lB
      clear fR0 fR1 fR2 gR0 gR1 gR2 lR
      generalize hg : wn.heap.size = px at *
      generalize hwm : wn.alloc (.cells #[rowV b1 al.length] 52) = wm at *
      clear hg hwm
      refine (column_any ⟨bn, bl, bx⟩ bx 0 bl.length _ (sane_all HSB.out) (by simp only; omega) (by simp only; omega) (by simp only; omega) (by simp only; omega) (by omega)).mono ?_
      rintro e wn ⟨b2, rfl, hb2, hI2, hw⟩
      have HI2 := Lib.hid hI2
      have hb2p : px < b2 := Nat.lt_of_lt_of_le HBX.out.lt hb2
      replace HA := Lib.hid (HA.out.ext hw)
      replace HB := Lib.hid (HB.out.ext hw)
      replace HR := Lib.hid (HR.out.ext hw)
      replace HI1 := Lib.hid (HI1.out.ext hw)
      replace HBX := Lib.hid (HBX.out.ext hw)
      replace hE := ext_trans hE hw
      clear hw hb2 hI2
      have hby := Box.new wn (rowV b2 bl.length) 52
      have hx := ext_newbox wn (rowV b2 bl.length) 52
      have hpy : b2 < wn.heap.size := World.rowIs.lt HI2.out
      replace HA := Lib.hid (HA.out.ext hx)
      replace HB := Lib.hid (HB.out.ext hx)
      replace HR := Lib.hid (HR.out.ext hx)
      replace HI1 := Lib.hid (HI1.out.ext hx)
      replace HI2 := Lib.hid (HI2.out.ext hx)
      replace HBX := Lib.hid (HBX.out.ext hx)
      replace hE := ext_trans hE hx
      clear hx
      generalize hgy : wn.heap.size = py at *
      generalize hwy : wn.alloc (.cells #[rowV b2 bl.length] 52) = wy at *
      have HBY := Lib.hid hby
      clear hby
      obtain ⟨N0, hN0⟩ : ∃ N0 : Nat, al.length + bl.length = N0 := ⟨_, rfl⟩
      have e1 : IntKind.i64.wrap ((al.length : Int) + bl.length) = (N0 : Int) := by rw [IntWalk.i64_in _ (by omega)]; omega
      have e2 : IntKind.i64.wrap ((N0 : Int) + 1) = ((N0 + 1 : Nat) : Int) := by rw [IntWalk.i64_in _ (by omega)]; omega
      obtain ⟨n, hn⟩ : ∃ n : Nat, N0 + 1 = n := ⟨_, rfl⟩
      rw [hn] at e2
      have hrow := World.rowIs_made wy (.int .i64 0) n 3
      have hx := ext_made wy n
      have hmk := run_make_row' (P := Tryd.prog) 52 3 (.int .i64 0) 8 Tryd.underlying52 infoI rfl .i64 .i64 n (by omega) (by omega) wy
      have hblp : py < wy.heap.size := HBY.out.lt
      have c1 := HBX.out.cell
      have c2 := HBY.out.cell
      simp only [rowV] at c1 c2 hwy
      obtain ⟨HA', HB', HR', HI1', HI2', HBX', HBY'⟩ := And.intro (HA.out.ext hx) (And.intro (HB.out.ext hx) (And.intro (HR.out.ext hx) (And.intro (HI1.out.ext hx) (And.intro (HI2.out.ext hx) (And.intro (HBX.out.ext hx) (HBY.out.ext hx))))))
      replace hE := ext_trans hE hx
      clear hx
      generalize hgl : wy.heap.size = bb at *
      generalize hwz : wy.alloc (.cells (madeCells #[.int .i64 0] n) 3) = wz at *
      have hL0 : Ints wz bb n (prodF (colF al 0) (colF bl 0) bl.length 0) := World.rowIs.congr hrow (fun i hi => rfl)
      have hbl0 := Box.new wz (rowV bb n) 52
      have hx := ext_newbox wz (rowV bb n) 52
      have hplp : bb < wz.heap.size := World.rowIs.lt hL0
      replace HA := Lib.hid (HA'.ext hx)
      replace HB := Lib.hid (HB'.ext hx)
      replace HR := Lib.hid (HR'.ext hx)
      replace HI1 := Lib.hid (HI1'.ext hx)
      replace HI2 := Lib.hid (HI2'.ext hx)
      replace HBX := Lib.hid (HBX'.ext hx)
      replace HBY := Lib.hid (HBY'.ext hx)
      have HL0 := Lib.hid (Ints.ext hL0 hx)
      replace hE := ext_trans hE hx
      clear HA' HB' HR' HI1' HI2' HBX' HBY' hrow hL0 hx
      generalize hgp : wz.heap.size = pl at *
      generalize hwl : wz.alloc (.cells #[rowV bb n] 52) = wl at *
      simp only [rowV] at hwl
      have HBL := Lib.hid hbl0
      clear hbl0
      go_wp2_with fail
      clear hwl hgp hwz hgl hmk c1 c2 hwy hgy e1 e2
      have hb3 : w.heap.size + 3 ≤ wl.heap.size := by have := HR.out.cells.2.2.2.2.2.2; omega
      have HNUM : Hid (MulNum (w.heap.size + 3) pl px py bb b1 b2 n al.length bl.length (colF al 0) (colF bl 0)) := Lib.hid ⟨by omega, by omega, by omega, by omega, by omega, by omega, by omega, by omega, by omega, fun i => colF_bd al (sane_all HSA.out) 0 i, fun i => colF_bd bl (sane_all HSB.out) 0 i⟩
      refine (each_any (w.heap.size + 3) wl pl px py bb b1 b2 n al.length bl.length (colF al 0) (colF bl 0) wl hb3 HNUM.out ⟨HBL.out, HBX.out, HBY.out, HL0.out, HI1.out, HI2.out, Below.refl _ _⟩).mono ?_
      rintro e wn ⟨rfl, hinv⟩
      have HINV := Lib.hid hinv
      have hbw := hinv.b
      have lr := HR.out.cells.2.2.2.2.2.2
      have carry : ∀ {p d}, NumAt wl p d → p < w.heap.size + 3 → NumAt wn p d := fun {p d} h hp => by
        have := hbw.block p hp
        unfold NumAt at h ⊢; rw [this]; exact h
      have HA2 := Lib.hid (carry HA.out (by omega))
      have HB2 := Lib.hid (carry HB.out (by omega))
      have HR2 := Lib.hid (carry HR.out (by omega))
      replace hE := hE.trans (hbw.mono (show w.heap.size ≤ w.heap.size + 3 by omega))
      clear hinv hbw carry lr HA HB HR HBL HBX HBY HL0 HI1 HI2
      obtain ⟨F, hF⟩ : ∃ F, prodF (colF al 0) (colF bl 0) bl.length al.length = F := ⟨_, rfl⟩
      have hFB : ∀ i, i < n → -1000000 ≤ F i ∧ F i ≤ 1000000 := fun i _ => by
        have := prodF_bd bl.length HNUM.out.X9 HNUM.out.Y9 al.length i
        rw [hF] at this; omega
      have hform := HFORM.out
      have hout := outL_len F n
      rw [show al.length + bl.length + 1 = n by omega] at hform
      have hL := HINV.out.L
      have hlb := HINV.out.l
      rw [hF] at hform hL
      have HL := Lib.hid hL
      have HLB := Lib.hid hlb
      have HFB := Lib.hid hFB
      obtain ⟨S, hS⟩ : ∃ S, outL F n = S := ⟨_, rfl⟩
      rw [hS] at hform hout
      have HS := Lib.hid hS
      obtain ⟨M, hM⟩ : ∃ M, mulP ⟨an, al, ax⟩ ⟨bn, bl, bx⟩ = M := ⟨_, rfl⟩
      rw [hM] at hform
      have HM := Lib.hid hM
      obtain ⟨⟨rn, rl, rx⟩, re⟩ := M
      have HFM := Lib.hid hform
      have e3 : IntKind.i64.wrap (ax + bx) = ax + bx := IntWalk.i64_in _ (by omega)
      clear hFB hL hlb hF hS hM hform HINV HFORM HNUM
      go_wp2_with fail
      refine Grow.wp_region_tail (G := Ext) (B := fun w' => Ext wn w') (anc := fun _ => []) (I := fun j => if j = 6 then some (Grow.Spec.val Ext (.string ⟨S.toArray⟩)) else if j = 12 then some (Grow.Spec.val Ext (.tuple #[.agg #[.bool rn, .string ⟨rl.toArray⟩, .int .i64 rx], .int .i64 re])) else none) 15 (by kernel_rfl) (by kernel_rfl) (by kernel_rfl) ?_ ?_ ?_
      · exact fun w w' h hg => ext_trans h hg
      · exact (ext_refl _).drew
      · simp only [List.take_succ_cons, List.take_zero, List.drop_succ_cons, List.drop_zero]
        repeat
          (refine Grow.walk_step (fun K hK => ?_)
           first
           | (refine Grow.step_read (by rfl) (by rfl) ext_refl ?_
              apply Exists.intro
              refine ⟨fun w hB hF => ?_, ?_⟩
              · obtain ⟨a0, a1, a2, af0, af1, af2, hp⟩ := (HA2.out.ext hB).cells; obtain ⟨b0, b1', b2', bf0, bf1, bf2, hq⟩ := (HB2.out.ext hB).cells; have c1 := (HLB.out.ext hB).cell; simp only [rowV] at a0 a1 a2 b0 b1' b2' c1
                go_simp
                try exact rfl
              go_simp
              refine hK _ _ ?_
              clear hK K)
           | (refine Grow.step_off (by rfl) ?_
              go_simp
              refine hK _ _ ?_
              clear hK K))
        refine Grow.walk_step (fun K hK => ?_)
        refine Grow.step_rel (by rfl) (by rfl) (fun w' hB hF => ?_) (fun v hv => ?_)
        · go_simp
          refine Grow.relUpon_enter ((carried_any bb n F w' (HL.out.ext hB) (by omega) HFB.out).mono ?_)
          rintro e w'' ⟨rfl, hw''⟩
          exact ⟨_, rfl, hw'', by rw [HS.out]; rfl, trivial⟩
        obtain rfl : v = _ := hv
        go_simp
        refine hK _ _ ?_
        clear hK K
        repeat
          (refine Grow.walk_step (fun K hK => ?_)
           first
           | (refine Grow.step_read (by rfl) (by rfl) ext_refl ?_
              apply Exists.intro
              refine ⟨fun w hB hF => ?_, ?_⟩
              · obtain ⟨a0, a1, a2, af0, af1, af2, hp⟩ := (HA2.out.ext hB).cells; obtain ⟨b0, b1', b2', bf0, bf1, bf2, hq⟩ := (HB2.out.ext hB).cells; have c1 := (HLB.out.ext hB).cell; simp only [rowV] at a0 a1 a2 b0 b1' b2' c1
                go_simp
                try exact rfl
              go_simp
              refine hK _ _ ?_
              clear hK K)
           | (refine Grow.step_off (by rfl) ?_
              go_simp
              refine hK _ _ ?_
              clear hK K))
        refine Grow.walk_step (fun K hK => ?_)
        refine Grow.step_rel (by rfl) (by rfl) (fun w' hB hF => ?_) (fun v hv => ?_)
        · go_simp
          refine Grow.relUpon_enter ((form_any (an != bn) S (ax + bx) w' (by omega) (by omega) (by omega)).mono ?_)
          rintro e w'' ⟨rfl, hw''⟩
          exact ⟨_, rfl, hw'', by rw [HFM.out]; rfl, trivial⟩
        obtain rfl : v = _ := hv
        go_simp
        refine hK _ _ ?_
        clear hK K
        repeat
          (refine Grow.walk_step (fun K hK => ?_)
           first
           | (refine Grow.step_read (by rfl) (by rfl) ext_refl ?_
              apply Exists.intro
              refine ⟨fun w hB hF => ?_, ?_⟩
              · skip
                go_simp
                try exact rfl
              go_simp
              refine hK _ _ ?_
              clear hK K)
           | (refine Grow.step_off (by rfl) ?_
              go_simp
              refine hK _ _ ?_
              clear hK K))
        refine Grow.walk_nil ?_
        intro w3 hB hF
        clear hF
        have HR3 := Lib.hid (HR2.out.ext hB)
        replace hE := ext_trans hE hB
        have HF : Hid (mulP ⟨an, al, ax⟩ ⟨bn, bl, bx⟩ = ((⟨rn, rl, rx⟩ : Num), re)) := HM
        clear HR2 HA2 HB2 HL HLB hB
        obtain ⟨fR30, fR31, fR32, gR30, gR31, gR32, lR3⟩ := HR3.out.cells
        simp only at fR30 fR31 fR32
        go_wp2_with fail
        have hN := (HR3.out.store ⟨rn, rl, rx⟩).cells
        simp only [Num.zero] at hN
        obtain ⟨r0, r1, r2, _⟩ := hN
        exact bodyPost_ret (v := .tuple #[.agg #[.bool rn, .string ⟨rl.toArray⟩, .int .i64 rx], .int .i64 re]) (by simp [results, Num.zero, Tryd.results18, go_sem, r0, r1, r2]) rfl ⟨by rw [HF.out], below_store hE (by omega) _ _ _⟩
end Go.Proofs.YtpheohgceepboaaDoor
