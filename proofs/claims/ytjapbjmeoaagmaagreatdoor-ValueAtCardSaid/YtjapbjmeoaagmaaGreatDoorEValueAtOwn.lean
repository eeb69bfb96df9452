/- A text of this proof. -/
import Derived.Deep.AppendSrc
import Derived.Test.YtjapbjmeoaagmaaGreatDoorEValueAtMem
set_option linter.unusedVariables false
set_option linter.unusedSimpArgs false
set_option maxRecDepth 100000
namespace Go.Mem
open Go.RowKit
section
variable {P : Program} (w : World)
theorem run_append_src (base : Nat) (t tx ty e : TypeId) (i : TypeInfo) (z : Value) (size bytes : Nat) (ht : P.underlying t = some (.slice e)) (hi : P.info? e = some i) (hz : i.zero = some z)
 (hsize : i.size = size) (hby : i.bytes = bytes) (hzs : z.cells.size = size) (hsz : 0 < size)
 (v : Value) (n : Nat) (xs : List Value) (hown : w.ownsRow base e size v n xs)
 (x : Value) (m : Nat) (news : List Value) (hs : Src P size tx x m news w)
 (h63 : n + m ≤ maxLen) (hbytes : (n + m) * bytes ≤ 140737488355328) (hbase : base ≤ w.heap.size) :
 ∃ v' w', (Builtin.append_ #[t, tx] ty #[v, x]).run P w = .ok v' w' ∧ w'.ownsRow base e size v' (n + m) (xs ++ news) ∧ w.grownBy w' v.ownBlock := by
 subst hsize; subst hby; have hl := hs.newsLen; have hsmall : n + m ≤ 9223372036854775807 := by simp only [maxLen] at h63; omega
 have hlen : (xs ++ news).length = (n + m) * i.size := by rw [List.length_append, hown.1, hl, Nat.add_mul]
 have grown : ∀ (old : Nat), old < n + m → ∀ (row : Option Nat),
  (w.drew.alloc (.cells ((xs ++ news).toArray ++ Builtin.zeroCells z.cells (grownCap w (n + m) old e - (n + m))) e)).ownsRow base e i.size
    (.slice (some ⟨w.heap.size, 0, none⟩) (n + m) (grownCap w (n + m) old e)) (n + m) (xs ++ news) ∧
  w.grownBy (w.drew.alloc (.cells ((xs ++ news).toArray ++ Builtin.zeroCells z.cells (grownCap w (n + m) old e - (n + m))) e)) row := by
  intro old ho row; have hge := grownCap_ge w (n + m) old e; have hcm : grownCap w (n + m) old e ≤ maxLen := grownCap_le_maxLen w (n + m) old e h63; refine ⟨⟨hlen, .inr ⟨w.heap.size, _, _, rfl, hbase, heap_alloc_new w.drew _, hge, hcm, ?_, ?_⟩⟩, ⟨rfl, rfl, rfl, by simp, fun k hk _ => heap_alloc_old w.drew _ hk⟩⟩
  · simp only [Array.size_append, List.size_toArray, size_zeroCells, hzs, hlen, ← Nat.add_mul]; congr 1
    omega
  · simp only [Array.toList_append]; rw [← hlen]; exact List.take_left
 rcases hown.2 with ⟨rfl, rfl⟩ | ⟨g, cap, cur, rfl, hbg, hg, hnc, hcm, hcs, htake⟩
 · have hx : xs = [] := List.eq_nil_of_length_eq_zero (by simpa using hown.1); subst hx; by_cases hm : m = 0
   · subst hm; have hn : news = [] := List.eq_nil_of_length_eq_zero (by simpa using hl); subst hn; refine ⟨.slice none 0 0, w, ?_, World.ownsRow_nil w base e i.size, ⟨rfl, rfl, rfl, Nat.le_refl _, fun _ _ _ => rfl⟩⟩; rcases hs.kind with ⟨e', hk⟩ | hk <;> simp [Builtin.append_, run_underlying ht, run_underlying hk, sizeOf, typeInfo, hi, hs.len, hs.cells]
   · have hr := run_append_grow_src (P := P) w t tx ty e i z ht hi hz none 0 0 [] (run_firstCells_none w.drew i.size 0 0 0) x m news hs (by omega) (by omega) (growslice_fits (by omega) hbytes); exact ⟨_, _, hr, grown 0 (by omega) _⟩
 · by_cases hroom : n + m ≤ cap
   · have hfit : n * i.size + news.length ≤ cur.size := by rw [hl, hcs, ← Nat.add_mul]; exact Nat.mul_le_mul_right _ hroom
     have hst := run_storeCells_at P g (n * i.size) e news 0 cur w hg (by simpa using hfit) hs.one; simp only [Nat.add_zero] at hst; have hr : (Builtin.append_ #[t, tx] ty #[.slice (some ⟨g, 0, none⟩) n cap, x]).run P w = .ok (.slice (some ⟨g, 0, none⟩) (n + m) cap) (w.setRow g (cur.toList.take (n * i.size) ++ news ++ cur.toList.drop (n * i.size + news.length)).toArray) := by
      rcases hs.kind with ⟨e', hk⟩ | hk <;> simp [Builtin.append_, run_underlying ht, run_underlying hk, sizeOf, typeInfo, hi, hs.len, hroom, hs.cells, Addr.add_lit, hst]
     refine ⟨_, _, hr, ⟨hlen, .inr ⟨g, cap, _, rfl, hbg, setRow_heap w g cur _ e _ hg, hroom, hcm, ?_, ?_⟩⟩, ⟨rfl, rfl, rfl, by simp, fun k _ hk => setRow_other w g k _ (fun e => hk (by simp [Value.ownBlock, e]))⟩⟩
     · simp only [List.size_toArray, List.length_append, List.length_take, List.length_drop, Array.length_toList]; omega
     · rw [htake, ← hlen]; exact List.take_left
   · have holds : ∀ j u, xs[j]? = some u → w.cell? ((⟨g, 0, none⟩ : Addr).add j) = some u := hown.cells (g := g) rfl; have hr := run_append_grow_src (P := P) w t tx ty e i z ht hi hz (some ⟨g, 0, none⟩) n cap xs (run_firstCells_some w.drew i.size n ⟨g, 0, none⟩ n cap xs hown.1 (by simpa using holds)) x m news hs (by omega) (by omega) (growslice_fits (by omega) hbytes)
     exact ⟨_, _, hr, grown cap (by omega) _⟩
theorem wpList_append_src {ops : Array Oper} {rest : List Oper} {o : Oper} {a : Act} {Q : Exit → Act → World → Prop} (hgd : Region.wanted o (yielded ops a.tmps) = true) (s xo : Operand) (t tx : TypeId)
 (ho : o.op = .call { callee := .builtin .append, args := #[s, xo], argTypes := #[t, tx] })
 (base : Nat) (e : TypeId) (i : TypeInfo) (z : Value) (size bytes : Nat) (ht : P.underlying t = some (.slice e)) (hi : P.info? e = some i) (hz : i.zero = some z)
 (hsize : i.size = size) (hby : i.bytes = bytes) (hzs : z.cells.size = size) (hsz : 0 < size)
 (v : Value) (n : Nat) (xs : List Value) (hs : a.eval s = v) (hown : w.ownsRow base e size v n xs)
 (x : Value) (m : Nat) (news : List Value) (hx : a.eval xo = x) (hsrc : Src P size tx x m news w)
 (h63 : n + m ≤ maxLen) (hbytes : (n + m) * bytes ≤ 140737488355328) (hbase : base ≤ w.heap.size)
 (h : ∀ v' w', w'.ownsRow base e size v' (n + m) (xs ++ news) → w.grownBy w' v.ownBlock → wpList P ops Q rest (a.put o.dst v') w') : wpList P ops Q (o :: rest) a w := by
 obtain ⟨v', w', hr, h2, h3⟩ := run_append_src (P := P) w base t tx o.type e i z size bytes ht hi hz hsize hby hzs hsz v n xs hown x m news hsrc h63 hbytes hbase; unfold wpList; rw [if_pos hgd]; refine .inl ?_; unfold Oper.wp execOp; simp only [ho, resolve, invoke, builtin, Sem.run_bind, Sem.run_pure, Result.andThen_ok, List.map_toArray, List.map_cons, List.map_nil, hs, hx, hr]; exact h v' w' h2 h3
end
def cells8 (xs : List UInt8) : List Value := xs.map fun b => Value.int .u8 b.toNat
@[simp] theorem cells8_length (xs : List UInt8) : (cells8 xs).length = xs.length := by simp [cells8]
@[simp] theorem cells8_append (xs ys : List UInt8) : cells8 (xs ++ ys) = cells8 xs ++ cells8 ys := by simp [cells8]
theorem cells8_at {xs : List UInt8} {j : Nat} {u : Value} (h : (cells8 xs)[j]? = some u) : ∃ hj : j < xs.length, u = .int .u8 xs[j].toNat := by
 simp only [cells8, List.getElem?_map, Option.map_eq_some_iff] at h; obtain ⟨b, hb, rfl⟩ := h; obtain ⟨hj, rfl⟩ := List.getElem?_eq_some_iff.1 hb; exact ⟨hj, rfl⟩
theorem cells8_one (xs : List UInt8) : ∀ u ∈ cells8 xs, u.oneCell' = true := by
 intro u hu; obtain ⟨b, _, rfl⟩ := List.mem_map.1 hu; rfl
def OwnB (w : World) (base : Nat) (e : TypeId) (v : Value) (xs : List UInt8) : Prop := w.ownsRow base e 1 v xs.length (cells8 xs)
theorem OwnB.nil (w : World) (base : Nat) (e : TypeId) : OwnB w base e (.slice none 0 0) [] := World.ownsRow_nil w base e 1
theorem OwnB.bytes {w : World} {base : Nat} {e : TypeId} {v : Value} {xs : List UInt8} (h : OwnB w base e v xs) (hl : xs.length ≤ 140737488355328) : Bytes w v xs := by
 obtain ⟨h1, h2⟩ := h; rcases h2 with ⟨rfl, h0⟩ | ⟨g, cap, cur, rfl, hb, hg, hnc, hcm, hcs, ht⟩
 · obtain rfl : xs = [] := List.eq_nil_of_length_eq_zero h0; exact Bytes.nil _ _ _ (by omega)
 · have hcm' : cap ≤ 9223372036854775807 := by simpa [maxLen] using hcm
   refine ⟨_, _, rfl, hnc, hcm', hl, fun hn => ⟨g, 0, rfl, (Array.getElem?_eq_some_iff.1 hg).1, fun i hi => ?_⟩⟩; have hc : (cells8 xs)[i]? = some (.int .u8 xs[i].toNat) := by simp [cells8, hi]
   rw [← ht, Nat.mul_one] at hc; rw [List.getElem?_take] at hc; simp only [hi, if_true, Array.getElem?_toList] at hc; simp [World.cell?, hg, hc]
theorem OwnB.ext {w w' : World} {base : Nat} {e : TypeId} {v : Value} {xs : List UInt8} (h : OwnB w base e v xs) (hb : Ext w w') : OwnB w' base e v xs := by
 obtain ⟨h1, h2⟩ := h; refine ⟨h1, ?_⟩; rcases h2 with h2 | ⟨g, cap, cur, rfl, hbg, hg, r⟩
 · exact .inl h2
 · exact .inr ⟨g, cap, cur, rfl, hbg, by rw [hb.block g (Array.getElem?_eq_some_iff.1 hg).1]; exact hg, r⟩
theorem Bytes.src {P : Program} {w : World} {v : Value} {xs : List UInt8} (h : Bytes w v xs) {tx e' : TypeId} (hk : P.underlying tx = some (.slice e')) : Src P 1 tx v xs.length (cells8 xs) w := by
 obtain ⟨a, cap, rfl, h1, h2, h3, h4⟩ := h; cases xs with
 | nil =>
   cases a with
   | none => exact Src.ofNil w hk cap
   | some a => exact Src.ofSlice w hk a 0 cap [] (by simp) (by simp) (by simp)
 | cons x t =>
   obtain ⟨b, o, rfl, hlt, hc⟩ := h4 (by simp); refine Src.ofSlice w hk _ _ cap _ (by simp) (fun j u hu => ?_) (cells8_one _); obtain ⟨hj, rfl⟩ := cells8_at hu; have := hc j hj; rw [show (⟨b, o, none⟩ : Addr).add j = ⟨b, o + j, none⟩ by simp only [Addr.add]; split <;> simp_all]; exact this
theorem Below.ofGrown {B : Nat} {w w' : World} {v : Value} {e : TypeId} {n size : Nat} {xs : List Value} (hg : w.grownBy w' v.ownBlock) (hown : w.ownsRow B e size v n xs) (hB : B ≤ w.heap.size) : Below B w w' :=
 (Below.refl B w).grown hg hB (fun k hk => (hown.lt k hk).1)
end Go.Mem
