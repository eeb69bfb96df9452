/- A text of this proof. -/
import Derived.Test.YtjapbjmeoaagmaaGreatDoorEValueAtPaN
import Derived.Test.YtjapbjmeoaagmaaGreatDoorEValueAtGrowS
import Derived.Deep.AppendSrc
set_option linter.unusedVariables false
set_option linter.unusedSimpArgs false
set_option maxRecDepth 100000
namespace Go.Mem
open Go.RowKit
section
variable {P : Program} (w : World)
theorem run_append_own (base : Nat) (t tx ty e : TypeId) (i : TypeInfo) (z : Value) (size bytes : Nat) (ht : P.underlying t = some (.slice e)) (hi : P.info? e = some i) (hz : i.zero = some z)
 (hsize : i.size = size) (hby : i.bytes = bytes) (hzs : z.cells.size = size) (hsz : 0 < size)
 (v : Value) (n : Nat) (xs : List Value) (hown : w.ownsRow base e size v n xs)
 (x : Value) (m : Nat) (news : List Value) (hs : Src P size tx x m news w)
 (h63 : n + m ≤ maxLen) (hbytes : (n + m) * bytes ≤ 140737488355328) (hbase : base ≤ w.heap.size) :
 ∃ v' w', (Builtin.append_ #[t, tx] ty #[v, x]).run P w = .ok v' w' ∧ w'.ownsRow base e size v' (n + m) (xs ++ news) ∧ w.grownBy w' v.ownBlock ∧ (v'.ownBlock = v.ownBlock ∨ v'.ownBlock = some w.heap.size) := by
 subst hsize; subst hby; have hl := hs.newsLen; have hsmall : n + m ≤ 9223372036854775807 := by simp only [maxLen] at h63; omega
 have hlen : (xs ++ news).length = (n + m) * i.size := by rw [List.length_append, hown.1, hl, Nat.add_mul]
 have grown : ∀ (old : Nat), old < n + m → ∀ (row : Option Nat),
  (w.drew.alloc (.cells ((xs ++ news).toArray ++ Builtin.zeroCells z.cells (grownCap w (n + m) old e - (n + m))) e)).ownsRow base e i.size
    (.slice (some ⟨w.heap.size, 0, none⟩) (n + m) (grownCap w (n + m) old e)) (n + m) (xs ++ news) ∧
  w.grownBy (w.drew.alloc (.cells ((xs ++ news).toArray ++ Builtin.zeroCells z.cells (grownCap w (n + m) old e - (n + m))) e)) row := by
  intro old ho row; have hge := grownCap_ge w (n + m) old e; have hcm : grownCap w (n + m) old e ≤ maxLen := grownCap_le_maxLen w (n + m) old e h63; refine ⟨⟨hlen, .inr ⟨w.heap.size, _, _, rfl, hbase, heap_alloc_new w.drew _, hge, hcm, ?_, ?_⟩⟩, ⟨rfl, rfl, rfl, by simp, fun k hk _ => heap_alloc_old w.drew _ hk⟩⟩
  · simp only [Array.size_append, List.size_toArray, size_zeroCells, hzs, hlen, ← Nat.add_mul]; congr 1
    omega
  · simp only [Array.toList_append]; rw [← hlen]; exact List.take_left
 rcases hown.2 with ⟨rfl, rfl⟩ | ⟨g, cap, cur, rfl, hbg, hg, hnc, hcm, hcs, htake⟩
 · have hx : xs = [] := List.eq_nil_of_length_eq_zero (by simpa using hown.1); subst hx; by_cases hm : m = 0
   · subst hm; have hn : news = [] := List.eq_nil_of_length_eq_zero (by simpa using hl); subst hn; refine ⟨.slice none 0 0, w, ?_, World.ownsRow_nil w base e i.size, ⟨rfl, rfl, rfl, Nat.le_refl _, fun _ _ _ => rfl⟩, .inl rfl⟩; rcases hs.kind with ⟨e', hk⟩ | hk <;> simp [Builtin.append_, run_underlying ht, run_underlying hk, sizeOf, typeInfo, hi, hs.len, hs.cells]
   · have hr := run_append_grow_src (P := P) w t tx ty e i z ht hi hz none 0 0 [] (run_firstCells_none w.drew i.size 0 0 0) x m news hs (by omega) (by omega) (growslice_fits (by omega) hbytes); exact ⟨_, _, hr, (grown 0 (by omega) none).1, (grown 0 (by omega) _).2, .inr rfl⟩
 · by_cases hroom : n + m ≤ cap
   · have hfit : n * i.size + news.length ≤ cur.size := by rw [hl, hcs, ← Nat.add_mul]; exact Nat.mul_le_mul_right _ hroom
     have hst := run_storeCells_at P g (n * i.size) e news 0 cur w hg (by simpa using hfit) hs.one; simp only [Nat.add_zero] at hst; have hr : (Builtin.append_ #[t, tx] ty #[.slice (some ⟨g, 0, none⟩) n cap, x]).run P w = .ok (.slice (some ⟨g, 0, none⟩) (n + m) cap) (w.setRow g (cur.toList.take (n * i.size) ++ news ++ cur.toList.drop (n * i.size + news.length)).toArray) := by
      rcases hs.kind with ⟨e', hk⟩ | hk <;> simp [Builtin.append_, run_underlying ht, run_underlying hk, sizeOf, typeInfo, hi, hs.len, hroom, hs.cells, Addr.add_lit, hst]
     refine ⟨_, _, hr, ⟨hlen, .inr ⟨g, cap, _, rfl, hbg, setRow_heap w g cur _ e _ hg, hroom, hcm, ?_, ?_⟩⟩, ⟨rfl, rfl, rfl, by simp, fun k _ hk => setRow_other w g k _ (fun e => hk (by simp [Value.ownBlock, e]))⟩, .inl rfl⟩
     · simp only [List.size_toArray, List.length_append, List.length_take, List.length_drop, Array.length_toList]; omega
     · rw [htake, ← hlen]; exact List.take_left
   · have holds : ∀ j u, xs[j]? = some u → w.cell? ((⟨g, 0, none⟩ : Addr).add j) = some u := hown.cells (g := g) rfl; have hr := run_append_grow_src (P := P) w t tx ty e i z ht hi hz (some ⟨g, 0, none⟩) n cap xs (run_firstCells_some w.drew i.size n ⟨g, 0, none⟩ n cap xs hown.1 (by simpa using holds)) x m news hs (by omega) (by omega) (growslice_fits (by omega) hbytes)
     exact ⟨_, _, hr, (grown cap (by omega) none).1, (grown cap (by omega) _).2, .inr rfl⟩
end
section
variable {P : Program} {md : Region.Mode} {ops : Array Oper} {Q : Exit → Act → World → Prop} {fuel : Nat} {listed : Array Bool} {a : Act} {w : World}
theorem wpAny_one (i : Nat) (hr : Region.ready md ops listed = [i]) (hi : wpOp P ops Q i (wpAny P md ops Q fuel (listed.setIfInBounds i true)) a w) : wpAny P md ops Q (fuel + 1) listed a w :=
 ⟨fun h => (by rw [hr] at h; cases h), fun k hk => (by rw [hr] at hk; rw [List.mem_singleton.1 hk]; exact hi)⟩
theorem wpOp_now {K : Act → World → Prop} {i : Nat} {o : Oper} (ho : ops[i]? = some o) (hg : Region.wanted o (yielded ops a.tmps) = true) (h : o.wp P a w K Q) : wpOp P ops Q i K a w := by
 unfold wpOp; simp only [ho]; rw [if_pos hg]; exact .inl h
theorem wpOp_append {K : Act → World → Prop} {i0 : Nat} {o : Oper} (hop : ops[i0]? = some o) (hgd : Region.wanted o (yielded ops a.tmps) = true) (s xo : Operand) (t tx : TypeId)
 (ho : o.op = .call { callee := .builtin .append, args := #[s, xo], argTypes := #[t, tx] })
 (base : Nat) (e : TypeId) (i : TypeInfo) (z : Value) (size bytes : Nat) (ht : P.underlying t = some (.slice e)) (hi : P.info? e = some i) (hz : i.zero = some z)
 (hsize : i.size = size) (hby : i.bytes = bytes) (hzs : z.cells.size = size) (hsz : 0 < size)
 (v : Value) (n : Nat) (xs : List Value) (hs : a.eval s = v) (hown : w.ownsRow base e size v n xs)
 (x : Value) (m : Nat) (news : List Value) (hx : a.eval xo = x) (hsrc : Src P size tx x m news w)
 (h63 : n + m ≤ maxLen) (hbytes : (n + m) * bytes ≤ 140737488355328) (hbase : base ≤ w.heap.size)
 (h : ∀ v' w', w'.ownsRow base e size v' (n + m) (xs ++ news) → w.grownBy w' v.ownBlock → (v'.ownBlock = v.ownBlock ∨ v'.ownBlock = some w.heap.size) → K (a.put o.dst v') w') : wpOp P ops Q i0 K a w := by
 obtain ⟨v', w', hr, h2, h3, h4⟩ := run_append_own (P := P) w base t tx o.type e i z size bytes ht hi hz hsize hby hzs hsz v n xs hown x m news hsrc h63 hbytes hbase; refine wpOp_now hop hgd ?_; unfold Oper.wp execOp; simp only [ho, resolve, invoke, builtin, Sem.run_bind, Sem.run_pure, Result.andThen_ok, List.map_toArray, List.map_cons, List.map_nil, hs, hx, hr]; exact h v' w' h2 h3 h4
end
theorem src_one {P : Program} {w : World} {g n : Nat} {tx ty e' : TypeId} {c : Array Value} (hk : P.underlying tx = some (.slice e')) (hg : w.heap[g]? = some (.cells c ty (0, 0))) (hn : c.size = n) (h1 : ∀ u ∈ c.toList, u.oneCell' = true) : Src P n tx (.slice (some ⟨g, 0, none⟩) 1 1) 1 c.toList w := by
 refine Src.ofSlice w hk _ 1 1 _ (by simp [hn]) (fun j u hu => ?_) h1; rw [show (⟨g, 0, none⟩ : Addr).add j = ⟨g, j, none⟩ by simp only [Addr.add]; split <;> simp_all]; rw [cell_of_cells hg]; simpa using hu
def putL (cur : Array Value) (k : Nat) : List Value → Array Value
 | [] => cur
 | u :: us => putL (cur.setIfInBounds k u) (k + 1) us
def storeL (w : World) (g k : Nat) : List Value → World
 | [] => w
 | u :: us => storeL (w.setCell ⟨g, k, none⟩ u) g (k + 1) us
theorem putL_size (us : List Value) : ∀ (cur : Array Value) (k : Nat), (putL cur k us).size = cur.size := by
 induction us with
 | nil => intros; rfl
 | cons u us ih => intro cur k; rw [putL, ih]; simp
theorem putL_take (us : List Value) : ∀ (cur : Array Value) (k : Nat) (cs z : List Value), cs.length = k → z.length = us.length → cur.toList.take (k + us.length) = cs ++ z → (putL cur k us).toList.take (k + us.length) = cs ++ us := by
 induction us with
 | nil => intro cur k cs z _ hz h; obtain rfl : z = [] := List.eq_nil_of_length_eq_zero hz; exact h
 | cons u us ih =>
   intro cur k cs z hc hz h; cases z with
   | nil => simp at hz
   | cons z0 z =>
     rw [putL]; have h1 := ih (cur.setIfInBounds k u) (k + 1) (cs ++ [u]) z (by simp [hc]) (by simpa using hz) (by
      rw [show k + 1 + us.length = k + (u :: us).length by simp; omega, Array.toList_setIfInBounds, List.take_set, h, ← hc, List.set_append_right _ _ (Nat.le_refl _)]; simp)
     rw [show k + (u :: us).length = k + 1 + us.length by simp; omega, h1]; simp
theorem setCell_heap_self {w : World} {g k : Nat} {u : Value} {cur : Array Value} {e : TypeId} {fr : Nat × Nat} (h : w.heap[g]? = some (.cells cur e fr)) : (w.setCell ⟨g, k, none⟩ u).heap[g]? = some (.cells (cur.setIfInBounds k u) e fr) := by
 simp [World.setCell, Array.getElem?_modify, h]
theorem storeL_self (us : List Value) : ∀ {w : World} {g k : Nat} {cur : Array Value} {e : TypeId} {fr : Nat × Nat}, w.heap[g]? = some (.cells cur e fr) → (storeL w g k us).heap[g]? = some (.cells (putL cur k us) e fr) := by
 induction us with
 | nil => intro w g k cur e fr h; exact h
 | cons u us ih => intro w g k cur e fr h; exact ih (setCell_heap_self h)
structure Two (w W : World) (g q : Nat) (og oq : Obj) : Prop where
 os : W.os = w.os
 tape : W.tape = w.tape
 output : W.output = w.output
 size : W.heap.size = w.heap.size
 atG : W.heap[g]? = some og
 atQ : W.heap[q]? = some oq
 block : ∀ k, k ≠ g → k ≠ q → W.heap[k]? = w.heap[k]?
theorem ownsRow_put {w W : World} {base g q z n cap : Nat} {e : TypeId} {oq : Obj} {cur : Array Value} {cs zs us : List Value} (hown : w.ownsRow base e z (.slice (some ⟨g, 0, none⟩) (n + 1) cap) (n + 1) (cs ++ zs)) (hg : w.heap[g]? = some (.cells cur e (0, 0))) (hc : cs.length = n * z) (hu : us.length = z)
 (h2 : Two w W g q (.cells (putL cur (n * z) us) e (0, 0)) oq) : W.ownsRow base e z (.slice (some ⟨g, 0, none⟩) (n + 1) cap) (n + 1) (cs ++ us) := by
 obtain ⟨h1, hr⟩ := hown; have hzl : zs.length = us.length := by rw [List.length_append, hc, Nat.add_mul] at h1; omega
 refine ⟨by rw [List.length_append, hc, hu, Nat.add_mul]; omega, ?_⟩; rcases hr with ⟨_, h0⟩ | ⟨g', cap', cur', e1, hbg, hg', hnc, hcm, hcs, ht⟩
 · exact absurd h0 (by omega)
 · simp only [Value.slice.injEq, Option.some.injEq, Addr.mk.injEq, and_true] at e1; obtain ⟨rfl, rfl⟩ : g = g' ∧ cap = cap' := ⟨e1.1, by simpa using e1.2⟩
   have ec : cur' = cur := by rw [hg] at hg'; simpa using hg'.symm
   subst ec; refine .inr ⟨g, cap, _, rfl, hbg, h2.atG, hnc, hcm, by rw [putL_size]; exact hcs, ?_⟩; rw [Nat.add_mul, Nat.one_mul, ← hu] at ht ⊢; rw [hu]; rw [hu] at ht; have := putL_take us cur' (n * z) cs zs hc hzl (by rw [hu]; exact ht); rw [hu] at this; exact this
end Go.Mem
