/-
  A new queue (printed by gen_heapn.py).
  A search over a graph with a queue, in plain Lean: what holds between two steps. No order of the queue is asked for.
  graph.Clone, graph.Over; lists of links, flat.
  speaker.New: the errors.
-/
import Derived.Test.YtdnjflpmbnjgeaaGreatPkHeapT
import Derived.Test.YtdnjflpmbnjgeaaGreatPkKp
import Derived.Test.YtdnjflpmbnjgeaaGreatPkBase
import Derived.Test.YtdnjflpmbnjgeaaGreatValid
set_option linter.unusedSimpArgs false
set_option linter.unusedVariables false
namespace Go.Proofs.YtdnjflpmbnjgeaaGreat
section
open Go.RowKit Go.Sort
/-- make([]int, n): the world behind it. -/
def mkI (n : Nat) (w : World) : World := w.alloc (.cells (madeCells #[.int .i64 0] n) 3)
theorem run_mkI (n : Nat) (h : n ≤ 1000000) (w : World) : (Instr.makeSlice 63 (.int .i64 (n : Int)) (.int .i64 (n : Int))).run Tryz.prog w = .ok (.slice (some ⟨w.heap.size, 0, none⟩) n n) (mkI n w) := by
 obtain ⟨i0, hi, hz0, hz1, hz2⟩ := info_parts intInfo
 have hr := run_make (P := Tryz.prog) w 63 3 i0 (.int .i64 0) Tryz.underlying63 hi hz0 .i64 .i64 (n : Int) (n : Int) (by omega) (Int.le_refl _) (by rw [hz2]; omega) (by omega)
 rw [hr, hz1, show ((n : Int)).toNat = n by omega, Nat.mul_one]
 rfl
theorem mkI_below (n : Nat) (w : World) : Below w.heap.size w (mkI n w) := cQ w _
theorem mkI_own (n : Nat) (h : n ≤ 1000000) (w : World) (base : Nat) (hb : base ≤ w.heap.size) : (mkI n w).ownsRow base 3 1 (.slice (some ⟨w.heap.size, 0, none⟩) n n) n ((List.replicate n (0 : Int)).map (Value.int .i64)) := by
 refine ⟨by simp, .inr ⟨w.heap.size, n, _, by simp, hb, heap_alloc_new w _, by simp, by unfold maxLen; omega, by simp [size_madeCells], ?_⟩⟩
 rw [toList_madeCells_one]
 simp
theorem heapR_new {w W : World} {kb pb N : Nat} (o1 : W.ownsRow w.heap.size 3 1 (.slice (some ⟨kb, 0, none⟩) N N) N ((List.replicate N (0 : Int)).map (Value.int .i64))) (o2 : W.ownsRow w.heap.size 3 1 (.slice (some ⟨pb, 0, none⟩) N N) N ((List.replicate N (0 : Int)).map (Value.int .i64))) (s2 : W.heap.size = w.heap.size + 2)
    (hnil : ∀ W : World, W.ownsRow w.heap.size 3 1 (.slice none 0 0) ([] : List Int).length (([] : List Int).map (Value.int .i64))) (n1 : kb ≠ pb) (n2 : kb ≠ w.heap.size + 2) (n3 : pb ≠ w.heap.size + 2) :
    HeapR w.heap.size (w.heap.size + 2) N kb pb (.slice none 0 0) (List.replicate N 0) (List.replicate N 0) [] (W.alloc (.cells #[.slice (some ⟨kb, 0, none⟩) N N, .slice (some ⟨pb, 0, none⟩) N N, .slice none 0 0] 157)) :=
 ⟨s2 ▸ Bl.new W _ _, own_up o1 (cQ W _), own_up o2 (cQ W _), hnil _, n1, n2, n3, by simp [Value.ownBlock], by simp [Value.ownBlock], by simp [Value.ownBlock], by omega⟩
set_option maxRecDepth 100000 in
set_option maxHeartbeats 4000000 in
theorem heap_New0 (N : Nat) (hN : N ≤ 65536) (w : World) :
    Calls Tryz.prog 112 #[.int .i64 N] w fun e w' => ∃ hb kb pb, e = .returned (.tuple #[.pointer (some ⟨hb, 0, none⟩), .int .i64 0]) ∧ HeapR w.heap.size hb N kb pb (.slice none 0 0) (List.replicate N 0) (List.replicate N 0) [] w' ∧ Below w.heap.size w w' := by
 have hmk : ∀ W, (Instr.makeSlice 63 (.int .i64 (N : Int)) (.int .i64 (N : Int))).run Tryz.prog W = .ok (.slice (some ⟨W.heap.size, 0, none⟩) N N) (mkI N W) := fun W => run_mkI N (by omega) W
 have h1 : ¬ ((N : Int) < 0) := by omega
 have h2 : ¬ ((65536 : Int) < (N : Int)) := by omega
 have HN := hU hN
 go_enter Tryz.func112, Tryz.ntmps112
 go_wp2_with fail
 go_region
 all_goals
  go_wp2_with fail
  go_ret2
  have b1 := mkI_below N w.drew
  have b2 := mkI_below N (mkI N w.drew)
  have s1 : (mkI N w.drew).heap.size = w.heap.size + 1 := by simp [mkI]
  have s2 : (mkI N (mkI N w.drew)).heap.size = w.heap.size + 2 := by simp [mkI]
  have o1 := mkI_own N (by have := HN.out; omega) w.drew w.heap.size (by simp)
  have o2 := mkI_own N (by have := HN.out; omega) (mkI N w.drew) w.heap.size (by simp [mkI])
  have o3 := own_up o1 b2
  have hx : Below w.heap.size w (mkI N (mkI N w.drew)) := (Bdrw (Below.refl _ w)).trans ((b1.mono (by simp)).trans (b2.mono (by rw [s1]; omega)))
  rw [s1] at o2
  simp only [World.size_drew] at o1 o3
  have hnil : ∀ W : World, W.ownsRow w.heap.size 3 1 (.slice none 0 0) ([] : List Int).length (([] : List Int).map (Value.int .i64)) := fun W => World.ownsRow_nil _ _ _ _
  have HA := heapR_new (w := w) o3 o2 s2 hnil
  have HB := heapR_new (w := w) o2 o3 s2 hnil
  have hbx : Below w.heap.size w ((mkI N (mkI N w.drew)).alloc (.cells #[.slice (some ⟨w.heap.size, 0, none⟩) N N, .slice (some ⟨w.heap.size + 1, 0, none⟩) N N, .slice none 0 0] 157)) := hx.alloc (by rw [s2]; omega) _
  have hby : Below w.heap.size w ((mkI N (mkI N w.drew)).alloc (.cells #[.slice (some ⟨w.heap.size + 1, 0, none⟩) N N, .slice (some ⟨w.heap.size, 0, none⟩) N N, .slice none 0 0] 157)) := hx.alloc (by rw [s2]; omega) _
  simp only [s1, s2]
  first
   | exact ⟨w.heap.size + 2, w.heap.size, w.heap.size + 1, rfl, HA (by omega) (by omega) (by omega), hbx⟩
   | exact ⟨w.heap.size + 2, w.heap.size + 1, w.heap.size, rfl, HB (by omega) (by omega) (by omega), hby⟩
end
section
/-- What a search runs over: the arcs of a node, the node that an arc leads to, which arcs are up, their costs, which nodes are not passed. -/
structure SG where
 N : Nat
 r : Int
 arcs : Int → List Int
 en : Int → Int
 up : Int → Bool
 cost : Int → Int
 ov : Int → Bool
structure SG.Ok (G : SG) : Prop where
 n64 : G.N ≤ 64
 r0 : 0 ≤ G.r
 r1 : G.r < (G.N : Int)
 en : ∀ n, 0 ≤ n → n < (G.N : Int) → ∀ a ∈ G.arcs n, 0 ≤ G.en a ∧ G.en a < (G.N : Int) ∧ 1 ≤ G.cost a ∧ G.cost a ≤ 65535
/-- The distance of a node, -1 if there is none. -/
def dD (dist : List Int) (i : Int) : Int := dist.getD i.toNat (-1)
/-- A node from which the search goes on. -/
def SG.pass (G : SG) (m : Int) : Prop := m = G.r ∨ G.ov m = false
def SG.tight (G : SG) (dist : List Int) (i x : Int) : Prop :=
 (i = G.r ∧ x = 0) ∨ ∃ m a, 0 ≤ m ∧ m < (G.N : Int) ∧ 0 ≤ dD dist m ∧ G.pass m ∧ a ∈ G.arcs m ∧ G.up a = true ∧ G.en a = i ∧ x = dD dist m + G.cost a
def cnt (dist : List Int) : Nat := dist.countP fun x => decide (0 ≤ x)
theorem cnt_set : ∀ (l : List Int) (i : Nat) (x : Int), i < l.length → l.getD i (-1) < 0 → 0 ≤ x → cnt (l.set i x) = cnt l + 1
 | [], i, x, h, _, _ => by simp at h
 | y :: l, 0, x, _, hy, hx => by
  have hy' : ¬ 0 ≤ y := by simpa using hy
  simp [cnt, hy', hx]
 | y :: l, i + 1, x, h, hy, hx => by
  have ih := cnt_set l i x (by simpa using h) (by simpa using hy) hx
  simp only [cnt, List.set_cons_succ, List.countP_cons] at ih ⊢
  omega
theorem cnt_le (dist : List Int) : cnt dist ≤ dist.length := List.countP_le_length
theorem dD_set {dist : List Int} {i j x : Int} (hi : 0 ≤ i) (hj : 0 ≤ j) (hl : i < (dist.length : Int)) : dD (dist.set i.toNat x) j = if i = j then x else dD dist j := by
 unfold dD
 rw [List.getD_eq_getElem?_getD, List.getElem?_set]
 by_cases e : i = j
 ·subst e; rw [if_pos rfl, if_pos rfl, if_pos (by omega)]; rfl
 ·rw [if_neg e, if_neg (by omega), List.getD_eq_getElem?_getD]
theorem kD_set {ks : List Int} {i j x : Int} (hi : 0 ≤ i) (hj : 0 ≤ j) (hl : i < (ks.length : Int)) : (ks.set i.toNat x).getD j.toNat 0 = if i = j then x else ks.getD j.toNat 0 := by
 rw [List.getD_eq_getElem?_getD, List.getElem?_set]
 by_cases e : i = j
 ·subst e; rw [if_pos rfl, if_pos rfl, if_pos (by omega)]; rfl
 ·rw [if_neg e, if_neg (by omega), List.getD_eq_getElem?_getD]
/-- What holds between two steps: of the node 'pend' the arcs 'todo' have not been followed yet. -/
structure SI (G : SG) (dist ks os : List Int) (pend : Int) (todo : List Int) : Prop where
 len : dist.length = G.N
 kl : ks.length = G.N
 lo : ∀ i, 0 ≤ i → i < (G.N : Int) → -1 ≤ dD dist i
 hm : ∀ i ∈ os, 0 ≤ i ∧ i < (G.N : Int) ∧ dD dist i = -1
 td : ∀ i, 0 ≤ i → i < (G.N : Int) → 0 ≤ dD dist i → G.tight dist i (dD dist i)
 tk : ∀ i ∈ os, G.tight dist i (ks.getD i.toNat 0)
 cl : ∀ m, 0 ≤ m → m < (G.N : Int) → 0 ≤ dD dist m → G.pass m → ∀ a ∈ G.arcs m, G.up a = true → (m = pend ∧ a ∈ todo) ∨ 0 ≤ dD dist (G.en a) ∨ G.en a ∈ os
 bd : ∀ i, 0 ≤ i → i < (G.N : Int) → dD dist i ≤ 65535 * (cnt dist : Int)
 bk : ∀ i ∈ os, 0 ≤ ks.getD i.toNat 0 ∧ ks.getD i.toNat 0 ≤ 65535 * (cnt dist : Int)
 rt : dD dist G.r = 0 ∨ (os = [G.r] ∧ ks.getD G.r.toNat 0 = 0)
theorem dD_none {N : Nat} {i : Int} : dD (List.replicate N (-1)) i = -1 := by
 unfold dD
 rw [List.getD_eq_getElem?_getD]
 by_cases h : i.toNat < N
 ·simp [h]
 ·rw [List.getElem?_eq_none (by simp; omega)]; rfl
theorem cnt_none (N : Nat) : cnt (List.replicate N (-1)) = 0 := by
 unfold cnt
 rw [List.countP_eq_zero]
 intro x hx
 rw [List.eq_of_mem_replicate hx]
 decide
theorem SI.start (G : SG) (hG : G.Ok) : SI G (List.replicate G.N (-1)) ((List.replicate G.N 0).set G.r.toNat 0) [G.r] (-1) [] := by
 have h0 := hG.r0
 have h1 := hG.r1
 have hk : ((List.replicate G.N (0 : Int)).set G.r.toNat 0).getD G.r.toNat 0 = 0 := by
  rw [kD_set h0 h0 (by simp; omega), if_pos rfl]
 refine ⟨by simp, by simp, fun i _ _ => by rw [dD_none]; exact Int.le_refl _, fun i hi => ?_, fun i _ _ h => by rw [dD_none] at h; omega, fun i hi => ?_, fun m _ _ h => by rw [dD_none] at h; omega, fun i _ _ => by rw [dD_none]; omega, fun i hi => ?_, .inr ⟨rfl, hk⟩⟩
 ·rw [List.mem_singleton.1 hi]; exact ⟨h0, h1, dD_none⟩
 ·rw [List.mem_singleton.1 hi]; exact .inl ⟨rfl, hk⟩
 ·rw [List.mem_singleton.1 hi, hk, cnt_none]; omega
/-- An item comes out of the queue and gets its distance. -/
theorem SI.pop {G : SG} (hG : G.Ok) {dist ks os os' : List Int} {i pend : Int} {todo : List Int} (h : SI G dist ks os pend []) (hi : i ∈ os) (hnd : os.Nodup) (hp : (i :: os').Perm os) (ht : G.pass i → todo = G.arcs i) :
    SI G (dist.set i.toNat (ks.getD i.toNat 0)) (ks.set i.toNat 0) os' i todo := by
 obtain ⟨i0, i1, id⟩ := h.hm i hi
 obtain ⟨k0, k1⟩ := h.bk i hi
 have hil : i < (dist.length : Int) := by rw [h.len]; exact i1
 have hkl : i < (ks.length : Int) := by rw [h.kl]; exact i1
 have hc : cnt (dist.set i.toNat (ks.getD i.toNat 0)) = cnt dist + 1 := cnt_set dist i.toNat _ (by omega) (by unfold dD at id; omega) k0
 have hd : ∀ j, 0 ≤ j → dD (dist.set i.toNat (ks.getD i.toNat 0)) j = if i = j then ks.getD i.toNat 0 else dD dist j := fun j hj => dD_set i0 hj hil
 have hk : ∀ j, 0 ≤ j → (ks.set i.toNat 0).getD j.toNat 0 = if i = j then 0 else ks.getD j.toNat 0 := fun j hj => kD_set i0 hj hkl
 have hmem : ∀ j, j ∈ os' → j ∈ os := fun j hj => hp.mem_iff.1 (List.mem_cons_of_mem _ hj)
 have hni : i ∉ os' := (List.nodup_cons.1 (hp.nodup_iff.2 hnd)).1
 have hne : ∀ j, j ∈ os' → i ≠ j := fun j hj e => hni (e ▸ hj)
 have mono : ∀ m, 0 ≤ m → 0 ≤ dD dist m → dD (dist.set i.toNat (ks.getD i.toNat 0)) m = dD dist m := fun m hm hdm => by
  rw [hd m hm, if_neg]
  rintro rfl
  omega
 have tmono : ∀ j x, G.tight dist j x → G.tight (dist.set i.toNat (ks.getD i.toNat 0)) j x := fun j x ht => by
  rcases ht with ht | ⟨m, a, h1, h2, h3, h4, h5, h6, h7, h8⟩
  ·exact .inl ht
  ·exact .inr ⟨m, a, h1, h2, by rw [mono m h1 h3]; exact h3, h4, h5, h6, h7, by rw [mono m h1 h3]; exact h8⟩
 refine ⟨by simp [h.len], by simp [h.kl], fun j h0 h1 => ?_, fun j hj => ?_, fun j h0 h1 h2 => ?_, fun j hj => ?_, fun m h0 h1 h2 h3 a ha hu => ?_, fun j h0 h1 => ?_, fun j hj => ?_, ?_⟩
 ·rw [hd j h0]; split
  ·omega
  ·exact h.lo j h0 h1
 ·obtain ⟨j0, j1, j2⟩ := h.hm j (hmem j hj)
  exact ⟨j0, j1, by rw [hd j j0, if_neg (hne j hj)]; exact j2⟩
 ·rw [hd j h0] at h2 ⊢
  by_cases e : i = j
  ·subst e; rw [if_pos rfl]; exact tmono _ _ (h.tk i hi)
  ·rw [if_neg e] at h2 ⊢; exact tmono _ _ (h.td j h0 h1 h2)
 ·obtain ⟨j0, j1, j2⟩ := h.hm j (hmem j hj)
  rw [hk j j0, if_neg (hne j hj)]
  exact tmono _ _ (h.tk j (hmem j hj))
 ·have hen := hG.en m h0 h1 a ha
  by_cases e : i = m
  ·subst e; exact .inl ⟨rfl, by rw [ht h3]; exact ha⟩
  ·rw [hd m h0, if_neg e] at h2
   rcases h.cl m h0 h1 h2 h3 a ha hu with ⟨_, h4⟩ | h4 | h4
   ·cases h4
   ·exact .inr (.inl (by rw [mono _ hen.1 h4]; exact h4))
   ·by_cases e2 : i = G.en a
    ·exact .inr (.inl (by rw [hd _ hen.1, if_pos e2]; exact k0))
    ·rcases List.mem_cons.1 (hp.mem_iff.2 h4) with h5 | h5
     ·exact absurd h5.symm e2
     ·exact .inr (.inr h5)
 ·rw [hd j h0, hc]; split
  ·omega
  ·have := h.bd j h0 h1; omega
 ·obtain ⟨j0, j1, j2⟩ := h.hm j (hmem j hj)
  have := h.bk j (hmem j hj)
  rw [hk j j0, if_neg (hne j hj), hc]
  omega
 ·rcases h.rt with h' | ⟨h1, h2⟩
  ·exact .inl (by rw [mono _ hG.r0 (by omega)]; exact h')
  ·left
   have e : i = G.r := by rw [h1] at hi; exact List.mem_singleton.1 hi
   rw [hd _ hG.r0, if_pos e, e]
   exact h2
/-- An arc that needs nothing. -/
theorem SI.skip {G : SG} {dist ks os : List Int} {pend a : Int} {todo : List Int} (h : SI G dist ks os pend (a :: todo)) (hs : G.up a = true → 0 ≤ dD dist (G.en a) ∨ G.en a ∈ os) : SI G dist ks os pend todo :=
 ⟨h.len, h.kl, h.lo, h.hm, h.td, h.tk, fun m h0 h1 h2 h3 b hb hu => by
  rcases h.cl m h0 h1 h2 h3 b hb hu with ⟨e, h4⟩ | h4
  ·rcases List.mem_cons.1 h4 with rfl | h5
   ·exact .inr (hs hu)
   ·exact .inl ⟨e, h5⟩
  ·exact .inr h4, h.bd, h.bk, h.rt⟩
/-- An arc by which a node gets a key. -/
theorem SI.put {G : SG} (hG : G.Ok) {dist ks os os' : List Int} {pend a : Int} {todo : List Int} (h : SI G dist ks os pend (a :: todo)) (ha : a ∈ G.arcs pend) (p0 : 0 ≤ pend) (p1 : pend < (G.N : Int)) (pd : 0 ≤ dD dist pend) (pp : G.pass pend) (hu : G.up a = true) (hd : dD dist (G.en a) < 0)
    (hc : dD dist pend + 65535 ≤ 65535 * (cnt dist : Int)) (hp : os'.Perm (if G.en a ∈ os then os else os ++ [G.en a])) : SI G dist (ks.set (G.en a).toNat (dD dist pend + G.cost a)) os' pend todo := by
 obtain ⟨e0, e1, c0, c1⟩ := hG.en pend p0 p1 a ha
 have hel : G.en a < (ks.length : Int) := by rw [h.kl]; exact e1
 have hk : ∀ j, 0 ≤ j → (ks.set (G.en a).toNat (dD dist pend + G.cost a)).getD j.toNat 0 = if G.en a = j then dD dist pend + G.cost a else ks.getD j.toNat 0 := fun j hj => kD_set e0 hj hel
 have hmem : ∀ j, j ∈ os' ↔ j = G.en a ∨ j ∈ os := fun j => by
  rw [hp.mem_iff]
  by_cases e : G.en a ∈ os
  ·rw [if_pos e]
   exact ⟨.inr, fun h => h.elim (fun h => h ▸ e) id⟩
  ·rw [if_neg e, List.mem_append, List.mem_singleton]
   exact ⟨Or.symm, Or.symm⟩
 have hdr : dD dist G.r = 0 := by
  rcases h.rt with h' | ⟨h1, h2⟩
  ·exact h'
  ·exfalso
   have hq := h.td pend p0 p1 pd
   have : ∀ n : Nat, ∀ i, 0 ≤ i → i < (G.N : Int) → 0 ≤ dD dist i → dD dist i ≤ (n : Int) → False := by
    intro n
    induction n with
    | zero =>
     intro i i0 i1 i2 i3
     rcases h.td i i0 i1 i2 with ⟨e, _⟩ | ⟨m, b, m0, m1, m2, _, hb, _, _, m3⟩
     ·have := (h.hm G.r (by rw [h1]; simp)).2.2
      rw [e] at i2; omega
     ·have := (hG.en m m0 m1 b hb).2.2.1
      omega
    | succ n ih =>
     intro i i0 i1 i2 i3
     rcases h.td i i0 i1 i2 with ⟨e, _⟩ | ⟨m, b, m0, m1, m2, _, hb, _, _, m3⟩
     ·have := (h.hm G.r (by rw [h1]; simp)).2.2
      rw [e] at i2; omega
     ·have := (hG.en m m0 m1 b hb).2.2.1
      exact ih m m0 m1 m2 (by omega)
   exact this (dD dist pend).toNat pend p0 p1 pd (by omega)
 refine ⟨h.len, by simp [h.kl], h.lo, fun j hj => ?_, h.td, fun j hj => ?_, fun m h0 h1 h2 h3 b hb hub => ?_, h.bd, fun j hj => ?_, .inl hdr⟩
 ·rcases (hmem j).1 hj with rfl | hj
  ·exact ⟨e0, e1, by have := h.lo _ e0 e1; omega⟩
  ·exact h.hm j hj
 ·rcases (hmem j).1 hj with rfl | hj
  ·rw [hk _ e0, if_pos rfl]
   exact .inr ⟨pend, a, p0, p1, pd, pp, ha, hu, rfl, rfl⟩
  ·rw [hk j (h.hm j hj).1]
   by_cases e : G.en a = j
   ·rw [if_pos e]; exact .inr ⟨pend, a, p0, p1, pd, pp, ha, hu, e, rfl⟩
   ·rw [if_neg e]; exact h.tk j hj
 ·rcases h.cl m h0 h1 h2 h3 b hb hub with ⟨e, h4⟩ | h4 | h4
  ·rcases List.mem_cons.1 h4 with rfl | h5
   ·exact .inr (.inr ((hmem _).2 (.inl rfl)))
   ·exact .inl ⟨e, h5⟩
  ·exact .inr (.inl h4)
  ·exact .inr (.inr ((hmem _).2 (.inr h4)))
 ·rcases (hmem j).1 hj with rfl | hj
  ·rw [hk _ e0, if_pos rfl]; omega
  ·rw [hk j (h.hm j hj).1]
   split
   ·omega
   ·exact h.bk j hj
/-- What a search gives. -/
structure SR (G : SG) (dist : List Int) : Prop where
 len : dist.length = G.N
 lo : ∀ i, 0 ≤ i → i < (G.N : Int) → -1 ≤ dD dist i
 hi : ∀ i, 0 ≤ i → i < (G.N : Int) → dD dist i ≤ 65535 * 64
 rt : dD dist G.r = 0
 td : ∀ i, 0 ≤ i → i < (G.N : Int) → 0 ≤ dD dist i → G.tight dist i (dD dist i)
 cl : ∀ m, 0 ≤ m → m < (G.N : Int) → 0 ≤ dD dist m → G.pass m → ∀ a ∈ G.arcs m, G.up a = true → 0 ≤ dD dist (G.en a)
theorem SI.done {G : SG} (hG : G.Ok) {dist ks : List Int} {pend : Int} (h : SI G dist ks [] pend []) : SR G dist := by
 refine ⟨h.len, h.lo, fun i h0 h1 => ?_, ?_, h.td, fun m h0 h1 h2 h3 a ha hu => ?_⟩
 ·have := h.bd i h0 h1
  have := cnt_le dist
  have := h.len
  have := hG.n64
  omega
 ·rcases h.rt with h | ⟨h, _⟩
  ·exact h
  ·cases h
 ·rcases h.cl m h0 h1 h2 h3 a ha hu with ⟨_, h4⟩ | h4 | h4
  ·cases h4
  ·exact h4
  ·cases h4
end
section
open Go.RowKit Go.Sort
theorem rd_of_ownK {w : World} {base : Nat} {E : TypeId} {size : Nat} {v : Value} {n : Nat} {xs : List Value} (h : w.ownsRow base E size v n xs) : ∃ A c, v = .slice A n c ∧ n ≤ c ∧ c ≤ maxLen ∧ Rd w A xs := by
 rcases h with ⟨hl, ⟨rfl, rfl⟩ | ⟨g, cap, cur, rfl, hb, hg, hnc, hcm, hs, ht⟩⟩
 ·exact ⟨none, 0, rfl, Nat.le_refl _, Nat.zero_le _, .inl (List.eq_nil_of_length_eq_zero (by simpa using hl))⟩
 ·refine ⟨some ⟨g, 0, none⟩, cap, rfl, hnc, hcm, .inr ⟨g, 0, rfl, fun j u hu => ?_⟩⟩
  have h0 : w.ownsRow base E size (.slice (some ⟨g, 0, none⟩) n cap) n xs := ⟨hl, .inr ⟨g, cap, cur, rfl, hb, hg, hnc, hcm, hs, ht⟩⟩
  have hj : j < n * size := by rw [← hl]; exact (List.getElem?_eq_some_iff.1 hu).1
  rw [Nat.zero_add, h0.cellAt j hj]; exact hu
theorem TBox.cells {w wr : World} {A1 A2 : Option Addr} {c1 c2 : Nat} {t : Topo} (h : TBox w A1 A2 c1 c2 t wr) : wr.cell? ⟨w.heap.size, 0, none⟩ = some (.int .i64 t.n) ∧ wr.cell? ⟨w.heap.size, 1, none⟩ = some (.slice A1 t.ov.length c1) ∧ wr.cell? ⟨w.heap.size, 2, none⟩ = some (.slice A2 t.ls.length c2) := ⟨h.b0, h.b1, h.b2⟩
section
variable {w : World} {A1 A2 : Option Addr} {t : Topo}
end
end
end Go.Proofs.YtdnjflpmbnjgeaaGreat
