/-
  Lists of ints that a call makes: graph.Out, waypointref09.Out, In, SameInts, Has, topology.Out; what each returns, for every topology in memory.
  'append(dst, src...)': dst a row of one's own, src any list that reads as data.
  What code keeps that writes into some blocks and makes memory; blocks with known cells; a map that the code itself has made, as the list of its entries.
  Small functions of the packages stages, lsdb, flood, origin, lsa, speaker, graph.
  slices.Clone at the element types of the program (printed by gen_clone.py).
  The originator of a node that has just been made, and its first advertisement.
  The first advertisement of a node: Current, Install.
  What a speaker is that has just been made; small laws on blocks.
  Two of the library's moves through a region that draws its order, for operations written out as a list.
-/
import Derived.Test.YtdnjflpmbnjgeaaPkGraph
import Derived.LoopTactic
import Derived.Maps.Own
import Derived.StringKeys
import Derived.MapKept
import Derived.Lib.Builder
import Derived.BigQuiet
import Derived.Deep.RegionHeld3
import Derived.Deep.CutBlock
import Derived.Deep.Cut
import Derived.Lib.SliceRun
import Derived.Maps.Keyed
import Derived.Laws.MakeOwn
namespace Go.Proofs.Ytdnjflpmbnjgeaa
open Go.RowKit Go.Sort
/-- A call that returns a list of ints; nothing that was there has changed. -/
def RetInts (w : World) (xs : List Int) (e : Ending) (w' : World) : Prop :=
  ∃ A c, e = .returned (.slice A xs.length c) ∧ xs.length ≤ c ∧ c ≤ maxLen ∧ Rd w' A (xs.map (Value.int .i64)) ∧ Below w.heap.size w w'
theorem rd_of_own {w : World} {base : Nat} {E : TypeId} {v : Value} {n : Nat} {xs : List Value} (h : w.ownsRow base E 1 v n xs) : ∃ A c, v = .slice A n c ∧ n ≤ c ∧ c ≤ maxLen ∧ Rd w A xs := by
  rcases h with ⟨hl, ⟨rfl, rfl⟩ | ⟨g, cap, cur, rfl, hb, hg, hnc, hcm, hs, ht⟩⟩
  · exact ⟨none, 0, rfl, Nat.le_refl _, Nat.zero_le _, .inl (List.eq_nil_of_length_eq_zero (by simpa using hl))⟩
  · refine ⟨some ⟨g, 0, none⟩, cap, rfl, hnc, hcm, .inr ⟨g, 0, rfl, fun j u hu => ?_⟩⟩
    have h0 : w.ownsRow base E 1 (.slice (some ⟨g, 0, none⟩) n cap) n xs := ⟨hl, .inr ⟨g, cap, cur, rfl, hb, hg, hnc, hcm, hs, ht⟩⟩
    have hj : j < n * 1 := by rw [← hl]; exact (List.getElem?_eq_some_iff.1 hu).1
    rw [Nat.zero_add, h0.cellAt j hj]; exact hu
theorem RetInts.next {w0 w w' : World} {xs : List Int} {e : Ending} (h : RetInts w xs e w') (hb : Below w0.heap.size w0 w) : RetInts w0 xs e w' := by
  obtain ⟨A, c, h0, h1, h2, h3, h4⟩ := h
  exact ⟨A, c, h0, h1, h2, h3, below_next hb h4⟩
/-- The numbers below k that pass. -/
def ups (p : Int → Bool) : Nat → List Int
  | 0 => []
  | k + 1 => if p k = true then ups p k ++ [(k : Int)] else ups p k
theorem ups_le (p : Int → Bool) : ∀ k, (ups p k).length ≤ k
  | 0 => Nat.le_refl _
  | k + 1 => by
    have := ups_le p k
    unfold ups
    split
    · simp; omega
    · omega
theorem ups_hit {p : Int → Bool} {k : Nat} (h : p k = true) : ups p (k + 1) = ups p k ++ [(k : Int)] := by simp [ups, h]
theorem ups_miss {p : Int → Bool} {k : Nat} (h : p k = false) : ups p (k + 1) = ups p k := by simp [ups, h]
theorem mem_ups {p : Int → Bool} {x : Int} : ∀ {k : Nat}, x ∈ ups p k ↔ 0 ≤ x ∧ x < (k : Int) ∧ p x = true
  | 0 => by simp [ups]; intro h1 h2; omega
  | k + 1 => by
    have ih := @mem_ups p x k
    unfold ups
    by_cases h : p k = true
    · rw [if_pos h, List.mem_append, ih, List.mem_singleton]
      constructor
      · rintro (⟨h1, h2, h3⟩ | rfl)
        · exact ⟨h1, by omega, h3⟩
        · exact ⟨by omega, by omega, h⟩
      · rintro ⟨h1, h2, h3⟩
        by_cases e : x = (k : Int)
        · exact .inr e
        · exact .inl ⟨h1, by omega, h3⟩
    · rw [if_neg h, ih]
      constructor
      · rintro ⟨h1, h2, h3⟩; exact ⟨h1, by omega, h3⟩
      · rintro ⟨h1, h2, h3⟩
        refine ⟨h1, ?_, h3⟩
        by_cases e : x = (k : Int)
        · subst e; exact absurd h3 h
        · omega
def outP (t : Topo) (n : Int) (a : Int) : Bool := tail t a == n
def inP (t : Topo) (n : Int) (a : Int) : Bool := head t a == n
theorem TBox.start {w : World} {A1 A2 : Option Addr} {t : Topo} (c1 c2 : Nat) (hT : TAt w A1 A2 t) :
    TBox w A1 A2 c1 c2 t (w.alloc (.cells #[.int .i64 t.n, .slice A1 t.ov.length c1, .slice A2 t.ls.length c2] 25)) :=
  ⟨box0 .., box1 .., box2 .., hT.below (below_box ..), below_box ..⟩
theorem intInfo : (Try.prog.info? 3).map (fun i => (i.zero, i.size, i.bytes)) = some (some (.int .i64 0), 1, 8) := by kernel_rfl
/-- Below a bound that may lie above the box's block. -/
theorem keep_box {w wr w' : World} {A1 A2 : Option Addr} {c1 c2 : Nat} {t : Topo} (h : TBox w A1 A2 c1 c2 t wr) (hb : Below (w.heap.size + 1) wr w') (hT : TAt w A1 A2 t) : TBox w A1 A2 c1 c2 t w' := by
  have hb' : Below w.heap.size w w' := h.hb.trans (hb.mono (by omega))
  exact ⟨(hb.cell (by simp)).trans h.b0, (hb.cell (by simp)).trans h.b1, (hb.cell (by simp)).trans h.b2, hT.below hb', hb'⟩
theorem own_up {w w' : World} {base : Nat} {E : TypeId} {size : Nat} {v : Value} {n : Nat} {xs : List Value} (h : w.ownsRow base E size v n xs) (hb : Below w.heap.size w w') : w'.ownsRow base E size v n xs := by
  rcases h with ⟨hl, h0 | ⟨g, cap, cur, hv, hB, hg, rest⟩⟩
  · exact ⟨hl, .inl h0⟩
  · exact ⟨hl, .inr ⟨g, cap, cur, hv, hB, (hb.block g (Array.getElem?_eq_some_iff.1 hg).1).trans hg, rest⟩⟩
/-- One append of a number. -/
theorem own_next {B : Nat} {E : TypeId} {wr w1 : World} {v v' : Value} {xs : List Int} {o : Obj} {x : Int} (hown : wr.ownsRow B E 1 v xs.length (xs.map (Value.int .i64))) (hB : B ≤ wr.heap.size)
    (h1 : w1.ownsRow B E 1 v' (xs.length + 1) (xs.map (Value.int .i64) ++ [.int .i64 x])) (hg : (wr.alloc o).grownBy w1 v.ownBlock) :
    w1.ownsRow B E 1 v' (xs ++ [x]).length ((xs ++ [x]).map (Value.int .i64)) ∧ Below B wr w1 := by
  refine ⟨by simpa using h1, ?_⟩
  exact ((Below.refl B wr).alloc hB o).grown hg (by simp; omega) (fun k hk => (hown.lt k hk).1)
theorem below_drw {B : Nat} {a w : World} (h : Below B a w) (n : Nat) : Below B a (w.drewN n) := h.trans ⟨rfl, rfl, rfl, Nat.le_refl _, fun _ _ => rfl⟩
theorem ints_at {w : World} {A : Option Addr} {xs : List Int} {k : Nat} (h : Rd w A (xs.map (Value.int .i64))) (hk : k < xs.length) : ∃ b o x, A = some ⟨b, o, none⟩ ∧ xs[k]? = some x ∧ w.cell? ⟨b, o + k, none⟩ = some (.int .i64 x) := by
  obtain ⟨b, o, hA, hc⟩ := h.at_ (k := k) (u := .int .i64 xs[k]) (by simp [List.getElem?_eq_getElem hk])
  exact ⟨b, o, xs[k], hA, List.getElem?_eq_getElem hk, hc⟩
end Go.Proofs.Ytdnjflpmbnjgeaa
namespace Go.Proofs.Ytdnjflpmbnjgeaa
open Go.RowKit Go.Sort
set_option linter.unusedSimpArgs false
set_option linter.unusedVariables false
end Go.Proofs.Ytdnjflpmbnjgeaa
namespace Go.Proofs.Ytdnjflpmbnjgeaa
set_option linter.unusedSimpArgs false
set_option linter.unusedVariables false
open Go.RowKit Go.Sort Go.ChangeMaps Go.MapKept
open Go.Maps (Keyed)
/-- What code keeps that writes into the blocks X and makes memory: all other blocks. -/
structure Kp (X : List Nat) (W W' : World) : Prop where
  os : W'.os = W.os
  tape : W'.tape = W.tape
  output : W'.output = W.output
  size : W.heap.size ≤ W'.heap.size
  blk : ∀ k, k < W.heap.size → k ∉ X → W'.heap[k]? = W.heap[k]?
theorem Kp.refl (X : List Nat) (W : World) : Kp X W W := ⟨rfl, rfl, rfl, Nat.le_refl _, fun _ _ _ => rfl⟩
theorem Kp.trans {X : List Nat} {A B C : World} (h : Kp X A B) (g : Kp X B C) : Kp X A C :=
  ⟨g.os.trans h.os, g.tape.trans h.tape, g.output.trans h.output, Nat.le_trans h.size g.size, fun k hk hn => (g.blk k (Nat.lt_of_lt_of_le hk h.size) hn).trans (h.blk k hk hn)⟩
theorem Kp.of {X : List Nat} {W W' : World} (h : Below W.heap.size W W') : Kp X W W' := ⟨h.os, h.tape, h.output, h.size, fun k hk _ => h.block k hk⟩
theorem Kp.next {X : List Nat} {A B C : World} (h : Kp X A B) (g : Below B.heap.size B C) : Kp X A C := h.trans (Kp.of g)
theorem Kp.mono {X Y : List Nat} {A B : World} (h : Kp X A B) (hs : ∀ b ∈ X, b ∈ Y) : Kp Y A B := ⟨h.os, h.tape, h.output, h.size, fun k hk hn => h.blk k hk fun hm => hn (hs k hm)⟩
theorem Kp.trans' {X Y : List Nat} {A B C : World} (h : Kp X A B) (g : Kp Y B C) (hs : ∀ b ∈ Y, b ∈ X ∨ A.heap.size ≤ b) : Kp X A C :=
  ⟨g.os.trans h.os, g.tape.trans h.tape, g.output.trans h.output, Nat.le_trans h.size g.size, fun k hk hn => (g.blk k (Nat.lt_of_lt_of_le hk h.size) (fun hm => (hs k hm).elim hn (fun h => by omega))).trans (h.blk k hk hn)⟩
theorem Kp.alloc {X : List Nat} {W W' : World} (h : Kp X W W') (o : Obj) : Kp X W (W'.alloc o) := h.next (below_box W' o)
theorem Kp.drew {X : List Nat} {W W' : World} (h : Kp X W W') : Kp X W W'.drew := ⟨h.os, h.tape, h.output, h.size, h.blk⟩
theorem Kp.drewN {X : List Nat} {W W' : World} (h : Kp X W W') (n : Nat) : Kp X W (W'.drewN n) := ⟨h.os, h.tape, h.output, h.size, h.blk⟩
theorem Kp.set {X : List Nat} {W W' : World} {b j : Nat} (h : Kp X W W') (hX : b ∈ X ∨ W.heap.size ≤ b) (u : Value) : Kp X W (W'.setCell ⟨b, j, none⟩ u) :=
  ⟨h.os, h.tape, h.output, by simpa using h.size, fun k hk hn => (Below.heap_setCell _ _ _ _ (fun e => by
    have e' : k = b := e
    subst e'
    exact hX.elim hn (fun h => by omega))).trans (h.blk k hk hn)⟩
theorem Kp.map {X : List Nat} {W W1 W2 : World} {b : Nat} (h : Kp X W W1) (hg : W1.grownBy W2 (some b)) (hX : b ∈ X ∨ W.heap.size ≤ b) : Kp X W W2 :=
  ⟨hg.os.trans h.os, hg.tape.trans h.tape, hg.output.trans h.output, Nat.le_trans h.size hg.size, fun k hk hn => (hg.block k (Nat.lt_of_lt_of_le hk h.size) (fun e => by
    injection e with e
    subst e
    exact hX.elim hn (fun h => by omega))).trans (h.blk k hk hn)⟩
theorem Kp.below {X : List Nat} {n0 : Nat} {w W W' : World} (h : Kp X W W') (hb : Below n0 w W) (h1 : n0 ≤ W.heap.size) (h2 : ∀ b ∈ X, n0 ≤ b) : Below n0 w W' :=
  ⟨h.os.trans hb.os, h.tape.trans hb.tape, h.output.trans hb.output, Nat.le_trans hb.size h.size, fun k hk => (h.blk k (by omega) (fun hm => by have := h2 k hm; omega)).trans (hb.block k hk)⟩
theorem Bset {B b j : Nat} {a w : World} {v : Value} (h : Below B a w) (hb : B ≤ b) : Below B a (w.setCell ⟨b, j, none⟩ v) := h.setCell hb _
theorem Bdrw {B : Nat} {a w : World} (h : Below B a w) : Below B a w.drew := h.trans ⟨rfl, rfl, rfl, Nat.le_refl _, fun _ _ => rfl⟩
theorem Bbox {B : Nat} {a w : World} {o : Obj} (h : Below B a w) (hB : B ≤ w.heap.size) : Below B a (w.alloc o) := h.alloc hB o
theorem lt_blk {w : World} {b : Nat} {o : Obj} (h : w.heap[b]? = some o) : b < w.heap.size := (Array.getElem?_eq_some_iff.1 h).1
/-- Block b holds these cells. -/
def Bl (T : TypeId) (b : Nat) (cs : Array Value) (w : World) : Prop := w.heap[b]? = some (.cells cs T (0, 0))
theorem Bl.cell {T : TypeId} {b : Nat} {cs : Array Value} {w : World} (h : Bl T b cs w) (j : Nat) {v : Value} (hv : cs[j]? = some v) : w.cell? ⟨b, j, none⟩ = some v := (Lib.cell_of_heap h j).trans hv
theorem Bl.frz {T : TypeId} {b : Nat} {cs : Array Value} {w : World} (h : Bl T b cs w) (j : Nat) : w.frozen? ⟨b, j, none⟩ = false := Lib.frozen_of_heap h j
theorem Bl.lt {T : TypeId} {b : Nat} {cs : Array Value} {w : World} (h : Bl T b cs w) : b < w.heap.size := lt_blk h
theorem Bl.up {T : TypeId} {b : Nat} {cs : Array Value} {w w' : World} (h : Bl T b cs w) (hb : Below w.heap.size w w') : Bl T b cs w' := (hb.block b h.lt).trans h
theorem Bl.kp {T : TypeId} {b : Nat} {cs : Array Value} {w w' : World} {X : List Nat} (h : Bl T b cs w) (hb : Kp X w w') (hX : b ∉ X) : Bl T b cs w' := (hb.blk b h.lt hX).trans h
theorem Bl.new (w : World) (cs : Array Value) (T : TypeId) : Bl T w.heap.size cs (w.alloc (.cells cs T)) := heap_alloc_new w _
theorem Bl.set {T : TypeId} {b : Nat} {cs cs' : Array Value} {w : World} (h : Bl T b cs w) (j : Nat) (v : Value) (he : cs.setIfInBounds j v = cs') : Bl T b cs' (w.setCell ⟨b, j, none⟩ v) := by
  subst he
  exact heap_setCell_same w b j _ _ v h
theorem Bl.other {T : TypeId} {b c j : Nat} {cs : Array Value} {w : World} (h : Bl T b cs w) (hc : b ≠ c) (v : Value) : Bl T b cs (w.setCell ⟨c, j, none⟩ v) := (Below.heap_setCell _ _ _ _ hc).trans h
theorem below_two (w : World) (o p : Obj) : Below w.heap.size w ((w.alloc o).alloc p) := (below_box w o).trans ((below_box (w.alloc o) p).mono (by simp))
theorem Bl.c1 {T : TypeId} {b : Nat} {x0 : Value} {w : World} (h : Bl T b #[x0] w) : w.cell? ⟨b, 0, none⟩ = some x0 ∧ ∀ i, w.frozen? ⟨b, i, none⟩ = false :=
  ⟨h.cell 0 rfl, h.frz⟩
theorem Bl.c2 {T : TypeId} {b : Nat} {x0 x1 : Value} {w : World} (h : Bl T b #[x0, x1] w) : w.cell? ⟨b, 0, none⟩ = some x0 ∧ w.cell? ⟨b, 1, none⟩ = some x1 ∧ ∀ i, w.frozen? ⟨b, i, none⟩ = false :=
  ⟨h.cell 0 rfl, h.cell 1 rfl, h.frz⟩
theorem Bl.c3 {T : TypeId} {b : Nat} {x0 x1 x2 : Value} {w : World} (h : Bl T b #[x0, x1, x2] w) : w.cell? ⟨b, 0, none⟩ = some x0 ∧ w.cell? ⟨b, 1, none⟩ = some x1 ∧ w.cell? ⟨b, 2, none⟩ = some x2 ∧ ∀ i, w.frozen? ⟨b, i, none⟩ = false :=
  ⟨h.cell 0 rfl, h.cell 1 rfl, h.cell 2 rfl, h.frz⟩
theorem Bl.c4 {T : TypeId} {b : Nat} {x0 x1 x2 x3 : Value} {w : World} (h : Bl T b #[x0, x1, x2, x3] w) : w.cell? ⟨b, 0, none⟩ = some x0 ∧ w.cell? ⟨b, 1, none⟩ = some x1 ∧ w.cell? ⟨b, 2, none⟩ = some x2 ∧ w.cell? ⟨b, 3, none⟩ = some x3 ∧ ∀ i, w.frozen? ⟨b, i, none⟩ = false :=
  ⟨h.cell 0 rfl, h.cell 1 rfl, h.cell 2 rfl, h.cell 3 rfl, h.frz⟩
theorem Bl.c6 {T : TypeId} {b : Nat} {x0 x1 x2 x3 x4 x5 : Value} {w : World} (h : Bl T b #[x0, x1, x2, x3, x4, x5] w) : w.cell? ⟨b, 0, none⟩ = some x0 ∧ w.cell? ⟨b, 1, none⟩ = some x1 ∧ w.cell? ⟨b, 2, none⟩ = some x2 ∧ w.cell? ⟨b, 3, none⟩ = some x3 ∧ w.cell? ⟨b, 4, none⟩ = some x4 ∧ w.cell? ⟨b, 5, none⟩ = some x5 ∧ ∀ i, w.frozen? ⟨b, i, none⟩ = false :=
  ⟨h.cell 0 rfl, h.cell 1 rfl, h.cell 2 rfl, h.cell 3 rfl, h.cell 4 rfl, h.cell 5 rfl, h.frz⟩
theorem Bl.c7 {T : TypeId} {b : Nat} {x0 x1 x2 x3 x4 x5 x6 : Value} {w : World} (h : Bl T b #[x0, x1, x2, x3, x4, x5, x6] w) : w.cell? ⟨b, 0, none⟩ = some x0 ∧ w.cell? ⟨b, 1, none⟩ = some x1 ∧ w.cell? ⟨b, 2, none⟩ = some x2 ∧ w.cell? ⟨b, 3, none⟩ = some x3 ∧ w.cell? ⟨b, 4, none⟩ = some x4 ∧ w.cell? ⟨b, 5, none⟩ = some x5 ∧ w.cell? ⟨b, 6, none⟩ = some x6 ∧ ∀ i, w.frozen? ⟨b, i, none⟩ = false :=
  ⟨h.cell 0 rfl, h.cell 1 rfl, h.cell 2 rfl, h.cell 3 rfl, h.cell 4 rfl, h.cell 5 rfl, h.cell 6 rfl, h.frz⟩
/-- Block b is a map with these entries. -/
def MapAt (P : Program) (k : TypeId) (b : Nat) (L : List (Value × Value)) (w : World) : Prop :=
  ∃ es clock, w.heap[b]? = some (.map es clock) ∧ es.toList.map (fun e => (e.key, e.val)) = L ∧ (∀ x ∈ L, ∃ l, keyOf P k x.1 = some l) ∧ (L.map (·.1)).Nodup ∧ MapKept.Stamped es clock
theorem MapAt.made (P : Program) (k : TypeId) (w : World) : MapAt P k w.heap.size [] (w.alloc (.map #[] 0)) :=
  ⟨#[], 0, (MapKept.heap_alloc w _).1, rfl, by simp, by simp, MapKept.stamped_empty 0⟩
theorem MapAt.kept {P : Program} {k : TypeId} {b : Nat} {L : List (Value × Value)} {w w' : World} (h : MapAt P k b L w) (hb : w'.heap[b]? = w.heap[b]?) : MapAt P k b L w' := by
  obtain ⟨es, clock, h1, h2⟩ := h
  exact ⟨es, clock, hb.trans h1, h2⟩
theorem MapAt.lt {P : Program} {k : TypeId} {b : Nat} {L : List (Value × Value)} {w : World} (h : MapAt P k b L w) : b < w.heap.size := by
  obtain ⟨es, clock, h1, _⟩ := h
  exact (Array.getElem?_eq_some_iff.1 h1).1
theorem MapAt.miss {P : Program} {k e t : TypeId} {b : Nat} {L : List (Value × Value)} {w : World} (h : MapAt P k b L w) (K : Keyed P k) (ht : P.underlying t = some (.map k e)) {z : Value} (hz : (zeroValue e).run P w = .ok z w) {key : Value} {kl : Lit} (hkey : keyOf P k key = some kl) (c : Bool)
    (hm : ∀ x ∈ L, x.1 ≠ key) : (Instr.lookup t (.map (some b)) key c).run P w = .ok (if c then .tuple #[z, .bool false] else z) w := by
  obtain ⟨es, clock, hb, rfl, hk, _⟩ := h
  rcases K.find w hkey es.toList (fun e he => hk (e.key, e.val) (List.mem_map.2 ⟨e, he, rfl⟩)) with ⟨h1, h2⟩ | ⟨j, e0, h1, h2, h3⟩
  · simp [Instr.lookup, run_underlying ht, MapKept.run_getObj_map hb, K.check w _ hkey, h1, hz, Result.andThen]
  · exact absurd h3 (hm (e0.key, e0.val) (List.mem_map.2 ⟨e0, List.mem_of_getElem? h2, rfl⟩))
theorem MapAt.hit {P : Program} {k e t : TypeId} {b : Nat} {L : List (Value × Value)} {w : World} (h : MapAt P k b L w) (K : Keyed P k) (ht : P.underlying t = some (.map k e)) {key v : Value} {kl : Lit} (hkey : keyOf P k key = some kl) (c : Bool)
    (hm : (key, v) ∈ L) : (Instr.lookup t (.map (some b)) key c).run P w = .ok (if c then .tuple #[v, .bool true] else v) w := by
  obtain ⟨es, clock, hb, rfl, hk, hn, hst⟩ := h
  obtain ⟨e1, he1, h11⟩ := List.mem_map.1 hm
  injection h11 with h11 h12
  rcases K.find w hkey es.toList (fun e he => hk (e.key, e.val) (List.mem_map.2 ⟨e, he, rfl⟩)) with ⟨h1, h2⟩ | ⟨j, e0, h1, h2, h3⟩
  · exact absurd h11 (h2 e1 he1)
  · have hv : e0.val = v := by
      obtain ⟨i, hi, rfl⟩ := List.getElem_of_mem he1
      have hj := (List.getElem?_eq_some_iff.1 h2)
      obtain ⟨hj1, rfl⟩ := hj
      rw [List.map_map] at hn
      have := List.getElem_inj hn (i := i) (j := j) (h₀ := by simpa using hi) (h₁ := by simpa using hj1)
      simp only [List.getElem_map, Function.comp_apply] at this
      have e : i = j := this.1 (h11.trans h3.symm)
      subst e
      exact h12
    simp [Instr.lookup, run_underlying ht, MapKept.run_getObj_map hb, K.check w _ hkey, h1, hv, Result.andThen]
theorem MapAt.store {P : Program} {k e t : TypeId} {b : Nat} {L : List (Value × Value)} {w : World} (h : MapAt P k b L w) (K : Keyed P k) (ht : P.underlying t = some (.map k e)) {key : Value} {kl : Lit} (hkey : keyOf P k key = some kl) (v : Value)
    (hm : ∀ x ∈ L, x.1 ≠ key) : ∃ w', (Instr.mapUpdate t (.map (some b)) key v).run P w = .ok () w' ∧ MapAt P k b (L ++ [(key, v)]) w' ∧ w.grownBy w' (some b) := by
  obtain ⟨es, clock, hb, rfl, hk, hn, hst⟩ := h
  rcases K.find w hkey es.toList (fun e he => hk (e.key, e.val) (List.mem_map.2 ⟨e, he, rfl⟩)) with ⟨h1, h2⟩ | ⟨j, e0, h1, h2, h3⟩
  · refine ⟨setBlock w b (.map (es.push ⟨key, v, clock⟩) (clock + 1)), ?_, ⟨_, _, heap_setBlock_same hb _, by simp, ?_, ?_, MapKept.stamped_push hst (fun x hx => hm (x.key, x.val) (List.mem_map.2 ⟨x, hx, rfl⟩))⟩, ⟨rfl, rfl, rfl, by simp [setBlock], fun i _ hi => heap_setBlock_other hb _ (fun e => hi (by rw [e]))⟩⟩
    · simp [Instr.mapUpdate, run_underlying ht, MapKept.run_getObj_map hb, K.check w false hkey, h1, MapKept.run_setObj_map _ hb, Result.andThen, setBlock]
    · intro x hx
      rcases List.mem_append.1 hx with hx | hx
      · exact hk x hx
      · simp at hx; subst hx; exact ⟨_, hkey⟩
    · rw [List.map_append]
      refine List.nodup_append.2 ⟨hn, by simp, ?_⟩
      intro a ha b hb2
      simp at hb2
      obtain ⟨x, hx, rfl⟩ := List.mem_map.1 ha
      subst hb2
      exact hm x hx
  · exact absurd h3 (hm (e0.key, e0.val) (List.mem_map.2 ⟨e0, List.mem_of_getElem? h2, rfl⟩))
theorem MapAt.kp {P : Program} {k : TypeId} {b : Nat} {L : List (Value × Value)} {w w' : World} {X : List Nat} (h : MapAt P k b L w) (hb : Kp X w w') (hX : b ∉ X) : MapAt P k b L w' := h.kept (hb.blk b h.lt hX)
theorem MapAt.up {P : Program} {k : TypeId} {b : Nat} {L : List (Value × Value)} {w w' : World} (h : MapAt P k b L w) (hb : Below w.heap.size w w') : MapAt P k b L w' := h.kept (hb.block b h.lt)
end Go.Proofs.Ytdnjflpmbnjgeaa
namespace Go.Proofs.Ytdnjflpmbnjgeaa
set_option linter.unusedSimpArgs false
set_option linter.unusedVariables false
open Go.RowKit Go.Sort
end Go.Proofs.Ytdnjflpmbnjgeaa
namespace Go.Proofs.Ytdnjflpmbnjgeaa
set_option linter.unusedSimpArgs false
set_option linter.unusedVariables false
open Go.RowKit Go.Sort
end Go.Proofs.Ytdnjflpmbnjgeaa
namespace Go.Proofs.Ytdnjflpmbnjgeaa
set_option linter.unusedSimpArgs false
set_option linter.unusedVariables false
open Go.RowKit Go.Sort
end Go.Proofs.Ytdnjflpmbnjgeaa
namespace Go.Proofs.Ytdnjflpmbnjgeaa
set_option linter.unusedSimpArgs false
set_option linter.unusedVariables false
open Go.RowKit Go.Sort
theorem key_int : Go.Maps.Keyed Try.prog 3 := Go.Maps.int_keyed Try.underlying3
end Go.Proofs.Ytdnjflpmbnjgeaa
namespace Go.Proofs.Ytdnjflpmbnjgeaa
set_option linter.unusedSimpArgs false
set_option linter.unusedVariables false
open Go.RowKit Go.Sort
theorem Kp.grown {X : List Nat} {W W1 W2 : World} {r : Option Nat} (h : Kp X W W1) (hg : W1.grownBy W2 r) (hr : ∀ b, r = some b → b ∈ X ∨ W.heap.size ≤ b) : Kp X W W2 :=
  ⟨hg.os.trans h.os, hg.tape.trans h.tape, hg.output.trans h.output, Nat.le_trans h.size hg.size, fun k hk hn => (hg.block k (Nat.lt_of_lt_of_le hk h.size) (fun e => (hr k e.symm).elim hn (fun h => by omega))).trans (h.blk k hk hn)⟩
theorem Bl.grown {T : TypeId} {b : Nat} {cs : Array Value} {w w' : World} {r : Option Nat} (h : Bl T b cs w) (hg : w.grownBy w' r) (hne : some b ≠ r) : Bl T b cs w' := (hg.block b h.lt hne).trans h
theorem Bl.ne {T T' : TypeId} {b c : Nat} {cs cs' : Array Value} {w : World} (h : Bl T b cs w) (g : Bl T' c cs' w) (hs : cs.size ≠ cs'.size) : b ≠ c := by
  rintro rfl
  unfold Bl at h g
  rw [h] at g
  injection g with g
  injection g with g1 _ _
  exact hs (by rw [g1])
end Go.Proofs.Ytdnjflpmbnjgeaa
namespace Go.Proofs.Ytdnjflpmbnjgeaa
section
variable {P : Program} {l : List Oper} {Q : Exit → Act → World → Prop} {md : Region.Mode} {S : World → Prop}
theorem takeL {i : Nat} {oi : Oper} {v : Value} {fuel : Nat} {listed : Array Bool} {a : Act} {w : World} (hi : l[i]? = some oi)
    (hs : Region.noSelect l.toArray = true) (hf : Region.free md l.toArray listed i = true) (hr : (Region.ready md l.toArray listed).contains i = true)
    (hQ : ∀ c a w, Q (.panic c) (a.put oi.dst v) w → Q (.panic c) a w) (hy : YieldsIf P l.toArray S oi v a) (hS : S w)
    (h : wpAnyH P md l.toArray Q S fuel (listed.setIfInBounds i true) (a.put oi.dst v) w) : wpAnyH P md l.toArray Q S (fuel + 1) listed a w :=
  wpAnyH_take (by simpa using hi) hs hf hr hQ hy hS h
theorem consL {fuel : Nat} {listed : Array Bool} {a : Act} {w : World} {i : Nat} {o : Oper} {rs : List Nat} (ho : l[i]? = some o)
    (h : ∀ K' : Act → World → Prop, Shut (∀ a w, S w → (S w → wpAnyH P md l.toArray Q S fuel (listed.setIfInBounds i true) a w) → K' a w) → if Region.wanted o (yielded l.toArray a.tmps) = true then Oper.wp P o a w K' Q else K' (a.put o.dst undef) w)
    (hs : AllReadyH P md l.toArray Q S fuel listed a w rs) : AllReadyH P md l.toArray Q S fuel listed a w (i :: rs) :=
  AllReadyH.cons (by simpa using ho) h hs
end
end Go.Proofs.Ytdnjflpmbnjgeaa
