/-
  What code keeps that writes into some blocks and makes memory; blocks with known cells; a map that the code itself has made, as the list of its entries.
-/
import Derived.Test.YtenhliibmcmnbaaGreatOut
import Derived.Test.YtenhliibmcmnbaaGreatApp
import Derived.Maps.Own
import Derived.StringKeys
import Derived.MapKept
import Derived.Lib.Builder
import Derived.BigQuiet
import Derived.Deep.RegionHeld3
import Derived.LoopTactic
import Derived.Deep.CutBlock
import Derived.Deep.Cut
namespace Go.Proofs.YtenhliibmcmnbaaGreat
set_option linter.unusedSimpArgs false
set_option linter.unusedVariables false
open Go.RowKit Go.Sort Go.ChangeMaps Go.MapKept
open Go.Maps (Keyed)

/-- What code keeps that writes into the blocks X and makes memory: all other blocks. -/
structure Kp (X : List Nat) (W W' : World) : Prop where
  os : W'.os = W.os
  tape : W'.tape = W.tape
  output : W'.output = W.output
  size : W.heap.size ≤ W'.heap.size
  blk : ∀ k, k < W.heap.size → k ∉ X → W'.heap[k]? = W.heap[k]?
theorem Kp.refl (X : List Nat) (W : World) : Kp X W W := ⟨rfl, rfl, rfl, Nat.le_refl _, fun _ _ _ => rfl⟩
theorem Kp.trans {X : List Nat} {A B C : World} (h : Kp X A B) (g : Kp X B C) : Kp X A C :=
  ⟨g.os.trans h.os, g.tape.trans h.tape, g.output.trans h.output, Nat.le_trans h.size g.size, fun k hk hn => (g.blk k (Nat.lt_of_lt_of_le hk h.size) hn).trans (h.blk k hk hn)⟩
theorem Kp.of {X : List Nat} {W W' : World} (h : Below W.heap.size W W') : Kp X W W' := ⟨h.os, h.tape, h.output, h.size, fun k hk _ => h.block k hk⟩
theorem Kp.next {X : List Nat} {A B C : World} (h : Kp X A B) (g : Below B.heap.size B C) : Kp X A C := h.trans (Kp.of g)
theorem Kp.mono {X Y : List Nat} {A B : World} (h : Kp X A B) (hs : ∀ b ∈ X, b ∈ Y) : Kp Y A B := ⟨h.os, h.tape, h.output, h.size, fun k hk hn => h.blk k hk fun hm => hn (hs k hm)⟩
/-- Blocks that the code has made itself need not be named. -/
theorem Kp.less {X Y : List Nat} {A B : World} (h : Kp X A B) (hs : ∀ b ∈ X, b ∈ Y ∨ A.heap.size ≤ b) : Kp Y A B := ⟨h.os, h.tape, h.output, h.size, fun k hk hn => h.blk k hk fun hm => (hs k hm).elim hn (fun h => by omega)⟩
theorem Kp.trans' {X Y : List Nat} {A B C : World} (h : Kp X A B) (g : Kp Y B C) (hs : ∀ b ∈ Y, b ∈ X ∨ A.heap.size ≤ b) : Kp X A C :=
  ⟨g.os.trans h.os, g.tape.trans h.tape, g.output.trans h.output, Nat.le_trans h.size g.size, fun k hk hn => (g.blk k (Nat.lt_of_lt_of_le hk h.size) (fun hm => (hs k hm).elim hn (fun h => by omega))).trans (h.blk k hk hn)⟩
theorem Kp.alloc {X : List Nat} {W W' : World} (h : Kp X W W') (o : Obj) : Kp X W (W'.alloc o) := h.next (below_box W' o)
theorem Kp.drew {X : List Nat} {W W' : World} (h : Kp X W W') : Kp X W W'.drew := ⟨h.os, h.tape, h.output, h.size, h.blk⟩
theorem Kp.drewN {X : List Nat} {W W' : World} (h : Kp X W W') (n : Nat) : Kp X W (W'.drewN n) := ⟨h.os, h.tape, h.output, h.size, h.blk⟩
theorem Kp.set {X : List Nat} {W W' : World} {b j : Nat} (h : Kp X W W') (hX : b ∈ X ∨ W.heap.size ≤ b) (u : Value) : Kp X W (W'.setCell ⟨b, j, none⟩ u) :=
  ⟨h.os, h.tape, h.output, by simpa using h.size, fun k hk hn => (Below.heap_setCell _ _ _ _ (fun e => by
    have e' : k = b := e
    subst e'
    exact hX.elim hn (fun h => by omega))).trans (h.blk k hk hn)⟩
theorem Kp.map {X : List Nat} {W W1 W2 : World} {b : Nat} (h : Kp X W W1) (hg : W1.grownBy W2 (some b)) (hX : b ∈ X ∨ W.heap.size ≤ b) : Kp X W W2 :=
  ⟨hg.os.trans h.os, hg.tape.trans h.tape, hg.output.trans h.output, Nat.le_trans h.size hg.size, fun k hk hn => (hg.block k (Nat.lt_of_lt_of_le hk h.size) (fun e => by
    injection e with e
    subst e
    exact hX.elim hn (fun h => by omega))).trans (h.blk k hk hn)⟩
theorem Kp.below {X : List Nat} {n0 : Nat} {w W W' : World} (h : Kp X W W') (hb : Below n0 w W) (h1 : n0 ≤ W.heap.size) (h2 : ∀ b ∈ X, n0 ≤ b) : Below n0 w W' :=
  ⟨h.os.trans hb.os, h.tape.trans hb.tape, h.output.trans hb.output, Nat.le_trans hb.size h.size, fun k hk => (h.blk k (by omega) (fun hm => by have := h2 k hm; omega)).trans (hb.block k hk)⟩
theorem Kp.to_below {X : List Nat} {W W' : World} (h : Kp X W W') (h2 : ∀ b ∈ X, W.heap.size ≤ b) : Below W.heap.size W W' := h.below (Below.refl _ W) (Nat.le_refl _) h2
theorem Bset {B b j : Nat} {a w : World} {v : Value} (h : Below B a w) (hb : B ≤ b) : Below B a (w.setCell ⟨b, j, none⟩ v) := h.setCell hb _
theorem Bdrw {B : Nat} {a w : World} (h : Below B a w) : Below B a w.drew := h.trans ⟨rfl, rfl, rfl, Nat.le_refl _, fun _ _ => rfl⟩
theorem Bbox {B : Nat} {a w : World} {o : Obj} (h : Below B a w) (hB : B ≤ w.heap.size) : Below B a (w.alloc o) := h.alloc hB o
theorem Kset {X : List Nat} {b j : Nat} {a w : World} {v : Value} (h : Kp X a w) (hb : b ∈ X ∨ a.heap.size ≤ b) : Kp X a (w.setCell ⟨b, j, none⟩ v) := h.set hb v
theorem lt_blk {w : World} {b : Nat} {o : Obj} (h : w.heap[b]? = some o) : b < w.heap.size := (Array.getElem?_eq_some_iff.1 h).1

/-- Block b holds these cells. -/
def Bl (T : TypeId) (b : Nat) (cs : Array Value) (w : World) : Prop := w.heap[b]? = some (.cells cs T (0, 0))
theorem Bl.cell {T : TypeId} {b : Nat} {cs : Array Value} {w : World} (h : Bl T b cs w) (j : Nat) {v : Value} (hv : cs[j]? = some v) : w.cell? ⟨b, j, none⟩ = some v := (Lib.cell_of_heap h j).trans hv
theorem Bl.frz {T : TypeId} {b : Nat} {cs : Array Value} {w : World} (h : Bl T b cs w) (j : Nat) : w.frozen? ⟨b, j, none⟩ = false := Lib.frozen_of_heap h j
theorem Bl.lt {T : TypeId} {b : Nat} {cs : Array Value} {w : World} (h : Bl T b cs w) : b < w.heap.size := lt_blk h
theorem Bl.up {T : TypeId} {b : Nat} {cs : Array Value} {w w' : World} (h : Bl T b cs w) (hb : Below w.heap.size w w') : Bl T b cs w' := (hb.block b h.lt).trans h
theorem Bl.kp {T : TypeId} {b : Nat} {cs : Array Value} {w w' : World} {X : List Nat} (h : Bl T b cs w) (hb : Kp X w w') (hX : b ∉ X) : Bl T b cs w' := (hb.blk b h.lt hX).trans h
/-- The same where the world is spelled with draws. -/
theorem Bl.via {T : TypeId} {b : Nat} {cs : Array Value} {X w' : World} (hb : Below X.heap.size X w') (h : X.heap[b]? = some (.cells cs T (0, 0))) : Bl T b cs w' := Bl.up (w := X) h hb
theorem Bl.new (w : World) (cs : Array Value) (T : TypeId) : Bl T w.heap.size cs (w.alloc (.cells cs T)) := heap_alloc_new w _
theorem Bl.set {T : TypeId} {b : Nat} {cs cs' : Array Value} {w : World} (h : Bl T b cs w) (j : Nat) (v : Value) (he : cs.setIfInBounds j v = cs') : Bl T b cs' (w.setCell ⟨b, j, none⟩ v) := by
  subst he
  exact heap_setCell_same w b j _ _ v h
theorem Bl.other {T : TypeId} {b c j : Nat} {cs : Array Value} {w : World} (h : Bl T b cs w) (hc : b ≠ c) (v : Value) : Bl T b cs (w.setCell ⟨c, j, none⟩ v) := (Below.heap_setCell _ _ _ _ hc).trans h

theorem two_new (w : World) (cs1 cs2 : Array Value) (T1 T2 : TypeId) : Bl T1 w.heap.size cs1 ((w.alloc (.cells cs1 T1)).alloc (.cells cs2 T2)) ∧ Bl T2 (w.heap.size + 1) cs2 ((w.alloc (.cells cs1 T1)).alloc (.cells cs2 T2)) :=
  ⟨(Bl.new w cs1 T1).up (below_box _ _), by simpa using Bl.new (w.alloc (.cells cs1 T1)) cs2 T2⟩
theorem below_two (w : World) (o p : Obj) : Below w.heap.size w ((w.alloc o).alloc p) := (below_box w o).trans ((below_box (w.alloc o) p).mono (by simp))

theorem Bl.c1 {T : TypeId} {b : Nat} {x0 : Value} {w : World} (h : Bl T b #[x0] w) : w.cell? ⟨b, 0, none⟩ = some x0 ∧ ∀ i, w.frozen? ⟨b, i, none⟩ = false :=
  ⟨h.cell 0 rfl, h.frz⟩
theorem Bl.c2 {T : TypeId} {b : Nat} {x0 x1 : Value} {w : World} (h : Bl T b #[x0, x1] w) : w.cell? ⟨b, 0, none⟩ = some x0 ∧ w.cell? ⟨b, 1, none⟩ = some x1 ∧ ∀ i, w.frozen? ⟨b, i, none⟩ = false :=
  ⟨h.cell 0 rfl, h.cell 1 rfl, h.frz⟩
theorem Bl.c3 {T : TypeId} {b : Nat} {x0 x1 x2 : Value} {w : World} (h : Bl T b #[x0, x1, x2] w) : w.cell? ⟨b, 0, none⟩ = some x0 ∧ w.cell? ⟨b, 1, none⟩ = some x1 ∧ w.cell? ⟨b, 2, none⟩ = some x2 ∧ ∀ i, w.frozen? ⟨b, i, none⟩ = false :=
  ⟨h.cell 0 rfl, h.cell 1 rfl, h.cell 2 rfl, h.frz⟩
theorem Bl.c4 {T : TypeId} {b : Nat} {x0 x1 x2 x3 : Value} {w : World} (h : Bl T b #[x0, x1, x2, x3] w) : w.cell? ⟨b, 0, none⟩ = some x0 ∧ w.cell? ⟨b, 1, none⟩ = some x1 ∧ w.cell? ⟨b, 2, none⟩ = some x2 ∧ w.cell? ⟨b, 3, none⟩ = some x3 ∧ ∀ i, w.frozen? ⟨b, i, none⟩ = false :=
  ⟨h.cell 0 rfl, h.cell 1 rfl, h.cell 2 rfl, h.cell 3 rfl, h.frz⟩
theorem Bl.c6 {T : TypeId} {b : Nat} {x0 x1 x2 x3 x4 x5 : Value} {w : World} (h : Bl T b #[x0, x1, x2, x3, x4, x5] w) : w.cell? ⟨b, 0, none⟩ = some x0 ∧ w.cell? ⟨b, 1, none⟩ = some x1 ∧ w.cell? ⟨b, 2, none⟩ = some x2 ∧ w.cell? ⟨b, 3, none⟩ = some x3 ∧ w.cell? ⟨b, 4, none⟩ = some x4 ∧ w.cell? ⟨b, 5, none⟩ = some x5 ∧ ∀ i, w.frozen? ⟨b, i, none⟩ = false :=
  ⟨h.cell 0 rfl, h.cell 1 rfl, h.cell 2 rfl, h.cell 3 rfl, h.cell 4 rfl, h.cell 5 rfl, h.frz⟩
theorem Bl.c7 {T : TypeId} {b : Nat} {x0 x1 x2 x3 x4 x5 x6 : Value} {w : World} (h : Bl T b #[x0, x1, x2, x3, x4, x5, x6] w) : w.cell? ⟨b, 0, none⟩ = some x0 ∧ w.cell? ⟨b, 1, none⟩ = some x1 ∧ w.cell? ⟨b, 2, none⟩ = some x2 ∧ w.cell? ⟨b, 3, none⟩ = some x3 ∧ w.cell? ⟨b, 4, none⟩ = some x4 ∧ w.cell? ⟨b, 5, none⟩ = some x5 ∧ w.cell? ⟨b, 6, none⟩ = some x6 ∧ ∀ i, w.frozen? ⟨b, i, none⟩ = false :=
  ⟨h.cell 0 rfl, h.cell 1 rfl, h.cell 2 rfl, h.cell 3 rfl, h.cell 4 rfl, h.cell 5 rfl, h.cell 6 rfl, h.frz⟩
theorem Bl.c15 {T : TypeId} {b : Nat} {x0 x1 x2 x3 x4 x5 x6 x7 x8 x9 x10 x11 x12 x13 x14 : Value} {w : World} (h : Bl T b #[x0, x1, x2, x3, x4, x5, x6, x7, x8, x9, x10, x11, x12, x13, x14] w) : w.cell? ⟨b, 0, none⟩ = some x0 ∧ w.cell? ⟨b, 1, none⟩ = some x1 ∧ w.cell? ⟨b, 2, none⟩ = some x2 ∧ w.cell? ⟨b, 3, none⟩ = some x3 ∧ w.cell? ⟨b, 4, none⟩ = some x4 ∧ w.cell? ⟨b, 5, none⟩ = some x5 ∧ w.cell? ⟨b, 6, none⟩ = some x6 ∧ w.cell? ⟨b, 7, none⟩ = some x7 ∧ w.cell? ⟨b, 8, none⟩ = some x8 ∧ w.cell? ⟨b, 9, none⟩ = some x9 ∧ w.cell? ⟨b, 10, none⟩ = some x10 ∧ w.cell? ⟨b, 11, none⟩ = some x11 ∧ w.cell? ⟨b, 12, none⟩ = some x12 ∧ w.cell? ⟨b, 13, none⟩ = some x13 ∧ w.cell? ⟨b, 14, none⟩ = some x14 ∧ ∀ i, w.frozen? ⟨b, i, none⟩ = false :=
  ⟨h.cell 0 rfl, h.cell 1 rfl, h.cell 2 rfl, h.cell 3 rfl, h.cell 4 rfl, h.cell 5 rfl, h.cell 6 rfl, h.cell 7 rfl, h.cell 8 rfl, h.cell 9 rfl, h.cell 10 rfl, h.cell 11 rfl, h.cell 12 rfl, h.cell 13 rfl, h.cell 14 rfl, h.frz⟩
theorem Bl.c21 {T : TypeId} {b : Nat} {x0 x1 x2 x3 x4 x5 x6 x7 x8 x9 x10 x11 x12 x13 x14 x15 x16 x17 x18 x19 x20 : Value} {w : World} (h : Bl T b #[x0, x1, x2, x3, x4, x5, x6, x7, x8, x9, x10, x11, x12, x13, x14, x15, x16, x17, x18, x19, x20] w) : w.cell? ⟨b, 0, none⟩ = some x0 ∧ w.cell? ⟨b, 1, none⟩ = some x1 ∧ w.cell? ⟨b, 2, none⟩ = some x2 ∧ w.cell? ⟨b, 3, none⟩ = some x3 ∧ w.cell? ⟨b, 4, none⟩ = some x4 ∧ w.cell? ⟨b, 5, none⟩ = some x5 ∧ w.cell? ⟨b, 6, none⟩ = some x6 ∧ w.cell? ⟨b, 7, none⟩ = some x7 ∧ w.cell? ⟨b, 8, none⟩ = some x8 ∧ w.cell? ⟨b, 9, none⟩ = some x9 ∧ w.cell? ⟨b, 10, none⟩ = some x10 ∧ w.cell? ⟨b, 11, none⟩ = some x11 ∧ w.cell? ⟨b, 12, none⟩ = some x12 ∧ w.cell? ⟨b, 13, none⟩ = some x13 ∧ w.cell? ⟨b, 14, none⟩ = some x14 ∧ w.cell? ⟨b, 15, none⟩ = some x15 ∧ w.cell? ⟨b, 16, none⟩ = some x16 ∧ w.cell? ⟨b, 17, none⟩ = some x17 ∧ w.cell? ⟨b, 18, none⟩ = some x18 ∧ w.cell? ⟨b, 19, none⟩ = some x19 ∧ w.cell? ⟨b, 20, none⟩ = some x20 ∧ ∀ i, w.frozen? ⟨b, i, none⟩ = false :=
  ⟨h.cell 0 rfl, h.cell 1 rfl, h.cell 2 rfl, h.cell 3 rfl, h.cell 4 rfl, h.cell 5 rfl, h.cell 6 rfl, h.cell 7 rfl, h.cell 8 rfl, h.cell 9 rfl, h.cell 10 rfl, h.cell 11 rfl, h.cell 12 rfl, h.cell 13 rfl, h.cell 14 rfl, h.cell 15 rfl, h.cell 16 rfl, h.cell 17 rfl, h.cell 18 rfl, h.cell 19 rfl, h.cell 20 rfl, h.frz⟩

/-- Block b is a map with these entries. -/
def MapAt (P : Program) (k : TypeId) (b : Nat) (L : List (Value × Value)) (w : World) : Prop :=
  ∃ es clock, w.heap[b]? = some (.map es clock) ∧ es.toList.map (fun e => (e.key, e.val)) = L ∧ (∀ x ∈ L, ∃ l, keyOf P k x.1 = some l) ∧ (L.map (·.1)).Nodup ∧ MapKept.Stamped es clock
theorem MapAt.made (P : Program) (k : TypeId) (w : World) : MapAt P k w.heap.size [] (w.alloc (.map #[] 0)) :=
  ⟨#[], 0, (MapKept.heap_alloc w _).1, rfl, by simp, by simp, MapKept.stamped_empty 0⟩
theorem MapAt.kept {P : Program} {k : TypeId} {b : Nat} {L : List (Value × Value)} {w w' : World} (h : MapAt P k b L w) (hb : w'.heap[b]? = w.heap[b]?) : MapAt P k b L w' := by
  obtain ⟨es, clock, h1, h2⟩ := h
  exact ⟨es, clock, hb.trans h1, h2⟩
theorem MapAt.lt {P : Program} {k : TypeId} {b : Nat} {L : List (Value × Value)} {w : World} (h : MapAt P k b L w) : b < w.heap.size := by
  obtain ⟨es, clock, h1, _⟩ := h
  exact (Array.getElem?_eq_some_iff.1 h1).1
theorem MapAt.miss {P : Program} {k e t : TypeId} {b : Nat} {L : List (Value × Value)} {w : World} (h : MapAt P k b L w) (K : Keyed P k) (ht : P.underlying t = some (.map k e)) {z : Value} (hz : (zeroValue e).run P w = .ok z w) {key : Value} {kl : Lit} (hkey : keyOf P k key = some kl) (c : Bool)
    (hm : ∀ x ∈ L, x.1 ≠ key) : (Instr.lookup t (.map (some b)) key c).run P w = .ok (if c then .tuple #[z, .bool false] else z) w := by
  obtain ⟨es, clock, hb, rfl, hk, _⟩ := h
  rcases K.find w hkey es.toList (fun e he => hk (e.key, e.val) (List.mem_map.2 ⟨e, he, rfl⟩)) with ⟨h1, h2⟩ | ⟨j, e0, h1, h2, h3⟩
  · simp [Instr.lookup, run_underlying ht, MapKept.run_getObj_map hb, K.check w _ hkey, h1, hz, Result.andThen]
  · exact absurd h3 (hm (e0.key, e0.val) (List.mem_map.2 ⟨e0, List.mem_of_getElem? h2, rfl⟩))
theorem MapAt.hit {P : Program} {k e t : TypeId} {b : Nat} {L : List (Value × Value)} {w : World} (h : MapAt P k b L w) (K : Keyed P k) (ht : P.underlying t = some (.map k e)) {key v : Value} {kl : Lit} (hkey : keyOf P k key = some kl) (c : Bool)
    (hm : (key, v) ∈ L) : (Instr.lookup t (.map (some b)) key c).run P w = .ok (if c then .tuple #[v, .bool true] else v) w := by
  obtain ⟨es, clock, hb, rfl, hk, hn, hst⟩ := h
  obtain ⟨e1, he1, h11⟩ := List.mem_map.1 hm
  injection h11 with h11 h12
  rcases K.find w hkey es.toList (fun e he => hk (e.key, e.val) (List.mem_map.2 ⟨e, he, rfl⟩)) with ⟨h1, h2⟩ | ⟨j, e0, h1, h2, h3⟩
  · exact absurd h11 (h2 e1 he1)
  · have hv : e0.val = v := by
      obtain ⟨i, hi, rfl⟩ := List.getElem_of_mem he1
      have hj := (List.getElem?_eq_some_iff.1 h2)
      obtain ⟨hj1, rfl⟩ := hj
      rw [List.map_map] at hn
      have := List.getElem_inj hn (i := i) (j := j) (h₀ := by simpa using hi) (h₁ := by simpa using hj1)
      simp only [List.getElem_map, Function.comp_apply] at this
      have e : i = j := this.1 (h11.trans h3.symm)
      subst e
      exact h12
    simp [Instr.lookup, run_underlying ht, MapKept.run_getObj_map hb, K.check w _ hkey, h1, hv, Result.andThen]
theorem MapAt.store {P : Program} {k e t : TypeId} {b : Nat} {L : List (Value × Value)} {w : World} (h : MapAt P k b L w) (K : Keyed P k) (ht : P.underlying t = some (.map k e)) {key : Value} {kl : Lit} (hkey : keyOf P k key = some kl) (v : Value)
    (hm : ∀ x ∈ L, x.1 ≠ key) : ∃ w', (Instr.mapUpdate t (.map (some b)) key v).run P w = .ok () w' ∧ MapAt P k b (L ++ [(key, v)]) w' ∧ w.grownBy w' (some b) := by
  obtain ⟨es, clock, hb, rfl, hk, hn, hst⟩ := h
  rcases K.find w hkey es.toList (fun e he => hk (e.key, e.val) (List.mem_map.2 ⟨e, he, rfl⟩)) with ⟨h1, h2⟩ | ⟨j, e0, h1, h2, h3⟩
  · refine ⟨setBlock w b (.map (es.push ⟨key, v, clock⟩) (clock + 1)), ?_, ⟨_, _, heap_setBlock_same hb _, by simp, ?_, ?_, MapKept.stamped_push hst (fun x hx => hm (x.key, x.val) (List.mem_map.2 ⟨x, hx, rfl⟩))⟩, ⟨rfl, rfl, rfl, by simp [setBlock], fun i _ hi => heap_setBlock_other hb _ (fun e => hi (by rw [e]))⟩⟩
    · simp [Instr.mapUpdate, run_underlying ht, MapKept.run_getObj_map hb, K.check w false hkey, h1, MapKept.run_setObj_map _ hb, Result.andThen, setBlock]
    · intro x hx
      rcases List.mem_append.1 hx with hx | hx
      · exact hk x hx
      · simp at hx; subst hx; exact ⟨_, hkey⟩
    · rw [List.map_append]
      refine List.nodup_append.2 ⟨hn, by simp, ?_⟩
      intro a ha b hb2
      simp at hb2
      obtain ⟨x, hx, rfl⟩ := List.mem_map.1 ha
      subst hb2
      exact hm x hx
  · exact absurd h3 (hm (e0.key, e0.val) (List.mem_map.2 ⟨e0, List.mem_of_getElem? h2, rfl⟩))
theorem run_equalIn_map_nil {P : Program} (w : World) (d : Nat) (t k e : TypeId) (a : Option Nat) (h : P.underlying t = some (.map k e)) :
    (Op.equalIn (d + 1) t (.map a) (.map none)).run P w = .ok a.isNone w := by
  cases a <;> simp [Op.equalIn, run_underlying h]
theorem run_eql_map_nil {P : Program} (w : World) (t k e : TypeId) (a : Option Nat) (h : P.underlying t = some (.map k e)) :
    (binOp .eql t (.map a) (.map none)).run P w = .ok (.bool a.isNone) w := by
  simp only [binOp]
  simp [Op.equal, Op.maxDepth, run_equalIn_map_nil w 9999 t k e a h]
/-- The same map as the library's contracts take it: of its elements nothing is read. -/
def anyR (_ : Value) : Option (DataW Unit × List MemPlace) := some (DataW.nil, [])
def mapD (P : Program) (k : TypeId) (L : List (Value × Value)) : DataW Unit := .map ((L.map fun x => ((keyOf P k x.1).getD (.bool false), (DataW.nil : DataW Unit))).foldr DataW.insert [])
theorem MapAt.owns {P : Program} {k : TypeId} {b : Nat} {L : List (Value × Value)} {w : World} (h : MapAt P k b L w) (hl : L.length ≤ maxLen) : w.ownsMap P k anyR b L.length (mapD P k L) := by
  obtain ⟨es, clock, hb, rfl, hk, hn, hst⟩ := h
  have hr : ∀ x ∈ es.toList, Go.WideElems.rg P k anyR x = ((keyOf P k x.key).getD (.bool false), DataW.nil) := by
    intro x hx
    obtain ⟨l, hl⟩ := hk (x.key, x.val) (List.mem_map.2 ⟨x, hx, rfl⟩)
    simp only at hl
    simp [Go.WideElems.rg, Go.WideElems.rd, hl, anyR]
  refine ⟨es, clock, hb, ⟨by simpa using hl, hst, fun x hx => ?_⟩, by simp, ?_⟩
  · obtain ⟨l, hl⟩ := hk (x.key, x.val) (List.mem_map.2 ⟨x, hx, rfl⟩)
    simp only at hl
    exact ⟨(l, DataW.nil), by simp [Go.WideElems.rd, hl, anyR]⟩
  · unfold mapD
    rw [List.map_map]
    congr 2
    exact List.map_congr_left fun x hx => (hr x hx).symm
theorem MapAt.kp {P : Program} {k : TypeId} {b : Nat} {L : List (Value × Value)} {w w' : World} {X : List Nat} (h : MapAt P k b L w) (hb : Kp X w w') (hX : b ∉ X) : MapAt P k b L w' := h.kept (hb.blk b h.lt hX)
theorem MapAt.up {P : Program} {k : TypeId} {b : Nat} {L : List (Value × Value)} {w w' : World} (h : MapAt P k b L w) (hb : Below w.heap.size w w') : MapAt P k b L w' := h.kept (hb.block b h.lt)

end Go.Proofs.YtenhliibmcmnbaaGreat
