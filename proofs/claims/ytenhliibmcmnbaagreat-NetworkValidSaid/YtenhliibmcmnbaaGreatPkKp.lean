/-
  What code keeps that writes into some blocks and makes memory; blocks with known cells; a map that the code itself has made, as the list of its entries.
  Small functions of the packages stages, lsdb, flood, origin, lsa, speaker, graph.
  slices.Clone at the element types of the program (printed by gen_clone.py).
  The originator of a node that has just been made, and its first advertisement.
  The first advertisement of a node: Current, Install.
  slices.Sorted(maps.Keys(m)): the origins of a database, the neighbours of a flooder.
  The first advertisement of a node is installed and spread.
-/
import Derived.Test.YtenhliibmcmnbaaGreatPkBase
import Derived.Maps.Own
import Derived.StringKeys
import Derived.MapKept
import Derived.Lib.Builder
import Derived.BigQuiet
import Derived.Deep.RegionHeld3
import Derived.LoopTactic
import Derived.Deep.CutBlock
import Derived.Deep.Cut
import Derived.Lib.SliceRun
import Derived.Maps.Keyed
import Derived.Test.YtenhliibmcmnbaaGreatKeys
import Derived.Shelf.SlIterI.Nil
import Derived.Shelf.SortM.Plain
import Derived.Shelf.SortM.SortNone
import Derived.TacticsInMore
namespace Go.Proofs.YtenhliibmcmnbaaGreat
set_option linter.unusedSimpArgs false
set_option linter.unusedVariables false
open Go.RowKit Go.Sort Go.ChangeMaps Go.MapKept
open Go.Maps (Keyed)
/-- What code keeps that writes into the blocks X and makes memory: all other blocks. -/
structure Kp (X : List Nat) (W W' : World) : Prop where
 os : W'.os = W.os
 tape : W'.tape = W.tape
 output : W'.output = W.output
 size : W.heap.size ≤ W'.heap.size
 blk : ∀ k, k < W.heap.size → k ∉ X → W'.heap[k]? = W.heap[k]?
theorem Kp.refl (X : List Nat) (W : World) : Kp X W W := ⟨rfl, rfl, rfl, Nat.le_refl _, fun _ _ _ => rfl⟩
theorem Kp.trans {X : List Nat} {A B C : World} (h : Kp X A B) (g : Kp X B C) : Kp X A C :=
 ⟨g.os.trans h.os, g.tape.trans h.tape, g.output.trans h.output, Nat.le_trans h.size g.size, fun k hk hn => (g.blk k (Nat.lt_of_lt_of_le hk h.size) hn).trans (h.blk k hk hn)⟩
theorem Kp.of {X : List Nat} {W W' : World} (h : Below W.heap.size W W') : Kp X W W' := ⟨h.os, h.tape, h.output, h.size, fun k hk _ => h.block k hk⟩
theorem Kp.next {X : List Nat} {A B C : World} (h : Kp X A B) (g : Below B.heap.size B C) : Kp X A C := h.trans (Kp.of g)
theorem Kp.mono {X Y : List Nat} {A B : World} (h : Kp X A B) (hs : ∀ b ∈ X, b ∈ Y) : Kp Y A B := ⟨h.os, h.tape, h.output, h.size, fun k hk hn => h.blk k hk fun hm => hn (hs k hm)⟩
theorem Kp.alloc {X : List Nat} {W W' : World} (h : Kp X W W') (o : Obj) : Kp X W (W'.alloc o) := h.next (below_box W' o)
theorem Kp.drew {X : List Nat} {W W' : World} (h : Kp X W W') : Kp X W W'.drew := ⟨h.os, h.tape, h.output, h.size, h.blk⟩
theorem Kp.drewN {X : List Nat} {W W' : World} (h : Kp X W W') (n : Nat) : Kp X W (W'.drewN n) := ⟨h.os, h.tape, h.output, h.size, h.blk⟩
theorem Kp.set {X : List Nat} {W W' : World} {b j : Nat} (h : Kp X W W') (hX : b ∈ X ∨ W.heap.size ≤ b) (u : Value) : Kp X W (W'.setCell ⟨b, j, none⟩ u) :=
 ⟨h.os, h.tape, h.output, by simpa using h.size, fun k hk hn => (Below.heap_setCell _ _ _ _ (fun e => by
  have e' : k = b := e
  subst e'
  exact hX.elim hn (fun h => by omega))).trans (h.blk k hk hn)⟩
theorem Kp.map {X : List Nat} {W W1 W2 : World} {b : Nat} (h : Kp X W W1) (hg : W1.grownBy W2 (some b)) (hX : b ∈ X ∨ W.heap.size ≤ b) : Kp X W W2 :=
 ⟨hg.os.trans h.os, hg.tape.trans h.tape, hg.output.trans h.output, Nat.le_trans h.size hg.size, fun k hk hn => (hg.block k (Nat.lt_of_lt_of_le hk h.size) (fun e => by
  injection e with e
  subst e
  exact hX.elim hn (fun h => by omega))).trans (h.blk k hk hn)⟩
theorem Kp.below {X : List Nat} {n0 : Nat} {w W W' : World} (h : Kp X W W') (hb : Below n0 w W) (h1 : n0 ≤ W.heap.size) (h2 : ∀ b ∈ X, n0 ≤ b) : Below n0 w W' :=
 ⟨h.os.trans hb.os, h.tape.trans hb.tape, h.output.trans hb.output, Nat.le_trans hb.size h.size, fun k hk => (h.blk k (by omega) (fun hm => by have := h2 k hm; omega)).trans (hb.block k hk)⟩
theorem Bset {B b j : Nat} {a w : World} {v : Value} (h : Below B a w) (hb : B ≤ b) : Below B a (w.setCell ⟨b, j, none⟩ v) := h.setCell hb _
theorem Bdrw {B : Nat} {a w : World} (h : Below B a w) : Below B a w.drew := h.trans ⟨rfl, rfl, rfl, Nat.le_refl _, fun _ _ => rfl⟩
theorem Bbox {B : Nat} {a w : World} {o : Obj} (h : Below B a w) (hB : B ≤ w.heap.size) : Below B a (w.alloc o) := h.alloc hB o
theorem Kset {X : List Nat} {b j : Nat} {a w : World} {v : Value} (h : Kp X a w) (hb : b ∈ X ∨ a.heap.size ≤ b) : Kp X a (w.setCell ⟨b, j, none⟩ v) := h.set hb v
theorem lt_blk {w : World} {b : Nat} {o : Obj} (h : w.heap[b]? = some o) : b < w.heap.size := (Array.getElem?_eq_some_iff.1 h).1
/-- Block b holds these cells. -/
def Bl (T : TypeId) (b : Nat) (cs : Array Value) (w : World) : Prop := w.heap[b]? = some (.cells cs T (0, 0))
theorem Bl.cell {T : TypeId} {b : Nat} {cs : Array Value} {w : World} (h : Bl T b cs w) (j : Nat) {v : Value} (hv : cs[j]? = some v) : w.cell? ⟨b, j, none⟩ = some v := (Lib.cell_of_heap h j).trans hv
theorem Bl.frz {T : TypeId} {b : Nat} {cs : Array Value} {w : World} (h : Bl T b cs w) (j : Nat) : w.frozen? ⟨b, j, none⟩ = false := Lib.frozen_of_heap h j
theorem Bl.lt {T : TypeId} {b : Nat} {cs : Array Value} {w : World} (h : Bl T b cs w) : b < w.heap.size := lt_blk h
theorem Bl.up {T : TypeId} {b : Nat} {cs : Array Value} {w w' : World} (h : Bl T b cs w) (hb : Below w.heap.size w w') : Bl T b cs w' := (hb.block b h.lt).trans h
theorem Bl.kp {T : TypeId} {b : Nat} {cs : Array Value} {w w' : World} {X : List Nat} (h : Bl T b cs w) (hb : Kp X w w') (hX : b ∉ X) : Bl T b cs w' := (hb.blk b h.lt hX).trans h
/-- The same where the world is spelled with draws. -/
theorem Bl.via {T : TypeId} {b : Nat} {cs : Array Value} {X w' : World} (hb : Below X.heap.size X w') (h : X.heap[b]? = some (.cells cs T (0, 0))) : Bl T b cs w' := Bl.up (w := X) h hb
theorem Bl.new (w : World) (cs : Array Value) (T : TypeId) : Bl T w.heap.size cs (w.alloc (.cells cs T)) := heap_alloc_new w _
theorem Bl.set {T : TypeId} {b : Nat} {cs cs' : Array Value} {w : World} (h : Bl T b cs w) (j : Nat) (v : Value) (he : cs.setIfInBounds j v = cs') : Bl T b cs' (w.setCell ⟨b, j, none⟩ v) := by
 subst he
 exact heap_setCell_same w b j _ _ v h
theorem Bl.other {T : TypeId} {b c j : Nat} {cs : Array Value} {w : World} (h : Bl T b cs w) (hc : b ≠ c) (v : Value) : Bl T b cs (w.setCell ⟨c, j, none⟩ v) := (Below.heap_setCell _ _ _ _ hc).trans h
theorem two_new (w : World) (cs1 cs2 : Array Value) (T1 T2 : TypeId) : Bl T1 w.heap.size cs1 ((w.alloc (.cells cs1 T1)).alloc (.cells cs2 T2)) ∧ Bl T2 (w.heap.size + 1) cs2 ((w.alloc (.cells cs1 T1)).alloc (.cells cs2 T2)) :=
 ⟨(Bl.new w cs1 T1).up (below_box _ _), by simpa using Bl.new (w.alloc (.cells cs1 T1)) cs2 T2⟩
theorem below_two (w : World) (o p : Obj) : Below w.heap.size w ((w.alloc o).alloc p) := (below_box w o).trans ((below_box (w.alloc o) p).mono (by simp))
theorem Bl.c1 {T : TypeId} {b : Nat} {x0 : Value} {w : World} (h : Bl T b #[x0] w) : w.cell? ⟨b, 0, none⟩ = some x0 ∧ ∀ i, w.frozen? ⟨b, i, none⟩ = false :=
 ⟨h.cell 0 rfl, h.frz⟩
theorem Bl.c2 {T : TypeId} {b : Nat} {x0 x1 : Value} {w : World} (h : Bl T b #[x0, x1] w) : w.cell? ⟨b, 0, none⟩ = some x0 ∧ w.cell? ⟨b, 1, none⟩ = some x1 ∧ ∀ i, w.frozen? ⟨b, i, none⟩ = false :=
 ⟨h.cell 0 rfl, h.cell 1 rfl, h.frz⟩
theorem Bl.c3 {T : TypeId} {b : Nat} {x0 x1 x2 : Value} {w : World} (h : Bl T b #[x0, x1, x2] w) : w.cell? ⟨b, 0, none⟩ = some x0 ∧ w.cell? ⟨b, 1, none⟩ = some x1 ∧ w.cell? ⟨b, 2, none⟩ = some x2 ∧ ∀ i, w.frozen? ⟨b, i, none⟩ = false :=
 ⟨h.cell 0 rfl, h.cell 1 rfl, h.cell 2 rfl, h.frz⟩
theorem Bl.c4 {T : TypeId} {b : Nat} {x0 x1 x2 x3 : Value} {w : World} (h : Bl T b #[x0, x1, x2, x3] w) : w.cell? ⟨b, 0, none⟩ = some x0 ∧ w.cell? ⟨b, 1, none⟩ = some x1 ∧ w.cell? ⟨b, 2, none⟩ = some x2 ∧ w.cell? ⟨b, 3, none⟩ = some x3 ∧ ∀ i, w.frozen? ⟨b, i, none⟩ = false :=
 ⟨h.cell 0 rfl, h.cell 1 rfl, h.cell 2 rfl, h.cell 3 rfl, h.frz⟩
theorem Bl.c6 {T : TypeId} {b : Nat} {x0 x1 x2 x3 x4 x5 : Value} {w : World} (h : Bl T b #[x0, x1, x2, x3, x4, x5] w) : w.cell? ⟨b, 0, none⟩ = some x0 ∧ w.cell? ⟨b, 1, none⟩ = some x1 ∧ w.cell? ⟨b, 2, none⟩ = some x2 ∧ w.cell? ⟨b, 3, none⟩ = some x3 ∧ w.cell? ⟨b, 4, none⟩ = some x4 ∧ w.cell? ⟨b, 5, none⟩ = some x5 ∧ ∀ i, w.frozen? ⟨b, i, none⟩ = false :=
 ⟨h.cell 0 rfl, h.cell 1 rfl, h.cell 2 rfl, h.cell 3 rfl, h.cell 4 rfl, h.cell 5 rfl, h.frz⟩
theorem Bl.c7 {T : TypeId} {b : Nat} {x0 x1 x2 x3 x4 x5 x6 : Value} {w : World} (h : Bl T b #[x0, x1, x2, x3, x4, x5, x6] w) : w.cell? ⟨b, 0, none⟩ = some x0 ∧ w.cell? ⟨b, 1, none⟩ = some x1 ∧ w.cell? ⟨b, 2, none⟩ = some x2 ∧ w.cell? ⟨b, 3, none⟩ = some x3 ∧ w.cell? ⟨b, 4, none⟩ = some x4 ∧ w.cell? ⟨b, 5, none⟩ = some x5 ∧ w.cell? ⟨b, 6, none⟩ = some x6 ∧ ∀ i, w.frozen? ⟨b, i, none⟩ = false :=
 ⟨h.cell 0 rfl, h.cell 1 rfl, h.cell 2 rfl, h.cell 3 rfl, h.cell 4 rfl, h.cell 5 rfl, h.cell 6 rfl, h.frz⟩
theorem Bl.c15 {T : TypeId} {b : Nat} {x0 x1 x2 x3 x4 x5 x6 x7 x8 x9 x10 x11 x12 x13 x14 : Value} {w : World} (h : Bl T b #[x0, x1, x2, x3, x4, x5, x6, x7, x8, x9, x10, x11, x12, x13, x14] w) : w.cell? ⟨b, 0, none⟩ = some x0 ∧ w.cell? ⟨b, 1, none⟩ = some x1 ∧ w.cell? ⟨b, 2, none⟩ = some x2 ∧ w.cell? ⟨b, 3, none⟩ = some x3 ∧ w.cell? ⟨b, 4, none⟩ = some x4 ∧ w.cell? ⟨b, 5, none⟩ = some x5 ∧ w.cell? ⟨b, 6, none⟩ = some x6 ∧ w.cell? ⟨b, 7, none⟩ = some x7 ∧ w.cell? ⟨b, 8, none⟩ = some x8 ∧ w.cell? ⟨b, 9, none⟩ = some x9 ∧ w.cell? ⟨b, 10, none⟩ = some x10 ∧ w.cell? ⟨b, 11, none⟩ = some x11 ∧ w.cell? ⟨b, 12, none⟩ = some x12 ∧ w.cell? ⟨b, 13, none⟩ = some x13 ∧ w.cell? ⟨b, 14, none⟩ = some x14 ∧ ∀ i, w.frozen? ⟨b, i, none⟩ = false :=
 ⟨h.cell 0 rfl, h.cell 1 rfl, h.cell 2 rfl, h.cell 3 rfl, h.cell 4 rfl, h.cell 5 rfl, h.cell 6 rfl, h.cell 7 rfl, h.cell 8 rfl, h.cell 9 rfl, h.cell 10 rfl, h.cell 11 rfl, h.cell 12 rfl, h.cell 13 rfl, h.cell 14 rfl, h.frz⟩
theorem Bl.c21 {T : TypeId} {b : Nat} {x0 x1 x2 x3 x4 x5 x6 x7 x8 x9 x10 x11 x12 x13 x14 x15 x16 x17 x18 x19 x20 : Value} {w : World} (h : Bl T b #[x0, x1, x2, x3, x4, x5, x6, x7, x8, x9, x10, x11, x12, x13, x14, x15, x16, x17, x18, x19, x20] w) : w.cell? ⟨b, 0, none⟩ = some x0 ∧ w.cell? ⟨b, 1, none⟩ = some x1 ∧ w.cell? ⟨b, 2, none⟩ = some x2 ∧ w.cell? ⟨b, 3, none⟩ = some x3 ∧ w.cell? ⟨b, 4, none⟩ = some x4 ∧ w.cell? ⟨b, 5, none⟩ = some x5 ∧ w.cell? ⟨b, 6, none⟩ = some x6 ∧ w.cell? ⟨b, 7, none⟩ = some x7 ∧ w.cell? ⟨b, 8, none⟩ = some x8 ∧ w.cell? ⟨b, 9, none⟩ = some x9 ∧ w.cell? ⟨b, 10, none⟩ = some x10 ∧ w.cell? ⟨b, 11, none⟩ = some x11 ∧ w.cell? ⟨b, 12, none⟩ = some x12 ∧ w.cell? ⟨b, 13, none⟩ = some x13 ∧ w.cell? ⟨b, 14, none⟩ = some x14 ∧ w.cell? ⟨b, 15, none⟩ = some x15 ∧ w.cell? ⟨b, 16, none⟩ = some x16 ∧ w.cell? ⟨b, 17, none⟩ = some x17 ∧ w.cell? ⟨b, 18, none⟩ = some x18 ∧ w.cell? ⟨b, 19, none⟩ = some x19 ∧ w.cell? ⟨b, 20, none⟩ = some x20 ∧ ∀ i, w.frozen? ⟨b, i, none⟩ = false :=
 ⟨h.cell 0 rfl, h.cell 1 rfl, h.cell 2 rfl, h.cell 3 rfl, h.cell 4 rfl, h.cell 5 rfl, h.cell 6 rfl, h.cell 7 rfl, h.cell 8 rfl, h.cell 9 rfl, h.cell 10 rfl, h.cell 11 rfl, h.cell 12 rfl, h.cell 13 rfl, h.cell 14 rfl, h.cell 15 rfl, h.cell 16 rfl, h.cell 17 rfl, h.cell 18 rfl, h.cell 19 rfl, h.cell 20 rfl, h.frz⟩
/-- Block b is a map with these entries. -/
def MapAt (P : Program) (k : TypeId) (b : Nat) (L : List (Value × Value)) (w : World) : Prop :=
 ∃ es clock, w.heap[b]? = some (.map es clock) ∧ es.toList.map (fun e => (e.key, e.val)) = L ∧ (∀ x ∈ L, ∃ l, keyOf P k x.1 = some l) ∧ (L.map (·.1)).Nodup ∧ MapKept.Stamped es clock
theorem MapAt.made (P : Program) (k : TypeId) (w : World) : MapAt P k w.heap.size [] (w.alloc (.map #[] 0)) :=
 ⟨#[], 0, (MapKept.heap_alloc w _).1, rfl, by simp, by simp, MapKept.stamped_empty 0⟩
theorem MapAt.kept {P : Program} {k : TypeId} {b : Nat} {L : List (Value × Value)} {w w' : World} (h : MapAt P k b L w) (hb : w'.heap[b]? = w.heap[b]?) : MapAt P k b L w' := by
 obtain ⟨es, clock, h1, h2⟩ := h
 exact ⟨es, clock, hb.trans h1, h2⟩
theorem MapAt.lt {P : Program} {k : TypeId} {b : Nat} {L : List (Value × Value)} {w : World} (h : MapAt P k b L w) : b < w.heap.size := by
 obtain ⟨es, clock, h1, _⟩ := h
 exact (Array.getElem?_eq_some_iff.1 h1).1
theorem MapAt.miss {P : Program} {k e t : TypeId} {b : Nat} {L : List (Value × Value)} {w : World} (h : MapAt P k b L w) (K : Keyed P k) (ht : P.underlying t = some (.map k e)) {z : Value} (hz : (zeroValue e).run P w = .ok z w) {key : Value} {kl : Lit} (hkey : keyOf P k key = some kl) (c : Bool)
  (hm : ∀ x ∈ L, x.1 ≠ key) : (Instr.lookup t (.map (some b)) key c).run P w = .ok (if c then .tuple #[z, .bool false] else z) w := by
 obtain ⟨es, clock, hb, rfl, hk, _⟩ := h
 rcases K.find w hkey es.toList (fun e he => hk (e.key, e.val) (List.mem_map.2 ⟨e, he, rfl⟩)) with ⟨h1, h2⟩ | ⟨j, e0, h1, h2, h3⟩
 ·simp [Instr.lookup, run_underlying ht, MapKept.run_getObj_map hb, K.check w _ hkey, h1, hz, Result.andThen]
 ·exact absurd h3 (hm (e0.key, e0.val) (List.mem_map.2 ⟨e0, List.mem_of_getElem? h2, rfl⟩))
theorem MapAt.hit {P : Program} {k e t : TypeId} {b : Nat} {L : List (Value × Value)} {w : World} (h : MapAt P k b L w) (K : Keyed P k) (ht : P.underlying t = some (.map k e)) {key v : Value} {kl : Lit} (hkey : keyOf P k key = some kl) (c : Bool)
  (hm : (key, v) ∈ L) : (Instr.lookup t (.map (some b)) key c).run P w = .ok (if c then .tuple #[v, .bool true] else v) w := by
 obtain ⟨es, clock, hb, rfl, hk, hn, hst⟩ := h
 obtain ⟨e1, he1, h11⟩ := List.mem_map.1 hm
 injection h11 with h11 h12
 rcases K.find w hkey es.toList (fun e he => hk (e.key, e.val) (List.mem_map.2 ⟨e, he, rfl⟩)) with ⟨h1, h2⟩ | ⟨j, e0, h1, h2, h3⟩
 ·exact absurd h11 (h2 e1 he1)
 ·have hv : e0.val = v := by
   obtain ⟨i, hi, rfl⟩ := List.getElem_of_mem he1
   have hj := (List.getElem?_eq_some_iff.1 h2)
   obtain ⟨hj1, rfl⟩ := hj
   rw [List.map_map] at hn
   have := List.getElem_inj hn (i := i) (j := j) (h₀ := by simpa using hi) (h₁ := by simpa using hj1)
   simp only [List.getElem_map, Function.comp_apply] at this
   have e : i = j := this.1 (h11.trans h3.symm)
   subst e
   exact h12
  simp [Instr.lookup, run_underlying ht, MapKept.run_getObj_map hb, K.check w _ hkey, h1, hv, Result.andThen]
theorem MapAt.store {P : Program} {k e t : TypeId} {b : Nat} {L : List (Value × Value)} {w : World} (h : MapAt P k b L w) (K : Keyed P k) (ht : P.underlying t = some (.map k e)) {key : Value} {kl : Lit} (hkey : keyOf P k key = some kl) (v : Value)
  (hm : ∀ x ∈ L, x.1 ≠ key) : ∃ w', (Instr.mapUpdate t (.map (some b)) key v).run P w = .ok () w' ∧ MapAt P k b (L ++ [(key, v)]) w' ∧ w.grownBy w' (some b) := by
 obtain ⟨es, clock, hb, rfl, hk, hn, hst⟩ := h
 rcases K.find w hkey es.toList (fun e he => hk (e.key, e.val) (List.mem_map.2 ⟨e, he, rfl⟩)) with ⟨h1, h2⟩ | ⟨j, e0, h1, h2, h3⟩
 ·refine ⟨setBlock w b (.map (es.push ⟨key, v, clock⟩) (clock + 1)), ?_, ⟨_, _, heap_setBlock_same hb _, by simp, ?_, ?_, MapKept.stamped_push hst (fun x hx => hm (x.key, x.val) (List.mem_map.2 ⟨x, hx, rfl⟩))⟩, ⟨rfl, rfl, rfl, by simp [setBlock], fun i _ hi => heap_setBlock_other hb _ (fun e => hi (by rw [e]))⟩⟩
  ·simp [Instr.mapUpdate, run_underlying ht, MapKept.run_getObj_map hb, K.check w false hkey, h1, MapKept.run_setObj_map _ hb, Result.andThen, setBlock]
  ·intro x hx
   rcases List.mem_append.1 hx with hx | hx
   ·exact hk x hx
   ·simp at hx; subst hx; exact ⟨_, hkey⟩
  ·rw [List.map_append]
   refine List.nodup_append.2 ⟨hn, by simp, ?_⟩
   intro a ha b hb2
   simp at hb2
   obtain ⟨x, hx, rfl⟩ := List.mem_map.1 ha
   subst hb2
   exact hm x hx
 ·exact absurd h3 (hm (e0.key, e0.val) (List.mem_map.2 ⟨e0, List.mem_of_getElem? h2, rfl⟩))
theorem run_equalIn_map_nil {P : Program} (w : World) (d : Nat) (t k e : TypeId) (a : Option Nat) (h : P.underlying t = some (.map k e)) :
  (Op.equalIn (d + 1) t (.map a) (.map none)).run P w = .ok a.isNone w := by
 cases a <;> simp [Op.equalIn, run_underlying h]
theorem run_eql_map_nil {P : Program} (w : World) (t k e : TypeId) (a : Option Nat) (h : P.underlying t = some (.map k e)) :
  (binOp .eql t (.map a) (.map none)).run P w = .ok (.bool a.isNone) w := by
 simp only [binOp]
 simp [Op.equal, Op.maxDepth, run_equalIn_map_nil w 9999 t k e a h]
/-- The same map as the library's contracts take it: of its elements nothing is read. -/
def anyR (_ : Value) : Option (DataW Unit × List MemPlace) := some (DataW.nil, [])
def mapD (P : Program) (k : TypeId) (L : List (Value × Value)) : DataW Unit := .map ((L.map fun x => ((keyOf P k x.1).getD (.bool false), (DataW.nil : DataW Unit))).foldr DataW.insert [])
theorem MapAt.owns {P : Program} {k : TypeId} {b : Nat} {L : List (Value × Value)} {w : World} (h : MapAt P k b L w) (hl : L.length ≤ maxLen) : w.ownsMap P k anyR b L.length (mapD P k L) := by
 obtain ⟨es, clock, hb, rfl, hk, hn, hst⟩ := h
 have hr : ∀ x ∈ es.toList, Go.WideElems.rg P k anyR x = ((keyOf P k x.key).getD (.bool false), DataW.nil) := by
  intro x hx
  obtain ⟨l, hl⟩ := hk (x.key, x.val) (List.mem_map.2 ⟨x, hx, rfl⟩)
  simp only at hl
  simp [Go.WideElems.rg, Go.WideElems.rd, hl, anyR]
 refine ⟨es, clock, hb, ⟨by simpa using hl, hst, fun x hx => ?_⟩, by simp, ?_⟩
 ·obtain ⟨l, hl⟩ := hk (x.key, x.val) (List.mem_map.2 ⟨x, hx, rfl⟩)
  simp only at hl
  exact ⟨(l, DataW.nil), by simp [Go.WideElems.rd, hl, anyR]⟩
 ·unfold mapD
  rw [List.map_map]
  congr 2
  exact List.map_congr_left fun x hx => (hr x hx).symm
theorem MapAt.kp {P : Program} {k : TypeId} {b : Nat} {L : List (Value × Value)} {w w' : World} {X : List Nat} (h : MapAt P k b L w) (hb : Kp X w w') (hX : b ∉ X) : MapAt P k b L w' := h.kept (hb.blk b h.lt hX)
theorem MapAt.up {P : Program} {k : TypeId} {b : Nat} {L : List (Value × Value)} {w w' : World} (h : MapAt P k b L w) (hb : Below w.heap.size w w') : MapAt P k b L w' := h.kept (hb.block b h.lt)
end Go.Proofs.YtenhliibmcmnbaaGreat
namespace Go.Proofs.YtenhliibmcmnbaaGreat
set_option linter.unusedSimpArgs false
set_option linter.unusedVariables false
open Go.RowKit Go.Sort
theorem speaker_within (n lo hi : Int) (w : World) :
  Calls Tryz.prog 70 #[.int .i64 n, .int .i64 lo, .int .i64 hi] w fun e w' => e = .returned (.bool (inR n lo hi)) ∧ w = w' := by
 by_cases h1 : lo ≤ n <;> by_cases h2 : n ≤ hi <;>
 (go_enter Tryz.func70, Tryz.ntmps70
  go_wp2
  go_ret
  simp [h1, h2, inR]) <;> omega
theorem lsa_within (n lo hi : Int) (w : World) :
  Calls Tryz.prog 221 #[.int .i64 n, .int .i64 lo, .int .i64 hi] w fun e w' => e = .returned (.bool (inR n lo hi)) ∧ w = w' := by
 by_cases h1 : lo ≤ n <;> by_cases h2 : n ≤ hi <;>
 (go_enter Tryz.func221, Tryz.ntmps221
  go_wp2
  go_ret
  simp [h1, h2, inR]) <;> omega
theorem stages_Start (w : World) : Calls Tryz.prog 32 #[] w fun e w' => e = .returned (.agg #[.int .i64 3, .int .i64 0]) ∧ Below w.heap.size w w' := by
 go_enter Tryz.func32, Tryz.ntmps32
 go_wp2
 refine bodyPost_ret (v := .agg #[.int .i64 3, .int .i64 0]) (by simp [results, Tryz.results32, go_sem]) rfl ⟨rfl, below_box _ _⟩
theorem lsdb_New (w : World) : Calls Tryz.prog 72 #[] w fun e w' => ∃ mb db, e = .returned (.pointer (some ⟨db, 0, none⟩)) ∧ Bl 242 db #[.map (some mb)] w' ∧ MapAt Tryz.prog 3 mb [] w' ∧ w.heap.size ≤ mb ∧ w.heap.size ≤ db ∧ Below w.heap.size w w' := by
 have hmm := @run_makeMap Tryz.prog
 go_enter Tryz.func72, Tryz.ntmps72
 go_wp2
 go_ret
 exact ⟨w.heap.size, w.heap.size + 1, rfl, by simpa using Bl.new (w.alloc (.map #[] 0)) #[.map (some w.heap.size)] 242, (MapAt.made Tryz.prog 3 w).up (below_box _ _), Nat.le_refl _, Nat.le_succ _, (below_box _ _).trans ((below_box (w.alloc _) _).mono (by simp))⟩
theorem flood_New (n : Int) (w : World) (h : inR n 1 65536 = true) : Calls Tryz.prog 73 #[.int .i64 n] w fun e w' => ∃ mb fb, e = .returned (.tuple #[.pointer (some ⟨fb, 0, none⟩), .int .i64 0]) ∧ Bl 245 fb #[.int .i64 n, .map (some mb)] w' ∧ MapAt Tryz.prog 3 mb [] w' ∧ w.heap.size ≤ mb ∧ w.heap.size ≤ fb ∧ Below w.heap.size w w' := by
 obtain ⟨h1, h2⟩ := inR_true.1 h
 clear h
 have hmm := @run_makeMap Tryz.prog
 go_enter Tryz.func73, Tryz.ntmps73
 go_wp2
 go_ret2
 exact ⟨w.heap.size, w.heap.size + 1, rfl, by simpa using Bl.new (w.alloc (.map #[] 0)) #[.int .i64 n, .map (some w.heap.size)] 245, (MapAt.made Tryz.prog 3 w).up (below_box _ _), Nat.le_refl _, Nat.le_succ _, (below_box _ _).trans ((below_box (w.alloc _) _).mono (by simp))⟩
theorem origin_New (n : Int) (w : World) (h : isN 64 n = true) : Calls Tryz.prog 74 #[.int .i64 n] w fun e w' => ∃ ob, e = .returned (.tuple #[.pointer (some ⟨ob, 0, none⟩), .int .i64 0]) ∧ Bl 249 ob #[.bool false, .slice none 0 0, .slice none 0 0, .int .i64 n, .int .i64 0, .bool false, .int .i64 0] w' ∧ w.heap.size ≤ ob ∧ Below w.heap.size w w' := by
 obtain ⟨h1, h2⟩ := isN_true.1 h
 clear h
 go_enter Tryz.func74, Tryz.ntmps74
 go_wp2
 go_ret2
 exact ⟨w.heap.size, rfl, Bl.new w _ _, Nat.le_refl _, below_box _ _⟩
end Go.Proofs.YtenhliibmcmnbaaGreat
namespace Go.Proofs.YtenhliibmcmnbaaGreat
set_option linter.unusedSimpArgs false
set_option linter.unusedVariables false
open Go.RowKit Go.Sort
theorem own_empty0 (w : World) {B : Nat} (hB : B ≤ w.heap.size) (E : TypeId) (size : Nat) : (w.alloc (.cells #[] E)).ownsRow B E size (.slice (some ⟨w.heap.size, 0, none⟩) 0 0) 0 [] :=
 ⟨by simp, .inr ⟨w.heap.size, 0, #[], rfl, hB, heap_alloc_new w _, Nat.le_refl _, Nat.zero_le _, by simp, by simp⟩⟩
/-- A copy of a list: a row of the call's own. -/
def RetCl (E : TypeId) (size : Nat) (w : World) (n : Nat) (ys : List Value) (e : Ending) (w' : World) : Prop := ∃ v, e = .returned v ∧ w'.ownsRow w.heap.size E size v n ys ∧ Below w.heap.size w w'
theorem retCl_nil {E : TypeId} {size n : Nat} {w w' : World} {ys : List Value} (hz : n = 0) (hy : ys = []) (hb : Below w.heap.size w w') : RetCl E size w n ys (.returned (.slice none 0 0)) w' := by
 subst hz hy
 exact ⟨_, rfl, World.ownsRow_nil _ _ _ _, hb⟩
theorem rd_none {w : World} {ys : List Value} (h : Rd w none ys) : ys = [] := by
 rcases h with h | ⟨b, o, h, _⟩
 ·exact h
 ·cases h
theorem cl_zero {n size : Nat} (hs : 0 < size) (h : ([] : List Value).length = n * size) : n = 0 := by
 rcases Nat.eq_zero_or_pos n with e | e
 ·exact e
 ·have := Nat.mul_pos e hs; simp at h; omega
theorem cl_below {w w1 : World} {o : Obj} {B : Nat} (hB : B = w.heap.size) (hg : (w.alloc o).grownBy w1 (some B)) : Below w.heap.size w w1 := by
 subst hB
 refine (Below.refl _ w).trans ((((below_box w o).mono (Nat.le_refl _)).grown hg (by simp) (fun j hj => by injection hj with hj; omega)))
theorem info_Segment : (Tryz.prog.info? 104).map (fun i => (i.zero, i.size, i.bytes)) = some (some (.agg #[.int .i64 0, .int .i64 0]), 2, 16) := by kernel_rfl
set_option maxRecDepth 100000 in
set_option maxHeartbeats 1000000 in
theorem clone_Segment (A : Option Addr) (n c : Nat) (ys : List Value) (w : World) (hr : Rd w A ys) (hm : ys.length = n * 2) (h1 : ∀ u ∈ ys, u.oneCell' = true) (hn : n ≤ 1000000) :
  Calls Tryz.prog 38 #[.slice A n c] w (RetCl 104 2 w n ys) := by
 obtain ⟨i0, hi, hz0, hz1, hz2⟩ := info_parts info_Segment
 have q22 : ∀ (w : World) (a : Option Addr) (n c n' c' : Nat), (binOp .eql 37 (.slice a n c) (.slice none n' c')).run Tryz.prog w = .ok (.bool a.isNone) w := fun w a n c n' c' => Lib.run_eql_slice_nil w _ _ a n c n' c' Tryz.underlying37
 cases A with
 | none =>
  obtain rfl := rd_none hr
  obtain rfl := cl_zero (by decide) hm
  clear hr hm
  go_enter Tryz.func38, Tryz.ntmps38
  go_wp2
  go_ret
  exact retCl_nil rfl rfl (Below.refl _ _)
 | some ad =>
  have HR := Lib.hid hr
  have HM := Lib.hid hm
  clear hr hm
  go_enter Tryz.func38, Tryz.ntmps38
  go_wp2_with (at_builtin; refine wpList_app_rows _ rfl _ _ 37 rfl w.heap.size 104 i0 (.agg #[.int .i64 0, .int .i64 0]) 16 Tryz.underlying37 hi hz0 2 (by decide) hz1 hz2 rfl _ _ _ rfl (own_empty0 _ (Nat.le_refl _) _ _) _ _ _ ys rfl HM.out (HR.out.below (below_box _ _)) h1 (by unfold maxLen; omega) (by omega) (by simp) ?_)
  intro v' w2 hown hg
  have HO := Lib.hid hown
  have HB := Lib.hid (cl_below rfl hg)
  clear hown hg
  go_wp2_with fail
  go_ret
  exact ⟨v', rfl, HO.out, HB.out⟩
theorem info_Act : (Tryz.prog.info? 127).map (fun i => (i.zero, i.size, i.bytes)) = some (some (.agg #[.int .i64 0, .int .i64 0, .int .i64 0, .int .i64 0, .int .i64 0, .int .i64 0, .slice none 0 0, .int .i64 0, .int .i64 0, .int .i64 0, .int .i64 0, .bool false, .int .i64 0, .int .i64 0]), 14, 128) := by kernel_rfl
set_option maxRecDepth 100000 in
set_option maxHeartbeats 1000000 in
theorem clone_Act (A : Option Addr) (n c : Nat) (ys : List Value) (w : World) (hr : Rd w A ys) (hm : ys.length = n * 14) (h1 : ∀ u ∈ ys, u.oneCell' = true) (hn : n ≤ 1000000) :
  Calls Tryz.prog 59 #[.slice A n c] w (RetCl 127 14 w n ys) := by
 obtain ⟨i0, hi, hz0, hz1, hz2⟩ := info_parts info_Act
 have q22 : ∀ (w : World) (a : Option Addr) (n c n' c' : Nat), (binOp .eql 64 (.slice a n c) (.slice none n' c')).run Tryz.prog w = .ok (.bool a.isNone) w := fun w a n c n' c' => Lib.run_eql_slice_nil w _ _ a n c n' c' Tryz.underlying64
 cases A with
 | none =>
  obtain rfl := rd_none hr
  obtain rfl := cl_zero (by decide) hm
  clear hr hm
  go_enter Tryz.func59, Tryz.ntmps59
  go_wp2
  go_ret
  exact retCl_nil rfl rfl (Below.refl _ _)
 | some ad =>
  have HR := Lib.hid hr
  have HM := Lib.hid hm
  clear hr hm
  go_enter Tryz.func59, Tryz.ntmps59
  go_wp2_with (at_builtin; refine wpList_app_rows _ rfl _ _ 64 rfl w.heap.size 127 i0 (.agg #[.int .i64 0, .int .i64 0, .int .i64 0, .int .i64 0, .int .i64 0, .int .i64 0, .slice none 0 0, .int .i64 0, .int .i64 0, .int .i64 0, .int .i64 0, .bool false, .int .i64 0, .int .i64 0]) 128 Tryz.underlying64 hi hz0 14 (by decide) hz1 hz2 rfl _ _ _ rfl (own_empty0 _ (Nat.le_refl _) _ _) _ _ _ ys rfl HM.out (HR.out.below (below_box _ _)) h1 (by unfold maxLen; omega) (by omega) (by simp) ?_)
  intro v' w2 hown hg
  have HO := Lib.hid hown
  have HB := Lib.hid (cl_below rfl hg)
  clear hown hg
  go_wp2_with fail
  go_ret
  exact ⟨v', rfl, HO.out, HB.out⟩
set_option maxRecDepth 100000 in
theorem clone0_Trace (c : Nat) (w : World) : Calls Tryz.prog 66 #[.slice none 0 c] w fun e w' => e = .returned (.slice none 0 0) ∧ w = w' := by
 have q22 : ∀ (w : World) (a : Option Addr) (n c n' c' : Nat), (binOp .eql 73 (.slice a n c) (.slice none n' c')).run Tryz.prog w = .ok (.bool a.isNone) w := fun w a n c n' c' => Lib.run_eql_slice_nil w _ _ a n c n' c' Tryz.underlying73
 go_enter Tryz.func66, Tryz.ntmps66
 go_wp2
 go_ret
 exact ⟨rfl, rfl⟩
theorem info_bool : (Tryz.prog.info? 4).map (fun i => (i.zero, i.size, i.bytes)) = some (some (.bool false), 1, 1) := by kernel_rfl
set_option maxRecDepth 100000 in
set_option maxHeartbeats 1000000 in
theorem clone_bool (A : Option Addr) (n c : Nat) (ys : List Value) (w : World) (hr : Rd w A ys) (hm : ys.length = n * 1) (h1 : ∀ u ∈ ys, u.oneCell' = true) (hn : n ≤ 1000000) :
  Calls Tryz.prog 79 #[.slice A n c] w (RetCl 4 1 w n ys) := by
 obtain ⟨i0, hi, hz0, hz1, hz2⟩ := info_parts info_bool
 have q22 : ∀ (w : World) (a : Option Addr) (n c n' c' : Nat), (binOp .eql 22 (.slice a n c) (.slice none n' c')).run Tryz.prog w = .ok (.bool a.isNone) w := fun w a n c n' c' => Lib.run_eql_slice_nil w _ _ a n c n' c' Tryz.underlying22
 cases A with
 | none =>
  obtain rfl := rd_none hr
  obtain rfl := cl_zero (by decide) hm
  clear hr hm
  go_enter Tryz.func79, Tryz.ntmps79
  go_wp2
  go_ret
  exact retCl_nil rfl rfl (Below.refl _ _)
 | some ad =>
  have HR := Lib.hid hr
  have HM := Lib.hid hm
  clear hr hm
  go_enter Tryz.func79, Tryz.ntmps79
  go_wp2_with (at_builtin; refine wpList_app_rows _ rfl _ _ 22 rfl w.heap.size 4 i0 (.bool false) 1 Tryz.underlying22 hi hz0 1 (by decide) hz1 hz2 rfl _ _ _ rfl (own_empty0 _ (Nat.le_refl _) _ _) _ _ _ ys rfl HM.out (HR.out.below (below_box _ _)) h1 (by unfold maxLen; omega) (by omega) (by simp) ?_)
  intro v' w2 hown hg
  have HO := Lib.hid hown
  have HB := Lib.hid (cl_below rfl hg)
  clear hown hg
  go_wp2_with fail
  go_ret
  exact ⟨v', rfl, HO.out, HB.out⟩
theorem info_Link : (Tryz.prog.info? 118).map (fun i => (i.zero, i.size, i.bytes)) = some (some (.agg #[.int .i64 0, .int .i64 0, .int .i64 0, .int .i64 0, .int .i64 0, .int .i64 0, .int .i64 0]), 7, 56) := by kernel_rfl
set_option maxRecDepth 100000 in
set_option maxHeartbeats 1000000 in
theorem clone_Link (A : Option Addr) (n c : Nat) (ys : List Value) (w : World) (hr : Rd w A ys) (hm : ys.length = n * 7) (h1 : ∀ u ∈ ys, u.oneCell' = true) (hn : n ≤ 1000000) :
  Calls Tryz.prog 80 #[.slice A n c] w (RetCl 118 7 w n ys) := by
 obtain ⟨i0, hi, hz0, hz1, hz2⟩ := info_parts info_Link
 have q22 : ∀ (w : World) (a : Option Addr) (n c n' c' : Nat), (binOp .eql 23 (.slice a n c) (.slice none n' c')).run Tryz.prog w = .ok (.bool a.isNone) w := fun w a n c n' c' => Lib.run_eql_slice_nil w _ _ a n c n' c' Tryz.underlying23
 cases A with
 | none =>
  obtain rfl := rd_none hr
  obtain rfl := cl_zero (by decide) hm
  clear hr hm
  go_enter Tryz.func80, Tryz.ntmps80
  go_wp2
  go_ret
  exact retCl_nil rfl rfl (Below.refl _ _)
 | some ad =>
  have HR := Lib.hid hr
  have HM := Lib.hid hm
  clear hr hm
  go_enter Tryz.func80, Tryz.ntmps80
  go_wp2_with (at_builtin; refine wpList_app_rows _ rfl _ _ 23 rfl w.heap.size 118 i0 (.agg #[.int .i64 0, .int .i64 0, .int .i64 0, .int .i64 0, .int .i64 0, .int .i64 0, .int .i64 0]) 56 Tryz.underlying23 hi hz0 7 (by decide) hz1 hz2 rfl _ _ _ rfl (own_empty0 _ (Nat.le_refl _) _ _) _ _ _ ys rfl HM.out (HR.out.below (below_box _ _)) h1 (by unfold maxLen; omega) (by omega) (by simp) ?_)
  intro v' w2 hown hg
  have HO := Lib.hid hown
  have HB := Lib.hid (cl_below rfl hg)
  clear hown hg
  go_wp2_with fail
  go_ret
  exact ⟨v', rfl, HO.out, HB.out⟩
theorem info_Fate : (Tryz.prog.info? 220).map (fun i => (i.zero, i.size, i.bytes)) = some (some (.agg #[.int .i64 0, .int .i64 0]), 2, 16) := by kernel_rfl
set_option maxRecDepth 100000 in
set_option maxHeartbeats 1000000 in
theorem clone_Fate (A : Option Addr) (n c : Nat) (ys : List Value) (w : World) (hr : Rd w A ys) (hm : ys.length = n * 2) (h1 : ∀ u ∈ ys, u.oneCell' = true) (hn : n ≤ 1000000) :
  Calls Tryz.prog 124 #[.slice A n c] w (RetCl 220 2 w n ys) := by
 obtain ⟨i0, hi, hz0, hz1, hz2⟩ := info_parts info_Fate
 have q22 : ∀ (w : World) (a : Option Addr) (n c n' c' : Nat), (binOp .eql 121 (.slice a n c) (.slice none n' c')).run Tryz.prog w = .ok (.bool a.isNone) w := fun w a n c n' c' => Lib.run_eql_slice_nil w _ _ a n c n' c' Tryz.underlying121
 cases A with
 | none =>
  obtain rfl := rd_none hr
  obtain rfl := cl_zero (by decide) hm
  clear hr hm
  go_enter Tryz.func124, Tryz.ntmps124
  go_wp2
  go_ret
  exact retCl_nil rfl rfl (Below.refl _ _)
 | some ad =>
  have HR := Lib.hid hr
  have HM := Lib.hid hm
  clear hr hm
  go_enter Tryz.func124, Tryz.ntmps124
  go_wp2_with (at_builtin; refine wpList_app_rows _ rfl _ _ 121 rfl w.heap.size 220 i0 (.agg #[.int .i64 0, .int .i64 0]) 16 Tryz.underlying121 hi hz0 2 (by decide) hz1 hz2 rfl _ _ _ rfl (own_empty0 _ (Nat.le_refl _) _ _) _ _ _ ys rfl HM.out (HR.out.below (below_box _ _)) h1 (by unfold maxLen; omega) (by omega) (by simp) ?_)
  intro v' w2 hown hg
  have HO := Lib.hid hown
  have HB := Lib.hid (cl_below rfl hg)
  clear hown hg
  go_wp2_with fail
  go_ret
  exact ⟨v', rfl, HO.out, HB.out⟩
set_option maxRecDepth 100000 in
theorem clone0_Adjacency (c : Nat) (w : World) : Calls Tryz.prog 219 #[.slice none 0 c] w fun e w' => e = .returned (.slice none 0 0) ∧ w = w' := by
 have q22 : ∀ (w : World) (a : Option Addr) (n c n' c' : Nat), (binOp .eql 177 (.slice a n c) (.slice none n' c')).run Tryz.prog w = .ok (.bool a.isNone) w := fun w a n c n' c' => Lib.run_eql_slice_nil w _ _ a n c n' c' Tryz.underlying177
 go_enter Tryz.func219, Tryz.ntmps219
 go_wp2
 go_ret
 exact ⟨rfl, rfl⟩
set_option maxRecDepth 100000 in
theorem clone0_Prefix (c : Nat) (w : World) : Calls Tryz.prog 220 #[.slice none 0 c] w fun e w' => e = .returned (.slice none 0 0) ∧ w = w' := by
 have q22 : ∀ (w : World) (a : Option Addr) (n c n' c' : Nat), (binOp .eql 156 (.slice a n c) (.slice none n' c')).run Tryz.prog w = .ok (.bool a.isNone) w := fun w a n c n' c' => Lib.run_eql_slice_nil w _ _ a n c n' c' Tryz.underlying156
 go_enter Tryz.func220, Tryz.ntmps220
 go_wp2
 go_ret
 exact ⟨rfl, rfl⟩
end Go.Proofs.YtenhliibmcmnbaaGreat
namespace Go.Proofs.YtenhliibmcmnbaaGreat
set_option linter.unusedSimpArgs false
set_option linter.unusedVariables false
open Go.RowKit Go.Sort
set_option maxRecDepth 100000 in
theorem cont_clone0 (ov : Bool) (w : World) : Calls Tryz.prog 190 #[.agg #[.bool ov, .slice none 0 0, .slice none 0 0]] w fun e w' => e = .returned (.agg #[.bool ov, .slice none 0 0, .slice none 0 0]) ∧ Below w.heap.size w w' := by
 go_enter Tryz.func190, Tryz.ntmps190
 go_wp2_with (first | (go_at_call 219; refine (clone0_Adjacency _ _).mono ?_; rintro e w' ⟨rfl, rfl⟩) | (go_at_call 220; refine (clone0_Prefix _ _).mono ?_; rintro e w' ⟨rfl, rfl⟩))
 exact bodyPost_ret (v := .agg #[.bool ov, .slice none 0 0, .slice none 0 0]) (by simp [results, Tryz.results190, go_sem]) rfl ⟨rfl, below_two _ _ _⟩
set_option maxRecDepth 100000 in
theorem origin_adv0 (ob : Nat) (v seq age : Int) (ov : Bool) (w : World) (h3 : w.cell? ⟨ob, 3, none⟩ = some (.int .i64 v)) : Calls Tryz.prog 188 #[.pointer (some ⟨ob, 0, none⟩), .agg #[.bool ov, .slice none 0 0, .slice none 0 0], .int .i64 seq, .int .i64 age] w fun e w' => e = .returned (.agg #[.int .i64 v, .int .i64 seq, .int .i64 age, .bool ov, .slice none 0 0, .slice none 0 0]) ∧ Below w.heap.size w w' := by
 have hlt := block_lt_of_cell h3
 go_enter Tryz.func188, Tryz.ntmps188
 go_wp2_with (first | (go_at_call 190; refine (cont_clone0 _ _).mono ?_; rintro e w1 ⟨rfl, hb⟩; obtain ⟨B1, B2⟩ := two_new w #[.bool ov, .slice none 0 0, .slice none 0 0] #[.int .i64 0, .int .i64 0, .int .i64 0, .bool false, .slice none 0 0, .slice none 0 0] 247 179; replace B1 := B1.up hb; replace B2 := B2.up hb; have HB := Lib.hid ((below_two w _ _).trans (hb.mono (by simp; omega))); replace h3 := cell_up HB.out h3; clear hb; obtain ⟨c0, c1, c2, fc⟩ := B1.c3; obtain ⟨d0, d1, d2, d3, d4, d5, fd⟩ := B2.c6; have HB1 := Lib.hid B1; have HB2 := Lib.hid B2; clear B1 B2))
 go_region
 go_wp2_with fail
 exact bodyPost_ret (v := .agg #[.int .i64 v, .int .i64 seq, .int .i64 age, .bool ov, .slice none 0 0, .slice none 0 0]) (by simp [results, Tryz.results188, go_sem, d0, d1, d2, d3, d4, d5]) rfl ⟨rfl, by (repeat' (first | (with_reducible exact HB.out) | (with_reducible refine Bset ?_ ?_) | (with_reducible refine Bdrw ?_) | (with_reducible refine Bbox ?_ ?_) | omega | (simp; done) | (simp; omega)))⟩
set_option maxRecDepth 100000 in
theorem lsa_Valid0 (v seq age : Int) (ov : Bool) (w : World) (hv : isN 64 v = true) (h1 : inR seq 1 1073741824 = true) (h2 : isN 3600 age = true) : Calls Tryz.prog 169 #[.agg #[.int .i64 v, .int .i64 seq, .int .i64 age, .bool ov, .slice none 0 0, .slice none 0 0]] w fun e w' => e = .returned (.bool true) ∧ Below w.heap.size w w' := by
 have g1 : inR v 0 63 = true := by rw [isN_true] at hv; rw [inR_true]; omega
 have g2 : inR age 0 3600 = true := by rw [isN_true] at h2; rw [inR_true]; omega
 have g3 : (age == 3600) = false := by rw [isN_true] at h2; simp; omega
 clear hv h2
 go_enter Tryz.func169, Tryz.ntmps169
 go_wp2_with (go_at_call 221; refine (lsa_within _ _ _ _).mono ?_; rintro e w' ⟨rfl, rfl⟩)
 go_loopw [55] (fun i wr => i = .int .i64 0 ∧ wr = w.alloc (.cells #[.int .i64 v, .int .i64 seq, .int .i64 age, .bool ov, .slice none 0 0, .slice none 0 0] 179)) (fun _ _ => 0)
 case atStart => exact ⟨rfl, rfl⟩
 case round =>
  obtain ⟨rfl, rfl⟩ := hrel
  go_wp2_with fail
  go_loopw [101] (fun i wr => i = .int .i64 0 ∧ wr = w.alloc (.cells #[.int .i64 v, .int .i64 seq, .int .i64 age, .bool ov, .slice none 0 0, .slice none 0 0] 179)) (fun _ _ => 0)
  case atStart => exact ⟨rfl, rfl⟩
  case round =>
   obtain ⟨rfl, rfl⟩ := hrel
   go_wp2_with fail
   go_ret
   exact ⟨rfl, below_box _ _⟩
set_option maxRecDepth 100000 in
theorem origin_make (ob : Nat) (c0 c1 c2 c3 c5 c6 : Value) (fl : Int) (w : World) (h : Bl 249 ob #[c0, c1, c2, c3, .int .i64 fl, c5, c6] w) (hf : 0 ≤ fl ∧ fl ≤ 1073741824) : Calls Tryz.prog 191 #[.pointer (some ⟨ob, 0, none⟩)] w fun e w' => e = .returned (.tuple #[]) ∧ Bl 249 ob #[c0, c1, c2, c3, .int .i64 (fl + 1), .bool true, .int .i64 0] w' ∧ Kp [ob] w w' := by
 obtain ⟨h1, h2⟩ := hf
 obtain ⟨b0, b1, b2, b3, b4, b5, b6, fb⟩ := h.c7
 have HB := Lib.hid h
 clear h
 go_enter Tryz.func191, Tryz.ntmps191
 go_wp2
 go_end0
 exact ⟨rfl, ((HB.out.set 4 _ rfl).set 5 _ rfl).set 6 _ rfl, by (repeat' (first | (with_reducible exact Kp.refl _ _) | (with_reducible refine Kset ?_ ?_) | (with_reducible refine Kp.drew ?_) | (with_reducible refine Kp.alloc ?_ _) | (left; simp; done) | (right; first | omega | (simp; done) | (simp; omega))))⟩
set_option maxRecDepth 100000 in
theorem origin_Set0 (ob : Nat) (v : Int) (ov : Bool) (w : World) (h : Bl 249 ob #[.bool false, .slice none 0 0, .slice none 0 0, .int .i64 v, .int .i64 0, .bool false, .int .i64 0] w) (hv : isN 64 v = true) :
  Calls Tryz.prog 134 #[.pointer (some ⟨ob, 0, none⟩), .agg #[.bool ov, .slice none 0 0, .slice none 0 0]] w fun e w' => e = .returned (.tuple #[.bool true, .int .i64 0]) ∧ Bl 249 ob #[.bool ov, .slice none 0 0, .slice none 0 0, .int .i64 v, .int .i64 1, .bool true, .int .i64 0] w' ∧ Kp [ob] w w' := by
 have HB := Lib.hid (h.up (below_box w (.cells #[.bool ov, .slice none 0 0, .slice none 0 0] 247)))
 have hlt := h.lt
 have HX := Lib.hid (Bl.new w #[.bool ov, .slice none 0 0, .slice none 0 0] 247)
 have HK := Lib.hid ((Kp.refl [ob] w).alloc (.cells #[.bool ov, .slice none 0 0, .slice none 0 0] 247))
 have HV := Lib.hid hv
 clear h hv
 obtain ⟨b0, b1, b2, b3, b4, b5, b6, fb⟩ := HB.out.c7
 obtain ⟨x0, x1, x2, fx⟩ := HX.out.c3
 go_enter Tryz.func134, Tryz.ntmps134
 go_wp2_with (first | (go_at_call 188; refine (origin_adv0 ob v _ _ _ _ b3).mono ?_; rintro e w1 ⟨rfl, hb⟩; replace HB := Lib.hid (HB.out.up hb); replace HX := Lib.hid (HX.out.up hb); replace HK := Lib.hid (HK.out.next hb); clear hb b0 b1 b2 b3 b4 b5 b6 fb x0 x1 x2 fx; obtain ⟨b0, b1, b2, b3, b4, b5, b6, fb⟩ := HB.out.c7; obtain ⟨x0, x1, x2, fx⟩ := HX.out.c3) | (go_at_call 169; refine (lsa_Valid0 v 1 0 ov _ HV.out rfl rfl).mono ?_; rintro e w2 ⟨rfl, hb⟩; replace HB := Lib.hid (HB.out.up hb); replace HX := Lib.hid (HX.out.up hb); replace HK := Lib.hid (HK.out.next hb); clear hb b0 b1 b2 b3 b4 b5 b6 fb x0 x1 x2 fx; obtain ⟨b0, b1, b2, b3, b4, b5, b6, fb⟩ := HB.out.c7; obtain ⟨x0, x1, x2, fx⟩ := HX.out.c3))
 go_quiet (fail)
 go_wp2_with (first | (go_at_call 190; refine (cont_clone0 _ _).mono ?_; rintro e w3 ⟨rfl, hb⟩; replace hb : Below w2.heap.size w2 w3 := (below_drw (Below.refl _ _) _).trans hb; replace HB := Lib.hid (HB.out.up hb); replace HX := Lib.hid (HX.out.up hb); replace HK := Lib.hid (HK.out.next hb); clear hb b0 b1 b2 b3 b4 b5 b6 fb x0 x1 x2 fx; obtain ⟨b0, b1, b2, b3, b4, b5, b6, fb⟩ := HB.out.c7; obtain ⟨x0, x1, x2, fx⟩ := HX.out.c3) | (go_at_call 191; refine (origin_make ob _ _ _ _ _ _ 0 _ (((HB.out.set 0 _ rfl).set 1 _ rfl).set 2 _ rfl) (by decide)).mono ?_; rintro e w4 ⟨rfl, hB, hK⟩))
 go_ret2
 exact ⟨rfl, hB, (Kp.trans (by (repeat' (first | (with_reducible exact HK.out) | (with_reducible refine Kset ?_ ?_) | (with_reducible refine Kp.drew ?_) | (with_reducible refine Kp.alloc ?_ _) | (left; simp; done) | (right; first | omega | (simp; done) | (simp; omega))))) hK)⟩
end Go.Proofs.YtenhliibmcmnbaaGreat
namespace Go.Proofs.YtenhliibmcmnbaaGreat
set_option linter.unusedSimpArgs false
set_option linter.unusedVariables false
open Go.RowKit Go.Sort
set_option maxRecDepth 100000 in
set_option maxHeartbeats 1000000 in
theorem origin_Current1 (ob : Nat) (v : Int) (ov : Bool) (w : World) (h : Bl 249 ob #[.bool ov, .slice none 0 0, .slice none 0 0, .int .i64 v, .int .i64 1, .bool true, .int .i64 0] w) :
  Calls Tryz.prog 173 #[.pointer (some ⟨ob, 0, none⟩)] w fun e w' => e = .returned (.tuple #[.agg #[.int .i64 v, .int .i64 1, .int .i64 0, .bool ov, .slice none 0 0, .slice none 0 0], .bool true]) ∧ Below w.heap.size w w' := by
 have hlt := h.lt
 have HB := Lib.hid (h.up (below_box w (.cells #[.int .i64 0, .int .i64 0, .int .i64 0, .bool false, .slice none 0 0, .slice none 0 0] 179)))
 obtain ⟨b0, b1, b2, b3, b4, b5, b6, fb⟩ := h.c7
 obtain ⟨b0, b1, b2, b3, b4, b5, b6, fb⟩ := HB.out.c7
 have HD := Lib.hid (Bl.new w #[.int .i64 0, .int .i64 0, .int .i64 0, .bool false, .slice none 0 0, .slice none 0 0] 179)
 clear h
 go_enter Tryz.func173, Tryz.ntmps173
 go_wp2_with fail
 go_region_with (go_at_call 188; refine (origin_adv0 ob v _ _ _ _ (by first | exact b3 | assumption)).mono ?_; rintro e w1 ⟨rfl, hb⟩; have HD1 := Lib.hid (Bl.via hb HD.out); have HB1 := Lib.hid ((Bdrw (below_box w (.cells #[.int .i64 0, .int .i64 0, .int .i64 0, .bool false, .slice none 0 0, .slice none 0 0] 179))).trans (hb.mono (by simp))); obtain ⟨d0, d1, d2, d3, d4, d5, fd⟩ := HD1.out.c6; clear hb)
 all_goals
  go_wp2_with fail
  exact bodyPost_ret (v := .tuple #[.agg #[.int .i64 v, .int .i64 1, .int .i64 0, .bool ov, .slice none 0 0, .slice none 0 0], .bool true]) (by simp [results, Tryz.results173, go_sem, d0, d1, d2, d3, d4, d5]) rfl ⟨rfl, by (repeat' (first | (with_reducible exact HB1.out) | (with_reducible refine Bset ?_ ?_) | (with_reducible refine Bdrw ?_) | (with_reducible refine Bbox ?_ ?_) | omega | (simp; done) | (simp; omega)))⟩
set_option maxRecDepth 100000 in
theorem lsdb_clone0 (v seq age : Int) (ov : Bool) (w : World) : Calls Tryz.prog 168 #[.agg #[.int .i64 v, .int .i64 seq, .int .i64 age, .bool ov, .slice none 0 0, .slice none 0 0]] w fun e w' => e = .returned (.agg #[.int .i64 v, .int .i64 seq, .int .i64 age, .bool ov, .slice none 0 0, .slice none 0 0]) ∧ Below w.heap.size w w' := by
 go_enter Tryz.func168, Tryz.ntmps168
 go_wp2_with (first | (go_at_call 219; refine (clone0_Adjacency _ _).mono ?_; rintro e w' ⟨rfl, rfl⟩) | (go_at_call 220; refine (clone0_Prefix _ _).mono ?_; rintro e w' ⟨rfl, rfl⟩))
 exact bodyPost_ret (v := .agg #[.int .i64 v, .int .i64 seq, .int .i64 age, .bool ov, .slice none 0 0, .slice none 0 0]) (by simp [results, Tryz.results168, go_sem]) rfl ⟨rfl, below_two _ _ _⟩
theorem key_int : Go.Maps.Keyed Tryz.prog 3 := Go.Maps.int_keyed Tryz.underlying3
/-- What the database holds of a node. -/
def heldV (v : Int) (ov : Bool) : Value := .agg #[.int .i64 v, .int .i64 1, .int .i64 0, .bool ov, .slice none 0 0, .slice none 0 0, .int .i64 60]
def held0 : Value := .agg #[.int .i64 0, .int .i64 0, .int .i64 0, .bool false, .slice none 0 0, .slice none 0 0, .int .i64 0]
theorem zero_held (w : World) : (zeroValue 296).run Tryz.prog w = .ok held0 w := by kernel_rfl
theorem keyI (v : Int) (h : isN 1000000 v = true) : keyOf Tryz.prog 3 (.int .i64 v) = some (.int .i64 v) := by
 obtain ⟨h1, h2⟩ := isN_true.1 h
 have e1 : IntKind.i64.min = -9223372036854775808 := by decide
 have e2 : IntKind.i64.max = 9223372036854775807 := by decide
 exact Go.Maps.keyOf_int_mk Tryz.underlying3 (by simp [Lit.wf, e1, e2]; omega)
theorem look_no (mb : Nat) (L : List (Value × Value)) (v : Int) (c : Bool) (W : World) (h : MapAt Tryz.prog 3 mb L W) (hv : isN 1000000 v = true) (hm : ∀ x ∈ L, x.1 ≠ (.int .i64 v : Value)) :
  (Instr.lookup 240 (.map (some mb)) (.int .i64 v) c).run Tryz.prog W = .ok (if c then .tuple #[held0, .bool false] else held0) W :=
 h.miss key_int Tryz.underlying240 (zero_held W) (keyI v hv) c hm
theorem look_yes (mb : Nat) (v : Int) (x : Value) (c : Bool) (W : World) (h : MapAt Tryz.prog 3 mb [(.int .i64 v, x)] W) (hv : isN 1000000 v = true) :
  (Instr.lookup 240 (.map (some mb)) (.int .i64 v) c).run Tryz.prog W = .ok (if c then .tuple #[x, .bool true] else x) W :=
 h.hit key_int Tryz.underlying240 (keyI v hv) c (by simp)
theorem big_N {v : Int} (h : isN 64 v = true) : isN 1000000 v = true := by rw [isN_true] at h ⊢; omega
end Go.Proofs.YtenhliibmcmnbaaGreat
namespace Go.Proofs.YtenhliibmcmnbaaGreat
set_option linter.unusedSimpArgs false
set_option linter.unusedVariables false
open Go.RowKit Go.Maps Go.Sort Go.Shelf
theorem sortsA (m : Nat) : AnyZI.SortsIn Tryz.prog Tryz.sortedInt_ren Fence.wide m :=
 ⟨fun blk off cap ss W hH hblk hsz => callsIn_wide.2 (AnyM.slices_Sort_int Tryz.sortInt blk off cap ss W hH hblk hsz),
  fun p cap W => callsIn_wide.2 (AnyM.slices_Sort_int_none Tryz.sortInt p cap W)⟩
set_option maxRecDepth 100000 in
set_option maxHeartbeats 1000000 in
theorem flood_LinksK (fb mb : Nat) (n : Int) (L : List (Value × Value)) (w : World) (h : Bl 245 fb #[.int .i64 n, .map (some mb)] w) (hm : MapAt Tryz.prog 3 mb L w) (hl : L.length ≤ 100000) :
  Calls Tryz.prog 170 #[.pointer (some ⟨fb, 0, none⟩)] w fun e w' => ∃ (v : Value) (ss : List Int), e = .returned v ∧ ss.Perm (intKeys (mapD Tryz.prog 3 L)) ∧
   w'.ownsRow w.heap.size 3 1 v ss.length ((ss.mergeSort (fun x y => decide (x ≤ y))).map encZ) ∧ (v = .slice none 0 0 ↔ ss = []) ∧ Below w.heap.size w w' := by
 have hown := hm.owns (by unfold maxLen; omega)
 obtain ⟨b0, b1, fbz⟩ := h.c2
 have hsz : Maps.size (mapD Tryz.prog 3 L) = L.length := by simp [mapD, Maps.size, length_sorted]
 have hmax : Maps.size (mapD Tryz.prog 3 L) ≤ maxLen := by rw [hsz]; unfold maxLen; omega
 have hbytes : Maps.size (mapD Tryz.prog 3 L) * 8 ≤ 140737488355328 := by rw [hsz]; omega
 have HE := Lib.hid hsz
 clear h hm hsz
 refine (callsIn_wide (n := 6)).1 ?_
 have hbl := hown.lt
 have hseq : SeqGives Fence.wide 2 Tryz.prog 259 #[.pointer (some ⟨w.heap.size, 0, none⟩)] encZ (fun ss => ss.Perm (intKeys (mapD Tryz.prog 3 L))) (Maps.size (mapD Tryz.prog 3 L)) (w.alloc (.cells #[.map (some mb)] 243)) :=
  AnyZI.keys_gives (ρ := Tryz.keysNb_ren) { Tryz.keysNb with } Fence.wide _ trivial rfl (by omega) w.heap.size mb L.length (mapD Tryz.prog 3 L) _ (by simp) (by simp) (by
   obtain ⟨es, clock, hb, Ft, hs, hD⟩ := hown
   exact ⟨es, clock, (Below.heap_alloc _ _ mb hbl).trans hb, Ft, hs, hD⟩)
 have cK : ∀ mb W, CallsIn Fence.wide 5 Tryz.prog 224 #[.map mb] W fun e w' => e = .returned (.func (.func 259) #[] #[.pointer (some ⟨W.heap.size, 0, none⟩)]) ∧ w' = W.alloc (.cells #[.map mb] 243) := fun mb W => AnyZI.keys_in Tryz.keysNb Fence.wide 5 trivial rfl mb W
 have cS := AnyZI.sorted_in Tryz.sortedInt Fence.wide 5 trivial trivial trivial trivial rfl (by omega) (sortsA _) (enters_of Tryz.func255 (by kernel_rfl) rfl) 259 #[.pointer (some ⟨w.heap.size, 0, none⟩)] trivial (enters_of Tryz.func259 (by kernel_rfl) rfl) _ _ hmax hbytes _ hseq
 change CallsIn _ _ Tryz.prog 217 _ _ _ at cS
 have HSQ := Lib.hid hseq
 have HOW := Lib.hid hown
 clear hseq hown hmax hbytes
 have hfK : Fence.wide.fn 224 := trivial
 have hfS : Fence.wide.fn 217 := trivial
 refine callsIn_of_wp Tryz.func170 rfl trivial ?_ rfl
 simp only [Tryz.ntmps170, List.size_toArray, List.length_cons, List.length_nil, Nat.reduceAdd, Nat.reduceSub, Array.replicate_succ, Array.replicate_zero, List.push_toArray, List.append_toArray, List.nil_append, List.cons_append]
 gi_wp2_with (first
  | (gi_at_call 224; refine (cK _ _).mono ?_; rintro e w' ⟨rfl, rfl⟩)
  | (gi_at_call 217; refine cS.mono ?_; rintro e w' ⟨v, ss, rfl, hS, hrow, hnil, hb⟩))
 go_ret
 exact ⟨v, ss, rfl, hS, ownsRow_base_a hrow (by simp), hnil, ((Below.refl _ w).alloc (Nat.le_refl _) _).trans (hb.mono (by simp))⟩
set_option maxRecDepth 100000 in
set_option maxHeartbeats 1000000 in
theorem lsdb_originsK (fb mb : Nat) (L : List (Value × Value)) (w : World) (h : Bl 242 fb #[.map (some mb)] w) (hm : MapAt Tryz.prog 3 mb L w) (hl : L.length ≤ 100000) :
  Calls Tryz.prog 166 #[.pointer (some ⟨fb, 0, none⟩)] w fun e w' => ∃ (v : Value) (ss : List Int), e = .returned v ∧ ss.Perm (intKeys (mapD Tryz.prog 3 L)) ∧
   w'.ownsRow w.heap.size 3 1 v ss.length ((ss.mergeSort (fun x y => decide (x ≤ y))).map encZ) ∧ (v = .slice none 0 0 ↔ ss = []) ∧ Below w.heap.size w w' := by
 have hown := hm.owns (by unfold maxLen; omega)
 have b0 := h.cell 0 rfl
 have hsz : Maps.size (mapD Tryz.prog 3 L) = L.length := by simp [mapD, Maps.size, length_sorted]
 have hmax : Maps.size (mapD Tryz.prog 3 L) ≤ maxLen := by rw [hsz]; unfold maxLen; omega
 have hbytes : Maps.size (mapD Tryz.prog 3 L) * 8 ≤ 140737488355328 := by rw [hsz]; omega
 have HE := Lib.hid hsz
 clear h hm hsz
 refine (callsIn_wide (n := 6)).1 ?_
 have hbl := hown.lt
 have hseq : SeqGives Fence.wide 2 Tryz.prog 256 #[.pointer (some ⟨w.heap.size, 0, none⟩)] encZ (fun ss => ss.Perm (intKeys (mapD Tryz.prog 3 L))) (Maps.size (mapD Tryz.prog 3 L)) (w.alloc (.cells #[.map (some mb)] 240)) :=
  AnyZI.keys_gives (ρ := Tryz.keysHeld_ren) { Tryz.keysHeld with } Fence.wide _ trivial rfl (by omega) w.heap.size mb L.length (mapD Tryz.prog 3 L) _ (by simp) (by simp) (by
   obtain ⟨es, clock, hb, Ft, hs, hD⟩ := hown
   exact ⟨es, clock, (Below.heap_alloc _ _ mb hbl).trans hb, Ft, hs, hD⟩)
 have cK : ∀ mb W, CallsIn Fence.wide 5 Tryz.prog 218 #[.map mb] W fun e w' => e = .returned (.func (.func 256) #[] #[.pointer (some ⟨W.heap.size, 0, none⟩)]) ∧ w' = W.alloc (.cells #[.map mb] 240) := fun mb W => AnyZI.keys_in Tryz.keysHeld Fence.wide 5 trivial rfl mb W
 have cS := AnyZI.sorted_in Tryz.sortedInt Fence.wide 5 trivial trivial trivial trivial rfl (by omega) (sortsA _) (enters_of Tryz.func255 (by kernel_rfl) rfl) 256 #[.pointer (some ⟨w.heap.size, 0, none⟩)] trivial (enters_of Tryz.func256 (by kernel_rfl) rfl) _ _ hmax hbytes _ hseq
 change CallsIn _ _ Tryz.prog 217 _ _ _ at cS
 have HSQ := Lib.hid hseq
 have HOW := Lib.hid hown
 clear hseq hown hmax hbytes
 have hfK : Fence.wide.fn 218 := trivial
 have hfS : Fence.wide.fn 217 := trivial
 refine callsIn_of_wp Tryz.func166 rfl trivial ?_ rfl
 simp only [Tryz.ntmps166, List.size_toArray, List.length_cons, List.length_nil, Nat.reduceAdd, Nat.reduceSub, Array.replicate_succ, Array.replicate_zero, List.push_toArray, List.append_toArray, List.nil_append, List.cons_append]
 gi_wp2_with (first
  | (gi_at_call 218; refine (cK _ _).mono ?_; rintro e w' ⟨rfl, rfl⟩)
  | (gi_at_call 217; refine cS.mono ?_; rintro e w' ⟨v, ss, rfl, hS, hrow, hnil, hb⟩))
 go_ret
 exact ⟨v, ss, rfl, hS, ownsRow_base_a hrow (by simp), hnil, ((Below.refl _ w).alloc (Nat.le_refl _) _).trans (hb.mono (by simp))⟩
theorem perm_nil_int {L : List (Value × Value)} {ss : List Int} (hL : L = []) (h : ss.Perm (intKeys (mapD Tryz.prog 3 L))) : ss = [] := by
 subst hL
 exact List.Perm.eq_nil h
theorem flood_Links0 (fb mb : Nat) (n : Int) (w : World) (h : Bl 245 fb #[.int .i64 n, .map (some mb)] w) (hm : MapAt Tryz.prog 3 mb [] w) :
  Calls Tryz.prog 170 #[.pointer (some ⟨fb, 0, none⟩)] w fun e w' => e = .returned (.slice none 0 0) ∧ Below w.heap.size w w' := by
 refine (flood_LinksK fb mb n [] w h hm (by simp)).mono ?_
 rintro e w' ⟨v, ss, rfl, hp, _, hn, hb⟩
 exact ⟨by rw [hn.2 (perm_nil_int rfl hp)], hb⟩
theorem lsdb_origins1 (db mb : Nat) (v : Int) (x : Value) (w : World) (hv : isN 1000000 v = true) (h : Bl 242 db #[.map (some mb)] w) (hm : MapAt Tryz.prog 3 mb [(.int .i64 v, x)] w) :
  Calls Tryz.prog 166 #[.pointer (some ⟨db, 0, none⟩)] w (RetInts w [v]) := by
 refine (lsdb_originsK db mb _ w h hm (by simp)).mono ?_
 rintro e w' ⟨r, ss, rfl, hp, ho, hn, hb⟩
 have hk : intKeys (mapD Tryz.prog 3 [(.int .i64 v, x)]) = [v] := by
  simp only [mapD, List.map_cons, List.map_nil, keyI v hv, Option.getD_some, List.foldr_cons, List.foldr_nil]
  rfl
 rw [hk] at hp
 obtain rfl := List.perm_singleton.1 hp
 rw [List.mergeSort_singleton] at ho
 exact retInts_of ho hb
end Go.Proofs.YtenhliibmcmnbaaGreat
namespace Go.Proofs.YtenhliibmcmnbaaGreat
set_option linter.unusedSimpArgs false
set_option linter.unusedVariables false
open Go.RowKit Go.Sort
set_option maxRecDepth 100000 in
set_option maxHeartbeats 2000000 in
theorem lsdb_Install0 (db mb : Nat) (v : Int) (ov : Bool) (w : World) (hv : isN 64 v = true) (h : Bl 242 db #[.map (some mb)] w) (hm : MapAt Tryz.prog 3 mb [] w) :
  Calls Tryz.prog 145 #[.pointer (some ⟨db, 0, none⟩), .agg #[.int .i64 v, .int .i64 1, .int .i64 0, .bool ov, .slice none 0 0, .slice none 0 0]] w fun e w' => e = .returned (.tuple #[.int .i64 1, .int .i64 0]) ∧ MapAt Tryz.prog 3 mb [(.int .i64 v, heldV v ov)] w' ∧ Kp [mb] w w' := by
 have HB := Lib.hid (h.up (below_box w (.cells #[.int .i64 v, .int .i64 1, .int .i64 0, .bool ov, .slice none 0 0, .slice none 0 0] 179)))
 have HM := Lib.hid (hm.up (below_box w (.cells #[.int .i64 v, .int .i64 1, .int .i64 0, .bool ov, .slice none 0 0, .slice none 0 0] 179)))
 have hlt := h.lt
 have HX := Lib.hid (Bl.new w #[.int .i64 v, .int .i64 1, .int .i64 0, .bool ov, .slice none 0 0, .slice none 0 0] 179)
 have HK := Lib.hid ((Kp.refl [mb] w).alloc (.cells #[.int .i64 v, .int .i64 1, .int .i64 0, .bool ov, .slice none 0 0, .slice none 0 0] 179))
 have HV := Lib.hid hv
 clear h hm hv
 obtain ⟨b0, fb⟩ := HB.out.c1
 obtain ⟨x0, x1, x2, x3, x4, x5, fx⟩ := HX.out.c6
 have heq : ∀ (w : World) (a : Option Nat), (binOp .eql 240 (.map a) (.map none)).run Tryz.prog w = .ok (.bool a.isNone) w := fun w a => run_eql_map_nil w _ _ _ a Tryz.underlying240
 go_enter Tryz.func145, Tryz.ntmps145
 go_wp2_with (first | (go_at_call 169; refine (lsa_Valid0 v 1 0 ov _ HV.out rfl rfl).mono ?_; rintro e w2 ⟨rfl, hb⟩; replace HB := Lib.hid (HB.out.up hb); replace HX := Lib.hid (HX.out.up hb); replace HM := Lib.hid (HM.out.up hb); replace HK := Lib.hid (HK.out.next hb); clear hb b0 fb x0 x1 x2 x3 x4 x5 fx; obtain ⟨b0, fb⟩ := HB.out.c1; obtain ⟨x0, x1, x2, x3, x4, x5, fx⟩ := HX.out.c6))
 have hl1 := look_no mb [] v true w2.drew HM.out (big_N HV.out) (by simp)
 have hl2 := look_no mb [] v true (w2.alloc (.cells #[.int .i64 0, .int .i64 0, .int .i64 0, .bool false, .slice none 0 0, .slice none 0 0, .int .i64 0] 296)).drew (HM.out.up (Bdrw (below_box w2 _))) (big_N HV.out) (by simp)
 simp only [held0, if_true] at hl1 hl2
 have s1 := HX.out.lt
 have s2 := HB.out.lt
 have n1 := Nat.ne_of_lt s1
 have n2 := Nat.ne_of_gt s1
 have n3 := Nat.ne_of_lt s2
 have n4 := Nat.ne_of_gt s2
 clear hlt
 go_region
 all_goals
  go_wp2_with fail
  go_region_with (go_at_call 168; refine (lsdb_clone0 v 1 0 ov _).mono ?_; rintro e w3 ⟨rfl, hb⟩; have HM3 := Lib.hid (MapAt.kept HM.out ((hb.block mb (by have := HM.out.lt; simp; omega)).trans (by first | rfl | exact Below.heap_alloc _ _ mb HM.out.lt))); have HK3 := Lib.hid ((HK.out.next (Bdrw (Bdrw (below_box w2 (.cells #[.int .i64 0, .int .i64 0, .int .i64 0, .bool false, .slice none 0 0, .slice none 0 0, .int .i64 0] 296))))).next hb); obtain ⟨w4, hu, hm4, hg4⟩ := HM3.out.store key_int Tryz.underlying240 (keyI v (big_N HV.out)) (heldV v ov) (by simp); unfold heldV at hu; obtain ⟨y0, _⟩ := ((HB.out.up (Bdrw (Bdrw (below_box w2 (.cells #[.int .i64 0, .int .i64 0, .int .i64 0, .bool false, .slice none 0 0, .slice none 0 0, .int .i64 0] 296))))).up hb).c1; obtain ⟨z0, _⟩ := ((HX.out.up (Bdrw (Bdrw (below_box w2 (.cells #[.int .i64 0, .int .i64 0, .int .i64 0, .bool false, .slice none 0 0, .slice none 0 0, .int .i64 0] 296))))).up hb).c6; clear hb)
  all_goals
   go_wp2_with fail
   go_ret2
   exact ⟨rfl, hm4, HK3.out.map hg4 (.inl (by simp))⟩
end Go.Proofs.YtenhliibmcmnbaaGreat
