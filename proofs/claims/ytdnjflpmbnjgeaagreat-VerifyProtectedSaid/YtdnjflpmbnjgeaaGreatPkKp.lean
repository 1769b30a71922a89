/-
  What code keeps that writes into some blocks and makes memory; blocks with known cells; a map that the code itself has made, as the list of its entries.
  Small functions of the packages stages, lsdb, flood, origin, lsa, speaker, graph.
  slices.Clone at the element types of the program (printed by gen_clone.py).
  The originator of a node that has just been made, and its first advertisement.
  The first advertisement of a node: Current, Install.
  What a speaker is that has just been made; small laws on blocks.
  Two of the library's moves through a region that draws its order, for operations written out as a list.
  graph.Entering, topology.In and waypointref09.Has: what each returns, for every topology in memory.
-/
import Derived.Test.YtdnjflpmbnjgeaaGreatPkRef
import Derived.Maps.Own
import Derived.StringKeys
import Derived.MapKept
import Derived.Lib.Builder
import Derived.BigQuiet
import Derived.Deep.RegionHeld3
import Derived.LoopTactic
import Derived.Deep.CutBlock
import Derived.Deep.Cut
import Derived.Lib.SliceRun
import Derived.Maps.Keyed
import Derived.Laws.MakeOwn
import Derived.OwnWalk
set_option linter.unusedSimpArgs false
set_option linter.unusedVariables false
namespace Go.Proofs.YtdnjflpmbnjgeaaGreat
section
open Go.RowKit Go.Sort Go.ChangeMaps Go.MapKept
open Go.Maps (Keyed)
/-- What code keeps that writes into the blocks X and makes memory: all other blocks. -/
structure Kp (X : List Nat) (W W' : World) : Prop where
 os : W'.os = W.os
 tape : W'.tape = W.tape
 output : W'.output = W.output
 size : W.heap.size ≤ W'.heap.size
 blk : ∀ k, k < W.heap.size → k ∉ X → W'.heap[k]? = W.heap[k]?
theorem Kp.refl (X : List Nat) (W : World) : Kp X W W := ⟨rfl, rfl, rfl, Nat.le_refl _, fun _ _ _ => rfl⟩
theorem Kp.trans {X : List Nat} {A B C : World} (h : Kp X A B) (g : Kp X B C) : Kp X A C :=
 ⟨g.os.trans h.os, g.tape.trans h.tape, g.output.trans h.output, Nat.le_trans h.size g.size, fun k hk hn => (g.blk k (Nat.lt_of_lt_of_le hk h.size) hn).trans (h.blk k hk hn)⟩
theorem Kp.of {X : List Nat} {W W' : World} (h : Below W.heap.size W W') : Kp X W W' := ⟨h.os, h.tape, h.output, h.size, fun k hk _ => h.block k hk⟩
theorem Kp.next {X : List Nat} {A B C : World} (h : Kp X A B) (g : Below B.heap.size B C) : Kp X A C := h.trans (Kp.of g)
theorem Kp.mono {X Y : List Nat} {A B : World} (h : Kp X A B) (hs : ∀ b ∈ X, b ∈ Y) : Kp Y A B := ⟨h.os, h.tape, h.output, h.size, fun k hk hn => h.blk k hk fun hm => hn (hs k hm)⟩
theorem Kp.trans' {X Y : List Nat} {A B C : World} (h : Kp X A B) (g : Kp Y B C) (hs : ∀ b ∈ Y, b ∈ X ∨ A.heap.size ≤ b) : Kp X A C :=
 ⟨g.os.trans h.os, g.tape.trans h.tape, g.output.trans h.output, Nat.le_trans h.size g.size, fun k hk hn => (g.blk k (Nat.lt_of_lt_of_le hk h.size) (fun hm => (hs k hm).elim hn (fun h => by omega))).trans (h.blk k hk hn)⟩
theorem Kp.alloc {X : List Nat} {W W' : World} (h : Kp X W W') (o : Obj) : Kp X W (W'.alloc o) := h.next (cQ W' o)
theorem Kp.drew {X : List Nat} {W W' : World} (h : Kp X W W') : Kp X W W'.drew := ⟨h.os, h.tape, h.output, h.size, h.blk⟩
theorem Kp.drewN {X : List Nat} {W W' : World} (h : Kp X W W') (n : Nat) : Kp X W (W'.drewN n) := ⟨h.os, h.tape, h.output, h.size, h.blk⟩
theorem Kp.set {X : List Nat} {W W' : World} {b j : Nat} (h : Kp X W W') (hX : b ∈ X ∨ W.heap.size ≤ b) (u : Value) : Kp X W (W'.setCell ⟨b, j, none⟩ u) :=
 ⟨h.os, h.tape, h.output, by simpa using h.size, fun k hk hn => (Below.heap_setCell _ _ _ _ (fun e => by
  have e' : k = b := e
  subst e'
  exact hX.elim hn (fun h => by omega))).trans (h.blk k hk hn)⟩
theorem Kp.map {X : List Nat} {W W1 W2 : World} {b : Nat} (h : Kp X W W1) (hg : W1.grownBy W2 (some b)) (hX : b ∈ X ∨ W.heap.size ≤ b) : Kp X W W2 :=
 ⟨hg.os.trans h.os, hg.tape.trans h.tape, hg.output.trans h.output, Nat.le_trans h.size hg.size, fun k hk hn => (hg.block k (Nat.lt_of_lt_of_le hk h.size) (fun e => by
  injection e with e
  subst e
  exact hX.elim hn (fun h => by omega))).trans (h.blk k hk hn)⟩
theorem Kp.below {X : List Nat} {n0 : Nat} {w W W' : World} (h : Kp X W W') (hb : Below n0 w W) (h1 : n0 ≤ W.heap.size) (h2 : ∀ b ∈ X, n0 ≤ b) : Below n0 w W' :=
 ⟨h.os.trans hb.os, h.tape.trans hb.tape, h.output.trans hb.output, Nat.le_trans hb.size h.size, fun k hk => (h.blk k (by omega) (fun hm => by have := h2 k hm; omega)).trans (hb.block k hk)⟩
theorem Bset {B b j : Nat} {a w : World} {v : Value} (h : Below B a w) (hb : B ≤ b) : Below B a (w.setCell ⟨b, j, none⟩ v) := h.setCell hb _
theorem Bdrw {B : Nat} {a w : World} (h : Below B a w) : Below B a w.drew := h.trans ⟨rfl, rfl, rfl, Nat.le_refl _, fun _ _ => rfl⟩
theorem Bbox {B : Nat} {a w : World} {o : Obj} (h : Below B a w) (hB : B ≤ w.heap.size) : Below B a (w.alloc o) := h.alloc hB o
theorem lt_blk {w : World} {b : Nat} {o : Obj} (h : w.heap[b]? = some o) : b < w.heap.size := (Array.getElem?_eq_some_iff.1 h).1
/-- Block b holds these cells. -/
def Bl (T : TypeId) (b : Nat) (cs : Array Value) (w : World) : Prop := w.heap[b]? = some (.cells cs T (0, 0))
theorem Bl.cell {T : TypeId} {b : Nat} {cs : Array Value} {w : World} (h : Bl T b cs w) (j : Nat) {v : Value} (hv : cs[j]? = some v) : w.cell? ⟨b, j, none⟩ = some v := (Lib.cell_of_heap h j).trans hv
theorem Bl.frz {T : TypeId} {b : Nat} {cs : Array Value} {w : World} (h : Bl T b cs w) (j : Nat) : w.frozen? ⟨b, j, none⟩ = false := Lib.frozen_of_heap h j
theorem Bl.lt {T : TypeId} {b : Nat} {cs : Array Value} {w : World} (h : Bl T b cs w) : b < w.heap.size := lt_blk h
theorem Bl.up {T : TypeId} {b : Nat} {cs : Array Value} {w w' : World} (h : Bl T b cs w) (hb : Below w.heap.size w w') : Bl T b cs w' := (hb.block b h.lt).trans h
theorem Bl.kp {T : TypeId} {b : Nat} {cs : Array Value} {w w' : World} {X : List Nat} (h : Bl T b cs w) (hb : Kp X w w') (hX : b ∉ X) : Bl T b cs w' := (hb.blk b h.lt hX).trans h
theorem Bl.new (w : World) (cs : Array Value) (T : TypeId) : Bl T w.heap.size cs (w.alloc (.cells cs T)) := heap_alloc_new w _
theorem Bl.set {T : TypeId} {b : Nat} {cs cs' : Array Value} {w : World} (h : Bl T b cs w) (j : Nat) (v : Value) (he : cs.setIfInBounds j v = cs') : Bl T b cs' (w.setCell ⟨b, j, none⟩ v) := by
 subst he
 exact heap_setCell_same w b j _ _ v h
theorem Bl.other {T : TypeId} {b c j : Nat} {cs : Array Value} {w : World} (h : Bl T b cs w) (hc : b ≠ c) (v : Value) : Bl T b cs (w.setCell ⟨c, j, none⟩ v) := (Below.heap_setCell _ _ _ _ hc).trans h
theorem aZ (w : World) (o p : Obj) : Below w.heap.size w ((w.alloc o).alloc p) := (cQ w o).trans ((cQ (w.alloc o) p).mono (by simp))
theorem Bl.c1 {T : TypeId} {b : Nat} {x0 : Value} {w : World} (h : Bl T b #[x0] w) : w.cell? ⟨b, 0, none⟩ = some x0 ∧ ∀ i, w.frozen? ⟨b, i, none⟩ = false :=
 ⟨h.cell 0 rfl, h.frz⟩
theorem Bl.c2 {T : TypeId} {b : Nat} {x0 x1 : Value} {w : World} (h : Bl T b #[x0, x1] w) : w.cell? ⟨b, 0, none⟩ = some x0 ∧ w.cell? ⟨b, 1, none⟩ = some x1 ∧ ∀ i, w.frozen? ⟨b, i, none⟩ = false :=
 ⟨h.cell 0 rfl, h.cell 1 rfl, h.frz⟩
theorem Bl.c3 {T : TypeId} {b : Nat} {x0 x1 x2 : Value} {w : World} (h : Bl T b #[x0, x1, x2] w) : w.cell? ⟨b, 0, none⟩ = some x0 ∧ w.cell? ⟨b, 1, none⟩ = some x1 ∧ w.cell? ⟨b, 2, none⟩ = some x2 ∧ ∀ i, w.frozen? ⟨b, i, none⟩ = false :=
 ⟨h.cell 0 rfl, h.cell 1 rfl, h.cell 2 rfl, h.frz⟩
theorem Bl.c4 {T : TypeId} {b : Nat} {x0 x1 x2 x3 : Value} {w : World} (h : Bl T b #[x0, x1, x2, x3] w) : w.cell? ⟨b, 0, none⟩ = some x0 ∧ w.cell? ⟨b, 1, none⟩ = some x1 ∧ w.cell? ⟨b, 2, none⟩ = some x2 ∧ w.cell? ⟨b, 3, none⟩ = some x3 ∧ ∀ i, w.frozen? ⟨b, i, none⟩ = false :=
 ⟨h.cell 0 rfl, h.cell 1 rfl, h.cell 2 rfl, h.cell 3 rfl, h.frz⟩
theorem Bl.c6 {T : TypeId} {b : Nat} {x0 x1 x2 x3 x4 x5 : Value} {w : World} (h : Bl T b #[x0, x1, x2, x3, x4, x5] w) : w.cell? ⟨b, 0, none⟩ = some x0 ∧ w.cell? ⟨b, 1, none⟩ = some x1 ∧ w.cell? ⟨b, 2, none⟩ = some x2 ∧ w.cell? ⟨b, 3, none⟩ = some x3 ∧ w.cell? ⟨b, 4, none⟩ = some x4 ∧ w.cell? ⟨b, 5, none⟩ = some x5 ∧ ∀ i, w.frozen? ⟨b, i, none⟩ = false :=
 ⟨h.cell 0 rfl, h.cell 1 rfl, h.cell 2 rfl, h.cell 3 rfl, h.cell 4 rfl, h.cell 5 rfl, h.frz⟩
theorem Bl.c7 {T : TypeId} {b : Nat} {x0 x1 x2 x3 x4 x5 x6 : Value} {w : World} (h : Bl T b #[x0, x1, x2, x3, x4, x5, x6] w) : w.cell? ⟨b, 0, none⟩ = some x0 ∧ w.cell? ⟨b, 1, none⟩ = some x1 ∧ w.cell? ⟨b, 2, none⟩ = some x2 ∧ w.cell? ⟨b, 3, none⟩ = some x3 ∧ w.cell? ⟨b, 4, none⟩ = some x4 ∧ w.cell? ⟨b, 5, none⟩ = some x5 ∧ w.cell? ⟨b, 6, none⟩ = some x6 ∧ ∀ i, w.frozen? ⟨b, i, none⟩ = false :=
 ⟨h.cell 0 rfl, h.cell 1 rfl, h.cell 2 rfl, h.cell 3 rfl, h.cell 4 rfl, h.cell 5 rfl, h.cell 6 rfl, h.frz⟩
/-- Block b is a map with these entries. -/
def MapAt (P : Program) (k : TypeId) (b : Nat) (L : List (Value × Value)) (w : World) : Prop :=
 ∃ es clock, w.heap[b]? = some (.map es clock) ∧ es.toList.map (fun e => (e.key, e.val)) = L ∧ (∀ x ∈ L, ∃ l, keyOf P k x.1 = some l) ∧ (L.map (·.1)).Nodup ∧ MapKept.Stamped es clock
theorem MapAt.made (P : Program) (k : TypeId) (w : World) : MapAt P k w.heap.size [] (w.alloc (.map #[] 0)) :=
 ⟨#[], 0, (MapKept.heap_alloc w _).1, rfl, by simp, by simp, MapKept.stamped_empty 0⟩
theorem MapAt.kept {P : Program} {k : TypeId} {b : Nat} {L : List (Value × Value)} {w w' : World} (h : MapAt P k b L w) (hb : w'.heap[b]? = w.heap[b]?) : MapAt P k b L w' := by
 obtain ⟨es, clock, h1, h2⟩ := h
 exact ⟨es, clock, hb.trans h1, h2⟩
theorem MapAt.lt {P : Program} {k : TypeId} {b : Nat} {L : List (Value × Value)} {w : World} (h : MapAt P k b L w) : b < w.heap.size := by
 obtain ⟨es, clock, h1, _⟩ := h
 exact (Array.getElem?_eq_some_iff.1 h1).1
theorem MapAt.miss {P : Program} {k e t : TypeId} {b : Nat} {L : List (Value × Value)} {w : World} (h : MapAt P k b L w) (K : Keyed P k) (ht : P.underlying t = some (.map k e)) {z : Value} (hz : (zeroValue e).run P w = .ok z w) {key : Value} {kl : Lit} (hkey : keyOf P k key = some kl) (c : Bool)
    (hm : ∀ x ∈ L, x.1 ≠ key) : (Instr.lookup t (.map (some b)) key c).run P w = .ok (if c then .tuple #[z, .bool false] else z) w := by
 obtain ⟨es, clock, hb, rfl, hk, _⟩ := h
 rcases K.find w hkey es.toList (fun e he => hk (e.key, e.val) (List.mem_map.2 ⟨e, he, rfl⟩)) with ⟨h1, h2⟩ | ⟨j, e0, h1, h2, h3⟩
 ·simp [Instr.lookup, run_underlying ht, MapKept.run_getObj_map hb, K.check w _ hkey, h1, hz, Result.andThen]
 ·exact absurd h3 (hm (e0.key, e0.val) (List.mem_map.2 ⟨e0, List.mem_of_getElem? h2, rfl⟩))
theorem MapAt.hit {P : Program} {k e t : TypeId} {b : Nat} {L : List (Value × Value)} {w : World} (h : MapAt P k b L w) (K : Keyed P k) (ht : P.underlying t = some (.map k e)) {key v : Value} {kl : Lit} (hkey : keyOf P k key = some kl) (c : Bool)
    (hm : (key, v) ∈ L) : (Instr.lookup t (.map (some b)) key c).run P w = .ok (if c then .tuple #[v, .bool true] else v) w := by
 obtain ⟨es, clock, hb, rfl, hk, hn, hst⟩ := h
 obtain ⟨e1, he1, h11⟩ := List.mem_map.1 hm
 injection h11 with h11 h12
 rcases K.find w hkey es.toList (fun e he => hk (e.key, e.val) (List.mem_map.2 ⟨e, he, rfl⟩)) with ⟨h1, h2⟩ | ⟨j, e0, h1, h2, h3⟩
 ·exact absurd h11 (h2 e1 he1)
 ·have hv : e0.val = v := by
   obtain ⟨i, hi, rfl⟩ := List.getElem_of_mem he1
   have hj := (List.getElem?_eq_some_iff.1 h2)
   obtain ⟨hj1, rfl⟩ := hj
   rw [List.map_map] at hn
   have := List.getElem_inj hn (i := i) (j := j) (h₀ := by simpa using hi) (h₁ := by simpa using hj1)
   simp only [List.getElem_map, Function.comp_apply] at this
   have e : i = j := this.1 (h11.trans h3.symm)
   subst e
   exact h12
  simp [Instr.lookup, run_underlying ht, MapKept.run_getObj_map hb, K.check w _ hkey, h1, hv, Result.andThen]
theorem MapAt.store {P : Program} {k e t : TypeId} {b : Nat} {L : List (Value × Value)} {w : World} (h : MapAt P k b L w) (K : Keyed P k) (ht : P.underlying t = some (.map k e)) {key : Value} {kl : Lit} (hkey : keyOf P k key = some kl) (v : Value)
    (hm : ∀ x ∈ L, x.1 ≠ key) : ∃ w', (Instr.mapUpdate t (.map (some b)) key v).run P w = .ok () w' ∧ MapAt P k b (L ++ [(key, v)]) w' ∧ w.grownBy w' (some b) := by
 obtain ⟨es, clock, hb, rfl, hk, hn, hst⟩ := h
 rcases K.find w hkey es.toList (fun e he => hk (e.key, e.val) (List.mem_map.2 ⟨e, he, rfl⟩)) with ⟨h1, h2⟩ | ⟨j, e0, h1, h2, h3⟩
 ·refine ⟨setBlock w b (.map (es.push ⟨key, v, clock⟩) (clock + 1)), ?_, ⟨_, _, heap_setBlock_same hb _, by simp, ?_, ?_, MapKept.stamped_push hst (fun x hx => hm (x.key, x.val) (List.mem_map.2 ⟨x, hx, rfl⟩))⟩, ⟨rfl, rfl, rfl, by simp [setBlock], fun i _ hi => heap_setBlock_other hb _ (fun e => hi (by rw [e]))⟩⟩
  ·simp [Instr.mapUpdate, run_underlying ht, MapKept.run_getObj_map hb, K.check w false hkey, h1, MapKept.run_setObj_map _ hb, Result.andThen, setBlock]
  ·intro x hx
   rcases List.mem_append.1 hx with hx | hx
   ·exact hk x hx
   ·simp at hx; subst hx; exact ⟨_, hkey⟩
  ·rw [List.map_append]
   refine List.nodup_append.2 ⟨hn, by simp, ?_⟩
   intro a ha b hb2
   simp at hb2
   obtain ⟨x, hx, rfl⟩ := List.mem_map.1 ha
   subst hb2
   exact hm x hx
 ·exact absurd h3 (hm (e0.key, e0.val) (List.mem_map.2 ⟨e0, List.mem_of_getElem? h2, rfl⟩))
theorem MapAt.kp {P : Program} {k : TypeId} {b : Nat} {L : List (Value × Value)} {w w' : World} {X : List Nat} (h : MapAt P k b L w) (hb : Kp X w w') (hX : b ∉ X) : MapAt P k b L w' := h.kept (hb.blk b h.lt hX)
theorem MapAt.up {P : Program} {k : TypeId} {b : Nat} {L : List (Value × Value)} {w w' : World} (h : MapAt P k b L w) (hb : Below w.heap.size w w') : MapAt P k b L w' := h.kept (hb.block b h.lt)
end
section
open Go.RowKit Go.Sort
theorem key_int : Go.Maps.Keyed Tryz.prog 3 := Go.Maps.int_keyed Tryz.underlying3
theorem Kp.grown {X : List Nat} {W W1 W2 : World} {r : Option Nat} (h : Kp X W W1) (hg : W1.grownBy W2 r) (hr : ∀ b, r = some b → b ∈ X ∨ W.heap.size ≤ b) : Kp X W W2 :=
 ⟨hg.os.trans h.os, hg.tape.trans h.tape, hg.output.trans h.output, Nat.le_trans h.size hg.size, fun k hk hn => (hg.block k (Nat.lt_of_lt_of_le hk h.size) (fun e => (hr k e.symm).elim hn (fun h => by omega))).trans (h.blk k hk hn)⟩
theorem Bl.grown {T : TypeId} {b : Nat} {cs : Array Value} {w w' : World} {r : Option Nat} (h : Bl T b cs w) (hg : w.grownBy w' r) (hne : some b ≠ r) : Bl T b cs w' := (hg.block b h.lt hne).trans h
theorem Bl.ne {T T' : TypeId} {b c : Nat} {cs cs' : Array Value} {w : World} (h : Bl T b cs w) (g : Bl T' c cs' w) (hs : cs.size ≠ cs'.size) : b ≠ c := by
 rintro rfl
 unfold Bl at h g
 rw [h] at g
 injection g with g
 injection g with g1 _ _
 exact hs (by rw [g1])
end
section
section
variable {P : Program} {l : List Oper} {Q : Exit → Act → World → Prop} {md : Region.Mode} {S : World → Prop}
theorem jQ {i : Nat} {oi : Oper} {v : Value} {fuel : Nat} {listed : Array Bool} {a : Act} {w : World} (hi : l[i]? = some oi)
    (hs : Region.noSelect l.toArray = true) (hf : Region.free md l.toArray listed i = true) (hr : (Region.ready md l.toArray listed).contains i = true)
    (hQ : ∀ c a w, Q (.panic c) (a.put oi.dst v) w → Q (.panic c) a w) (hy : YieldsIf P l.toArray S oi v a) (hS : S w)
    (h : wpAnyH P md l.toArray Q S fuel (listed.setIfInBounds i true) (a.put oi.dst v) w) : wpAnyH P md l.toArray Q S (fuel + 1) listed a w :=
 wpAnyH_take (by simpa using hi) hs hf hr hQ hy hS h
theorem tk (i : Nat) {oi : Oper} {v : Value} {fuel : Nat} {listed : Array Bool} {a : Act} {w : World}
    (h : wpAnyH P md l.toArray Q S fuel (listed.setIfInBounds i true) (a.put oi.dst v) w) (hi : l[i]? = some oi := by rfl) (hs : Region.noSelect l.toArray = true := by kernel_rfl)
    (hf : Region.free md l.toArray listed i = true := by decide +kernel) (hr : (Region.ready md l.toArray listed).contains i = true := by decide +kernel)
    (hQ : ∀ c a w, Q (.panic c) (a.put oi.dst v) w → Q (.panic c) a w := by exact fun _ _ _ h => h) (hS : S w := by assumption)
    (hy : YieldsIf P l.toArray S oi v a := by (refine Or.inl ⟨by rfl, ?_⟩; intro w9 hS9; (try dsimp only at hS9); go_simp; (try with_reducible rfl); done)) : wpAnyH P md l.toArray Q S (fuel + 1) listed a w := jQ hi hs hf hr hQ hy hS h
theorem consL {fuel : Nat} {listed : Array Bool} {a : Act} {w : World} {i : Nat} {o : Oper} {rs : List Nat} (ho : l[i]? = some o)
    (h : ∀ K' : Act → World → Prop, Shut (∀ a w, S w → (S w → wpAnyH P md l.toArray Q S fuel (listed.setIfInBounds i true) a w) → K' a w) → if Region.wanted o (yielded l.toArray a.tmps) = true then Oper.wp P o a w K' Q else K' (a.put o.dst undef) w)
    (hs : AllReadyH P md l.toArray Q S fuel listed a w rs) : AllReadyH P md l.toArray Q S fuel listed a w (i :: rs) :=
 AllReadyH.cons (by simpa using ho) h hs
end
end
section
open Go.RowKit Go.Sort
/-- The arcs of each node: a row of rows, each in memory of its own. -/
structure Fan (w : World) (B g n cap : Nat) (vl : List Value) (L : Nat → List Int) : Prop where
 out : w.ownsRow B 63 1 (.slice (some ⟨g, 0, none⟩) n cap) n vl
 own : ∀ (j : Nat) (v : Value), vl[j]? = some v → w.ownsRow B 3 1 v (L j).length ((L j).map (Value.int .i64)) ∧ v.ownBlock ≠ some g
 dis : ∀ (i j : Nat) (v u : Value), vl[i]? = some v → vl[j]? = some u → i ≠ j → v.ownBlock = none ∨ v.ownBlock ≠ u.ownBlock
theorem jZ {w : World} {B : Nat} {E : TypeId} {size : Nat} {v : Value} {n : Nat} {xs : List Value} {g j : Nat} (h : w.ownsRow B E size v n xs) (hne : v.ownBlock ≠ some g) (u : Value) : (w.setCell ⟨g, j, none⟩ u).ownsRow B E size v n xs := by
 rcases h with ⟨hl, h0 | ⟨g', cap, cur, rfl, hB, hg, rest⟩⟩
 ·exact ⟨hl, .inl h0⟩
 ·refine ⟨hl, .inr ⟨g', cap, cur, rfl, hB, ?_, rest⟩⟩
  rw [Below.heap_setCell w ⟨g, j, none⟩ u g' (by simpa [Value.ownBlock] using hne)]
  exact hg
theorem Fan.lt {w : World} {B g n cap : Nat} {vl : List Value} {L : Nat → List Int} (F : Fan w B g n cap vl L) : B ≤ g ∧ g < w.heap.size := F.out.lt g rfl
theorem Fan.len {w : World} {B g n cap : Nat} {vl : List Value} {L : Nat → List Int} (F : Fan w B g n cap vl L) : vl.length = n := by simpa using F.out.1
theorem Fan.up {w w' : World} {B g n cap : Nat} {vl : List Value} {L : Nat → List Int} (F : Fan w B g n cap vl L) (hb : Below w.heap.size w w') : Fan w' B g n cap vl L :=
 ⟨own_up F.out hb, fun j v hv => ⟨own_up (F.own j v hv).1 hb, (F.own j v hv).2⟩, F.dis⟩
theorem Fan.at_ {w : World} {B g n cap : Nat} {vl : List Value} {L : Nat → List Int} (F : Fan w B g n cap vl L) {h : Nat} (hh : h < n) :
    ∃ v, vl[h]? = some v ∧ w.cell? ⟨g, h, none⟩ = some v ∧ w.ownsRow B 3 1 v (L h).length ((L h).map (Value.int .i64)) := by
 have hl : h < vl.length := by rw [F.len]; exact hh
 refine ⟨vl[h], List.getElem?_eq_getElem hl, ?_, (F.own h _ (List.getElem?_eq_getElem hl)).1⟩
 rw [F.out.cellAt h (by omega)]
 exact List.getElem?_eq_getElem hl
/-- The row with one number more. -/
def addTo (L : Nat → List Int) (h : Nat) (x : Int) (j : Nat) : List Int := if j = h then L j ++ [x] else L j
/-- What stands before the store: the outer row is as it was; the block that was appended to is not it. -/
theorem Fan.mid {w w1 : World} {B g n cap : Nat} {vl : List Value} {L : Nat → List Int} {o : Obj} {v : Value} {h : Nat} (F : Fan w B g n cap vl L) (hv : vl[h]? = some v) (hg : (w.alloc o).grownBy w1 v.ownBlock) :
    w1.ownsRow B 63 1 (.slice (some ⟨g, 0, none⟩) n cap) n vl :=
 (F.out.alloc o).kept hg (.inr fun e => (F.own h v hv).2 e.symm)
theorem Fan.step {w w1 : World} {B g n cap : Nat} {vl : List Value} {L : Nat → List Int} {o : Obj} {v v' : Value} {h : Nat} {x : Int} (F : Fan w B g n cap vl L) (hv : vl[h]? = some v)
    (own' : w1.ownsRow B 3 1 v' ((L h).length + 1) ((L h).map (Value.int .i64) ++ [.int .i64 x])) (hg : (w.alloc o).grownBy w1 v.ownBlock) (hat : v'.ownBlock = v.ownBlock ∨ v'.ownBlock = some (w.alloc o).heap.size) :
    Fan (w1.setCell ⟨g, h, none⟩ v') B g n cap (vl.set h v') (addTo L h x) := by
 have hlv : h < vl.length := (List.getElem?_eq_some_iff.1 hv).1
 have hne : v'.ownBlock ≠ some g := by
  rcases hat with e | e
  ·rw [e]; exact (F.own h v hv).2
  ·rw [e]; intro h'; have := F.lt; simp at h'; omega
 have get : ∀ j u, (vl.set h v')[j]? = some u → (j = h ∧ u = v') ∨ (j ≠ h ∧ vl[j]? = some u) := by
  intro j u hu
  by_cases e : j = h
  ·subst e; rw [List.getElem?_set_self hlv] at hu; injection hu with hu; exact .inl ⟨rfl, hu.symm⟩
  ·rw [List.getElem?_set_ne (Ne.symm e)] at hu; exact .inr ⟨e, hu⟩
 refine ⟨((F.mid hv hg).stored h v').1, fun j u hu => ?_, fun i j u u' hu hu' hij => ?_⟩
 ·rcases get j u hu with ⟨rfl, rfl⟩ | ⟨e, hu'⟩
  ·refine ⟨jZ ?_ hne _, hne⟩
   simpa [addTo] using own'
  ·have F1 := F.own j u hu'
   refine ⟨jZ ?_ F1.2 _, F1.2⟩
   simp only [addTo, if_neg e]
   exact (F1.1.alloc o).kept hg (F.dis j h u v hu' hv e)
 ·have small : ∀ (j : Nat) (u : Value), vl[j]? = some u → u.ownBlock ≠ some (w.alloc o).heap.size := by
   intro j u hu e
   have := (F.own j u hu).1.lt _ e
   simp at this
   omega
  rcases get i u hu with ⟨rfl, rfl⟩ | ⟨e, h1⟩ <;> rcases get j u' hu' with ⟨rfl, rfl⟩ | ⟨e', h2⟩
  ·exact absurd rfl hij
  ·rcases hat with e2 | e2
   ·rw [e2]; exact F.dis _ _ v u' hv h2 hij
   ·rw [e2]; exact .inr fun e3 => small _ _ h2 e3.symm
  ·rcases hat with e2 | e2
   ·rw [e2]; exact F.dis _ _ u v h1 hv hij
   ·rw [e2]; exact .inr (small _ _ h1)
  ·exact F.dis _ _ u u' h1 h2 hij
theorem Fan.start {w : World} {B g n : Nat} {xs : List Value} (h : w.ownsRow B 63 1 (.slice (some ⟨g, 0, none⟩) n n) n xs) (hx : xs = List.replicate n (.slice none 0 0)) : Fan w B g n n xs (fun _ => []) := by
 subst hx
 have get : ∀ (j : Nat) (v : Value), (List.replicate n (Value.slice none 0 0))[j]? = some v → v = .slice none 0 0 := fun j v hv => by
  have := List.mem_of_getElem? hv
  exact List.eq_of_mem_replicate this
 refine ⟨h, fun j v hv => ?_, fun i j v u hv _ _ => ?_⟩
 ·rw [get j v hv]; exact ⟨World.ownsRow_nil _ _ _ _, by simp [Value.ownBlock]⟩
 ·rw [get i v hv]; exact .inl rfl
def inN (t : Topo) (k : Nat) (n : Nat) : List Int := ups (inP t n) k
theorem inN_next (t : Topo) (k h : Nat) (hh : fZ t k = (h : Int)) : inN t (k + 1) = addTo (inN t k) h k := by
 funext j
 unfold inN addTo
 by_cases e : j = h
 ·subst e; rw [if_pos rfl, ups_hit (by simp [inP, hh])]
 ·rw [if_neg e, ups_miss (by simp [inP, hh]; omega)]
theorem Fan.below {w w1 : World} {B g n cap : Nat} {vl : List Value} {L : Nat → List Int} {o : Obj} {v v' : Value} {h : Nat} (F : Fan w B g n cap vl L) (hv : vl[h]? = some v) (hB : B ≤ w.heap.size) (hg : (w.alloc o).grownBy w1 v.ownBlock) :
    Below B w (w1.setCell ⟨g, h, none⟩ v') :=
 (((Below.refl B w).alloc hB o).grown hg (by simp; omega) (fun k hk => ((F.own h v hv).1.lt k hk).1)).setCell (p := ⟨g, h, none⟩) F.lt.1 _
theorem sliceInfo : (Tryz.prog.info? 63).map (fun i => (i.zero, i.size, i.bytes)) = some (some (.slice none 0 0), 1, 24) := by kernel_rfl
/-- What Entering returns. -/
def RetFan (w : World) (t : Topo) (e : Ending) (w' : World) : Prop :=
 ∃ (g n cap : Nat) (vl : List Value), ((n : Nat) : Int) = t.n ∧ e = .returned (.slice (some ⟨g, 0, none⟩) n cap) ∧ Fan w' (w.heap.size + 1) g n cap vl (inN t (2 * t.ls.length)) ∧ Below w.heap.size w w'
theorem head_bd {t : Topo} (hv : valid t = true) {a : Int} (h0 : 0 ≤ a) (h1 : a < 2 * (t.ls.length : Int)) : 0 ≤ fZ t a ∧ fZ t a < t.n := by
 have := lnk_bd (valid_lnk hv (lnk_at h0 h1).2)
 unfold fZ
 split <;> omega
set_option maxHeartbeats 1000000 in
theorem graph_Entering (t : Topo) (A1 A2 : Option Addr) (c1 c2 : Nat) (w : World) (hT : TAt w A1 A2 t) (hn : t.ls.length ≤ 100000) (hv : valid t = true) :
    Calls Tryz.prog 99 #[.agg #[.int .i64 t.n, .slice A1 t.ov.length c1, .slice A2 t.ls.length c2]] w (RetFan w t) := by
 obtain ⟨i0, hi, hz0, hz1, hz2⟩ := info_parts intInfo
 obtain ⟨j0, hj, hy0, hy1, hy2⟩ := info_parts sliceInfo
 have hX := TBox.start c1 c2 hT
 have HT0 := hU hT
 obtain ⟨hn1, hn2⟩ := iZ hv
 obtain ⟨m, hm⟩ : ∃ m : Nat, t.n = (m : Int) := ⟨t.n.toNat, by omega⟩
 have HM := hU hm
 have HV := hU hv
 have b0 := hX.b0
 have b1 := hX.b1
 have b2 := hX.b2
 have HX := hU hX
 rw [hm] at hn1 hn2
 clear hX hT hv hm
 go_enter Tryz.func99, Tryz.ntmps99
 go_wp2_with (first | (at_make; refine wpList_make_full _ rfl _ _ 131 rfl (w.heap.size + 1) 63 j0 (.slice none 0 0) 1 Tryz.underlying131 hj hy0 hy1 .i64 .i64 t.n t.n m rfl rfl HM.out HM.out ?d1 ?d2 ?d3 ?_))
 case d1 => rw [hy2]; omega
 case d2 => unfold maxLen; omega
 case d3 => simp
 intro w1 hown hgrow
 have F0 := Fan.start hown (toList_madeCells_one _ _)
 have hb1 : Below (w.alloc (.cells #[.int .i64 t.n, .slice A1 t.ov.length c1, .slice A2 t.ls.length c2] 25)).heap.size (w.alloc (.cells #[.int .i64 t.n, .slice A1 t.ov.length c1, .slice A2 t.ls.length c2] 25)) w1 := (Below.refl _ _).grown hgrow (Nat.le_refl _) (by simp)
 replace HX := hU (HX.out.up hb1)
 replace b0 := HX.out.b0
 replace b1 := HX.out.b1
 replace b2 := HX.out.b2
 have HF := hU F0
 clear hown hgrow F0 hb1
 go_wp2_with (go_at_call 52; refine (graph_Arcs _ _ _ _ _ _ hn).mono ?_; rintro e w2 ⟨rfl, hb2⟩)
 replace HX := hU (HX.out.up hb2)
 replace HF := hU (HF.out.up hb2)
 clear b0 b1 b2 hb2
 go_loopw [11] (fun i wr => ∃ (k : Nat) (vl : List Value), k ≤ 2 * t.ls.length ∧ i = .int .i64 k ∧ Hid (Fan wr (w.heap.size + 1) (w.heap.size + 1) m m vl (inN t k)) ∧ Hid (TBox w A1 A2 c1 c2 t wr)) (fun i _ => 2 * t.ls.length - (intOf i).toNat)
 case atStart => exact ⟨0, _, Nat.zero_le _, rfl, HF, HX⟩
 case round =>
  clear HX HF
  obtain ⟨k, vl, hk, rfl, HF, HX⟩ := hrel
  have b0 := HX.out.b0
  have b1 := HX.out.b1
  have b2 := HX.out.b2
  by_cases hlt : k < 2 * t.ls.length
  ·have hlt' : (k : Int) < 2 * (t.ls.length : Int) := by omega
   have hul := ups_le (inP t (fZ t k)) k
   obtain ⟨h, hh⟩ : ∃ h : Nat, fZ t k = (h : Int) := ⟨(fZ t k).toNat, by have := head_bd HV.out (a := k) (by omega) hlt'; omega⟩
   have hhm : h < m := by have := head_bd HV.out (a := k) (by omega) hlt'; have := HM.out; omega
   rw [hh] at hul
   have HH := hU hh
   clear hh
   have hhm' : (h : Int) < (m : Int) := by omega
   have hul' : (inN t k h).length ≤ k := hul
   clear hul
   go_wp2_with (first | (go_at_call 59; refine (graph_Head _ _ _ _ t _ _ HX.out.ta.ls (by omega) hlt' hn).mono ?_; rw [HH.out]; rintro e w3 ⟨rfl, hb3⟩; replace HX := hU (HX.out.up hb3); replace HF := hU (HF.out.up hb3); clear hb3 b0 b1 b2; obtain ⟨v, hv, hvc, hvo⟩ := HF.out.at_ hhm; have HVL := hU hv; have HVO := hU hvo; clear hv hvo) | (at_builtin; refine wpList_append_own_at _ rfl _ _ 63 rfl (w.heap.size + 1) 3 i0 (.int .i64 0) 1 8 Tryz.underlying63 hi hz0 hz1 hz2 rfl (by decide) v _ _ rfl (HVO.out.alloc _) ⟨_, 0, none⟩ 1 1 [.int .i64 k] rfl rfl (cell_one_new _ _ _) ?c2 ?c3 ?c4 ?c5 ?_))
   case c2 => intro u hu; simp at hu; subst hu; rfl
   case c3 => unfold maxLen; omega
   case c4 => omega
   case c5 => have := HF.out.lt; simp; omega
   intro v' w4 hown' hgrow _ hat
   have F1 := hU (HF.out.step HVL.out hown' hgrow (by simpa using hat))
   have F2 := hU (HF.out.below (v' := v') HVL.out (by have := HF.out.lt; omega) hgrow)
   have F3 := HF.out.mid HVL.out hgrow
   have q0 : w4.cell? ⟨w.heap.size + 1, h, none⟩ = some v := by
    rw [F3.cellAt h (by omega)]; exact HVL.out
   have q1 : w4.frozen? ⟨w.heap.size + 1, h, none⟩ = false := F3.frozenAt h
   have HS := hU hown'.2
   clear hown' hgrow hat F3
   obtain ⟨A', cp, rfl⟩ : ∃ A' cp, v' = .slice A' ((inN t k h).length + 1) cp := by
    rcases HS.out with ⟨_, h0⟩ | ⟨g, cp, cur, hv', _⟩
    ·omega
    ·exact ⟨_, _, hv'⟩
   go_wp2_with fail
   go_roundw
   case rel => exact ⟨k + 1, _, by omega, by go_num, hU (by rw [inN_next t k h HH.out]; exact F1.out), hU (keep_box HX.out F2.out HT0.out)⟩
   case measure => simp [intOf]; omega
  ·obtain rfl : k = 2 * t.ls.length := by omega
   go_wp2_with fail
   go_ret
   exact ⟨_, _, _, _, HM.out.symm, rfl, HF.out, HX.out.hb⟩
/-- What the loads of a drawn region read, and what the calls need. -/
theorem TBox.keep {w w' : World} {A1 A2 : Option Addr} {c1 c2 : Nat} {t : Topo} (h : Hid (TBox w A1 A2 c1 c2 t w')) :
    w'.cell? ⟨w.heap.size, 0, none⟩ = some (.int .i64 t.n) ∧ w'.cell? ⟨w.heap.size, 1, none⟩ = some (.slice A1 t.ov.length c1) ∧ w'.cell? ⟨w.heap.size, 2, none⟩ = some (.slice A2 t.ls.length c2) ∧ Hid (TBox w A1 A2 c1 c2 t w') :=
 ⟨h.out.b0, h.out.b1, h.out.b2, h⟩
end
end Go.Proofs.YtdnjflpmbnjgeaaGreat
