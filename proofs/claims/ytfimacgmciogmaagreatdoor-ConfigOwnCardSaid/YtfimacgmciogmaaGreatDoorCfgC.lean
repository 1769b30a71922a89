/-
  What code keeps that writes into several blocks and makes memory (the general part of LoP).
  A map that the code itself has made, as the list of its entries in the order in which they were stored.
  The language of configurations, as the program reads it, in plain Lean.
  config's parser in memory.
  config's parser: the small methods.
  config's parser: taking words.
  config's parser: names and numbers.
-/
import Derived.Test.YtfimacgmciogmaaGreatDoorPkBase
import Derived.Maps.Own
import Derived.StringKeys
import Derived.MapKept
import Derived.Test.YtfimacgmciogmaaGreatDoorBuilder
import Derived.BigQuiet
import Derived.Deep.RegionHeld3
import Derived.LoopTactic
import Derived.Deep.CutBlock
import Derived.Deep.Cut
namespace Go.Proofs.YtfimacgmciogmaaGreatDoor
set_option linter.unusedSimpArgs false
set_option linter.unusedVariables false
open Go.RowKit Go.Shelf Go.Sort
/-- What code keeps that writes into the blocks X and makes memory: all other blocks below base, and whatever holds no cells. -/
structure LoP (base : Nat) (X : List Nat) (W W' : World) : Prop where
 os : W'.os = W.os
 tape : W'.tape = W.tape
 output : W'.output = W.output
 size : W.heap.size ≤ W'.heap.size
 blk : ∀ k, k < base → k ∉ X → W'.heap[k]? = W.heap[k]?
 oth : ∀ (k : Nat) (o : Obj), W.heap[k]? = some o → o.isCells = false → W'.heap[k]? = some o
theorem LoP.refl (base : Nat) (X : List Nat) (W : World) : LoP base X W W := ⟨rfl, rfl, rfl, Nat.le_refl _, fun _ _ _ => rfl, fun _ _ h _ => h⟩
theorem LoP.trans {base : Nat} {X : List Nat} {A B C : World} (h : LoP base X A B) (g : LoP base X B C) : LoP base X A C :=
 ⟨g.os.trans h.os, g.tape.trans h.tape, g.output.trans h.output, Nat.le_trans h.size g.size, fun k hk hn => (g.blk k hk hn).trans (h.blk k hk hn), fun k o hk ho => g.oth k o (h.oth k o hk ho) ho⟩
theorem LoP.of_below {base : Nat} {X : List Nat} {W W' : World} (hb : Below W.heap.size W W') (hs : base ≤ W.heap.size) : LoP base X W W' :=
 ⟨hb.os, hb.tape, hb.output, hb.size, fun k hk _ => hb.block k (by omega), fun k o hk _ => (hb.block k (Array.getElem?_eq_some_iff.1 hk).1).trans hk⟩
theorem LoP.append {base : Nat} {X : List Nat} {W w1 : World} {e : TypeId} {size n : Nat} {v : Value} {xs : List Value} {tmp : Obj} (hrow : W.ownsRow base e size v n xs) (hg : (W.alloc tmp).grownBy w1 v.ownBlock) (hs : base ≤ W.heap.size) : LoP base X W w1 := by
 have hb := below_box W tmp
 refine ⟨hg.os.trans hb.os, hg.tape.trans hb.tape, hg.output.trans hb.output, Nat.le_trans hb.size hg.size, fun k hk _ => ?_, fun k o hk ho => ?_⟩
 ·rw [hg.block k (by have := hb.size; omega) (fun e => by have := (hrow.lt k e.symm).1; omega), hb.block k (by omega)]
 ·have hlt := (Array.getElem?_eq_some_iff.1 hk).1
  rw [hg.block k (by have := hb.size; omega) (fun e => ?_), hb.block k hlt, hk]
  rcases hrow.2 with ⟨rfl, _⟩ | ⟨g, cap, cur, rfl, _, hgb, _⟩
  ·simp [Value.ownBlock] at e
  ·obtain rfl : k = g := by simpa [Value.ownBlock] using e
   rw [hgb] at hk; cases hk; cases ho
theorem LoP.set {base b : Nat} {X : List Nat} {W : World} {t : TypeId} {v : Value} (h : Boxed W b t v) (hX : b ∈ X) (u : Value) : LoP base X W (W.setCell ⟨b, 0, none⟩ u) := by
 have hg := grownBy_setCell' W b u
 refine ⟨hg.os, hg.tape, hg.output, hg.size, fun k hk hn => ?_, fun k o hk ho => ?_⟩
 ·exact Below.heap_setCell _ _ _ _ (fun e => hn (by have e' : k = b := e; rw [e']; exact hX))
 ·rw [Below.heap_setCell _ _ _ _ (fun e => ?_), hk]
  have e' : k = b := e
  rw [e', show W.heap[b]? = _ from h] at hk; cases hk; cases ho
theorem LoP.mono {base : Nat} {X Y : List Nat} {W W' : World} (h : LoP base X W W') (hs : ∀ b ∈ X, b ∈ Y) : LoP base Y W W' := ⟨h.os, h.tape, h.output, h.size, fun k hk hn => h.blk k hk (fun hm => hn (hs k hm)), h.oth⟩
theorem LoP.drew {base : Nat} {X : List Nat} {W W' : World} (h : LoP base X W W') : LoP base X W W'.drew := ⟨h.os, h.tape, h.output, h.size, h.blk, h.oth⟩
theorem LoP.keeps {base B' : Nat} {X : List Nat} {W W' : World} (h : LoP base X W W') : KeepsFrom B' W W' := ⟨h.size, fun k o _ hk ho => h.oth k o hk ho⟩
theorem LoP.box {base b : Nat} {X : List Nat} {W W' : World} {t : TypeId} {v : Value} (h : LoP base X W W') (hb : Boxed W b t v) (h1 : b < base) (h2 : b ∉ X) : Boxed W' b t v := (h.blk b h1 h2).trans hb
theorem LoP.below {base n₀ : Nat} {X : List Nat} {w W W' : World} (h : LoP base X W W') (hb : Below n₀ w W) (h1 : n₀ ≤ base) (h2 : ∀ b ∈ X, n₀ ≤ b) : Below n₀ w W' :=
 ⟨h.os.trans hb.os, h.tape.trans hb.tape, h.output.trans hb.output, Nat.le_trans hb.size h.size, fun k hk => (h.blk k (by omega) (fun hm => by have := h2 k hm; omega)).trans (hb.block k hk)⟩
theorem Firm.ex {β γ : Type} {B Bs : Nat} {J : β × γ → World → Prop} (h : Firm B Bs J) : Firm B Bs fun s W => ∃ g, J (s, g) W := by
 rintro s X Y r ⟨g, hs⟩ hg hr
 exact ⟨g, h (s, g) X Y r hs hg hr⟩
theorem Firm.or {β : Type} {B Bs : Nat} {I J : β → World → Prop} (h : Firm B Bs I) (g : Firm B Bs J) : Firm B Bs fun s W => I s W ∨ J s W := by
 rintro s X Y r (hs | hs) hg hr
 ·exact .inl (h s X Y r hs hg hr)
 ·exact .inr (g s X Y r hs hg hr)
theorem LoP.of_grown {base b : Nat} {X : List Nat} {W W' : World} {cs : Array Value} {T : TypeId} {fr : Nat × Nat} (hc : W.heap[b]? = some (.cells cs T fr)) (hX : b ∈ X ∨ base ≤ b) (hg : W.grownBy W' (some b)) (hs : base ≤ W.heap.size) : LoP base X W W' := by
 refine ⟨hg.os, hg.tape, hg.output, hg.size, fun k hk hn => hg.block k (by omega) (fun e => ?_), fun k o hk ho => ?_⟩
 ·injection e with e
  subst e
  rcases hX with h | h
  ·exact hn h
  ·omega
 ·rw [hg.block k (Array.getElem?_eq_some_iff.1 hk).1 (fun e => ?_), hk]
  injection e with e
  subst e
  rw [hc] at hk; cases hk; cases ho
theorem LoP.setC {base b j : Nat} {X : List Nat} {W : World} {cs : Array Value} {T : TypeId} {fr : Nat × Nat} (hc : W.heap[b]? = some (.cells cs T fr)) (hX : b ∈ X ∨ base ≤ b) (hs : base ≤ W.heap.size) (u : Value) : LoP base X W (W.setCell ⟨b, j, none⟩ u) :=
 LoP.of_grown hc hX ⟨rfl, rfl, rfl, by simp, fun k _ hn => Below.heap_setCell _ _ _ _ (fun e => hn (by rw [e]))⟩ hs
theorem LoP.put {base D : Nat} {X : List Nat} {w W : World} (h : LoP base X w W) (hD : w.heap.size ≤ D) (hs : base ≤ w.heap.size) (o : Obj) : LoP base X w (W.putObj D o) :=
 ⟨h.os, h.tape, h.output, by have := h.size; simpa using this, fun k hk hn => (World.putObj_heap_other (by omega)).trans (h.blk k hk hn), fun k o' hk ho => (World.putObj_heap_other (by have := (Array.getElem?_eq_some_iff.1 hk).1; omega)).trans (h.oth k o' hk ho)⟩
theorem own_setT {w : World} {B : Nat} {E : TypeId} {size : Nat} {v : Value} {n : Nat} {xs : List Value} {g j : Nat} (h : w.ownsRow B E size v n xs) (hne : v.ownBlock ≠ some g) (u : Value) : (w.setCell ⟨g, j, none⟩ u).ownsRow B E size v n xs := by
 rcases h with ⟨hl, h0 | ⟨g', cap, cur, rfl, hB, hg, rest⟩⟩
 ·exact ⟨hl, .inl h0⟩
 ·refine ⟨hl, .inr ⟨g', cap, cur, rfl, hB, ?_, rest⟩⟩
  rw [Below.heap_setCell w ⟨g, j, none⟩ u g' (by simpa [Value.ownBlock] using hne)]
  exact hg
/-! The errors' variables, the tables. -/
def ET (n0 : Nat) (w : World) : Prop := ∀ w' : World, (∀ k, k < n0 → w'.heap[k]? = w.heap[k]?) → Errs w'
theorem ET.up {n0 : Nat} {w w' : World} (h : ET n0 w) (hk : ∀ k, k < n0 → w'.heap[k]? = w.heap[k]?) : ET n0 w' := fun W hW => h W fun k hkn => (hW k hkn).trans (hk k hkn)
theorem var_upN {w w' : World} {name : String} {cs : Array Value} (h : w.var? Tryz.prog name = some cs) (hb : ∀ k, k < w.heap.size → w'.heap[k]? = w.heap[k]?) : w'.var? Tryz.prog name = some cs := by
 unfold World.var? at h ⊢
 cases hg : Tryz.prog.globalNamed name with
 | none => rw [hg] at h; simp at h
 | some g =>
  rw [hg] at h
  simp only [Option.bind_some] at h ⊢
  cases ho : w.heap[g]? with
  | none => rw [ho] at h; simp at h
  | some o => rw [hb g (Array.getElem?_eq_some_iff.1 ho).1, ho]; rw [ho] at h; exact h
theorem ET.of {w : World} (h : Errs w) : ET w.heap.size w := fun w' hk => by
 obtain ⟨⟨t1, p1, h1⟩, t2, p2, h2⟩ := h
 exact ⟨⟨t1, p1, var_upN h1 hk⟩, t2, p2, var_upN h2 hk⟩
end Go.Proofs.YtfimacgmciogmaaGreatDoor
namespace Go.Proofs.YtfimacgmciogmaaGreatDoor
set_option linter.unusedSimpArgs false
set_option linter.unusedVariables false
open Go.RowKit Go.Shelf Go.Sort Go.ChangeMaps Go.MapKept
open Go.Maps (Keyed)
/-- Block b is a map with these entries. -/
def MapAt (P : Program) (k : TypeId) (b : Nat) (L : List (Value × Value)) (w : World) : Prop :=
 ∃ es clock, w.heap[b]? = some (.map es clock) ∧ es.toList.map (fun e => (e.key, e.val)) = L ∧ (∀ x ∈ L, ∃ l, keyOf P k x.1 = some l) ∧ (L.map (·.1)).Nodup
theorem MapAt.made (P : Program) (k : TypeId) (w : World) : MapAt P k w.heap.size [] (w.alloc (.map #[] 0)) :=
 ⟨#[], 0, (MapKept.heap_alloc w _).1, rfl, by simp, by simp⟩
theorem MapAt.kept {P : Program} {k : TypeId} {b : Nat} {L : List (Value × Value)} {w w' : World} (h : MapAt P k b L w) (hb : w'.heap[b]? = w.heap[b]?) : MapAt P k b L w' := by
 obtain ⟨es, clock, h1, h2⟩ := h
 exact ⟨es, clock, hb.trans h1, h2⟩
theorem MapAt.lt {P : Program} {k : TypeId} {b : Nat} {L : List (Value × Value)} {w : World} (h : MapAt P k b L w) : b < w.heap.size := by
 obtain ⟨es, clock, h1, _⟩ := h
 exact (Array.getElem?_eq_some_iff.1 h1).1
theorem MapAt.miss {P : Program} {k e t : TypeId} {b : Nat} {L : List (Value × Value)} {w : World} (h : MapAt P k b L w) (K : Keyed P k) (ht : P.underlying t = some (.map k e)) {z : Value} (hz : (zeroValue e).run P w = .ok z w) {key : Value} {kl : Lit} (hkey : keyOf P k key = some kl) (c : Bool)
  (hm : ∀ x ∈ L, x.1 ≠ key) : (Instr.lookup t (.map (some b)) key c).run P w = .ok (if c then .tuple #[z, .bool false] else z) w := by
 obtain ⟨es, clock, hb, rfl, hk, _⟩ := h
 rcases K.find w hkey es.toList (fun e he => hk (e.key, e.val) (List.mem_map.2 ⟨e, he, rfl⟩)) with ⟨h1, h2⟩ | ⟨j, e0, h1, h2, h3⟩
 ·simp [Instr.lookup, run_underlying ht, MapKept.run_getObj_map hb, K.check w _ hkey, h1, hz, Result.andThen]
 ·exact absurd h3 (hm (e0.key, e0.val) (List.mem_map.2 ⟨e0, List.mem_of_getElem? h2, rfl⟩))
theorem MapAt.hit {P : Program} {k e t : TypeId} {b : Nat} {L : List (Value × Value)} {w : World} (h : MapAt P k b L w) (K : Keyed P k) (ht : P.underlying t = some (.map k e)) {key v : Value} {kl : Lit} (hkey : keyOf P k key = some kl) (c : Bool)
  (hm : (key, v) ∈ L) : (Instr.lookup t (.map (some b)) key c).run P w = .ok (if c then .tuple #[v, .bool true] else v) w := by
 obtain ⟨es, clock, hb, rfl, hk, hn⟩ := h
 obtain ⟨e1, he1, h11⟩ := List.mem_map.1 hm
 injection h11 with h11 h12
 rcases K.find w hkey es.toList (fun e he => hk (e.key, e.val) (List.mem_map.2 ⟨e, he, rfl⟩)) with ⟨h1, h2⟩ | ⟨j, e0, h1, h2, h3⟩
 ·exact absurd h11 (h2 e1 he1)
 ·have hv : e0.val = v := by
   obtain ⟨i, hi, rfl⟩ := List.getElem_of_mem he1
   have hj := (List.getElem?_eq_some_iff.1 h2)
   obtain ⟨hj1, rfl⟩ := hj
   rw [List.map_map] at hn
   have := List.getElem_inj hn (i := i) (j := j) (h₀ := by simpa using hi) (h₁ := by simpa using hj1)
   simp only [List.getElem_map, Function.comp_apply] at this
   have e : i = j := this.1 (h11.trans h3.symm)
   subst e
   exact h12
  simp [Instr.lookup, run_underlying ht, MapKept.run_getObj_map hb, K.check w _ hkey, h1, hv, Result.andThen]
theorem MapAt.store {P : Program} {k e t : TypeId} {b : Nat} {L : List (Value × Value)} {w : World} (h : MapAt P k b L w) (K : Keyed P k) (ht : P.underlying t = some (.map k e)) {key : Value} {kl : Lit} (hkey : keyOf P k key = some kl) (v : Value)
  (hm : ∀ x ∈ L, x.1 ≠ key) : ∃ w', (Instr.mapUpdate t (.map (some b)) key v).run P w = .ok () w' ∧ MapAt P k b (L ++ [(key, v)]) w' ∧ w.grownBy w' (some b) := by
 obtain ⟨es, clock, hb, rfl, hk, hn⟩ := h
 rcases K.find w hkey es.toList (fun e he => hk (e.key, e.val) (List.mem_map.2 ⟨e, he, rfl⟩)) with ⟨h1, h2⟩ | ⟨j, e0, h1, h2, h3⟩
 ·refine ⟨setBlock w b (.map (es.push ⟨key, v, clock⟩) (clock + 1)), ?_, ⟨_, _, heap_setBlock_same hb _, by simp, ?_, ?_⟩, ⟨rfl, rfl, rfl, by simp [setBlock], fun i _ hi => heap_setBlock_other hb _ (fun e => hi (by rw [e]))⟩⟩
  ·simp [Instr.mapUpdate, run_underlying ht, MapKept.run_getObj_map hb, K.check w false hkey, h1, MapKept.run_setObj_map _ hb, Result.andThen, setBlock]
  ·intro x hx
   rcases List.mem_append.1 hx with hx | hx
   ·exact hk x hx
   ·simp at hx; subst hx; exact ⟨_, hkey⟩
  ·rw [List.map_append]
   refine List.nodup_append.2 ⟨hn, by simp, ?_⟩
   intro a ha b hb2
   simp at hb2
   obtain ⟨x, hx, rfl⟩ := List.mem_map.1 ha
   subst hb2
   exact hm x hx
 ·exact absurd h3 (hm (e0.key, e0.val) (List.mem_map.2 ⟨e0, List.mem_of_getElem? h2, rfl⟩))
theorem keyS {P : Program} {k : TypeId} (hk : P.underlying k = some .string) {l : List UInt8} (hl : l.length ≤ 1000000) : keyOf P k (.string ⟨l.toArray⟩) = some (.string l) := by
 rw [Go.WideMaps.keyOf_string_mk hk (by unfold maxLen; simp [ByteArray.size]; omega)]
end Go.Proofs.YtfimacgmciogmaaGreatDoor
namespace Go.Proofs.YtfimacgmciogmaaGreatDoor
set_option linter.unusedSimpArgs false
set_option linter.unusedVariables false
open Go.RowKit Go.Sort
/-! Words. A line's words that are left: the next one is the first. -/
def kNode : List UInt8 := [110, 111, 100, 101]
def kLink : List UInt8 := [108, 105, 110, 107]
def kLet : List UInt8 := [108, 101, 116]
def kPrefix : List UInt8 := [112, 114, 101, 102, 105, 120]
def kPolicy : List UInt8 := [112, 111, 108, 105, 99, 121]
def kDemand : List UInt8 := [100, 101, 109, 97, 110, 100]
def kTimer : List UInt8 := [116, 105, 109, 101, 114]
def kOverload : List UInt8 := [111, 118, 101, 114, 108, 111, 97, 100]
def kFrom : List UInt8 := [102, 114, 111, 109]
def kTo : List UInt8 := [116, 111]
def kCost : List UInt8 := [99, 111, 115, 116]
def kBack : List UInt8 := [98, 97, 99, 107]
def kCapacity : List UInt8 := [99, 97, 112, 97, 99, 105, 116, 121]
def kDelay : List UInt8 := [100, 101, 108, 97, 121]
def kGroup : List UInt8 := [103, 114, 111, 117, 112]
def kAt : List UInt8 := [97, 116]
def kAmount : List UInt8 := [97, 109, 111, 117, 110, 116]
def kPriority : List UInt8 := [112, 114, 105, 111, 114, 105, 116, 121]
def kAny : List UInt8 := [97, 110, 121]
def kBind : List UInt8 := [98, 105, 110, 100]
def keysS : List (List UInt8) := [kNode, kLink, kLet, kPrefix, kPolicy, kDemand, kTimer, kOverload, kFrom, kTo, kCost, kBack, kCapacity, kDelay, kGroup, kAt, kAmount, kPriority, kAny, kBind]
def keyB (w : List UInt8) : Bool := decide (w ∈ keysS)
def chB (c : UInt8) : Bool := (decide (97 ≤ c.toNat) && decide (c.toNat ≤ 122)) || (decide (48 ≤ c.toNat) && decide (c.toNat ≤ 57)) || decide (c.toNat = 95)
def headB : List UInt8 → Bool
 | [] => false
 | c :: _ => decide (97 ≤ c.toNat) && decide (c.toNat ≤ 122)
def namedB (w : List UInt8) : Bool := decide (w.length ≤ 16) && headB w && w.all chB && !keyB w
def digB (c : UInt8) : Bool := decide (48 ≤ c.toNat) && decide (c.toNat ≤ 57)
def digitsB (w : List UInt8) : Bool := !w.isEmpty && decide (w.length ≤ 12) && !(decide (1 < w.length) && decide (w.head? = some 48)) && w.all digB
/-- A result, and the words that are left; or the error by which the line is left. -/
abbrev PR (α : Type) := Except Int (α × List (List UInt8))
abbrev SymS := List (List UInt8 × (Int × Int))
def peekS (ws : List (List UInt8)) : List UInt8 := ws.headD []
def nextS : List (List UInt8) → PR (List UInt8)
 | [] => .error 3
 | w :: r => .ok (w, r)
def acceptS (w : List UInt8) : List (List UInt8) → Bool × List (List UInt8)
 | [] => (false, [])
 | x :: r => if x = w then (true, r) else (false, x :: r)
def expectS (w : List UInt8) : List (List UInt8) → PR Unit
 | [] => .error 3
 | x :: r => if x = w then .ok ((), r) else .error 3
def nameS : List (List UInt8) → PR (List UInt8)
 | [] => .error 3
 | x :: r => if namedB x = true then .ok (x, r) else .error 3
def lookS : SymS → List UInt8 → Option (Int × Int)
 | [], _ => none
 | (n, x) :: r, w => if n = w then some x else lookS r w
def chkS (dry ok : Bool) (e : Int) : Except Int Unit := if dry = false ∧ ok = false then .error e else .ok ()
def useOf (dry : Bool) (kind : Int) : Option (Int × Int) → Except Int Int
 | none => if dry = true then .ok 0 else .error 8
 | some (k, v) => if dry = true ∨ k = kind then .ok v else .error 1
def useS (dry : Bool) (sy : SymS) (kind : Int) : List (List UInt8) → PR Int
 | [] => .error 3
 | x :: r => if namedB x = true then (match useOf dry kind (lookS sy x) with | .ok v => .ok (v, r) | .error e => .error e) else .error 3
/-! Expressions: the operations and the operands that wait, the last one first. -/
def oPlus : List UInt8 := [43]
def oMinus : List UInt8 := [45]
def oStar : List UInt8 := [42]
def oOpen : List UInt8 := [40]
def oClose : List UInt8 := [41]
def oNeg : List UInt8 := [110, 101, 103, 97, 116, 105, 111, 110]
def rankS (w : List UInt8) : Nat := if w = oPlus ∨ w = oMinus then 1 else if w = oStar then 2 else if w = oNeg then 3 else 0
def smallS (dry : Bool) (c : Int) : Except Int Int := if dry = false ∧ ¬ (-1099511627776 ≤ c ∧ c ≤ 1099511627776) then .error 2 else .ok c
def mulOk (a b : Int) : Bool := decide (max b (wrap64 (-b)) ≤ wrap64 (Int.tdiv 1099511627776 (max a (wrap64 (-a)))))
def operateS (dry : Bool) (o : List UInt8) (a b : Int) : Except Int Int :=
 if o = oPlus then smallS dry (wrap64 (a + b))
 else if o = oMinus then smallS dry (wrap64 (a - b))
 else if a = 0 ∨ b = 0 then .ok 0
 else if dry = false ∧ mulOk a b = false then .error 2
 else smallS dry (wrap64 (a * b))
def combineS (dry : Bool) (least : Nat) : List (List UInt8) → List Int → Except Int (List (List UInt8) × List Int)
 | [], vs => .ok ([], vs)
 | o :: os, vs =>
  if rankS o < least then .ok (o :: os, vs)
  else if o = oNeg then (match vs with | x :: r => combineS dry least os (wrap64 (-x) :: r) | [] => .error 0)
  else (match vs with | y :: x :: r => (match operateS dry o x y with | .ok z => combineS dry least os (z :: r) | .error e => .error e) | _ => .error 0)
def atoiS (w : List UInt8) : Int := match Lib.atoiAll w with | .ok v => v | _ => 0
def factorS (dry : Bool) (sy : SymS) : List (List UInt8) → List (List UInt8) → List Int → PR (List (List UInt8) × List Int)
 | [], _, _ => .error 3
 | w :: r, ops, vs =>
  if w = oOpen then factorS dry sy r (oOpen :: ops) vs
  else if w = oMinus then factorS dry sy r (oNeg :: ops) vs
  else if digitsB w = true then .ok ((ops, atoiS w :: vs), r)
  else (match useS dry sy 3 (w :: r) with | .ok (v, r') => .ok ((ops, v :: vs), r') | .error e => .error e)
def openS (ops : List (List UInt8)) : Bool := decide (oOpen ∈ ops)
def closeS (dry : Bool) : List (List UInt8) → List (List UInt8) → List Int → PR (List (List UInt8) × List Int)
 | [], ops, vs => .ok ((ops, vs), [])
 | w :: r, ops, vs =>
  if openS ops = true ∧ w = oClose then (match combineS dry 1 ops vs with | .ok (os, vs') => closeS dry r (os.drop 1) vs' | .error e => .error e)
  else .ok ((ops, vs), w :: r)
def endS (dry : Bool) (ops : List (List UInt8)) (vs : List Int) : Except Int Int :=
 match combineS dry 1 ops vs with
 | .ok (os, vs') => if os = [] then .ok (vs'.getLastD 0) else .error 3
 | .error e => .error e
def exprF (dry : Bool) (sy : SymS) : Nat → List (List UInt8) → List (List UInt8) → List Int → PR Int
 | 0, _, _, _ => .error 0
 | f + 1, ws, ops, vs =>
  match factorS dry sy ws ops vs with
  | .error e => .error e
  | .ok ((o1, v1), r1) =>
   match closeS dry r1 o1 v1 with
   | .error e => .error e
   | .ok ((o2, v2), r2) =>
    if rankS (peekS r2) = 0 then (match endS dry o2 v2 with | .ok v => .ok (v, r2) | .error e => .error e)
    else (match combineS dry (rankS (peekS r2)) o2 v2 with
     | .error e => .error e
     | .ok (o3, v3) => exprF dry sy f (r2.drop 1) (peekS r2 :: o3) v3)
def exprS (dry : Bool) (sy : SymS) (ws : List (List UInt8)) : PR Int := exprF dry sy (ws.length + 1) ws [] []
def valueS (dry : Bool) (sy : SymS) (lo hi : Int) (ws : List (List UInt8)) : PR Int :=
 match exprS dry sy ws with
 | .error e => .error e
 | .ok (v, r) => if dry = false ∧ ¬ (lo ≤ v ∧ v ≤ hi) then .error 2 else .ok (v, r)
end Go.Proofs.YtfimacgmciogmaaGreatDoor
namespace Go.Proofs.YtfimacgmciogmaaGreatDoor
set_option linter.unusedSimpArgs false
set_option linter.unusedVariables false
open Go.RowKit Go.Shelf Go.Sort
def pcells (k : List Value) (wv : Value) (i : Nat) (dry : Bool) : Array Value := (k ++ [wv, .int .i64 (i : Int), .bool dry]).toArray
theorem pc_k {k : List Value} {wv : Value} {i : Nat} {dry : Bool} {j : Nat} (hj : j < k.length) : (pcells k wv i dry)[j]? = k[j]? := by
 unfold pcells
 simp [List.getElem?_append_left hj]
theorem pc_w {k : List Value} {wv : Value} {i : Nat} {dry : Bool} (h : k.length = 22) : (pcells k wv i dry)[22]? = some wv := by
 unfold pcells
 simp [List.getElem?_append_right, h]
theorem pc_i {k : List Value} {wv : Value} {i : Nat} {dry : Bool} (h : k.length = 22) : (pcells k wv i dry)[23]? = some (.int .i64 (i : Int)) := by
 unfold pcells
 simp [List.getElem?_append_right, h]
theorem pc_d {k : List Value} {wv : Value} {i : Nat} {dry : Bool} (h : k.length = 22) : (pcells k wv i dry)[24]? = some (.bool dry) := by
 unfold pcells
 simp [List.getElem?_append_right, h]
theorem pc_set {k : List Value} {wv : Value} {i : Nat} {dry : Bool} (h : k.length = 22) (j : Nat) : (pcells k wv i dry).setIfInBounds 23 (.int .i64 (j : Int)) = pcells k wv j dry := by
 unfold pcells
 rw [List.setIfInBounds_toArray, List.set_append_right _ _ (by omega), h]
 rfl
def symV (sy : SymS) : List (Value × Value) := sy.map fun x => (.string ⟨x.1.toArray⟩, .agg #[.int .i64 x.2.1, .int .i64 x.2.2])
/-- What code keeps that writes into the parser's block alone and makes memory. -/
def LoN (pb : Nat) (W W' : World) : Prop := LoP W.heap.size [pb] W W'
theorem LoP.weak {base base' : Nat} {X : List Nat} {W W' : World} (h : LoP base X W W') (hb : base' ≤ base) : LoP base' X W W' := ⟨h.os, h.tape, h.output, h.size, fun k hk => h.blk k (by omega), h.oth⟩
theorem LoN.trans {pb : Nat} {A B C : World} (h : LoN pb A B) (g : LoN pb B C) : LoN pb A C := LoP.trans h (LoP.weak g h.size)
theorem LoN.below {pb : Nat} {W W' : World} (hb : Below W.heap.size W W') : LoN pb W W' := LoP.of_below hb (Nat.le_refl _)
theorem LoN.refl (pb : Nat) (W : World) : LoN pb W W := LoP.refl _ _ _
/-- Where a line is read: the parser's block, the words of the line, those that are left. -/
structure PS (pb : Nat) (k : List Value) (A : Option Addr) (cw : Nat) (all : List (List UInt8)) (dry : Bool) (sb : Nat) (sy : SymS) (rest : List (List UInt8)) (W : World) : Prop where
 blk : W.heap[pb]? = some (.cells (pcells k (.slice A all.length cw) (all.length - rest.length) dry) 52 (0, 0))
 kl : k.length = 22
 suf : ∃ pre, all = pre ++ rest
 rd : Rd W A (all.map strW)
 aw : ∀ b o s, A = some ⟨b, o, s⟩ → b ≠ pb ∧ b < W.heap.size
 al : all.length ≤ 10000 ∧ ∀ x ∈ all, x ≠ [] ∧ x.length ≤ 10000
 sk : k[14]? = some (.map (some sb))
 sm : MapAt Tryz.prog 9 sb (symV sy) W
 sn : sb ≠ pb
theorem rd_blocks {w w' : World} {A : Option Addr} {xs : List Value} (h : Rd w A xs) (hb : ∀ b o s, A = some ⟨b, o, s⟩ → w'.heap[b]? = w.heap[b]?) : Rd w' A xs := by
 rcases h with rfl | ⟨b, o, rfl, h⟩
 ·exact .inl rfl
 ·exact .inr ⟨b, o, rfl, fun i v hv => (World.cell?_of_block (a := ⟨b, o + i, none⟩) (hb b o none rfl)).trans (h i v hv)⟩
theorem PS.lo {pb : Nat} {k : List Value} {A : Option Addr} {cw : Nat} {all : List (List UInt8)} {dry : Bool} {sb : Nat} {sy : SymS} {rest rest' : List (List UInt8)} {W W' : World} (h : PS pb k A cw all dry sb sy rest W) (hl : LoN pb W W') (hs : ∃ pre, rest = pre ++ rest')
  (hb : W'.heap[pb]? = some (.cells (pcells k (.slice A all.length cw) (all.length - rest'.length) dry) 52 (0, 0))) : PS pb k A cw all dry sb sy rest' W' := by
 refine ⟨hb, h.kl, ?_, rd_blocks h.rd (fun b o s e => hl.blk b (h.aw b o s e).2 (by simpa using (h.aw b o s e).1)), fun b o s e => ⟨(h.aw b o s e).1, Nat.lt_of_lt_of_le (h.aw b o s e).2 hl.size⟩, h.al, h.sk, h.sm.kept (hl.blk sb h.sm.lt (by simpa using h.sn)), h.sn⟩
 obtain ⟨p1, e1⟩ := h.suf
 obtain ⟨p2, e2⟩ := hs
 exact ⟨p1 ++ p2, by rw [e1, e2, List.append_assoc]⟩
theorem PS.up {pb : Nat} {k : List Value} {A : Option Addr} {cw : Nat} {all : List (List UInt8)} {dry : Bool} {sb : Nat} {sy : SymS} {rest : List (List UInt8)} {W W' : World} (h : PS pb k A cw all dry sb sy rest W) (hb : Below W.heap.size W W') : PS pb k A cw all dry sb sy rest W' :=
 h.lo (LoN.below hb) ⟨[], rfl⟩ ((hb.block pb (lt_of_heap h.blk)).trans h.blk)
theorem PS.len {pb : Nat} {k : List Value} {A : Option Addr} {cw : Nat} {all : List (List UInt8)} {dry : Bool} {sb : Nat} {sy : SymS} {rest : List (List UInt8)} {W : World} (h : PS pb k A cw all dry sb sy rest W) : rest.length ≤ all.length := by
 obtain ⟨p, e⟩ := h.suf
 rw [e]; simp
theorem PS.cells {pb : Nat} {k : List Value} {A : Option Addr} {cw : Nat} {all : List (List UInt8)} {dry : Bool} {sb : Nat} {sy : SymS} {rest : List (List UInt8)} {W : World} (h : PS pb k A cw all dry sb sy rest W) :
  W.cell? ⟨pb, 22, none⟩ = some (.slice A all.length cw) ∧ W.cell? ⟨pb, 23, none⟩ = some (.int .i64 ((all.length - rest.length : Nat) : Int)) ∧ W.cell? ⟨pb, 24, none⟩ = some (.bool dry) ∧ W.cell? ⟨pb, 14, none⟩ = some (.map (some sb)) ∧ ∀ i, W.frozen? ⟨pb, i, none⟩ = false :=
 ⟨(Lib.cell_of_heap h.blk 22).trans (pc_w h.kl), (Lib.cell_of_heap h.blk 23).trans (pc_i h.kl), (Lib.cell_of_heap h.blk 24).trans (pc_d h.kl), (Lib.cell_of_heap h.blk 14).trans ((pc_k (by have := h.kl; omega)).trans h.sk), fun i => Lib.frozen_of_heap h.blk i⟩
theorem PS.word {pb : Nat} {k : List Value} {A : Option Addr} {cw : Nat} {all : List (List UInt8)} {dry : Bool} {sb : Nat} {sy : SymS} {x : List UInt8} {r : List (List UInt8)} {W : World} (h : PS pb k A cw all dry sb sy (x :: r) W) :
  ∃ b o, A = some ⟨b, o, none⟩ ∧ W.cell? ⟨b, o + (all.length - (r.length + 1)), none⟩ = some (.string ⟨x.toArray⟩) ∧ all.length - (r.length + 1) < all.length ∧ x ≠ [] ∧ x.length ≤ 10000 := by
 obtain ⟨p, e⟩ := h.suf
 have hx : all[all.length - (r.length + 1)]? = some x := by rw [e]; simp
 obtain ⟨b, o, h1, h2⟩ := h.rd.at_ (u := strW x) (by rw [List.getElem?_map, hx]; rfl)
 have hm := h.al.2 x (by rw [e]; simp)
 exact ⟨b, o, h1, h2, by have := congrArg List.length e; simp at this; omega, hm.1, hm.2⟩
/-- One word is taken. -/
theorem PS.take {pb : Nat} {k : List Value} {A : Option Addr} {cw : Nat} {all : List (List UInt8)} {dry : Bool} {sb : Nat} {sy : SymS} {x : List UInt8} {r : List (List UInt8)} {W : World} (h : PS pb k A cw all dry sb sy (x :: r) W) :
  PS pb k A cw all dry sb sy r (W.setCell ⟨pb, 23, none⟩ (.int .i64 ((all.length - (r.length + 1) : Nat) + 1 : Int))) ∧ LoN pb W (W.setCell ⟨pb, 23, none⟩ (.int .i64 ((all.length - (r.length + 1) : Nat) + 1 : Int))) := by
 have hl : LoN pb W (W.setCell ⟨pb, 23, none⟩ (.int .i64 ((all.length - (r.length + 1) : Nat) + 1 : Int))) := LoP.setC h.blk (.inl (by simp)) (Nat.le_refl _) _
 refine ⟨h.lo hl ⟨[x], rfl⟩ ?_, hl⟩
 have e : ((all.length - (r.length + 1) : Nat) + 1 : Int) = ((all.length - r.length : Nat) : Int) := by
  have := h.len
  simp at this
  omega
 rw [e]
 have := heap_setCell_same W pb 23 _ _ (.int .i64 ((all.length - r.length : Nat) : Int)) h.blk
 rw [pc_set h.kl] at this
 exact this
/-- How a call of a method of the parser ends. -/
def RetP (pb : Nat) (k : List Value) (A : Option Addr) (cw : Nat) (all : List (List UInt8)) (dry : Bool) (sb : Nat) (sy : SymS) {α : Type} (enc : α → Value) (W : World) (r : PR α) (e : Ending) (W' : World) : Prop :=
 match r with
 | .ok (v, rest) => e = .returned (enc v) ∧ PS pb k A cw all dry sb sy rest W' ∧ LoN pb W W'
 | .error c => e = .panicked [{ v := .iface 34 (.int .i64 c), recovered := false }] ∧ LoN pb W W'
end Go.Proofs.YtfimacgmciogmaaGreatDoor
namespace Go.Proofs.YtfimacgmciogmaaGreatDoor
set_option linter.unusedSimpArgs false
set_option linter.unusedVariables false
open Go.RowKit Go.Shelf Go.Sort
/-- How a check ends. -/
def RetC (dry ok : Bool) (c : Int) (w : World) (e : Ending) (w' : World) : Prop := (match chkS dry ok c with | .ok _ => e = .returned (.tuple #[]) | .error c' => e = .panicked [{ v := .iface 34 (.int .i64 c'), recovered := false }]) ∧ w = w'
abbrev errP (c : Int) : Ending := .panicked [{ v := .iface 34 (.int .i64 c), recovered := false }]
theorem cfg_grammar_ok (p : Value) (w : World) : Calls Tryz.prog 40 #[p, .bool true] w fun e w' => e = .returned (.tuple #[]) ∧ w = w' := by
 go_enter Tryz.func40, Tryz.ntmps40
 go_wp2
 go_end0
 exact ⟨rfl, rfl⟩
theorem cfg_grammar_no (p : Value) (w : World) : Calls Tryz.prog 40 #[p, .bool false] w fun e w' => e = errP 3 ∧ w = w' := by
 go_enter Tryz.func40, Tryz.ntmps40
 go_wp2
 exact ⟨rfl, rfl, rfl⟩
section
variable {pb : Nat} {k : List Value} {A : Option Addr} {cw : Nat} {all : List (List UInt8)} {dry : Bool} {sb : Nat} {sy : SymS} {rest : List (List UInt8)} {W : World}
theorem cfg_check (h : PS pb k A cw all dry sb sy rest W) (ok : Bool) (c : Int) : Calls Tryz.prog 77 #[.pointer (some ⟨pb, 0, none⟩), .bool ok, .int .i64 c] W (RetC dry ok c W) := by
 obtain ⟨_, _, b2, _, bf⟩ := h.cells
 clear h
 cases ok with
 | true =>
  go_enter Tryz.func77, Tryz.ntmps77
  go_wp2
  go_end0
  exact ⟨by simp [chkS], rfl⟩
 | false =>
  cases dry with
  | true =>
   go_enter Tryz.func77, Tryz.ntmps77
   go_wp2
   go_end0
   exact ⟨by simp [chkS], rfl⟩
  | false =>
   go_enter Tryz.func77, Tryz.ntmps77
   go_wp2
   exact ⟨rfl, by simp [chkS], rfl⟩
theorem cfg_check_ok (h : PS pb k A cw all dry sb sy rest W) {ok : Bool} (hk : dry = true ∨ ok = true) (c : Int) : Calls Tryz.prog 77 #[.pointer (some ⟨pb, 0, none⟩), .bool ok, .int .i64 c] W fun e w' => e = .returned (.tuple #[]) ∧ W = w' := by
 have := cfg_check h ok c
 unfold RetC at this
 have e : chkS dry ok c = .ok () := by rcases hk with rfl | rfl <;> simp [chkS]
 rw [e] at this
 exact this
theorem cfg_check_no (h : PS pb k A cw all false sb sy rest W) (c : Int) : Calls Tryz.prog 77 #[.pointer (some ⟨pb, 0, none⟩), .bool false, .int .i64 c] W fun e w' => e = errP c ∧ W = w' := cfg_check h false c
theorem cfg_peek (h : PS pb k A cw all dry sb sy rest W) : Calls Tryz.prog 62 #[.pointer (some ⟨pb, 0, none⟩)] W fun e w' => e = .returned (.string ⟨(peekS rest).toArray⟩) ∧ Below W.heap.size W w' := by
 obtain ⟨b0, b1, _, _, bf⟩ := h.cells
 cases rest with
 | nil =>
  clear h bf
  simp only [List.length_nil, Nat.sub_zero] at b1
  have cc : ((all.length : Int) == (all.length : Int)) = true := by simp
  go_enter Tryz.func62, Tryz.ntmps62
  go_wp2
  have kq_b0 := cell_regrown b0
  have kq_b1 := cell_regrown b1
  refine wp_region_quiet_below (by kernel_rfl) (by kernel_rfl) ?_
  repeat (go_big_quiet_step (fail))
  refine wpQuiet_nil ?_
  intro w2 hb2
  replace hb2 := below_of_regrown hb2
  clear kq_b0 kq_b1
  replace b0 := cell_up hb2 b0
  replace b1 := cell_up hb2 b1
  go_wp2
  go_ret
  exact ⟨rfl, hb2⟩
 | cons x r =>
  obtain ⟨b, o, rfl, q0, hi, _, _⟩ := h.word
  simp only [List.length_cons] at b1
  have hal : all.length ≤ 10000 := h.al.1
  generalize all.length - (r.length + 1) = i at *
  clear h bf
  have cc : ((i : Int) == (all.length : Int)) = false := by rw [beq_eq_false_iff_ne]; omega
  have hi1 : (i : Int) < (all.length : Int) := by omega
  go_enter Tryz.func62, Tryz.ntmps62
  go_wp2
  have kq_b0 := cell_regrown b0
  have kq_b1 := cell_regrown b1
  have kq_q0 := cell_regrown q0
  refine wp_region_quiet_below (by kernel_rfl) (by kernel_rfl) ?_
  repeat (go_big_quiet_step (fail))
  refine wpQuiet_nil ?_
  intro w2 hb2
  replace hb2 := below_of_regrown hb2
  clear kq_b0 kq_b1 kq_q0
  replace b0 := cell_up hb2 b0
  replace b1 := cell_up hb2 b1
  replace q0 := cell_up hb2 q0
  go_wp2
  have kq_b0 := cell_regrown b0
  have kq_b1 := cell_regrown b1
  have kq_q0 := cell_regrown q0
  refine wp_region_quiet_below (by kernel_rfl) (by kernel_rfl) ?_
  repeat (go_big_quiet_step (fail))
  refine wpQuiet_nil ?_
  intro w3 hb3
  replace hb3 := below_of_regrown hb3
  clear kq_b0 kq_b1 kq_q0
  replace b0 := cell_up hb3 b0
  replace b1 := cell_up hb3 b1
  replace q0 := cell_up hb3 q0
  go_wp2
  go_ret
  exact ⟨rfl, below_next hb2 hb3 (Nat.le_refl _)⟩
end
end Go.Proofs.YtfimacgmciogmaaGreatDoor
namespace Go.Proofs.YtfimacgmciogmaaGreatDoor
set_option linter.unusedSimpArgs false
set_option linter.unusedVariables false
open Go.RowKit Go.Shelf Go.Sort
def encS (s : List UInt8) : Value := .string ⟨s.toArray⟩
def encI (v : Int) : Value := .int .i64 v
def encU (_ : Unit) : Value := .tuple #[]
def encB (b : Bool) : Value := .bool b
theorem PS.up_lo {pb : Nat} {k : List Value} {A : Option Addr} {cw : Nat} {all : List (List UInt8)} {dry : Bool} {sb : Nat} {sy : SymS} {rest : List (List UInt8)} {W W' : World} (h : PS pb k A cw all dry sb sy rest W) (hb : Below W.heap.size W W') : LoN pb W W' := LoN.below hb
section
variable {pb : Nat} {k : List Value} {A : Option Addr} {cw : Nat} {all : List (List UInt8)} {dry : Bool} {sb : Nat} {sy : SymS} {rest : List (List UInt8)} {W : World}
theorem cfg_next (h : PS pb k A cw all dry sb sy rest W) : Calls Tryz.prog 63 #[.pointer (some ⟨pb, 0, none⟩)] W (RetP pb k A cw all dry sb sy encS W (nextS rest)) := by
 have HP := Lib.hid h
 have HK := Lib.hid (cfg_peek h)
 clear h
 cases rest with
 | nil =>
  go_enter Tryz.func63, Tryz.ntmps63
  go_wp2_with (first | (go_at_call 62; refine HK.out.mono ?_; rintro e w1 ⟨rfl, hb⟩; simp only [peekS, List.headD_nil]) | (go_at_call 40; refine (cfg_grammar_no _ _).mono ?_; rintro e w2 ⟨rfl, rfl⟩))
  exact ⟨rfl, rfl, HP.out.up_lo hb⟩
 | cons x r =>
  obtain ⟨b, o, rfl, _, hi, hx, _⟩ := HP.out.word
  have hal : all.length ≤ 10000 := HP.out.al.1
  have hxe : (x == []) = false := by simpa using hx
  have hxe2 : x.isEmpty = false := by simpa using hx
  obtain ⟨i, hie⟩ : ∃ i, i = all.length - (r.length + 1) := ⟨_, rfl⟩
  rw [← hie] at hi
  have HIE := Lib.hid hie
  clear hie hx
  go_enter Tryz.func63, Tryz.ntmps63
  go_wp2_with (first | (go_at_call 62; refine HK.out.mono ?_; rintro e w1 ⟨rfl, hb⟩; simp only [peekS, List.headD_cons]; have HP1 := Lib.hid (HP.out.up hb); have HL := Lib.hid (HP.out.up_lo hb); obtain ⟨_, b1, _, _, bf⟩ := HP1.out.cells; simp only [List.length_cons] at b1; rw [← HIE.out] at b1; clear hb) | (go_at_call 40; refine (cfg_grammar_ok _ _).mono ?_; rintro e w2 ⟨rfl, rfl⟩))
  go_ret
  obtain ⟨t1, t2⟩ := HP1.out.take
  rw [← HIE.out] at t1 t2
  exact ⟨rfl, t1, HL.out.trans t2⟩
theorem cfg_accept_yes {w : List UInt8} {r : List (List UInt8)} (h : PS pb k A cw all dry sb sy (w :: r) W) : Calls Tryz.prog 58 #[.pointer (some ⟨pb, 0, none⟩), .string ⟨w.toArray⟩] W fun e w' => e = .returned (.bool true) ∧ PS pb k A cw all dry sb sy r w' ∧ LoN pb W w' := by
 have HP := Lib.hid h
 have HK := Lib.hid (cfg_peek h)
 clear h
 obtain ⟨b, o, rfl, _, hi, hx, _⟩ := HP.out.word
 have hal : all.length ≤ 10000 := HP.out.al.1
 obtain ⟨i, hie⟩ : ∃ i, i = all.length - (r.length + 1) := ⟨_, rfl⟩
 rw [← hie] at hi
 have HIE := Lib.hid hie
 clear hie hx
 go_enter Tryz.func58, Tryz.ntmps58
 go_wp2_with (go_at_call 62; refine HK.out.mono ?_; rintro e w1 ⟨rfl, hb⟩; simp only [peekS, List.headD_cons]; have HP1 := Lib.hid (HP.out.up hb); have HL := Lib.hid (HP.out.up_lo hb); obtain ⟨_, b1, _, _, bf⟩ := HP1.out.cells; simp only [List.length_cons] at b1; rw [← HIE.out] at b1; clear hb)
 go_ret
 obtain ⟨t1, t2⟩ := HP1.out.take
 rw [← HIE.out] at t1 t2
 exact ⟨rfl, t1, HL.out.trans t2⟩
theorem cfg_accept_no {w : List UInt8} (h : PS pb k A cw all dry sb sy rest W) (hn : (peekS rest == w) = false) : Calls Tryz.prog 58 #[.pointer (some ⟨pb, 0, none⟩), .string ⟨w.toArray⟩] W fun e w' => e = .returned (.bool false) ∧ Below W.heap.size W w' := by
 have HK := Lib.hid (cfg_peek h)
 clear h
 generalize peekS rest = x at *
 go_enter Tryz.func58, Tryz.ntmps58
 go_wp2_with (go_at_call 62; refine HK.out.mono ?_; rintro e w1 ⟨rfl, hb⟩)
 go_ret
 exact ⟨rfl, hb⟩
theorem cfg_expect_yes {w : List UInt8} {r : List (List UInt8)} (h : PS pb k A cw all dry sb sy (w :: r) W) : Calls Tryz.prog 65 #[.pointer (some ⟨pb, 0, none⟩), .string ⟨w.toArray⟩] W fun e w' => e = .returned (.tuple #[]) ∧ PS pb k A cw all dry sb sy r w' ∧ LoN pb W w' := by
 have HK := Lib.hid (cfg_accept_yes h)
 clear h
 go_enter Tryz.func65, Tryz.ntmps65
 go_wp2_with (first | (go_at_call 58; refine HK.out.mono ?_; rintro e w1 ⟨rfl, hp, hl⟩) | (go_at_call 40; refine (cfg_grammar_ok _ _).mono ?_; rintro e w2 ⟨rfl, rfl⟩))
 go_end0
 exact ⟨rfl, hp, hl⟩
theorem cfg_expect_no {w : List UInt8} (h : PS pb k A cw all dry sb sy rest W) (hn : (peekS rest == w) = false) : Calls Tryz.prog 65 #[.pointer (some ⟨pb, 0, none⟩), .string ⟨w.toArray⟩] W fun e w' => e = errP 3 ∧ LoN pb W w' := by
 have HK := Lib.hid (cfg_accept_no h hn)
 have HP := Lib.hid h
 clear h hn
 go_enter Tryz.func65, Tryz.ntmps65
 go_wp2_with (first | (go_at_call 58; refine HK.out.mono ?_; rintro e w1 ⟨rfl, hb⟩) | (go_at_call 40; refine (cfg_grammar_no _ _).mono ?_; rintro e w2 ⟨rfl, rfl⟩))
 exact ⟨rfl, rfl, HP.out.up_lo hb⟩
end
set_option maxHeartbeats 4000000 in
set_option maxRecDepth 100000 in
theorem cfg_keyword (x : List UInt8) (w : World) : Calls Tryz.prog 50 #[.string ⟨x.toArray⟩] w fun e w' => e = .returned (.bool (keyB x)) ∧ w = w' := by
 by_cases hk : x ∈ keysS
 ·have hb : keyB x = true := by simp [keyB, hk]
  rw [hb]
  clear hb
  simp only [keysS, List.mem_cons, List.not_mem_nil, or_false] at hk
  rcases hk with rfl | rfl | rfl | rfl | rfl | rfl | rfl | rfl | rfl | rfl | rfl | rfl | rfl | rfl | rfl | rfl | rfl | rfl | rfl | rfl
  all_goals
   simp only [kNode, kLink, kLet, kPrefix, kPolicy, kDemand, kTimer, kOverload, kFrom, kTo, kCost, kBack, kCapacity, kDelay, kGroup, kAt, kAmount, kPriority, kAny, kBind]
   go_enter Tryz.func50, Tryz.ntmps50
   go_wp2
   go_ret
   exact ⟨rfl, rfl⟩
 ·have hb : keyB x = false := by simp [keyB, hk]
  rw [hb]
  clear hb
  simp only [keysS, List.mem_cons, List.not_mem_nil, or_false, not_or] at hk
  simp only [kNode, kLink, kLet, kPrefix, kPolicy, kDemand, kTimer, kOverload, kFrom, kTo, kCost, kBack, kCapacity, kDelay, kGroup, kAt, kAmount, kPriority, kAny, kBind, ← beq_eq_false_iff_ne] at hk
  obtain ⟨h1, h2, h3, h4, h5, h6, h7, h8, h9, h10, h11, h12, h13, h14, h15, h16, h17, h18, h19, h20⟩ := hk
  go_enter Tryz.func50, Tryz.ntmps50
  go_wp2
  go_ret
  exact ⟨rfl, rfl⟩
set_option maxHeartbeats 4000000 in
theorem cfg_rank (x : List UInt8) (w : World) : Calls Tryz.prog 81 #[.string ⟨x.toArray⟩] w fun e w' => e = .returned (.int .i64 (rankS x : Int)) ∧ w = w' := by
 have HR : Hid (rankS x = rankS x) := Lib.hid rfl
 by_cases h1 : x = oPlus
 ·subst h1
  go_enter Tryz.func81, Tryz.ntmps81
  go_wp2
  go_ret
  exact ⟨rfl, rfl⟩
 by_cases h2 : x = oMinus
 ·subst h2
  go_enter Tryz.func81, Tryz.ntmps81
  go_wp2
  go_ret
  exact ⟨rfl, rfl⟩
 by_cases h3 : x = oStar
 ·subst h3
  go_enter Tryz.func81, Tryz.ntmps81
  go_wp2
  go_ret
  exact ⟨rfl, rfl⟩
 by_cases h4 : x = oNeg
 ·subst h4
  go_enter Tryz.func81, Tryz.ntmps81
  go_wp2
  go_ret
  exact ⟨rfl, rfl⟩
 have e : rankS x = 0 := by unfold rankS; rw [if_neg (by simp [h1, h2]), if_neg h3, if_neg h4]
 rw [e]
 clear e
 simp only [oPlus, oMinus, oStar, oNeg, ← beq_eq_false_iff_ne] at h1 h2 h3 h4
 go_enter Tryz.func81, Tryz.ntmps81
 go_wp2
 go_ret
 exact ⟨rfl, rfl⟩
theorem cfg_within (a lo hi : Int) (w : World) : Calls Tryz.prog 23 #[.int .i64 a, .int .i64 lo, .int .i64 hi] w fun e w' => e = .returned (.bool (decide (lo ≤ a) && decide (a ≤ hi))) ∧ w = w' := by
 by_cases h : lo ≤ a
 ·go_enter Tryz.func23, Tryz.ntmps23
  go_wp2
  go_ret
  exact ⟨by simp [h], rfl⟩
 ·have h' : a < lo := by omega
  go_enter Tryz.func23, Tryz.ntmps23
  go_wp2
  go_ret
  exact ⟨by rw [decide_eq_false (show ¬ lo ≤ a by omega)]; rfl, rfl⟩
end Go.Proofs.YtfimacgmciogmaaGreatDoor
namespace Go.Proofs.YtfimacgmciogmaaGreatDoor
set_option linter.unusedSimpArgs false
set_option linter.unusedVariables false
open Go.RowKit Go.Shelf Go.Sort
theorem all_take {p : UInt8 → Bool} {x : List UInt8} {k : Nat} {b : UInt8} (hb : x[k]? = some b) : (x.take (k + 1)).all p = ((x.take k).all p && p b) := by
 obtain ⟨h1, h2⟩ := List.getElem?_eq_some_iff.1 hb
 rw [List.take_succ_eq_append_getElem h1, h2, List.all_append]
 simp
theorem all_bad {p : UInt8 → Bool} {x : List UInt8} {k : Nat} {b : UInt8} (hb : x[k]? = some b) (hp : p b = false) : x.all p = false := by
 rw [List.all_eq_false]
 exact ⟨b, List.mem_of_getElem? hb, by rw [hp]; exact Bool.false_ne_true⟩
theorem byte_get {x : List UInt8} {k : Nat} {b : UInt8} (hb : x[k]? = some b) (hlt : k < x.length) : (⟨x.toArray⟩ : ByteArray)[k]'(by simpa [ByteArray.size] using hlt) = b := by
 obtain ⟨hk', hbe⟩ := List.getElem?_eq_some_iff.1 hb
 simpa [ByteArray.getElem_eq_getElem_data] using hbe
set_option maxHeartbeats 4000000 in
theorem cfg_digits (x : List UInt8) (hx : x.length ≤ 100000) (w : World) : Calls Tryz.prog 94 #[.string ⟨x.toArray⟩] w fun e w' => e = .returned (.bool (digitsB x)) ∧ w = w' := by
 obtain ⟨V, hV⟩ : ∃ V, V = digitsB x := ⟨_, rfl⟩
 rw [← hV]
 have HV := Lib.hid hV
 clear hV
 by_cases h0 : x = []
 ·subst h0
  obtain rfl : V = false := HV.out
  go_enter Tryz.func94, Tryz.ntmps94
  go_wp2
  go_ret
  exact ⟨rfl, rfl⟩
 have hpos : 0 < x.length := List.length_pos_iff.2 h0
 have h0b : (x == []) = false := by simpa using h0
 by_cases h12 : 12 < x.length
 ·have hR : V = false := by rw [HV.out]; unfold digitsB; rw [decide_eq_false (show ¬ x.length ≤ 12 by omega)]; simp
  rw [hR]
  have h12i : (12 : Int) < (x.length : Int) := by omega
  clear hR h0
  go_enter Tryz.func94, Tryz.ntmps94
  go_wp2
  go_ret
  exact ⟨rfl, rfl⟩
 have h12i : (x.length : Int) ≤ 12 := by omega
 obtain ⟨a, ha⟩ : ∃ a, x[0]? = some a := ⟨_, List.getElem?_eq_getElem (by omega)⟩
 have ha2 := byte_get ha hpos
 have hpi : (0 : Int) < (x.length : Int) := by omega
 have hhd : x.head? = some a := by rw [← ha]; cases x <;> rfl
 have HH := Lib.hid hhd
 have HNE := Lib.hid h0
 clear ha hhd h0
 by_cases hz : a = 48 ∧ 1 < x.length
 ·obtain ⟨rfl, h1⟩ := hz
  have h1' : (1 : Int) < (x.length : Int) := by omega
  have hR : V = false := by rw [HV.out]; unfold digitsB; rw [HH.out, decide_eq_true h1]; simp
  rw [hR]
  clear hR
  go_enter Tryz.func94, Tryz.ntmps94
  go_wp2
  go_ret
  exact ⟨rfl, rfl⟩
 have HM : Hid (V = x.all digB) := Lib.hid (by
  rw [HV.out]
  unfold digitsB
  rw [decide_eq_true (show x.length ≤ 12 by omega), HH.out]
  have e1 : x.isEmpty = false := by cases x with | nil => exact absurd rfl HNE.out | cons _ _ => rfl
  rw [e1]
  have e2 : (decide (1 < x.length) && decide (some a = some (48 : UInt8))) = false := by
   rw [Bool.and_eq_false_iff]
   by_cases h : a = 48
   ·left; exact decide_eq_false (fun h2 => hz ⟨h, h2⟩)
   ·right; exact decide_eq_false (fun h2 => h (by injection h2))
  rw [e2]; simp)
 have hz2 : ((x.length : Int) ≤ 1) ∨ ((1 : Int) < (x.length : Int) ∧ ((a.toNat : Int) == 48) = false) := by
  by_cases h1 : 1 < x.length
  ·right
   refine ⟨by omega, ?_⟩
   rw [beq_eq_false_iff_ne]; intro e
   exact hz ⟨UInt8.toNat_inj.1 (by rw [show (48 : UInt8).toNat = 48 from rfl]; omega), h1⟩
  ·left; omega
 clear hz HV
 rcases hz2 with hz2 | ⟨hz2, hz3⟩
 all_goals
  go_enter Tryz.func94, Tryz.ntmps94
  go_wp2
  go_loop [23] (fun i => ∃ k : Nat, k ≤ x.length ∧ i = .int .i64 k ∧ Hid ((x.take k).all digB = true)) (fun i => x.length - (intOf i).toNat)
  case atStart => exact ⟨0, Nat.zero_le _, rfl, Lib.hid rfl⟩
  case round =>
   obtain ⟨k, hk, rfl, HD⟩ := hrel
   by_cases hlt : k < x.length
   ·have hlt' : (k : Int) < (x.length : Int) := by omega
    obtain ⟨b, hb⟩ : ∃ b, x[k]? = some b := ⟨_, List.getElem?_eq_getElem hlt⟩
    have hb2 := byte_get hb hlt
    have HB := Lib.hid hb
    clear hb
    by_cases h1 : (b.toNat : Int) < 48
    ·have HF : Hid (V = false) := Lib.hid (by rw [HM.out]; exact all_bad HB.out (by unfold digB; rw [decide_eq_false (by omega)]; rfl))
     go_wp2
     go_ret
     exact ⟨by rw [HF.out]; rfl, rfl⟩
    by_cases h2 : (57 : Int) < (b.toNat : Int)
    ·have HF : Hid (V = false) := Lib.hid (by rw [HM.out]; exact all_bad HB.out (by unfold digB; rw [decide_eq_false (show ¬ b.toNat ≤ 57 by omega)]; simp))
     go_wp2
     go_ret
     exact ⟨by rw [HF.out]; rfl, rfl⟩
    have HN : Hid ((x.take (k + 1)).all digB = true) := Lib.hid (by rw [all_take HB.out, HD.out]; unfold digB; rw [decide_eq_true (show 48 ≤ b.toNat by omega), decide_eq_true (show b.toNat ≤ 57 by omega)]; rfl)
    go_wp2
    go_round
    case rel => exact ⟨k + 1, by omega, by go_num, HN⟩
    case measure => simp [intOf]; omega
   ·obtain rfl : k = x.length := by omega
    have HF : Hid (V = true) := Lib.hid (by rw [HM.out]; have := HD.out; rwa [List.take_length] at this)
    go_wp2
    go_ret
    exact ⟨by rw [HF.out]; rfl, rfl⟩
set_option maxHeartbeats 8000000 in
theorem cfg_named (x : List UInt8) (hx : x.length ≤ 100000) (w : World) : Calls Tryz.prog 22 #[.string ⟨x.toArray⟩] w fun e w' => e = .returned (.bool (namedB x)) ∧ w = w' := by
 obtain ⟨V, hV⟩ : ∃ V, V = namedB x := ⟨_, rfl⟩
 rw [← hV]
 have HV := Lib.hid hV
 clear hV
 by_cases h0 : x = []
 ·subst h0
  obtain rfl : V = false := HV.out
  go_enter Tryz.func22, Tryz.ntmps22
  go_wp2
  go_ret
  exact ⟨rfl, rfl⟩
 have hpos : 0 < x.length := List.length_pos_iff.2 h0
 have h0b : (x == []) = false := by simpa using h0
 by_cases h16 : 16 < x.length
 ·have hR : V = false := by rw [HV.out]; unfold namedB; rw [decide_eq_false (show ¬ x.length ≤ 16 by omega)]; simp
  rw [hR]
  have h16i : (16 : Int) < (x.length : Int) := by omega
  clear hR h0
  go_enter Tryz.func22, Tryz.ntmps22
  go_wp2
  go_ret
  exact ⟨rfl, rfl⟩
 have h16i : (x.length : Int) ≤ 16 := by omega
 obtain ⟨a, ha⟩ : ∃ a, x[0]? = some a := ⟨_, List.getElem?_eq_getElem (by omega)⟩
 have ha2 := byte_get ha hpos
 have hpi : (0 : Int) < (x.length : Int) := by omega
 have hhd : headB x = (decide (97 ≤ a.toNat) && decide (a.toNat ≤ 122)) := by
  cases x with
  | nil => exact absurd rfl h0
  | cons c l => simp at ha; subst ha; rfl
 have HH := Lib.hid hhd
 clear ha hhd h0
 by_cases l1 : (a.toNat : Int) < 97
 ·have hR : V = false := by rw [HV.out]; unfold namedB; rw [HH.out, decide_eq_false (show ¬ 97 ≤ a.toNat by omega)]; simp
  rw [hR]
  clear hR
  go_enter Tryz.func22, Tryz.ntmps22
  go_wp2
  go_ret
  exact ⟨rfl, rfl⟩
 by_cases l2 : (122 : Int) < (a.toNat : Int)
 ·have hR : V = false := by rw [HV.out]; unfold namedB; rw [HH.out, decide_eq_false (show ¬ a.toNat ≤ 122 by omega)]; simp
  rw [hR]
  clear hR
  go_enter Tryz.func22, Tryz.ntmps22
  go_wp2
  go_ret
  exact ⟨rfl, rfl⟩
 have HM : Hid (V = (x.all chB && !keyB x)) := Lib.hid (by
  rw [HV.out]
  unfold namedB
  rw [decide_eq_true (show x.length ≤ 16 by omega), HH.out, decide_eq_true (show 97 ≤ a.toNat by omega), decide_eq_true (show a.toNat ≤ 122 by omega)]
  simp)
 clear HV
 go_enter Tryz.func22, Tryz.ntmps22
 go_wp2
 go_loop [25] (fun i => ∃ k : Nat, k ≤ x.length ∧ i = .int .i64 k ∧ Hid ((x.take k).all chB = true)) (fun i => x.length - (intOf i).toNat)
 case atStart => exact ⟨0, Nat.zero_le _, rfl, Lib.hid rfl⟩
 case round =>
  obtain ⟨k, hk, rfl, HD⟩ := hrel
  by_cases hlt : k < x.length
  ·have hlt' : (k : Int) < (x.length : Int) := by omega
   obtain ⟨b, hb⟩ : ∃ b, x[k]? = some b := ⟨_, List.getElem?_eq_getElem hlt⟩
   have hb2 := byte_get hb hlt
   have HB := Lib.hid hb
   clear hb
   have key : ∀ t : Bool, chB b = t → (t = true → Hid ((x.take (k + 1)).all chB = true)) ∧ (t = false → Hid (V = false)) := by
    intro t ht
    subst ht
    refine ⟨fun h => Lib.hid (by rw [all_take HB.out, HD.out, h]; rfl), fun h => Lib.hid (by rw [HM.out, all_bad HB.out h]; rfl)⟩
   have KEY := Lib.hid key
   clear key
   have cases5 : (97 ≤ b.toNat ∧ b.toNat ≤ 122) ∨ (122 < b.toNat) ∨ (57 < b.toNat ∧ b.toNat < 97) ∨ (48 ≤ b.toNat ∧ b.toNat ≤ 57) ∨ b.toNat < 48 := by omega
   rcases cases5 with ⟨c1, c2⟩ | c1 | ⟨c1, c2⟩ | ⟨c1, c2⟩ | c1
   ·have HN := (KEY.out true (by unfold chB; rw [decide_eq_true c1, decide_eq_true c2]; rfl)).1 rfl
    have i1 : (97 : Int) ≤ (b.toNat : Int) := by omega
    have i2 : (b.toNat : Int) ≤ 122 := by omega
    have i3 : (48 : Int) ≤ (b.toNat : Int) := by omega
    have i4 : ¬ (b.toNat : Int) ≤ 57 := by omega
    clear c1 c2
    go_wp2
    go_round
    case rel => exact ⟨k + 1, by omega, by go_num, HN⟩
    case measure => simp [intOf]; omega
   ·have HF := (KEY.out false (by unfold chB; rw [decide_eq_false (show ¬ b.toNat ≤ 122 by omega), decide_eq_false (show ¬ b.toNat ≤ 57 by omega), decide_eq_false (show ¬ b.toNat = 95 by omega)]; simp)).2 rfl
    have i1 : (97 : Int) ≤ (b.toNat : Int) := by omega
    have i2 : ¬ (b.toNat : Int) ≤ 122 := by omega
    have i3 : (48 : Int) ≤ (b.toNat : Int) := by omega
    have i4 : ¬ (b.toNat : Int) ≤ 57 := by omega
    have i5 : ((b.toNat : Int) == 95) = false := by rw [beq_eq_false_iff_ne]; omega
    clear c1
    go_wp2
    go_ret
    exact ⟨by rw [HF.out]; rfl, rfl⟩
   ·have i1 : ¬ (97 : Int) ≤ (b.toNat : Int) := by omega
    have i3 : (48 : Int) ≤ (b.toNat : Int) := by omega
    have i4 : ¬ (b.toNat : Int) ≤ 57 := by omega
    by_cases c3 : b.toNat = 95
    ·have HN := (KEY.out true (by unfold chB; rw [decide_eq_true c3]; simp)).1 rfl
     have i5 : ((b.toNat : Int) == 95) = true := by rw [c3]; rfl
     clear c1 c2 c3
     go_wp2
     go_round
     case rel => exact ⟨k + 1, by omega, by go_num, HN⟩
     case measure => simp [intOf]; omega
    ·have HF := (KEY.out false (by unfold chB; rw [decide_eq_false (show ¬ 97 ≤ b.toNat by omega), decide_eq_false (show ¬ b.toNat ≤ 57 by omega), decide_eq_false c3]; simp)).2 rfl
     have i5 : ((b.toNat : Int) == 95) = false := by rw [beq_eq_false_iff_ne]; omega
     clear c1 c2 c3
     go_wp2
     go_ret
     exact ⟨by rw [HF.out]; rfl, rfl⟩
   ·have HN := (KEY.out true (by unfold chB; rw [decide_eq_true c1, decide_eq_true c2]; simp)).1 rfl
    have i1 : ¬ (97 : Int) ≤ (b.toNat : Int) := by omega
    have i3 : (48 : Int) ≤ (b.toNat : Int) := by omega
    have i4 : (b.toNat : Int) ≤ 57 := by omega
    clear c1 c2
    go_wp2
    go_round
    case rel => exact ⟨k + 1, by omega, by go_num, HN⟩
    case measure => simp [intOf]; omega
   ·have HF := (KEY.out false (by unfold chB; rw [decide_eq_false (show ¬ 97 ≤ b.toNat by omega), decide_eq_false (show ¬ 48 ≤ b.toNat by omega), decide_eq_false (show ¬ b.toNat = 95 by omega)]; simp)).2 rfl
    have i1 : ¬ (97 : Int) ≤ (b.toNat : Int) := by omega
    have i3 : ¬ (48 : Int) ≤ (b.toNat : Int) := by omega
    have i5 : ((b.toNat : Int) == 95) = false := by rw [beq_eq_false_iff_ne]; omega
    clear c1
    go_wp2
    go_ret
    exact ⟨by rw [HF.out]; rfl, rfl⟩
  ·obtain rfl : k = x.length := by omega
   have HF : Hid (V = !keyB x) := Lib.hid (by rw [HM.out]; have := HD.out; rw [List.take_length] at this; rw [this]; rfl)
   go_wp2_with (go_at_call 50; refine (cfg_keyword _ _).mono ?_; rintro e w2 ⟨rfl, rfl⟩)
   go_ret
   exact ⟨by rw [HF.out]; rfl, rfl⟩
end Go.Proofs.YtfimacgmciogmaaGreatDoor
