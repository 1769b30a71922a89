/-
  component.Union: what it returns, for every topology and list of components.
-/
import Derived.Test.YtdnjflpmbnjgeaaGreatPkPcv
import Derived.Test.YtdnjflpmbnjgeaaGreatRound
import Derived.IntWalk
namespace Go.Proofs.YtdnjflpmbnjgeaaGreat
section
open Go.RowKit Go.Shelf
attribute [local go_sem] Oper.semAt_some
/-- The marks of the arcs. -/
def mkB (n : Nat) (f : Nat → Bool) : Array Value := ((List.range n).map fun a => Value.bool (f a)).toArray
theorem mkB_size (n : Nat) (f : Nat → Bool) : (mkB n f).size = n := by simp [mkB]
theorem mkB_at {n : Nat} (f : Nat → Bool) {a : Nat} (h : a < n) : (mkB n f)[a]? = some (.bool (f a)) := by simp [mkB, h]
theorem mkB_congr {n : Nat} {f g : Nat → Bool} (h : ∀ a, a < n → f a = g a) : mkB n f = mkB n g := by
 unfold mkB
 congr 1
 apply List.map_congr_left
 intro a ha
 rw [h a (List.mem_range.1 ha)]
theorem mkB_set {n : Nat} (f : Nat → Bool) {a : Nat} : (mkB n f).setIfInBounds a (.bool true) = mkB n (fun x => f x || x == a) := by
 apply Array.ext_getElem?
 intro g
 by_cases hg : g < n
 ·rw [mkB_at _ hg]
  by_cases e : a = g
  ·subst e
   rw [Array.getElem?_setIfInBounds_self_of_lt (by rw [mkB_size]; exact hg)]
   simp
  ·rw [Array.getElem?_setIfInBounds_ne e, mkB_at _ hg]
   have : (g == a) = false := by simp; omega
   rw [this, Bool.or_false]
 ·rw [Array.getElem?_eq_none (by simp [mkB_size]; omega), Array.getElem?_eq_none (by rw [mkB_size]; omega)]
theorem mkB_made (n : Nat) : madeCells #[.bool false] n = mkB n (fun _ => false) := by
 apply Array.ext_getElem?
 intro g
 by_cases hg : g < n
 ·rw [mkB_at _ hg, ← Array.getElem?_toList, toList_madeCells_one, List.getElem?_replicate, if_pos hg]
 ·rw [Array.getElem?_eq_none (by rw [size_madeCells]; omega), Array.getElem?_eq_none (by rw [mkB_size]; omega)]
theorem boolInfo3 : (Tryz.prog.info? 4).map (fun i => (i.zero, i.size, i.bytes)) = some (some (.bool false), 1, 1) := by kernel_rfl
theorem run_makeB (n : Nat) (h : n ≤ 1000000) (w : World) : (Instr.makeSlice 22 (.int .i64 (2 * (n : Int))) (.int .i64 (2 * (n : Int)))).run Tryz.prog w = .ok (.slice (some ⟨w.heap.size, 0, none⟩) (2 * n) (2 * n)) (w.alloc (.cells (mkB (2 * n) fun _ => false) 4)) := by
 obtain ⟨i0, hi, hz0, hz1, hz2⟩ := info_parts boolInfo3
 have hr := run_make (P := Tryz.prog) w 22 4 i0 (.bool false) Tryz.underlying22 hi hz0 .i64 .i64 (2 * (n : Int)) (2 * (n : Int)) (by omega) (Int.le_refl _) (by rw [hz2]; omega) (by omega)
 rw [hr, hz1, show (2 * (n : Int)).toNat = 2 * n by omega, Nat.mul_one]
 rw [show (Value.bool false).cells = #[.bool false] from rfl, mkB_made]
def mask (t : Topo) (l : List (Int × Int)) : List Bool := (List.range (2 * t.ls.length)).map fun (a : Nat) => l.any fun p => partA t p.1 p.2 (a : Int)
def unionV (t : Topo) (l : List (Int × Int)) : List Bool × Int := if (valid t && l.all fun p => compOk t p.1 p.2) = true then (mask t l, 0) else ([], 1)
/-- A call that returns a list of bools and an error. -/
def RetBE (w : World) (r : List Bool × Int) (e : Ending) (w' : World) : Prop :=
 ∃ A c, e = .returned (.tuple #[.slice A r.1.length c, .int .i64 r.2]) ∧ Rd w' A (r.1.map Value.bool) ∧ Below w.heap.size w w' ∧ ∀ p, A = some p → w.heap.size ≤ p.block
theorem retBE_nil {w w' : World} {r : List Bool × Int} {x : Int} (hr : r = ([], x)) (hb : Below w.heap.size w w') : RetBE w r (.returned (.tuple #[.slice none 0 0, .int .i64 x])) w' := by
 subst hr
 exact ⟨none, 0, rfl, .inl rfl, hb, fun p hp => by cases hp⟩
/-- The marks of the range loops that a frame has passed. -/
inductive Marks (B : Nat) : World → List Deferred → Prop
 | nil (w : World) : Marks B w []
 | cons {w : World} {D : Nat} {ds : List Deferred} (hB : B ≤ D) (hD : w.heap[D]? = some (.deferred (some []))) (hn : ∀ d ∈ ds, d.target ≠ .collected D) (h : Marks B w ds) : Marks B w ({ target := .collected D, args := #[] } :: ds)
theorem Marks.lt {B : Nat} {w : World} {ds : List Deferred} (h : Marks B w ds) : ∀ d ∈ ds, ∃ D, d.target = .collected D ∧ D < w.heap.size := by
 induction h with
 | nil => intro d hd; cases hd
 | cons hB hD hn h ih =>
  intro d hd
  rcases List.mem_cons.1 hd with rfl | hd
  ·exact ⟨_, rfl, (Array.getElem?_eq_some_iff.1 hD).1⟩
  ·exact ih d hd
theorem Marks.keep {B : Nat} {w w' : World} {ds : List Deferred} (h : Marks B w ds) (hk : ∀ D, (∃ d ∈ ds, d.target = .collected D) → w.heap[D]? = some (.deferred (some [])) → w'.heap[D]? = some (.deferred (some []))) : Marks B w' ds := by
 induction h with
 | nil => exact .nil _
 | cons hB hD hn h ih =>
  exact .cons hB (hk _ ⟨_, List.mem_cons_self, rfl⟩ hD) hn (ih fun D ⟨d, hd, e⟩ hD => hk D ⟨d, List.mem_cons_of_mem _ hd, e⟩ hD)
/-- A world in which marks have been shut. -/
structure Shut (B : Nat) (w w' : World) : Prop where
 hb : Below B w w'
 cells : ∀ (k : Nat) (o : Obj), w.heap[k]? = some o → o.isCells = true → w'.heap[k]? = some o
theorem Shut.trans {B : Nat} {w w' w'' : World} (h : Shut B w w') (g : Shut B w' w'') : Shut B w w'' := ⟨h.hb.trans g.hb, fun k o hk ho => g.cells k o (h.cells k o hk ho) ho⟩
theorem leaves_marks {F : Fence} {n B : Nat} {P : Program} {fn : Func} {tmps : Array Value} {R : Ending → World → Prop} {w : World} {ds : List Deferred} (h : Marks B w ds) (hB : B ≤ w.heap.size)
    (hr : ∀ w', Shut B w w' → LeavesInM F n P fn tmps R [] .returning w') : LeavesInM F n P fn tmps R ds .returning w := by
 induction ds generalizing w with
 | nil => exact hr w ⟨Below.refl _ _, fun _ _ h _ => h⟩
 | cons d ds ih =>
  cases h with
  | cons hBD hD hn h =>
   rename_i D
   refine ⟨by simp, .inl ⟨D, _, rfl, run_takeDeferred hD, ?_⟩⟩
   have hlt := (Array.getElem?_eq_some_iff.1 hD).1
   have hs : Shut B w (w.putObj D (.deferred none)) := by
    refine ⟨(Below.refl B w).grown (grownBy_putObj' w D _) hB (fun k e => by cases e; exact hBD), fun k o hk ho => ?_⟩
    by_cases e : k = D
    ·subst e
     rw [hD] at hk; cases hk; cases ho
    ·exact (World.putObj_heap_other e).trans hk
   refine ih ?_ ?_ ?_
   ·refine h.keep fun D' ⟨d, hd, e⟩ hD' => ?_
    have hne : D' ≠ D := fun e' => hn d hd (by rw [e, e'])
    exact (World.putObj_heap_other hne).trans hD'
   ·simpa using hB
   ·exact fun w' hw' => hr w' (hs.trans hw')
theorem grown_trans {w w' w'' : World} {G : Nat} {row : Option Nat} (h : w.grownBy w' (some G)) (g : w'.grownBy w'' row) (hr : ∀ r, row = some r → w.heap.size ≤ r) : w.grownBy w'' (some G) :=
 ⟨g.os.trans h.os, g.tape.trans h.tape, g.output.trans h.output, Nat.le_trans h.size g.size, fun k hk hne => (g.block k (Nat.lt_of_lt_of_le hk h.size) (fun e => by have := hr k e.symm; omega)).trans (h.block k hk hne)⟩
theorem grown_same {w w' w'' : World} {G : Nat} (h : w.grownBy w' (some G)) (g : w'.grownBy w'' (some G)) : w.grownBy w'' (some G) :=
 ⟨g.os.trans h.os, g.tape.trans h.tape, g.output.trans h.output, Nat.le_trans h.size g.size, fun k hk hne => (g.block k (Nat.lt_of_lt_of_le hk h.size) hne).trans (h.block k hk hne)⟩
theorem grown_refl (w : World) (row : Option Nat) : w.grownBy w row := ⟨rfl, rfl, rfl, Nat.le_refl _, fun _ _ _ => rfl⟩
theorem grown_set (w : World) (G o : Nat) (v : Value) : w.grownBy (w.setCell ⟨G, o, none⟩ v) (some G) :=
 ⟨rfl, rfl, rfl, by simp [World.setCell], fun k _ hk => Below.heap_setCell _ _ _ _ (fun e => hk (by rw [e]))⟩
theorem grown_drew {w w' : World} {row : Option Nat} (h : w.grownBy w' row) : w.grownBy w'.drew row := ⟨h.os, h.tape, h.output, h.size, h.block⟩
theorem ownFrom_mark {β : Type} {B G : Nat} {W0 : World} (hB : W0.heap.size ≤ B) (hG : G < W0.heap.size) (f : β → Array Value) (T : TypeId) : OwnFrom B (fun (s : β) W => W0.grownBy W (some G) ∧ W.heap[G]? = some (.cells (f s) T (0, 0))) := by
 rintro s W W' row ⟨h1, h2⟩ hg hr
 refine ⟨grown_trans h1 hg (fun r e => Nat.le_trans hB (hr r e).1), (hg.block G (Nat.lt_of_lt_of_le hG h1.size) (fun e => ?_)).trans h2⟩
 have := (hr G e.symm).1
 omega
/-- The state between two components. -/
def maskF (t : Topo) (l : List (Int × Int)) (j : Nat) (a : Nat) : Bool := (l.take j).any fun p => partA t p.1 p.2 (a : Int)
structure UInv (w : World) (A1 A2 : Option Addr) (c1 c2 : Nat) (t : Topo) (l : List (Int × Int)) (G : Nat) (wr : World) (j : Nat) (ds : List Deferred) : Prop where
 tb : wr.heap[w.heap.size]? = some (.cells #[.int .i64 t.n, .slice A1 t.ov.length c1, .slice A2 t.ls.length c2] 25 (0, 0))
 bx : wr.heap[G + 1]? = some (.cells #[.slice (some ⟨G, 0, none⟩) (2 * t.ls.length) (2 * t.ls.length)] 22 (0, 0))
 mb : wr.heap[G]? = some (.cells (mkB (2 * t.ls.length) (maskF t l j)) 4 (0, 0))
 hb : Below w.heap.size w wr
 ok : ∀ p ∈ l.take j, compOk t p.1 p.2 = true
 ms : Marks w.heap.size wr ds
theorem unionV_bad {t : Topo} {l : List (Int × Int)} {p : Int × Int} (hp : p ∈ l) (h : compOk t p.1 p.2 = false) : unionV t l = ([], 1) := by
 have : (l.all fun p => compOk t p.1 p.2) = false := by
  rw [List.all_eq_false]
  exact ⟨p, hp, by simp [h]⟩
 simp [unionV, this]
theorem unionV_ok {t : Topo} {l : List (Int × Int)} (hv : valid t = true) (h : ∀ p ∈ l.take l.length, compOk t p.1 p.2 = true) : unionV t l = (mask t l, 0) := by
 rw [List.take_length] at h
 have : (l.all fun p => compOk t p.1 p.2) = true := by
  rw [List.all_eq_true]
  exact h
 simp [unionV, this, hv]
theorem mask_cells (t : Topo) (l : List (Int × Int)) : (mask t l).map Value.bool = (mkB (2 * t.ls.length) (maskF t l l.length)).toList := by
 simp [mask, mkB, maskF]
theorem retBE_of {t : Topo} {l : List (Int × Int)} {w w' : World} {G : Nat} (hr : unionV t l = (mask t l, 0)) (h : w'.heap[G]? = some (.cells (mkB (2 * t.ls.length) (maskF t l l.length)) 4 (0, 0))) (hb : Below w.heap.size w w') (hG : w.heap.size ≤ G) : RetBE w (unionV t l) (.returned (.tuple #[.slice (some ⟨G, 0, none⟩) (2 * t.ls.length) (2 * t.ls.length), .int .i64 0])) w' := by
 rw [hr]
 refine ⟨some ⟨G, 0, none⟩, 2 * t.ls.length, by simp [mask], .inr ⟨G, 0, rfl, fun j u hu => ?_⟩, hb, fun p hp => by injection hp with hp; subst hp; exact hG⟩
 rw [mask_cells] at hu
 rw [Lib.cell_of_heap h, Nat.zero_add]
 simpa using hu
/-- The marks in the middle of a component. -/
def maskP (t : Topo) (l : List (Int × Int)) (j : Nat) (pre : List (Lk t.ls.length)) (a : Nat) : Bool := maskF t l j a || pre.any fun x => x.1 == (a : Int) / 2
theorem linksK_any (t : Topo) (k m : Int) (y : Int) (hy : 0 ≤ y ∧ y < (t.ls.length : Int)) : ((linksK t k m t.ls.length).any fun x => x.1 == y) = part t k m y := by
 have h1 : ((linksK t k m t.ls.length).any fun x => x.1 == y) = ((linksL t k m t.ls.length).any fun x => x == y) := by
  rw [← linksK_val t k m _ (Nat.le_refl _), List.any_map]; rfl
 rw [h1, Bool.eq_iff_iff, List.any_eq_true]
 constructor
 ·rintro ⟨x, hx, e⟩
  obtain rfl : x = y := by simpa using e
  exact (mem_ups.1 hx).2.2
 ·intro h
  exact ⟨y, mem_ups.2 ⟨hy.1, hy.2, h⟩, by simp⟩
theorem maskP_done {t : Topo} {l : List (Int × Int)} {j : Nat} {p : Int × Int} (hp : l[j]? = some p) : mkB (2 * t.ls.length) (maskP t l j (linksK t p.1 p.2 t.ls.length)) = mkB (2 * t.ls.length) (maskF t l (j + 1)) := by
 apply mkB_congr
 intro a ha
 obtain ⟨hj, rfl⟩ := List.getElem?_eq_some_iff.1 hp
 unfold maskP maskF
 rw [linksK_any _ _ _ _ (by omega), List.take_succ_eq_append_getElem hj, List.any_append]
 simp [partA]
theorem maskP_nil (t : Topo) (l : List (Int × Int)) (j : Nat) : maskP t l j [] = maskF t l j := by
 funext a; simp [maskP]
theorem maskP_snoc {t : Topo} {l : List (Int × Int)} {j : Nat} {pre : List (Lk t.ls.length)} {x : Lk t.ls.length} {n : Nat} (hx : x.1 = (n : Int)) :
    mkB (2 * t.ls.length) (maskP t l j (pre ++ [x])) = ((mkB (2 * t.ls.length) (maskP t l j pre)).setIfInBounds (2 * n) (.bool true)).setIfInBounds (2 * n + 1) (.bool true) := by
 rw [mkB_set, mkB_set]
 apply mkB_congr
 intro a ha
 simp only [maskP, List.any_append, List.any_cons, List.any_nil, Bool.or_false, hx]
 have : ((n : Int) == (a : Int) / 2) = (a == 2 * n || a == 2 * n + 1) := by
  rw [Bool.eq_iff_iff]; simp; omega
 rw [this]
 simp only [Bool.or_assoc]
theorem mark_two {W : World} {G a b : Nat} {cs : Array Value} {T : TypeId} (h : W.heap[G]? = some (.cells cs T (0, 0))) :
    ((W.setCell ⟨G, a, none⟩ (.bool true)).setCell ⟨G, b, none⟩ (.bool true)).heap[G]? = some (.cells ((cs.setIfInBounds a (.bool true)).setIfInBounds b (.bool true)) T (0, 0)) :=
 heap_setCell_same _ _ _ _ _ _ (heap_setCell_same _ _ _ _ _ _ h)
set_option maxRecDepth 100000 in
set_option maxHeartbeats 4000000 in
theorem component_Union (t : Topo) (A1 A2 : Option Addr) (c1 c2 : Nat) (A : Option Addr) (c : Nat) (l : List (Int × Int)) (w : World) (hT : TAt w A1 A2 t) (hl : RdP w A l) (hn : t.ls.length ≤ 100000) (hll : l.length ≤ 100000) :
    Calls Tryz.prog 65 #[.agg #[.int .i64 t.n, .slice A1 t.ov.length c1, .slice A2 t.ls.length c2], .slice A l.length c] w (RetBE w (unionV t l)) := by
 have HTw := hU hT
 have HL := hU hl
 clear hl
 have hb0 := cQ w (.cells #[.int .i64 t.n, .slice A1 t.ov.length c1, .slice A2 t.ls.length c2] 25)
 have HT := hT.below hb0
 have HB := hb0
 have b0 := box0 w (.int .i64 t.n) (.slice A1 t.ov.length c1) (.slice A2 t.ls.length c2) 25
 have b1 := box1 w (.int .i64 t.n) (.slice A1 t.ov.length c1) (.slice A2 t.ls.length c2) 25
 have b2 := box2 w (.int .i64 t.n) (.slice A1 t.ov.length c1) (.slice A2 t.ls.length c2) 25
 clear hb0 hT
 cases hv : valid t with
 | false =>
  have HR : Hid (unionV t l = ([], 1)) := hU (by simp [unionV, hv])
  go_enter Tryz.func65, Tryz.ntmps65
  go_wp2_with (go_at_call 29; refine (topology_Valid t _ _ _ _ _ HT.ls).mono ?_; rintro e w1 ⟨rfl, hb⟩; replace HT := HT.below hb; have zU := uU hb b0 (uU hb b1 (uU hb b2 trivial)); clear b0 b1 b2; obtain ⟨b0, b1, b2, -⟩ := zU; replace HB := bQ HB hb; clear hb)
  go_ret2
  exact retBE_nil HR.out HB
 | true =>
  have HV := hU hv
  have HBX : Hid ((w.alloc (.cells #[.int .i64 t.n, .slice A1 t.ov.length c1, .slice A2 t.ls.length c2] 25)).heap[w.heap.size]? = some (.cells #[.int .i64 t.n, .slice A1 t.ov.length c1, .slice A2 t.ls.length c2] 25 (0, 0))) := hU (heap_alloc_new _ _)
  have hmk := run_makeB t.ls.length (by omega)
  refine (callsIn_wide (n := 3)).1 ?_
  refine callsIn_of_wp_marks Tryz.func65 rfl trivial ?_ rfl
  simp only [Tryz.ntmps65, List.size_toArray, List.length_cons, List.length_nil, Nat.reduceAdd, Nat.reduceSub, Array.replicate_succ, Array.replicate_zero, List.push_toArray, List.append_toArray, List.nil_append, List.cons_append]
  gi_wp2_with (first | (refine ⟨trivial, ?_⟩; gi_at_call 29; refine (callsIn_wide.2 (topology_Valid t _ _ _ _ _ HT.ls)).mono ?_; rintro e w1 ⟨rfl, hb⟩; replace HT := HT.below hb; have zU := uU hb b0 (uU hb b1 (uU hb b2 trivial)); clear b0 b1 b2; obtain ⟨b0, b1, b2, -⟩ := zU; replace HB := bQ HB hb; replace HBX := hU ((hb.block _ (kZ HBX.out)).trans HBX.out); clear hb) | (refine ⟨trivial, ?_⟩; gi_at_call 52; refine (callsIn_wide.2 (graph_Arcs _ _ _ _ _ _ hn)).mono ?_; rintro e w2 ⟨rfl, hb⟩; replace HT := HT.below hb; have zU := uU hb b0 (uU hb b1 (uU hb b2 trivial)); clear b0 b1 b2; obtain ⟨b0, b1, b2, -⟩ := zU; replace HB := bQ HB hb; replace HBX := hU ((hb.block _ (kZ HBX.out)).trans HBX.out); clear hb))
  have HI : Hid (UInv w A1 A2 c1 c2 t l w2.heap.size ((w2.alloc (.cells (mkB (2 * t.ls.length) fun _ => false) 4)).alloc (.cells #[.slice (some ⟨w2.heap.size, 0, none⟩) (2 * t.ls.length) (2 * t.ls.length)] 22)) 0 []) := hU (by
   have hz : w.heap.size < w2.heap.size := block_lt_of_cell b0
   refine ⟨?_, ?_, ?_, ?_, fun p hp => by simp at hp, .nil _⟩
   ·rw [Below.heap_alloc _ _ _ (by simp; omega), Below.heap_alloc _ _ _ hz]
    exact HBX.out
   ·have := heap_alloc_new (w2.alloc (.cells (mkB (2 * t.ls.length) fun _ => false) 4)) (.cells #[.slice (some ⟨w2.heap.size, 0, none⟩) (2 * t.ls.length) (2 * t.ls.length)] 22)
    rwa [World.size_alloc] at this
   ·rw [Below.heap_alloc _ _ _ (by simp), heap_alloc_new]
    congr 2
   ·exact (HB.alloc (by omega) _).alloc (by simp; omega) _)
  have hwG : w.heap.size < w2.heap.size := block_lt_of_cell b0
  obtain ⟨G, hG⟩ : ∃ G, G = w2.heap.size := ⟨_, rfl⟩
  rw [← hG] at HI hwG ⊢
  clear b0 b1 b2 HT HB hmk hv HBX
  refine wpIn_loop (fun a wr => ∃ (j : Nat) (u8 u19 u20 u21 u22 u23 u24 u25 u26 u27 u28 u39 : Value) (ds : List Deferred), j ≤ l.length ∧ Hid (UInv w A1 A2 c1 c2 t l G wr j ds) ∧ a = { tmps := #[.agg #[.int .i64 t.n, .slice A1 t.ov.length c1, .slice A2 t.ls.length c2], .slice A l.length c, .pointer (some ⟨w.heap.size, 0, none⟩), undef, .slice none 0 0, .int .i64 0, .pointer (some ⟨G + 1, 0, none⟩), undef, u8, undef, .agg #[.int .i64 t.n, .slice A1 t.ov.length c1, .slice A2 t.ls.length c2], .bool true, .bool false, .agg #[.int .i64 t.n, .slice A1 t.ov.length c1, .slice A2 t.ls.length c2], .int .i64 (2 * (t.ls.length : Int)), .slice (some ⟨G, 0, none⟩) (2 * t.ls.length) (2 * t.ls.length), .slice A l.length c, .int .i64 (l.length : Int), .int .i64 (j : Int), u19, u20, u21, u22, u23, u24, u25, u26, u27, u28, undef, undef, undef, undef, undef, undef, undef, undef, undef, undef, u39, undef], defers := ds }) (fun a _ => l.length - (intOf (a.tmps.getD 18 undef)).toNat) ?_ ?_
  ·exact ⟨0, _, _, _, _, _, _, _, _, _, _, _, _, _, Nat.zero_le _, HI, rfl⟩
  clear HI hG
  rintro a wr ⟨j, u8, u19, u20, u21, u22, u23, u24, u25, u26, u27, u28, u39, ds, hj, HI, rfl⟩
  have b0 : wr.cell? ⟨w.heap.size, 0, none⟩ = some (.int .i64 t.n) := by rw [Lib.cell_of_heap HI.out.tb]; rfl
  have b1 : wr.cell? ⟨w.heap.size, 1, none⟩ = some (.slice A1 t.ov.length c1) := by rw [Lib.cell_of_heap HI.out.tb]; rfl
  have b2 : wr.cell? ⟨w.heap.size, 2, none⟩ = some (.slice A2 t.ls.length c2) := by rw [Lib.cell_of_heap HI.out.tb]; rfl
  have hGr : G + 1 < wr.heap.size := kZ HI.out.bx
  have hz : w.heap.size < wr.heap.size := block_lt_of_cell b0
  have hzn : w.heap.size ≠ wr.heap.size := by omega
  have hzm : wr.heap.size ≠ w.heap.size := by omega
  by_cases hlt : j < l.length
  ·obtain ⟨b, o, ⟨k, m⟩, rfl, hd, q0, q1⟩ := (HL.out.below HI.out.hb).at_ hlt
   have HP : Hid (l[j]? = some (k, m)) := hU (by
    have := congrArg (fun l => l[0]?) hd
    simpa using this)
   clear hd
   have hlt' : (j : Int) < (l.length : Int) := by omega
   have HQ : Hid (Below wr.heap.size wr (wr.alloc (.cells #[.int .i64 k, .int .i64 m] 79))) := hU (cQ _ _)
   have HQT : Hid (TAt (wr.alloc (.cells #[.int .i64 k, .int .i64 m] 79)) A1 A2 t) := hU (HTw.out.below (bQ HI.out.hb HQ.out))
   have s0 : (wr.alloc (.cells #[.int .i64 k, .int .i64 m] 79)).cell? ⟨wr.heap.size, 0, none⟩ = some (.int .i64 k) := by simp
   have s1 : (wr.alloc (.cells #[.int .i64 k, .int .i64 m] 79)).cell? ⟨wr.heap.size, 1, none⟩ = some (.int .i64 m) := by simp
   cases hc : compOk t k m with
   | false =>
    have HR : Hid (unionV t l = ([], 1)) := hU (unionV_bad (List.mem_of_getElem? HP.out) hc)
    gi_wp2_with (refine ⟨trivial, ?_⟩; gi_at_call 62; refine (callsIn_wide.2 (component_within t _ _ _ _ _ _ _ HQT.out)).mono ?_; rintro e w4 ⟨rfl, hb4⟩; replace hb4 := HQ.out.trans (hb4.mono HQ.out.size))
    refine leaves_marks (HI.out.ms.keep fun D _ hD => (hb4.block D (kZ hD)).trans hD) (Nat.le_trans HI.out.hb.size hb4.size) ?_
    intro w' hs
    exact ⟨_, results_tmp2 (t := 4) (u := 5) rfl _ _ _, retBE_nil HR.out ((bQ HI.out.hb hb4).trans hs.hb)⟩
   | true =>
    gi_wp2_with (first | (refine ⟨trivial, ?_⟩; gi_at_call 62; refine (callsIn_wide.2 (component_within t _ _ _ _ _ _ _ HQT.out)).mono ?_; rintro e w4 ⟨rfl, hb4⟩; replace s0 := aQ hb4 s0; replace s1 := aQ hb4 s1; replace hb4 := HQ.out.trans (hb4.mono HQ.out.size); replace b0 := aQ hb4 b0; replace b1 := aQ hb4 b1; replace b2 := aQ hb4 b2) | (refine ⟨trivial, ?_⟩; gi_at_call 89; refine (links_in _ _ trivial rfl _ _ _ _ _ _).mono ?_; rintro e w5 ⟨rfl, rfl⟩))
    have h4 : wr.heap.size ≤ w4.heap.size := hb4.size
    have hbW : Below wr.heap.size wr ((w4.alloc (.cells #[.int .i64 t.n, .slice A1 t.ov.length c1, .slice A2 t.ls.length c2] 25)).alloc (.cells #[.int .i64 k, .int .i64 m] 79)) := (hb4.alloc h4 _).alloc (by simp; omega) _
    have hcT : ((w4.alloc (.cells #[.int .i64 t.n, .slice A1 t.ov.length c1, .slice A2 t.ls.length c2] 25)).alloc (.cells #[.int .i64 k, .int .i64 m] 79)).cell? ⟨w4.heap.size, 2, none⟩ = some (.slice A2 t.ls.length c2) := aQ (cQ _ _) (box2 w4 (.int .i64 t.n) (.slice A1 t.ov.length c1) (.slice A2 t.ls.length c2) 25)
    have hBc : ((w4.alloc (.cells #[.int .i64 t.n, .slice A1 t.ov.length c1, .slice A2 t.ls.length c2] 25)).alloc (.cells #[.int .i64 k, .int .i64 m] 79)).heap[w4.heap.size + 1]? = some (.cells #[.int .i64 k, .int .i64 m] 79 (0, 0)) := by
     have := heap_alloc_new (w4.alloc (.cells #[.int .i64 t.n, .slice A1 t.ov.length c1, .slice A2 t.ls.length c2] 25)) (.cells #[.int .i64 k, .int .i64 m] 79)
     rwa [World.size_alloc] at this
    have hs3 : ((w4.alloc (.cells #[.int .i64 t.n, .slice A1 t.ov.length c1, .slice A2 t.ls.length c2] 25)).alloc (.cells #[.int .i64 k, .int .i64 m] 79)).heap.size = w4.heap.size + 2 := by simp
    obtain ⟨W3, hW3⟩ : ∃ W3, W3 = ((w4.alloc (.cells #[.int .i64 t.n, .slice A1 t.ov.length c1, .slice A2 t.ls.length c2] 25)).alloc (.cells #[.int .i64 k, .int .i64 m] 79)) := ⟨_, rfl⟩
    rw [← hW3] at hbW hcT hBc hs3 ⊢
    clear hW3 s0 s1 b0 b1 b2 q0 q1 hb4 HQ HQT
    have hB3 : Below w.heap.size w W3 := bQ HI.out.hb hbW
    have HKI : Hid (k = 1 ∨ k = 2 ∨ k = 3) := hU (compV_kind (t := t) (m := m) (by simp [gZ, HV.out, hc]))
    have hc0 : W3.cell? ⟨w4.heap.size + 1, 0, none⟩ = some (.int .i64 k) := by rw [Lib.cell_of_heap hBc]; rfl
    have hc1 : W3.cell? ⟨w4.heap.size + 1, 1, none⟩ = some (.int .i64 m) := by rw [Lib.cell_of_heap hBc]; rfl
    have hm3 : W3.heap[G]? = some (.cells (mkB (2 * t.ls.length) (maskF t l j)) 4 (0, 0)) := (hbW.block G (by omega)).trans HI.out.mb
    have hx3 : W3.heap[G + 1]? = some (.cells #[.slice (some ⟨G, 0, none⟩) (2 * t.ls.length) (2 * t.ls.length)] 22 (0, 0)) := (hbW.block (G + 1) (by omega)).trans HI.out.bx
    have HX3 := hU hx3
    have HC3 := hU hBc
    refine wpIn_rangeFunc_ownG rfl (by omega) (gf := 111) (lb := #[.pointer (some ⟨w4.heap.size, 0, none⟩), .pointer (some ⟨w4.heap.size + 1, 0, none⟩)]) rfl trivial (enters_of Tryz.func111 (by kernel_rfl) rfl)
     (links_stops Fence.wide 2 trivial rfl (by omega) w4.heap.size (w4.heap.size + 1) w.heap.size t A2 c2 k m HKI.out hn w W3 rfl HTw.out.ls hB3 (by omega) (by omega) hcT hc0 hc1) Kq.trans (Kq_b (by omega) (by omega)) (Below.refl _ _) (fun _ => rfl)
     (fun pre W => W3.grownBy W (some G) ∧ W.heap[G]? = some (.cells (mkB (2 * t.ls.length) (maskP t l j pre)) 4 (0, 0)))
     (fun _ _ _ => False)
     (ownFrom_mark (Nat.le_refl _) (by omega) _ _)
     (fun _ _ _ _ _ hs _ _ => hs)
     ⟨grown_refl _ _, by rw [maskP_nil]; exact hm3⟩
     (fun (x : Lk t.ls.length) => { tmps := #[.agg #[.int .i64 t.n, .slice A1 t.ov.length c1, .slice A2 t.ls.length c2], .slice (some ⟨b, o, none⟩) l.length c, .pointer (some ⟨w.heap.size, 0, none⟩), undef, .slice none 0 0, .int .i64 0, .pointer (some ⟨G + 1, 0, none⟩), undef, .pointer (some ⟨wr.heap.size, 0, none⟩), .int .i64 x.1, .agg #[.int .i64 t.n, .slice A1 t.ov.length c1, .slice A2 t.ls.length c2], .bool true, .bool false, .agg #[.int .i64 t.n, .slice A1 t.ov.length c1, .slice A2 t.ls.length c2], .int .i64 (2 * (t.ls.length : Int)), .slice (some ⟨G, 0, none⟩) (2 * t.ls.length) (2 * t.ls.length), .slice (some ⟨b, o, none⟩) l.length c, .int .i64 (l.length : Int), .int .i64 (j : Int), .bool true, .pointer (some ⟨b, o + j * 2, none⟩), .agg #[.int .i64 k, .int .i64 m], .agg #[.int .i64 t.n, .slice A1 t.ov.length c1, .slice A2 t.ls.length c2], .agg #[.int .i64 k, .int .i64 m], .bool true, .bool false, .agg #[.int .i64 t.n, .slice A1 t.ov.length c1, .slice A2 t.ls.length c2], .agg #[.int .i64 k, .int .i64 m], .func (.func 111) #[] #[.pointer (some ⟨w4.heap.size, 0, none⟩), .pointer (some ⟨w4.heap.size + 1, 0, none⟩)], .int .i64 x.1, undef, undef, undef, undef, undef, undef, undef, undef, undef, u39, undef], defers := [] }) ?assign ?body ?done ?stop
    case assign =>
     intro l x W K hK
     gi_wp2
     exact hK
    case body =>
     rintro lp pre x W ⟨hg, hm⟩ _
     obtain ⟨xn, hxn⟩ : ∃ xn : Nat, x.1 = (xn : Int) := ⟨x.1.toNat, by have := x.2.1; omega⟩
     have hxl : xn < t.ls.length := by have := x.2.2; omega
     have c6 : W.cell? ⟨G + 1, 0, none⟩ = some (.slice (some ⟨G, 0, none⟩) (2 * t.ls.length) (2 * t.ls.length)) := by
      rw [Lib.cell_of_heap ((hg.block (G + 1) (kZ HX3.out) (by simp)).trans HX3.out)]; rfl
     have cA : W.cell? ⟨G, 2 * xn, none⟩ = some (.bool (maskP t l j pre (2 * xn))) := by rw [Lib.cell_of_heap hm]; exact mkB_at _ (by omega)
     have cB : W.cell? ⟨G, 2 * xn + 1, none⟩ = some (.bool (maskP t l j pre (2 * xn + 1))) := by rw [Lib.cell_of_heap hm]; exact mkB_at _ (by omega)
     have fA : W.frozen? ⟨G, 2 * xn, none⟩ = false := Lib.frozen_of_heap hm _
     have fB : W.frozen? ⟨G, 2 * xn + 1, none⟩ = false := Lib.frozen_of_heap hm _
     have HG := hU hg
     have HM := hU hm
     clear hg hm
     have e1 : (2 * (xn : Int)).toNat = 2 * xn := by omega
     have e2 : (2 * (xn : Int) + 1).toNat = 2 * xn + 1 := by omega
     have HXN := hU hxn
     have hxb : (xn : Int) ≤ 100000 := by omega
     simp only [hxn]
     obtain ⟨N, hN⟩ : ∃ N : Nat, N = 2 * t.ls.length := ⟨_, rfl⟩
     rw [← hN] at c6 HM ⊢
     have i1 : 2 * (xn : Int) < (N : Int) := by omega
     have i2 : 2 * (xn : Int) + 1 < (N : Int) := by omega
     have HN := hU hN
     have p1 : (0 : Int) ≤ 2 * (xn : Int) := by omega
     have p2 : (0 : Int) ≤ 2 * (xn : Int) + 1 := by omega
     have y1 : IntKind.i64.wrap (2 * (xn : Int)) = 2 * (xn : Int) := IntWalk.i64_in _ (by omega)
     have y2 : IntKind.i64.wrap (2 * (xn : Int) + 1) = 2 * (xn : Int) + 1 := IntWalk.i64_in _ (by omega)
     clear hN hxn hxl
     gi_wp2
     refine wpIn_region_held (fun W => W.cell? ⟨G + 1, 0, none⟩ = some (.slice (some ⟨G, 0, none⟩) N N)) (by kernel_rfl) (by kernel_rfl) letsOut_block ?_
     refine wpAnyH_take (i := 0) (v := .slice (some ⟨G, 0, none⟩) N N) rfl (by kernel_rfl) (by kernel_rfl) (by kernel_rfl) (fun _ _ _ h => h) (.inl ⟨rfl, fun w hS => ?_⟩) c6 ?_
     ·go_simp
     refine wpAnyH_take (i := 1) (v := .int .i64 xn) rfl (by kernel_rfl) (by kernel_rfl) (by kernel_rfl) (fun _ _ _ h => h) (.inl ⟨rfl, fun w hS => ?_⟩) c6 ?_
     ·go_simp
     refine wpAnyH_take (i := 2) (v := .int .i64 (2 * (xn : Int))) rfl (by kernel_rfl) (by kernel_rfl) (by kernel_rfl) (fun _ _ _ h => h) (.inl ⟨rfl, fun w hS => ?_⟩) c6 ?_
     ·go_simp
     refine wpAnyH_take (i := 3) (v := .slice (some ⟨G, 0, none⟩) N N) rfl (by kernel_rfl) (by kernel_rfl) (by kernel_rfl) (fun _ _ _ h => h) (.inl ⟨rfl, fun w hS => ?_⟩) c6 ?_
     ·go_simp
     refine wpAnyH_take (i := 4) (v := .int .i64 xn) rfl (by kernel_rfl) (by kernel_rfl) (by kernel_rfl) (fun _ _ _ h => h) (.inl ⟨rfl, fun w hS => ?_⟩) c6 ?_
     ·go_simp
     refine wpAnyH_take (i := 5) (v := .int .i64 (2 * (xn : Int))) rfl (by kernel_rfl) (by kernel_rfl) (by kernel_rfl) (fun _ _ _ h => h) (.inl ⟨rfl, fun w hS => ?_⟩) c6 ?_
     ·go_simp
     refine wpAnyH_take (i := 6) (v := .int .i64 (2 * (xn : Int) + 1)) rfl (by kernel_rfl) (by kernel_rfl) (by kernel_rfl) (fun _ _ _ h => h) (.inl ⟨rfl, fun w hS => ?_⟩) c6 ?_
     ·go_simp
     refine wpAnyH_take (i := 7) (v := .pointer (some ⟨G, 2 * xn, none⟩)) rfl (by kernel_rfl) (by kernel_rfl) (by kernel_rfl) (fun _ _ _ h => h) (.inl ⟨rfl, fun w hS => ?_⟩) c6 ?_
     ·go_simp
     refine wpAnyH_all (rs := [8]) (by kernel_rfl) (by simp) ?_
     intro i hi
     obtain rfl := List.mem_singleton.1 hi
     refine wpOp_ran (W.setCell ⟨G, 2 * xn, none⟩ (.bool true)).drew rfl rfl ?_ ?_
     ·go_simp
     have c7 : (W.setCell ⟨G, 2 * xn, none⟩ (.bool true)).drew.cell? ⟨G + 1, 0, none⟩ = some (.slice (some ⟨G, 0, none⟩) N N) := (World.cell?_setCell_other W _ _ _ (by simp)).trans c6
     have cB2 : (W.setCell ⟨G, 2 * xn, none⟩ (.bool true)).cell? ⟨G, 2 * xn + 1, none⟩ = some (.bool (maskP t l j pre (2 * xn + 1))) := (World.cell?_setCell_other W _ _ _ (by simp)).trans cB
     have fB2 : (W.setCell ⟨G, 2 * xn, none⟩ (.bool true)).frozen? ⟨G, 2 * xn + 1, none⟩ = false := by
      rw [Lib.frozen_of_heap (heap_setCell_same _ _ _ _ _ _ HM.out)]
     refine ⟨c7, ?_⟩
     clear hi
     refine wpAnyH_take (i := 9) (v := .pointer (some ⟨G, 2 * xn + 1, none⟩)) rfl (by kernel_rfl) (by kernel_rfl) (by kernel_rfl) (fun _ _ _ h => h) (.inl ⟨rfl, fun w hS => ?_⟩) c7 ?_
     ·go_simp
     refine wpAnyH_all (rs := [10]) (by kernel_rfl) (by simp) ?_
     intro i hi
     obtain rfl := List.mem_singleton.1 hi
     refine wpOp_ran ((W.setCell ⟨G, 2 * xn, none⟩ (.bool true)).setCell ⟨G, 2 * xn + 1, none⟩ (.bool true)).drew rfl rfl ?_ ?_
     ·go_simp
     refine ⟨(World.cell?_setCell_other _ _ _ _ (by simp)).trans c7, wpAnyH_done (by kernel_rfl) ?_ _⟩
     have hgW : W.grownBy ((W.setCell ⟨G, 2 * xn, none⟩ (.bool true)).setCell ⟨G, 2 * xn + 1, none⟩ (.bool true)).drew (some G) := grown_drew (grown_same (grown_set _ _ _ _) (grown_set _ _ _ _))
     refine ⟨KeepsFrom.of_grownBy hgW (fun j e => by cases e; omega), ⟨(Below.refl _ W).grown hgW (by have := HG.out.size; omega) (fun j e => by cases e; omega), hgW.block _ (by have := HG.out.size; omega) (by simp; omega)⟩, grown_same HG.out hgW, ?_⟩
     rw [HN.out, maskP_snoc HXN.out, ← HN.out]
     exact mark_two HM.out
    case done =>
     rintro D ys W hD rfl ⟨hg, hm⟩ hK
     rw [maskP_done HP.out] at hm
     have HG := hU hg
     have HM := hU hm
     have HK := hU hK
     have HD := hU hD
     clear hg hm hK hD
     have HI2 : Hid (UInv w A1 A2 c1 c2 t l G W (j + 1) ({ target := .collected D, args := #[] } :: ds)) := hU (by
      have keep : ∀ g, g < wr.heap.size → g ≠ G → W.heap[g]? = wr.heap[g]? := fun g h1 h2 => (HG.out.block g (by omega) (by simp [h2])).trans (hbW.block g h1)
      refine ⟨(keep _ (by omega) (by omega)).trans HI.out.tb, (keep _ (by omega) (by omega)).trans HI.out.bx, HM.out, hB3.grown HG.out (by omega) (fun k e => by cases e; omega), ?_, .cons (by have := HD.out; omega) HK.out ?_ (HI.out.ms.keep ?_)⟩
      ·intro p hp
       obtain ⟨hj', he⟩ := List.getElem?_eq_some_iff.1 HP.out
       rw [List.take_succ_eq_append_getElem hj', List.mem_append, List.mem_singleton, he] at hp
       rcases hp with hp | rfl
       ·exact HI.out.ok p hp
       ·exact hc
      ·intro d hd e
       obtain ⟨D', e', hlt'⟩ := HI.out.ms.lt d hd
       rw [e'] at e
       have := HD.out
       cases e
       omega
      ·intro D' _ hD'
       have h1 := kZ hD'
       refine (keep D' h1 (fun e => ?_)).trans hD'
       subst e
       have := HI.out.mb.symm.trans hD'
       cases this)
     clear HG HM HK HD
     gi_wp2
     refine ⟨⟨j + 1, ?_⟩, by simp [intOf]; omega⟩
     rw [show ((j + 1 : Nat) : Int) = (j : Int) + 1 by omega]
     exact ⟨_, _, _, _, _, _, _, _, _, _, _, _, _, by omega, HI2, rfl⟩
    case stop =>
     rintro D c pre W _ _ h _
     exact h.elim
  ·obtain rfl : j = l.length := by omega
   have c6 : wr.cell? ⟨G + 1, 0, none⟩ = some (.slice (some ⟨G, 0, none⟩) (2 * t.ls.length) (2 * t.ls.length)) := by rw [Lib.cell_of_heap HI.out.bx]; rfl
   gi_wp2
   refine leaves_marks HI.out.ms HI.out.hb.size ?_
   intro w' hs
   exact ⟨_, results_tmp2 (t := 4) (u := 5) rfl _ _ _, retBE_of (unionV_ok HV.out HI.out.ok) (hs.cells _ _ HI.out.mb rfl) (HI.out.hb.trans hs.hb) (Nat.le_of_lt hwG)⟩
end
end Go.Proofs.YtdnjflpmbnjgeaaGreat
