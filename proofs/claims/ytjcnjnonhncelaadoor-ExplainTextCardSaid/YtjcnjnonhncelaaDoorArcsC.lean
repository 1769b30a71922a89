/-
  component.Arcs: what it returns, for every topology and component.
-/
import Derived.Test.YtjcnjnonhncelaaDoorLinks
import Derived.Maps.AppendAt
namespace Go.Proofs.YtjcnjnonhncelaaDoor
open Go.RowKit Go.Shelf
attribute [local go_sem] Oper.semAt_some

set_option maxRecDepth 100000 in
set_option maxHeartbeats 2000000 in
/-- No link: no round. -/
theorem links1_nil_in (F : Fence) (n : Nat) (h47 : F.fn 145) (hro : F.round = none) (l Bt Bc c2 : Nat) (A2 : Option Addr) {N : Nat} (J : List (Lk N) → World → Prop) (W : World) (hBt : W.cell? ⟨Bt, 2, none⟩ = some (.slice A2 0 c2)) (h0 : J [] W) :
    CallsIn F n Tryd.prog 145 #[.func (.yield l) #[] #[], .pointer (some ⟨Bt, 0, none⟩), .pointer (some ⟨Bc, 0, none⟩)] W fun e W' => (∃ v, e = .returned v) ∧ J [] W' := by
  refine callsIn_of_wp Tryd.func145 rfl h47 ?_ hro
  simp only [Tryd.ntmps145, List.size_toArray, List.length_cons, List.length_nil, Nat.reduceAdd, Nat.reduceSub, Array.replicate_succ, Array.replicate_zero, List.push_toArray, List.append_toArray, List.nil_append, List.cons_append]
  gi_wp2
  gi_loopw [10] (fun i wr => i = .int .i64 0 ∧ J [] wr) (fun _ _ => 0)
  case atStart => exact ⟨rfl, h0⟩
  case round =>
    obtain ⟨rfl, hJs⟩ := hrel
    gi_wp2
    go_end0
    exact ⟨⟨_, rfl⟩, hJs⟩

/-- The iterator's contract: all links of the component, or a part of them where a round has said 'no more'. -/
theorem links_stops (F : Fence) (n : Nat) (h47 : F.fn 145) (hro : F.round = none) (hn : 1 ≤ n) (Bt Bc n₀ : Nat) (t : Topo) (A2 : Option Addr) (c2 : Nat) (k m : Int) (hk : k = 1 ∨ k = 2 ∨ k = 3) (hlen : t.ls.length ≤ 100000)
    (w0 w : World) (h0 : n₀ = w0.heap.size) (hA : RdL w0 A2 t.ls) (hb : Below n₀ w0 w) (hBt : Bt < w.heap.size) (hBc : Bc < w.heap.size)
    (hcT : w.cell? ⟨Bt, 2, none⟩ = some (.slice A2 t.ls.length c2)) (hc0 : w.cell? ⟨Bc, 0, none⟩ = some (.int .i64 k)) (hc1 : w.cell? ⟨Bc, 1, none⟩ = some (.int .i64 m)) :
    SeqStopsK F n Tryd.prog 145 #[.pointer (some ⟨Bt, 0, none⟩), .pointer (some ⟨Bc, 0, none⟩)] (fun x : Lk t.ls.length => #[Value.int .i64 x.1]) (Kq n₀ Bc) (fun ys => ys = linksK t k m t.ls.length) (fun pre => ∃ j, j ≤ t.ls.length ∧ pre = linksK t k m j) t.ls.length w := fun l J Jx W hW hJ _ hY hJ0 => by
  subst h0
  have g0 := (hW.cell (p := ⟨Bt, 2, none⟩) hBt).trans hcT
  have g1 := (hW.cell (p := ⟨Bc, 0, none⟩) hBc).trans hc0
  have g2 := (hW.cell (p := ⟨Bc, 1, none⟩) hBc).trans hc1
  have hbW : Below w0.heap.size w0 W := hb.trans (hW.mono hb.size)
  rcases hA with hnil | ⟨b, o, rfl, hcell⟩
  · have hl0 : t.ls.length = 0 := by rw [hnil]; rfl
    rw [hl0] at g0
    refine (links1_nil_in F n h47 hro l Bt Bc c2 A2 J W g0 hJ0).mono fun e W' ⟨he, hj⟩ => ⟨he, .inl ⟨_, ?_, hj⟩⟩
    exact (List.eq_nil_of_length_eq_zero (by have := linksK_le t k m t.ls.length; omega)).symm
  · by_cases hl0 : t.ls.length = 0
    · rw [hl0] at g0
      refine (links1_nil_in F n h47 hro l Bt Bc c2 _ J W g0 hJ0).mono fun e W' ⟨he, hj⟩ => ⟨he, .inl ⟨_, ?_, hj⟩⟩
      exact (List.eq_nil_of_length_eq_zero (by have := linksK_le t k m t.ls.length; omega)).symm
    · have hx : t.ls[0]? = some (t.ls[0]'(by omega)) := List.getElem?_eq_getElem (by omega)
      have hbb : b < w0.heap.size := block_lt_of_cell (hcell 0 _ hx).q0
      exact links1_in F n h47 hro hn l Bt Bc w0.heap.size t b o c2 k m hk hlen hbb J Jx W hJ (Nat.lt_of_lt_of_le hBc hW.size) hbW.size hY g0 g1 g2 (fun j x hj => (hcell j x hj).up hbW) hJ0

/-- links(t, c): the parameters are boxed; the function value captures the boxes. -/
theorem links_in (F : Fence) (n : Nat) (h35 : F.fn 140) (hro : F.round = none) (x y z : Value) (k m : Int) (w : World) :
    CallsIn F n Tryd.prog 140 #[.agg #[x, y, z], .agg #[.int .i64 k, .int .i64 m]] w fun e w' => e = .returned (.func (.func 145) #[] #[.pointer (some ⟨w.heap.size, 0, none⟩), .pointer (some ⟨w.heap.size + 1, 0, none⟩)]) ∧ w' = (w.alloc (.cells #[x, y, z] 77)).alloc (.cells #[.int .i64 k, .int .i64 m] 136) := by
  refine callsIn_of_wp Tryd.func140 rfl h35 ?_ hro
  simp only [Tryd.ntmps140, List.size_toArray, List.length_cons, List.length_nil, Nat.reduceAdd, Nat.reduceSub, Array.replicate_succ, Array.replicate_zero, List.push_toArray, List.append_toArray, List.nil_append, List.cons_append]
  gi_wp2
  go_ret
  exact ⟨rfl, rfl⟩

/-- The arcs of a list of links. -/
def arcsK {n : Nat} (l : List (Lk n)) : List Int := l.flatMap fun i => [2 * i.1, 2 * i.1 + 1]
theorem arcsK_snoc {n : Nat} (l : List (Lk n)) (x : Lk n) : arcsK (l ++ [x]) = arcsK l ++ [2 * x.1, 2 * x.1 + 1] := by simp [arcsK]
theorem arcsK_len {n : Nat} (l : List (Lk n)) : (arcsK l).length = 2 * l.length := by
  induction l with
  | nil => rfl
  | cons x r ih => simp [arcsK] at ih ⊢; omega
theorem arcsK_val {n : Nat} (l : List (Lk n)) : arcsK l = (l.map (·.1)).flatMap fun i => [2 * i, 2 * i + 1] := by
  induction l with
  | nil => rfl
  | cons x r ih => simp [arcsK] at ih ⊢; exact ih

def arcsOf (l : List Int) : List Int := l.flatMap fun i => [2 * i, 2 * i + 1]
theorem arcsOf_snoc (l : List Int) (x : Int) : arcsOf (l ++ [x]) = arcsOf l ++ [2 * x, 2 * x + 1] := by simp [arcsOf]
theorem arcsOf_len (l : List Int) : (arcsOf l).length = 2 * l.length := by
  induction l with
  | nil => rfl
  | cons x r ih => simp [arcsOf] at ih ⊢; omega
def arcsC (t : Topo) (k m : Int) : List Int × Int := if compV t k m = true then (arcsOf (linksL t k m t.ls.length), 0) else ([], 1)
/-- A call that returns a list of ints and an error. -/
def RetIE (w : World) (r : List Int × Int) (e : Ending) (w' : World) : Prop :=
  ∃ A c, e = .returned (.tuple #[.slice A r.1.length c, .int .i64 r.2]) ∧ r.1.length ≤ c ∧ c ≤ maxLen ∧ Rd w' A (r.1.map (Value.int .i64)) ∧ Below w.heap.size w w'
theorem retIE_of {w w' : World} {base : Nat} {E : TypeId} {v : Value} {r : List Int × Int} {xs : List Int} (hr : r = (xs, 0)) (h : w'.ownsRow base E 1 v xs.length (xs.map (Value.int .i64))) (hb : Below w.heap.size w w') : RetIE w r (.returned (.tuple #[v, .int .i64 0])) w' := by
  subst hr
  obtain ⟨A, c, rfl, h1, h2, h3⟩ := rd_of_own h
  exact ⟨A, c, rfl, h1, h2, h3, hb⟩
theorem retIE_nil {w w' : World} {r : List Int × Int} {x : Int} (hr : r = ([], x)) (hb : Below w.heap.size w w') : RetIE w r (.returned (.tuple #[.slice none 0 0, .int .i64 x])) w' := by
  subst hr
  exact ⟨none, 0, rfl, Nat.le_refl _, Nat.zero_le _, .inl rfl, hb⟩
theorem compV_kind {t : Topo} {k m : Int} (h : compV t k m = true) : k = 1 ∨ k = 2 ∨ k = 3 := by
  simp only [compV, Bool.and_eq_true] at h
  have h2 := h.2
  unfold compOk at h2
  by_cases h1 : k = 1
  · exact .inl h1
  · by_cases h3 : k = 2
    · exact .inr (.inl h3)
    · by_cases h4 : k = 3
      · exact .inr (.inr h4)
      · simp [h1, h3, h4] at h2
theorem compV_valid {t : Topo} {k m : Int} (h : compV t k m = true) : valid t = true := by
  simp only [compV, Bool.and_eq_true] at h
  exact h.1

theorem blk_not_row {W : World} {b : Nat} {cs : Array Value} {T e : TypeId} {fr : Nat × Nat} (h : W.heap[b]? = some (.cells cs T fr)) (hte : T ≠ e) {base size k : Nat} {v : Value} {xs : List Value} (hr : W.ownsRow base e size v k xs) : some b ≠ v.ownBlock := by
  rcases hr.2 with ⟨rfl, _⟩ | ⟨g, cap, cur, rfl, _, hgb, _⟩
  · simp [Value.ownBlock]
  · intro e'
    obtain rfl : b = g := by simpa [Value.ownBlock] using e'
    have := h.symm.trans hgb
    simp only [Option.some.injEq, Obj.cells.injEq] at this
    exact hte this.2.1
theorem ownsRow_two {W : World} {base : Nat} {e : TypeId} {size : Nat} {v : Value} {k : Nat} {xs : List Value} (h : W.ownsRow base e size v (k + 2) xs) : ∃ g cap, v = .slice (some ⟨g, 0, none⟩) (k + 2) cap := by
  rcases h.2 with ⟨_, h0⟩ | ⟨g, cap, _, rfl, _⟩
  · omega
  · exact ⟨g, cap, rfl⟩
theorem Kq_b {n₀ Bc : Nat} {w : World} (h1 : n₀ ≤ w.heap.size) (h2 : Bc < w.heap.size) (W : World) (l : Nat) (o o' : Obj) (hl : w.heap.size ≤ l) (h : W.heap[l]? = some o) (g1 : o.isCells = false) (g2 : o.isWalk = false) : Kq n₀ Bc W (W.putObj l o') :=
  ⟨belowK_b h1 W l o o' hl h g1 g2, World.putObj_heap_other (by omega)⟩
theorem own_blk {β : Type} (b : Nat) (cs : Array Value) (T : TypeId) (fr : Nat × Nat) : Own (fun (_ : β) (W : World) => W.heap[b]? = some (.cells cs T fr)) := by
  intro s X Y row hs hg hrow
  refine (hg.block b (Array.getElem?_eq_some_iff.1 hs).1 (fun e => ?_)).trans hs
  obtain ⟨o, ho, hc⟩ := hrow b e.symm
  rw [hs] at ho; cases ho; cases hc

end Go.Proofs.YtjcnjnonhncelaaDoor
