/-
  component.Mask, waypointref10.Union, Mask, SameBools: what each returns.
-/
import Derived.Test.YtjcnjnonhncelaaDoorUnion
namespace Go.Proofs.YtjcnjnonhncelaaDoor
open Go.RowKit Go.Sort

theorem RetBE.next {w0 w w' : World} {r : List Bool × Int} {e : Ending} (h : RetBE w r e w') (hb : Below w0.heap.size w0 w) : RetBE w0 r e w' := by
  obtain ⟨A, c, h0, h1, h2⟩ := h
  exact ⟨A, c, h0, h1, below_next hb h2⟩
theorem rdP_one {w : World} {g : Nat} {k m : Int} (s0 : w.cell? ⟨g, 0, none⟩ = some (.int .i64 k)) (s1 : w.cell? ⟨g, 1, none⟩ = some (.int .i64 m)) : RdP w (some ⟨g, 0, none⟩) [(k, m)] := by
  refine .inr ⟨g, 0, rfl, fun j p hp => ?_⟩
  match j, hp with
  | 0, hp => simp at hp; subst hp; exact ⟨s0, s1⟩
  | j + 1, hp => simp at hp
theorem rdP_new {w : World} {g : Nat} {k m : Int} {T : TypeId} (h : w.heap.size = g) : RdP (w.alloc (.cells #[.int .i64 k, .int .i64 m] T)) (some ⟨g, 0, none⟩) [(k, m)] := by
  subst h
  exact rdP_one (by simp) (by simp)

set_option maxHeartbeats 1000000 in
theorem component_Mask (t : Topo) (A1 A2 : Option Addr) (c1 c2 : Nat) (k m : Int) (w : World) (hT : TAt w A1 A2 t) (hn : t.ls.length ≤ 100000) :
    Calls Tryd.prog 109 #[.agg #[.int .i64 t.n, .slice A1 t.ov.length c1, .slice A2 t.ls.length c2], .agg #[.int .i64 k, .int .i64 m]] w (RetBE w (unionV t [(k, m)])) := by
  have hb0 := below_box w (.cells #[.int .i64 t.n, .slice A1 t.ov.length c1, .slice A2 t.ls.length c2] 77)
  have hb1 := below_box (w.alloc (.cells #[.int .i64 t.n, .slice A1 t.ov.length c1, .slice A2 t.ls.length c2] 77)) (.cells #[.int .i64 k, .int .i64 m] 136)
  have HB := below_next hb0 hb1
  have HT := hT.below HB
  have b0 := cell_up hb1 (box0 w (.int .i64 t.n) (.slice A1 t.ov.length c1) (.slice A2 t.ls.length c2) 77)
  have b1 := cell_up hb1 (box1 w (.int .i64 t.n) (.slice A1 t.ov.length c1) (.slice A2 t.ls.length c2) 77)
  have b2 := cell_up hb1 (box2 w (.int .i64 t.n) (.slice A1 t.ov.length c1) (.slice A2 t.ls.length c2) 77)
  have s0 : ((w.alloc (.cells #[.int .i64 t.n, .slice A1 t.ov.length c1, .slice A2 t.ls.length c2] 77)).alloc (.cells #[.int .i64 k, .int .i64 m] 136)).cell? ⟨w.heap.size + 1, 0, none⟩ = some (.int .i64 k) := by simp
  have s1 : ((w.alloc (.cells #[.int .i64 t.n, .slice A1 t.ov.length c1, .slice A2 t.ls.length c2] 77)).alloc (.cells #[.int .i64 k, .int .i64 m] 136)).cell? ⟨w.heap.size + 1, 1, none⟩ = some (.int .i64 m) := by simp
  clear hb0 hb1 hT
  have HT' := Lib.hid HT
  have HB' := Lib.hid HB
  clear HT HB
  go_enter Tryd.func109, Tryd.ntmps109
  go_wp2_with fail
  refine (component_Union t A1 A2 c1 c2 _ 1 [(k, m)] _ (HT'.out.below (below_box _ _)) (rdP_new (by simp)) hn (by simp)).mono ?_
  rintro e w2 ⟨A, c, rfl, hr, hb⟩
  go_wp2_with fail
  go_ret2
  exact ⟨A, c, rfl, hr, below_next (below_next HB'.out (below_box _ _)) hb⟩

theorem bools_at {w : World} {A : Option Addr} {xs : List Bool} {k : Nat} (h : Rd w A (xs.map Value.bool)) (hk : k < xs.length) : ∃ b o x, A = some ⟨b, o, none⟩ ∧ xs[k]? = some x ∧ w.cell? ⟨b, o + k, none⟩ = some (.bool x) := by
  obtain ⟨b, o, hA, hc⟩ := h.at_ (k := k) (u := .bool xs[k]) (by simp [hk])
  exact ⟨b, o, xs[k], hA, List.getElem?_eq_getElem hk, hc⟩
/-- The state of waypointref10.Union: the marks f. -/
structure VInv (w : World) (A1 A2 : Option Addr) (c1 c2 : Nat) (t : Topo) (N G : Nat) (f : Nat → Bool) (wr : World) : Prop where
  b0 : wr.cell? ⟨w.heap.size, 0, none⟩ = some (.int .i64 t.n)
  b1 : wr.cell? ⟨w.heap.size, 1, none⟩ = some (.slice A1 t.ov.length c1)
  b2 : wr.cell? ⟨w.heap.size, 2, none⟩ = some (.slice A2 t.ls.length c2)
  mb : wr.heap[G]? = some (.cells (mkB N f) 4 (0, 0))
  hb : Below w.heap.size w wr
theorem VInv.up {w : World} {A1 A2 : Option Addr} {c1 c2 : Nat} {t : Topo} {N G : Nat} {f : Nat → Bool} {wr w' : World} (h : VInv w A1 A2 c1 c2 t N G f wr) (hb : Below wr.heap.size wr w') : VInv w A1 A2 c1 c2 t N G f w' :=
  ⟨cell_up hb h.b0, cell_up hb h.b1, cell_up hb h.b2, (hb.block G (lt_of_heap' h.mb)).trans h.mb, below_next h.hb hb⟩
theorem VInv.set {w : World} {A1 A2 : Option Addr} {c1 c2 : Nat} {t : Topo} {N G : Nat} {f : Nat → Bool} {wr : World} (h : VInv w A1 A2 c1 c2 t N G f wr) (hG : w.heap.size < G) (a : Nat) : VInv w A1 A2 c1 c2 t N G (fun x => f x || x == a) (wr.setCell ⟨G, a, none⟩ (.bool true)) := by
  have hne : ∀ o, (wr.setCell ⟨G, a, none⟩ (.bool true)).cell? ⟨w.heap.size, o, none⟩ = wr.cell? ⟨w.heap.size, o, none⟩ := fun o => World.cell?_setCell_other _ _ _ _ (fun e => by cases e; omega)
  exact ⟨(hne 0).trans h.b0, (hne 1).trans h.b1, (hne 2).trans h.b2, by rw [← mkB_set]; exact heap_setCell_same _ _ _ _ _ _ h.mb, h.hb.setCell (by show w.heap.size ≤ G; omega) _⟩

/-- The marks in the middle of a component, arc by arc. -/
def maskQ (t : Topo) (l : List (Int × Int)) (j : Nat) (k m : Int) (a : Nat) (x : Nat) : Bool := maskF t l j x || (decide (x < a) && partA t k m (x : Int))
theorem maskQ_hit {t : Topo} {l : List (Int × Int)} {j : Nat} {k m : Int} {a : Nat} (h : partA t k m (a : Int) = true) : (fun x => maskQ t l j k m a x || x == a) = maskQ t l j k m (a + 1) := by
  funext x
  unfold maskQ
  by_cases e : x = a
  · subst e
    simp [h]
  · have e1 : (x == a) = false := by simp [e]
    have e2 : decide (x < a + 1) = decide (x < a) := by rw [decide_eq_decide]; omega
    rw [e1, e2, Bool.or_false]
theorem maskQ_miss {t : Topo} {l : List (Int × Int)} {j : Nat} {k m : Int} {a : Nat} (h : partA t k m (a : Int) = false) : maskQ t l j k m a = maskQ t l j k m (a + 1) := by
  funext x
  unfold maskQ
  by_cases e : x = a
  · subst e
    simp [h]
  · have e2 : decide (x < a + 1) = decide (x < a) := by rw [decide_eq_decide]; omega
    rw [e2]
theorem maskQ_start {t : Topo} {l : List (Int × Int)} {j : Nat} {k m : Int} : maskF t l j = maskQ t l j k m 0 := by
  funext x
  simp [maskQ]
theorem maskQ_end {t : Topo} {l : List (Int × Int)} {j : Nat} {k m : Int} {N : Nat} (hp : l[j]? = some (k, m)) : mkB N (maskQ t l j k m N) = mkB N (maskF t l (j + 1)) := by
  apply mkB_congr
  intro a ha
  obtain ⟨hj, e⟩ := List.getElem?_eq_some_iff.1 hp
  unfold maskQ maskF
  rw [List.take_succ_eq_append_getElem hj, List.any_append, e]
  simp [ha]

end Go.Proofs.YtjcnjnonhncelaaDoor
