/-
  waypointref10.Valid, Of, Arcs: what each returns, for every topology and component.
-/
import Derived.Test.YtjcnjnonhncelaaDoorArcsC
namespace Go.Proofs.YtjcnjnonhncelaaDoor
open Go.RowKit Go.Sort

theorem compV1 {t : Topo} {m : Int} (hv : valid t = true) : compV t 1 m = (decide (0 ≤ m) && decide (m < (t.ls.length : Int))) := by simp [compV, hv, compOk1]
theorem compV2 {t : Topo} {m : Int} (hv : valid t = true) : compV t 2 m = (decide (0 ≤ m) && decide (m < t.n)) := by simp [compV, hv, compOk2, isN]
theorem compV3 {t : Topo} {m : Int} (hv : valid t = true) : compV t 3 m = (decide (1 ≤ m) && decide (m ≤ 64)) := by simp [compV, hv, compOk3]

/-- Is an arc one of a component? -/
def partA (t : Topo) (k m a : Int) : Bool := part t k m (a / 2)
theorem partA1 {t : Topo} {m a : Int} : partA t 1 m a = (a / 2 == m) := rfl
theorem partA2 {t : Topo} {m a : Int} : partA t 2 m a = ((lnk t a).a == m || (lnk t a).b == m) := rfl
theorem partA3 {t : Topo} {k m a : Int} (h1 : (k == 1) = false) (h2 : (k == 2) = false) : partA t k m a = ((lnk t a).g == m) := by
  simp only [beq_eq_false_iff_ne] at h1 h2
  simp [partA, part, h1, h2, lnk]

/-- The boxes of a topology and of a component, in a later world. -/
structure PBox (w : World) (A1 A2 : Option Addr) (c1 c2 : Nat) (t : Topo) (k m : Int) (wr : World) : Prop where
  b0 : wr.cell? ⟨w.heap.size, 0, none⟩ = some (.int .i64 t.n)
  b1 : wr.cell? ⟨w.heap.size, 1, none⟩ = some (.slice A1 t.ov.length c1)
  b2 : wr.cell? ⟨w.heap.size, 2, none⟩ = some (.slice A2 t.ls.length c2)
  s0 : wr.cell? ⟨w.heap.size + 1, 0, none⟩ = some (.int .i64 k)
  s1 : wr.cell? ⟨w.heap.size + 1, 1, none⟩ = some (.int .i64 m)
  hb : Below w.heap.size w wr
theorem PBox.up {w wr w' : World} {A1 A2 : Option Addr} {c1 c2 : Nat} {t : Topo} {k m : Int} (h : PBox w A1 A2 c1 c2 t k m wr) (hb : Below wr.heap.size wr w') : PBox w A1 A2 c1 c2 t k m w' :=
  ⟨cell_up hb h.b0, cell_up hb h.b1, cell_up hb h.b2, cell_up hb h.s0, cell_up hb h.s1, below_next h.hb hb⟩
theorem PBox.keep {w wr w' : World} {A1 A2 : Option Addr} {c1 c2 : Nat} {t : Topo} {k m : Int} (h : PBox w A1 A2 c1 c2 t k m wr) (hb : Below (w.heap.size + 2) wr w') : PBox w A1 A2 c1 c2 t k m w' :=
  ⟨(hb.cell (by simp)).trans h.b0, (hb.cell (by simp)).trans h.b1, (hb.cell (by simp)).trans h.b2, (hb.cell (by simp)).trans h.s0, (hb.cell (by simp)).trans h.s1, h.hb.trans (hb.mono (by omega))⟩

theorem arcs_ups (t : Topo) (k m : Int) : ∀ n : Nat, ups (partA t k m) (2 * n) = arcsOf (linksL t k m n)
  | 0 => rfl
  | n + 1 => by
    have ih := arcs_ups t k m n
    have e1 : partA t k m ((2 * n : Nat) : Int) = part t k m (n : Int) := by unfold partA; congr 1; omega
    have e2 : partA t k m ((2 * n + 1 : Nat) : Int) = part t k m (n : Int) := by unfold partA; congr 1; omega
    rw [show 2 * (n + 1) = 2 * n + 1 + 1 by omega]
    cases h : part t k m (n : Int) with
    | true =>
      rw [ups_hit (by rw [e2, h]), ups_hit (by rw [e1, h]), ih, show linksL t k m (n + 1) = linksL t k m n ++ [(n : Int)] from ups_hit h, arcsOf_snoc]
      simp
    | false => rw [ups_miss (by rw [e2, h]), ups_miss (by rw [e1, h]), ih, show linksL t k m (n + 1) = linksL t k m n from ups_miss h]

end Go.Proofs.YtjcnjnonhncelaaDoor
