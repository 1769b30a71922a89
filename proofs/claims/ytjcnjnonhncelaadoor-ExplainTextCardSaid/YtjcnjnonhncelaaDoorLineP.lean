/-
  waypointref55.digits, reasons, kinds, states, Line: what each returns for valid events.
-/
import Derived.Test.YtjcnjnonhncelaaDoorEvP
import Derived.Test.YtjcnjnonhncelaaDoorNumber
import Derived.Laws.Concat
import Derived.IntWalk
import Derived.Test.YtjcnjnonhncelaaDoorReg
namespace Go.Proofs.YtjcnjnonhncelaaDoor
open Go.RowKit Go.Sort

theorem ref55_digits (n : Int) (h0 : -9223372036854775808 ≤ n) (h1 : n ≤ 9223372036854775807) (w : World) :
    Calls Tryd.prog 55 #[.int .i64 n] w fun e w' => e = .returned (.string ⟨(Lib.itoa n).toArray⟩) ∧ Below w.heap.size w w' := by
  go_enter Tryd.func55, Tryd.ntmps55
  go_wp2_with fail
  refine (ref09_Number n h0 h1 _).mono ?_
  rintro e w1 ⟨rfl, hb⟩
  go_wp2_with fail
  go_ret
  exact ⟨rfl, hb⟩

theorem ref55_reasons (w : World) : Calls Tryd.prog 56 #[] w (RetStrs w (reasonsL.tail)) := by
  go_enter Tryd.func56, Tryd.ntmps56
  go_wp2_with fail
  go_ret
  exact ⟨rfl, fun i x h => strs_cell w (reasonsL.tail) i x h, below_box _ _⟩
theorem ref55_kinds (w : World) : Calls Tryd.prog 57 #[] w (RetStrs w (componentsL.tail)) := by
  go_enter Tryd.func57, Tryd.ntmps57
  go_wp2_with fail
  go_ret
  exact ⟨rfl, fun i x h => strs_cell w (componentsL.tail) i x h, below_box _ _⟩
theorem ref55_states (w : World) : Calls Tryd.prog 58 #[] w (RetStrs w (statesL)) := by
  go_enter Tryd.func58, Tryd.ntmps58
  go_wp2_with fail
  go_ret
  exact ⟨rfl, fun i x h => strs_cell w (statesL) i x h, below_box _ _⟩
/-- The box of an event (block w0.heap.size), in a later world. -/
structure EvS (w0 : World) (t k n a p r : Int) (w : World) : Prop where
  ev : EvAt w w0.heap.size t k n a p r
  hb : Below w0.heap.size w0 w
theorem EvS.up {w0 w w' : World} {t k n a p r : Int} (h : EvS w0 t k n a p r w) (hb : Below w.heap.size w w') : EvS w0 t k n a p r w' := ⟨h.ev.up hb, below_next h.hb hb⟩
theorem EvS.keep {w0 w : World} {t k n a p r : Int} (h : Hid (EvS w0 t k n a p r w)) : w.cell? ⟨w0.heap.size, 2, none⟩ = some (.int .i64 n) ∧ w.cell? ⟨w0.heap.size, 3, none⟩ = some (.int .i64 a) ∧ w.cell? ⟨w0.heap.size, 4, none⟩ = some (.int .i64 p) ∧ w.cell? ⟨w0.heap.size, 5, none⟩ = some (.int .i64 r) ∧ Hid (EvS w0 t k n a p r w) :=
  ⟨h.out.ev.s2, h.out.ev.s3, h.out.ev.s4, h.out.ev.s5, h⟩
theorem EvS.keepA {w0 w : World} {t k n a p r : Int} {o : Obj} (h : Hid (EvS w0 t k n a p r w)) : (w.alloc o).cell? ⟨w0.heap.size, 2, none⟩ = some (.int .i64 n) ∧ (w.alloc o).cell? ⟨w0.heap.size, 3, none⟩ = some (.int .i64 a) ∧ (w.alloc o).cell? ⟨w0.heap.size, 4, none⟩ = some (.int .i64 p) ∧ (w.alloc o).cell? ⟨w0.heap.size, 5, none⟩ = some (.int .i64 r) ∧ Hid (EvS w0 t k n a p r (w.alloc o)) :=
  EvS.keep (Lib.hid (h.out.up (below_box _ _)))
theorem two_0 (w : World) (x y : Value) (T : TypeId) : (w.alloc (.cells #[x, y] T)).cell? ⟨w.heap.size, 0, none⟩ = some x := by simp
theorem two_1 (w : World) (x y : Value) (T : TypeId) : (w.alloc (.cells #[x, y] T)).cell? ⟨w.heap.size, 1, none⟩ = some y := by simp
theorem tail_at {l : List (List UInt8)} {r : Int} {x : List UInt8} (hr : 1 ≤ r) (h : l[r.toNat]? = some x) : l.tail[r.toNat - 1]? = some x := by
  rw [List.getElem?_tail, show r.toNat - 1 + 1 = r.toNat by omega]; exact h

end Go.Proofs.YtjcnjnonhncelaaDoor
