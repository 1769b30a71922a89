/-
  verify.within, onArc, named, Valid at the example of the document of layer 57: what each returns.
-/
import Derived.Test.YtjcnjnonhncelaaDoorTr
import Derived.Test.YtjcnjnonhncelaaDoorComp
import Derived.Test.YtjcnjnonhncelaaDoorValid
import Derived.WideMake
import Derived.MapKept
namespace Go.Proofs.YtjcnjnonhncelaaDoor
open Go.RowKit Go.Sort
set_option linter.unusedSimpArgs false
set_option linter.unusedVariables false

def ex57T : Topo := ⟨2, [], [⟨0, 1, 1, 1, 1, 2, 0⟩]⟩
def ex57L : List Ev := [⟨5, 5, 0, 1, 0, 0⟩, ⟨6, 1, 0, 0, 7, 0⟩, ⟨6, 2, 0, 0, 7, 0⟩, ⟨6, 4, 0, 0, 7, 3⟩]

theorem verify_within (n lo hi : Int) (w : World) :
    Calls Tryd.prog 101 #[.int .i64 n, .int .i64 lo, .int .i64 hi] w fun e w' => e = .returned (.bool (inR n lo hi)) ∧ w = w' := by
  by_cases h1 : lo ≤ n <;> by_cases h2 : n ≤ hi <;>
  (go_enter Tryd.func101, Tryd.ntmps101
   go_wp2
   go_ret
   simp [h1, h2, inR]) <;> omega

/-! A map that holds nothing, and the first entry. -/
/-- The world with the map's block turned. -/
def putMap (w : World) (r : Nat) (o : Obj) : World := { w with heap := w.heap.setIfInBounds r o }
theorem putMap_below {B r : Nat} {w W : World} {o : Obj} (h : Below B w W) (hr : B ≤ r) : Below B w (putMap W r o) :=
  ⟨h.os, h.tape, h.output, by simp [putMap]; exact h.size, fun k hk => by
    show (W.heap.setIfInBounds r o)[k]? = _
    rw [Array.getElem?_setIfInBounds_ne (by omega)]; exact h.block k hk⟩
theorem putMap_block {w : World} {r k : Nat} {o : Obj} (h : k ≠ r) : (putMap w r o).heap[k]? = w.heap[k]? := by
  show (w.heap.setIfInBounds r o)[k]? = _
  rw [Array.getElem?_setIfInBounds_ne (fun e => h e.symm)]
theorem putMap_new {w : World} {r : Nat} {o o' : Obj} (h : w.heap[r]? = some o') : (putMap w r o).heap[r]? = some o := by
  show (w.heap.setIfInBounds r o)[r]? = _
  have := (Array.getElem?_eq_some_iff.1 h).1
  simp [this]
theorem zeroBool (w : World) : (zeroValue 4).run Tryd.prog w = .ok (.bool false) w := by kernel_rfl
theorem look_mt {w : World} {r : Nat} {k : Int} (hb : w.heap[r]? = some (.map #[] 0)) : (Instr.lookup 140 (.map (some r)) (.int .i64 k) false).run Tryd.prog w = .ok (.bool false) w := by
  have hf : Instr.findNow (.int .i64) (.int .i64 k) ([] : List MapEntry) 0 = some none := rfl
  have hc : (Instr.checkKey true 10000 3 (.int .i64 k)).run Tryd.prog w = .ok () w := MapKept.run_checkKey (k := .int .i64 k) Tryd.underlying3 (by simp [MapKept.IsKey]) true 9999
  simp [Instr.lookup, run_underlying Tryd.underlying140, MapKept.run_getObj_map hb, hc, MapKept.run_findKey Tryd.underlying3 hf, zeroBool, Result.andThen]
theorem upd_mt {w : World} {r : Nat} {k : Int} (v : Value) (hb : w.heap[r]? = some (.map #[] 0)) : (Instr.mapUpdate 140 (.map (some r)) (.int .i64 k) v).run Tryd.prog w = .ok () (putMap w r (.map #[{ key := .int .i64 k, val := v, born := 0 }] 1)) := by
  have hf : Instr.findNow (.int .i64) (.int .i64 k) ([] : List MapEntry) 0 = some none := rfl
  have hc : (Instr.checkKey false 10000 3 (.int .i64 k)).run Tryd.prog w = .ok () w := MapKept.run_checkKey (k := .int .i64 k) Tryd.underlying3 (by simp [MapKept.IsKey]) false 9999
  simp [Instr.mapUpdate, run_underlying Tryd.underlying140, MapKept.run_getObj_map hb, hc, MapKept.run_findKey Tryd.underlying3 hf, MapKept.run_setObj_map _ hb, Result.andThen, putMap]

theorem verify_onArc57 (w : World) : Calls Tryd.prog 127 #[.agg #[.int .i64 6, .int .i64 4, .int .i64 0, .int .i64 0, .int .i64 7, .int .i64 3]] w fun e w' => e = .returned (.bool true) ∧ Below w.heap.size w w' := by
  have hb0 := below_box w (.cells #[.int .i64 6, .int .i64 4, .int .i64 0, .int .i64 0, .int .i64 7, .int .i64 3] 40)
  go_enter Tryd.func127, Tryd.ntmps127
  go_wp2_with fail
  go_ret
  exact ⟨rfl, hb0⟩

set_option maxRecDepth 100000 in
set_option maxHeartbeats 2000000 in
theorem verify_named57 (A2 : Option Addr) (c2 : Nat) (w : World) (hT : TAt w none A2 ex57T) (x : Ev) (hx : x ∈ ex57L) :
    Calls Tryd.prog 104 #[.agg #[.int .i64 2, .slice none 0 0, .slice A2 1 c2], .agg #[.int .i64 x.t, .int .i64 x.k, .int .i64 x.n, .int .i64 x.a, .int .i64 x.p, .int .i64 x.r]] w fun e w' => e = .returned (.bool true) ∧ Below w.heap.size w w' := by
  have HCV : Hid (∀ W, TAt W none A2 ex57T → Calls Tryd.prog 102 #[.agg #[.int .i64 2, .slice none 0 0, .slice A2 1 c2], .agg #[.int .i64 1, .int .i64 0]] W fun e w' => e = .returned (.bool true) ∧ Below W.heap.size W w') := Lib.hid fun W h => component_Valid ex57T none A2 0 c2 1 0 W h
  have HGN : Hid (∀ W, Calls Tryd.prog 103 #[.agg #[.int .i64 2, .slice none 0 0, .slice A2 1 c2], .int .i64 0] W fun e w' => e = .returned (.bool true) ∧ Below W.heap.size W w') := Lib.hid fun W => graph_Node 2 0 _ _ W
  have HGA : Hid (∀ W, Calls Tryd.prog 126 #[.agg #[.int .i64 2, .slice none 0 0, .slice A2 1 c2], .int .i64 0] W fun e w' => e = .returned (.bool true) ∧ Below W.heap.size W w') := Lib.hid fun W => graph_Arc _ _ A2 1 c2 0 W (by decide)
  have HT0 := Lib.hid hT
  have HB0 := Lib.hid (below_box w (.cells #[.int .i64 2, .slice none 0 0, .slice A2 1 c2] 77))
  have HB1 := Lib.hid (below_box (w.alloc (.cells #[.int .i64 2, .slice none 0 0, .slice A2 1 c2] 77)) (.cells #[.int .i64 x.t, .int .i64 x.k, .int .i64 x.n, .int .i64 x.a, .int .i64 x.p, .int .i64 x.r] 40))
  have HB := Lib.hid (below_next HB0.out HB1.out)
  have HT := Lib.hid (HT0.out.below HB.out)
  have b0 := cell_up HB1.out (box0 w (.int .i64 2) (.slice none 0 0) (.slice A2 1 c2) 77)
  have b1 := cell_up HB1.out (box1 w (.int .i64 2) (.slice none 0 0) (.slice A2 1 c2) 77)
  have b2 := cell_up HB1.out (box2 w (.int .i64 2) (.slice none 0 0) (.slice A2 1 c2) 77)
  obtain ⟨s0, s1, s2, s3, s4, s5⟩ := ev_box (w.alloc (.cells #[.int .i64 2, .slice none 0 0, .slice A2 1 c2] 77)) x
  clear hT HT0 HB0 HB1
  simp only [ex57L, List.mem_cons, List.not_mem_nil, or_false] at hx
  have hsz : (w.alloc (.cells #[.int .i64 2, .slice none 0 0, .slice A2 1 c2] 77)).heap.size = w.heap.size + 1 := by simp
  rw [hsz] at s0 s1 s2 s3 s4 s5
  simp only [Nat.zero_add] at s1 s2 s3 s4 s5
  obtain ⟨W, hW⟩ : ∃ W, W = ((w.alloc (.cells #[.int .i64 2, .slice none 0 0, .slice A2 1 c2] 77)).alloc (.cells #[.int .i64 x.t, .int .i64 x.k, .int .i64 x.n, .int .i64 x.a, .int .i64 x.p, .int .i64 x.r] 40)) := ⟨_, rfl⟩
  go_enter Tryd.func104, Tryd.ntmps104
  go_upto_region 1 with fail
  rw [← hW] at HB HT b0 b1 b2 s0 s1 s2 s3 s4 s5 ⊢
  clear hW hsz
  rcases hx with rfl | rfl | rfl | rfl
  all_goals simp only at s0 s1 s2 s3 s4 s5
  all_goals
    go_wp2_with (first | (go_at_call 102; (with_reducible refine (HCV.out _ HT.out).mono ?_); rintro e w1 ⟨rfl, hb⟩; replace HB := Lib.hid (below_next HB.out hb); clear hb) | (go_at_call 103; (with_reducible refine (HGN.out _).mono ?_); rintro e w1 ⟨rfl, hb⟩; replace HB := Lib.hid (below_next HB.out hb); replace b0 := cell_up hb b0; replace b1 := cell_up hb b1; replace b2 := cell_up hb b2; replace s0 := cell_up hb s0; replace s1 := cell_up hb s1; replace s2 := cell_up hb s2; replace s3 := cell_up hb s3; replace s4 := cell_up hb s4; replace s5 := cell_up hb s5; clear hb) | (go_at_call 126; (with_reducible refine (HGA.out _).mono ?_); rintro e w1 ⟨rfl, hb⟩; replace HB := Lib.hid (below_next HB.out hb); clear hb) | (go_at_call 127; (with_reducible refine (verify_onArc57 _).mono ?_); rintro e w1 ⟨rfl, hb⟩; replace HB := Lib.hid (below_next HB.out hb); replace b0 := cell_up hb b0; replace b1 := cell_up hb b1; replace b2 := cell_up hb b2; replace s0 := cell_up hb s0; replace s1 := cell_up hb s1; replace s2 := cell_up hb s2; replace s3 := cell_up hb s3; replace s4 := cell_up hb s4; replace s5 := cell_up hb s5; clear hb))
    go_ret
    exact ⟨rfl, HB.out⟩

end Go.Proofs.YtjcnjnonhncelaaDoor
