/-
  Contracts of graph.Segment, segment.Valid, segment.End, segment.Ends and of the reference's: what each returns, for every topology and segment.
-/
import Derived.Test.YtdjgpjejidajlaaDoorOut
namespace Go.Proofs.YtdjgpjejidajlaaDoor
open Go.RowKit Go.Sort

def segOk (t : Topo) (k m : Int) : Bool :=
  if k = 1 then isN t.n m else if k = 2 then isN (2 * (t.ls.length : Int)) m else if k = 3 then inR m 1 64 else if k = 4 then inR m 0 65535 else false
def segV (t : Topo) (k m : Int) : Bool := valid t && segOk t k m
theorem segOk1 (t : Topo) (m : Int) : segOk t 1 m = isN t.n m := rfl
theorem segOk2 (t : Topo) (m : Int) : segOk t 2 m = isN (2 * (t.ls.length : Int)) m := rfl
theorem segOk3 (t : Topo) (m : Int) : segOk t 3 m = inR m 1 64 := rfl
theorem segOk4 (t : Topo) (m : Int) : segOk t 4 m = inR m 0 65535 := rfl
theorem segOk0 {t : Topo} {k m : Int} (h1 : (k == 1) = false) (h2 : (k == 2) = false) (h3 : (k == 3) = false) (h4 : (k == 4) = false) : segOk t k m = false := by
  simp only [beq_eq_false_iff_ne] at *
  simp [segOk, h1, h2, h3, h4]

theorem pair0 (w : World) (x y : Value) (T : TypeId) : (w.alloc (.cells #[x, y] T)).cell? ⟨w.heap.size, 0, none⟩ = some x := by simp
theorem pair1 (w : World) (x y : Value) (T : TypeId) : (w.alloc (.cells #[x, y] T)).cell? ⟨w.heap.size, 1, none⟩ = some y := by simp

set_option maxHeartbeats 1000000 in
theorem graph_Segment (t : Topo) (A1 A2 : Option Addr) (c1 c2 : Nat) (k m : Int) (w : World) (hn : t.ls.length ≤ 100000) :
    Calls Tryd.prog 66 #[.agg #[.int .i64 t.n, .slice A1 t.ov.length c1, .slice A2 t.ls.length c2], .agg #[.int .i64 k, .int .i64 m]] w fun e w' => e = .returned (.bool (segOk t k m)) ∧ Below w.heap.size w w' := by
  have HB : Below w.heap.size w ((w.alloc (.cells #[.int .i64 t.n, .slice A1 t.ov.length c1, .slice A2 t.ls.length c2] 40)).alloc (.cells #[.int .i64 k, .int .i64 m] 23)) := below_next (below_box w _) (below_box _ _)
  cases h1 : (k == 1) with
  | true =>
    obtain rfl : k = 1 := by simpa using h1
    have HR := Lib.hid (segOk1 t m)
    clear h1
    go_enter Tryd.func66, Tryd.ntmps66
    go_wp2_with (go_at_call 47; refine (graph_Node _ _ _ _ _).mono ?_; rintro e w1 ⟨rfl, hb⟩)
    go_ret
    exact ⟨by rw [HR.out]; rfl, below_next HB hb⟩
  | false =>
    cases h2 : (k == 2) with
    | true =>
      obtain rfl : k = 2 := by simpa using h2
      have HR := Lib.hid (segOk2 t m)
      clear h1 h2
      go_enter Tryd.func66, Tryd.ntmps66
      go_wp2_with (go_at_call 57; refine (graph_Arc _ _ _ _ _ _ _ hn).mono ?_; rintro e w1 ⟨rfl, hb⟩)
      go_ret
      exact ⟨by rw [HR.out]; rfl, below_next HB hb⟩
    | false =>
      cases h3 : (k == 3) with
      | true =>
        obtain rfl : k = 3 := by simpa using h3
        have HR := Lib.hid (segOk3 t m)
        clear h1 h2 h3
        cases g1 : decide (1 ≤ m) <;> cases g2 : decide (m ≤ 64) <;>
        (go_enter Tryd.func66, Tryd.ntmps66
         go_wp2_with fail
         first
           | (go_ret; exact ⟨by rw [HR.out]; simp [g1, g2, inR], HB⟩)
           | (go_quiet (fail); go_wp2_with fail; go_ret; exact ⟨by rw [HR.out]; simp [g1, g2, inR], below_drw HB _⟩))
      | false =>
        cases h4 : (k == 4) with
        | true =>
          obtain rfl : k = 4 := by simpa using h4
          have HR := Lib.hid (segOk4 t m)
          clear h1 h2 h3 h4
          cases g1 : decide (0 ≤ m) <;> cases g2 : decide (m ≤ 65535) <;>
          (go_enter Tryd.func66, Tryd.ntmps66
           go_wp2_with fail
           first
             | (go_ret; exact ⟨by rw [HR.out]; simp [g1, g2, inR], HB⟩)
             | (go_quiet (fail); go_wp2_with fail; go_ret; exact ⟨by rw [HR.out]; simp [g1, g2, inR], below_drw HB _⟩))
        | false =>
          have HR := Lib.hid (segOk0 (t := t) (m := m) h1 h2 h3 h4)
          go_enter Tryd.func66, Tryd.ntmps66
          go_wp2_with fail
          go_ret
          exact ⟨by rw [HR.out]; rfl, HB⟩

theorem segment_Valid (t : Topo) (A1 A2 : Option Addr) (c1 c2 : Nat) (k m : Int) (w : World) (hT : TAt w A1 A2 t) (hn : t.ls.length ≤ 100000) :
    Calls Tryd.prog 46 #[.agg #[.int .i64 t.n, .slice A1 t.ov.length c1, .slice A2 t.ls.length c2], .agg #[.int .i64 k, .int .i64 m]] w fun e w' => e = .returned (.bool (segV t k m)) ∧ Below w.heap.size w w' := by
  have hb0 := below_box w (.cells #[.int .i64 t.n, .slice A1 t.ov.length c1, .slice A2 t.ls.length c2] 40)
  have hb1 := below_box (w.alloc (.cells #[.int .i64 t.n, .slice A1 t.ov.length c1, .slice A2 t.ls.length c2] 40)) (.cells #[.int .i64 k, .int .i64 m] 23)
  have HB := below_next hb0 hb1
  have HT := hT.below HB
  have b0 := cell_up hb1 (box0 w (.int .i64 t.n) (.slice A1 t.ov.length c1) (.slice A2 t.ls.length c2) 40)
  have b1 := cell_up hb1 (box1 w (.int .i64 t.n) (.slice A1 t.ov.length c1) (.slice A2 t.ls.length c2) 40)
  have b2 := cell_up hb1 (box2 w (.int .i64 t.n) (.slice A1 t.ov.length c1) (.slice A2 t.ls.length c2) 40)
  have s0 : ((w.alloc (.cells #[.int .i64 t.n, .slice A1 t.ov.length c1, .slice A2 t.ls.length c2] 40)).alloc (.cells #[.int .i64 k, .int .i64 m] 23)).cell? ⟨w.heap.size + 1, 0, none⟩ = some (.int .i64 k) := by simp
  have s1 : ((w.alloc (.cells #[.int .i64 t.n, .slice A1 t.ov.length c1, .slice A2 t.ls.length c2] 40)).alloc (.cells #[.int .i64 k, .int .i64 m] 23)).cell? ⟨w.heap.size + 1, 1, none⟩ = some (.int .i64 m) := by simp
  clear hb0 hb1 hT
  cases hv : valid t with
  | false =>
    have HR : Hid (segV t k m = false) := Lib.hid (by simp [segV, hv])
    go_enter Tryd.func46, Tryd.ntmps46
    go_wp2_with (go_at_call 38; refine (topology_Valid t _ _ _ _ _ HT.ls).mono ?_; rintro e w1 ⟨rfl, hb⟩; replace HT := HT.below hb; replace b0 := cell_up hb b0; replace b1 := cell_up hb b1; replace b2 := cell_up hb b2; replace s0 := cell_up hb s0; replace s1 := cell_up hb s1; replace HB := below_next HB hb; clear hb)
    go_ret
    exact ⟨by rw [HR.out]; rfl, HB⟩
  | true =>
    have HR : Hid (segV t k m = segOk t k m) := Lib.hid (by simp [segV, hv])
    go_enter Tryd.func46, Tryd.ntmps46
    go_wp2_with (first | (go_at_call 38; refine (topology_Valid t _ _ _ _ _ HT.ls).mono ?_; rintro e w1 ⟨rfl, hb⟩; replace HT := HT.below hb; replace b0 := cell_up hb b0; replace b1 := cell_up hb b1; replace b2 := cell_up hb b2; replace s0 := cell_up hb s0; replace s1 := cell_up hb s1; replace HB := below_next HB hb; clear hb) | (go_at_call 66; refine (graph_Segment t _ _ _ _ _ _ _ hn).mono ?_; rintro e w1 ⟨rfl, hb⟩; replace HT := HT.below hb; replace b0 := cell_up hb b0; replace b1 := cell_up hb b1; replace b2 := cell_up hb b2; replace s0 := cell_up hb s0; replace s1 := cell_up hb s1; replace HB := below_next HB hb; clear hb))
    go_ret
    exact ⟨by rw [HR.out]; rfl, HB⟩

theorem segV_neg {t : Topo} {k m : Int} (h : m < 0) : segV t k m = false := by
  have : segOk t k m = false := by
    unfold segOk
    repeat' split
    all_goals first | rfl | (rw [isN_false]; omega) | (rw [inR_false]; omega)
  simp [segV, this]
theorem segV1 {t : Topo} {m : Int} (hv : valid t = true) (h : 0 ≤ m) : segV t 1 m = decide (m < t.n) := by simp [segV, hv, segOk, isN, h]
theorem segV2 {t : Topo} {m : Int} (hv : valid t = true) (h : 0 ≤ m) : segV t 2 m = decide (m < 2 * (t.ls.length : Int)) := by simp [segV, hv, segOk, isN, h]
theorem segV3 {t : Topo} {m : Int} (hv : valid t = true) : segV t 3 m = (decide (1 ≤ m) && decide (m ≤ 64)) := by simp [segV, hv, segOk, inR]
theorem segV4 {t : Topo} {m : Int} (hv : valid t = true) (h : 0 ≤ m) : segV t 4 m = decide (m ≤ 65535) := by simp [segV, hv, segOk, inR, h]

end Go.Proofs.YtdjgpjejidajlaaDoor
