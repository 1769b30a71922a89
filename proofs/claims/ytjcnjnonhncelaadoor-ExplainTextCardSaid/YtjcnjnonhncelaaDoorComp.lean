/-
  Contracts of component.within, component.Valid, waypointref10.Valid, waypointref10.Of: what each returns, for every topology and component.
-/
import Derived.Test.YtjcnjnonhncelaaDoorOut
namespace Go.Proofs.YtjcnjnonhncelaaDoor
open Go.RowKit Go.Sort

def compOk (t : Topo) (k m : Int) : Bool :=
  if k = 1 then isN (t.ls.length : Int) m else if k = 2 then isN t.n m else if k = 3 then inR m 1 64 else false
def compV (t : Topo) (k m : Int) : Bool := valid t && compOk t k m
theorem compOk1 (t : Topo) (m : Int) : compOk t 1 m = (decide (0 ≤ m) && decide (m < (t.ls.length : Int))) := rfl
theorem compOk2 (t : Topo) (m : Int) : compOk t 2 m = isN t.n m := rfl
theorem compOk3 (t : Topo) (m : Int) : compOk t 3 m = (decide (1 ≤ m) && decide (m ≤ 64)) := rfl
theorem compOk0 {t : Topo} {k m : Int} (h1 : (k == 1) = false) (h2 : (k == 2) = false) (h3 : (k == 3) = false) : compOk t k m = false := by
  simp only [beq_eq_false_iff_ne] at *
  simp [compOk, h1, h2, h3]

set_option maxHeartbeats 1000000 in
theorem component_within (t : Topo) (A1 A2 : Option Addr) (c1 c2 : Nat) (k m : Int) (w : World) (hT : TAt w A1 A2 t) :
    Calls Tryd.prog 125 #[.agg #[.int .i64 t.n, .slice A1 t.ov.length c1, .slice A2 t.ls.length c2], .agg #[.int .i64 k, .int .i64 m]] w fun e w' => e = .returned (.bool (compOk t k m)) ∧ Below w.heap.size w w' := by
  have hb0 := below_box w (.cells #[.int .i64 t.n, .slice A1 t.ov.length c1, .slice A2 t.ls.length c2] 77)
  have hb1 := below_box (w.alloc (.cells #[.int .i64 t.n, .slice A1 t.ov.length c1, .slice A2 t.ls.length c2] 77)) (.cells #[.int .i64 k, .int .i64 m] 136)
  have HB := below_next hb0 hb1
  have HT := hT.below HB
  have b0 := cell_up hb1 (box0 w (.int .i64 t.n) (.slice A1 t.ov.length c1) (.slice A2 t.ls.length c2) 77)
  have b1 := cell_up hb1 (box1 w (.int .i64 t.n) (.slice A1 t.ov.length c1) (.slice A2 t.ls.length c2) 77)
  have b2 := cell_up hb1 (box2 w (.int .i64 t.n) (.slice A1 t.ov.length c1) (.slice A2 t.ls.length c2) 77)
  have s0 : ((w.alloc (.cells #[.int .i64 t.n, .slice A1 t.ov.length c1, .slice A2 t.ls.length c2] 77)).alloc (.cells #[.int .i64 k, .int .i64 m] 136)).cell? ⟨w.heap.size + 1, 0, none⟩ = some (.int .i64 k) := by simp
  have s1 : ((w.alloc (.cells #[.int .i64 t.n, .slice A1 t.ov.length c1, .slice A2 t.ls.length c2] 77)).alloc (.cells #[.int .i64 k, .int .i64 m] 136)).cell? ⟨w.heap.size + 1, 1, none⟩ = some (.int .i64 m) := by simp
  clear hb0 hb1 hT
  cases h1 : (k == 1) with
  | true =>
    obtain rfl : k = 1 := by simpa using h1
    have HR := Lib.hid (compOk1 t m)
    clear h1
    cases g1 : decide (0 ≤ m) <;> cases g2 : decide (m < (t.ls.length : Int)) <;>
    (go_enter Tryd.func125, Tryd.ntmps125
     go_wp2_with fail
     first
       | (go_ret; exact ⟨by rw [HR.out, g1, g2]; rfl, HB⟩)
       | (go_quiet (fail); go_wp2_with fail; go_ret; exact ⟨by rw [HR.out, g1, g2]; rfl, below_drw HB _⟩))
  | false =>
    cases h2 : (k == 2) with
    | true =>
      obtain rfl : k = 2 := by simpa using h2
      have HR := Lib.hid (compOk2 t m)
      clear h1 h2
      go_enter Tryd.func125, Tryd.ntmps125
      go_wp2_with (go_at_call 103; refine (graph_Node _ _ _ _ _).mono ?_; rintro e w1 ⟨rfl, hb⟩; replace HT := HT.below hb; replace b0 := cell_up hb b0; replace b1 := cell_up hb b1; replace b2 := cell_up hb b2; replace s0 := cell_up hb s0; replace s1 := cell_up hb s1; replace HB := below_next HB hb; clear hb)
      go_ret
      exact ⟨by rw [HR.out]; rfl, HB⟩
    | false =>
      cases h3 : (k == 3) with
      | true =>
        obtain rfl : k = 3 := by simpa using h3
        have HR := Lib.hid (compOk3 t m)
        clear h1 h2 h3
        cases g1 : decide (1 ≤ m) <;> cases g2 : decide (m ≤ 64) <;>
        (go_enter Tryd.func125, Tryd.ntmps125
         go_wp2_with fail
         first
           | (go_ret; exact ⟨by rw [HR.out, g1, g2]; rfl, HB⟩)
           | (go_quiet (fail); go_wp2_with fail; go_ret; exact ⟨by rw [HR.out, g1, g2]; rfl, below_drw HB _⟩))
      | false =>
        have HR := Lib.hid (compOk0 (t := t) (m := m) h1 h2 h3)
        go_enter Tryd.func125, Tryd.ntmps125
        go_wp2_with fail
        go_ret
        exact ⟨by rw [HR.out]; rfl, HB⟩

theorem component_Valid (t : Topo) (A1 A2 : Option Addr) (c1 c2 : Nat) (k m : Int) (w : World) (hT : TAt w A1 A2 t) :
    Calls Tryd.prog 102 #[.agg #[.int .i64 t.n, .slice A1 t.ov.length c1, .slice A2 t.ls.length c2], .agg #[.int .i64 k, .int .i64 m]] w fun e w' => e = .returned (.bool (compV t k m)) ∧ Below w.heap.size w w' := by
  have hb0 := below_box w (.cells #[.int .i64 t.n, .slice A1 t.ov.length c1, .slice A2 t.ls.length c2] 77)
  have hb1 := below_box (w.alloc (.cells #[.int .i64 t.n, .slice A1 t.ov.length c1, .slice A2 t.ls.length c2] 77)) (.cells #[.int .i64 k, .int .i64 m] 136)
  have HB := below_next hb0 hb1
  have HT := hT.below HB
  have b0 := cell_up hb1 (box0 w (.int .i64 t.n) (.slice A1 t.ov.length c1) (.slice A2 t.ls.length c2) 77)
  have b1 := cell_up hb1 (box1 w (.int .i64 t.n) (.slice A1 t.ov.length c1) (.slice A2 t.ls.length c2) 77)
  have b2 := cell_up hb1 (box2 w (.int .i64 t.n) (.slice A1 t.ov.length c1) (.slice A2 t.ls.length c2) 77)
  have s0 : ((w.alloc (.cells #[.int .i64 t.n, .slice A1 t.ov.length c1, .slice A2 t.ls.length c2] 77)).alloc (.cells #[.int .i64 k, .int .i64 m] 136)).cell? ⟨w.heap.size + 1, 0, none⟩ = some (.int .i64 k) := by simp
  have s1 : ((w.alloc (.cells #[.int .i64 t.n, .slice A1 t.ov.length c1, .slice A2 t.ls.length c2] 77)).alloc (.cells #[.int .i64 k, .int .i64 m] 136)).cell? ⟨w.heap.size + 1, 1, none⟩ = some (.int .i64 m) := by simp
  clear hb0 hb1 hT
  cases hv : valid t with
  | false =>
    have HR : Hid (compV t k m = false) := Lib.hid (by simp [compV, hv])
    go_enter Tryd.func102, Tryd.ntmps102
    go_wp2_with (go_at_call 100; refine (topology_Valid t _ _ _ _ _ HT.ls).mono ?_; rintro e w1 ⟨rfl, hb⟩; replace HT := HT.below hb; replace b0 := cell_up hb b0; replace b1 := cell_up hb b1; replace b2 := cell_up hb b2; replace s0 := cell_up hb s0; replace s1 := cell_up hb s1; replace HB := below_next HB hb; clear hb)
    go_ret
    exact ⟨by rw [HR.out]; rfl, HB⟩
  | true =>
    have HR : Hid (compV t k m = compOk t k m) := Lib.hid (by simp [compV, hv])
    go_enter Tryd.func102, Tryd.ntmps102
    go_wp2_with (first | (go_at_call 100; refine (topology_Valid t _ _ _ _ _ HT.ls).mono ?_; rintro e w1 ⟨rfl, hb⟩; replace HT := HT.below hb; replace b0 := cell_up hb b0; replace b1 := cell_up hb b1; replace b2 := cell_up hb b2; replace s0 := cell_up hb s0; replace s1 := cell_up hb s1; replace HB := below_next HB hb; clear hb) | (go_at_call 125; refine (component_within t _ _ _ _ _ _ _ HT).mono ?_; rintro e w1 ⟨rfl, hb⟩; replace HT := HT.below hb; replace b0 := cell_up hb b0; replace b1 := cell_up hb b1; replace b2 := cell_up hb b2; replace s0 := cell_up hb s0; replace s1 := cell_up hb s1; replace HB := below_next HB hb; clear hb))
    go_ret
    exact ⟨by rw [HR.out]; rfl, HB⟩

theorem cell_two_new (w : World) (x y : Value) (t : TypeId) : ∀ j u, [x, y][j]? = some u → (w.alloc (.cells #[x, y] t)).cell? ((⟨w.heap.size, 0, none⟩ : Addr).add j) = some u := by
  intro j u hj
  match j, hj with
  | 0, hj => simp at hj; subst hj; simp [Addr.add]
  | 1, hj => simp at hj; subst hj; simp [Addr.add]
  | j + 2, hj => simp at hj

/-- What the loads of a drawn region read, and what the calls need. -/
theorem TBox.keep {w w' : World} {A1 A2 : Option Addr} {c1 c2 : Nat} {t : Topo} (h : Hid (TBox w A1 A2 c1 c2 t w')) :
    w'.cell? ⟨w.heap.size, 0, none⟩ = some (.int .i64 t.n) ∧ w'.cell? ⟨w.heap.size, 1, none⟩ = some (.slice A1 t.ov.length c1) ∧ w'.cell? ⟨w.heap.size, 2, none⟩ = some (.slice A2 t.ls.length c2) ∧ Hid (TBox w A1 A2 c1 c2 t w') :=
  ⟨h.out.b0, h.out.b1, h.out.b2, h⟩
theorem below_drew1 (w : World) : Below w.heap.size w w.drew := ⟨rfl, rfl, rfl, Nat.le_refl _, fun _ _ => rfl⟩

end Go.Proofs.YtjcnjnonhncelaaDoor
