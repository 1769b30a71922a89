/-
  Contracts of package topology's and of the reference's small functions: number of arcs, tail, head, cost, overload marks.
-/
import Derived.Test.YthiegnkjcfdinaaDoorValid
namespace Go.Proofs.YthiegnkjcfdinaaDoor
open Go.RowKit Go.Sort

theorem topology_Arcs (t : Topo) (A1 A2 : Option Addr) (c1 c2 : Nat) (w : World) (hT : TAt w A1 A2 t) (hn : t.ls.length ≤ 100000) :
    Calls Tryd.prog 23 #[.agg #[.int .i64 t.n, .slice A1 t.ov.length c1, .slice A2 t.ls.length c2]] w fun e w' => e = .returned (.int .i64 (arcsV t)) ∧ Below w.heap.size w w' := by
  have hb0 := below_box w (.cells #[.int .i64 t.n, .slice A1 t.ov.length c1, .slice A2 t.ls.length c2] 25)
  have HT := hT.below hb0
  have HB := hb0
  have b0 := box0 w (.int .i64 t.n) (.slice A1 t.ov.length c1) (.slice A2 t.ls.length c2) 25
  have b1 := box1 w (.int .i64 t.n) (.slice A1 t.ov.length c1) (.slice A2 t.ls.length c2) 25
  have b2 := box2 w (.int .i64 t.n) (.slice A1 t.ov.length c1) (.slice A2 t.ls.length c2) 25
  clear hb0 hT
  cases hv : valid t with
  | false =>
    have HR := Lib.hid (arcsV_false hv)
    go_enter Tryd.func23, Tryd.ntmps23
    go_wp2_with (go_at_call 14; refine (topology_Valid t _ _ _ _ _ HT.ls).mono ?_; rintro e w1 ⟨rfl, hb⟩; replace HT := HT.below hb; replace b0 := cell_up hb b0; replace b1 := cell_up hb b1; replace b2 := cell_up hb b2; replace HB := below_next HB hb; clear hb)
    go_ret
    exact ⟨by rw [HR.out]; rfl, HB⟩
  | true =>
    have HR := Lib.hid (arcsV_true hv)
    go_enter Tryd.func23, Tryd.ntmps23
    go_wp2_with (first | (go_at_call 14; refine (topology_Valid t _ _ _ _ _ HT.ls).mono ?_; rintro e w1 ⟨rfl, hb⟩; replace HT := HT.below hb; replace b0 := cell_up hb b0; replace b1 := cell_up hb b1; replace b2 := cell_up hb b2; replace HB := below_next HB hb; clear hb) | (go_at_call 48; refine (graph_Arcs _ _ _ _ _ _ hn).mono ?_; rintro e w1 ⟨rfl, hb⟩; replace HT := HT.below hb; replace b0 := cell_up hb b0; replace b1 := cell_up hb b1; replace b2 := cell_up hb b2; replace HB := below_next HB hb; clear hb))
    go_ret
    exact ⟨by rw [HR.out]; rfl, HB⟩

theorem topology_Tail (t : Topo) (A1 A2 : Option Addr) (c1 c2 : Nat) (a : Int) (w : World) (hT : TAt w A1 A2 t) (hn : t.ls.length ≤ 100000) :
    Calls Tryd.prog 17 #[.agg #[.int .i64 t.n, .slice A1 t.ov.length c1, .slice A2 t.ls.length c2], .int .i64 a] w fun e w' => e = .returned (.int .i64 (tailV t a)) ∧ Below w.heap.size w w' := by
  have hb0 := below_box w (.cells #[.int .i64 t.n, .slice A1 t.ov.length c1, .slice A2 t.ls.length c2] 25)
  have HT := hT.below hb0
  have HB := hb0
  have b0 := box0 w (.int .i64 t.n) (.slice A1 t.ov.length c1) (.slice A2 t.ls.length c2) 25
  have b1 := box1 w (.int .i64 t.n) (.slice A1 t.ov.length c1) (.slice A2 t.ls.length c2) 25
  have b2 := box2 w (.int .i64 t.n) (.slice A1 t.ov.length c1) (.slice A2 t.ls.length c2) 25
  clear hb0 hT
  cases hv : valid t with
  | false =>
    have HR : Hid (tailV t a = -1) := Lib.hid (by simp [tailV, arcsV_false hv, isN_zero])
    go_enter Tryd.func17, Tryd.ntmps17
    go_wp2_with (go_at_call 14; refine (topology_Valid t _ _ _ _ _ HT.ls).mono ?_; rintro e w1 ⟨rfl, hb⟩; replace HT := HT.below hb; replace b0 := cell_up hb b0; replace b1 := cell_up hb b1; replace b2 := cell_up hb b2; replace HB := below_next HB hb; clear hb)
    go_ret
    exact ⟨by rw [HR.out]; rfl, HB⟩
  | true =>
    cases ha : isN (2 * (t.ls.length : Int)) a with
    | false =>
      have HR : Hid (tailV t a = -1) := Lib.hid (by simp [tailV, arcsV_true hv, ha])
      go_enter Tryd.func17, Tryd.ntmps17
      go_wp2_with (first | (go_at_call 14; refine (topology_Valid t _ _ _ _ _ HT.ls).mono ?_; rintro e w1 ⟨rfl, hb⟩; replace HT := HT.below hb; replace b0 := cell_up hb b0; replace b1 := cell_up hb b1; replace b2 := cell_up hb b2; replace HB := below_next HB hb; clear hb) | (go_at_call 35; refine (graph_Arc _ _ _ _ _ _ _ hn).mono ?_; rintro e w1 ⟨rfl, hb⟩; replace HT := HT.below hb; replace b0 := cell_up hb b0; replace b1 := cell_up hb b1; replace b2 := cell_up hb b2; replace HB := below_next HB hb; clear hb))
      go_ret
      exact ⟨by rw [HR.out]; rfl, HB⟩
    | true =>
      have HR : Hid (tailV t a = tail t a) := Lib.hid (by simp [tailV, arcsV_true hv, ha])
      obtain ⟨h0, h1⟩ := isN_true.1 ha
      go_enter Tryd.func17, Tryd.ntmps17
      go_wp2_with (first | (go_at_call 14; refine (topology_Valid t _ _ _ _ _ HT.ls).mono ?_; rintro e w1 ⟨rfl, hb⟩; replace HT := HT.below hb; replace b0 := cell_up hb b0; replace b1 := cell_up hb b1; replace b2 := cell_up hb b2; replace HB := below_next HB hb; clear hb) | (go_at_call 35; refine (graph_Arc _ _ _ _ _ _ _ hn).mono ?_; rintro e w1 ⟨rfl, hb⟩; replace HT := HT.below hb; replace b0 := cell_up hb b0; replace b1 := cell_up hb b1; replace b2 := cell_up hb b2; replace HB := below_next HB hb; clear hb) | (go_at_call 36; refine (graph_Tail _ _ _ _ t _ _ HT.ls h0 h1 hn).mono ?_; rintro e w1 ⟨rfl, hb⟩; replace HT := HT.below hb; replace b0 := cell_up hb b0; replace b1 := cell_up hb b1; replace b2 := cell_up hb b2; replace HB := below_next HB hb; clear hb))
      go_ret
      exact ⟨by rw [HR.out]; rfl, HB⟩

theorem topology_Head (t : Topo) (A1 A2 : Option Addr) (c1 c2 : Nat) (a : Int) (w : World) (hT : TAt w A1 A2 t) (hn : t.ls.length ≤ 100000) :
    Calls Tryd.prog 18 #[.agg #[.int .i64 t.n, .slice A1 t.ov.length c1, .slice A2 t.ls.length c2], .int .i64 a] w fun e w' => e = .returned (.int .i64 (headV t a)) ∧ Below w.heap.size w w' := by
  have hb0 := below_box w (.cells #[.int .i64 t.n, .slice A1 t.ov.length c1, .slice A2 t.ls.length c2] 25)
  have HT := hT.below hb0
  have HB := hb0
  have b0 := box0 w (.int .i64 t.n) (.slice A1 t.ov.length c1) (.slice A2 t.ls.length c2) 25
  have b1 := box1 w (.int .i64 t.n) (.slice A1 t.ov.length c1) (.slice A2 t.ls.length c2) 25
  have b2 := box2 w (.int .i64 t.n) (.slice A1 t.ov.length c1) (.slice A2 t.ls.length c2) 25
  clear hb0 hT
  cases hv : valid t with
  | false =>
    have HR : Hid (headV t a = -1) := Lib.hid (by simp [headV, arcsV_false hv, isN_zero])
    go_enter Tryd.func18, Tryd.ntmps18
    go_wp2_with (go_at_call 14; refine (topology_Valid t _ _ _ _ _ HT.ls).mono ?_; rintro e w1 ⟨rfl, hb⟩; replace HT := HT.below hb; replace b0 := cell_up hb b0; replace b1 := cell_up hb b1; replace b2 := cell_up hb b2; replace HB := below_next HB hb; clear hb)
    go_ret
    exact ⟨by rw [HR.out]; rfl, HB⟩
  | true =>
    cases ha : isN (2 * (t.ls.length : Int)) a with
    | false =>
      have HR : Hid (headV t a = -1) := Lib.hid (by simp [headV, arcsV_true hv, ha])
      go_enter Tryd.func18, Tryd.ntmps18
      go_wp2_with (first | (go_at_call 14; refine (topology_Valid t _ _ _ _ _ HT.ls).mono ?_; rintro e w1 ⟨rfl, hb⟩; replace HT := HT.below hb; replace b0 := cell_up hb b0; replace b1 := cell_up hb b1; replace b2 := cell_up hb b2; replace HB := below_next HB hb; clear hb) | (go_at_call 35; refine (graph_Arc _ _ _ _ _ _ _ hn).mono ?_; rintro e w1 ⟨rfl, hb⟩; replace HT := HT.below hb; replace b0 := cell_up hb b0; replace b1 := cell_up hb b1; replace b2 := cell_up hb b2; replace HB := below_next HB hb; clear hb))
      go_ret
      exact ⟨by rw [HR.out]; rfl, HB⟩
    | true =>
      have HR : Hid (headV t a = head t a) := Lib.hid (by simp [headV, arcsV_true hv, ha])
      obtain ⟨h0, h1⟩ := isN_true.1 ha
      go_enter Tryd.func18, Tryd.ntmps18
      go_wp2_with (first | (go_at_call 14; refine (topology_Valid t _ _ _ _ _ HT.ls).mono ?_; rintro e w1 ⟨rfl, hb⟩; replace HT := HT.below hb; replace b0 := cell_up hb b0; replace b1 := cell_up hb b1; replace b2 := cell_up hb b2; replace HB := below_next HB hb; clear hb) | (go_at_call 35; refine (graph_Arc _ _ _ _ _ _ _ hn).mono ?_; rintro e w1 ⟨rfl, hb⟩; replace HT := HT.below hb; replace b0 := cell_up hb b0; replace b1 := cell_up hb b1; replace b2 := cell_up hb b2; replace HB := below_next HB hb; clear hb) | (go_at_call 38; refine (graph_Head _ _ _ _ t _ _ HT.ls h0 h1 hn).mono ?_; rintro e w1 ⟨rfl, hb⟩; replace HT := HT.below hb; replace b0 := cell_up hb b0; replace b1 := cell_up hb b1; replace b2 := cell_up hb b2; replace HB := below_next HB hb; clear hb))
      go_ret
      exact ⟨by rw [HR.out]; rfl, HB⟩

theorem topology_Cost (t : Topo) (A1 A2 : Option Addr) (c1 c2 : Nat) (a : Int) (w : World) (hT : TAt w A1 A2 t) (hn : t.ls.length ≤ 100000) :
    Calls Tryd.prog 27 #[.agg #[.int .i64 t.n, .slice A1 t.ov.length c1, .slice A2 t.ls.length c2], .int .i64 a] w fun e w' => e = .returned (.int .i64 (costV t a)) ∧ Below w.heap.size w w' := by
  have hb0 := below_box w (.cells #[.int .i64 t.n, .slice A1 t.ov.length c1, .slice A2 t.ls.length c2] 25)
  have HT := hT.below hb0
  have HB := hb0
  have b0 := box0 w (.int .i64 t.n) (.slice A1 t.ov.length c1) (.slice A2 t.ls.length c2) 25
  have b1 := box1 w (.int .i64 t.n) (.slice A1 t.ov.length c1) (.slice A2 t.ls.length c2) 25
  have b2 := box2 w (.int .i64 t.n) (.slice A1 t.ov.length c1) (.slice A2 t.ls.length c2) 25
  clear hb0 hT
  cases hv : valid t with
  | false =>
    have HR : Hid (costV t a = -1) := Lib.hid (by simp [costV, arcsV_false hv, isN_zero])
    go_enter Tryd.func27, Tryd.ntmps27
    go_wp2_with (go_at_call 14; refine (topology_Valid t _ _ _ _ _ HT.ls).mono ?_; rintro e w1 ⟨rfl, hb⟩; replace HT := HT.below hb; replace b0 := cell_up hb b0; replace b1 := cell_up hb b1; replace b2 := cell_up hb b2; replace HB := below_next HB hb; clear hb)
    go_ret
    exact ⟨by rw [HR.out]; rfl, HB⟩
  | true =>
    cases ha : isN (2 * (t.ls.length : Int)) a with
    | false =>
      have HR : Hid (costV t a = -1) := Lib.hid (by simp [costV, arcsV_true hv, ha])
      go_enter Tryd.func27, Tryd.ntmps27
      go_wp2_with (first | (go_at_call 14; refine (topology_Valid t _ _ _ _ _ HT.ls).mono ?_; rintro e w1 ⟨rfl, hb⟩; replace HT := HT.below hb; replace b0 := cell_up hb b0; replace b1 := cell_up hb b1; replace b2 := cell_up hb b2; replace HB := below_next HB hb; clear hb) | (go_at_call 35; refine (graph_Arc _ _ _ _ _ _ _ hn).mono ?_; rintro e w1 ⟨rfl, hb⟩; replace HT := HT.below hb; replace b0 := cell_up hb b0; replace b1 := cell_up hb b1; replace b2 := cell_up hb b2; replace HB := below_next HB hb; clear hb))
      go_ret
      exact ⟨by rw [HR.out]; rfl, HB⟩
    | true =>
      have HR : Hid (costV t a = cost t a) := Lib.hid (by simp [costV, arcsV_true hv, ha])
      obtain ⟨h0, h1⟩ := isN_true.1 ha
      go_enter Tryd.func27, Tryd.ntmps27
      go_wp2_with (first | (go_at_call 14; refine (topology_Valid t _ _ _ _ _ HT.ls).mono ?_; rintro e w1 ⟨rfl, hb⟩; replace HT := HT.below hb; replace b0 := cell_up hb b0; replace b1 := cell_up hb b1; replace b2 := cell_up hb b2; replace HB := below_next HB hb; clear hb) | (go_at_call 35; refine (graph_Arc _ _ _ _ _ _ _ hn).mono ?_; rintro e w1 ⟨rfl, hb⟩; replace HT := HT.below hb; replace b0 := cell_up hb b0; replace b1 := cell_up hb b1; replace b2 := cell_up hb b2; replace HB := below_next HB hb; clear hb) | (go_at_call 39; refine (graph_Cost _ _ _ _ t _ _ HT.ls h0 h1 hn).mono ?_; rintro e w1 ⟨rfl, hb⟩; replace HT := HT.below hb; replace b0 := cell_up hb b0; replace b1 := cell_up hb b1; replace b2 := cell_up hb b2; replace HB := below_next HB hb; clear hb))
      go_ret
      exact ⟨by rw [HR.out]; rfl, HB⟩

theorem topology_Overloaded (t : Topo) (A1 A2 : Option Addr) (c1 c2 : Nat) (n : Int) (w : World) (hT : TAt w A1 A2 t) :
    Calls Tryd.prog 13 #[.agg #[.int .i64 t.n, .slice A1 t.ov.length c1, .slice A2 t.ls.length c2], .int .i64 n] w fun e w' => e = .returned (.bool (overV t n)) ∧ Below w.heap.size w w' := by
  have hb0 := below_box w (.cells #[.int .i64 t.n, .slice A1 t.ov.length c1, .slice A2 t.ls.length c2] 25)
  have HT := hT.below hb0
  have HB := hb0
  have b0 := box0 w (.int .i64 t.n) (.slice A1 t.ov.length c1) (.slice A2 t.ls.length c2) 25
  have b1 := box1 w (.int .i64 t.n) (.slice A1 t.ov.length c1) (.slice A2 t.ls.length c2) 25
  have b2 := box2 w (.int .i64 t.n) (.slice A1 t.ov.length c1) (.slice A2 t.ls.length c2) 25
  clear hb0 hT
  cases hv : valid t with
  | false =>
    have HR : Hid (overV t n = false) := Lib.hid (by simp [overV, hv])
    go_enter Tryd.func13, Tryd.ntmps13
    go_wp2_with (go_at_call 14; refine (topology_Valid t _ _ _ _ _ HT.ls).mono ?_; rintro e w1 ⟨rfl, hb⟩; replace HT := HT.below hb; replace b0 := cell_up hb b0; replace b1 := cell_up hb b1; replace b2 := cell_up hb b2; replace HB := below_next HB hb; clear hb)
    go_ret
    exact ⟨by rw [HR.out]; rfl, HB⟩
  | true =>
    cases ha : isN t.n n with
    | false =>
      have HR : Hid (overV t n = false) := Lib.hid (by simp [overV, ha])
      go_enter Tryd.func13, Tryd.ntmps13
      go_wp2_with (first | (go_at_call 14; refine (topology_Valid t _ _ _ _ _ HT.ls).mono ?_; rintro e w1 ⟨rfl, hb⟩; replace HT := HT.below hb; replace b0 := cell_up hb b0; replace b1 := cell_up hb b1; replace b2 := cell_up hb b2; replace HB := below_next HB hb; clear hb) | (go_at_call 34; refine (graph_Node _ _ _ _ _).mono ?_; rintro e w1 ⟨rfl, hb⟩; replace HT := HT.below hb; replace b0 := cell_up hb b0; replace b1 := cell_up hb b1; replace b2 := cell_up hb b2; replace HB := below_next HB hb; clear hb))
      go_ret
      exact ⟨by rw [HR.out]; rfl, HB⟩
    | true =>
      have HR : Hid (overV t n = over t n) := Lib.hid (by simp [overV, ha, hv])
      obtain ⟨h0, h1⟩ := isN_true.1 ha
      have h2 : t.ov.length = 0 ∨ n < (t.ov.length : Int) := by rcases valid_ov hv with h | h <;> omega
      have H2 := Lib.hid h2; clear h2
      go_enter Tryd.func13, Tryd.ntmps13
      go_wp2_with (first | (go_at_call 14; refine (topology_Valid t _ _ _ _ _ HT.ls).mono ?_; rintro e w1 ⟨rfl, hb⟩; replace HT := HT.below hb; replace b0 := cell_up hb b0; replace b1 := cell_up hb b1; replace b2 := cell_up hb b2; replace HB := below_next HB hb; clear hb) | (go_at_call 34; refine (graph_Node _ _ _ _ _).mono ?_; rintro e w1 ⟨rfl, hb⟩; replace HT := HT.below hb; replace b0 := cell_up hb b0; replace b1 := cell_up hb b1; replace b2 := cell_up hb b2; replace HB := below_next HB hb; clear hb) | (go_at_call 37; refine (graph_Over _ _ _ _ t _ _ HT.ov h0 H2.out).mono ?_; rintro e w1 ⟨rfl, hb⟩; replace HT := HT.below hb; replace b0 := cell_up hb b0; replace b1 := cell_up hb b1; replace b2 := cell_up hb b2; replace HB := below_next HB hb; clear hb))
      go_ret
      exact ⟨by rw [HR.out]; rfl, HB⟩

end Go.Proofs.YthiegnkjcfdinaaDoor
