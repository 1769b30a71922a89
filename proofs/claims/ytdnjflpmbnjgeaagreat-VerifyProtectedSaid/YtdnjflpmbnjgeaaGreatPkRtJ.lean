/-
  graph.Out once more: the row that it returns is of its own memory.
  Contracts of component.within, component.Valid, waypointref10.Valid, waypointref10.Of: what each returns, for every topology and component.
-/
import Derived.Test.YtdnjflpmbnjgeaaGreatPkRef
import Derived.Test.YtdnjflpmbnjgeaaGreatPkKp
set_option linter.unusedSimpArgs false
set_option linter.unusedVariables false
namespace Go.Proofs.YtdnjflpmbnjgeaaGreat
section
open Go.RowKit Go.Sort
/-- A call that returns a list of ints in memory of its own. -/
def RetIO (w : World) (xs : List Int) (e : Ending) (w' : World) : Prop :=
 ∃ v, e = .returned v ∧ w'.ownsRow (w.heap.size + 1) 3 1 v xs.length (xs.map (Value.int .i64)) ∧ Below w.heap.size w w'
set_option maxRecDepth 100000 in
set_option maxHeartbeats 1000000 in
theorem graph_OutO (t : Topo) (A1 A2 : Option Addr) (c1 c2 : Nat) (n : Int) (w : World) (hT : TAt w A1 A2 t) (hn : t.ls.length ≤ 100000) :
    Calls Tryz.prog 60 #[.agg #[.int .i64 t.n, .slice A1 t.ov.length c1, .slice A2 t.ls.length c2], .int .i64 n] w (RetIO w (ups (outP t n) (2 * t.ls.length))) := by
 obtain ⟨i0, hi, hz0, hz1, hz2⟩ := info_parts intInfo
 have hX := TBox.start c1 c2 hT
 have HT0 := hU hT
 have b0 := hX.b0
 have b1 := hX.b1
 have b2 := hX.b2
 have HX := hU hX
 clear hX hT
 go_enter Tryz.func60, Tryz.ntmps60
 go_wp2_with (go_at_call 52; refine (graph_Arcs _ _ _ _ _ _ hn).mono ?_; rintro e w1 ⟨rfl, hb1⟩)
 replace HX := hU (HX.out.up hb1)
 clear b0 b1 b2 hb1
 go_loopw [5, 9] (fun v i wr => ∃ k : Nat, k ≤ 2 * t.ls.length ∧ i = .int .i64 k ∧ wr.ownsRow (w.heap.size + 1) 3 1 v (ups (outP t n) k).length ((ups (outP t n) k).map (Value.int .i64)) ∧ Hid (TBox w A1 A2 c1 c2 t wr)) (fun _ i _ => 2 * t.ls.length - (intOf i).toNat)
 case atStart => exact ⟨0, Nat.zero_le _, rfl, World.ownsRow_nil _ _ _ _, HX⟩
 case round =>
  clear HX
  obtain ⟨k, hk, rfl, hown, HX⟩ := hrel
  have b0 := HX.out.b0
  have b1 := HX.out.b1
  have b2 := HX.out.b2
  have HO := hU hown
  clear hown
  by_cases hlt : k < 2 * t.ls.length
  ·have hlt' : (k : Int) < 2 * (t.ls.length : Int) := by omega
   have hul := ups_le (outP t n) k
   cases hp : (tail t k == n) with
   | true =>
    have HP : Hid (outP t n k = true) := hU hp
    go_wp2_with (first | (go_at_call 55; refine (graph_Tail _ _ _ _ t _ _ HX.out.ta.ls (by omega) hlt' hn).mono ?_; rintro e w1 ⟨rfl, hb1⟩; replace HX := hU (HX.out.up hb1); replace HO := hU (own_up HO.out hb1); clear hb1 b0 b1 b2) | (at_builtin; refine wpList_append_own _ rfl _ _ 63 rfl (w.heap.size + 1) 3 i0 (.int .i64 0) 1 8 Tryz.underlying63 hi hz0 hz1 hz2 rfl (by decide) _ _ _ rfl (HO.out.alloc _) ⟨_, 0, none⟩ 1 1 [.int .i64 k] rfl rfl (cell_one_new _ _ _) ?c2 ?c3 ?c4 ?c5 ?_))
    case c2 => intro u hu; simp at hu; subst hu; rfl
    case c3 => unfold maxLen; omega
    case c4 => omega
    case c5 => have := block_lt_of_cell HX.out.b0; simp; simp at this; omega
    intro v' w2 hown' hgrow _
    have hsz : w.heap.size + 1 ≤ _ := block_lt_of_cell HX.out.b0
    have R := own_next HO.out hsz hown' hgrow
    rw [← ups_hit HP.out] at R
    have HR := hU R
    clear hown' hgrow R HO
    go_wp2_with fail
    go_roundw
    case rel => exact ⟨k + 1, by omega, by go_num, HR.out.1, hU (keep_box HX.out HR.out.2 HT0.out)⟩
    case measure => simp [intOf]; omega
   | false =>
    have HP : Hid (outP t n k = false) := hU hp
    go_wp2_with (go_at_call 55; refine (graph_Tail _ _ _ _ t _ _ HX.out.ta.ls (by omega) hlt' hn).mono ?_; rintro e w1 ⟨rfl, hb1⟩; replace HX := hU (HX.out.up hb1); replace HO := hU (own_up HO.out hb1); clear hb1 b0 b1 b2)
    go_roundw
    case rel => exact ⟨k + 1, by omega, by go_num, by rw [ups_miss HP.out]; exact HO.out, HX⟩
    case measure => simp [intOf]; omega
  ·obtain rfl : k = 2 * t.ls.length := by omega
   go_wp2_with fail
   go_ret
   exact ⟨_, rfl, HO.out, HX.out.hb⟩
def compOk (t : Topo) (k m : Int) : Bool :=
 if k = 1 then isN (t.ls.length : Int) m else if k = 2 then isN t.n m else if k = 3 then inR m 1 64 else false
def gZ (t : Topo) (k m : Int) : Bool := valid t && compOk t k m
theorem compOk1 (t : Topo) (m : Int) : compOk t 1 m = (decide (0 ≤ m) && decide (m < (t.ls.length : Int))) := rfl
theorem compOk2 (t : Topo) (m : Int) : compOk t 2 m = isN t.n m := rfl
theorem compOk3 (t : Topo) (m : Int) : compOk t 3 m = (decide (1 ≤ m) && decide (m ≤ 64)) := rfl
theorem compOk0 {t : Topo} {k m : Int} (h1 : (k == 1) = false) (h2 : (k == 2) = false) (h3 : (k == 3) = false) : compOk t k m = false := by
 simp only [beq_eq_false_iff_ne] at *
 simp [compOk, h1, h2, h3]
set_option maxHeartbeats 1000000 in
theorem component_within (t : Topo) (A1 A2 : Option Addr) (c1 c2 : Nat) (k m : Int) (w : World) (hT : TAt w A1 A2 t) :
    Calls Tryz.prog 62 #[.agg #[.int .i64 t.n, .slice A1 t.ov.length c1, .slice A2 t.ls.length c2], .agg #[.int .i64 k, .int .i64 m]] w fun e w' => e = .returned (.bool (compOk t k m)) ∧ Below w.heap.size w w' := by
 have hb0 := cQ w (.cells #[.int .i64 t.n, .slice A1 t.ov.length c1, .slice A2 t.ls.length c2] 25)
 have hb1 := cQ (w.alloc (.cells #[.int .i64 t.n, .slice A1 t.ov.length c1, .slice A2 t.ls.length c2] 25)) (.cells #[.int .i64 k, .int .i64 m] 79)
 have HB := bQ hb0 hb1
 have HT := hT.below HB
 have b0 := aQ hb1 (box0 w (.int .i64 t.n) (.slice A1 t.ov.length c1) (.slice A2 t.ls.length c2) 25)
 have b1 := aQ hb1 (box1 w (.int .i64 t.n) (.slice A1 t.ov.length c1) (.slice A2 t.ls.length c2) 25)
 have b2 := aQ hb1 (box2 w (.int .i64 t.n) (.slice A1 t.ov.length c1) (.slice A2 t.ls.length c2) 25)
 have s0 : ((w.alloc (.cells #[.int .i64 t.n, .slice A1 t.ov.length c1, .slice A2 t.ls.length c2] 25)).alloc (.cells #[.int .i64 k, .int .i64 m] 79)).cell? ⟨w.heap.size + 1, 0, none⟩ = some (.int .i64 k) := by simp
 have s1 : ((w.alloc (.cells #[.int .i64 t.n, .slice A1 t.ov.length c1, .slice A2 t.ls.length c2] 25)).alloc (.cells #[.int .i64 k, .int .i64 m] 79)).cell? ⟨w.heap.size + 1, 1, none⟩ = some (.int .i64 m) := by simp
 clear hb0 hb1 hT
 cases h1 : (k == 1) with
 | true =>
  obtain rfl : k = 1 := by simpa using h1
  have HR := hU (compOk1 t m)
  clear h1
  cases g1 : decide (0 ≤ m) <;> cases g2 : decide (m < (t.ls.length : Int)) <;>
  (go_enter Tryz.func62, Tryz.ntmps62
   go_wp2_with fail
   first
    | (go_ret; exact ⟨by rw [HR.out, g1, g2]; rfl, HB⟩)
    | (go_quiet (fail); go_wp2_with fail; go_ret; exact ⟨by rw [HR.out, g1, g2]; rfl, rQ HB _⟩))
 | false =>
  cases h2 : (k == 2) with
  | true =>
   obtain rfl : k = 2 := by simpa using h2
   have HR := hU (compOk2 t m)
   clear h1 h2
   go_enter Tryz.func62, Tryz.ntmps62
   go_wp2_with (go_at_call 32; refine (cZ _ _ _ _ _).mono ?_; rintro e w1 ⟨rfl, hb⟩; replace HT := HT.below hb; have zU := uU hb b0 (uU hb b1 (uU hb b2 (uU hb s0 (uU hb s1 trivial)))); clear b0 b1 b2 s0 s1; obtain ⟨b0, b1, b2, s0, s1, -⟩ := zU; replace HB := bQ HB hb; clear hb)
   go_ret
   exact ⟨by rw [HR.out]; rfl, HB⟩
  | false =>
   cases h3 : (k == 3) with
   | true =>
    obtain rfl : k = 3 := by simpa using h3
    have HR := hU (compOk3 t m)
    clear h1 h2 h3
    cases g1 : decide (1 ≤ m) <;> cases g2 : decide (m ≤ 64) <;>
    (go_enter Tryz.func62, Tryz.ntmps62
     go_wp2_with fail
     first
      | (go_ret; exact ⟨by rw [HR.out, g1, g2]; rfl, HB⟩)
      | (go_quiet (fail); go_wp2_with fail; go_ret; exact ⟨by rw [HR.out, g1, g2]; rfl, rQ HB _⟩))
   | false =>
    have HR := hU (compOk0 (t := t) (m := m) h1 h2 h3)
    go_enter Tryz.func62, Tryz.ntmps62
    go_wp2_with fail
    go_ret
    exact ⟨by rw [HR.out]; rfl, HB⟩
theorem component_Valid (t : Topo) (A1 A2 : Option Addr) (c1 c2 : Nat) (k m : Int) (w : World) (hT : TAt w A1 A2 t) :
    Calls Tryz.prog 31 #[.agg #[.int .i64 t.n, .slice A1 t.ov.length c1, .slice A2 t.ls.length c2], .agg #[.int .i64 k, .int .i64 m]] w fun e w' => e = .returned (.bool (gZ t k m)) ∧ Below w.heap.size w w' := by
 have hb0 := cQ w (.cells #[.int .i64 t.n, .slice A1 t.ov.length c1, .slice A2 t.ls.length c2] 25)
 have hb1 := cQ (w.alloc (.cells #[.int .i64 t.n, .slice A1 t.ov.length c1, .slice A2 t.ls.length c2] 25)) (.cells #[.int .i64 k, .int .i64 m] 79)
 have HB := bQ hb0 hb1
 have HT := hT.below HB
 have b0 := aQ hb1 (box0 w (.int .i64 t.n) (.slice A1 t.ov.length c1) (.slice A2 t.ls.length c2) 25)
 have b1 := aQ hb1 (box1 w (.int .i64 t.n) (.slice A1 t.ov.length c1) (.slice A2 t.ls.length c2) 25)
 have b2 := aQ hb1 (box2 w (.int .i64 t.n) (.slice A1 t.ov.length c1) (.slice A2 t.ls.length c2) 25)
 have s0 : ((w.alloc (.cells #[.int .i64 t.n, .slice A1 t.ov.length c1, .slice A2 t.ls.length c2] 25)).alloc (.cells #[.int .i64 k, .int .i64 m] 79)).cell? ⟨w.heap.size + 1, 0, none⟩ = some (.int .i64 k) := by simp
 have s1 : ((w.alloc (.cells #[.int .i64 t.n, .slice A1 t.ov.length c1, .slice A2 t.ls.length c2] 25)).alloc (.cells #[.int .i64 k, .int .i64 m] 79)).cell? ⟨w.heap.size + 1, 1, none⟩ = some (.int .i64 m) := by simp
 clear hb0 hb1 hT
 cases hv : valid t with
 | false =>
  have HR : Hid (gZ t k m = false) := hU (by simp [gZ, hv])
  go_enter Tryz.func31, Tryz.ntmps31
  go_wp2_with (go_at_call 29; refine (topology_Valid t _ _ _ _ _ HT.ls).mono ?_; rintro e w1 ⟨rfl, hb⟩; replace HT := HT.below hb; have zU := uU hb b0 (uU hb b1 (uU hb b2 (uU hb s0 (uU hb s1 trivial)))); clear b0 b1 b2 s0 s1; obtain ⟨b0, b1, b2, s0, s1, -⟩ := zU; replace HB := bQ HB hb; clear hb)
  go_ret
  exact ⟨by rw [HR.out]; rfl, HB⟩
 | true =>
  have HR : Hid (gZ t k m = compOk t k m) := hU (by simp [gZ, hv])
  go_enter Tryz.func31, Tryz.ntmps31
  go_wp2_with (first | (go_at_call 29; refine (topology_Valid t _ _ _ _ _ HT.ls).mono ?_; rintro e w1 ⟨rfl, hb⟩; replace HT := HT.below hb; have zU := uU hb b0 (uU hb b1 (uU hb b2 (uU hb s0 (uU hb s1 trivial)))); clear b0 b1 b2 s0 s1; obtain ⟨b0, b1, b2, s0, s1, -⟩ := zU; replace HB := bQ HB hb; clear hb) | (go_at_call 62; refine (component_within t _ _ _ _ _ _ _ HT).mono ?_; rintro e w1 ⟨rfl, hb⟩; replace HT := HT.below hb; have zU := uU hb b0 (uU hb b1 (uU hb b2 (uU hb s0 (uU hb s1 trivial)))); clear b0 b1 b2 s0 s1; obtain ⟨b0, b1, b2, s0, s1, -⟩ := zU; replace HB := bQ HB hb; clear hb))
  go_ret
  exact ⟨by rw [HR.out]; rfl, HB⟩
end
end Go.Proofs.YtdnjflpmbnjgeaaGreat
