/-
  Contracts of the reference's small functions of chapter 9: the same plain functions as the program's.
  Lists of ints that a call makes: graph.Out, waypointref09.Out, In, SameInts, Has, topology.Out; what each returns, for every topology in memory.
  'append(dst, src...)': dst a row of one's own, src any list that reads as data.
-/
import Derived.Test.YtdnjflpmbnjgeaaGreatValid
import Derived.LoopTactic
set_option linter.unusedSimpArgs false
set_option linter.unusedVariables false
namespace Go.Proofs.YtdnjflpmbnjgeaaGreat
section
open Go.RowKit Go.Sort
theorem valid_of_arcs {t : Topo} {a : Int} (h0 : 0 ≤ a) (h1 : a < arcsV t) : valid t = true := by
 cases hv : valid t with
 | true => rfl
 | false => rw [arcsV_false hv] at h1; omega
theorem ref09_Arcs (t : Topo) (A1 A2 : Option Addr) (c1 c2 : Nat) (w : World) (hT : TAt w A1 A2 t) (hn : t.ls.length ≤ 100000) :
    Calls Tryz.prog 104 #[.agg #[.int .i64 t.n, .slice A1 t.ov.length c1, .slice A2 t.ls.length c2]] w fun e w' => e = .returned (.int .i64 (arcsV t)) ∧ Below w.heap.size w w' := by
 have hb0 := cQ w (.cells #[.int .i64 t.n, .slice A1 t.ov.length c1, .slice A2 t.ls.length c2] 25)
 have HT := hT.below hb0
 have HB := hb0
 have b0 := box0 w (.int .i64 t.n) (.slice A1 t.ov.length c1) (.slice A2 t.ls.length c2) 25
 have b1 := box1 w (.int .i64 t.n) (.slice A1 t.ov.length c1) (.slice A2 t.ls.length c2) 25
 have b2 := box2 w (.int .i64 t.n) (.slice A1 t.ov.length c1) (.slice A2 t.ls.length c2) 25
 clear hb0 hT
 cases hv : valid t with
 | false =>
  have HR := hU (arcsV_false hv)
  go_enter Tryz.func104, Tryz.ntmps104
  go_wp2_with (go_at_call 73; refine (dZ t _ _ _ _ _ HT.ls).mono ?_; rintro e w1 ⟨rfl, hb⟩; replace HT := HT.below hb; have zU := uU hb b0 (uU hb b1 (uU hb b2 trivial)); clear b0 b1 b2; obtain ⟨b0, b1, b2, -⟩ := zU; replace HB := bQ HB hb; clear hb)
  go_ret
  exact ⟨by rw [HR.out]; rfl, HB⟩
 | true =>
  have HR := hU (arcsV_true hv)
  go_enter Tryz.func104, Tryz.ntmps104
  go_wp2_with (go_at_call 73; refine (dZ t _ _ _ _ _ HT.ls).mono ?_; rintro e w1 ⟨rfl, hb⟩; replace HT := HT.below hb; have zU := uU hb b0 (uU hb b1 (uU hb b2 trivial)); clear b0 b1 b2; obtain ⟨b0, b1, b2, -⟩ := zU; replace HB := bQ HB hb; clear hb)
  go_ret
  exact ⟨by rw [HR.out]; rfl, HB⟩
theorem ref09_Tail (t : Topo) (A1 A2 : Option Addr) (c1 c2 : Nat) (a : Int) (w : World) (hT : TAt w A1 A2 t) (hn : t.ls.length ≤ 100000) :
    Calls Tryz.prog 76 #[.agg #[.int .i64 t.n, .slice A1 t.ov.length c1, .slice A2 t.ls.length c2], .int .i64 a] w fun e w' => e = .returned (.int .i64 (tailV t a)) ∧ Below w.heap.size w w' := by
 by_cases h0 : 0 ≤ a
 ·by_cases h1 : a < arcsV t
  ·have hv := valid_of_arcs h0 h1
   have h1' : a < 2 * (t.ls.length : Int) := by rw [arcsV_true hv] at h1; exact h1
   have HR : Hid (tailV t a = tail t a) := hU (by simp [tailV, isN_true.2 ⟨h0, h1⟩])
   have hb0 := cQ w (.cells #[.int .i64 t.n, .slice A1 t.ov.length c1, .slice A2 t.ls.length c2] 25)
   have HT := hT.below hb0
   have HB := hb0
   have b0 := box0 w (.int .i64 t.n) (.slice A1 t.ov.length c1) (.slice A2 t.ls.length c2) 25
   have b1 := box1 w (.int .i64 t.n) (.slice A1 t.ov.length c1) (.slice A2 t.ls.length c2) 25
   have b2 := box2 w (.int .i64 t.n) (.slice A1 t.ov.length c1) (.slice A2 t.ls.length c2) 25
   clear hb0 hT
   obtain ⟨b, o, rfl, hc⟩ := HT.ls.arc h0 h1'
   obtain ⟨q0, q1, q2, q3, _, _, _⟩ := hc
   have h2 : a / 2 < (t.ls.length : Int) := by omega
   have h3 : (0 : Int) ≤ a / 2 := by omega
   have d0 : decide (arcsV t ≤ a) = false := by simp; omega
   have HF : Hid (tail t a = if a % 2 = 0 then (lnk t a).a else (lnk t a).b) := hU rfl
   clear hv
   by_cases h : a % 2 = 0
   ·have HF2 := hU (HF.out.trans (if_pos h)); clear HF
    have h' : (a % 2 == 0) = true := by simp [h]
    go_enter Tryz.func76, Tryz.ntmps76
    go_wp2_with (go_at_call 104; refine (ref09_Arcs t _ _ _ _ _ HT hn).mono ?_; rintro e w1 ⟨rfl, hb⟩; have zU := uU hb b2 (uU hb q0 (uU hb q1 (uU hb q2 (uU hb q3 trivial)))); clear b2 q0 q1 q2 q3; obtain ⟨b2, q0, q1, q2, q3, -⟩ := zU; replace HB := bQ HB hb; clear hb)
    go_ret
    exact ⟨by rw [HR.out, HF2.out]; rfl, HB⟩
   ·have HF2 := hU (HF.out.trans (if_neg h)); clear HF
    have h' : (a % 2 == 0) = false := by simp [h]
    have h'' : a % 2 = 1 := by omega
    clear h
    go_enter Tryz.func76, Tryz.ntmps76
    go_wp2_with (go_at_call 104; refine (ref09_Arcs t _ _ _ _ _ HT hn).mono ?_; rintro e w1 ⟨rfl, hb⟩; have zU := uU hb b2 (uU hb q0 (uU hb q1 (uU hb q2 (uU hb q3 trivial)))); clear b2 q0 q1 q2 q3; obtain ⟨b2, q0, q1, q2, q3, -⟩ := zU; replace HB := bQ HB hb; clear hb)
    go_ret
    exact ⟨by rw [HR.out, HF2.out]; rfl, HB⟩
  ·have HR : Hid (tailV t a = -1) := hU (by simp [tailV, isN_false.2 (fun h => h1 h.2)])
   have d0 : decide (arcsV t ≤ a) = true := by simp; omega
   have hb0 := cQ w (.cells #[.int .i64 t.n, .slice A1 t.ov.length c1, .slice A2 t.ls.length c2] 25)
   have HT := hT.below hb0
   have HB := hb0
   have b0 := box0 w (.int .i64 t.n) (.slice A1 t.ov.length c1) (.slice A2 t.ls.length c2) 25
   have b1 := box1 w (.int .i64 t.n) (.slice A1 t.ov.length c1) (.slice A2 t.ls.length c2) 25
   have b2 := box2 w (.int .i64 t.n) (.slice A1 t.ov.length c1) (.slice A2 t.ls.length c2) 25
   clear hb0 hT
   go_enter Tryz.func76, Tryz.ntmps76
   go_wp2_with (go_at_call 104; refine (ref09_Arcs t _ _ _ _ _ HT hn).mono ?_; rintro e w1 ⟨rfl, hb⟩; replace HT := HT.below hb; have zU := uU hb b0 (uU hb b1 (uU hb b2 trivial)); clear b0 b1 b2; obtain ⟨b0, b1, b2, -⟩ := zU; replace HB := bQ HB hb; clear hb)
   go_ret
   exact ⟨by rw [HR.out]; rfl, HB⟩
 ·have HR : Hid (tailV t a = -1) := hU (by simp [tailV, isN_false.2 (fun h => h0 h.1)])
  have hb0 := cQ w (.cells #[.int .i64 t.n, .slice A1 t.ov.length c1, .slice A2 t.ls.length c2] 25)
  have HT := hT.below hb0
  have HB := hb0
  have b0 := box0 w (.int .i64 t.n) (.slice A1 t.ov.length c1) (.slice A2 t.ls.length c2) 25
  have b1 := box1 w (.int .i64 t.n) (.slice A1 t.ov.length c1) (.slice A2 t.ls.length c2) 25
  have b2 := box2 w (.int .i64 t.n) (.slice A1 t.ov.length c1) (.slice A2 t.ls.length c2) 25
  clear hb0 hT
  go_enter Tryz.func76, Tryz.ntmps76
  go_wp2_with fail
  go_ret
  exact ⟨by rw [HR.out]; rfl, HB⟩
theorem ref09_Cost (t : Topo) (A1 A2 : Option Addr) (c1 c2 : Nat) (a : Int) (w : World) (hT : TAt w A1 A2 t) (hn : t.ls.length ≤ 100000) :
    Calls Tryz.prog 122 #[.agg #[.int .i64 t.n, .slice A1 t.ov.length c1, .slice A2 t.ls.length c2], .int .i64 a] w fun e w' => e = .returned (.int .i64 (costV t a)) ∧ Below w.heap.size w w' := by
 by_cases h0 : 0 ≤ a
 ·by_cases h1 : a < arcsV t
  ·have hv := valid_of_arcs h0 h1
   have h1' : a < 2 * (t.ls.length : Int) := by rw [arcsV_true hv] at h1; exact h1
   have HR : Hid (costV t a = cost t a) := hU (by simp [costV, isN_true.2 ⟨h0, h1⟩])
   have hb0 := cQ w (.cells #[.int .i64 t.n, .slice A1 t.ov.length c1, .slice A2 t.ls.length c2] 25)
   have HT := hT.below hb0
   have HB := hb0
   have b0 := box0 w (.int .i64 t.n) (.slice A1 t.ov.length c1) (.slice A2 t.ls.length c2) 25
   have b1 := box1 w (.int .i64 t.n) (.slice A1 t.ov.length c1) (.slice A2 t.ls.length c2) 25
   have b2 := box2 w (.int .i64 t.n) (.slice A1 t.ov.length c1) (.slice A2 t.ls.length c2) 25
   clear hb0 hT
   obtain ⟨b, o, rfl, hc⟩ := HT.ls.arc h0 h1'
   obtain ⟨q0, q1, q2, q3, _, _, _⟩ := hc
   have h2 : a / 2 < (t.ls.length : Int) := by omega
   have h3 : (0 : Int) ≤ a / 2 := by omega
   have d0 : decide (arcsV t ≤ a) = false := by simp; omega
   have HF : Hid (cost t a = if a % 2 = 0 then (lnk t a).c0 else (lnk t a).c1) := hU rfl
   clear hv
   by_cases h : a % 2 = 0
   ·have HF2 := hU (HF.out.trans (if_pos h)); clear HF
    have h' : (a % 2 == 0) = true := by simp [h]
    go_enter Tryz.func122, Tryz.ntmps122
    go_wp2_with (go_at_call 104; refine (ref09_Arcs t _ _ _ _ _ HT hn).mono ?_; rintro e w1 ⟨rfl, hb⟩; have zU := uU hb b2 (uU hb q0 (uU hb q1 (uU hb q2 (uU hb q3 trivial)))); clear b2 q0 q1 q2 q3; obtain ⟨b2, q0, q1, q2, q3, -⟩ := zU; replace HB := bQ HB hb; clear hb)
    go_ret
    exact ⟨by rw [HR.out, HF2.out]; rfl, HB⟩
   ·have HF2 := hU (HF.out.trans (if_neg h)); clear HF
    have h' : (a % 2 == 0) = false := by simp [h]
    have h'' : a % 2 = 1 := by omega
    clear h
    go_enter Tryz.func122, Tryz.ntmps122
    go_wp2_with (go_at_call 104; refine (ref09_Arcs t _ _ _ _ _ HT hn).mono ?_; rintro e w1 ⟨rfl, hb⟩; have zU := uU hb b2 (uU hb q0 (uU hb q1 (uU hb q2 (uU hb q3 trivial)))); clear b2 q0 q1 q2 q3; obtain ⟨b2, q0, q1, q2, q3, -⟩ := zU; replace HB := bQ HB hb; clear hb)
    go_ret
    exact ⟨by rw [HR.out, HF2.out]; rfl, HB⟩
  ·have HR : Hid (costV t a = -1) := hU (by simp [costV, isN_false.2 (fun h => h1 h.2)])
   have d0 : decide (arcsV t ≤ a) = true := by simp; omega
   have hb0 := cQ w (.cells #[.int .i64 t.n, .slice A1 t.ov.length c1, .slice A2 t.ls.length c2] 25)
   have HT := hT.below hb0
   have HB := hb0
   have b0 := box0 w (.int .i64 t.n) (.slice A1 t.ov.length c1) (.slice A2 t.ls.length c2) 25
   have b1 := box1 w (.int .i64 t.n) (.slice A1 t.ov.length c1) (.slice A2 t.ls.length c2) 25
   have b2 := box2 w (.int .i64 t.n) (.slice A1 t.ov.length c1) (.slice A2 t.ls.length c2) 25
   clear hb0 hT
   go_enter Tryz.func122, Tryz.ntmps122
   go_wp2_with (go_at_call 104; refine (ref09_Arcs t _ _ _ _ _ HT hn).mono ?_; rintro e w1 ⟨rfl, hb⟩; replace HT := HT.below hb; have zU := uU hb b0 (uU hb b1 (uU hb b2 trivial)); clear b0 b1 b2; obtain ⟨b0, b1, b2, -⟩ := zU; replace HB := bQ HB hb; clear hb)
   go_ret
   exact ⟨by rw [HR.out]; rfl, HB⟩
 ·have HR : Hid (costV t a = -1) := hU (by simp [costV, isN_false.2 (fun h => h0 h.1)])
  have hb0 := cQ w (.cells #[.int .i64 t.n, .slice A1 t.ov.length c1, .slice A2 t.ls.length c2] 25)
  have HT := hT.below hb0
  have HB := hb0
  have b0 := box0 w (.int .i64 t.n) (.slice A1 t.ov.length c1) (.slice A2 t.ls.length c2) 25
  have b1 := box1 w (.int .i64 t.n) (.slice A1 t.ov.length c1) (.slice A2 t.ls.length c2) 25
  have b2 := box2 w (.int .i64 t.n) (.slice A1 t.ov.length c1) (.slice A2 t.ls.length c2) 25
  clear hb0 hT
  go_enter Tryz.func122, Tryz.ntmps122
  go_wp2_with fail
  go_ret
  exact ⟨by rw [HR.out]; rfl, HB⟩
theorem twin_arc {a : Int} (h0 : 0 ≤ a) {n : Int} (h1 : a < 2 * n) : 0 ≤ a / 2 * 2 + 1 - a % 2 ∧ a / 2 * 2 + 1 - a % 2 < 2 * n := by omega
theorem twin_tail (t : Topo) {a : Int} : tail t (a / 2 * 2 + 1 - a % 2) = fZ t a := by
 by_cases h : a % 2 = 0
 ·rw [show a / 2 * 2 + 1 - a % 2 = a + 1 from by omega]
  have e : (a + 1) / 2 = a / 2 := by omega
  have e2 : ¬ (a + 1) % 2 = 0 := by omega
  simp [tail, fZ, lnk, e, h, e2]
 ·rw [show a / 2 * 2 + 1 - a % 2 = a - 1 from by omega]
  have e : (a - 1) / 2 = a / 2 := by omega
  have e2 : (a - 1) % 2 = 0 := by omega
  simp [tail, fZ, lnk, e, h, e2]
theorem ref09_Head (t : Topo) (A1 A2 : Option Addr) (c1 c2 : Nat) (a : Int) (w : World) (hT : TAt w A1 A2 t) (hn : t.ls.length ≤ 100000) :
    Calls Tryz.prog 105 #[.agg #[.int .i64 t.n, .slice A1 t.ov.length c1, .slice A2 t.ls.length c2], .int .i64 a] w fun e w' => e = .returned (.int .i64 (headV t a)) ∧ Below w.heap.size w w' := by
 by_cases h0 : 0 ≤ a
 ·by_cases h1 : a < arcsV t
  ·have hv := valid_of_arcs h0 h1
   have h1' : a < 2 * (t.ls.length : Int) := by rw [arcsV_true hv] at h1; exact h1
   obtain ⟨g0, g1⟩ := twin_arc h0 h1'
   have HR : Hid (headV t a = tailV t (a / 2 * 2 + 1 - a % 2)) := hU (by simp only [headV, tailV, isN_true.2 ⟨h0, h1'⟩, if_true, arcsV_true hv, isN_true.2 ⟨g0, g1⟩, twin_tail t])
   have d0 : decide (arcsV t ≤ a) = false := by simp; omega
   have hb0 := cQ w (.cells #[.int .i64 t.n, .slice A1 t.ov.length c1, .slice A2 t.ls.length c2] 25)
   have HT := hT.below hb0
   have HB := hb0
   have b0 := box0 w (.int .i64 t.n) (.slice A1 t.ov.length c1) (.slice A2 t.ls.length c2) 25
   have b1 := box1 w (.int .i64 t.n) (.slice A1 t.ov.length c1) (.slice A2 t.ls.length c2) 25
   have b2 := box2 w (.int .i64 t.n) (.slice A1 t.ov.length c1) (.slice A2 t.ls.length c2) 25
   clear hb0 hT
   clear hv
   go_enter Tryz.func105, Tryz.ntmps105
   go_wp2_with (first | (go_at_call 104; refine (ref09_Arcs t _ _ _ _ _ HT hn).mono ?_; rintro e w1 ⟨rfl, hb⟩; replace HT := HT.below hb; have zU := uU hb b0 (uU hb b1 (uU hb b2 trivial)); clear b0 b1 b2; obtain ⟨b0, b1, b2, -⟩ := zU; replace HB := bQ HB hb; clear hb) | (go_at_call 76; refine (ref09_Tail t _ _ _ _ _ _ HT hn).mono ?_; rintro e w1 ⟨rfl, hb⟩; replace HT := HT.below hb; have zU := uU hb b0 (uU hb b1 (uU hb b2 trivial)); clear b0 b1 b2; obtain ⟨b0, b1, b2, -⟩ := zU; replace HB := bQ HB hb; clear hb))
   go_ret
   exact ⟨by rw [HR.out]; rfl, HB⟩
  ·have HR : Hid (headV t a = -1) := hU (by simp [headV, isN_false.2 (fun h => h1 h.2)])
   have d0 : decide (arcsV t ≤ a) = true := by simp; omega
   have hb0 := cQ w (.cells #[.int .i64 t.n, .slice A1 t.ov.length c1, .slice A2 t.ls.length c2] 25)
   have HT := hT.below hb0
   have HB := hb0
   have b0 := box0 w (.int .i64 t.n) (.slice A1 t.ov.length c1) (.slice A2 t.ls.length c2) 25
   have b1 := box1 w (.int .i64 t.n) (.slice A1 t.ov.length c1) (.slice A2 t.ls.length c2) 25
   have b2 := box2 w (.int .i64 t.n) (.slice A1 t.ov.length c1) (.slice A2 t.ls.length c2) 25
   clear hb0 hT
   go_enter Tryz.func105, Tryz.ntmps105
   go_wp2_with (go_at_call 104; refine (ref09_Arcs t _ _ _ _ _ HT hn).mono ?_; rintro e w1 ⟨rfl, hb⟩; replace HT := HT.below hb; have zU := uU hb b0 (uU hb b1 (uU hb b2 trivial)); clear b0 b1 b2; obtain ⟨b0, b1, b2, -⟩ := zU; replace HB := bQ HB hb; clear hb)
   go_ret
   exact ⟨by rw [HR.out]; rfl, HB⟩
 ·have HR : Hid (headV t a = -1) := hU (by simp [headV, isN_false.2 (fun h => h0 h.1)])
  have hb0 := cQ w (.cells #[.int .i64 t.n, .slice A1 t.ov.length c1, .slice A2 t.ls.length c2] 25)
  have HT := hT.below hb0
  have HB := hb0
  have b0 := box0 w (.int .i64 t.n) (.slice A1 t.ov.length c1) (.slice A2 t.ls.length c2) 25
  have b1 := box1 w (.int .i64 t.n) (.slice A1 t.ov.length c1) (.slice A2 t.ls.length c2) 25
  have b2 := box2 w (.int .i64 t.n) (.slice A1 t.ov.length c1) (.slice A2 t.ls.length c2) 25
  clear hb0 hT
  go_enter Tryz.func105, Tryz.ntmps105
  go_wp2_with fail
  go_ret
  exact ⟨by rw [HR.out]; rfl, HB⟩
theorem ref09_Overloaded (t : Topo) (A1 A2 : Option Addr) (c1 c2 : Nat) (n : Int) (w : World) (hT : TAt w A1 A2 t) :
    Calls Tryz.prog 126 #[.agg #[.int .i64 t.n, .slice A1 t.ov.length c1, .slice A2 t.ls.length c2], .int .i64 n] w fun e w' => e = .returned (.bool (overV t n)) ∧ Below w.heap.size w w' := by
 cases hv : valid t with
 | false =>
  have hb0 := cQ w (.cells #[.int .i64 t.n, .slice A1 t.ov.length c1, .slice A2 t.ls.length c2] 25)
  have HT := hT.below hb0
  have HB := hb0
  have b0 := box0 w (.int .i64 t.n) (.slice A1 t.ov.length c1) (.slice A2 t.ls.length c2) 25
  have b1 := box1 w (.int .i64 t.n) (.slice A1 t.ov.length c1) (.slice A2 t.ls.length c2) 25
  have b2 := box2 w (.int .i64 t.n) (.slice A1 t.ov.length c1) (.slice A2 t.ls.length c2) 25
  clear hb0 hT
  have HR : Hid (overV t n = false) := hU (by simp [overV, hv])
  go_enter Tryz.func126, Tryz.ntmps126
  go_wp2_with (go_at_call 73; refine (dZ t _ _ _ _ _ HT.ls).mono ?_; rintro e w1 ⟨rfl, hb⟩; replace HT := HT.below hb; have zU := uU hb b0 (uU hb b1 (uU hb b2 trivial)); clear b0 b1 b2; obtain ⟨b0, b1, b2, -⟩ := zU; replace HB := bQ HB hb; clear hb)
  go_ret
  exact ⟨by rw [HR.out]; rfl, HB⟩
 | true =>
  by_cases h0 : 0 ≤ n
  ·by_cases h1 : n < (t.ov.length : Int)
   ·have hl : n.toNat < t.ov.length := by omega
    have hu : (t.ov.map Value.bool)[n.toNat]? = some (.bool (over t n)) := by
     simp [over, List.getElem?_eq_getElem hl, List.getD_eq_getElem?_getD]
    have hN : isN t.n n = true := by rw [isN_true]; rcases valid_ov hv with h | h <;> omega
    have HR : Hid (overV t n = over t n) := hU (by simp [overV, hN, hv])
    have hb0 := cQ w (.cells #[.int .i64 t.n, .slice A1 t.ov.length c1, .slice A2 t.ls.length c2] 25)
    have HT := hT.below hb0
    have HB := hb0
    have b0 := box0 w (.int .i64 t.n) (.slice A1 t.ov.length c1) (.slice A2 t.ls.length c2) 25
    have b1 := box1 w (.int .i64 t.n) (.slice A1 t.ov.length c1) (.slice A2 t.ls.length c2) 25
    have b2 := box2 w (.int .i64 t.n) (.slice A1 t.ov.length c1) (.slice A2 t.ls.length c2) 25
    clear hb0 hT
    obtain ⟨b, o, rfl, hc⟩ := HT.ov.at_ hu
    clear hu hN
    go_enter Tryz.func126, Tryz.ntmps126
    go_wp2_with (go_at_call 73; refine (dZ t _ _ _ _ _ HT.ls).mono ?_; rintro e w1 ⟨rfl, hb⟩; replace b1 := aQ hb b1; replace hc := aQ hb hc; replace HB := bQ HB hb; clear hb)
    go_ret
    exact ⟨by rw [HR.out]; rfl, HB⟩
   ·have HR : Hid (overV t n = false) := hU (by
     have : t.ov[n.toNat]? = none := List.getElem?_eq_none (by omega)
     simp [overV, over, List.getD_eq_getElem?_getD, this])
    have hb0 := cQ w (.cells #[.int .i64 t.n, .slice A1 t.ov.length c1, .slice A2 t.ls.length c2] 25)
    have HT := hT.below hb0
    have HB := hb0
    have b0 := box0 w (.int .i64 t.n) (.slice A1 t.ov.length c1) (.slice A2 t.ls.length c2) 25
    have b1 := box1 w (.int .i64 t.n) (.slice A1 t.ov.length c1) (.slice A2 t.ls.length c2) 25
    have b2 := box2 w (.int .i64 t.n) (.slice A1 t.ov.length c1) (.slice A2 t.ls.length c2) 25
    clear hb0 hT
    go_enter Tryz.func126, Tryz.ntmps126
    go_wp2_with (go_at_call 73; refine (dZ t _ _ _ _ _ HT.ls).mono ?_; rintro e w1 ⟨rfl, hb⟩; replace HT := HT.below hb; have zU := uU hb b0 (uU hb b1 (uU hb b2 trivial)); clear b0 b1 b2; obtain ⟨b0, b1, b2, -⟩ := zU; replace HB := bQ HB hb; clear hb)
    go_ret
    exact ⟨by rw [HR.out]; rfl, HB⟩
  ·have HR : Hid (overV t n = false) := hU (by simp [overV, isN_false.2 (fun h => h0 h.1)])
   have hb0 := cQ w (.cells #[.int .i64 t.n, .slice A1 t.ov.length c1, .slice A2 t.ls.length c2] 25)
   have HT := hT.below hb0
   have HB := hb0
   have b0 := box0 w (.int .i64 t.n) (.slice A1 t.ov.length c1) (.slice A2 t.ls.length c2) 25
   have b1 := box1 w (.int .i64 t.n) (.slice A1 t.ov.length c1) (.slice A2 t.ls.length c2) 25
   have b2 := box2 w (.int .i64 t.n) (.slice A1 t.ov.length c1) (.slice A2 t.ls.length c2) 25
   clear hb0 hT
   go_enter Tryz.func126, Tryz.ntmps126
   go_wp2_with (go_at_call 73; refine (dZ t _ _ _ _ _ HT.ls).mono ?_; rintro e w1 ⟨rfl, hb⟩; replace HT := HT.below hb; have zU := uU hb b0 (uU hb b1 (uU hb b2 trivial)); clear b0 b1 b2; obtain ⟨b0, b1, b2, -⟩ := zU; replace HB := bQ HB hb; clear hb)
   go_ret
   exact ⟨by rw [HR.out]; rfl, HB⟩
theorem ref09_TailT (t : Topo) (A1 A2 : Option Addr) (c1 c2 : Nat) (a : Int) (w : World) (hT : TAt w A1 A2 t) (hn : t.ls.length ≤ 100000) (hv : valid t = true) (ha : isN (2 * (t.ls.length : Int)) a = true) :
    Calls Tryz.prog 76 #[.agg #[.int .i64 t.n, .slice A1 t.ov.length c1, .slice A2 t.ls.length c2], .int .i64 a] w fun e w' => e = .returned (.int .i64 (tail t a)) ∧ Below w.heap.size w w' := by
 have h := ref09_Tail t A1 A2 c1 c2 a w hT hn
 rwa [show tailV t a = tail t a by simp [tailV, arcsV_true hv, ha]] at h
theorem ref09_HeadT (t : Topo) (A1 A2 : Option Addr) (c1 c2 : Nat) (a : Int) (w : World) (hT : TAt w A1 A2 t) (hn : t.ls.length ≤ 100000) (hv : valid t = true) (ha : isN (2 * (t.ls.length : Int)) a = true) :
    Calls Tryz.prog 105 #[.agg #[.int .i64 t.n, .slice A1 t.ov.length c1, .slice A2 t.ls.length c2], .int .i64 a] w fun e w' => e = .returned (.int .i64 (fZ t a)) ∧ Below w.heap.size w w' := by
 have h := ref09_Head t A1 A2 c1 c2 a w hT hn
 rwa [show headV t a = fZ t a by simp [headV, arcsV_true hv, ha]] at h
theorem ref09_CostT (t : Topo) (A1 A2 : Option Addr) (c1 c2 : Nat) (a : Int) (w : World) (hT : TAt w A1 A2 t) (hn : t.ls.length ≤ 100000) (hv : valid t = true) (ha : isN (2 * (t.ls.length : Int)) a = true) :
    Calls Tryz.prog 122 #[.agg #[.int .i64 t.n, .slice A1 t.ov.length c1, .slice A2 t.ls.length c2], .int .i64 a] w fun e w' => e = .returned (.int .i64 (cost t a)) ∧ Below w.heap.size w w' := by
 have h := ref09_Cost t A1 A2 c1 c2 a w hT hn
 rwa [show costV t a = cost t a by simp [costV, arcsV_true hv, ha]] at h
theorem ref09_OverloadedT (t : Topo) (A1 A2 : Option Addr) (c1 c2 : Nat) (n : Int) (w : World) (hT : TAt w A1 A2 t) (hv : valid t = true) (h0 : 0 ≤ n) (h1 : n < t.n) :
    Calls Tryz.prog 126 #[.agg #[.int .i64 t.n, .slice A1 t.ov.length c1, .slice A2 t.ls.length c2], .int .i64 n] w fun e w' => e = .returned (.bool (over t n)) ∧ Below w.heap.size w w' := by
 have h := ref09_Overloaded t A1 A2 c1 c2 n w hT
 rwa [show overV t n = over t n by simp [overV, hv, isN_true.2 ⟨h0, h1⟩]] at h
/-- A call that returns a list of ints; nothing that was there has changed. -/
def RetInts (w : World) (xs : List Int) (e : Ending) (w' : World) : Prop :=
 ∃ A c, e = .returned (.slice A xs.length c) ∧ xs.length ≤ c ∧ c ≤ maxLen ∧ Rd w' A (xs.map (Value.int .i64)) ∧ Below w.heap.size w w'
theorem rd_of_own {w : World} {base : Nat} {E : TypeId} {v : Value} {n : Nat} {xs : List Value} (h : w.ownsRow base E 1 v n xs) : ∃ A c, v = .slice A n c ∧ n ≤ c ∧ c ≤ maxLen ∧ Rd w A xs := by
 rcases h with ⟨hl, ⟨rfl, rfl⟩ | ⟨g, cap, cur, rfl, hb, hg, hnc, hcm, hs, ht⟩⟩
 ·exact ⟨none, 0, rfl, Nat.le_refl _, Nat.zero_le _, .inl (List.eq_nil_of_length_eq_zero (by simpa using hl))⟩
 ·refine ⟨some ⟨g, 0, none⟩, cap, rfl, hnc, hcm, .inr ⟨g, 0, rfl, fun j u hu => ?_⟩⟩
  have h0 : w.ownsRow base E 1 (.slice (some ⟨g, 0, none⟩) n cap) n xs := ⟨hl, .inr ⟨g, cap, cur, rfl, hb, hg, hnc, hcm, hs, ht⟩⟩
  have hj : j < n * 1 := by rw [← hl]; exact (List.getElem?_eq_some_iff.1 hu).1
  rw [Nat.zero_add, h0.cellAt j hj]; exact hu
theorem RetInts.next {w0 w w' : World} {xs : List Int} {e : Ending} (h : RetInts w xs e w') (hb : Below w0.heap.size w0 w) : RetInts w0 xs e w' := by
 obtain ⟨A, c, h0, h1, h2, h3, h4⟩ := h
 exact ⟨A, c, h0, h1, h2, h3, bQ hb h4⟩
/-- The numbers below k that pass. -/
def ups (p : Int → Bool) : Nat → List Int
 | 0 => []
 | k + 1 => if p k = true then ups p k ++ [(k : Int)] else ups p k
theorem ups_le (p : Int → Bool) : ∀ k, (ups p k).length ≤ k
 | 0 => Nat.le_refl _
 | k + 1 => by
  have := ups_le p k
  unfold ups
  split
  ·simp; omega
  ·omega
theorem ups_hit {p : Int → Bool} {k : Nat} (h : p k = true) : ups p (k + 1) = ups p k ++ [(k : Int)] := by simp [ups, h]
theorem ups_miss {p : Int → Bool} {k : Nat} (h : p k = false) : ups p (k + 1) = ups p k := by simp [ups, h]
theorem mem_ups {p : Int → Bool} {x : Int} : ∀ {k : Nat}, x ∈ ups p k ↔ 0 ≤ x ∧ x < (k : Int) ∧ p x = true
 | 0 => by simp [ups]; intro h1 h2; omega
 | k + 1 => by
  have ih := @mem_ups p x k
  unfold ups
  by_cases h : p k = true
  ·rw [if_pos h, List.mem_append, ih, List.mem_singleton]
   constructor
   ·rintro (⟨h1, h2, h3⟩ | rfl)
    ·exact ⟨h1, by omega, h3⟩
    ·exact ⟨by omega, by omega, h⟩
   ·rintro ⟨h1, h2, h3⟩
    by_cases e : x = (k : Int)
    ·exact .inr e
    ·exact .inl ⟨h1, by omega, h3⟩
  ·rw [if_neg h, ih]
   constructor
   ·rintro ⟨h1, h2, h3⟩; exact ⟨h1, by omega, h3⟩
   ·rintro ⟨h1, h2, h3⟩
    refine ⟨h1, ?_, h3⟩
    by_cases e : x = (k : Int)
    ·subst e; exact absurd h3 h
    ·omega
def outP (t : Topo) (n : Int) (a : Int) : Bool := tail t a == n
def inP (t : Topo) (n : Int) (a : Int) : Bool := fZ t a == n
theorem TBox.start {w : World} {A1 A2 : Option Addr} {t : Topo} (c1 c2 : Nat) (hT : TAt w A1 A2 t) :
    TBox w A1 A2 c1 c2 t (w.alloc (.cells #[.int .i64 t.n, .slice A1 t.ov.length c1, .slice A2 t.ls.length c2] 25)) :=
 ⟨box0 .., box1 .., box2 .., hT.below (cQ ..), cQ ..⟩
theorem intInfo : (Tryz.prog.info? 3).map (fun i => (i.zero, i.size, i.bytes)) = some (some (.int .i64 0), 1, 8) := by kernel_rfl
/-- Below a bound that may lie above the box's block. -/
theorem keep_box {w wr w' : World} {A1 A2 : Option Addr} {c1 c2 : Nat} {t : Topo} (h : TBox w A1 A2 c1 c2 t wr) (hb : Below (w.heap.size + 1) wr w') (hT : TAt w A1 A2 t) : TBox w A1 A2 c1 c2 t w' := by
 have hb' : Below w.heap.size w w' := h.hb.trans (hb.mono (by omega))
 exact ⟨(hb.cell (by simp)).trans h.b0, (hb.cell (by simp)).trans h.b1, (hb.cell (by simp)).trans h.b2, hT.below hb', hb'⟩
theorem own_up {w w' : World} {base : Nat} {E : TypeId} {size : Nat} {v : Value} {n : Nat} {xs : List Value} (h : w.ownsRow base E size v n xs) (hb : Below w.heap.size w w') : w'.ownsRow base E size v n xs := by
 rcases h with ⟨hl, h0 | ⟨g, cap, cur, hv, hB, hg, rest⟩⟩
 ·exact ⟨hl, .inl h0⟩
 ·exact ⟨hl, .inr ⟨g, cap, cur, hv, hB, (hb.block g (Array.getElem?_eq_some_iff.1 hg).1).trans hg, rest⟩⟩
/-- One append of a number. -/
theorem own_next {B : Nat} {E : TypeId} {wr w1 : World} {v v' : Value} {xs : List Int} {o : Obj} {x : Int} (hown : wr.ownsRow B E 1 v xs.length (xs.map (Value.int .i64))) (hB : B ≤ wr.heap.size)
    (h1 : w1.ownsRow B E 1 v' (xs.length + 1) (xs.map (Value.int .i64) ++ [.int .i64 x])) (hg : (wr.alloc o).grownBy w1 v.ownBlock) :
    w1.ownsRow B E 1 v' (xs ++ [x]).length ((xs ++ [x]).map (Value.int .i64)) ∧ Below B wr w1 := by
 refine ⟨by simpa using h1, ?_⟩
 exact ((Below.refl B wr).alloc hB o).grown hg (by simp; omega) (fun k hk => (hown.lt k hk).1)
theorem rQ {B : Nat} {a w : World} (h : Below B a w) (n : Nat) : Below B a (w.drewN n) := h.trans ⟨rfl, rfl, rfl, Nat.le_refl _, fun _ _ => rfl⟩
theorem ints_at {w : World} {A : Option Addr} {xs : List Int} {k : Nat} (h : Rd w A (xs.map (Value.int .i64))) (hk : k < xs.length) : ∃ b o x, A = some ⟨b, o, none⟩ ∧ xs[k]? = some x ∧ w.cell? ⟨b, o + k, none⟩ = some (.int .i64 x) := by
 obtain ⟨b, o, hA, hc⟩ := h.at_ (k := k) (u := .int .i64 xs[k]) (by simp [List.getElem?_eq_getElem hk])
 exact ⟨b, o, xs[k], hA, List.getElem?_eq_getElem hk, hc⟩
end
end Go.Proofs.YtdnjflpmbnjgeaaGreat
