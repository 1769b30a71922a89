/-
  Events of traces: trace.valid and waypointref55.Event, and what they call.
-/
import Derived.Test.YtdnjflpmbnjgeaaGreatPkBase
namespace Go.Proofs.YtdnjflpmbnjgeaaGreat
section
open Go.RowKit Go.Sort
structure Ev where
 t : Int
 k : Int
 n : Int
 a : Int
 p : Int
 r : Int
 deriving DecidableEq, Inhabited
def onArcB (r : Int) : Bool := (r == 3) || (r == 6) || (r == 7)
def evK (k n a p r : Int) : Bool :=
 if k = 1 ∨ k = 3 then inR n 0 63 && ((a == 0) && (inR p 0 1073741824 && (r == 0)))
 else if k = 2 then inR n 0 63 && (inR a 0 511 && (inR p 0 1073741824 && (r == 0)))
 else if k = 4 then inR n 0 63 && (inR p 0 1073741824 && (inR r 1 8 && ((a == 0) || (onArcB r && inR a 0 511))))
 else if k = 5 ∨ k = 6 then (n == 0) && (inR a 1 3 && ((p == 0) && inR r 0 255))
 else if k = 7 then inR n 0 63 && (inR a 0 511 && ((p == 0) && inR r 1 2))
 else if k = 8 then inR n 0 63 && ((a == 0) && ((p == 0) && inR r 0 3))
 else if k = 9 then inR n 0 63 && (inR a 0 63 && ((p == 0) && (r == 0)))
 else false
/-- Is an event valid? -/
def evOk (e : Ev) : Bool := inR e.t 0 1073741824 && evK e.k e.n e.a e.p e.r
theorem evOk_t {e : Ev} (h : inR e.t 0 1073741824 = false) : evOk e = false := by simp [evOk, h]
theorem evOk_k {e : Ev} {b : Bool} (h : inR e.t 0 1073741824 = true) (hk : evK e.k e.n e.a e.p e.r = b) : evOk e = b := by simp [evOk, h, hk]
theorem nQ (n a b : Int) (w : World) : Calls Tryz.prog 84 #[.int .i64 n, .int .i64 a, .int .i64 b] w fun e w' => e = .returned (.bool (inR n a b)) ∧ w = w' := by
 by_cases h1 : a ≤ n
 ·by_cases h2 : n ≤ b
  ·have HR : Hid (inR n a b = true) := hU (inR_true.2 ⟨h1, h2⟩)
   go_enter Tryz.func84, Tryz.ntmps84
   go_wp2_with fail
   go_ret
   exact ⟨by rw [HR.out]; rfl, rfl⟩
  ·have HR : Hid (inR n a b = false) := hU (inR_false.2 (by omega))
   have h2' : b < n := by omega
   go_enter Tryz.func84, Tryz.ntmps84
   go_wp2_with fail
   go_ret
   exact ⟨by rw [HR.out]; rfl, rfl⟩
 ·have HR : Hid (inR n a b = false) := hU (inR_false.2 (by omega))
  have h1' : n < a := by omega
  go_enter Tryz.func84, Tryz.ntmps84
  go_wp2_with fail
  go_ret
  exact ⟨by rw [HR.out]; rfl, rfl⟩
theorem oQ (n : Int) (w : World) : Calls Tryz.prog 85 #[.int .i64 n] w fun e w' => e = .returned (.bool (inR n 0 63)) ∧ w = w' := by
 go_enter Tryz.func85, Tryz.ntmps85
 go_wp2_with (go_at_call 84; refine (nQ _ _ _ _).mono ?_; rintro e w' ⟨rfl, rfl⟩)
 go_ret
 exact ⟨rfl, rfl⟩
theorem qQ (n : Int) (w : World) : Calls Tryz.prog 87 #[.int .i64 n] w fun e w' => e = .returned (.bool (inR n 0 511)) ∧ w = w' := by
 go_enter Tryz.func87, Tryz.ntmps87
 go_wp2_with (go_at_call 84; refine (nQ _ _ _ _).mono ?_; rintro e w' ⟨rfl, rfl⟩)
 go_ret
 exact ⟨rfl, rfl⟩
theorem lQ (n : Int) (w : World) : Calls Tryz.prog 86 #[.int .i64 n] w fun e w' => e = .returned (.bool (inR n 0 1073741824)) ∧ w = w' := by
 go_enter Tryz.func86, Tryz.ntmps86
 go_wp2_with (go_at_call 84; refine (nQ _ _ _ _).mono ?_; rintro e w' ⟨rfl, rfl⟩)
 go_ret
 exact ⟨rfl, rfl⟩
theorem pQ (r : Int) (w : World) : Calls Tryz.prog 88 #[.int .i64 r] w fun e w' => e = .returned (.bool (onArcB r)) ∧ w = w' := by
 cases h1 : (r == 3) with
 | true =>
  have HR : Hid (onArcB r = true) := hU (by simp [onArcB, h1])
  go_enter Tryz.func88, Tryz.ntmps88
  go_wp2_with fail
  go_ret
  exact ⟨by rw [HR.out]; rfl, rfl⟩
 | false =>
  cases h2 : (r == 6) with
  | true =>
   have HR : Hid (onArcB r = true) := hU (by simp [onArcB, h2])
   go_enter Tryz.func88, Tryz.ntmps88
   go_wp2_with fail
   go_ret
   exact ⟨by rw [HR.out]; rfl, rfl⟩
  | false =>
   cases h3 : (r == 7) with
   | true =>
    have HR : Hid (onArcB r = true) := hU (by simp [onArcB, h3])
    go_enter Tryz.func88, Tryz.ntmps88
    go_wp2_with fail
    go_ret
    exact ⟨by rw [HR.out]; rfl, rfl⟩
   | false =>
    have HR : Hid (onArcB r = false) := hU (by simp [onArcB, h1, h2, h3])
    go_enter Tryz.func88, Tryz.ntmps88
    go_wp2_with fail
    go_ret
    exact ⟨by rw [HR.out]; rfl, rfl⟩
set_option maxRecDepth 100000 in
set_option maxHeartbeats 4000000 in
theorem valid_1 (t n a p r : Int) (ht : inR t 0 1073741824 = true) (w : World) : Calls Tryz.prog 63 #[.agg #[.int .i64 t, .int .i64 1, .int .i64 n, .int .i64 a, .int .i64 p, .int .i64 r]] w fun e w' => e = .returned (.bool (evK 1 n a p r)) ∧ Below w.heap.size w w' := by
 have HB := cQ w (.cells #[.int .i64 t, .int .i64 1, .int .i64 n, .int .i64 a, .int .i64 p, .int .i64 r] 43)
 have s0 : (w.alloc (.cells #[.int .i64 t, .int .i64 1, .int .i64 n, .int .i64 a, .int .i64 p, .int .i64 r] 43)).cell? ⟨w.heap.size, 0, none⟩ = some (.int .i64 t) := by simp
 have s1 : (w.alloc (.cells #[.int .i64 t, .int .i64 1, .int .i64 n, .int .i64 a, .int .i64 p, .int .i64 r] 43)).cell? ⟨w.heap.size, 1, none⟩ = some (.int .i64 1) := by simp
 have s2 : (w.alloc (.cells #[.int .i64 t, .int .i64 1, .int .i64 n, .int .i64 a, .int .i64 p, .int .i64 r] 43)).cell? ⟨w.heap.size, 2, none⟩ = some (.int .i64 n) := by simp
 have s3 : (w.alloc (.cells #[.int .i64 t, .int .i64 1, .int .i64 n, .int .i64 a, .int .i64 p, .int .i64 r] 43)).cell? ⟨w.heap.size, 3, none⟩ = some (.int .i64 a) := by simp
 have s4 : (w.alloc (.cells #[.int .i64 t, .int .i64 1, .int .i64 n, .int .i64 a, .int .i64 p, .int .i64 r] 43)).cell? ⟨w.heap.size, 4, none⟩ = some (.int .i64 p) := by simp
 have s5 : (w.alloc (.cells #[.int .i64 t, .int .i64 1, .int .i64 n, .int .i64 a, .int .i64 p, .int .i64 r] 43)).cell? ⟨w.heap.size, 5, none⟩ = some (.int .i64 r) := by simp
 cases c0 : (inR n 0 63) with
 | false =>
  have HR : Hid (evK 1 n a p r = false) := hU (by simp [evK, c0])
  go_enter Tryz.func63, Tryz.ntmps63
  go_wp2_with (first | (go_at_call 84; refine (nQ _ _ _ _).mono ?_; rintro e w1 ⟨rfl, rfl⟩) | (go_at_call 85; refine (oQ _ _).mono ?_; rintro e w1 ⟨rfl, rfl⟩) | (go_at_call 87; refine (qQ _ _).mono ?_; rintro e w1 ⟨rfl, rfl⟩) | (go_at_call 86; refine (lQ _ _).mono ?_; rintro e w1 ⟨rfl, rfl⟩) | (go_at_call 88; refine (pQ _ _).mono ?_; rintro e w1 ⟨rfl, rfl⟩))
  go_ret
  exact ⟨by rw [HR.out]; rfl, HB⟩
 | true =>
  cases c1 : (a == 0) with
  | false =>
   have HR : Hid (evK 1 n a p r = false) := hU (by simp [evK, c0, c1])
   go_enter Tryz.func63, Tryz.ntmps63
   go_wp2_with (first | (go_at_call 84; refine (nQ _ _ _ _).mono ?_; rintro e w1 ⟨rfl, rfl⟩) | (go_at_call 85; refine (oQ _ _).mono ?_; rintro e w1 ⟨rfl, rfl⟩) | (go_at_call 87; refine (qQ _ _).mono ?_; rintro e w1 ⟨rfl, rfl⟩) | (go_at_call 86; refine (lQ _ _).mono ?_; rintro e w1 ⟨rfl, rfl⟩) | (go_at_call 88; refine (pQ _ _).mono ?_; rintro e w1 ⟨rfl, rfl⟩))
   go_ret
   exact ⟨by rw [HR.out]; rfl, HB⟩
  | true =>
   cases c2 : (inR p 0 1073741824) with
   | false =>
    have HR : Hid (evK 1 n a p r = false) := hU (by simp [evK, c0, c1, c2])
    go_enter Tryz.func63, Tryz.ntmps63
    go_wp2_with (first | (go_at_call 84; refine (nQ _ _ _ _).mono ?_; rintro e w1 ⟨rfl, rfl⟩) | (go_at_call 85; refine (oQ _ _).mono ?_; rintro e w1 ⟨rfl, rfl⟩) | (go_at_call 87; refine (qQ _ _).mono ?_; rintro e w1 ⟨rfl, rfl⟩) | (go_at_call 86; refine (lQ _ _).mono ?_; rintro e w1 ⟨rfl, rfl⟩) | (go_at_call 88; refine (pQ _ _).mono ?_; rintro e w1 ⟨rfl, rfl⟩))
    go_ret
    exact ⟨by rw [HR.out]; rfl, HB⟩
   | true =>
    cases c3 : (r == 0) with
    | false =>
     have HR : Hid (evK 1 n a p r = false) := hU (by simp [evK, c0, c1, c2, c3])
     go_enter Tryz.func63, Tryz.ntmps63
     go_wp2_with (first | (go_at_call 84; refine (nQ _ _ _ _).mono ?_; rintro e w1 ⟨rfl, rfl⟩) | (go_at_call 85; refine (oQ _ _).mono ?_; rintro e w1 ⟨rfl, rfl⟩) | (go_at_call 87; refine (qQ _ _).mono ?_; rintro e w1 ⟨rfl, rfl⟩) | (go_at_call 86; refine (lQ _ _).mono ?_; rintro e w1 ⟨rfl, rfl⟩) | (go_at_call 88; refine (pQ _ _).mono ?_; rintro e w1 ⟨rfl, rfl⟩))
     go_ret
     exact ⟨by rw [HR.out]; rfl, HB⟩
    | true =>
     have HR : Hid (evK 1 n a p r = true) := hU (by simp [evK, c0, c1, c2, c3])
     go_enter Tryz.func63, Tryz.ntmps63
     go_wp2_with (first | (go_at_call 84; refine (nQ _ _ _ _).mono ?_; rintro e w1 ⟨rfl, rfl⟩) | (go_at_call 85; refine (oQ _ _).mono ?_; rintro e w1 ⟨rfl, rfl⟩) | (go_at_call 87; refine (qQ _ _).mono ?_; rintro e w1 ⟨rfl, rfl⟩) | (go_at_call 86; refine (lQ _ _).mono ?_; rintro e w1 ⟨rfl, rfl⟩) | (go_at_call 88; refine (pQ _ _).mono ?_; rintro e w1 ⟨rfl, rfl⟩))
     go_ret
     exact ⟨by rw [HR.out]; rfl, HB⟩
set_option maxRecDepth 100000 in
set_option maxHeartbeats 4000000 in
theorem valid_3 (t n a p r : Int) (ht : inR t 0 1073741824 = true) (w : World) : Calls Tryz.prog 63 #[.agg #[.int .i64 t, .int .i64 3, .int .i64 n, .int .i64 a, .int .i64 p, .int .i64 r]] w fun e w' => e = .returned (.bool (evK 3 n a p r)) ∧ Below w.heap.size w w' := by
 have HB := cQ w (.cells #[.int .i64 t, .int .i64 3, .int .i64 n, .int .i64 a, .int .i64 p, .int .i64 r] 43)
 have s0 : (w.alloc (.cells #[.int .i64 t, .int .i64 3, .int .i64 n, .int .i64 a, .int .i64 p, .int .i64 r] 43)).cell? ⟨w.heap.size, 0, none⟩ = some (.int .i64 t) := by simp
 have s1 : (w.alloc (.cells #[.int .i64 t, .int .i64 3, .int .i64 n, .int .i64 a, .int .i64 p, .int .i64 r] 43)).cell? ⟨w.heap.size, 1, none⟩ = some (.int .i64 3) := by simp
 have s2 : (w.alloc (.cells #[.int .i64 t, .int .i64 3, .int .i64 n, .int .i64 a, .int .i64 p, .int .i64 r] 43)).cell? ⟨w.heap.size, 2, none⟩ = some (.int .i64 n) := by simp
 have s3 : (w.alloc (.cells #[.int .i64 t, .int .i64 3, .int .i64 n, .int .i64 a, .int .i64 p, .int .i64 r] 43)).cell? ⟨w.heap.size, 3, none⟩ = some (.int .i64 a) := by simp
 have s4 : (w.alloc (.cells #[.int .i64 t, .int .i64 3, .int .i64 n, .int .i64 a, .int .i64 p, .int .i64 r] 43)).cell? ⟨w.heap.size, 4, none⟩ = some (.int .i64 p) := by simp
 have s5 : (w.alloc (.cells #[.int .i64 t, .int .i64 3, .int .i64 n, .int .i64 a, .int .i64 p, .int .i64 r] 43)).cell? ⟨w.heap.size, 5, none⟩ = some (.int .i64 r) := by simp
 cases c0 : (inR n 0 63) with
 | false =>
  have HR : Hid (evK 3 n a p r = false) := hU (by simp [evK, c0])
  go_enter Tryz.func63, Tryz.ntmps63
  go_wp2_with (first | (go_at_call 84; refine (nQ _ _ _ _).mono ?_; rintro e w1 ⟨rfl, rfl⟩) | (go_at_call 85; refine (oQ _ _).mono ?_; rintro e w1 ⟨rfl, rfl⟩) | (go_at_call 87; refine (qQ _ _).mono ?_; rintro e w1 ⟨rfl, rfl⟩) | (go_at_call 86; refine (lQ _ _).mono ?_; rintro e w1 ⟨rfl, rfl⟩) | (go_at_call 88; refine (pQ _ _).mono ?_; rintro e w1 ⟨rfl, rfl⟩))
  go_ret
  exact ⟨by rw [HR.out]; rfl, HB⟩
 | true =>
  cases c1 : (a == 0) with
  | false =>
   have HR : Hid (evK 3 n a p r = false) := hU (by simp [evK, c0, c1])
   go_enter Tryz.func63, Tryz.ntmps63
   go_wp2_with (first | (go_at_call 84; refine (nQ _ _ _ _).mono ?_; rintro e w1 ⟨rfl, rfl⟩) | (go_at_call 85; refine (oQ _ _).mono ?_; rintro e w1 ⟨rfl, rfl⟩) | (go_at_call 87; refine (qQ _ _).mono ?_; rintro e w1 ⟨rfl, rfl⟩) | (go_at_call 86; refine (lQ _ _).mono ?_; rintro e w1 ⟨rfl, rfl⟩) | (go_at_call 88; refine (pQ _ _).mono ?_; rintro e w1 ⟨rfl, rfl⟩))
   go_ret
   exact ⟨by rw [HR.out]; rfl, HB⟩
  | true =>
   cases c2 : (inR p 0 1073741824) with
   | false =>
    have HR : Hid (evK 3 n a p r = false) := hU (by simp [evK, c0, c1, c2])
    go_enter Tryz.func63, Tryz.ntmps63
    go_wp2_with (first | (go_at_call 84; refine (nQ _ _ _ _).mono ?_; rintro e w1 ⟨rfl, rfl⟩) | (go_at_call 85; refine (oQ _ _).mono ?_; rintro e w1 ⟨rfl, rfl⟩) | (go_at_call 87; refine (qQ _ _).mono ?_; rintro e w1 ⟨rfl, rfl⟩) | (go_at_call 86; refine (lQ _ _).mono ?_; rintro e w1 ⟨rfl, rfl⟩) | (go_at_call 88; refine (pQ _ _).mono ?_; rintro e w1 ⟨rfl, rfl⟩))
    go_ret
    exact ⟨by rw [HR.out]; rfl, HB⟩
   | true =>
    cases c3 : (r == 0) with
    | false =>
     have HR : Hid (evK 3 n a p r = false) := hU (by simp [evK, c0, c1, c2, c3])
     go_enter Tryz.func63, Tryz.ntmps63
     go_wp2_with (first | (go_at_call 84; refine (nQ _ _ _ _).mono ?_; rintro e w1 ⟨rfl, rfl⟩) | (go_at_call 85; refine (oQ _ _).mono ?_; rintro e w1 ⟨rfl, rfl⟩) | (go_at_call 87; refine (qQ _ _).mono ?_; rintro e w1 ⟨rfl, rfl⟩) | (go_at_call 86; refine (lQ _ _).mono ?_; rintro e w1 ⟨rfl, rfl⟩) | (go_at_call 88; refine (pQ _ _).mono ?_; rintro e w1 ⟨rfl, rfl⟩))
     go_ret
     exact ⟨by rw [HR.out]; rfl, HB⟩
    | true =>
     have HR : Hid (evK 3 n a p r = true) := hU (by simp [evK, c0, c1, c2, c3])
     go_enter Tryz.func63, Tryz.ntmps63
     go_wp2_with (first | (go_at_call 84; refine (nQ _ _ _ _).mono ?_; rintro e w1 ⟨rfl, rfl⟩) | (go_at_call 85; refine (oQ _ _).mono ?_; rintro e w1 ⟨rfl, rfl⟩) | (go_at_call 87; refine (qQ _ _).mono ?_; rintro e w1 ⟨rfl, rfl⟩) | (go_at_call 86; refine (lQ _ _).mono ?_; rintro e w1 ⟨rfl, rfl⟩) | (go_at_call 88; refine (pQ _ _).mono ?_; rintro e w1 ⟨rfl, rfl⟩))
     go_ret
     exact ⟨by rw [HR.out]; rfl, HB⟩
set_option maxRecDepth 100000 in
set_option maxHeartbeats 4000000 in
theorem valid_2 (t n a p r : Int) (ht : inR t 0 1073741824 = true) (w : World) : Calls Tryz.prog 63 #[.agg #[.int .i64 t, .int .i64 2, .int .i64 n, .int .i64 a, .int .i64 p, .int .i64 r]] w fun e w' => e = .returned (.bool (evK 2 n a p r)) ∧ Below w.heap.size w w' := by
 have HB := cQ w (.cells #[.int .i64 t, .int .i64 2, .int .i64 n, .int .i64 a, .int .i64 p, .int .i64 r] 43)
 have s0 : (w.alloc (.cells #[.int .i64 t, .int .i64 2, .int .i64 n, .int .i64 a, .int .i64 p, .int .i64 r] 43)).cell? ⟨w.heap.size, 0, none⟩ = some (.int .i64 t) := by simp
 have s1 : (w.alloc (.cells #[.int .i64 t, .int .i64 2, .int .i64 n, .int .i64 a, .int .i64 p, .int .i64 r] 43)).cell? ⟨w.heap.size, 1, none⟩ = some (.int .i64 2) := by simp
 have s2 : (w.alloc (.cells #[.int .i64 t, .int .i64 2, .int .i64 n, .int .i64 a, .int .i64 p, .int .i64 r] 43)).cell? ⟨w.heap.size, 2, none⟩ = some (.int .i64 n) := by simp
 have s3 : (w.alloc (.cells #[.int .i64 t, .int .i64 2, .int .i64 n, .int .i64 a, .int .i64 p, .int .i64 r] 43)).cell? ⟨w.heap.size, 3, none⟩ = some (.int .i64 a) := by simp
 have s4 : (w.alloc (.cells #[.int .i64 t, .int .i64 2, .int .i64 n, .int .i64 a, .int .i64 p, .int .i64 r] 43)).cell? ⟨w.heap.size, 4, none⟩ = some (.int .i64 p) := by simp
 have s5 : (w.alloc (.cells #[.int .i64 t, .int .i64 2, .int .i64 n, .int .i64 a, .int .i64 p, .int .i64 r] 43)).cell? ⟨w.heap.size, 5, none⟩ = some (.int .i64 r) := by simp
 cases c0 : (inR n 0 63) with
 | false =>
  have HR : Hid (evK 2 n a p r = false) := hU (by simp [evK, c0])
  go_enter Tryz.func63, Tryz.ntmps63
  go_wp2_with (first | (go_at_call 84; refine (nQ _ _ _ _).mono ?_; rintro e w1 ⟨rfl, rfl⟩) | (go_at_call 85; refine (oQ _ _).mono ?_; rintro e w1 ⟨rfl, rfl⟩) | (go_at_call 87; refine (qQ _ _).mono ?_; rintro e w1 ⟨rfl, rfl⟩) | (go_at_call 86; refine (lQ _ _).mono ?_; rintro e w1 ⟨rfl, rfl⟩) | (go_at_call 88; refine (pQ _ _).mono ?_; rintro e w1 ⟨rfl, rfl⟩))
  go_ret
  exact ⟨by rw [HR.out]; rfl, HB⟩
 | true =>
  cases c1 : (inR a 0 511) with
  | false =>
   have HR : Hid (evK 2 n a p r = false) := hU (by simp [evK, c0, c1])
   go_enter Tryz.func63, Tryz.ntmps63
   go_wp2_with (first | (go_at_call 84; refine (nQ _ _ _ _).mono ?_; rintro e w1 ⟨rfl, rfl⟩) | (go_at_call 85; refine (oQ _ _).mono ?_; rintro e w1 ⟨rfl, rfl⟩) | (go_at_call 87; refine (qQ _ _).mono ?_; rintro e w1 ⟨rfl, rfl⟩) | (go_at_call 86; refine (lQ _ _).mono ?_; rintro e w1 ⟨rfl, rfl⟩) | (go_at_call 88; refine (pQ _ _).mono ?_; rintro e w1 ⟨rfl, rfl⟩))
   go_ret
   exact ⟨by rw [HR.out]; rfl, HB⟩
  | true =>
   cases c2 : (inR p 0 1073741824) with
   | false =>
    have HR : Hid (evK 2 n a p r = false) := hU (by simp [evK, c0, c1, c2])
    go_enter Tryz.func63, Tryz.ntmps63
    go_wp2_with (first | (go_at_call 84; refine (nQ _ _ _ _).mono ?_; rintro e w1 ⟨rfl, rfl⟩) | (go_at_call 85; refine (oQ _ _).mono ?_; rintro e w1 ⟨rfl, rfl⟩) | (go_at_call 87; refine (qQ _ _).mono ?_; rintro e w1 ⟨rfl, rfl⟩) | (go_at_call 86; refine (lQ _ _).mono ?_; rintro e w1 ⟨rfl, rfl⟩) | (go_at_call 88; refine (pQ _ _).mono ?_; rintro e w1 ⟨rfl, rfl⟩))
    go_ret
    exact ⟨by rw [HR.out]; rfl, HB⟩
   | true =>
    cases c3 : (r == 0) with
    | false =>
     have HR : Hid (evK 2 n a p r = false) := hU (by simp [evK, c0, c1, c2, c3])
     go_enter Tryz.func63, Tryz.ntmps63
     go_wp2_with (first | (go_at_call 84; refine (nQ _ _ _ _).mono ?_; rintro e w1 ⟨rfl, rfl⟩) | (go_at_call 85; refine (oQ _ _).mono ?_; rintro e w1 ⟨rfl, rfl⟩) | (go_at_call 87; refine (qQ _ _).mono ?_; rintro e w1 ⟨rfl, rfl⟩) | (go_at_call 86; refine (lQ _ _).mono ?_; rintro e w1 ⟨rfl, rfl⟩) | (go_at_call 88; refine (pQ _ _).mono ?_; rintro e w1 ⟨rfl, rfl⟩))
     go_ret
     exact ⟨by rw [HR.out]; rfl, HB⟩
    | true =>
     have HR : Hid (evK 2 n a p r = true) := hU (by simp [evK, c0, c1, c2, c3])
     go_enter Tryz.func63, Tryz.ntmps63
     go_wp2_with (first | (go_at_call 84; refine (nQ _ _ _ _).mono ?_; rintro e w1 ⟨rfl, rfl⟩) | (go_at_call 85; refine (oQ _ _).mono ?_; rintro e w1 ⟨rfl, rfl⟩) | (go_at_call 87; refine (qQ _ _).mono ?_; rintro e w1 ⟨rfl, rfl⟩) | (go_at_call 86; refine (lQ _ _).mono ?_; rintro e w1 ⟨rfl, rfl⟩) | (go_at_call 88; refine (pQ _ _).mono ?_; rintro e w1 ⟨rfl, rfl⟩))
     go_ret
     exact ⟨by rw [HR.out]; rfl, HB⟩
set_option maxRecDepth 100000 in
set_option maxHeartbeats 4000000 in
theorem valid_5 (t n a p r : Int) (ht : inR t 0 1073741824 = true) (w : World) : Calls Tryz.prog 63 #[.agg #[.int .i64 t, .int .i64 5, .int .i64 n, .int .i64 a, .int .i64 p, .int .i64 r]] w fun e w' => e = .returned (.bool (evK 5 n a p r)) ∧ Below w.heap.size w w' := by
 have HB := cQ w (.cells #[.int .i64 t, .int .i64 5, .int .i64 n, .int .i64 a, .int .i64 p, .int .i64 r] 43)
 have s0 : (w.alloc (.cells #[.int .i64 t, .int .i64 5, .int .i64 n, .int .i64 a, .int .i64 p, .int .i64 r] 43)).cell? ⟨w.heap.size, 0, none⟩ = some (.int .i64 t) := by simp
 have s1 : (w.alloc (.cells #[.int .i64 t, .int .i64 5, .int .i64 n, .int .i64 a, .int .i64 p, .int .i64 r] 43)).cell? ⟨w.heap.size, 1, none⟩ = some (.int .i64 5) := by simp
 have s2 : (w.alloc (.cells #[.int .i64 t, .int .i64 5, .int .i64 n, .int .i64 a, .int .i64 p, .int .i64 r] 43)).cell? ⟨w.heap.size, 2, none⟩ = some (.int .i64 n) := by simp
 have s3 : (w.alloc (.cells #[.int .i64 t, .int .i64 5, .int .i64 n, .int .i64 a, .int .i64 p, .int .i64 r] 43)).cell? ⟨w.heap.size, 3, none⟩ = some (.int .i64 a) := by simp
 have s4 : (w.alloc (.cells #[.int .i64 t, .int .i64 5, .int .i64 n, .int .i64 a, .int .i64 p, .int .i64 r] 43)).cell? ⟨w.heap.size, 4, none⟩ = some (.int .i64 p) := by simp
 have s5 : (w.alloc (.cells #[.int .i64 t, .int .i64 5, .int .i64 n, .int .i64 a, .int .i64 p, .int .i64 r] 43)).cell? ⟨w.heap.size, 5, none⟩ = some (.int .i64 r) := by simp
 cases c0 : (n == 0) with
 | false =>
  have HR : Hid (evK 5 n a p r = false) := hU (by simp [evK, c0])
  go_enter Tryz.func63, Tryz.ntmps63
  go_wp2_with (first | (go_at_call 84; refine (nQ _ _ _ _).mono ?_; rintro e w1 ⟨rfl, rfl⟩) | (go_at_call 85; refine (oQ _ _).mono ?_; rintro e w1 ⟨rfl, rfl⟩) | (go_at_call 87; refine (qQ _ _).mono ?_; rintro e w1 ⟨rfl, rfl⟩) | (go_at_call 86; refine (lQ _ _).mono ?_; rintro e w1 ⟨rfl, rfl⟩) | (go_at_call 88; refine (pQ _ _).mono ?_; rintro e w1 ⟨rfl, rfl⟩))
  go_ret
  exact ⟨by rw [HR.out]; rfl, HB⟩
 | true =>
  cases c1 : (inR a 1 3) with
  | false =>
   have HR : Hid (evK 5 n a p r = false) := hU (by simp [evK, c0, c1])
   go_enter Tryz.func63, Tryz.ntmps63
   go_wp2_with (first | (go_at_call 84; refine (nQ _ _ _ _).mono ?_; rintro e w1 ⟨rfl, rfl⟩) | (go_at_call 85; refine (oQ _ _).mono ?_; rintro e w1 ⟨rfl, rfl⟩) | (go_at_call 87; refine (qQ _ _).mono ?_; rintro e w1 ⟨rfl, rfl⟩) | (go_at_call 86; refine (lQ _ _).mono ?_; rintro e w1 ⟨rfl, rfl⟩) | (go_at_call 88; refine (pQ _ _).mono ?_; rintro e w1 ⟨rfl, rfl⟩))
   go_ret
   exact ⟨by rw [HR.out]; rfl, HB⟩
  | true =>
   cases c2 : (p == 0) with
   | false =>
    have HR : Hid (evK 5 n a p r = false) := hU (by simp [evK, c0, c1, c2])
    go_enter Tryz.func63, Tryz.ntmps63
    go_wp2_with (first | (go_at_call 84; refine (nQ _ _ _ _).mono ?_; rintro e w1 ⟨rfl, rfl⟩) | (go_at_call 85; refine (oQ _ _).mono ?_; rintro e w1 ⟨rfl, rfl⟩) | (go_at_call 87; refine (qQ _ _).mono ?_; rintro e w1 ⟨rfl, rfl⟩) | (go_at_call 86; refine (lQ _ _).mono ?_; rintro e w1 ⟨rfl, rfl⟩) | (go_at_call 88; refine (pQ _ _).mono ?_; rintro e w1 ⟨rfl, rfl⟩))
    go_ret
    exact ⟨by rw [HR.out]; rfl, HB⟩
   | true =>
    cases c3 : (inR r 0 255) with
    | false =>
     have HR : Hid (evK 5 n a p r = false) := hU (by simp [evK, c0, c1, c2, c3])
     go_enter Tryz.func63, Tryz.ntmps63
     go_wp2_with (first | (go_at_call 84; refine (nQ _ _ _ _).mono ?_; rintro e w1 ⟨rfl, rfl⟩) | (go_at_call 85; refine (oQ _ _).mono ?_; rintro e w1 ⟨rfl, rfl⟩) | (go_at_call 87; refine (qQ _ _).mono ?_; rintro e w1 ⟨rfl, rfl⟩) | (go_at_call 86; refine (lQ _ _).mono ?_; rintro e w1 ⟨rfl, rfl⟩) | (go_at_call 88; refine (pQ _ _).mono ?_; rintro e w1 ⟨rfl, rfl⟩))
     go_ret
     exact ⟨by rw [HR.out]; rfl, HB⟩
    | true =>
     have HR : Hid (evK 5 n a p r = true) := hU (by simp [evK, c0, c1, c2, c3])
     go_enter Tryz.func63, Tryz.ntmps63
     go_wp2_with (first | (go_at_call 84; refine (nQ _ _ _ _).mono ?_; rintro e w1 ⟨rfl, rfl⟩) | (go_at_call 85; refine (oQ _ _).mono ?_; rintro e w1 ⟨rfl, rfl⟩) | (go_at_call 87; refine (qQ _ _).mono ?_; rintro e w1 ⟨rfl, rfl⟩) | (go_at_call 86; refine (lQ _ _).mono ?_; rintro e w1 ⟨rfl, rfl⟩) | (go_at_call 88; refine (pQ _ _).mono ?_; rintro e w1 ⟨rfl, rfl⟩))
     go_ret
     exact ⟨by rw [HR.out]; rfl, HB⟩
set_option maxRecDepth 100000 in
set_option maxHeartbeats 4000000 in
theorem valid_6 (t n a p r : Int) (ht : inR t 0 1073741824 = true) (w : World) : Calls Tryz.prog 63 #[.agg #[.int .i64 t, .int .i64 6, .int .i64 n, .int .i64 a, .int .i64 p, .int .i64 r]] w fun e w' => e = .returned (.bool (evK 6 n a p r)) ∧ Below w.heap.size w w' := by
 have HB := cQ w (.cells #[.int .i64 t, .int .i64 6, .int .i64 n, .int .i64 a, .int .i64 p, .int .i64 r] 43)
 have s0 : (w.alloc (.cells #[.int .i64 t, .int .i64 6, .int .i64 n, .int .i64 a, .int .i64 p, .int .i64 r] 43)).cell? ⟨w.heap.size, 0, none⟩ = some (.int .i64 t) := by simp
 have s1 : (w.alloc (.cells #[.int .i64 t, .int .i64 6, .int .i64 n, .int .i64 a, .int .i64 p, .int .i64 r] 43)).cell? ⟨w.heap.size, 1, none⟩ = some (.int .i64 6) := by simp
 have s2 : (w.alloc (.cells #[.int .i64 t, .int .i64 6, .int .i64 n, .int .i64 a, .int .i64 p, .int .i64 r] 43)).cell? ⟨w.heap.size, 2, none⟩ = some (.int .i64 n) := by simp
 have s3 : (w.alloc (.cells #[.int .i64 t, .int .i64 6, .int .i64 n, .int .i64 a, .int .i64 p, .int .i64 r] 43)).cell? ⟨w.heap.size, 3, none⟩ = some (.int .i64 a) := by simp
 have s4 : (w.alloc (.cells #[.int .i64 t, .int .i64 6, .int .i64 n, .int .i64 a, .int .i64 p, .int .i64 r] 43)).cell? ⟨w.heap.size, 4, none⟩ = some (.int .i64 p) := by simp
 have s5 : (w.alloc (.cells #[.int .i64 t, .int .i64 6, .int .i64 n, .int .i64 a, .int .i64 p, .int .i64 r] 43)).cell? ⟨w.heap.size, 5, none⟩ = some (.int .i64 r) := by simp
 cases c0 : (n == 0) with
 | false =>
  have HR : Hid (evK 6 n a p r = false) := hU (by simp [evK, c0])
  go_enter Tryz.func63, Tryz.ntmps63
  go_wp2_with (first | (go_at_call 84; refine (nQ _ _ _ _).mono ?_; rintro e w1 ⟨rfl, rfl⟩) | (go_at_call 85; refine (oQ _ _).mono ?_; rintro e w1 ⟨rfl, rfl⟩) | (go_at_call 87; refine (qQ _ _).mono ?_; rintro e w1 ⟨rfl, rfl⟩) | (go_at_call 86; refine (lQ _ _).mono ?_; rintro e w1 ⟨rfl, rfl⟩) | (go_at_call 88; refine (pQ _ _).mono ?_; rintro e w1 ⟨rfl, rfl⟩))
  go_ret
  exact ⟨by rw [HR.out]; rfl, HB⟩
 | true =>
  cases c1 : (inR a 1 3) with
  | false =>
   have HR : Hid (evK 6 n a p r = false) := hU (by simp [evK, c0, c1])
   go_enter Tryz.func63, Tryz.ntmps63
   go_wp2_with (first | (go_at_call 84; refine (nQ _ _ _ _).mono ?_; rintro e w1 ⟨rfl, rfl⟩) | (go_at_call 85; refine (oQ _ _).mono ?_; rintro e w1 ⟨rfl, rfl⟩) | (go_at_call 87; refine (qQ _ _).mono ?_; rintro e w1 ⟨rfl, rfl⟩) | (go_at_call 86; refine (lQ _ _).mono ?_; rintro e w1 ⟨rfl, rfl⟩) | (go_at_call 88; refine (pQ _ _).mono ?_; rintro e w1 ⟨rfl, rfl⟩))
   go_ret
   exact ⟨by rw [HR.out]; rfl, HB⟩
  | true =>
   cases c2 : (p == 0) with
   | false =>
    have HR : Hid (evK 6 n a p r = false) := hU (by simp [evK, c0, c1, c2])
    go_enter Tryz.func63, Tryz.ntmps63
    go_wp2_with (first | (go_at_call 84; refine (nQ _ _ _ _).mono ?_; rintro e w1 ⟨rfl, rfl⟩) | (go_at_call 85; refine (oQ _ _).mono ?_; rintro e w1 ⟨rfl, rfl⟩) | (go_at_call 87; refine (qQ _ _).mono ?_; rintro e w1 ⟨rfl, rfl⟩) | (go_at_call 86; refine (lQ _ _).mono ?_; rintro e w1 ⟨rfl, rfl⟩) | (go_at_call 88; refine (pQ _ _).mono ?_; rintro e w1 ⟨rfl, rfl⟩))
    go_ret
    exact ⟨by rw [HR.out]; rfl, HB⟩
   | true =>
    cases c3 : (inR r 0 255) with
    | false =>
     have HR : Hid (evK 6 n a p r = false) := hU (by simp [evK, c0, c1, c2, c3])
     go_enter Tryz.func63, Tryz.ntmps63
     go_wp2_with (first | (go_at_call 84; refine (nQ _ _ _ _).mono ?_; rintro e w1 ⟨rfl, rfl⟩) | (go_at_call 85; refine (oQ _ _).mono ?_; rintro e w1 ⟨rfl, rfl⟩) | (go_at_call 87; refine (qQ _ _).mono ?_; rintro e w1 ⟨rfl, rfl⟩) | (go_at_call 86; refine (lQ _ _).mono ?_; rintro e w1 ⟨rfl, rfl⟩) | (go_at_call 88; refine (pQ _ _).mono ?_; rintro e w1 ⟨rfl, rfl⟩))
     go_ret
     exact ⟨by rw [HR.out]; rfl, HB⟩
    | true =>
     have HR : Hid (evK 6 n a p r = true) := hU (by simp [evK, c0, c1, c2, c3])
     go_enter Tryz.func63, Tryz.ntmps63
     go_wp2_with (first | (go_at_call 84; refine (nQ _ _ _ _).mono ?_; rintro e w1 ⟨rfl, rfl⟩) | (go_at_call 85; refine (oQ _ _).mono ?_; rintro e w1 ⟨rfl, rfl⟩) | (go_at_call 87; refine (qQ _ _).mono ?_; rintro e w1 ⟨rfl, rfl⟩) | (go_at_call 86; refine (lQ _ _).mono ?_; rintro e w1 ⟨rfl, rfl⟩) | (go_at_call 88; refine (pQ _ _).mono ?_; rintro e w1 ⟨rfl, rfl⟩))
     go_ret
     exact ⟨by rw [HR.out]; rfl, HB⟩
set_option maxRecDepth 100000 in
set_option maxHeartbeats 4000000 in
theorem valid_7 (t n a p r : Int) (ht : inR t 0 1073741824 = true) (w : World) : Calls Tryz.prog 63 #[.agg #[.int .i64 t, .int .i64 7, .int .i64 n, .int .i64 a, .int .i64 p, .int .i64 r]] w fun e w' => e = .returned (.bool (evK 7 n a p r)) ∧ Below w.heap.size w w' := by
 have HB := cQ w (.cells #[.int .i64 t, .int .i64 7, .int .i64 n, .int .i64 a, .int .i64 p, .int .i64 r] 43)
 have s0 : (w.alloc (.cells #[.int .i64 t, .int .i64 7, .int .i64 n, .int .i64 a, .int .i64 p, .int .i64 r] 43)).cell? ⟨w.heap.size, 0, none⟩ = some (.int .i64 t) := by simp
 have s1 : (w.alloc (.cells #[.int .i64 t, .int .i64 7, .int .i64 n, .int .i64 a, .int .i64 p, .int .i64 r] 43)).cell? ⟨w.heap.size, 1, none⟩ = some (.int .i64 7) := by simp
 have s2 : (w.alloc (.cells #[.int .i64 t, .int .i64 7, .int .i64 n, .int .i64 a, .int .i64 p, .int .i64 r] 43)).cell? ⟨w.heap.size, 2, none⟩ = some (.int .i64 n) := by simp
 have s3 : (w.alloc (.cells #[.int .i64 t, .int .i64 7, .int .i64 n, .int .i64 a, .int .i64 p, .int .i64 r] 43)).cell? ⟨w.heap.size, 3, none⟩ = some (.int .i64 a) := by simp
 have s4 : (w.alloc (.cells #[.int .i64 t, .int .i64 7, .int .i64 n, .int .i64 a, .int .i64 p, .int .i64 r] 43)).cell? ⟨w.heap.size, 4, none⟩ = some (.int .i64 p) := by simp
 have s5 : (w.alloc (.cells #[.int .i64 t, .int .i64 7, .int .i64 n, .int .i64 a, .int .i64 p, .int .i64 r] 43)).cell? ⟨w.heap.size, 5, none⟩ = some (.int .i64 r) := by simp
 cases c0 : (inR n 0 63) with
 | false =>
  have HR : Hid (evK 7 n a p r = false) := hU (by simp [evK, c0])
  go_enter Tryz.func63, Tryz.ntmps63
  go_wp2_with (first | (go_at_call 84; refine (nQ _ _ _ _).mono ?_; rintro e w1 ⟨rfl, rfl⟩) | (go_at_call 85; refine (oQ _ _).mono ?_; rintro e w1 ⟨rfl, rfl⟩) | (go_at_call 87; refine (qQ _ _).mono ?_; rintro e w1 ⟨rfl, rfl⟩) | (go_at_call 86; refine (lQ _ _).mono ?_; rintro e w1 ⟨rfl, rfl⟩) | (go_at_call 88; refine (pQ _ _).mono ?_; rintro e w1 ⟨rfl, rfl⟩))
  go_ret
  exact ⟨by rw [HR.out]; rfl, HB⟩
 | true =>
  cases c1 : (inR a 0 511) with
  | false =>
   have HR : Hid (evK 7 n a p r = false) := hU (by simp [evK, c0, c1])
   go_enter Tryz.func63, Tryz.ntmps63
   go_wp2_with (first | (go_at_call 84; refine (nQ _ _ _ _).mono ?_; rintro e w1 ⟨rfl, rfl⟩) | (go_at_call 85; refine (oQ _ _).mono ?_; rintro e w1 ⟨rfl, rfl⟩) | (go_at_call 87; refine (qQ _ _).mono ?_; rintro e w1 ⟨rfl, rfl⟩) | (go_at_call 86; refine (lQ _ _).mono ?_; rintro e w1 ⟨rfl, rfl⟩) | (go_at_call 88; refine (pQ _ _).mono ?_; rintro e w1 ⟨rfl, rfl⟩))
   go_ret
   exact ⟨by rw [HR.out]; rfl, HB⟩
  | true =>
   cases c2 : (p == 0) with
   | false =>
    have HR : Hid (evK 7 n a p r = false) := hU (by simp [evK, c0, c1, c2])
    go_enter Tryz.func63, Tryz.ntmps63
    go_wp2_with (first | (go_at_call 84; refine (nQ _ _ _ _).mono ?_; rintro e w1 ⟨rfl, rfl⟩) | (go_at_call 85; refine (oQ _ _).mono ?_; rintro e w1 ⟨rfl, rfl⟩) | (go_at_call 87; refine (qQ _ _).mono ?_; rintro e w1 ⟨rfl, rfl⟩) | (go_at_call 86; refine (lQ _ _).mono ?_; rintro e w1 ⟨rfl, rfl⟩) | (go_at_call 88; refine (pQ _ _).mono ?_; rintro e w1 ⟨rfl, rfl⟩))
    go_ret
    exact ⟨by rw [HR.out]; rfl, HB⟩
   | true =>
    cases c3 : (inR r 1 2) with
    | false =>
     have HR : Hid (evK 7 n a p r = false) := hU (by simp [evK, c0, c1, c2, c3])
     go_enter Tryz.func63, Tryz.ntmps63
     go_wp2_with (first | (go_at_call 84; refine (nQ _ _ _ _).mono ?_; rintro e w1 ⟨rfl, rfl⟩) | (go_at_call 85; refine (oQ _ _).mono ?_; rintro e w1 ⟨rfl, rfl⟩) | (go_at_call 87; refine (qQ _ _).mono ?_; rintro e w1 ⟨rfl, rfl⟩) | (go_at_call 86; refine (lQ _ _).mono ?_; rintro e w1 ⟨rfl, rfl⟩) | (go_at_call 88; refine (pQ _ _).mono ?_; rintro e w1 ⟨rfl, rfl⟩))
     go_ret
     exact ⟨by rw [HR.out]; rfl, HB⟩
    | true =>
     have HR : Hid (evK 7 n a p r = true) := hU (by simp [evK, c0, c1, c2, c3])
     go_enter Tryz.func63, Tryz.ntmps63
     go_wp2_with (first | (go_at_call 84; refine (nQ _ _ _ _).mono ?_; rintro e w1 ⟨rfl, rfl⟩) | (go_at_call 85; refine (oQ _ _).mono ?_; rintro e w1 ⟨rfl, rfl⟩) | (go_at_call 87; refine (qQ _ _).mono ?_; rintro e w1 ⟨rfl, rfl⟩) | (go_at_call 86; refine (lQ _ _).mono ?_; rintro e w1 ⟨rfl, rfl⟩) | (go_at_call 88; refine (pQ _ _).mono ?_; rintro e w1 ⟨rfl, rfl⟩))
     go_ret
     exact ⟨by rw [HR.out]; rfl, HB⟩
set_option maxRecDepth 100000 in
set_option maxHeartbeats 4000000 in
theorem valid_8 (t n a p r : Int) (ht : inR t 0 1073741824 = true) (w : World) : Calls Tryz.prog 63 #[.agg #[.int .i64 t, .int .i64 8, .int .i64 n, .int .i64 a, .int .i64 p, .int .i64 r]] w fun e w' => e = .returned (.bool (evK 8 n a p r)) ∧ Below w.heap.size w w' := by
 have HB := cQ w (.cells #[.int .i64 t, .int .i64 8, .int .i64 n, .int .i64 a, .int .i64 p, .int .i64 r] 43)
 have s0 : (w.alloc (.cells #[.int .i64 t, .int .i64 8, .int .i64 n, .int .i64 a, .int .i64 p, .int .i64 r] 43)).cell? ⟨w.heap.size, 0, none⟩ = some (.int .i64 t) := by simp
 have s1 : (w.alloc (.cells #[.int .i64 t, .int .i64 8, .int .i64 n, .int .i64 a, .int .i64 p, .int .i64 r] 43)).cell? ⟨w.heap.size, 1, none⟩ = some (.int .i64 8) := by simp
 have s2 : (w.alloc (.cells #[.int .i64 t, .int .i64 8, .int .i64 n, .int .i64 a, .int .i64 p, .int .i64 r] 43)).cell? ⟨w.heap.size, 2, none⟩ = some (.int .i64 n) := by simp
 have s3 : (w.alloc (.cells #[.int .i64 t, .int .i64 8, .int .i64 n, .int .i64 a, .int .i64 p, .int .i64 r] 43)).cell? ⟨w.heap.size, 3, none⟩ = some (.int .i64 a) := by simp
 have s4 : (w.alloc (.cells #[.int .i64 t, .int .i64 8, .int .i64 n, .int .i64 a, .int .i64 p, .int .i64 r] 43)).cell? ⟨w.heap.size, 4, none⟩ = some (.int .i64 p) := by simp
 have s5 : (w.alloc (.cells #[.int .i64 t, .int .i64 8, .int .i64 n, .int .i64 a, .int .i64 p, .int .i64 r] 43)).cell? ⟨w.heap.size, 5, none⟩ = some (.int .i64 r) := by simp
 cases c0 : (inR n 0 63) with
 | false =>
  have HR : Hid (evK 8 n a p r = false) := hU (by simp [evK, c0])
  go_enter Tryz.func63, Tryz.ntmps63
  go_wp2_with (first | (go_at_call 84; refine (nQ _ _ _ _).mono ?_; rintro e w1 ⟨rfl, rfl⟩) | (go_at_call 85; refine (oQ _ _).mono ?_; rintro e w1 ⟨rfl, rfl⟩) | (go_at_call 87; refine (qQ _ _).mono ?_; rintro e w1 ⟨rfl, rfl⟩) | (go_at_call 86; refine (lQ _ _).mono ?_; rintro e w1 ⟨rfl, rfl⟩) | (go_at_call 88; refine (pQ _ _).mono ?_; rintro e w1 ⟨rfl, rfl⟩))
  go_ret
  exact ⟨by rw [HR.out]; rfl, HB⟩
 | true =>
  cases c1 : (a == 0) with
  | false =>
   have HR : Hid (evK 8 n a p r = false) := hU (by simp [evK, c0, c1])
   go_enter Tryz.func63, Tryz.ntmps63
   go_wp2_with (first | (go_at_call 84; refine (nQ _ _ _ _).mono ?_; rintro e w1 ⟨rfl, rfl⟩) | (go_at_call 85; refine (oQ _ _).mono ?_; rintro e w1 ⟨rfl, rfl⟩) | (go_at_call 87; refine (qQ _ _).mono ?_; rintro e w1 ⟨rfl, rfl⟩) | (go_at_call 86; refine (lQ _ _).mono ?_; rintro e w1 ⟨rfl, rfl⟩) | (go_at_call 88; refine (pQ _ _).mono ?_; rintro e w1 ⟨rfl, rfl⟩))
   go_ret
   exact ⟨by rw [HR.out]; rfl, HB⟩
  | true =>
   cases c2 : (p == 0) with
   | false =>
    have HR : Hid (evK 8 n a p r = false) := hU (by simp [evK, c0, c1, c2])
    go_enter Tryz.func63, Tryz.ntmps63
    go_wp2_with (first | (go_at_call 84; refine (nQ _ _ _ _).mono ?_; rintro e w1 ⟨rfl, rfl⟩) | (go_at_call 85; refine (oQ _ _).mono ?_; rintro e w1 ⟨rfl, rfl⟩) | (go_at_call 87; refine (qQ _ _).mono ?_; rintro e w1 ⟨rfl, rfl⟩) | (go_at_call 86; refine (lQ _ _).mono ?_; rintro e w1 ⟨rfl, rfl⟩) | (go_at_call 88; refine (pQ _ _).mono ?_; rintro e w1 ⟨rfl, rfl⟩))
    go_ret
    exact ⟨by rw [HR.out]; rfl, HB⟩
   | true =>
    cases c3 : (inR r 0 3) with
    | false =>
     have HR : Hid (evK 8 n a p r = false) := hU (by simp [evK, c0, c1, c2, c3])
     go_enter Tryz.func63, Tryz.ntmps63
     go_wp2_with (first | (go_at_call 84; refine (nQ _ _ _ _).mono ?_; rintro e w1 ⟨rfl, rfl⟩) | (go_at_call 85; refine (oQ _ _).mono ?_; rintro e w1 ⟨rfl, rfl⟩) | (go_at_call 87; refine (qQ _ _).mono ?_; rintro e w1 ⟨rfl, rfl⟩) | (go_at_call 86; refine (lQ _ _).mono ?_; rintro e w1 ⟨rfl, rfl⟩) | (go_at_call 88; refine (pQ _ _).mono ?_; rintro e w1 ⟨rfl, rfl⟩))
     go_ret
     exact ⟨by rw [HR.out]; rfl, HB⟩
    | true =>
     have HR : Hid (evK 8 n a p r = true) := hU (by simp [evK, c0, c1, c2, c3])
     go_enter Tryz.func63, Tryz.ntmps63
     go_wp2_with (first | (go_at_call 84; refine (nQ _ _ _ _).mono ?_; rintro e w1 ⟨rfl, rfl⟩) | (go_at_call 85; refine (oQ _ _).mono ?_; rintro e w1 ⟨rfl, rfl⟩) | (go_at_call 87; refine (qQ _ _).mono ?_; rintro e w1 ⟨rfl, rfl⟩) | (go_at_call 86; refine (lQ _ _).mono ?_; rintro e w1 ⟨rfl, rfl⟩) | (go_at_call 88; refine (pQ _ _).mono ?_; rintro e w1 ⟨rfl, rfl⟩))
     go_ret
     exact ⟨by rw [HR.out]; rfl, HB⟩
set_option maxRecDepth 100000 in
set_option maxHeartbeats 4000000 in
theorem valid_9 (t n a p r : Int) (ht : inR t 0 1073741824 = true) (w : World) : Calls Tryz.prog 63 #[.agg #[.int .i64 t, .int .i64 9, .int .i64 n, .int .i64 a, .int .i64 p, .int .i64 r]] w fun e w' => e = .returned (.bool (evK 9 n a p r)) ∧ Below w.heap.size w w' := by
 have HB := cQ w (.cells #[.int .i64 t, .int .i64 9, .int .i64 n, .int .i64 a, .int .i64 p, .int .i64 r] 43)
 have s0 : (w.alloc (.cells #[.int .i64 t, .int .i64 9, .int .i64 n, .int .i64 a, .int .i64 p, .int .i64 r] 43)).cell? ⟨w.heap.size, 0, none⟩ = some (.int .i64 t) := by simp
 have s1 : (w.alloc (.cells #[.int .i64 t, .int .i64 9, .int .i64 n, .int .i64 a, .int .i64 p, .int .i64 r] 43)).cell? ⟨w.heap.size, 1, none⟩ = some (.int .i64 9) := by simp
 have s2 : (w.alloc (.cells #[.int .i64 t, .int .i64 9, .int .i64 n, .int .i64 a, .int .i64 p, .int .i64 r] 43)).cell? ⟨w.heap.size, 2, none⟩ = some (.int .i64 n) := by simp
 have s3 : (w.alloc (.cells #[.int .i64 t, .int .i64 9, .int .i64 n, .int .i64 a, .int .i64 p, .int .i64 r] 43)).cell? ⟨w.heap.size, 3, none⟩ = some (.int .i64 a) := by simp
 have s4 : (w.alloc (.cells #[.int .i64 t, .int .i64 9, .int .i64 n, .int .i64 a, .int .i64 p, .int .i64 r] 43)).cell? ⟨w.heap.size, 4, none⟩ = some (.int .i64 p) := by simp
 have s5 : (w.alloc (.cells #[.int .i64 t, .int .i64 9, .int .i64 n, .int .i64 a, .int .i64 p, .int .i64 r] 43)).cell? ⟨w.heap.size, 5, none⟩ = some (.int .i64 r) := by simp
 cases c0 : (inR n 0 63) with
 | false =>
  have HR : Hid (evK 9 n a p r = false) := hU (by simp [evK, c0])
  go_enter Tryz.func63, Tryz.ntmps63
  go_wp2_with (first | (go_at_call 84; refine (nQ _ _ _ _).mono ?_; rintro e w1 ⟨rfl, rfl⟩) | (go_at_call 85; refine (oQ _ _).mono ?_; rintro e w1 ⟨rfl, rfl⟩) | (go_at_call 87; refine (qQ _ _).mono ?_; rintro e w1 ⟨rfl, rfl⟩) | (go_at_call 86; refine (lQ _ _).mono ?_; rintro e w1 ⟨rfl, rfl⟩) | (go_at_call 88; refine (pQ _ _).mono ?_; rintro e w1 ⟨rfl, rfl⟩))
  go_ret
  exact ⟨by rw [HR.out]; rfl, HB⟩
 | true =>
  cases c1 : (inR a 0 63) with
  | false =>
   have HR : Hid (evK 9 n a p r = false) := hU (by simp [evK, c0, c1])
   go_enter Tryz.func63, Tryz.ntmps63
   go_wp2_with (first | (go_at_call 84; refine (nQ _ _ _ _).mono ?_; rintro e w1 ⟨rfl, rfl⟩) | (go_at_call 85; refine (oQ _ _).mono ?_; rintro e w1 ⟨rfl, rfl⟩) | (go_at_call 87; refine (qQ _ _).mono ?_; rintro e w1 ⟨rfl, rfl⟩) | (go_at_call 86; refine (lQ _ _).mono ?_; rintro e w1 ⟨rfl, rfl⟩) | (go_at_call 88; refine (pQ _ _).mono ?_; rintro e w1 ⟨rfl, rfl⟩))
   go_ret
   exact ⟨by rw [HR.out]; rfl, HB⟩
  | true =>
   cases c2 : (p == 0) with
   | false =>
    have HR : Hid (evK 9 n a p r = false) := hU (by simp [evK, c0, c1, c2])
    go_enter Tryz.func63, Tryz.ntmps63
    go_wp2_with (first | (go_at_call 84; refine (nQ _ _ _ _).mono ?_; rintro e w1 ⟨rfl, rfl⟩) | (go_at_call 85; refine (oQ _ _).mono ?_; rintro e w1 ⟨rfl, rfl⟩) | (go_at_call 87; refine (qQ _ _).mono ?_; rintro e w1 ⟨rfl, rfl⟩) | (go_at_call 86; refine (lQ _ _).mono ?_; rintro e w1 ⟨rfl, rfl⟩) | (go_at_call 88; refine (pQ _ _).mono ?_; rintro e w1 ⟨rfl, rfl⟩))
    go_ret
    exact ⟨by rw [HR.out]; rfl, HB⟩
   | true =>
    cases c3 : (r == 0) with
    | false =>
     have HR : Hid (evK 9 n a p r = false) := hU (by simp [evK, c0, c1, c2, c3])
     go_enter Tryz.func63, Tryz.ntmps63
     go_wp2_with (first | (go_at_call 84; refine (nQ _ _ _ _).mono ?_; rintro e w1 ⟨rfl, rfl⟩) | (go_at_call 85; refine (oQ _ _).mono ?_; rintro e w1 ⟨rfl, rfl⟩) | (go_at_call 87; refine (qQ _ _).mono ?_; rintro e w1 ⟨rfl, rfl⟩) | (go_at_call 86; refine (lQ _ _).mono ?_; rintro e w1 ⟨rfl, rfl⟩) | (go_at_call 88; refine (pQ _ _).mono ?_; rintro e w1 ⟨rfl, rfl⟩))
     go_ret
     exact ⟨by rw [HR.out]; rfl, HB⟩
    | true =>
     have HR : Hid (evK 9 n a p r = true) := hU (by simp [evK, c0, c1, c2, c3])
     go_enter Tryz.func63, Tryz.ntmps63
     go_wp2_with (first | (go_at_call 84; refine (nQ _ _ _ _).mono ?_; rintro e w1 ⟨rfl, rfl⟩) | (go_at_call 85; refine (oQ _ _).mono ?_; rintro e w1 ⟨rfl, rfl⟩) | (go_at_call 87; refine (qQ _ _).mono ?_; rintro e w1 ⟨rfl, rfl⟩) | (go_at_call 86; refine (lQ _ _).mono ?_; rintro e w1 ⟨rfl, rfl⟩) | (go_at_call 88; refine (pQ _ _).mono ?_; rintro e w1 ⟨rfl, rfl⟩))
     go_ret
     exact ⟨by rw [HR.out]; rfl, HB⟩
set_option maxRecDepth 100000 in
set_option maxHeartbeats 4000000 in
theorem valid_4 (t n a p r : Int) (ht : inR t 0 1073741824 = true) (w : World) : Calls Tryz.prog 63 #[.agg #[.int .i64 t, .int .i64 4, .int .i64 n, .int .i64 a, .int .i64 p, .int .i64 r]] w fun e w' => e = .returned (.bool (evK 4 n a p r)) ∧ Below w.heap.size w w' := by
 have HB := cQ w (.cells #[.int .i64 t, .int .i64 4, .int .i64 n, .int .i64 a, .int .i64 p, .int .i64 r] 43)
 have s0 : (w.alloc (.cells #[.int .i64 t, .int .i64 4, .int .i64 n, .int .i64 a, .int .i64 p, .int .i64 r] 43)).cell? ⟨w.heap.size, 0, none⟩ = some (.int .i64 t) := by simp
 have s1 : (w.alloc (.cells #[.int .i64 t, .int .i64 4, .int .i64 n, .int .i64 a, .int .i64 p, .int .i64 r] 43)).cell? ⟨w.heap.size, 1, none⟩ = some (.int .i64 4) := by simp
 have s2 : (w.alloc (.cells #[.int .i64 t, .int .i64 4, .int .i64 n, .int .i64 a, .int .i64 p, .int .i64 r] 43)).cell? ⟨w.heap.size, 2, none⟩ = some (.int .i64 n) := by simp
 have s3 : (w.alloc (.cells #[.int .i64 t, .int .i64 4, .int .i64 n, .int .i64 a, .int .i64 p, .int .i64 r] 43)).cell? ⟨w.heap.size, 3, none⟩ = some (.int .i64 a) := by simp
 have s4 : (w.alloc (.cells #[.int .i64 t, .int .i64 4, .int .i64 n, .int .i64 a, .int .i64 p, .int .i64 r] 43)).cell? ⟨w.heap.size, 4, none⟩ = some (.int .i64 p) := by simp
 have s5 : (w.alloc (.cells #[.int .i64 t, .int .i64 4, .int .i64 n, .int .i64 a, .int .i64 p, .int .i64 r] 43)).cell? ⟨w.heap.size, 5, none⟩ = some (.int .i64 r) := by simp
 cases c0 : (inR n 0 63) with
 | false =>
  have HR : Hid (evK 4 n a p r = false) := hU (by simp [evK, c0])
  go_enter Tryz.func63, Tryz.ntmps63
  go_wp2_with (first | (go_at_call 84; refine (nQ _ _ _ _).mono ?_; rintro e w1 ⟨rfl, rfl⟩) | (go_at_call 85; refine (oQ _ _).mono ?_; rintro e w1 ⟨rfl, rfl⟩) | (go_at_call 87; refine (qQ _ _).mono ?_; rintro e w1 ⟨rfl, rfl⟩) | (go_at_call 86; refine (lQ _ _).mono ?_; rintro e w1 ⟨rfl, rfl⟩) | (go_at_call 88; refine (pQ _ _).mono ?_; rintro e w1 ⟨rfl, rfl⟩))
  go_ret
  exact ⟨by rw [HR.out]; rfl, HB⟩
 | true =>
  cases c1 : (inR p 0 1073741824) with
  | false =>
   have HR : Hid (evK 4 n a p r = false) := hU (by simp [evK, c0, c1])
   go_enter Tryz.func63, Tryz.ntmps63
   go_wp2_with (first | (go_at_call 84; refine (nQ _ _ _ _).mono ?_; rintro e w1 ⟨rfl, rfl⟩) | (go_at_call 85; refine (oQ _ _).mono ?_; rintro e w1 ⟨rfl, rfl⟩) | (go_at_call 87; refine (qQ _ _).mono ?_; rintro e w1 ⟨rfl, rfl⟩) | (go_at_call 86; refine (lQ _ _).mono ?_; rintro e w1 ⟨rfl, rfl⟩) | (go_at_call 88; refine (pQ _ _).mono ?_; rintro e w1 ⟨rfl, rfl⟩))
   go_ret
   exact ⟨by rw [HR.out]; rfl, HB⟩
  | true =>
   cases c2 : (inR r 1 8) with
   | false =>
    have HR : Hid (evK 4 n a p r = false) := hU (by simp [evK, c0, c1, c2])
    go_enter Tryz.func63, Tryz.ntmps63
    go_wp2_with (first | (go_at_call 84; refine (nQ _ _ _ _).mono ?_; rintro e w1 ⟨rfl, rfl⟩) | (go_at_call 85; refine (oQ _ _).mono ?_; rintro e w1 ⟨rfl, rfl⟩) | (go_at_call 87; refine (qQ _ _).mono ?_; rintro e w1 ⟨rfl, rfl⟩) | (go_at_call 86; refine (lQ _ _).mono ?_; rintro e w1 ⟨rfl, rfl⟩) | (go_at_call 88; refine (pQ _ _).mono ?_; rintro e w1 ⟨rfl, rfl⟩))
    go_ret
    exact ⟨by rw [HR.out]; rfl, HB⟩
   | true =>
    cases d0 : (a == 0) with
    | true =>
     have HR : Hid (evK 4 n a p r = true) := hU (by simp [evK, c0, c1, c2, d0])
     go_enter Tryz.func63, Tryz.ntmps63
     go_wp2_with (first | (go_at_call 84; refine (nQ _ _ _ _).mono ?_; rintro e w1 ⟨rfl, rfl⟩) | (go_at_call 85; refine (oQ _ _).mono ?_; rintro e w1 ⟨rfl, rfl⟩) | (go_at_call 87; refine (qQ _ _).mono ?_; rintro e w1 ⟨rfl, rfl⟩) | (go_at_call 86; refine (lQ _ _).mono ?_; rintro e w1 ⟨rfl, rfl⟩) | (go_at_call 88; refine (pQ _ _).mono ?_; rintro e w1 ⟨rfl, rfl⟩))
     go_ret
     exact ⟨by rw [HR.out]; rfl, HB⟩
    | false =>
     cases d1 : onArcB r with
     | false =>
      have HR : Hid (evK 4 n a p r = false) := hU (by simp [evK, c0, c1, c2, d0, d1])
      go_enter Tryz.func63, Tryz.ntmps63
      go_wp2_with (first | (go_at_call 84; refine (nQ _ _ _ _).mono ?_; rintro e w1 ⟨rfl, rfl⟩) | (go_at_call 85; refine (oQ _ _).mono ?_; rintro e w1 ⟨rfl, rfl⟩) | (go_at_call 87; refine (qQ _ _).mono ?_; rintro e w1 ⟨rfl, rfl⟩) | (go_at_call 86; refine (lQ _ _).mono ?_; rintro e w1 ⟨rfl, rfl⟩) | (go_at_call 88; refine (pQ _ _).mono ?_; rintro e w1 ⟨rfl, rfl⟩))
      go_ret
      exact ⟨by rw [HR.out]; rfl, HB⟩
     | true =>
      cases d2 : inR a 0 511 with
      | false =>
       have HR : Hid (evK 4 n a p r = false) := hU (by simp [evK, c0, c1, c2, d0, d1, d2])
       go_enter Tryz.func63, Tryz.ntmps63
       go_wp2_with (first | (go_at_call 84; refine (nQ _ _ _ _).mono ?_; rintro e w1 ⟨rfl, rfl⟩) | (go_at_call 85; refine (oQ _ _).mono ?_; rintro e w1 ⟨rfl, rfl⟩) | (go_at_call 87; refine (qQ _ _).mono ?_; rintro e w1 ⟨rfl, rfl⟩) | (go_at_call 86; refine (lQ _ _).mono ?_; rintro e w1 ⟨rfl, rfl⟩) | (go_at_call 88; refine (pQ _ _).mono ?_; rintro e w1 ⟨rfl, rfl⟩))
       go_ret
       exact ⟨by rw [HR.out]; rfl, HB⟩
      | true =>
       have HR : Hid (evK 4 n a p r = true) := hU (by simp [evK, c0, c1, c2, d0, d1, d2])
       go_enter Tryz.func63, Tryz.ntmps63
       go_wp2_with (first | (go_at_call 84; refine (nQ _ _ _ _).mono ?_; rintro e w1 ⟨rfl, rfl⟩) | (go_at_call 85; refine (oQ _ _).mono ?_; rintro e w1 ⟨rfl, rfl⟩) | (go_at_call 87; refine (qQ _ _).mono ?_; rintro e w1 ⟨rfl, rfl⟩) | (go_at_call 86; refine (lQ _ _).mono ?_; rintro e w1 ⟨rfl, rfl⟩) | (go_at_call 88; refine (pQ _ _).mono ?_; rintro e w1 ⟨rfl, rfl⟩))
       go_ret
       exact ⟨by rw [HR.out]; rfl, HB⟩
theorem evK_no {k n a p r : Int} (h : ∀ j : Int, 1 ≤ j → j ≤ 9 → k ≠ j) : evK k n a p r = false := by
 have := h 1; have := h 2; have := h 3; have := h 4; have := h 5; have := h 6; have := h 7; have := h 8; have := h 9
 unfold evK
 rw [if_neg (by omega), if_neg (by omega), if_neg (by omega), if_neg (by omega), if_neg (by omega), if_neg (by omega), if_neg (by omega)]
set_option maxRecDepth 100000 in
set_option maxHeartbeats 4000000 in
theorem valid_no (t k n a p r : Int) (ht : inR t 0 1073741824 = true) (hk : k < 1 ∨ 9 < k) (w : World) : Calls Tryz.prog 63 #[.agg #[.int .i64 t, .int .i64 k, .int .i64 n, .int .i64 a, .int .i64 p, .int .i64 r]] w fun e w' => e = .returned (.bool (evK k n a p r)) ∧ Below w.heap.size w w' := by
 have HB := cQ w (.cells #[.int .i64 t, .int .i64 k, .int .i64 n, .int .i64 a, .int .i64 p, .int .i64 r] 43)
 have s0 : (w.alloc (.cells #[.int .i64 t, .int .i64 k, .int .i64 n, .int .i64 a, .int .i64 p, .int .i64 r] 43)).cell? ⟨w.heap.size, 0, none⟩ = some (.int .i64 t) := by simp
 have s1 : (w.alloc (.cells #[.int .i64 t, .int .i64 k, .int .i64 n, .int .i64 a, .int .i64 p, .int .i64 r] 43)).cell? ⟨w.heap.size, 1, none⟩ = some (.int .i64 k) := by simp
 have s2 : (w.alloc (.cells #[.int .i64 t, .int .i64 k, .int .i64 n, .int .i64 a, .int .i64 p, .int .i64 r] 43)).cell? ⟨w.heap.size, 2, none⟩ = some (.int .i64 n) := by simp
 have s3 : (w.alloc (.cells #[.int .i64 t, .int .i64 k, .int .i64 n, .int .i64 a, .int .i64 p, .int .i64 r] 43)).cell? ⟨w.heap.size, 3, none⟩ = some (.int .i64 a) := by simp
 have s4 : (w.alloc (.cells #[.int .i64 t, .int .i64 k, .int .i64 n, .int .i64 a, .int .i64 p, .int .i64 r] 43)).cell? ⟨w.heap.size, 4, none⟩ = some (.int .i64 p) := by simp
 have s5 : (w.alloc (.cells #[.int .i64 t, .int .i64 k, .int .i64 n, .int .i64 a, .int .i64 p, .int .i64 r] 43)).cell? ⟨w.heap.size, 5, none⟩ = some (.int .i64 r) := by simp
 have g1 : (k == 1) = false := by simp; omega
 have g2 : (k == 2) = false := by simp; omega
 have g3 : (k == 3) = false := by simp; omega
 have g4 : (k == 4) = false := by simp; omega
 have g5 : (k == 5) = false := by simp; omega
 have g6 : (k == 6) = false := by simp; omega
 have g7 : (k == 7) = false := by simp; omega
 have g8 : (k == 8) = false := by simp; omega
 have g9 : (k == 9) = false := by simp; omega
 have HR : Hid (evK k n a p r = false) := hU (evK_no (by omega))
 clear hk
 go_enter Tryz.func63, Tryz.ntmps63
 go_wp2_with (first | (go_at_call 84; refine (nQ _ _ _ _).mono ?_; rintro e w1 ⟨rfl, rfl⟩) | (go_at_call 85; refine (oQ _ _).mono ?_; rintro e w1 ⟨rfl, rfl⟩) | (go_at_call 87; refine (qQ _ _).mono ?_; rintro e w1 ⟨rfl, rfl⟩) | (go_at_call 86; refine (lQ _ _).mono ?_; rintro e w1 ⟨rfl, rfl⟩) | (go_at_call 88; refine (pQ _ _).mono ?_; rintro e w1 ⟨rfl, rfl⟩))
 go_ret
 exact ⟨by rw [HR.out]; rfl, HB⟩
set_option maxRecDepth 100000 in
set_option maxHeartbeats 4000000 in
theorem valid_late (t k n a p r : Int) (ht : inR t 0 1073741824 = false) (w : World) : Calls Tryz.prog 63 #[.agg #[.int .i64 t, .int .i64 k, .int .i64 n, .int .i64 a, .int .i64 p, .int .i64 r]] w fun e w' => e = .returned (.bool false) ∧ Below w.heap.size w w' := by
 have HB := cQ w (.cells #[.int .i64 t, .int .i64 k, .int .i64 n, .int .i64 a, .int .i64 p, .int .i64 r] 43)
 have s0 : (w.alloc (.cells #[.int .i64 t, .int .i64 k, .int .i64 n, .int .i64 a, .int .i64 p, .int .i64 r] 43)).cell? ⟨w.heap.size, 0, none⟩ = some (.int .i64 t) := by simp
 have s1 : (w.alloc (.cells #[.int .i64 t, .int .i64 k, .int .i64 n, .int .i64 a, .int .i64 p, .int .i64 r] 43)).cell? ⟨w.heap.size, 1, none⟩ = some (.int .i64 k) := by simp
 have s2 : (w.alloc (.cells #[.int .i64 t, .int .i64 k, .int .i64 n, .int .i64 a, .int .i64 p, .int .i64 r] 43)).cell? ⟨w.heap.size, 2, none⟩ = some (.int .i64 n) := by simp
 have s3 : (w.alloc (.cells #[.int .i64 t, .int .i64 k, .int .i64 n, .int .i64 a, .int .i64 p, .int .i64 r] 43)).cell? ⟨w.heap.size, 3, none⟩ = some (.int .i64 a) := by simp
 have s4 : (w.alloc (.cells #[.int .i64 t, .int .i64 k, .int .i64 n, .int .i64 a, .int .i64 p, .int .i64 r] 43)).cell? ⟨w.heap.size, 4, none⟩ = some (.int .i64 p) := by simp
 have s5 : (w.alloc (.cells #[.int .i64 t, .int .i64 k, .int .i64 n, .int .i64 a, .int .i64 p, .int .i64 r] 43)).cell? ⟨w.heap.size, 5, none⟩ = some (.int .i64 r) := by simp
 go_enter Tryz.func63, Tryz.ntmps63
 go_wp2_with (first | (go_at_call 84; refine (nQ _ _ _ _).mono ?_; rintro e w1 ⟨rfl, rfl⟩) | (go_at_call 85; refine (oQ _ _).mono ?_; rintro e w1 ⟨rfl, rfl⟩) | (go_at_call 87; refine (qQ _ _).mono ?_; rintro e w1 ⟨rfl, rfl⟩) | (go_at_call 86; refine (lQ _ _).mono ?_; rintro e w1 ⟨rfl, rfl⟩) | (go_at_call 88; refine (pQ _ _).mono ?_; rintro e w1 ⟨rfl, rfl⟩))
 go_ret
 exact ⟨rfl, HB⟩
theorem trace_valid (e : Ev) (w : World) : Calls Tryz.prog 63 #[.agg #[.int .i64 e.t, .int .i64 e.k, .int .i64 e.n, .int .i64 e.a, .int .i64 e.p, .int .i64 e.r]] w fun x w' => x = .returned (.bool (evOk e)) ∧ Below w.heap.size w w' := by
 obtain ⟨t, k, n, a, p, r⟩ := e
 cases ht : inR t 0 1073741824 with
 | false => rw [evOk_t ht]; exact valid_late t k n a p r ht w
 | true =>
  rw [evOk_k (e := ⟨t, k, n, a, p, r⟩) ht rfl]
  by_cases hk : k < 1 ∨ 9 < k
  ·exact valid_no t k n a p r ht hk w
  by_cases h1 : k = 1
  ·subst h1; exact valid_1 t n a p r ht w
  by_cases h2 : k = 2
  ·subst h2; exact valid_2 t n a p r ht w
  by_cases h3 : k = 3
  ·subst h3; exact valid_3 t n a p r ht w
  by_cases h4 : k = 4
  ·subst h4; exact valid_4 t n a p r ht w
  by_cases h5 : k = 5
  ·subst h5; exact valid_5 t n a p r ht w
  by_cases h6 : k = 6
  ·subst h6; exact valid_6 t n a p r ht w
  by_cases h7 : k = 7
  ·subst h7; exact valid_7 t n a p r ht w
  by_cases h8 : k = 8
  ·subst h8; exact valid_8 t n a p r ht w
  by_cases h9 : k = 9
  ·subst h9; exact valid_9 t n a p r ht w
  omega
end
end Go.Proofs.YtdnjflpmbnjgeaaGreat
