/-
  waypointref55.HasArc and Event: what each returns.
-/
import Derived.Test.YtdnjflpmbnjgeaaGreatEv
import Derived.Test.YtdnjflpmbnjgeaaGreatPkRef
import Derived.Deep.DeepCutAuto
namespace Go.Proofs.YtdnjflpmbnjgeaaGreat
section
open Go.RowKit Go.Sort
structure EvAt (w : World) (b : Nat) (t k n a p r : Int) : Prop where
 s0 : w.cell? ⟨b, 0, none⟩ = some (.int .i64 t)
 s1 : w.cell? ⟨b, 1, none⟩ = some (.int .i64 k)
 s2 : w.cell? ⟨b, 2, none⟩ = some (.int .i64 n)
 s3 : w.cell? ⟨b, 3, none⟩ = some (.int .i64 a)
 s4 : w.cell? ⟨b, 4, none⟩ = some (.int .i64 p)
 s5 : w.cell? ⟨b, 5, none⟩ = some (.int .i64 r)
theorem EvAt.up {w w' : World} {b : Nat} {t k n a p r : Int} (h : EvAt w b t k n a p r) (hb : Below w.heap.size w w') : EvAt w' b t k n a p r :=
 ⟨aQ hb h.s0, aQ hb h.s1, aQ hb h.s2, aQ hb h.s3, aQ hb h.s4, aQ hb h.s5⟩
theorem sQ {w : World} {b : Nat} {t k n a p r : Int} (h : EvAt w b t k n a p r) (d : Nat) : EvAt (w.drewN d) b t k n a p r := h.up (rQ (Below.refl _ _) d)
theorem mQ (r : Int) (w : World) : Calls Tryz.prog 42 #[.int .i64 r] w fun e w' => e = .returned (.bool (onArcB r)) ∧ w = w' := by
 cases h1 : (r == 3) with
 | true =>
  have HR : Hid (onArcB r = true) := hU (by simp [onArcB, h1])
  go_enter Tryz.func42, Tryz.ntmps42
  go_wp2_with fail
  go_ret
  exact ⟨by rw [HR.out]; rfl, rfl⟩
 | false =>
  cases h2 : (r == 6) with
  | true =>
   have HR : Hid (onArcB r = true) := hU (by simp [onArcB, h2])
   go_enter Tryz.func42, Tryz.ntmps42
   go_wp2_with fail
   go_ret
   exact ⟨by rw [HR.out]; rfl, rfl⟩
  | false =>
   cases h3 : (r == 7) with
   | true =>
    have HR : Hid (onArcB r = true) := hU (by simp [onArcB, h3])
    go_enter Tryz.func42, Tryz.ntmps42
    go_wp2_with fail
    go_ret
    exact ⟨by rw [HR.out]; rfl, rfl⟩
   | false =>
    have HR : Hid (onArcB r = false) := hU (by simp [onArcB, h1, h2, h3])
    go_enter Tryz.func42, Tryz.ntmps42
    go_wp2_with fail
    go_ret
    exact ⟨by rw [HR.out]; rfl, rfl⟩
set_option maxRecDepth 100000 in
set_option maxHeartbeats 40000000 in
theorem event_in (t k n a p r : Int) (ht : inR t 0 1073741824 = true) (w : World) : Calls Tryz.prog 75 #[.agg #[.int .i64 t, .int .i64 k, .int .i64 n, .int .i64 a, .int .i64 p, .int .i64 r]] w fun e w' => e = .returned (.bool (evK k n a p r)) ∧ Below w.heap.size w w' := by
 have HB := cQ w (.cells #[.int .i64 t, .int .i64 k, .int .i64 n, .int .i64 a, .int .i64 p, .int .i64 r] 43)
 have s0 : (w.alloc (.cells #[.int .i64 t, .int .i64 k, .int .i64 n, .int .i64 a, .int .i64 p, .int .i64 r] 43)).cell? ⟨w.heap.size, 0, none⟩ = some (.int .i64 t) := by simp
 have s1 : (w.alloc (.cells #[.int .i64 t, .int .i64 k, .int .i64 n, .int .i64 a, .int .i64 p, .int .i64 r] 43)).cell? ⟨w.heap.size, 1, none⟩ = some (.int .i64 k) := by simp
 have s2 : (w.alloc (.cells #[.int .i64 t, .int .i64 k, .int .i64 n, .int .i64 a, .int .i64 p, .int .i64 r] 43)).cell? ⟨w.heap.size, 2, none⟩ = some (.int .i64 n) := by simp
 have s3 : (w.alloc (.cells #[.int .i64 t, .int .i64 k, .int .i64 n, .int .i64 a, .int .i64 p, .int .i64 r] 43)).cell? ⟨w.heap.size, 3, none⟩ = some (.int .i64 a) := by simp
 have s4 : (w.alloc (.cells #[.int .i64 t, .int .i64 k, .int .i64 n, .int .i64 a, .int .i64 p, .int .i64 r] 43)).cell? ⟨w.heap.size, 4, none⟩ = some (.int .i64 p) := by simp
 have s5 : (w.alloc (.cells #[.int .i64 t, .int .i64 k, .int .i64 n, .int .i64 a, .int .i64 p, .int .i64 r] 43)).cell? ⟨w.heap.size, 5, none⟩ = some (.int .i64 r) := by simp
 have H6 : Hid (EvAt (w.alloc (.cells #[.int .i64 t, .int .i64 k, .int .i64 n, .int .i64 a, .int .i64 p, .int .i64 r] 43)) w.heap.size t k n a p r) := hU ⟨s0, s1, s2, s3, s4, s5⟩
 obtain ⟨N, hN⟩ : ∃ N, inR n 0 63 = N := ⟨_, rfl⟩
 obtain ⟨A, hA⟩ : ∃ A, inR a 0 511 = A := ⟨_, rfl⟩
 obtain ⟨P, hP⟩ : ∃ P, inR p 0 1073741824 = P := ⟨_, rfl⟩
 have HN := hU hN
 have HA := hU hA
 have HP := hU hP
 have ht0 := inR_true.1 ht
 have ht1 : ¬ t < 0 := by omega
 have ht2 : ¬ 1073741824 < t := by omega
 replace HB := hU HB
 clear hN hA hP ht ht0
 go_enter Tryz.func75, Tryz.ntmps75
 go_upto_region 1 with fail
 go_cut [3, 4, 5] (fun x3 x4 x5 wx => x3 = .bool N ∧ x4 = .bool A ∧ x5 = .bool P ∧ Hid (EvAt wx w.heap.size t k n a p r) ∧ Hid (Below w.heap.size w wx))
 case first =>
  by_cases x0 : 0 ≤ n
  ·have y0 : decide (0 ≤ n) = true := by simpa using x0
   by_cases z0 : n < 64
   ·obtain rfl : N = true := by rw [← HN.out]; exact inR_true.2 (by omega)
    have u0 : decide (n < 64) = true := by simpa using z0
    by_cases x1 : 0 ≤ a
    ·have y1 : decide (0 ≤ a) = true := by simpa using x1
     by_cases z1 : a < 512
     ·obtain rfl : A = true := by rw [← HA.out]; exact inR_true.2 (by omega)
      have u1 : decide (a < 512) = true := by simpa using z1
      by_cases x2 : 0 ≤ p
      ·have y2 : decide (0 ≤ p) = true := by simpa using x2
       by_cases z2 : p ≤ 1073741824
       ·obtain rfl : P = true := by rw [← HP.out]; exact inR_true.2 (by omega)
        have u2 : decide (p ≤ 1073741824) = true := by simpa using z2
        as_aux_lemma =>
         go_quiet (fail)
         go_wp2_with fail
         go_meet
         exact ⟨rfl, rfl, rfl, hU (sQ H6.out _), hU (rQ HB.out _)⟩
       ·obtain rfl : P = false := by rw [← HP.out]; exact inR_false.2 (by omega)
        have u2 : decide (p ≤ 1073741824) = false := by simpa using z2
        as_aux_lemma =>
         go_quiet (fail)
         go_wp2_with fail
         go_meet
         exact ⟨rfl, rfl, rfl, hU (sQ H6.out _), hU (rQ HB.out _)⟩
      ·obtain rfl : P = false := by rw [← HP.out]; exact inR_false.2 (by omega)
       have y2 : decide (0 ≤ p) = false := by simpa using x2
       as_aux_lemma =>
        go_quiet (fail)
        go_wp2_with fail
        go_meet
        exact ⟨rfl, rfl, rfl, hU (sQ H6.out _), hU (rQ HB.out _)⟩
     ·obtain rfl : A = false := by rw [← HA.out]; exact inR_false.2 (by omega)
      have u1 : decide (a < 512) = false := by simpa using z1
      by_cases x2 : 0 ≤ p
      ·have y2 : decide (0 ≤ p) = true := by simpa using x2
       by_cases z2 : p ≤ 1073741824
       ·obtain rfl : P = true := by rw [← HP.out]; exact inR_true.2 (by omega)
        have u2 : decide (p ≤ 1073741824) = true := by simpa using z2
        as_aux_lemma =>
         go_quiet (fail)
         go_wp2_with fail
         go_meet
         exact ⟨rfl, rfl, rfl, hU (sQ H6.out _), hU (rQ HB.out _)⟩
       ·obtain rfl : P = false := by rw [← HP.out]; exact inR_false.2 (by omega)
        have u2 : decide (p ≤ 1073741824) = false := by simpa using z2
        as_aux_lemma =>
         go_quiet (fail)
         go_wp2_with fail
         go_meet
         exact ⟨rfl, rfl, rfl, hU (sQ H6.out _), hU (rQ HB.out _)⟩
      ·obtain rfl : P = false := by rw [← HP.out]; exact inR_false.2 (by omega)
       have y2 : decide (0 ≤ p) = false := by simpa using x2
       as_aux_lemma =>
        go_quiet (fail)
        go_wp2_with fail
        go_meet
        exact ⟨rfl, rfl, rfl, hU (sQ H6.out _), hU (rQ HB.out _)⟩
    ·obtain rfl : A = false := by rw [← HA.out]; exact inR_false.2 (by omega)
     have y1 : decide (0 ≤ a) = false := by simpa using x1
     by_cases x2 : 0 ≤ p
     ·have y2 : decide (0 ≤ p) = true := by simpa using x2
      by_cases z2 : p ≤ 1073741824
      ·obtain rfl : P = true := by rw [← HP.out]; exact inR_true.2 (by omega)
       have u2 : decide (p ≤ 1073741824) = true := by simpa using z2
       as_aux_lemma =>
        go_quiet (fail)
        go_wp2_with fail
        go_meet
        exact ⟨rfl, rfl, rfl, hU (sQ H6.out _), hU (rQ HB.out _)⟩
      ·obtain rfl : P = false := by rw [← HP.out]; exact inR_false.2 (by omega)
       have u2 : decide (p ≤ 1073741824) = false := by simpa using z2
       as_aux_lemma =>
        go_quiet (fail)
        go_wp2_with fail
        go_meet
        exact ⟨rfl, rfl, rfl, hU (sQ H6.out _), hU (rQ HB.out _)⟩
     ·obtain rfl : P = false := by rw [← HP.out]; exact inR_false.2 (by omega)
      have y2 : decide (0 ≤ p) = false := by simpa using x2
      as_aux_lemma =>
       go_quiet (fail)
       go_wp2_with fail
       go_meet
       exact ⟨rfl, rfl, rfl, hU (sQ H6.out _), hU (rQ HB.out _)⟩
   ·obtain rfl : N = false := by rw [← HN.out]; exact inR_false.2 (by omega)
    have u0 : decide (n < 64) = false := by simpa using z0
    by_cases x1 : 0 ≤ a
    ·have y1 : decide (0 ≤ a) = true := by simpa using x1
     by_cases z1 : a < 512
     ·obtain rfl : A = true := by rw [← HA.out]; exact inR_true.2 (by omega)
      have u1 : decide (a < 512) = true := by simpa using z1
      by_cases x2 : 0 ≤ p
      ·have y2 : decide (0 ≤ p) = true := by simpa using x2
       by_cases z2 : p ≤ 1073741824
       ·obtain rfl : P = true := by rw [← HP.out]; exact inR_true.2 (by omega)
        have u2 : decide (p ≤ 1073741824) = true := by simpa using z2
        as_aux_lemma =>
         go_quiet (fail)
         go_wp2_with fail
         go_meet
         exact ⟨rfl, rfl, rfl, hU (sQ H6.out _), hU (rQ HB.out _)⟩
       ·obtain rfl : P = false := by rw [← HP.out]; exact inR_false.2 (by omega)
        have u2 : decide (p ≤ 1073741824) = false := by simpa using z2
        as_aux_lemma =>
         go_quiet (fail)
         go_wp2_with fail
         go_meet
         exact ⟨rfl, rfl, rfl, hU (sQ H6.out _), hU (rQ HB.out _)⟩
      ·obtain rfl : P = false := by rw [← HP.out]; exact inR_false.2 (by omega)
       have y2 : decide (0 ≤ p) = false := by simpa using x2
       as_aux_lemma =>
        go_quiet (fail)
        go_wp2_with fail
        go_meet
        exact ⟨rfl, rfl, rfl, hU (sQ H6.out _), hU (rQ HB.out _)⟩
     ·obtain rfl : A = false := by rw [← HA.out]; exact inR_false.2 (by omega)
      have u1 : decide (a < 512) = false := by simpa using z1
      by_cases x2 : 0 ≤ p
      ·have y2 : decide (0 ≤ p) = true := by simpa using x2
       by_cases z2 : p ≤ 1073741824
       ·obtain rfl : P = true := by rw [← HP.out]; exact inR_true.2 (by omega)
        have u2 : decide (p ≤ 1073741824) = true := by simpa using z2
        as_aux_lemma =>
         go_quiet (fail)
         go_wp2_with fail
         go_meet
         exact ⟨rfl, rfl, rfl, hU (sQ H6.out _), hU (rQ HB.out _)⟩
       ·obtain rfl : P = false := by rw [← HP.out]; exact inR_false.2 (by omega)
        have u2 : decide (p ≤ 1073741824) = false := by simpa using z2
        as_aux_lemma =>
         go_quiet (fail)
         go_wp2_with fail
         go_meet
         exact ⟨rfl, rfl, rfl, hU (sQ H6.out _), hU (rQ HB.out _)⟩
      ·obtain rfl : P = false := by rw [← HP.out]; exact inR_false.2 (by omega)
       have y2 : decide (0 ≤ p) = false := by simpa using x2
       as_aux_lemma =>
        go_quiet (fail)
        go_wp2_with fail
        go_meet
        exact ⟨rfl, rfl, rfl, hU (sQ H6.out _), hU (rQ HB.out _)⟩
    ·obtain rfl : A = false := by rw [← HA.out]; exact inR_false.2 (by omega)
     have y1 : decide (0 ≤ a) = false := by simpa using x1
     by_cases x2 : 0 ≤ p
     ·have y2 : decide (0 ≤ p) = true := by simpa using x2
      by_cases z2 : p ≤ 1073741824
      ·obtain rfl : P = true := by rw [← HP.out]; exact inR_true.2 (by omega)
       have u2 : decide (p ≤ 1073741824) = true := by simpa using z2
       as_aux_lemma =>
        go_quiet (fail)
        go_wp2_with fail
        go_meet
        exact ⟨rfl, rfl, rfl, hU (sQ H6.out _), hU (rQ HB.out _)⟩
      ·obtain rfl : P = false := by rw [← HP.out]; exact inR_false.2 (by omega)
       have u2 : decide (p ≤ 1073741824) = false := by simpa using z2
       as_aux_lemma =>
        go_quiet (fail)
        go_wp2_with fail
        go_meet
        exact ⟨rfl, rfl, rfl, hU (sQ H6.out _), hU (rQ HB.out _)⟩
     ·obtain rfl : P = false := by rw [← HP.out]; exact inR_false.2 (by omega)
      have y2 : decide (0 ≤ p) = false := by simpa using x2
      as_aux_lemma =>
       go_quiet (fail)
       go_wp2_with fail
       go_meet
       exact ⟨rfl, rfl, rfl, hU (sQ H6.out _), hU (rQ HB.out _)⟩
  ·obtain rfl : N = false := by rw [← HN.out]; exact inR_false.2 (by omega)
   have y0 : decide (0 ≤ n) = false := by simpa using x0
   by_cases x1 : 0 ≤ a
   ·have y1 : decide (0 ≤ a) = true := by simpa using x1
    by_cases z1 : a < 512
    ·obtain rfl : A = true := by rw [← HA.out]; exact inR_true.2 (by omega)
     have u1 : decide (a < 512) = true := by simpa using z1
     by_cases x2 : 0 ≤ p
     ·have y2 : decide (0 ≤ p) = true := by simpa using x2
      by_cases z2 : p ≤ 1073741824
      ·obtain rfl : P = true := by rw [← HP.out]; exact inR_true.2 (by omega)
       have u2 : decide (p ≤ 1073741824) = true := by simpa using z2
       as_aux_lemma =>
        go_quiet (fail)
        go_wp2_with fail
        go_meet
        exact ⟨rfl, rfl, rfl, hU (sQ H6.out _), hU (rQ HB.out _)⟩
      ·obtain rfl : P = false := by rw [← HP.out]; exact inR_false.2 (by omega)
       have u2 : decide (p ≤ 1073741824) = false := by simpa using z2
       as_aux_lemma =>
        go_quiet (fail)
        go_wp2_with fail
        go_meet
        exact ⟨rfl, rfl, rfl, hU (sQ H6.out _), hU (rQ HB.out _)⟩
     ·obtain rfl : P = false := by rw [← HP.out]; exact inR_false.2 (by omega)
      have y2 : decide (0 ≤ p) = false := by simpa using x2
      as_aux_lemma =>
       go_quiet (fail)
       go_wp2_with fail
       go_meet
       exact ⟨rfl, rfl, rfl, hU (sQ H6.out _), hU (rQ HB.out _)⟩
    ·obtain rfl : A = false := by rw [← HA.out]; exact inR_false.2 (by omega)
     have u1 : decide (a < 512) = false := by simpa using z1
     by_cases x2 : 0 ≤ p
     ·have y2 : decide (0 ≤ p) = true := by simpa using x2
      by_cases z2 : p ≤ 1073741824
      ·obtain rfl : P = true := by rw [← HP.out]; exact inR_true.2 (by omega)
       have u2 : decide (p ≤ 1073741824) = true := by simpa using z2
       as_aux_lemma =>
        go_quiet (fail)
        go_wp2_with fail
        go_meet
        exact ⟨rfl, rfl, rfl, hU (sQ H6.out _), hU (rQ HB.out _)⟩
      ·obtain rfl : P = false := by rw [← HP.out]; exact inR_false.2 (by omega)
       have u2 : decide (p ≤ 1073741824) = false := by simpa using z2
       as_aux_lemma =>
        go_quiet (fail)
        go_wp2_with fail
        go_meet
        exact ⟨rfl, rfl, rfl, hU (sQ H6.out _), hU (rQ HB.out _)⟩
     ·obtain rfl : P = false := by rw [← HP.out]; exact inR_false.2 (by omega)
      have y2 : decide (0 ≤ p) = false := by simpa using x2
      as_aux_lemma =>
       go_quiet (fail)
       go_wp2_with fail
       go_meet
       exact ⟨rfl, rfl, rfl, hU (sQ H6.out _), hU (rQ HB.out _)⟩
   ·obtain rfl : A = false := by rw [← HA.out]; exact inR_false.2 (by omega)
    have y1 : decide (0 ≤ a) = false := by simpa using x1
    by_cases x2 : 0 ≤ p
    ·have y2 : decide (0 ≤ p) = true := by simpa using x2
     by_cases z2 : p ≤ 1073741824
     ·obtain rfl : P = true := by rw [← HP.out]; exact inR_true.2 (by omega)
      have u2 : decide (p ≤ 1073741824) = true := by simpa using z2
      as_aux_lemma =>
       go_quiet (fail)
       go_wp2_with fail
       go_meet
       exact ⟨rfl, rfl, rfl, hU (sQ H6.out _), hU (rQ HB.out _)⟩
     ·obtain rfl : P = false := by rw [← HP.out]; exact inR_false.2 (by omega)
      have u2 : decide (p ≤ 1073741824) = false := by simpa using z2
      as_aux_lemma =>
       go_quiet (fail)
       go_wp2_with fail
       go_meet
       exact ⟨rfl, rfl, rfl, hU (sQ H6.out _), hU (rQ HB.out _)⟩
    ·obtain rfl : P = false := by rw [← HP.out]; exact inR_false.2 (by omega)
     have y2 : decide (0 ≤ p) = false := by simpa using x2
     as_aux_lemma =>
      go_quiet (fail)
      go_wp2_with fail
      go_meet
      exact ⟨rfl, rfl, rfl, hU (sQ H6.out _), hU (rQ HB.out _)⟩
 case rest =>
  clear s0 s1 s2 s3 s4 s5 H6 HB
  obtain ⟨rfl, rfl, rfl, HC, HW⟩ := hcut
  obtain ⟨s0, s1, s2, s3, s4, s5⟩ := HC.out
  clear HC
  by_cases k1 : k = 1
  ·subst k1
   as_aux_lemma =>
    cases N with
    | false =>
     have HR : Hid (evK 1 n a p r = false) := hU (by simp [evK, HN.out])
     go_wp2_with (go_at_call 42; refine (mQ _ _).mono ?_; rintro e w1 ⟨rfl, rfl⟩)
     go_ret
     exact ⟨by rw [HR.out]; rfl, HW.out⟩
    | true =>
     cases P with
     | false =>
      have HR : Hid (evK 1 n a p r = false) := hU (by simp [evK, HP.out])
      go_wp2_with (go_at_call 42; refine (mQ _ _).mono ?_; rintro e w1 ⟨rfl, rfl⟩)
      go_ret
      exact ⟨by rw [HR.out]; rfl, HW.out⟩
     | true =>
      cases c2 : (a == 0) with
      | false =>
       have HR : Hid (evK 1 n a p r = false) := hU (by simp [evK, c2])
       go_wp2_with (go_at_call 42; refine (mQ _ _).mono ?_; rintro e w1 ⟨rfl, rfl⟩)
       go_ret
       exact ⟨by rw [HR.out]; rfl, HW.out⟩
      | true =>
       cases c3 : (r == 0) with
       | false =>
        have HR : Hid (evK 1 n a p r = false) := hU (by simp [evK, c3])
        go_wp2_with (go_at_call 42; refine (mQ _ _).mono ?_; rintro e w1 ⟨rfl, rfl⟩)
        go_ret
        exact ⟨by rw [HR.out]; rfl, HW.out⟩
       | true =>
        have HR : Hid (evK 1 n a p r = true) := hU (by simp [evK, HN.out, HP.out, c2, c3])
        go_wp2_with (go_at_call 42; refine (mQ _ _).mono ?_; rintro e w1 ⟨rfl, rfl⟩)
        go_ret
        exact ⟨by rw [HR.out]; rfl, HW.out⟩
  have q1 : (k == 1) = false := by simpa using k1
  by_cases k2 : k = 2
  ·subst k2
   as_aux_lemma =>
    cases N with
    | false =>
     have HR : Hid (evK 2 n a p r = false) := hU (by simp [evK, HN.out])
     go_wp2_with (go_at_call 42; refine (mQ _ _).mono ?_; rintro e w1 ⟨rfl, rfl⟩)
     go_ret
     exact ⟨by rw [HR.out]; rfl, HW.out⟩
    | true =>
     cases A with
     | false =>
      have HR : Hid (evK 2 n a p r = false) := hU (by simp [evK, HA.out])
      go_wp2_with (go_at_call 42; refine (mQ _ _).mono ?_; rintro e w1 ⟨rfl, rfl⟩)
      go_ret
      exact ⟨by rw [HR.out]; rfl, HW.out⟩
     | true =>
      cases P with
      | false =>
       have HR : Hid (evK 2 n a p r = false) := hU (by simp [evK, HP.out])
       go_wp2_with (go_at_call 42; refine (mQ _ _).mono ?_; rintro e w1 ⟨rfl, rfl⟩)
       go_ret
       exact ⟨by rw [HR.out]; rfl, HW.out⟩
      | true =>
       cases c3 : (r == 0) with
       | false =>
        have HR : Hid (evK 2 n a p r = false) := hU (by simp [evK, c3])
        go_wp2_with (go_at_call 42; refine (mQ _ _).mono ?_; rintro e w1 ⟨rfl, rfl⟩)
        go_ret
        exact ⟨by rw [HR.out]; rfl, HW.out⟩
       | true =>
        have HR : Hid (evK 2 n a p r = true) := hU (by simp [evK, HN.out, HA.out, HP.out, c3])
        go_wp2_with (go_at_call 42; refine (mQ _ _).mono ?_; rintro e w1 ⟨rfl, rfl⟩)
        go_ret
        exact ⟨by rw [HR.out]; rfl, HW.out⟩
  have q2 : (k == 2) = false := by simpa using k2
  by_cases k3 : k = 3
  ·subst k3
   as_aux_lemma =>
    cases N with
    | false =>
     have HR : Hid (evK 3 n a p r = false) := hU (by simp [evK, HN.out])
     go_wp2_with (go_at_call 42; refine (mQ _ _).mono ?_; rintro e w1 ⟨rfl, rfl⟩)
     go_ret
     exact ⟨by rw [HR.out]; rfl, HW.out⟩
    | true =>
     cases P with
     | false =>
      have HR : Hid (evK 3 n a p r = false) := hU (by simp [evK, HP.out])
      go_wp2_with (go_at_call 42; refine (mQ _ _).mono ?_; rintro e w1 ⟨rfl, rfl⟩)
      go_ret
      exact ⟨by rw [HR.out]; rfl, HW.out⟩
     | true =>
      cases c2 : (a == 0) with
      | false =>
       have HR : Hid (evK 3 n a p r = false) := hU (by simp [evK, c2])
       go_wp2_with (go_at_call 42; refine (mQ _ _).mono ?_; rintro e w1 ⟨rfl, rfl⟩)
       go_ret
       exact ⟨by rw [HR.out]; rfl, HW.out⟩
      | true =>
       cases c3 : (r == 0) with
       | false =>
        have HR : Hid (evK 3 n a p r = false) := hU (by simp [evK, c3])
        go_wp2_with (go_at_call 42; refine (mQ _ _).mono ?_; rintro e w1 ⟨rfl, rfl⟩)
        go_ret
        exact ⟨by rw [HR.out]; rfl, HW.out⟩
       | true =>
        have HR : Hid (evK 3 n a p r = true) := hU (by simp [evK, HN.out, HP.out, c2, c3])
        go_wp2_with (go_at_call 42; refine (mQ _ _).mono ?_; rintro e w1 ⟨rfl, rfl⟩)
        go_ret
        exact ⟨by rw [HR.out]; rfl, HW.out⟩
  have q3 : (k == 3) = false := by simpa using k3
  by_cases k4 : k = 4
  ·subst k4
   as_aux_lemma =>
    cases N with
    | false =>
     have HR : Hid (evK 4 n a p r = false) := hU (by simp [evK, HN.out])
     go_wp2_with (go_at_call 42; refine (mQ _ _).mono ?_; rintro e w1 ⟨rfl, rfl⟩)
     go_ret
     exact ⟨by rw [HR.out]; rfl, HW.out⟩
    | true =>
     cases A with
     | false =>
      have ha0 : (a == 0) = false := by have := inR_false.1 HA.out; simp; omega
      have HR : Hid (evK 4 n a p r = false) := hU (by simp [evK, HA.out, ha0])
      go_wp2_with (go_at_call 42; refine (mQ _ _).mono ?_; rintro e w1 ⟨rfl, rfl⟩)
      go_ret
      exact ⟨by rw [HR.out]; rfl, HW.out⟩
     | true =>
      cases P with
      | false =>
       have HR : Hid (evK 4 n a p r = false) := hU (by simp [evK, HP.out])
       go_wp2_with (go_at_call 42; refine (mQ _ _).mono ?_; rintro e w1 ⟨rfl, rfl⟩)
       go_ret
       exact ⟨by rw [HR.out]; rfl, HW.out⟩
      | true =>
       by_cases g3 : 1 ≤ r
       ·by_cases g3b : r ≤ 8
        ·have h3 : inR r 1 8 = true := inR_true.2 ⟨g3, g3b⟩
         have g3c : r < 9 := by omega
         cases d1 : onArcB r with
         | true =>
          have HR : Hid (evK 4 n a p r = true) := hU (by simp [evK, HN.out, HA.out, HP.out, h3, d1])
          go_wp2_with (go_at_call 42; refine (mQ _ _).mono ?_; rintro e w1 ⟨rfl, rfl⟩)
          go_ret
          exact ⟨by rw [HR.out]; rfl, HW.out⟩
         | false =>
          cases d2 : (a == 0) with
          | true =>
           have HR : Hid (evK 4 n a p r = true) := hU (by simp [evK, HN.out, HP.out, h3, d2])
           go_wp2_with (go_at_call 42; refine (mQ _ _).mono ?_; rintro e w1 ⟨rfl, rfl⟩)
           go_ret
           exact ⟨by rw [HR.out]; rfl, HW.out⟩
          | false =>
           have HR : Hid (evK 4 n a p r = false) := hU (by simp [evK, d1, d2])
           go_wp2_with (go_at_call 42; refine (mQ _ _).mono ?_; rintro e w1 ⟨rfl, rfl⟩)
           go_ret
           exact ⟨by rw [HR.out]; rfl, HW.out⟩
        ·have h3 : inR r 1 8 = false := inR_false.2 (by omega)
         have g3c : ¬ r < 9 := by omega
         have g3d : 8 < r := by omega
         have HR : Hid (evK 4 n a p r = false) := hU (by simp [evK, h3])
         go_wp2_with (go_at_call 42; refine (mQ _ _).mono ?_; rintro e w1 ⟨rfl, rfl⟩)
         go_ret
         exact ⟨by rw [HR.out]; rfl, HW.out⟩
       ·have h3 : inR r 1 8 = false := inR_false.2 (by omega)
        have g3c : r < 1 := by omega
        have HR : Hid (evK 4 n a p r = false) := hU (by simp [evK, h3])
        go_wp2_with (go_at_call 42; refine (mQ _ _).mono ?_; rintro e w1 ⟨rfl, rfl⟩)
        go_ret
        exact ⟨by rw [HR.out]; rfl, HW.out⟩
  have q4 : (k == 4) = false := by simpa using k4
  by_cases k5 : k = 5
  ·subst k5
   as_aux_lemma =>
    cases c0 : (n == 0) with
    | false =>
     have HR : Hid (evK 5 n a p r = false) := hU (by simp [evK, c0])
     go_wp2_with (go_at_call 42; refine (mQ _ _).mono ?_; rintro e w1 ⟨rfl, rfl⟩)
     go_ret
     exact ⟨by rw [HR.out]; rfl, HW.out⟩
    | true =>
     cases c1 : (p == 0) with
     | false =>
      have HR : Hid (evK 5 n a p r = false) := hU (by simp [evK, c1])
      go_wp2_with (go_at_call 42; refine (mQ _ _).mono ?_; rintro e w1 ⟨rfl, rfl⟩)
      go_ret
      exact ⟨by rw [HR.out]; rfl, HW.out⟩
     | true =>
      by_cases g2 : 1 ≤ a
      ·by_cases g2b : a ≤ 3
       ·have h2 : inR a 1 3 = true := inR_true.2 ⟨g2, g2b⟩
        have g2c : a < 4 := by omega
        by_cases g3 : 0 ≤ r
        ·by_cases g3b : r ≤ 255
         ·have h3 : inR r 0 255 = true := inR_true.2 ⟨g3, g3b⟩
          have g3c : r < 256 := by omega
          have HR : Hid (evK 5 n a p r = true) := hU (by simp [evK, c0, c1, h2, h3])
          go_wp2_with (go_at_call 42; refine (mQ _ _).mono ?_; rintro e w1 ⟨rfl, rfl⟩)
          go_ret
          exact ⟨by rw [HR.out]; rfl, HW.out⟩
         ·have h3 : inR r 0 255 = false := inR_false.2 (by omega)
          have g3c : ¬ r < 256 := by omega
          have g3d : 255 < r := by omega
          have HR : Hid (evK 5 n a p r = false) := hU (by simp [evK, h3])
          go_wp2_with (go_at_call 42; refine (mQ _ _).mono ?_; rintro e w1 ⟨rfl, rfl⟩)
          go_ret
          exact ⟨by rw [HR.out]; rfl, HW.out⟩
        ·have h3 : inR r 0 255 = false := inR_false.2 (by omega)
         have g3c : r < 0 := by omega
         have HR : Hid (evK 5 n a p r = false) := hU (by simp [evK, h3])
         go_wp2_with (go_at_call 42; refine (mQ _ _).mono ?_; rintro e w1 ⟨rfl, rfl⟩)
         go_ret
         exact ⟨by rw [HR.out]; rfl, HW.out⟩
       ·have h2 : inR a 1 3 = false := inR_false.2 (by omega)
        have g2c : ¬ a < 4 := by omega
        have g2d : 3 < a := by omega
        have HR : Hid (evK 5 n a p r = false) := hU (by simp [evK, h2])
        go_wp2_with (go_at_call 42; refine (mQ _ _).mono ?_; rintro e w1 ⟨rfl, rfl⟩)
        go_ret
        exact ⟨by rw [HR.out]; rfl, HW.out⟩
      ·have h2 : inR a 1 3 = false := inR_false.2 (by omega)
       have g2c : a < 1 := by omega
       have HR : Hid (evK 5 n a p r = false) := hU (by simp [evK, h2])
       go_wp2_with (go_at_call 42; refine (mQ _ _).mono ?_; rintro e w1 ⟨rfl, rfl⟩)
       go_ret
       exact ⟨by rw [HR.out]; rfl, HW.out⟩
  have q5 : (k == 5) = false := by simpa using k5
  by_cases k6 : k = 6
  ·subst k6
   as_aux_lemma =>
    cases c0 : (n == 0) with
    | false =>
     have HR : Hid (evK 6 n a p r = false) := hU (by simp [evK, c0])
     go_wp2_with (go_at_call 42; refine (mQ _ _).mono ?_; rintro e w1 ⟨rfl, rfl⟩)
     go_ret
     exact ⟨by rw [HR.out]; rfl, HW.out⟩
    | true =>
     cases c1 : (p == 0) with
     | false =>
      have HR : Hid (evK 6 n a p r = false) := hU (by simp [evK, c1])
      go_wp2_with (go_at_call 42; refine (mQ _ _).mono ?_; rintro e w1 ⟨rfl, rfl⟩)
      go_ret
      exact ⟨by rw [HR.out]; rfl, HW.out⟩
     | true =>
      by_cases g2 : 1 ≤ a
      ·by_cases g2b : a ≤ 3
       ·have h2 : inR a 1 3 = true := inR_true.2 ⟨g2, g2b⟩
        have g2c : a < 4 := by omega
        by_cases g3 : 0 ≤ r
        ·by_cases g3b : r ≤ 255
         ·have h3 : inR r 0 255 = true := inR_true.2 ⟨g3, g3b⟩
          have g3c : r < 256 := by omega
          have HR : Hid (evK 6 n a p r = true) := hU (by simp [evK, c0, c1, h2, h3])
          go_wp2_with (go_at_call 42; refine (mQ _ _).mono ?_; rintro e w1 ⟨rfl, rfl⟩)
          go_ret
          exact ⟨by rw [HR.out]; rfl, HW.out⟩
         ·have h3 : inR r 0 255 = false := inR_false.2 (by omega)
          have g3c : ¬ r < 256 := by omega
          have g3d : 255 < r := by omega
          have HR : Hid (evK 6 n a p r = false) := hU (by simp [evK, h3])
          go_wp2_with (go_at_call 42; refine (mQ _ _).mono ?_; rintro e w1 ⟨rfl, rfl⟩)
          go_ret
          exact ⟨by rw [HR.out]; rfl, HW.out⟩
        ·have h3 : inR r 0 255 = false := inR_false.2 (by omega)
         have g3c : r < 0 := by omega
         have HR : Hid (evK 6 n a p r = false) := hU (by simp [evK, h3])
         go_wp2_with (go_at_call 42; refine (mQ _ _).mono ?_; rintro e w1 ⟨rfl, rfl⟩)
         go_ret
         exact ⟨by rw [HR.out]; rfl, HW.out⟩
       ·have h2 : inR a 1 3 = false := inR_false.2 (by omega)
        have g2c : ¬ a < 4 := by omega
        have g2d : 3 < a := by omega
        have HR : Hid (evK 6 n a p r = false) := hU (by simp [evK, h2])
        go_wp2_with (go_at_call 42; refine (mQ _ _).mono ?_; rintro e w1 ⟨rfl, rfl⟩)
        go_ret
        exact ⟨by rw [HR.out]; rfl, HW.out⟩
      ·have h2 : inR a 1 3 = false := inR_false.2 (by omega)
       have g2c : a < 1 := by omega
       have HR : Hid (evK 6 n a p r = false) := hU (by simp [evK, h2])
       go_wp2_with (go_at_call 42; refine (mQ _ _).mono ?_; rintro e w1 ⟨rfl, rfl⟩)
       go_ret
       exact ⟨by rw [HR.out]; rfl, HW.out⟩
  have q6 : (k == 6) = false := by simpa using k6
  by_cases k7 : k = 7
  ·subst k7
   as_aux_lemma =>
    cases N with
    | false =>
     have HR : Hid (evK 7 n a p r = false) := hU (by simp [evK, HN.out])
     go_wp2_with (go_at_call 42; refine (mQ _ _).mono ?_; rintro e w1 ⟨rfl, rfl⟩)
     go_ret
     exact ⟨by rw [HR.out]; rfl, HW.out⟩
    | true =>
     cases A with
     | false =>
      have HR : Hid (evK 7 n a p r = false) := hU (by simp [evK, HA.out])
      go_wp2_with (go_at_call 42; refine (mQ _ _).mono ?_; rintro e w1 ⟨rfl, rfl⟩)
      go_ret
      exact ⟨by rw [HR.out]; rfl, HW.out⟩
     | true =>
      cases c2 : (p == 0) with
      | false =>
       have HR : Hid (evK 7 n a p r = false) := hU (by simp [evK, c2])
       go_wp2_with (go_at_call 42; refine (mQ _ _).mono ?_; rintro e w1 ⟨rfl, rfl⟩)
       go_ret
       exact ⟨by rw [HR.out]; rfl, HW.out⟩
      | true =>
       cases d1 : (r == 1) with
       | true =>
        have h9 : inR r 1 2 = true := inR_true.2 (by simp at d1; omega)
        have HR : Hid (evK 7 n a p r = true) := hU (by simp [evK, HN.out, HA.out, c2, h9])
        go_wp2_with (go_at_call 42; refine (mQ _ _).mono ?_; rintro e w1 ⟨rfl, rfl⟩)
        go_ret
        exact ⟨by rw [HR.out]; rfl, HW.out⟩
       | false =>
        cases d2 : (r == 2) with
        | true =>
         have h9 : inR r 1 2 = true := inR_true.2 (by simp at d2; omega)
         have HR : Hid (evK 7 n a p r = true) := hU (by simp [evK, HN.out, HA.out, c2, h9])
         go_wp2_with (go_at_call 42; refine (mQ _ _).mono ?_; rintro e w1 ⟨rfl, rfl⟩)
         go_ret
         exact ⟨by rw [HR.out]; rfl, HW.out⟩
        | false =>
         have h9 : inR r 1 2 = false := inR_false.2 (by simp at d1 d2; omega)
         have HR : Hid (evK 7 n a p r = false) := hU (by simp [evK, h9])
         go_wp2_with (go_at_call 42; refine (mQ _ _).mono ?_; rintro e w1 ⟨rfl, rfl⟩)
         go_ret
         exact ⟨by rw [HR.out]; rfl, HW.out⟩
  have q7 : (k == 7) = false := by simpa using k7
  by_cases k8 : k = 8
  ·subst k8
   as_aux_lemma =>
    cases N with
    | false =>
     have HR : Hid (evK 8 n a p r = false) := hU (by simp [evK, HN.out])
     go_wp2_with (go_at_call 42; refine (mQ _ _).mono ?_; rintro e w1 ⟨rfl, rfl⟩)
     go_ret
     exact ⟨by rw [HR.out]; rfl, HW.out⟩
    | true =>
     cases c1 : (a == 0) with
     | false =>
      have HR : Hid (evK 8 n a p r = false) := hU (by simp [evK, c1])
      go_wp2_with (go_at_call 42; refine (mQ _ _).mono ?_; rintro e w1 ⟨rfl, rfl⟩)
      go_ret
      exact ⟨by rw [HR.out]; rfl, HW.out⟩
     | true =>
      cases c2 : (p == 0) with
      | false =>
       have HR : Hid (evK 8 n a p r = false) := hU (by simp [evK, c2])
       go_wp2_with (go_at_call 42; refine (mQ _ _).mono ?_; rintro e w1 ⟨rfl, rfl⟩)
       go_ret
       exact ⟨by rw [HR.out]; rfl, HW.out⟩
      | true =>
       by_cases g3 : 0 ≤ r
       ·by_cases g3b : r ≤ 3
        ·have h3 : inR r 0 3 = true := inR_true.2 ⟨g3, g3b⟩
         have g3c : r < 4 := by omega
         have HR : Hid (evK 8 n a p r = true) := hU (by simp [evK, HN.out, c1, c2, h3])
         go_wp2_with (go_at_call 42; refine (mQ _ _).mono ?_; rintro e w1 ⟨rfl, rfl⟩)
         go_ret
         exact ⟨by rw [HR.out]; rfl, HW.out⟩
        ·have h3 : inR r 0 3 = false := inR_false.2 (by omega)
         have g3c : ¬ r < 4 := by omega
         have g3d : 3 < r := by omega
         have HR : Hid (evK 8 n a p r = false) := hU (by simp [evK, h3])
         go_wp2_with (go_at_call 42; refine (mQ _ _).mono ?_; rintro e w1 ⟨rfl, rfl⟩)
         go_ret
         exact ⟨by rw [HR.out]; rfl, HW.out⟩
       ·have h3 : inR r 0 3 = false := inR_false.2 (by omega)
        have g3c : r < 0 := by omega
        have HR : Hid (evK 8 n a p r = false) := hU (by simp [evK, h3])
        go_wp2_with (go_at_call 42; refine (mQ _ _).mono ?_; rintro e w1 ⟨rfl, rfl⟩)
        go_ret
        exact ⟨by rw [HR.out]; rfl, HW.out⟩
  have q8 : (k == 8) = false := by simpa using k8
  by_cases k9 : k = 9
  ·subst k9
   as_aux_lemma =>
    cases N with
    | false =>
     have HR : Hid (evK 9 n a p r = false) := hU (by simp [evK, HN.out])
     go_wp2_with (go_at_call 42; refine (mQ _ _).mono ?_; rintro e w1 ⟨rfl, rfl⟩)
     go_ret
     exact ⟨by rw [HR.out]; rfl, HW.out⟩
    | true =>
     by_cases g1 : 0 ≤ a
     ·by_cases g1b : a ≤ 63
      ·have h1 : inR a 0 63 = true := inR_true.2 ⟨g1, g1b⟩
       have g1c : a < 64 := by omega
       cases c2 : (p == 0) with
       | false =>
        have HR : Hid (evK 9 n a p r = false) := hU (by simp [evK, c2])
        go_wp2_with (go_at_call 42; refine (mQ _ _).mono ?_; rintro e w1 ⟨rfl, rfl⟩)
        go_ret
        exact ⟨by rw [HR.out]; rfl, HW.out⟩
       | true =>
        cases c3 : (r == 0) with
        | false =>
         have HR : Hid (evK 9 n a p r = false) := hU (by simp [evK, c3])
         go_wp2_with (go_at_call 42; refine (mQ _ _).mono ?_; rintro e w1 ⟨rfl, rfl⟩)
         go_ret
         exact ⟨by rw [HR.out]; rfl, HW.out⟩
        | true =>
         have HR : Hid (evK 9 n a p r = true) := hU (by simp [evK, HN.out, h1, c2, c3])
         go_wp2_with (go_at_call 42; refine (mQ _ _).mono ?_; rintro e w1 ⟨rfl, rfl⟩)
         go_ret
         exact ⟨by rw [HR.out]; rfl, HW.out⟩
      ·have h1 : inR a 0 63 = false := inR_false.2 (by omega)
       have g1c : ¬ a < 64 := by omega
       have g1d : 63 < a := by omega
       have HR : Hid (evK 9 n a p r = false) := hU (by simp [evK, h1])
       go_wp2_with (go_at_call 42; refine (mQ _ _).mono ?_; rintro e w1 ⟨rfl, rfl⟩)
       go_ret
       exact ⟨by rw [HR.out]; rfl, HW.out⟩
     ·have h1 : inR a 0 63 = false := inR_false.2 (by omega)
      have g1c : a < 0 := by omega
      have HR : Hid (evK 9 n a p r = false) := hU (by simp [evK, h1])
      go_wp2_with (go_at_call 42; refine (mQ _ _).mono ?_; rintro e w1 ⟨rfl, rfl⟩)
      go_ret
      exact ⟨by rw [HR.out]; rfl, HW.out⟩
  have q9 : (k == 9) = false := by simpa using k9
  have HR : Hid (evK k n a p r = false) := hU (evK_no (by omega))
  clear k1 k2 k3 k4 k5 k6 k7 k8 k9
  go_wp2_with (go_at_call 42; refine (mQ _ _).mono ?_; rintro e w1 ⟨rfl, rfl⟩)
  go_ret
  exact ⟨by rw [HR.out]; rfl, HW.out⟩
end
end Go.Proofs.YtdnjflpmbnjgeaaGreat
