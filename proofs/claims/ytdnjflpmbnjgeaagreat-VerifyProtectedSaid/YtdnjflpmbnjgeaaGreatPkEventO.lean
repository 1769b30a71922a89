/-
  waypointref55.Event at an event whose time is out of range, and at every event: what it returns.
  waypointref55.Valid (out of the trace laws' text; printed by gen_vt.py).
-/
import Derived.Test.YtdnjflpmbnjgeaaGreatEvent
import Derived.Test.YtdnjflpmbnjgeaaGreatPkEvs
namespace Go.Proofs.YtdnjflpmbnjgeaaGreat
section
open Go.RowKit Go.Sort
set_option maxRecDepth 100000 in
set_option maxHeartbeats 40000000 in
theorem event_out (t k n a p r : Int) (ht : inR t 0 1073741824 = false) (w : World) : Calls Tryz.prog 75 #[.agg #[.int .i64 t, .int .i64 k, .int .i64 n, .int .i64 a, .int .i64 p, .int .i64 r]] w fun e w' => e = .returned (.bool false) ∧ Below w.heap.size w w' := by
 have HB := cQ w (.cells #[.int .i64 t, .int .i64 k, .int .i64 n, .int .i64 a, .int .i64 p, .int .i64 r] 43)
 have s0 : (w.alloc (.cells #[.int .i64 t, .int .i64 k, .int .i64 n, .int .i64 a, .int .i64 p, .int .i64 r] 43)).cell? ⟨w.heap.size, 0, none⟩ = some (.int .i64 t) := by simp
 have s1 : (w.alloc (.cells #[.int .i64 t, .int .i64 k, .int .i64 n, .int .i64 a, .int .i64 p, .int .i64 r] 43)).cell? ⟨w.heap.size, 1, none⟩ = some (.int .i64 k) := by simp
 have s2 : (w.alloc (.cells #[.int .i64 t, .int .i64 k, .int .i64 n, .int .i64 a, .int .i64 p, .int .i64 r] 43)).cell? ⟨w.heap.size, 2, none⟩ = some (.int .i64 n) := by simp
 have s3 : (w.alloc (.cells #[.int .i64 t, .int .i64 k, .int .i64 n, .int .i64 a, .int .i64 p, .int .i64 r] 43)).cell? ⟨w.heap.size, 3, none⟩ = some (.int .i64 a) := by simp
 have s4 : (w.alloc (.cells #[.int .i64 t, .int .i64 k, .int .i64 n, .int .i64 a, .int .i64 p, .int .i64 r] 43)).cell? ⟨w.heap.size, 4, none⟩ = some (.int .i64 p) := by simp
 have s5 : (w.alloc (.cells #[.int .i64 t, .int .i64 k, .int .i64 n, .int .i64 a, .int .i64 p, .int .i64 r] 43)).cell? ⟨w.heap.size, 5, none⟩ = some (.int .i64 r) := by simp
 have H6 : Hid (EvAt (w.alloc (.cells #[.int .i64 t, .int .i64 k, .int .i64 n, .int .i64 a, .int .i64 p, .int .i64 r] 43)) w.heap.size t k n a p r) := hU ⟨s0, s1, s2, s3, s4, s5⟩
 obtain ⟨N, hN⟩ : ∃ N, inR n 0 63 = N := ⟨_, rfl⟩
 obtain ⟨A, hA⟩ : ∃ A, inR a 0 511 = A := ⟨_, rfl⟩
 obtain ⟨P, hP⟩ : ∃ P, inR p 0 1073741824 = P := ⟨_, rfl⟩
 have HN := hU hN
 have HA := hU hA
 have HP := hU hP
 have ht0 := inR_false.1 ht
 replace HB := hU HB
 clear hN hA hP ht
 go_enter Tryz.func75, Tryz.ntmps75
 go_upto_region 1 with fail
 go_cut [3, 4, 5] (fun x3 x4 x5 wx => x3 = .bool N ∧ x4 = .bool A ∧ x5 = .bool P ∧ Hid (EvAt wx w.heap.size t k n a p r) ∧ Hid (Below w.heap.size w wx))
 case first =>
  clear ht0
  by_cases x0 : 0 ≤ n
  ·have y0 : decide (0 ≤ n) = true := by simpa using x0
   by_cases z0 : n < 64
   ·obtain rfl : N = true := by rw [← HN.out]; exact inR_true.2 (by omega)
    have u0 : decide (n < 64) = true := by simpa using z0
    by_cases x1 : 0 ≤ a
    ·have y1 : decide (0 ≤ a) = true := by simpa using x1
     by_cases z1 : a < 512
     ·obtain rfl : A = true := by rw [← HA.out]; exact inR_true.2 (by omega)
      have u1 : decide (a < 512) = true := by simpa using z1
      by_cases x2 : 0 ≤ p
      ·have y2 : decide (0 ≤ p) = true := by simpa using x2
       by_cases z2 : p ≤ 1073741824
       ·obtain rfl : P = true := by rw [← HP.out]; exact inR_true.2 (by omega)
        have u2 : decide (p ≤ 1073741824) = true := by simpa using z2
        as_aux_lemma =>
         go_quiet (fail)
         go_wp2_with fail
         go_meet
         exact ⟨rfl, rfl, rfl, hU (sQ H6.out _), hU (rQ HB.out _)⟩
       ·obtain rfl : P = false := by rw [← HP.out]; exact inR_false.2 (by omega)
        have u2 : decide (p ≤ 1073741824) = false := by simpa using z2
        as_aux_lemma =>
         go_quiet (fail)
         go_wp2_with fail
         go_meet
         exact ⟨rfl, rfl, rfl, hU (sQ H6.out _), hU (rQ HB.out _)⟩
      ·obtain rfl : P = false := by rw [← HP.out]; exact inR_false.2 (by omega)
       have y2 : decide (0 ≤ p) = false := by simpa using x2
       as_aux_lemma =>
        go_quiet (fail)
        go_wp2_with fail
        go_meet
        exact ⟨rfl, rfl, rfl, hU (sQ H6.out _), hU (rQ HB.out _)⟩
     ·obtain rfl : A = false := by rw [← HA.out]; exact inR_false.2 (by omega)
      have u1 : decide (a < 512) = false := by simpa using z1
      by_cases x2 : 0 ≤ p
      ·have y2 : decide (0 ≤ p) = true := by simpa using x2
       by_cases z2 : p ≤ 1073741824
       ·obtain rfl : P = true := by rw [← HP.out]; exact inR_true.2 (by omega)
        have u2 : decide (p ≤ 1073741824) = true := by simpa using z2
        as_aux_lemma =>
         go_quiet (fail)
         go_wp2_with fail
         go_meet
         exact ⟨rfl, rfl, rfl, hU (sQ H6.out _), hU (rQ HB.out _)⟩
       ·obtain rfl : P = false := by rw [← HP.out]; exact inR_false.2 (by omega)
        have u2 : decide (p ≤ 1073741824) = false := by simpa using z2
        as_aux_lemma =>
         go_quiet (fail)
         go_wp2_with fail
         go_meet
         exact ⟨rfl, rfl, rfl, hU (sQ H6.out _), hU (rQ HB.out _)⟩
      ·obtain rfl : P = false := by rw [← HP.out]; exact inR_false.2 (by omega)
       have y2 : decide (0 ≤ p) = false := by simpa using x2
       as_aux_lemma =>
        go_quiet (fail)
        go_wp2_with fail
        go_meet
        exact ⟨rfl, rfl, rfl, hU (sQ H6.out _), hU (rQ HB.out _)⟩
    ·obtain rfl : A = false := by rw [← HA.out]; exact inR_false.2 (by omega)
     have y1 : decide (0 ≤ a) = false := by simpa using x1
     by_cases x2 : 0 ≤ p
     ·have y2 : decide (0 ≤ p) = true := by simpa using x2
      by_cases z2 : p ≤ 1073741824
      ·obtain rfl : P = true := by rw [← HP.out]; exact inR_true.2 (by omega)
       have u2 : decide (p ≤ 1073741824) = true := by simpa using z2
       as_aux_lemma =>
        go_quiet (fail)
        go_wp2_with fail
        go_meet
        exact ⟨rfl, rfl, rfl, hU (sQ H6.out _), hU (rQ HB.out _)⟩
      ·obtain rfl : P = false := by rw [← HP.out]; exact inR_false.2 (by omega)
       have u2 : decide (p ≤ 1073741824) = false := by simpa using z2
       as_aux_lemma =>
        go_quiet (fail)
        go_wp2_with fail
        go_meet
        exact ⟨rfl, rfl, rfl, hU (sQ H6.out _), hU (rQ HB.out _)⟩
     ·obtain rfl : P = false := by rw [← HP.out]; exact inR_false.2 (by omega)
      have y2 : decide (0 ≤ p) = false := by simpa using x2
      as_aux_lemma =>
       go_quiet (fail)
       go_wp2_with fail
       go_meet
       exact ⟨rfl, rfl, rfl, hU (sQ H6.out _), hU (rQ HB.out _)⟩
   ·obtain rfl : N = false := by rw [← HN.out]; exact inR_false.2 (by omega)
    have u0 : decide (n < 64) = false := by simpa using z0
    by_cases x1 : 0 ≤ a
    ·have y1 : decide (0 ≤ a) = true := by simpa using x1
     by_cases z1 : a < 512
     ·obtain rfl : A = true := by rw [← HA.out]; exact inR_true.2 (by omega)
      have u1 : decide (a < 512) = true := by simpa using z1
      by_cases x2 : 0 ≤ p
      ·have y2 : decide (0 ≤ p) = true := by simpa using x2
       by_cases z2 : p ≤ 1073741824
       ·obtain rfl : P = true := by rw [← HP.out]; exact inR_true.2 (by omega)
        have u2 : decide (p ≤ 1073741824) = true := by simpa using z2
        as_aux_lemma =>
         go_quiet (fail)
         go_wp2_with fail
         go_meet
         exact ⟨rfl, rfl, rfl, hU (sQ H6.out _), hU (rQ HB.out _)⟩
       ·obtain rfl : P = false := by rw [← HP.out]; exact inR_false.2 (by omega)
        have u2 : decide (p ≤ 1073741824) = false := by simpa using z2
        as_aux_lemma =>
         go_quiet (fail)
         go_wp2_with fail
         go_meet
         exact ⟨rfl, rfl, rfl, hU (sQ H6.out _), hU (rQ HB.out _)⟩
      ·obtain rfl : P = false := by rw [← HP.out]; exact inR_false.2 (by omega)
       have y2 : decide (0 ≤ p) = false := by simpa using x2
       as_aux_lemma =>
        go_quiet (fail)
        go_wp2_with fail
        go_meet
        exact ⟨rfl, rfl, rfl, hU (sQ H6.out _), hU (rQ HB.out _)⟩
     ·obtain rfl : A = false := by rw [← HA.out]; exact inR_false.2 (by omega)
      have u1 : decide (a < 512) = false := by simpa using z1
      by_cases x2 : 0 ≤ p
      ·have y2 : decide (0 ≤ p) = true := by simpa using x2
       by_cases z2 : p ≤ 1073741824
       ·obtain rfl : P = true := by rw [← HP.out]; exact inR_true.2 (by omega)
        have u2 : decide (p ≤ 1073741824) = true := by simpa using z2
        as_aux_lemma =>
         go_quiet (fail)
         go_wp2_with fail
         go_meet
         exact ⟨rfl, rfl, rfl, hU (sQ H6.out _), hU (rQ HB.out _)⟩
       ·obtain rfl : P = false := by rw [← HP.out]; exact inR_false.2 (by omega)
        have u2 : decide (p ≤ 1073741824) = false := by simpa using z2
        as_aux_lemma =>
         go_quiet (fail)
         go_wp2_with fail
         go_meet
         exact ⟨rfl, rfl, rfl, hU (sQ H6.out _), hU (rQ HB.out _)⟩
      ·obtain rfl : P = false := by rw [← HP.out]; exact inR_false.2 (by omega)
       have y2 : decide (0 ≤ p) = false := by simpa using x2
       as_aux_lemma =>
        go_quiet (fail)
        go_wp2_with fail
        go_meet
        exact ⟨rfl, rfl, rfl, hU (sQ H6.out _), hU (rQ HB.out _)⟩
    ·obtain rfl : A = false := by rw [← HA.out]; exact inR_false.2 (by omega)
     have y1 : decide (0 ≤ a) = false := by simpa using x1
     by_cases x2 : 0 ≤ p
     ·have y2 : decide (0 ≤ p) = true := by simpa using x2
      by_cases z2 : p ≤ 1073741824
      ·obtain rfl : P = true := by rw [← HP.out]; exact inR_true.2 (by omega)
       have u2 : decide (p ≤ 1073741824) = true := by simpa using z2
       as_aux_lemma =>
        go_quiet (fail)
        go_wp2_with fail
        go_meet
        exact ⟨rfl, rfl, rfl, hU (sQ H6.out _), hU (rQ HB.out _)⟩
      ·obtain rfl : P = false := by rw [← HP.out]; exact inR_false.2 (by omega)
       have u2 : decide (p ≤ 1073741824) = false := by simpa using z2
       as_aux_lemma =>
        go_quiet (fail)
        go_wp2_with fail
        go_meet
        exact ⟨rfl, rfl, rfl, hU (sQ H6.out _), hU (rQ HB.out _)⟩
     ·obtain rfl : P = false := by rw [← HP.out]; exact inR_false.2 (by omega)
      have y2 : decide (0 ≤ p) = false := by simpa using x2
      as_aux_lemma =>
       go_quiet (fail)
       go_wp2_with fail
       go_meet
       exact ⟨rfl, rfl, rfl, hU (sQ H6.out _), hU (rQ HB.out _)⟩
  ·obtain rfl : N = false := by rw [← HN.out]; exact inR_false.2 (by omega)
   have y0 : decide (0 ≤ n) = false := by simpa using x0
   by_cases x1 : 0 ≤ a
   ·have y1 : decide (0 ≤ a) = true := by simpa using x1
    by_cases z1 : a < 512
    ·obtain rfl : A = true := by rw [← HA.out]; exact inR_true.2 (by omega)
     have u1 : decide (a < 512) = true := by simpa using z1
     by_cases x2 : 0 ≤ p
     ·have y2 : decide (0 ≤ p) = true := by simpa using x2
      by_cases z2 : p ≤ 1073741824
      ·obtain rfl : P = true := by rw [← HP.out]; exact inR_true.2 (by omega)
       have u2 : decide (p ≤ 1073741824) = true := by simpa using z2
       as_aux_lemma =>
        go_quiet (fail)
        go_wp2_with fail
        go_meet
        exact ⟨rfl, rfl, rfl, hU (sQ H6.out _), hU (rQ HB.out _)⟩
      ·obtain rfl : P = false := by rw [← HP.out]; exact inR_false.2 (by omega)
       have u2 : decide (p ≤ 1073741824) = false := by simpa using z2
       as_aux_lemma =>
        go_quiet (fail)
        go_wp2_with fail
        go_meet
        exact ⟨rfl, rfl, rfl, hU (sQ H6.out _), hU (rQ HB.out _)⟩
     ·obtain rfl : P = false := by rw [← HP.out]; exact inR_false.2 (by omega)
      have y2 : decide (0 ≤ p) = false := by simpa using x2
      as_aux_lemma =>
       go_quiet (fail)
       go_wp2_with fail
       go_meet
       exact ⟨rfl, rfl, rfl, hU (sQ H6.out _), hU (rQ HB.out _)⟩
    ·obtain rfl : A = false := by rw [← HA.out]; exact inR_false.2 (by omega)
     have u1 : decide (a < 512) = false := by simpa using z1
     by_cases x2 : 0 ≤ p
     ·have y2 : decide (0 ≤ p) = true := by simpa using x2
      by_cases z2 : p ≤ 1073741824
      ·obtain rfl : P = true := by rw [← HP.out]; exact inR_true.2 (by omega)
       have u2 : decide (p ≤ 1073741824) = true := by simpa using z2
       as_aux_lemma =>
        go_quiet (fail)
        go_wp2_with fail
        go_meet
        exact ⟨rfl, rfl, rfl, hU (sQ H6.out _), hU (rQ HB.out _)⟩
      ·obtain rfl : P = false := by rw [← HP.out]; exact inR_false.2 (by omega)
       have u2 : decide (p ≤ 1073741824) = false := by simpa using z2
       as_aux_lemma =>
        go_quiet (fail)
        go_wp2_with fail
        go_meet
        exact ⟨rfl, rfl, rfl, hU (sQ H6.out _), hU (rQ HB.out _)⟩
     ·obtain rfl : P = false := by rw [← HP.out]; exact inR_false.2 (by omega)
      have y2 : decide (0 ≤ p) = false := by simpa using x2
      as_aux_lemma =>
       go_quiet (fail)
       go_wp2_with fail
       go_meet
       exact ⟨rfl, rfl, rfl, hU (sQ H6.out _), hU (rQ HB.out _)⟩
   ·obtain rfl : A = false := by rw [← HA.out]; exact inR_false.2 (by omega)
    have y1 : decide (0 ≤ a) = false := by simpa using x1
    by_cases x2 : 0 ≤ p
    ·have y2 : decide (0 ≤ p) = true := by simpa using x2
     by_cases z2 : p ≤ 1073741824
     ·obtain rfl : P = true := by rw [← HP.out]; exact inR_true.2 (by omega)
      have u2 : decide (p ≤ 1073741824) = true := by simpa using z2
      as_aux_lemma =>
       go_quiet (fail)
       go_wp2_with fail
       go_meet
       exact ⟨rfl, rfl, rfl, hU (sQ H6.out _), hU (rQ HB.out _)⟩
     ·obtain rfl : P = false := by rw [← HP.out]; exact inR_false.2 (by omega)
      have u2 : decide (p ≤ 1073741824) = false := by simpa using z2
      as_aux_lemma =>
       go_quiet (fail)
       go_wp2_with fail
       go_meet
       exact ⟨rfl, rfl, rfl, hU (sQ H6.out _), hU (rQ HB.out _)⟩
    ·obtain rfl : P = false := by rw [← HP.out]; exact inR_false.2 (by omega)
     have y2 : decide (0 ≤ p) = false := by simpa using x2
     as_aux_lemma =>
      go_quiet (fail)
      go_wp2_with fail
      go_meet
      exact ⟨rfl, rfl, rfl, hU (sQ H6.out _), hU (rQ HB.out _)⟩
 case rest =>
  clear s0 s1 s2 s3 s4 s5 H6 HB
  obtain ⟨rfl, rfl, rfl, HC, HW⟩ := hcut
  obtain ⟨s0, s1, s2, s3, s4, s5⟩ := HC.out
  clear HC
  by_cases h1 : t < 0
  ·go_wp2_with fail
   go_ret
   exact ⟨rfl, HW.out⟩
  ·have h2 : 1073741824 < t := by omega
   clear ht0
   go_wp2_with fail
   go_ret
   exact ⟨rfl, HW.out⟩
theorem ref55_Event (e : Ev) (w : World) : Calls Tryz.prog 75 #[.agg #[.int .i64 e.t, .int .i64 e.k, .int .i64 e.n, .int .i64 e.a, .int .i64 e.p, .int .i64 e.r]] w fun x w' => x = .returned (.bool (evOk e)) ∧ Below w.heap.size w w' := by
 cases ht : inR e.t 0 1073741824 with
 | false => rw [evOk_t ht]; exact event_out _ _ _ _ _ _ ht w
 | true => rw [evOk_k ht rfl]; exact event_in _ _ _ _ _ _ ht w
set_option maxRecDepth 100000 in
set_option maxHeartbeats 2000000 in
theorem ref55_Valid (A : Option Addr) (c : Nat) (l : List Ev) (w : World) (hA : RdE w A l) (hm : l.length ≤ 4611686018427387904) :
    Calls Tryz.prog 41 #[.slice A l.length c] w fun e w' => e = .returned (.bool (trOk l)) ∧ Below w.heap.size w w' := by
 obtain ⟨V, hV⟩ : ∃ V, V = trOk l := ⟨_, rfl⟩
 rw [← hV]
 have HV := hU hV
 have HA := hU hA
 clear hV hA
 go_enter Tryz.func41, Tryz.ntmps41
 go_wp2_with fail
 go_loopw [3] (fun i wr => ∃ k : Nat, k ≤ l.length ∧ i = .int .i64 k ∧ Hid (∀ j, j < k → goodE l j = true) ∧ Hid (Below w.heap.size w wr)) (fun i _ => l.length - (intOf i).toNat)
 case atStart => exact ⟨0, Nat.zero_le _, rfl, hU (fun j hj => absurd hj (Nat.not_lt_zero _)), hU (Below.refl _ _)⟩
 case round =>
  obtain ⟨k, hk, rfl, HJ, HW⟩ := hrel
  by_cases hlt : k < l.length
  ·by_cases hk0 : k = 0
   ·subst hk0
    obtain ⟨b, o, e, rfl, he, hc⟩ := (HA.out.below HW.out).at_ hlt
    obtain ⟨q0, q1, q2, q3, q4, q5⟩ := hc
    simp only [Nat.zero_mul, Nat.add_zero] at q0 q1 q2 q3 q4 q5
    have HE := hU he
    clear he hk
    have hlt' : decide (0 < l.length) = true := by simpa using hlt
    cases hok : evOk e with
    | false =>
     have HR : Hid (V = false) := hU (by rw [HV.out]; exact trOk_bad hlt (good_ev HE.out hok))
     go_wp2_with fail
     obtain ⟨P1, P2, P3, P4, P5, P6, -⟩ := kU q0 (kU q1 (kU q2 (kU q3 (kU q4 (kU q5 trivial)))))
     refine wp_region_quiet_below (by kernel_rfl) (by kernel_rfl) ?_
     repeat (go_big_quiet_step ((first | exact Calls.regrown_of (hok ▸ ref55_Event e _))))
     refine wpQuiet_nil ?_
     intro w2 hb2
     replace hb2 := eQ hb2
     clear P1 P2 P3 P4 P5 P6
     have zU := uU hb2 q0 (uU hb2 q1 (uU hb2 q2 (uU hb2 q3 (uU hb2 q4 (uU hb2 q5 trivial))))); clear q0 q1 q2 q3 q4 q5; obtain ⟨q0, q1, q2, q3, q4, q5, -⟩ := zU
     go_wp2_with fail
     go_ret
     exact ⟨by rw [HR.out]; rfl, bQ HW.out hb2⟩
    | true =>
     have HG := hU (good_next HJ.out (good_0 HE.out hok))
     go_wp2_with fail
     obtain ⟨P1, P2, P3, P4, P5, P6, -⟩ := kU q0 (kU q1 (kU q2 (kU q3 (kU q4 (kU q5 trivial)))))
     refine wp_region_quiet_below (by kernel_rfl) (by kernel_rfl) ?_
     repeat (go_big_quiet_step ((first | exact Calls.regrown_of (hok ▸ ref55_Event e _))))
     refine wpQuiet_nil ?_
     intro w2 hb2
     replace hb2 := eQ hb2
     clear P1 P2 P3 P4 P5 P6
     have zU := uU hb2 q0 (uU hb2 q1 (uU hb2 q2 (uU hb2 q3 (uU hb2 q4 (uU hb2 q5 trivial))))); clear q0 q1 q2 q3 q4 q5; obtain ⟨q0, q1, q2, q3, q4, q5, -⟩ := zU
     go_wp2_with fail
     go_roundw
     case rel => exact ⟨1, by omega, by go_num, HG, hU (bQ HW.out hb2)⟩
     case measure => simp [intOf]; omega
   ·obtain ⟨j, rfl⟩ : ∃ j, k = j + 1 := ⟨k - 1, by omega⟩
    obtain ⟨b, o, d, e, rfl, hd, he, hcd, hc⟩ := (HA.out.below HW.out).two hlt
    obtain ⟨q0, q1, q2, q3, q4, q5⟩ := hc
    have d0 := hcd.q0
    have HD := hU hd
    have HE := hU he
    have hj2 : (j : Int) < (l.length : Int) := by omega
    have hj3 : (j : Int) + 1 < (l.length : Int) := by omega
    clear he hk hk0 hd hcd
    cases hok : evOk e with
    | false =>
     have HR : Hid (V = false) := hU (by rw [HV.out]; exact trOk_bad hlt (good_ev HE.out hok))
     go_wp2_with fail
     obtain ⟨P1, P2, P3, P4, P5, P6, P7, -⟩ := kU q0 (kU q1 (kU q2 (kU q3 (kU q4 (kU q5 (kU d0 trivial))))))
     refine wp_region_quiet_below (by kernel_rfl) (by kernel_rfl) ?_
     repeat (go_big_quiet_step ((first | exact Calls.regrown_of (hok ▸ ref55_Event e _))))
     refine wpQuiet_nil ?_
     intro w2 hb2
     replace hb2 := eQ hb2
     clear P1 P2 P3 P4 P5 P6 P7
     have zU := uU hb2 q0 (uU hb2 q1 (uU hb2 q2 (uU hb2 q3 (uU hb2 q4 (uU hb2 q5 (uU hb2 d0 trivial)))))); clear q0 q1 q2 q3 q4 q5 d0; obtain ⟨q0, q1, q2, q3, q4, q5, d0, -⟩ := zU
     go_wp2_with fail
     go_ret
     exact ⟨by rw [HR.out]; rfl, bQ HW.out hb2⟩
    | true =>
     have HG := hU (good_s HD.out HE.out hok)
     by_cases hlate : e.t < d.t
     ·have HR : Hid (V = false) := hU (by rw [HV.out]; exact trOk_bad hlt (by rw [HG.out]; simpa using hlate))
      go_wp2_with fail
      obtain ⟨P1, P2, P3, P4, P5, P6, P7, -⟩ := kU q0 (kU q1 (kU q2 (kU q3 (kU q4 (kU q5 (kU d0 trivial))))))
      refine wp_region_quiet_below (by kernel_rfl) (by kernel_rfl) ?_
      repeat (go_big_quiet_step ((first | exact Calls.regrown_of (hok ▸ ref55_Event e _))))
      refine wpQuiet_nil ?_
      intro w2 hb2
      replace hb2 := eQ hb2
      clear P1 P2 P3 P4 P5 P6 P7
      have zU := uU hb2 q0 (uU hb2 q1 (uU hb2 q2 (uU hb2 q3 (uU hb2 q4 (uU hb2 q5 (uU hb2 d0 trivial)))))); clear q0 q1 q2 q3 q4 q5 d0; obtain ⟨q0, q1, q2, q3, q4, q5, d0, -⟩ := zU
      go_wp2_with fail
      go_ret
      exact ⟨by rw [HR.out]; rfl, bQ HW.out hb2⟩
     ·have HG' := hU (good_next HJ.out (by rw [HG.out]; simpa using hlate))
      go_wp2_with fail
      obtain ⟨P1, P2, P3, P4, P5, P6, P7, -⟩ := kU q0 (kU q1 (kU q2 (kU q3 (kU q4 (kU q5 (kU d0 trivial))))))
      refine wp_region_quiet_below (by kernel_rfl) (by kernel_rfl) ?_
      repeat (go_big_quiet_step ((first | exact Calls.regrown_of (hok ▸ ref55_Event e _))))
      refine wpQuiet_nil ?_
      intro w2 hb2
      replace hb2 := eQ hb2
      clear P1 P2 P3 P4 P5 P6 P7
      have zU := uU hb2 q0 (uU hb2 q1 (uU hb2 q2 (uU hb2 q3 (uU hb2 q4 (uU hb2 q5 (uU hb2 d0 trivial)))))); clear q0 q1 q2 q3 q4 q5 d0; obtain ⟨q0, q1, q2, q3, q4, q5, d0, -⟩ := zU
      go_wp2_with fail
      go_roundw
      case rel => exact ⟨j + 1 + 1, by omega, by go_num, HG', hU (bQ HW.out hb2)⟩
      case measure => simp [intOf]; omega
  ·obtain rfl : k = l.length := by omega
   have HR : Hid (V = true) := hU (by rw [HV.out]; exact trOk_of HJ.out)
   go_wp2_with fail
   go_ret
   exact ⟨by rw [HR.out]; rfl, HW.out⟩
end
end Go.Proofs.YtdnjflpmbnjgeaaGreat
