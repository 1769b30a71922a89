/-
  waypointref55.Event at an event whose time is out of range, and at every event: what it returns.
-/
import Derived.Test.YtjcnjnonhncelaaDoorEvent
namespace Go.Proofs.YtjcnjnonhncelaaDoor
open Go.RowKit Go.Sort

set_option maxRecDepth 100000 in
set_option maxHeartbeats 40000000 in
theorem event_out (t k n a p r : Int) (ht : inR t 0 1073741824 = false) (w : World) : Calls Tryd.prog 32 #[.agg #[.int .i64 t, .int .i64 k, .int .i64 n, .int .i64 a, .int .i64 p, .int .i64 r]] w fun e w' => e = .returned (.bool false) ∧ Below w.heap.size w w' := by
  have HB := below_box w (.cells #[.int .i64 t, .int .i64 k, .int .i64 n, .int .i64 a, .int .i64 p, .int .i64 r] 40)
  have s0 : (w.alloc (.cells #[.int .i64 t, .int .i64 k, .int .i64 n, .int .i64 a, .int .i64 p, .int .i64 r] 40)).cell? ⟨w.heap.size, 0, none⟩ = some (.int .i64 t) := by simp
  have s1 : (w.alloc (.cells #[.int .i64 t, .int .i64 k, .int .i64 n, .int .i64 a, .int .i64 p, .int .i64 r] 40)).cell? ⟨w.heap.size, 1, none⟩ = some (.int .i64 k) := by simp
  have s2 : (w.alloc (.cells #[.int .i64 t, .int .i64 k, .int .i64 n, .int .i64 a, .int .i64 p, .int .i64 r] 40)).cell? ⟨w.heap.size, 2, none⟩ = some (.int .i64 n) := by simp
  have s3 : (w.alloc (.cells #[.int .i64 t, .int .i64 k, .int .i64 n, .int .i64 a, .int .i64 p, .int .i64 r] 40)).cell? ⟨w.heap.size, 3, none⟩ = some (.int .i64 a) := by simp
  have s4 : (w.alloc (.cells #[.int .i64 t, .int .i64 k, .int .i64 n, .int .i64 a, .int .i64 p, .int .i64 r] 40)).cell? ⟨w.heap.size, 4, none⟩ = some (.int .i64 p) := by simp
  have s5 : (w.alloc (.cells #[.int .i64 t, .int .i64 k, .int .i64 n, .int .i64 a, .int .i64 p, .int .i64 r] 40)).cell? ⟨w.heap.size, 5, none⟩ = some (.int .i64 r) := by simp
  have H6 : Hid (EvAt (w.alloc (.cells #[.int .i64 t, .int .i64 k, .int .i64 n, .int .i64 a, .int .i64 p, .int .i64 r] 40)) w.heap.size t k n a p r) := Lib.hid ⟨s0, s1, s2, s3, s4, s5⟩
  obtain ⟨N, hN⟩ : ∃ N, inR n 0 63 = N := ⟨_, rfl⟩
  obtain ⟨A, hA⟩ : ∃ A, inR a 0 511 = A := ⟨_, rfl⟩
  obtain ⟨P, hP⟩ : ∃ P, inR p 0 1073741824 = P := ⟨_, rfl⟩
  have HN := Lib.hid hN
  have HA := Lib.hid hA
  have HP := Lib.hid hP
  have ht0 := inR_false.1 ht
  replace HB := Lib.hid HB
  clear hN hA hP ht
  go_enter Tryd.func32, Tryd.ntmps32
  go_upto_region 1 with fail
  go_cut [3, 4, 5] (fun x3 x4 x5 wx => x3 = .bool N ∧ x4 = .bool A ∧ x5 = .bool P ∧ Hid (EvAt wx w.heap.size t k n a p r) ∧ Hid (Below w.heap.size w wx))
  case first =>
    clear ht0
    by_cases x0 : 0 ≤ n
    · have y0 : decide (0 ≤ n) = true := by simpa using x0
      by_cases z0 : n < 64
      · obtain rfl : N = true := by rw [← HN.out]; exact inR_true.2 (by omega)
        have u0 : decide (n < 64) = true := by simpa using z0
        by_cases x1 : 0 ≤ a
        · have y1 : decide (0 ≤ a) = true := by simpa using x1
          by_cases z1 : a < 512
          · obtain rfl : A = true := by rw [← HA.out]; exact inR_true.2 (by omega)
            have u1 : decide (a < 512) = true := by simpa using z1
            by_cases x2 : 0 ≤ p
            · have y2 : decide (0 ≤ p) = true := by simpa using x2
              by_cases z2 : p ≤ 1073741824
              · obtain rfl : P = true := by rw [← HP.out]; exact inR_true.2 (by omega)
                have u2 : decide (p ≤ 1073741824) = true := by simpa using z2
                as_aux_lemma =>
                  go_quiet (fail)
                  go_wp2_with fail
                  go_meet
                  exact ⟨rfl, rfl, rfl, Lib.hid (cells_drw H6.out _), Lib.hid (below_drw HB.out _)⟩
              · obtain rfl : P = false := by rw [← HP.out]; exact inR_false.2 (by omega)
                have u2 : decide (p ≤ 1073741824) = false := by simpa using z2
                as_aux_lemma =>
                  go_quiet (fail)
                  go_wp2_with fail
                  go_meet
                  exact ⟨rfl, rfl, rfl, Lib.hid (cells_drw H6.out _), Lib.hid (below_drw HB.out _)⟩
            · obtain rfl : P = false := by rw [← HP.out]; exact inR_false.2 (by omega)
              have y2 : decide (0 ≤ p) = false := by simpa using x2
              as_aux_lemma =>
                go_quiet (fail)
                go_wp2_with fail
                go_meet
                exact ⟨rfl, rfl, rfl, Lib.hid (cells_drw H6.out _), Lib.hid (below_drw HB.out _)⟩
          · obtain rfl : A = false := by rw [← HA.out]; exact inR_false.2 (by omega)
            have u1 : decide (a < 512) = false := by simpa using z1
            by_cases x2 : 0 ≤ p
            · have y2 : decide (0 ≤ p) = true := by simpa using x2
              by_cases z2 : p ≤ 1073741824
              · obtain rfl : P = true := by rw [← HP.out]; exact inR_true.2 (by omega)
                have u2 : decide (p ≤ 1073741824) = true := by simpa using z2
                as_aux_lemma =>
                  go_quiet (fail)
                  go_wp2_with fail
                  go_meet
                  exact ⟨rfl, rfl, rfl, Lib.hid (cells_drw H6.out _), Lib.hid (below_drw HB.out _)⟩
              · obtain rfl : P = false := by rw [← HP.out]; exact inR_false.2 (by omega)
                have u2 : decide (p ≤ 1073741824) = false := by simpa using z2
                as_aux_lemma =>
                  go_quiet (fail)
                  go_wp2_with fail
                  go_meet
                  exact ⟨rfl, rfl, rfl, Lib.hid (cells_drw H6.out _), Lib.hid (below_drw HB.out _)⟩
            · obtain rfl : P = false := by rw [← HP.out]; exact inR_false.2 (by omega)
              have y2 : decide (0 ≤ p) = false := by simpa using x2
              as_aux_lemma =>
                go_quiet (fail)
                go_wp2_with fail
                go_meet
                exact ⟨rfl, rfl, rfl, Lib.hid (cells_drw H6.out _), Lib.hid (below_drw HB.out _)⟩
        · obtain rfl : A = false := by rw [← HA.out]; exact inR_false.2 (by omega)
          have y1 : decide (0 ≤ a) = false := by simpa using x1
          by_cases x2 : 0 ≤ p
          · have y2 : decide (0 ≤ p) = true := by simpa using x2
            by_cases z2 : p ≤ 1073741824
            · obtain rfl : P = true := by rw [← HP.out]; exact inR_true.2 (by omega)
              have u2 : decide (p ≤ 1073741824) = true := by simpa using z2
              as_aux_lemma =>
                go_quiet (fail)
                go_wp2_with fail
                go_meet
                exact ⟨rfl, rfl, rfl, Lib.hid (cells_drw H6.out _), Lib.hid (below_drw HB.out _)⟩
            · obtain rfl : P = false := by rw [← HP.out]; exact inR_false.2 (by omega)
              have u2 : decide (p ≤ 1073741824) = false := by simpa using z2
              as_aux_lemma =>
                go_quiet (fail)
                go_wp2_with fail
                go_meet
                exact ⟨rfl, rfl, rfl, Lib.hid (cells_drw H6.out _), Lib.hid (below_drw HB.out _)⟩
          · obtain rfl : P = false := by rw [← HP.out]; exact inR_false.2 (by omega)
            have y2 : decide (0 ≤ p) = false := by simpa using x2
            as_aux_lemma =>
              go_quiet (fail)
              go_wp2_with fail
              go_meet
              exact ⟨rfl, rfl, rfl, Lib.hid (cells_drw H6.out _), Lib.hid (below_drw HB.out _)⟩
      · obtain rfl : N = false := by rw [← HN.out]; exact inR_false.2 (by omega)
        have u0 : decide (n < 64) = false := by simpa using z0
        by_cases x1 : 0 ≤ a
        · have y1 : decide (0 ≤ a) = true := by simpa using x1
          by_cases z1 : a < 512
          · obtain rfl : A = true := by rw [← HA.out]; exact inR_true.2 (by omega)
            have u1 : decide (a < 512) = true := by simpa using z1
            by_cases x2 : 0 ≤ p
            · have y2 : decide (0 ≤ p) = true := by simpa using x2
              by_cases z2 : p ≤ 1073741824
              · obtain rfl : P = true := by rw [← HP.out]; exact inR_true.2 (by omega)
                have u2 : decide (p ≤ 1073741824) = true := by simpa using z2
                as_aux_lemma =>
                  go_quiet (fail)
                  go_wp2_with fail
                  go_meet
                  exact ⟨rfl, rfl, rfl, Lib.hid (cells_drw H6.out _), Lib.hid (below_drw HB.out _)⟩
              · obtain rfl : P = false := by rw [← HP.out]; exact inR_false.2 (by omega)
                have u2 : decide (p ≤ 1073741824) = false := by simpa using z2
                as_aux_lemma =>
                  go_quiet (fail)
                  go_wp2_with fail
                  go_meet
                  exact ⟨rfl, rfl, rfl, Lib.hid (cells_drw H6.out _), Lib.hid (below_drw HB.out _)⟩
            · obtain rfl : P = false := by rw [← HP.out]; exact inR_false.2 (by omega)
              have y2 : decide (0 ≤ p) = false := by simpa using x2
              as_aux_lemma =>
                go_quiet (fail)
                go_wp2_with fail
                go_meet
                exact ⟨rfl, rfl, rfl, Lib.hid (cells_drw H6.out _), Lib.hid (below_drw HB.out _)⟩
          · obtain rfl : A = false := by rw [← HA.out]; exact inR_false.2 (by omega)
            have u1 : decide (a < 512) = false := by simpa using z1
            by_cases x2 : 0 ≤ p
            · have y2 : decide (0 ≤ p) = true := by simpa using x2
              by_cases z2 : p ≤ 1073741824
              · obtain rfl : P = true := by rw [← HP.out]; exact inR_true.2 (by omega)
                have u2 : decide (p ≤ 1073741824) = true := by simpa using z2
                as_aux_lemma =>
                  go_quiet (fail)
                  go_wp2_with fail
                  go_meet
                  exact ⟨rfl, rfl, rfl, Lib.hid (cells_drw H6.out _), Lib.hid (below_drw HB.out _)⟩
              · obtain rfl : P = false := by rw [← HP.out]; exact inR_false.2 (by omega)
                have u2 : decide (p ≤ 1073741824) = false := by simpa using z2
                as_aux_lemma =>
                  go_quiet (fail)
                  go_wp2_with fail
                  go_meet
                  exact ⟨rfl, rfl, rfl, Lib.hid (cells_drw H6.out _), Lib.hid (below_drw HB.out _)⟩
            · obtain rfl : P = false := by rw [← HP.out]; exact inR_false.2 (by omega)
              have y2 : decide (0 ≤ p) = false := by simpa using x2
              as_aux_lemma =>
                go_quiet (fail)
                go_wp2_with fail
                go_meet
                exact ⟨rfl, rfl, rfl, Lib.hid (cells_drw H6.out _), Lib.hid (below_drw HB.out _)⟩
        · obtain rfl : A = false := by rw [← HA.out]; exact inR_false.2 (by omega)
          have y1 : decide (0 ≤ a) = false := by simpa using x1
          by_cases x2 : 0 ≤ p
          · have y2 : decide (0 ≤ p) = true := by simpa using x2
            by_cases z2 : p ≤ 1073741824
            · obtain rfl : P = true := by rw [← HP.out]; exact inR_true.2 (by omega)
              have u2 : decide (p ≤ 1073741824) = true := by simpa using z2
              as_aux_lemma =>
                go_quiet (fail)
                go_wp2_with fail
                go_meet
                exact ⟨rfl, rfl, rfl, Lib.hid (cells_drw H6.out _), Lib.hid (below_drw HB.out _)⟩
            · obtain rfl : P = false := by rw [← HP.out]; exact inR_false.2 (by omega)
              have u2 : decide (p ≤ 1073741824) = false := by simpa using z2
              as_aux_lemma =>
                go_quiet (fail)
                go_wp2_with fail
                go_meet
                exact ⟨rfl, rfl, rfl, Lib.hid (cells_drw H6.out _), Lib.hid (below_drw HB.out _)⟩
          · obtain rfl : P = false := by rw [← HP.out]; exact inR_false.2 (by omega)
            have y2 : decide (0 ≤ p) = false := by simpa using x2
            as_aux_lemma =>
              go_quiet (fail)
              go_wp2_with fail
              go_meet
              exact ⟨rfl, rfl, rfl, Lib.hid (cells_drw H6.out _), Lib.hid (below_drw HB.out _)⟩
    · obtain rfl : N = false := by rw [← HN.out]; exact inR_false.2 (by omega)
      have y0 : decide (0 ≤ n) = false := by simpa using x0
      by_cases x1 : 0 ≤ a
      · have y1 : decide (0 ≤ a) = true := by simpa using x1
        by_cases z1 : a < 512
        · obtain rfl : A = true := by rw [← HA.out]; exact inR_true.2 (by omega)
          have u1 : decide (a < 512) = true := by simpa using z1
          by_cases x2 : 0 ≤ p
          · have y2 : decide (0 ≤ p) = true := by simpa using x2
            by_cases z2 : p ≤ 1073741824
            · obtain rfl : P = true := by rw [← HP.out]; exact inR_true.2 (by omega)
              have u2 : decide (p ≤ 1073741824) = true := by simpa using z2
              as_aux_lemma =>
                go_quiet (fail)
                go_wp2_with fail
                go_meet
                exact ⟨rfl, rfl, rfl, Lib.hid (cells_drw H6.out _), Lib.hid (below_drw HB.out _)⟩
            · obtain rfl : P = false := by rw [← HP.out]; exact inR_false.2 (by omega)
              have u2 : decide (p ≤ 1073741824) = false := by simpa using z2
              as_aux_lemma =>
                go_quiet (fail)
                go_wp2_with fail
                go_meet
                exact ⟨rfl, rfl, rfl, Lib.hid (cells_drw H6.out _), Lib.hid (below_drw HB.out _)⟩
          · obtain rfl : P = false := by rw [← HP.out]; exact inR_false.2 (by omega)
            have y2 : decide (0 ≤ p) = false := by simpa using x2
            as_aux_lemma =>
              go_quiet (fail)
              go_wp2_with fail
              go_meet
              exact ⟨rfl, rfl, rfl, Lib.hid (cells_drw H6.out _), Lib.hid (below_drw HB.out _)⟩
        · obtain rfl : A = false := by rw [← HA.out]; exact inR_false.2 (by omega)
          have u1 : decide (a < 512) = false := by simpa using z1
          by_cases x2 : 0 ≤ p
          · have y2 : decide (0 ≤ p) = true := by simpa using x2
            by_cases z2 : p ≤ 1073741824
            · obtain rfl : P = true := by rw [← HP.out]; exact inR_true.2 (by omega)
              have u2 : decide (p ≤ 1073741824) = true := by simpa using z2
              as_aux_lemma =>
                go_quiet (fail)
                go_wp2_with fail
                go_meet
                exact ⟨rfl, rfl, rfl, Lib.hid (cells_drw H6.out _), Lib.hid (below_drw HB.out _)⟩
            · obtain rfl : P = false := by rw [← HP.out]; exact inR_false.2 (by omega)
              have u2 : decide (p ≤ 1073741824) = false := by simpa using z2
              as_aux_lemma =>
                go_quiet (fail)
                go_wp2_with fail
                go_meet
                exact ⟨rfl, rfl, rfl, Lib.hid (cells_drw H6.out _), Lib.hid (below_drw HB.out _)⟩
          · obtain rfl : P = false := by rw [← HP.out]; exact inR_false.2 (by omega)
            have y2 : decide (0 ≤ p) = false := by simpa using x2
            as_aux_lemma =>
              go_quiet (fail)
              go_wp2_with fail
              go_meet
              exact ⟨rfl, rfl, rfl, Lib.hid (cells_drw H6.out _), Lib.hid (below_drw HB.out _)⟩
      · obtain rfl : A = false := by rw [← HA.out]; exact inR_false.2 (by omega)
        have y1 : decide (0 ≤ a) = false := by simpa using x1
        by_cases x2 : 0 ≤ p
        · have y2 : decide (0 ≤ p) = true := by simpa using x2
          by_cases z2 : p ≤ 1073741824
          · obtain rfl : P = true := by rw [← HP.out]; exact inR_true.2 (by omega)
            have u2 : decide (p ≤ 1073741824) = true := by simpa using z2
            as_aux_lemma =>
              go_quiet (fail)
              go_wp2_with fail
              go_meet
              exact ⟨rfl, rfl, rfl, Lib.hid (cells_drw H6.out _), Lib.hid (below_drw HB.out _)⟩
          · obtain rfl : P = false := by rw [← HP.out]; exact inR_false.2 (by omega)
            have u2 : decide (p ≤ 1073741824) = false := by simpa using z2
            as_aux_lemma =>
              go_quiet (fail)
              go_wp2_with fail
              go_meet
              exact ⟨rfl, rfl, rfl, Lib.hid (cells_drw H6.out _), Lib.hid (below_drw HB.out _)⟩
        · obtain rfl : P = false := by rw [← HP.out]; exact inR_false.2 (by omega)
          have y2 : decide (0 ≤ p) = false := by simpa using x2
          as_aux_lemma =>
            go_quiet (fail)
            go_wp2_with fail
            go_meet
            exact ⟨rfl, rfl, rfl, Lib.hid (cells_drw H6.out _), Lib.hid (below_drw HB.out _)⟩
  case rest =>
    clear s0 s1 s2 s3 s4 s5 H6 HB
    obtain ⟨rfl, rfl, rfl, HC, HW⟩ := hcut
    obtain ⟨s0, s1, s2, s3, s4, s5⟩ := HC.out
    clear HC
    by_cases h1 : t < 0
    · go_wp2_with fail
      go_ret
      exact ⟨rfl, HW.out⟩
    · have h2 : 1073741824 < t := by omega
      clear ht0
      go_wp2_with fail
      go_ret
      exact ⟨rfl, HW.out⟩

theorem ref55_Event (e : Ev) (w : World) : Calls Tryd.prog 32 #[.agg #[.int .i64 e.t, .int .i64 e.k, .int .i64 e.n, .int .i64 e.a, .int .i64 e.p, .int .i64 e.r]] w fun x w' => x = .returned (.bool (evOk e)) ∧ Below w.heap.size w w' := by
  cases ht : inR e.t 0 1073741824 with
  | false => rw [evOk_t ht]; exact event_out _ _ _ _ _ _ ht w
  | true => rw [evOk_k ht rfl]; exact event_in _ _ _ _ _ _ ht w

end Go.Proofs.YtjcnjnonhncelaaDoor
