/-
  Contract of waypointref09.Same: it returns 'same t u'.
-/
import Derived.Test.YtpofbhaipeiegaaGreatDoorSame
namespace Go.Proofs.YtpofbhaipeiegaaGreatDoor
open Go.RowKit Go.Sort

/-- Two boxed topologies, in a later world. -/
structure SBox (w : World) (A1 A2 B1 B2 : Option Addr) (c1 c2 d1 d2 : Nat) (t u : Topo) (wr : World) : Prop where
  p0 : wr.cell? ⟨w.heap.size, 0, none⟩ = some (.int .i64 t.n)
  p1 : wr.cell? ⟨w.heap.size, 1, none⟩ = some (.slice A1 t.ov.length c1)
  p2 : wr.cell? ⟨w.heap.size, 2, none⟩ = some (.slice A2 t.ls.length c2)
  q0 : wr.cell? ⟨w.heap.size + 1, 0, none⟩ = some (.int .i64 u.n)
  q1 : wr.cell? ⟨w.heap.size + 1, 1, none⟩ = some (.slice B1 u.ov.length d1)
  q2 : wr.cell? ⟨w.heap.size + 1, 2, none⟩ = some (.slice B2 u.ls.length d2)
  ta : TAt wr A1 A2 t
  ua : TAt wr B1 B2 u
  hb : Below w.heap.size w wr

theorem same_step {α : Type} [DecidableEq α] {xs ys : List α} {k : Nat} {x y : α} (h : decide (xs = ys) = decide (xs.drop k = ys.drop k)) (hx : xs.drop k = x :: xs.drop (k + 1)) (hy : ys.drop k = y :: ys.drop (k + 1)) (e : x = y) : decide (xs = ys) = decide (xs.drop (k + 1) = ys.drop (k + 1)) := by
  rw [h, hx, hy, e]; simp
theorem same_off {α : Type} [DecidableEq α] {xs ys : List α} {k : Nat} {x y : α} (h : decide (xs = ys) = decide (xs.drop k = ys.drop k)) (hx : xs.drop k = x :: xs.drop (k + 1)) (hy : ys.drop k = y :: ys.drop (k + 1)) (e : ¬ x = y) : ¬ xs = ys := by
  rw [hx, hy] at h
  have h2 : decide (xs = ys) = false := by rw [h]; simp [e]
  exact of_decide_eq_false h2
theorem same_end {α : Type} [DecidableEq α] {xs ys : List α} {k : Nat} (h : decide (xs = ys) = decide (xs.drop k = ys.drop k)) (hx : xs.length ≤ k) (hy : ys.length ≤ k) : xs = ys := by
  rw [List.drop_of_length_le hx, List.drop_of_length_le hy] at h
  exact of_decide_eq_true (h.trans (by simp))

set_option maxHeartbeats 2000000 in
set_option maxRecDepth 100000 in
theorem ref09_Same (t u : Topo) (A1 A2 B1 B2 : Option Addr) (c1 c2 d1 d2 : Nat) (w : World) (hT : TAt w A1 A2 t) (hU : TAt w B1 B2 u) (hm : t.ov.length ≤ 4611686018427387904) (hm2 : u.ov.length ≤ 4611686018427387904) (hl : t.ls.length ≤ 4611686018427387904) :
    Calls Tryz.prog 33 #[.agg #[.int .i64 t.n, .slice A1 t.ov.length c1, .slice A2 t.ls.length c2], .agg #[.int .i64 u.n, .slice B1 u.ov.length d1, .slice B2 u.ls.length d2]] w fun e w' => e = .returned (.bool (same t u)) ∧ Below w.heap.size w w' := by
  have HB : Below w.heap.size w ((w.alloc (.cells #[.int .i64 t.n, .slice A1 t.ov.length c1, .slice A2 t.ls.length c2] 31)).alloc (.cells #[.int .i64 u.n, .slice B1 u.ov.length d1, .slice B2 u.ls.length d2] 31)) := below_next (below_box w _) (below_box _ _)
  have HT := Lib.hid (hT.below HB); have HU := Lib.hid (hU.below HB)
  obtain ⟨p0, p1, p2, q0, q1, q2⟩ := boxes w (.int .i64 t.n) (.slice A1 t.ov.length c1) (.slice A2 t.ls.length c2) (.int .i64 u.n) (.slice B1 u.ov.length d1) (.slice B2 u.ls.length d2) 31
  clear hT hU
  by_cases hn : t.n = u.n
  · have hn' : (t.n != u.n) = false := by simp [hn]
    have HN := Lib.hid hn; clear hn
    by_cases hq : t.ls.length = u.ls.length
    · have hq' : ((t.ls.length : Int) != (u.ls.length : Int)) = false := by simp [hq]
      have HQ := Lib.hid hq; clear hq
      by_cases hbb : busyL t.ov = busyL u.ov
      · have hbb' : (busyL t.ov == busyL u.ov) = true := by simp [hbb]
        have HBB := Lib.hid hbb; clear hbb
        go_enter Tryz.func33, Tryz.ntmps33
        go_wp2_with fail
        have kq_p0 := cell_regrown p0
        have kq_p1 := cell_regrown p1
        have kq_p2 := cell_regrown p2
        have kq_q0 := cell_regrown q0
        have kq_q1 := cell_regrown q1
        have kq_q2 := cell_regrown q2
        refine wp_region_quiet_below (by kernel_rfl) (by kernel_rfl) ?_
        repeat (go_big_quiet_step (first | (with_reducible exact Calls.regrown_of (ref09_busy t _ _ _ _ _ (HT.out.re _ _) hm)) | (with_reducible exact Calls.regrown_of (ref09_busy u _ _ _ _ _ (HU.out.re _ _) hm2))))
        refine wpQuiet_nil ?_
        intro w2 hb2
        replace hb2 := below_of_regrown hb2
        clear kq_p0 kq_p1 kq_p2 kq_q0 kq_q1 kq_q2
        replace p0 := cell_up hb2 p0
        replace p1 := cell_up hb2 p1
        replace p2 := cell_up hb2 p2
        replace q0 := cell_up hb2 q0
        replace q1 := cell_up hb2 q1
        replace q2 := cell_up hb2 q2
        replace HB := below_next HB hb2
        replace HT := Lib.hid (HT.out.below hb2)
        replace HU := Lib.hid (HU.out.below hb2)
        clear hb2
        go_wp2_with fail
        go_loopw [5] (fun i wr => ∃ k : Nat, k ≤ t.ls.length ∧ i = .int .i64 k ∧ Hid (decide (t.ls = u.ls) = decide (t.ls.drop k = u.ls.drop k)) ∧ SBox w A1 A2 B1 B2 c1 c2 d1 d2 t u wr) (fun i _ => t.ls.length - (intOf i).toNat)
        case atStart => exact ⟨0, Nat.zero_le _, rfl, Lib.hid rfl, ⟨p0, p1, p2, q0, q1, q2, HT.out, HU.out, HB⟩⟩
        case round =>
          clear HT HU HB p0 p1 p2 q0 q1 q2
          obtain ⟨k, hk, rfl, HR, ⟨p0, p1, p2, q0, q1, q2, HT, HU, HB⟩⟩ := hrel
          replace HT := Lib.hid HT; replace HU := Lib.hid HU
          by_cases hlt : k < t.ls.length
          · have hlt2 : k < u.ls.length := by rw [← HQ.out]; exact hlt
            obtain ⟨b, o, x, rfl, hd, hc⟩ := links_at HT.out.ls hlt
            obtain ⟨b', o', y, rfl, hd', hc'⟩ := links_at HU.out.ls hlt2
            obtain ⟨x0, x1, x2, x3, x4, x5, x6⟩ := hc
            obtain ⟨y0, y1, y2, y3, y4, y5, y6⟩ := hc'
            by_cases hxy : x = y
            · have HR2 := Lib.hid (same_step HR.out hd hd' hxy); clear HR hd hd'
              have hz := link_neq_f hxy
              clear hxy
              go_wp2_with fail
              have kq_p0 := cell_regrown p0
              have kq_p1 := cell_regrown p1
              have kq_p2 := cell_regrown p2
              have kq_q0 := cell_regrown q0
              have kq_q1 := cell_regrown q1
              have kq_q2 := cell_regrown q2
              have kq_x0 := cell_regrown x0
              have kq_x1 := cell_regrown x1
              have kq_x2 := cell_regrown x2
              have kq_x3 := cell_regrown x3
              have kq_x4 := cell_regrown x4
              have kq_x5 := cell_regrown x5
              have kq_x6 := cell_regrown x6
              have kq_y0 := cell_regrown y0
              have kq_y1 := cell_regrown y1
              have kq_y2 := cell_regrown y2
              have kq_y3 := cell_regrown y3
              have kq_y4 := cell_regrown y4
              have kq_y5 := cell_regrown y5
              have kq_y6 := cell_regrown y6
              refine wp_region_quiet_below (by kernel_rfl) (by kernel_rfl) ?_
              repeat (go_big_quiet_step (fail))
              refine wpQuiet_nil ?_
              intro w3 hb3
              replace hb3 := below_of_regrown hb3
              clear kq_p0 kq_p1 kq_p2 kq_q0 kq_q1 kq_q2 kq_x0 kq_x1 kq_x2 kq_x3 kq_x4 kq_x5 kq_x6 kq_y0 kq_y1 kq_y2 kq_y3 kq_y4 kq_y5 kq_y6
              replace p0 := cell_up hb3 p0
              replace p1 := cell_up hb3 p1
              replace p2 := cell_up hb3 p2
              replace q0 := cell_up hb3 q0
              replace q1 := cell_up hb3 q1
              replace q2 := cell_up hb3 q2
              replace x0 := cell_up hb3 x0
              replace x1 := cell_up hb3 x1
              replace x2 := cell_up hb3 x2
              replace x3 := cell_up hb3 x3
              replace x4 := cell_up hb3 x4
              replace x5 := cell_up hb3 x5
              replace x6 := cell_up hb3 x6
              replace y0 := cell_up hb3 y0
              replace y1 := cell_up hb3 y1
              replace y2 := cell_up hb3 y2
              replace y3 := cell_up hb3 y3
              replace y4 := cell_up hb3 y4
              replace y5 := cell_up hb3 y5
              replace y6 := cell_up hb3 y6
              replace HB := below_next HB hb3
              go_wp2_with fail
              go_roundw
              case rel => exact ⟨k + 1, by omega, by go_num, HR2, ⟨p0, p1, p2, q0, q1, q2, HT.out.below hb3, HU.out.below hb3, HB⟩⟩
              case measure => simp [intOf]; omega
            · have HR := Lib.hid (same_ls (same_off HR.out hd hd' hxy)); clear hd hd'
              have hz := link_neq_t hxy
              clear hxy
              go_wp2_with fail
              have kq_p0 := cell_regrown p0
              have kq_p1 := cell_regrown p1
              have kq_p2 := cell_regrown p2
              have kq_q0 := cell_regrown q0
              have kq_q1 := cell_regrown q1
              have kq_q2 := cell_regrown q2
              have kq_x0 := cell_regrown x0
              have kq_x1 := cell_regrown x1
              have kq_x2 := cell_regrown x2
              have kq_x3 := cell_regrown x3
              have kq_x4 := cell_regrown x4
              have kq_x5 := cell_regrown x5
              have kq_x6 := cell_regrown x6
              have kq_y0 := cell_regrown y0
              have kq_y1 := cell_regrown y1
              have kq_y2 := cell_regrown y2
              have kq_y3 := cell_regrown y3
              have kq_y4 := cell_regrown y4
              have kq_y5 := cell_regrown y5
              have kq_y6 := cell_regrown y6
              refine wp_region_quiet_below (by kernel_rfl) (by kernel_rfl) ?_
              repeat (go_big_quiet_step (fail))
              refine wpQuiet_nil ?_
              intro w3 hb3
              replace hb3 := below_of_regrown hb3
              clear kq_p0 kq_p1 kq_p2 kq_q0 kq_q1 kq_q2 kq_x0 kq_x1 kq_x2 kq_x3 kq_x4 kq_x5 kq_x6 kq_y0 kq_y1 kq_y2 kq_y3 kq_y4 kq_y5 kq_y6
              replace p0 := cell_up hb3 p0
              replace p1 := cell_up hb3 p1
              replace p2 := cell_up hb3 p2
              replace q0 := cell_up hb3 q0
              replace q1 := cell_up hb3 q1
              replace q2 := cell_up hb3 q2
              replace x0 := cell_up hb3 x0
              replace x1 := cell_up hb3 x1
              replace x2 := cell_up hb3 x2
              replace x3 := cell_up hb3 x3
              replace x4 := cell_up hb3 x4
              replace x5 := cell_up hb3 x5
              replace x6 := cell_up hb3 x6
              replace y0 := cell_up hb3 y0
              replace y1 := cell_up hb3 y1
              replace y2 := cell_up hb3 y2
              replace y3 := cell_up hb3 y3
              replace y4 := cell_up hb3 y4
              replace y5 := cell_up hb3 y5
              replace y6 := cell_up hb3 y6
              replace HB := below_next HB hb3
              go_wp2_with fail
              go_ret
              exact ⟨by rw [HR.out]; rfl, HB⟩
          · have HS := Lib.hid (same_end HR.out (by omega) (by rw [← HQ.out]; omega)); clear HR
            have hle : decide ((k : Int) < (t.ls.length : Int)) = false := by simp; omega
            cases hb1 : busyL t.ov with
            | false =>
              have HR := Lib.hid (same_free HN.out HS.out hb1 (HBB.out.symm.trans hb1))
              go_wp2_with (go_at_call 71; refine (ref09_busy t _ _ _ _ _ HT.out hm).mono ?_; rintro e w1 ⟨rfl, hb⟩; replace p0 := cell_up hb p0; replace p1 := cell_up hb p1; replace p2 := cell_up hb p2; replace q0 := cell_up hb q0; replace q1 := cell_up hb q1; replace q2 := cell_up hb q2; replace HT := Lib.hid (HT.out.below hb); replace HU := Lib.hid (HU.out.below hb); replace HB := below_next HB hb; clear hb)
              go_ret
              exact ⟨by rw [HR.out]; rfl, HB⟩
            | true =>
              have HR := Lib.hid (same_ov HN.out HS.out (fun h => by rw [hb1] at h; cases h.1))
              by_cases ho : t.ov.length = u.ov.length
              · have ho' : ((t.ov.length : Int) != (u.ov.length : Int)) = false := by simp [ho]
                have HO := Lib.hid ho; clear ho
                go_wp2_with (go_at_call 71; refine (ref09_busy t _ _ _ _ _ HT.out hm).mono ?_; rintro e w1 ⟨rfl, hb⟩; replace p0 := cell_up hb p0; replace p1 := cell_up hb p1; replace p2 := cell_up hb p2; replace q0 := cell_up hb q0; replace q1 := cell_up hb q1; replace q2 := cell_up hb q2; replace HT := Lib.hid (HT.out.below hb); replace HU := Lib.hid (HU.out.below hb); replace HB := below_next HB hb; clear hb)
                go_loopw [6] (fun i wr => ∃ k : Nat, k ≤ t.ov.length ∧ i = .int .i64 k ∧ Hid (decide (t.ov = u.ov) = decide (t.ov.drop k = u.ov.drop k)) ∧ SBox w A1 A2 B1 B2 c1 c2 d1 d2 t u wr) (fun i _ => t.ov.length - (intOf i).toNat)
                case atStart => exact ⟨0, Nat.zero_le _, rfl, Lib.hid rfl, ⟨p0, p1, p2, q0, q1, q2, HT.out, HU.out, HB⟩⟩
                case round =>
                  clear HT HU HB p0 p1 p2 q0 q1 q2 hlt hle
                  obtain ⟨j, hj, rfl, HR', ⟨p0, p1, p2, q0, q1, q2, HT, HU, HB⟩⟩ := hrel
                  replace HT := Lib.hid HT; replace HU := Lib.hid HU
                  by_cases hlt : j < t.ov.length
                  · have hlt2 : j < u.ov.length := by rw [← HO.out]; exact hlt
                    obtain ⟨b, o, x, rfl, hd, hc⟩ := bools_at HT.out.ov hlt
                    obtain ⟨b', o', y, rfl, hd', hc'⟩ := bools_at HU.out.ov hlt2
                    by_cases hxy : x = y
                    · have HR2 := Lib.hid (same_step HR'.out hd hd' hxy); clear HR' hd hd'
                      have hxy' : (x == y) = true := by simp [hxy]
                      clear hxy
                      go_wp2_with fail
                      have kq_p0 := cell_regrown p0
                      have kq_p1 := cell_regrown p1
                      have kq_p2 := cell_regrown p2
                      have kq_q0 := cell_regrown q0
                      have kq_q1 := cell_regrown q1
                      have kq_q2 := cell_regrown q2
                      have kq_hc := cell_regrown hc
                      have kq_hc' := cell_regrown hc'
                      refine wp_region_quiet_below (by kernel_rfl) (by kernel_rfl) ?_
                      repeat (go_big_quiet_step (fail))
                      refine wpQuiet_nil ?_
                      intro w3 hb3
                      replace hb3 := below_of_regrown hb3
                      clear kq_p0 kq_p1 kq_p2 kq_q0 kq_q1 kq_q2 kq_hc kq_hc'
                      replace p0 := cell_up hb3 p0
                      replace p1 := cell_up hb3 p1
                      replace p2 := cell_up hb3 p2
                      replace q0 := cell_up hb3 q0
                      replace q1 := cell_up hb3 q1
                      replace q2 := cell_up hb3 q2
                      replace hc := cell_up hb3 hc
                      replace hc' := cell_up hb3 hc'
                      replace HB := below_next HB hb3
                      go_wp2_with fail
                      go_roundw
                      case rel => exact ⟨j + 1, by omega, by go_num, HR2, ⟨p0, p1, p2, q0, q1, q2, HT.out.below hb3, HU.out.below hb3, HB⟩⟩
                      case measure => simp [intOf]; omega
                    · have HR2 := Lib.hid (HR.out.trans (decide_eq_false (same_off HR'.out hd hd' hxy))); clear HR HR' hd hd'
                      have hxy' : (x == y) = false := by simp [hxy]
                      clear hxy
                      go_wp2_with fail
                      have kq_p0 := cell_regrown p0
                      have kq_p1 := cell_regrown p1
                      have kq_p2 := cell_regrown p2
                      have kq_q0 := cell_regrown q0
                      have kq_q1 := cell_regrown q1
                      have kq_q2 := cell_regrown q2
                      have kq_hc := cell_regrown hc
                      have kq_hc' := cell_regrown hc'
                      refine wp_region_quiet_below (by kernel_rfl) (by kernel_rfl) ?_
                      repeat (go_big_quiet_step (fail))
                      refine wpQuiet_nil ?_
                      intro w3 hb3
                      replace hb3 := below_of_regrown hb3
                      clear kq_p0 kq_p1 kq_p2 kq_q0 kq_q1 kq_q2 kq_hc kq_hc'
                      replace p0 := cell_up hb3 p0
                      replace p1 := cell_up hb3 p1
                      replace p2 := cell_up hb3 p2
                      replace q0 := cell_up hb3 q0
                      replace q1 := cell_up hb3 q1
                      replace q2 := cell_up hb3 q2
                      replace hc := cell_up hb3 hc
                      replace hc' := cell_up hb3 hc'
                      replace HB := below_next HB hb3
                      go_wp2_with fail
                      go_ret
                      exact ⟨by rw [HR2.out]; rfl, HB⟩
                  · have HR2 := Lib.hid (HR.out.trans (decide_eq_true (same_end HR'.out (by omega) (by rw [← HO.out]; omega)))); clear HR HR'
                    have hle : decide ((j : Int) < (t.ov.length : Int)) = false := by simp; omega
                    go_wp2_with fail
                    go_ret
                    exact ⟨by rw [HR2.out]; rfl, HB⟩
              · have ho' : ((t.ov.length : Int) != (u.ov.length : Int)) = true := by simp; omega
                replace HR := Lib.hid (HR.out.trans (decide_eq_false (fun e => ho (by rw [e]))))
                clear ho
                go_wp2_with (go_at_call 71; refine (ref09_busy t _ _ _ _ _ HT.out hm).mono ?_; rintro e w1 ⟨rfl, hb⟩; replace p0 := cell_up hb p0; replace p1 := cell_up hb p1; replace p2 := cell_up hb p2; replace q0 := cell_up hb q0; replace q1 := cell_up hb q1; replace q2 := cell_up hb q2; replace HT := Lib.hid (HT.out.below hb); replace HU := Lib.hid (HU.out.below hb); replace HB := below_next HB hb; clear hb)
                go_ret
                exact ⟨by rw [HR.out]; rfl, HB⟩
      · have hbb' : (busyL t.ov == busyL u.ov) = false := by simp [hbb]
        have HR := Lib.hid (same_busy (t := t) (u := u) (by simp [hbb]))
        clear hbb
        go_enter Tryz.func33, Tryz.ntmps33
        go_wp2_with fail
        have kq_p0 := cell_regrown p0
        have kq_p1 := cell_regrown p1
        have kq_p2 := cell_regrown p2
        have kq_q0 := cell_regrown q0
        have kq_q1 := cell_regrown q1
        have kq_q2 := cell_regrown q2
        refine wp_region_quiet_below (by kernel_rfl) (by kernel_rfl) ?_
        repeat (go_big_quiet_step (first | (with_reducible exact Calls.regrown_of (ref09_busy t _ _ _ _ _ (HT.out.re _ _) hm)) | (with_reducible exact Calls.regrown_of (ref09_busy u _ _ _ _ _ (HU.out.re _ _) hm2))))
        refine wpQuiet_nil ?_
        intro w2 hb2
        replace hb2 := below_of_regrown hb2
        clear kq_p0 kq_p1 kq_p2 kq_q0 kq_q1 kq_q2
        replace p0 := cell_up hb2 p0
        replace p1 := cell_up hb2 p1
        replace p2 := cell_up hb2 p2
        replace q0 := cell_up hb2 q0
        replace q1 := cell_up hb2 q1
        replace q2 := cell_up hb2 q2
        replace HB := below_next HB hb2
        replace HT := Lib.hid (HT.out.below hb2)
        replace HU := Lib.hid (HU.out.below hb2)
        clear hb2
        go_wp2_with fail
        go_ret
        exact ⟨by rw [HR.out]; rfl, HB⟩
    · have hq' : ((t.ls.length : Int) != (u.ls.length : Int)) = true := by simp; omega
      have HR := Lib.hid (same_ls (fun e => hq (by rw [e])))
      clear hq
      go_enter Tryz.func33, Tryz.ntmps33
      go_wp2_with fail
      have kq_p0 := cell_regrown p0
      have kq_p1 := cell_regrown p1
      have kq_p2 := cell_regrown p2
      have kq_q0 := cell_regrown q0
      have kq_q1 := cell_regrown q1
      have kq_q2 := cell_regrown q2
      refine wp_region_quiet_below (by kernel_rfl) (by kernel_rfl) ?_
      repeat (go_big_quiet_step (first | (with_reducible exact Calls.regrown_of (ref09_busy t _ _ _ _ _ (HT.out.re _ _) hm)) | (with_reducible exact Calls.regrown_of (ref09_busy u _ _ _ _ _ (HU.out.re _ _) hm2))))
      refine wpQuiet_nil ?_
      intro w2 hb2
      replace hb2 := below_of_regrown hb2
      clear kq_p0 kq_p1 kq_p2 kq_q0 kq_q1 kq_q2
      replace p0 := cell_up hb2 p0
      replace p1 := cell_up hb2 p1
      replace p2 := cell_up hb2 p2
      replace q0 := cell_up hb2 q0
      replace q1 := cell_up hb2 q1
      replace q2 := cell_up hb2 q2
      replace HB := below_next HB hb2
      replace HT := Lib.hid (HT.out.below hb2)
      replace HU := Lib.hid (HU.out.below hb2)
      clear hb2
      go_wp2_with fail
      go_ret
      exact ⟨by rw [HR.out]; rfl, HB⟩
  · have hn' : (t.n != u.n) = true := by simp [hn]
    have HR := Lib.hid (same_n hn)
    clear hn
    go_enter Tryz.func33, Tryz.ntmps33
    go_wp2_with fail
    have kq_p0 := cell_regrown p0
    have kq_p1 := cell_regrown p1
    have kq_p2 := cell_regrown p2
    have kq_q0 := cell_regrown q0
    have kq_q1 := cell_regrown q1
    have kq_q2 := cell_regrown q2
    refine wp_region_quiet_below (by kernel_rfl) (by kernel_rfl) ?_
    repeat (go_big_quiet_step (first | (with_reducible exact Calls.regrown_of (ref09_busy t _ _ _ _ _ (HT.out.re _ _) hm)) | (with_reducible exact Calls.regrown_of (ref09_busy u _ _ _ _ _ (HU.out.re _ _) hm2))))
    refine wpQuiet_nil ?_
    intro w2 hb2
    replace hb2 := below_of_regrown hb2
    clear kq_p0 kq_p1 kq_p2 kq_q0 kq_q1 kq_q2
    replace p0 := cell_up hb2 p0
    replace p1 := cell_up hb2 p1
    replace p2 := cell_up hb2 p2
    replace q0 := cell_up hb2 q0
    replace q1 := cell_up hb2 q1
    replace q2 := cell_up hb2 q2
    replace HB := below_next HB hb2
    replace HT := Lib.hid (HT.out.below hb2)
    replace HU := Lib.hid (HU.out.below hb2)
    clear hb2
    go_wp2_with fail
    go_ret
    exact ⟨by rw [HR.out]; rfl, HB⟩

end Go.Proofs.YtpofbhaipeiegaaGreatDoor
