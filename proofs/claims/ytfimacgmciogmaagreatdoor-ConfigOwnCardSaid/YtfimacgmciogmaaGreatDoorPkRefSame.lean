/-
  Contract of waypointref09.Same: it returns 'same t u'.
  waypointref15.Same answers true for two configurations of equal contents.
  What the walk of ConfigOwn leans on: Parse twice, Print twice, Valid and Same, of one configuration.
-/
import Derived.Test.YtfimacgmciogmaaGreatDoorPkOwnP
import Derived.Test.YtfimacgmciogmaaGreatDoorPkPrnD
import Derived.Test.YtfimacgmciogmaaGreatDoorCfgAt
import Derived.BigRegion
import Derived.Test.YtfimacgmciogmaaGreatDoorCfgPt
namespace Go.Proofs.YtfimacgmciogmaaGreatDoor
open Go.RowKit Go.Sort
/-- Two boxed topologies, in a later world. -/
structure SBox (w : World) (A1 A2 B1 B2 : Option Addr) (c1 c2 d1 d2 : Nat) (t u : Topo) (wr : World) : Prop where
 p0 : wr.cell? ⟨w.heap.size, 0, none⟩ = some (.int .i64 t.n)
 p1 : wr.cell? ⟨w.heap.size, 1, none⟩ = some (.slice A1 t.ov.length c1)
 p2 : wr.cell? ⟨w.heap.size, 2, none⟩ = some (.slice A2 t.ls.length c2)
 q0 : wr.cell? ⟨w.heap.size + 1, 0, none⟩ = some (.int .i64 u.n)
 q1 : wr.cell? ⟨w.heap.size + 1, 1, none⟩ = some (.slice B1 u.ov.length d1)
 q2 : wr.cell? ⟨w.heap.size + 1, 2, none⟩ = some (.slice B2 u.ls.length d2)
 ta : TAt wr A1 A2 t
 ua : TAt wr B1 B2 u
 hb : Below w.heap.size w wr
theorem same_step {α : Type} [DecidableEq α] {xs ys : List α} {k : Nat} {x y : α} (h : decide (xs = ys) = decide (xs.drop k = ys.drop k)) (hx : xs.drop k = x :: xs.drop (k + 1)) (hy : ys.drop k = y :: ys.drop (k + 1)) (e : x = y) : decide (xs = ys) = decide (xs.drop (k + 1) = ys.drop (k + 1)) := by
 rw [h, hx, hy, e]; simp
theorem same_off {α : Type} [DecidableEq α] {xs ys : List α} {k : Nat} {x y : α} (h : decide (xs = ys) = decide (xs.drop k = ys.drop k)) (hx : xs.drop k = x :: xs.drop (k + 1)) (hy : ys.drop k = y :: ys.drop (k + 1)) (e : ¬ x = y) : ¬ xs = ys := by
 rw [hx, hy] at h
 have h2 : decide (xs = ys) = false := by rw [h]; simp [e]
 exact of_decide_eq_false h2
theorem same_end {α : Type} [DecidableEq α] {xs ys : List α} {k : Nat} (h : decide (xs = ys) = decide (xs.drop k = ys.drop k)) (hx : xs.length ≤ k) (hy : ys.length ≤ k) : xs = ys := by
 rw [List.drop_of_length_le hx, List.drop_of_length_le hy] at h
 exact of_decide_eq_true (h.trans (by simp))
set_option maxHeartbeats 2000000 in
set_option maxRecDepth 100000 in
theorem ref09_Same (t u : Topo) (A1 A2 B1 B2 : Option Addr) (c1 c2 d1 d2 : Nat) (w : World) (hT : TAt w A1 A2 t) (hU : TAt w B1 B2 u) (hm : t.ov.length ≤ 4611686018427387904) (hm2 : u.ov.length ≤ 4611686018427387904) (hl : t.ls.length ≤ 4611686018427387904) :
  Calls Tryz.prog 28 #[.agg #[.int .i64 t.n, .slice A1 t.ov.length c1, .slice A2 t.ls.length c2], .agg #[.int .i64 u.n, .slice B1 u.ov.length d1, .slice B2 u.ls.length d2]] w fun e w' => e = .returned (.bool (same t u)) ∧ Below w.heap.size w w' := by
 have HB : Below w.heap.size w ((w.alloc (.cells #[.int .i64 t.n, .slice A1 t.ov.length c1, .slice A2 t.ls.length c2] 27)).alloc (.cells #[.int .i64 u.n, .slice B1 u.ov.length d1, .slice B2 u.ls.length d2] 27)) := below_next (below_box w _) (below_box _ _)
 have HT := Lib.hid (hT.below HB); have HU := Lib.hid (hU.below HB)
 obtain ⟨p0, p1, p2, q0, q1, q2⟩ := boxes w (.int .i64 t.n) (.slice A1 t.ov.length c1) (.slice A2 t.ls.length c2) (.int .i64 u.n) (.slice B1 u.ov.length d1) (.slice B2 u.ls.length d2) 27
 clear hT hU
 by_cases hn : t.n = u.n
 ·have hn' : (t.n != u.n) = false := by simp [hn]
  have HN := Lib.hid hn; clear hn
  by_cases hq : t.ls.length = u.ls.length
  ·have hq' : ((t.ls.length : Int) != (u.ls.length : Int)) = false := by simp [hq]
   have HQ := Lib.hid hq; clear hq
   by_cases hbb : busyL t.ov = busyL u.ov
   ·have hbb' : (busyL t.ov == busyL u.ov) = true := by simp [hbb]
    have HBB := Lib.hid hbb; clear hbb
    go_enter Tryz.func28, Tryz.ntmps28
    go_wp2_with fail
    have kq_p0 := cell_regrown p0
    have kq_p1 := cell_regrown p1
    have kq_p2 := cell_regrown p2
    have kq_q0 := cell_regrown q0
    have kq_q1 := cell_regrown q1
    have kq_q2 := cell_regrown q2
    refine wp_region_quiet_below (by kernel_rfl) (by kernel_rfl) ?_
    repeat (go_big_quiet_step (first | (with_reducible exact Calls.regrown_of (ref09_busy t _ _ _ _ _ (HT.out.re _ _) hm)) | (with_reducible exact Calls.regrown_of (ref09_busy u _ _ _ _ _ (HU.out.re _ _) hm2))))
    refine wpQuiet_nil ?_
    intro w2 hb2
    replace hb2 := below_of_regrown hb2
    clear kq_p0 kq_p1 kq_p2 kq_q0 kq_q1 kq_q2
    replace p0 := cell_up hb2 p0
    replace p1 := cell_up hb2 p1
    replace p2 := cell_up hb2 p2
    replace q0 := cell_up hb2 q0
    replace q1 := cell_up hb2 q1
    replace q2 := cell_up hb2 q2
    replace HB := below_next HB hb2
    replace HT := Lib.hid (HT.out.below hb2)
    replace HU := Lib.hid (HU.out.below hb2)
    clear hb2
    go_wp2_with fail
    go_loopw [5] (fun i wr => ∃ k : Nat, k ≤ t.ls.length ∧ i = .int .i64 k ∧ Hid (decide (t.ls = u.ls) = decide (t.ls.drop k = u.ls.drop k)) ∧ SBox w A1 A2 B1 B2 c1 c2 d1 d2 t u wr) (fun i _ => t.ls.length - (intOf i).toNat)
    case atStart => exact ⟨0, Nat.zero_le _, rfl, Lib.hid rfl, ⟨p0, p1, p2, q0, q1, q2, HT.out, HU.out, HB⟩⟩
    case round =>
     clear HT HU HB p0 p1 p2 q0 q1 q2
     obtain ⟨k, hk, rfl, HR, ⟨p0, p1, p2, q0, q1, q2, HT, HU, HB⟩⟩ := hrel
     replace HT := Lib.hid HT; replace HU := Lib.hid HU
     by_cases hlt : k < t.ls.length
     ·have hlt2 : k < u.ls.length := by rw [← HQ.out]; exact hlt
      obtain ⟨b, o, x, rfl, hd, hc⟩ := links_at HT.out.ls hlt
      obtain ⟨b', o', y, rfl, hd', hc'⟩ := links_at HU.out.ls hlt2
      obtain ⟨x0, x1, x2, x3, x4, x5, x6⟩ := hc
      obtain ⟨y0, y1, y2, y3, y4, y5, y6⟩ := hc'
      by_cases hxy : x = y
      ·have HR2 := Lib.hid (same_step HR.out hd hd' hxy); clear HR hd hd'
       have hz := link_neq_f hxy
       clear hxy
       go_wp2_with fail
       have kq_p0 := cell_regrown p0
       have kq_p1 := cell_regrown p1
       have kq_p2 := cell_regrown p2
       have kq_q0 := cell_regrown q0
       have kq_q1 := cell_regrown q1
       have kq_q2 := cell_regrown q2
       have kq_x0 := cell_regrown x0
       have kq_x1 := cell_regrown x1
       have kq_x2 := cell_regrown x2
       have kq_x3 := cell_regrown x3
       have kq_x4 := cell_regrown x4
       have kq_x5 := cell_regrown x5
       have kq_x6 := cell_regrown x6
       have kq_y0 := cell_regrown y0
       have kq_y1 := cell_regrown y1
       have kq_y2 := cell_regrown y2
       have kq_y3 := cell_regrown y3
       have kq_y4 := cell_regrown y4
       have kq_y5 := cell_regrown y5
       have kq_y6 := cell_regrown y6
       refine wp_region_quiet_below (by kernel_rfl) (by kernel_rfl) ?_
       repeat (go_big_quiet_step (fail))
       refine wpQuiet_nil ?_
       intro w3 hb3
       replace hb3 := below_of_regrown hb3
       clear kq_p0 kq_p1 kq_p2 kq_q0 kq_q1 kq_q2 kq_x0 kq_x1 kq_x2 kq_x3 kq_x4 kq_x5 kq_x6 kq_y0 kq_y1 kq_y2 kq_y3 kq_y4 kq_y5 kq_y6
       replace p0 := cell_up hb3 p0
       replace p1 := cell_up hb3 p1
       replace p2 := cell_up hb3 p2
       replace q0 := cell_up hb3 q0
       replace q1 := cell_up hb3 q1
       replace q2 := cell_up hb3 q2
       replace x0 := cell_up hb3 x0
       replace x1 := cell_up hb3 x1
       replace x2 := cell_up hb3 x2
       replace x3 := cell_up hb3 x3
       replace x4 := cell_up hb3 x4
       replace x5 := cell_up hb3 x5
       replace x6 := cell_up hb3 x6
       replace y0 := cell_up hb3 y0
       replace y1 := cell_up hb3 y1
       replace y2 := cell_up hb3 y2
       replace y3 := cell_up hb3 y3
       replace y4 := cell_up hb3 y4
       replace y5 := cell_up hb3 y5
       replace y6 := cell_up hb3 y6
       replace HB := below_next HB hb3
       go_wp2_with fail
       go_roundw
       case rel => exact ⟨k + 1, by omega, by go_num, HR2, ⟨p0, p1, p2, q0, q1, q2, HT.out.below hb3, HU.out.below hb3, HB⟩⟩
       case measure => simp [intOf]; omega
      ·have HR := Lib.hid (same_ls (same_off HR.out hd hd' hxy)); clear hd hd'
       have hz := link_neq_t hxy
       clear hxy
       go_wp2_with fail
       have kq_p0 := cell_regrown p0
       have kq_p1 := cell_regrown p1
       have kq_p2 := cell_regrown p2
       have kq_q0 := cell_regrown q0
       have kq_q1 := cell_regrown q1
       have kq_q2 := cell_regrown q2
       have kq_x0 := cell_regrown x0
       have kq_x1 := cell_regrown x1
       have kq_x2 := cell_regrown x2
       have kq_x3 := cell_regrown x3
       have kq_x4 := cell_regrown x4
       have kq_x5 := cell_regrown x5
       have kq_x6 := cell_regrown x6
       have kq_y0 := cell_regrown y0
       have kq_y1 := cell_regrown y1
       have kq_y2 := cell_regrown y2
       have kq_y3 := cell_regrown y3
       have kq_y4 := cell_regrown y4
       have kq_y5 := cell_regrown y5
       have kq_y6 := cell_regrown y6
       refine wp_region_quiet_below (by kernel_rfl) (by kernel_rfl) ?_
       repeat (go_big_quiet_step (fail))
       refine wpQuiet_nil ?_
       intro w3 hb3
       replace hb3 := below_of_regrown hb3
       clear kq_p0 kq_p1 kq_p2 kq_q0 kq_q1 kq_q2 kq_x0 kq_x1 kq_x2 kq_x3 kq_x4 kq_x5 kq_x6 kq_y0 kq_y1 kq_y2 kq_y3 kq_y4 kq_y5 kq_y6
       replace p0 := cell_up hb3 p0
       replace p1 := cell_up hb3 p1
       replace p2 := cell_up hb3 p2
       replace q0 := cell_up hb3 q0
       replace q1 := cell_up hb3 q1
       replace q2 := cell_up hb3 q2
       replace x0 := cell_up hb3 x0
       replace x1 := cell_up hb3 x1
       replace x2 := cell_up hb3 x2
       replace x3 := cell_up hb3 x3
       replace x4 := cell_up hb3 x4
       replace x5 := cell_up hb3 x5
       replace x6 := cell_up hb3 x6
       replace y0 := cell_up hb3 y0
       replace y1 := cell_up hb3 y1
       replace y2 := cell_up hb3 y2
       replace y3 := cell_up hb3 y3
       replace y4 := cell_up hb3 y4
       replace y5 := cell_up hb3 y5
       replace y6 := cell_up hb3 y6
       replace HB := below_next HB hb3
       go_wp2_with fail
       go_ret
       exact ⟨by rw [HR.out]; rfl, HB⟩
     ·have HS := Lib.hid (same_end HR.out (by omega) (by rw [← HQ.out]; omega)); clear HR
      have hle : decide ((k : Int) < (t.ls.length : Int)) = false := by simp; omega
      cases hb1 : busyL t.ov with
      | false =>
       have HR := Lib.hid (same_free HN.out HS.out hb1 (HBB.out.symm.trans hb1))
       go_wp2_with (go_at_call 52; refine (ref09_busy t _ _ _ _ _ HT.out hm).mono ?_; rintro e w1 ⟨rfl, hb⟩; replace p0 := cell_up hb p0; replace p1 := cell_up hb p1; replace p2 := cell_up hb p2; replace q0 := cell_up hb q0; replace q1 := cell_up hb q1; replace q2 := cell_up hb q2; replace HT := Lib.hid (HT.out.below hb); replace HU := Lib.hid (HU.out.below hb); replace HB := below_next HB hb; clear hb)
       go_ret
       exact ⟨by rw [HR.out]; rfl, HB⟩
      | true =>
       have HR := Lib.hid (same_ov HN.out HS.out (fun h => by rw [hb1] at h; cases h.1))
       by_cases ho : t.ov.length = u.ov.length
       ·have ho' : ((t.ov.length : Int) != (u.ov.length : Int)) = false := by simp [ho]
        have HO := Lib.hid ho; clear ho
        go_wp2_with (go_at_call 52; refine (ref09_busy t _ _ _ _ _ HT.out hm).mono ?_; rintro e w1 ⟨rfl, hb⟩; replace p0 := cell_up hb p0; replace p1 := cell_up hb p1; replace p2 := cell_up hb p2; replace q0 := cell_up hb q0; replace q1 := cell_up hb q1; replace q2 := cell_up hb q2; replace HT := Lib.hid (HT.out.below hb); replace HU := Lib.hid (HU.out.below hb); replace HB := below_next HB hb; clear hb)
        go_loopw [6] (fun i wr => ∃ k : Nat, k ≤ t.ov.length ∧ i = .int .i64 k ∧ Hid (decide (t.ov = u.ov) = decide (t.ov.drop k = u.ov.drop k)) ∧ SBox w A1 A2 B1 B2 c1 c2 d1 d2 t u wr) (fun i _ => t.ov.length - (intOf i).toNat)
        case atStart => exact ⟨0, Nat.zero_le _, rfl, Lib.hid rfl, ⟨p0, p1, p2, q0, q1, q2, HT.out, HU.out, HB⟩⟩
        case round =>
         clear HT HU HB p0 p1 p2 q0 q1 q2 hlt hle
         obtain ⟨j, hj, rfl, HR', ⟨p0, p1, p2, q0, q1, q2, HT, HU, HB⟩⟩ := hrel
         replace HT := Lib.hid HT; replace HU := Lib.hid HU
         by_cases hlt : j < t.ov.length
         ·have hlt2 : j < u.ov.length := by rw [← HO.out]; exact hlt
          obtain ⟨b, o, x, rfl, hd, hc⟩ := bools_at HT.out.ov hlt
          obtain ⟨b', o', y, rfl, hd', hc'⟩ := bools_at HU.out.ov hlt2
          by_cases hxy : x = y
          ·have HR2 := Lib.hid (same_step HR'.out hd hd' hxy); clear HR' hd hd'
           have hxy' : (x == y) = true := by simp [hxy]
           clear hxy
           go_wp2_with fail
           have kq_p0 := cell_regrown p0
           have kq_p1 := cell_regrown p1
           have kq_p2 := cell_regrown p2
           have kq_q0 := cell_regrown q0
           have kq_q1 := cell_regrown q1
           have kq_q2 := cell_regrown q2
           have kq_hc := cell_regrown hc
           have kq_hc' := cell_regrown hc'
           refine wp_region_quiet_below (by kernel_rfl) (by kernel_rfl) ?_
           repeat (go_big_quiet_step (fail))
           refine wpQuiet_nil ?_
           intro w3 hb3
           replace hb3 := below_of_regrown hb3
           clear kq_p0 kq_p1 kq_p2 kq_q0 kq_q1 kq_q2 kq_hc kq_hc'
           replace p0 := cell_up hb3 p0
           replace p1 := cell_up hb3 p1
           replace p2 := cell_up hb3 p2
           replace q0 := cell_up hb3 q0
           replace q1 := cell_up hb3 q1
           replace q2 := cell_up hb3 q2
           replace hc := cell_up hb3 hc
           replace hc' := cell_up hb3 hc'
           replace HB := below_next HB hb3
           go_wp2_with fail
           go_roundw
           case rel => exact ⟨j + 1, by omega, by go_num, HR2, ⟨p0, p1, p2, q0, q1, q2, HT.out.below hb3, HU.out.below hb3, HB⟩⟩
           case measure => simp [intOf]; omega
          ·have HR2 := Lib.hid (HR.out.trans (decide_eq_false (same_off HR'.out hd hd' hxy))); clear HR HR' hd hd'
           have hxy' : (x == y) = false := by simp [hxy]
           clear hxy
           go_wp2_with fail
           have kq_p0 := cell_regrown p0
           have kq_p1 := cell_regrown p1
           have kq_p2 := cell_regrown p2
           have kq_q0 := cell_regrown q0
           have kq_q1 := cell_regrown q1
           have kq_q2 := cell_regrown q2
           have kq_hc := cell_regrown hc
           have kq_hc' := cell_regrown hc'
           refine wp_region_quiet_below (by kernel_rfl) (by kernel_rfl) ?_
           repeat (go_big_quiet_step (fail))
           refine wpQuiet_nil ?_
           intro w3 hb3
           replace hb3 := below_of_regrown hb3
           clear kq_p0 kq_p1 kq_p2 kq_q0 kq_q1 kq_q2 kq_hc kq_hc'
           replace p0 := cell_up hb3 p0
           replace p1 := cell_up hb3 p1
           replace p2 := cell_up hb3 p2
           replace q0 := cell_up hb3 q0
           replace q1 := cell_up hb3 q1
           replace q2 := cell_up hb3 q2
           replace hc := cell_up hb3 hc
           replace hc' := cell_up hb3 hc'
           replace HB := below_next HB hb3
           go_wp2_with fail
           go_ret
           exact ⟨by rw [HR2.out]; rfl, HB⟩
         ·have HR2 := Lib.hid (HR.out.trans (decide_eq_true (same_end HR'.out (by omega) (by rw [← HO.out]; omega)))); clear HR HR'
          have hle : decide ((j : Int) < (t.ov.length : Int)) = false := by simp; omega
          go_wp2_with fail
          go_ret
          exact ⟨by rw [HR2.out]; rfl, HB⟩
       ·have ho' : ((t.ov.length : Int) != (u.ov.length : Int)) = true := by simp; omega
        replace HR := Lib.hid (HR.out.trans (decide_eq_false (fun e => ho (by rw [e]))))
        clear ho
        go_wp2_with (go_at_call 52; refine (ref09_busy t _ _ _ _ _ HT.out hm).mono ?_; rintro e w1 ⟨rfl, hb⟩; replace p0 := cell_up hb p0; replace p1 := cell_up hb p1; replace p2 := cell_up hb p2; replace q0 := cell_up hb q0; replace q1 := cell_up hb q1; replace q2 := cell_up hb q2; replace HT := Lib.hid (HT.out.below hb); replace HU := Lib.hid (HU.out.below hb); replace HB := below_next HB hb; clear hb)
        go_ret
        exact ⟨by rw [HR.out]; rfl, HB⟩
   ·have hbb' : (busyL t.ov == busyL u.ov) = false := by simp [hbb]
    have HR := Lib.hid (same_busy (t := t) (u := u) (by simp [hbb]))
    clear hbb
    go_enter Tryz.func28, Tryz.ntmps28
    go_wp2_with fail
    have kq_p0 := cell_regrown p0
    have kq_p1 := cell_regrown p1
    have kq_p2 := cell_regrown p2
    have kq_q0 := cell_regrown q0
    have kq_q1 := cell_regrown q1
    have kq_q2 := cell_regrown q2
    refine wp_region_quiet_below (by kernel_rfl) (by kernel_rfl) ?_
    repeat (go_big_quiet_step (first | (with_reducible exact Calls.regrown_of (ref09_busy t _ _ _ _ _ (HT.out.re _ _) hm)) | (with_reducible exact Calls.regrown_of (ref09_busy u _ _ _ _ _ (HU.out.re _ _) hm2))))
    refine wpQuiet_nil ?_
    intro w2 hb2
    replace hb2 := below_of_regrown hb2
    clear kq_p0 kq_p1 kq_p2 kq_q0 kq_q1 kq_q2
    replace p0 := cell_up hb2 p0
    replace p1 := cell_up hb2 p1
    replace p2 := cell_up hb2 p2
    replace q0 := cell_up hb2 q0
    replace q1 := cell_up hb2 q1
    replace q2 := cell_up hb2 q2
    replace HB := below_next HB hb2
    replace HT := Lib.hid (HT.out.below hb2)
    replace HU := Lib.hid (HU.out.below hb2)
    clear hb2
    go_wp2_with fail
    go_ret
    exact ⟨by rw [HR.out]; rfl, HB⟩
  ·have hq' : ((t.ls.length : Int) != (u.ls.length : Int)) = true := by simp; omega
   have HR := Lib.hid (same_ls (fun e => hq (by rw [e])))
   clear hq
   go_enter Tryz.func28, Tryz.ntmps28
   go_wp2_with fail
   have kq_p0 := cell_regrown p0
   have kq_p1 := cell_regrown p1
   have kq_p2 := cell_regrown p2
   have kq_q0 := cell_regrown q0
   have kq_q1 := cell_regrown q1
   have kq_q2 := cell_regrown q2
   refine wp_region_quiet_below (by kernel_rfl) (by kernel_rfl) ?_
   repeat (go_big_quiet_step (first | (with_reducible exact Calls.regrown_of (ref09_busy t _ _ _ _ _ (HT.out.re _ _) hm)) | (with_reducible exact Calls.regrown_of (ref09_busy u _ _ _ _ _ (HU.out.re _ _) hm2))))
   refine wpQuiet_nil ?_
   intro w2 hb2
   replace hb2 := below_of_regrown hb2
   clear kq_p0 kq_p1 kq_p2 kq_q0 kq_q1 kq_q2
   replace p0 := cell_up hb2 p0
   replace p1 := cell_up hb2 p1
   replace p2 := cell_up hb2 p2
   replace q0 := cell_up hb2 q0
   replace q1 := cell_up hb2 q1
   replace q2 := cell_up hb2 q2
   replace HB := below_next HB hb2
   replace HT := Lib.hid (HT.out.below hb2)
   replace HU := Lib.hid (HU.out.below hb2)
   clear hb2
   go_wp2_with fail
   go_ret
   exact ⟨by rw [HR.out]; rfl, HB⟩
 ·have hn' : (t.n != u.n) = true := by simp [hn]
  have HR := Lib.hid (same_n hn)
  clear hn
  go_enter Tryz.func28, Tryz.ntmps28
  go_wp2_with fail
  have kq_p0 := cell_regrown p0
  have kq_p1 := cell_regrown p1
  have kq_p2 := cell_regrown p2
  have kq_q0 := cell_regrown q0
  have kq_q1 := cell_regrown q1
  have kq_q2 := cell_regrown q2
  refine wp_region_quiet_below (by kernel_rfl) (by kernel_rfl) ?_
  repeat (go_big_quiet_step (first | (with_reducible exact Calls.regrown_of (ref09_busy t _ _ _ _ _ (HT.out.re _ _) hm)) | (with_reducible exact Calls.regrown_of (ref09_busy u _ _ _ _ _ (HU.out.re _ _) hm2))))
  refine wpQuiet_nil ?_
  intro w2 hb2
  replace hb2 := below_of_regrown hb2
  clear kq_p0 kq_p1 kq_p2 kq_q0 kq_q1 kq_q2
  replace p0 := cell_up hb2 p0
  replace p1 := cell_up hb2 p1
  replace p2 := cell_up hb2 p2
  replace q0 := cell_up hb2 q0
  replace q1 := cell_up hb2 q1
  replace q2 := cell_up hb2 q2
  replace HB := below_next HB hb2
  replace HT := Lib.hid (HT.out.below hb2)
  replace HU := Lib.hid (HU.out.below hb2)
  clear hb2
  go_wp2_with fail
  go_ret
  exact ⟨by rw [HR.out]; rfl, HB⟩
end Go.Proofs.YtfimacgmciogmaaGreatDoor
namespace Go.Proofs.YtfimacgmciogmaaGreatDoor
set_option linter.unusedSimpArgs false
set_option linter.unusedVariables false
open Go.RowKit Go.Shelf Go.Sort
theorem sg_neq_f (k m : Int) (w : World) : (binOp .neq 78 (.agg #[.int .i64 k, .int .i64 m]) (.agg #[.int .i64 k, .int .i64 m])).run Tryz.prog w = .ok (.bool false) w := by
 rw [run_neq_struct, run_equalIn_struct w 9999 78 _ _ (by kernel_rfl) (by kernel_rfl)]
 simp only [Program.fieldsOf, Tryz.underlying78]
 simp [Op.eqFields, go_sem]
theorem dm_neq_f (a b c d : Int) (w : World) : (binOp .neq 81 (.agg #[.int .i64 a, .int .i64 b, .int .i64 c, .int .i64 d]) (.agg #[.int .i64 a, .int .i64 b, .int .i64 c, .int .i64 d])).run Tryz.prog w = .ok (.bool false) w := by
 rw [run_neq_struct, run_equalIn_struct w 9999 81 _ _ (by kernel_rfl) (by kernel_rfl)]
 simp only [Program.fieldsOf, Tryz.underlying81]
 simp [Op.eqFields, go_sem]
theorem part_px (w : World) (a b c : Value) : (part 70 #[a, b, c] 0).run Tryz.prog w = .ok (.agg #[a, b]) w := by kernel_rfl
theorem px_eq_t (a b : Int) (w : World) : (Op.equalIn 9998 70 (.agg #[.int .u32 a, .int .i64 b]) (.agg #[.int .u32 a, .int .i64 b])).run Tryz.prog w = .ok true w := by
 rw [run_equalIn_struct w 9997 70 _ _ (by kernel_rfl) (by kernel_rfl)]
 simp only [Program.fieldsOf, Tryz.underlying70]
 simp [Op.eqFields, go_sem]
theorem rt_neq_f (a b c : Int) (w : World) : (binOp .neq 72 (.agg #[.int .u32 a, .int .i64 b, .int .i64 c]) (.agg #[.int .u32 a, .int .i64 b, .int .i64 c])).run Tryz.prog w = .ok (.bool false) w := by
 rw [run_neq_struct, run_equalIn_struct w 9999 72 _ _ (by kernel_rfl) (by kernel_rfl)]
 simp only [Program.fieldsOf, Tryz.underlying72]
 have h1 := part_px w (.int .u32 a) (.int .i64 b) (.int .i64 c)
 have h2 := px_eq_t a b w
 simp [Op.eqFields, go_sem, h1, h2]
theorem eq_five (a b c d e : Int) (w : World) : (Op.equalIn 10000 31 (.agg #[.int .i64 a, .int .i64 b, .int .i64 c, .int .i64 d, .int .i64 e]) (.agg #[.int .i64 a, .int .i64 b, .int .i64 c, .int .i64 d, .int .i64 e])).run Tryz.prog w = .ok true w := by
 obtain ⟨i, hi⟩ := info_of_underlying (P := Tryz.prog) Tryz.underlying3
 rw [run_equalIn_array w 9999 _ _ Tryz.underlying31 hi, show Tryz.prog.cellsOf 3 = 1 by kernel_rfl]
 simp only [List.range_succ, List.range_zero, List.nil_append, List.cons_append, Op.eqItems, Sem.run_bind, Sem.run_ite, Sem.run_pure]
 have h0 := part_i w #[.int .i64 a, .int .i64 b, .int .i64 c, .int .i64 d, .int .i64 e] (0 * 1) (.int .i64 a) rfl
 have h1 := part_i w #[.int .i64 a, .int .i64 b, .int .i64 c, .int .i64 d, .int .i64 e] (1 * 1) (.int .i64 b) rfl
 have h2 := part_i w #[.int .i64 a, .int .i64 b, .int .i64 c, .int .i64 d, .int .i64 e] (2 * 1) (.int .i64 c) rfl
 have h3 := part_i w #[.int .i64 a, .int .i64 b, .int .i64 c, .int .i64 d, .int .i64 e] (3 * 1) (.int .i64 d) rfl
 have h4 := part_i w #[.int .i64 a, .int .i64 b, .int .i64 c, .int .i64 d, .int .i64 e] (4 * 1) (.int .i64 e) rfl
 simp only [h0, h1, h2, h3, h4, Nat.zero_add, Nat.reduceAdd, Result.andThen_ok, eq_i, beq_self_eq_true, if_true, Bool.not_true, Bool.false_eq_true, if_false]
/-- Two boxed configurations of equal contents, in a later world. -/
structure KB (w : World) (n : Int) (r r' : Rws) (c : Cf) (W : World) : Prop where
 b1 : W.heap[w.heap.size]? = some (.cells (cfCells n r c) 40 (0, 0))
 b2 : W.heap[w.heap.size + 1]? = some (.cells (cfCells n r' c) 40 (0, 0))
 c1 : CAt W r c
 c2 : CAt W r' c
 hb : Below w.heap.size w W
theorem KB.up {w : World} {n : Int} {r r' : Rws} {c : Cf} {W W' : World} (h : KB w n r r' c W) (hb : Below W.heap.size W W') : KB w n r r' c W' :=
 ⟨(hb.block _ (lt_of_heap h.b1)).trans h.b1, (hb.block _ (lt_of_heap h.b2)).trans h.b2, h.c1.below hb, h.c2.below hb, below_next h.hb hb⟩
theorem KB.p {w : World} {n : Int} {r r' : Rws} {c : Cf} {W : World} (h : KB w n r r' c W) (j : Nat) : W.cell? ⟨w.heap.size, j, none⟩ = (cfCells n r c)[j]? := Lib.cell_of_heap h.b1 j
theorem KB.q {w : World} {n : Int} {r r' : Rws} {c : Cf} {W : World} (h : KB w n r r' c W) (j : Nat) : W.cell? ⟨w.heap.size + 1, j, none⟩ = (cfCells n r' c)[j]? := Lib.cell_of_heap h.b2 j
set_option maxHeartbeats 2000000 in
set_option maxRecDepth 100000 in
theorem ref15_same (ps : List (List UInt8)) (hp : ps.length ≤ 100000) (A B : Option Addr) (c d : Nat) (w : World) (hA : Rd w A (ps.map strW)) (hB : Rd w B (ps.map strW)) :
  Calls Tryz.prog 27 #[.slice A ps.length c, .slice B ps.length d] w fun e w' => e = .returned (.bool true) ∧ Below w.heap.size w w' := by
 have HA := Lib.hid hA
 have HB := Lib.hid hB
 have HBW := Below.refl w.heap.size w
 clear hA hB
 go_enter Tryz.func27, Tryz.ntmps27
 go_wp2_with fail
 go_loopw [5] (fun i wr => ∃ k : Nat, k ≤ ps.length ∧ i = .int .i64 k ∧ Below w.heap.size w wr) (fun i _ => ps.length - (intOf i).toNat)
 case atStart => exact ⟨0, Nat.zero_le _, rfl, HBW⟩
 case round =>
  clear HBW
  obtain ⟨k, hk, rfl, HBW⟩ := hrel
  by_cases hlt : k < ps.length
  ·obtain ⟨b, o, rfl, h1⟩ := (HA.out.below HBW).at_ (k := k) (u := strW ps[k]) (by simp [List.getElem?_eq_getElem hlt])
   obtain ⟨b', o', rfl, h2⟩ := (HB.out.below HBW).at_ (k := k) (u := strW ps[k]) (by simp [List.getElem?_eq_getElem hlt])
   unfold strW at h1 h2
   generalize (⟨ps[k].toArray⟩ : ByteArray) = s at h1 h2
   have hs : (s.toList == s.toList) = true := by simp
   have hs2 : (s.toList != s.toList) = false := by simp
   go_wp2_with fail
   have kq_h1 := cell_regrown h1
   have kq_h2 := cell_regrown h2
   refine wp_region_quiet_below (by kernel_rfl) (by kernel_rfl) ?_
   repeat (go_big_quiet_step (fail))
   refine wpQuiet_nil ?_
   intro w2 hb2
   replace hb2 := below_of_regrown hb2
   clear kq_h1 kq_h2
   replace h1 := cell_up hb2 h1
   replace h2 := cell_up hb2 h2
   replace HBW := below_next HBW hb2
   go_wp2_with fail
   go_roundw
   case rel => exact ⟨k + 1, by omega, by go_num, HBW⟩
   case measure => simp [intOf]; omega
  ·have hle : decide ((k : Int) < (ps.length : Int)) = false := by simp; omega
   go_wp2_with fail
   go_ret
   exact ⟨rfl, HBW⟩
structure SLim (c : Cf) : Prop where
 n : c.names.length ≤ 100000
 l : c.lnames.length ≤ 100000
 k : c.links.length ≤ 100000
 o : c.ov.length ≤ 100000
 p : c.pfx.length ≤ 100000
 q : c.pols.length ≤ 100000
 d : c.dems.length ≤ 100000
set_option maxHeartbeats 4000000 in
set_option maxRecDepth 100000 in
theorem ref15_Same_eq (n : Int) (r r' : Rws) (c : Cf) (hl : SLim c) (w : World) (h1 : CAt w r c) (h2 : CAt w r' c) :
  Calls Tryz.prog 8 #[.agg (cfCells n r c), .agg (cfCells n r' c)] w fun e w' => e = .returned (.bool true) ∧ Below w.heap.size w w' := by
 have HB0 : Below w.heap.size w ((w.alloc (.cells (cfCells n r c) 40)).alloc (.cells (cfCells n r' c) 40)) := below_next (below_box w _) (below_box _ _)
 have HK : Hid (KB w n r r' c ((w.alloc (.cells (cfCells n r c) 40)).alloc (.cells (cfCells n r' c) 40))) := Lib.hid ⟨by rw [Lib.alloc_old _ _ _ (by simp)]; exact heap_alloc_new _ _, by have := heap_alloc_new (w.alloc (.cells (cfCells n r c) 40)) (.cells (cfCells n r' c) 40); simpa using this, h1.below HB0, h2.below HB0, HB0⟩
 have HS1 : Hid (∀ W, KB w n r r' c W → Calls Tryz.prog 27 #[.slice r.aN c.names.length r.cN, .slice r'.aN c.names.length r'.cN] W fun e W' => e = .returned (.bool true) ∧ KB w n r r' c W') := Lib.hid fun W h => (ref15_same _ hl.n _ _ _ _ W h.c1.n h.c2.n).mono fun e W' hh => ⟨hh.1, h.up hh.2⟩
 have HS2 : Hid (∀ W, KB w n r r' c W → Calls Tryz.prog 27 #[.slice r.aL c.lnames.length r.cL, .slice r'.aL c.lnames.length r'.cL] W fun e W' => e = .returned (.bool true) ∧ KB w n r r' c W') := Lib.hid fun W h => (ref15_same _ hl.l _ _ _ _ W h.c1.l h.c2.l).mono fun e W' hh => ⟨hh.1, h.up hh.2⟩
 have HS3 : Hid (∀ W, KB w n r r' c W → Calls Tryz.prog 28 #[.agg #[.int .i64 n, .slice r.aO c.ov.length r.cO, .slice r.aK c.links.length r.cK], .agg #[.int .i64 n, .slice r'.aO c.ov.length r'.cO, .slice r'.aK c.links.length r'.cK]] W fun e W' => e = .returned (.bool true) ∧ KB w n r r' c W') := Lib.hid fun W h => (ref09_Same ⟨n, c.ov, c.links⟩ ⟨n, c.ov, c.links⟩ _ _ _ _ _ _ _ _ W ⟨h.c1.o, h.c1.k⟩ ⟨h.c2.o, h.c2.k⟩ (by have := hl.o; show c.ov.length ≤ _; omega) (by have := hl.o; show c.ov.length ≤ _; omega) (by have := hl.k; show c.links.length ≤ _; omega)).mono fun e W' hh => ⟨by rw [hh.1, same_refl], h.up hh.2⟩
 have HL := Lib.hid hl
 have htm := eq_five (c.tm[0]?.getD 0) (c.tm[1]?.getD 0) (c.tm[2]?.getD 0) (c.tm[3]?.getD 0) (c.tm[4]?.getD 0)
 clear h1 h2 hl HB0
 have p0 : ((w.alloc (.cells (cfCells n r c) 40)).alloc (.cells (cfCells n r' c) 40)).cell? ⟨w.heap.size, 0, none⟩ = some (.slice r.aN c.names.length r.cN) := (HK.out).p 0
 have q0 : ((w.alloc (.cells (cfCells n r c) 40)).alloc (.cells (cfCells n r' c) 40)).cell? ⟨w.heap.size + 1, 0, none⟩ = some (.slice r'.aN c.names.length r'.cN) := (HK.out).q 0
 go_enter Tryz.func8, Tryz.ntmps8
 go_wp2_with (first | (go_at_call 27; (with_reducible refine (HS1.out _ HK.out).mono ?_); rintro e w1 ⟨rfl, hk⟩; replace HK := Lib.hid hk; have p1 : (w1).cell? ⟨w.heap.size, 1, none⟩ = some (.slice r.aL c.lnames.length r.cL) := (hk).p 1; have q1 : (w1).cell? ⟨w.heap.size + 1, 1, none⟩ = some (.slice r'.aL c.lnames.length r'.cL) := (hk).q 1; clear hk HS1 p0 q0) | (go_at_call 27; (with_reducible refine (HS2.out _ HK.out).mono ?_); rintro e w2 ⟨rfl, hk⟩; replace HK := Lib.hid hk; have p2 : (w2).cell? ⟨w.heap.size, 2, none⟩ = some (.int .i64 n) := (hk).p 2; have q2 : (w2).cell? ⟨w.heap.size + 1, 2, none⟩ = some (.int .i64 n) := (hk).q 2; have p3 : (w2).cell? ⟨w.heap.size, 3, none⟩ = some (.slice r.aO c.ov.length r.cO) := (hk).p 3; have q3 : (w2).cell? ⟨w.heap.size + 1, 3, none⟩ = some (.slice r'.aO c.ov.length r'.cO) := (hk).q 3; have p4 : (w2).cell? ⟨w.heap.size, 4, none⟩ = some (.slice r.aK c.links.length r.cK) := (hk).p 4; have q4 : (w2).cell? ⟨w.heap.size + 1, 4, none⟩ = some (.slice r'.aK c.links.length r'.cK) := (hk).q 4; clear hk HS2 p1 q1) | (go_at_call 28; (with_reducible refine (HS3.out _ HK.out).mono ?_); rintro e w3 ⟨rfl, hk⟩; replace HK := Lib.hid hk; have p8 : (w3).cell? ⟨w.heap.size, 8, none⟩ = some (.int .i64 (c.tm.getD 0 0)) := (hk).p 8; have q8 : (w3).cell? ⟨w.heap.size + 1, 8, none⟩ = some (.int .i64 (c.tm.getD 0 0)) := (hk).q 8; have p9 : (w3).cell? ⟨w.heap.size, 9, none⟩ = some (.int .i64 (c.tm.getD 1 0)) := (hk).p 9; have q9 : (w3).cell? ⟨w.heap.size + 1, 9, none⟩ = some (.int .i64 (c.tm.getD 1 0)) := (hk).q 9; have p10 : (w3).cell? ⟨w.heap.size, 10, none⟩ = some (.int .i64 (c.tm.getD 2 0)) := (hk).p 10; have q10 : (w3).cell? ⟨w.heap.size + 1, 10, none⟩ = some (.int .i64 (c.tm.getD 2 0)) := (hk).q 10; have p11 : (w3).cell? ⟨w.heap.size, 11, none⟩ = some (.int .i64 (c.tm.getD 3 0)) := (hk).p 11; have q11 : (w3).cell? ⟨w.heap.size + 1, 11, none⟩ = some (.int .i64 (c.tm.getD 3 0)) := (hk).q 11; have p12 : (w3).cell? ⟨w.heap.size, 12, none⟩ = some (.int .i64 (c.tm.getD 4 0)) := (hk).p 12; have q12 : (w3).cell? ⟨w.heap.size + 1, 12, none⟩ = some (.int .i64 (c.tm.getD 4 0)) := (hk).q 12; have p5 : (w3).cell? ⟨w.heap.size, 5, none⟩ = some (.slice r.aP c.pfx.length r.cP) := (hk).p 5; have q5 : (w3).cell? ⟨w.heap.size + 1, 5, none⟩ = some (.slice r'.aP c.pfx.length r'.cP) := (hk).q 5; have p6 : (w3).cell? ⟨w.heap.size, 6, none⟩ = some (.slice r.aQ c.pols.length r.cQ) := (hk).p 6; have q6 : (w3).cell? ⟨w.heap.size + 1, 6, none⟩ = some (.slice r'.aQ c.pols.length r'.cQ) := (hk).q 6; have p7 : (w3).cell? ⟨w.heap.size, 7, none⟩ = some (.slice r.aD c.dems.length r.cD) := (hk).p 7; have q7 : (w3).cell? ⟨w.heap.size + 1, 7, none⟩ = some (.slice r'.aD c.dems.length r'.cD) := (hk).q 7; clear hk HS3 p2 q2 p3 q3 p4 q4))
 clear p8 q8 p9 q9 p10 q10 p11 q11 p12 q12 htm
 go_loopw [5] (fun i wr => ∃ k : Nat, k ≤ c.pfx.length ∧ i = .int .i64 k ∧ Hid (KB w n r r' c wr)) (fun i _ => c.pfx.length - (intOf i).toNat)
 case atStart => exact ⟨0, Nat.zero_le _, rfl, HK⟩
 case round =>
  clear HK p5 q5 p6 q6 p7 q7
  obtain ⟨k, hk, rfl, HK⟩ := hrel
  have hle := HL.out.p
  by_cases hlt : k < c.pfx.length
  ·have p5 : (wr).cell? ⟨w.heap.size, 5, none⟩ = some (.slice r.aP c.pfx.length r.cP) := (HK.out).p 5
   have q5 : (wr).cell? ⟨w.heap.size + 1, 5, none⟩ = some (.slice r'.aP c.pfx.length r'.cP) := (HK.out).q 5
   obtain ⟨b, o, hA, hc⟩ := HK.out.c1.p.flat 3 (fun _ => rfl) (by decide) hlt
   obtain ⟨b', o', hA', hc'⟩ := HK.out.c2.p.flat 3 (fun _ => rfl) (by decide) hlt
   rw [hA] at p5; rw [hA'] at q5
   generalize c.pfx[k] = x at hc hc'
   obtain ⟨x0, x1, x2⟩ := x
   have d0 : wr.cell? ⟨b, o + k * 3, none⟩ = some (.int .u32 x0) := hc 0 _ rfl
   have e0 : wr.cell? ⟨b', o' + k * 3, none⟩ = some (.int .u32 x0) := hc' 0 _ rfl
   have d1 : wr.cell? ⟨b, o + k * 3 + 1, none⟩ = some (.int .i64 x1) := hc 1 _ rfl
   have e1 : wr.cell? ⟨b', o' + k * 3 + 1, none⟩ = some (.int .i64 x1) := hc' 1 _ rfl
   have d2 : wr.cell? ⟨b, o + k * 3 + 2, none⟩ = some (.int .i64 x2) := hc 2 _ rfl
   have e2 : wr.cell? ⟨b', o' + k * 3 + 2, none⟩ = some (.int .i64 x2) := hc' 2 _ rfl
   clear hc hc' hA hA'
   have hz := rt_neq_f x0 x1 x2
   go_wp2_with fail
   have kq_p5 := cell_regrown p5
   have kq_q5 := cell_regrown q5
   have kq_d0 := cell_regrown d0
   have kq_d1 := cell_regrown d1
   have kq_d2 := cell_regrown d2
   have kq_e0 := cell_regrown e0
   have kq_e1 := cell_regrown e1
   have kq_e2 := cell_regrown e2
   refine wp_region_quiet_below (by kernel_rfl) (by kernel_rfl) ?_
   repeat (go_big_quiet_step (fail))
   refine wpQuiet_nil ?_
   intro w4 hb4
   replace hb4 := below_of_regrown hb4
   clear kq_p5 kq_q5 kq_d0 kq_d1 kq_d2 kq_e0 kq_e1 kq_e2
   replace p5 := cell_up hb4 p5
   replace q5 := cell_up hb4 q5
   replace d0 := cell_up hb4 d0
   replace d1 := cell_up hb4 d1
   replace d2 := cell_up hb4 d2
   replace e0 := cell_up hb4 e0
   replace e1 := cell_up hb4 e1
   replace e2 := cell_up hb4 e2
   replace HK := Lib.hid (HK.out.up hb4)
   clear hb4
   go_wp2_with fail
   go_roundw
   case rel => exact ⟨k + 1, by omega, by go_num, HK⟩
   case measure => simp [intOf]; omega
  ·have p5 : (wr).cell? ⟨w.heap.size, 5, none⟩ = some (.slice r.aP c.pfx.length r.cP) := (HK.out).p 5
   have q5 : (wr).cell? ⟨w.heap.size + 1, 5, none⟩ = some (.slice r'.aP c.pfx.length r'.cP) := (HK.out).q 5
   have p6 : (wr).cell? ⟨w.heap.size, 6, none⟩ = some (.slice r.aQ c.pols.length r.cQ) := (HK.out).p 6
   have q6 : (wr).cell? ⟨w.heap.size + 1, 6, none⟩ = some (.slice r'.aQ c.pols.length r'.cQ) := (HK.out).q 6
   have p7 : (wr).cell? ⟨w.heap.size, 7, none⟩ = some (.slice r.aD c.dems.length r.cD) := (HK.out).p 7
   have q7 : (wr).cell? ⟨w.heap.size + 1, 7, none⟩ = some (.slice r'.aD c.dems.length r'.cD) := (HK.out).q 7
   have hlf : decide ((k : Int) < (c.pfx.length : Int)) = false := by simp; omega
   go_wp2_with fail
   clear hlf hlt hk hle
   go_loopw [6] (fun i wr => ∃ k : Nat, k ≤ c.pols.length ∧ i = .int .i64 k ∧ Hid (KB w n r r' c wr)) (fun i _ => c.pols.length - (intOf i).toNat)
   case atStart => exact ⟨0, Nat.zero_le _, rfl, HK⟩
   case round =>
    clear HK p5 q5 p6 q6 p7 q7
    obtain ⟨k, hk, rfl, HK⟩ := hrel
    have hle := HL.out.q
    by_cases hlt : k < c.pols.length
    ·have p6 : (wr).cell? ⟨w.heap.size, 6, none⟩ = some (.slice r.aQ c.pols.length r.cQ) := (HK.out).p 6
     have q6 : (wr).cell? ⟨w.heap.size + 1, 6, none⟩ = some (.slice r'.aQ c.pols.length r'.cQ) := (HK.out).q 6
     have hz1 : k < (c.pols.zip r.ls).length := by rw [List.length_zip, HK.out.c1.ll]; omega
     have hz2 : k < (c.pols.zip r'.ls).length := by rw [List.length_zip, HK.out.c2.ll]; omega
     obtain ⟨b, o, hA, hc⟩ := HK.out.c1.q.flat 3 (fun _ => rfl) (by decide) hz1
     obtain ⟨b', o', hA', hc'⟩ := HK.out.c2.q.flat 3 (fun _ => rfl) (by decide) hz2
     have hs1 := HK.out.c1.s _ (List.getElem_mem hz1)
     have hs2 := HK.out.c2.s _ (List.getElem_mem hz2)
     simp only [List.getElem_zip] at hc hc' hs1 hs2
     rw [hA] at p6; rw [hA'] at q6
     have hlk1 : k < r.ls.length := by rw [HK.out.c1.ll]; exact hlt
     have hlk2 : k < r'.ls.length := by rw [HK.out.c2.ll]; exact hlt
     obtain ⟨x, hx⟩ : ∃ x, x = c.pols[k] := ⟨_, rfl⟩
     obtain ⟨y, hy⟩ : ∃ y, y = r.ls[k] := ⟨_, rfl⟩
     obtain ⟨z, hzz⟩ : ∃ z, z = r'.ls[k] := ⟨_, rfl⟩
     rw [← hx] at hc hc' hs1 hs2
     rw [← hy] at hc hs1
     rw [← hzz] at hc' hs2
     clear hx hy hzz hlk1 hlk2 hz1 hz2
     obtain ⟨x0, x1, l⟩ := x
     obtain ⟨A, ca⟩ := y
     obtain ⟨A2, ca2⟩ := z
     simp only at hs1 hs2
     have d0 : wr.cell? ⟨b, o + k * 3, none⟩ = some (.int .i64 x0) := hc 0 _ rfl
     have e0 : wr.cell? ⟨b', o' + k * 3, none⟩ = some (.int .i64 x0) := hc' 0 _ rfl
     have d1 : wr.cell? ⟨b, o + k * 3 + 1, none⟩ = some (.int .i64 x1) := hc 1 _ rfl
     have e1 : wr.cell? ⟨b', o' + k * 3 + 1, none⟩ = some (.int .i64 x1) := hc' 1 _ rfl
     have d2 : wr.cell? ⟨b, o + k * 3 + 2, none⟩ = some (.slice A l.length ca) := hc 2 _ rfl
     have e2 : wr.cell? ⟨b', o' + k * 3 + 2, none⟩ = some (.slice A2 l.length ca2) := hc' 2 _ rfl
     obtain ⟨g1, hlm⟩ := hs1
     unfold maxLen at hlm
     obtain ⟨g2, _⟩ := hs2
     have G1 := Lib.hid g1
     have G2 := Lib.hid g2
     clear hc hc' hA hA' g1 g2
     go_wp2_with fail
     refine wp_region_held_drew (S := (fun w9 => Below wr.heap.size wr w9)) (by kernel_rfl) ?_ (fun hHeld => ?_)
     ·first | exact Below.refl _ _ | exact (Below.refl _ _).drew
     (refine takeL (i := 0) (v := ?_) rfl (by kernel_rfl) (by decide +kernel) (by decide +kernel) (fun _ _ _ h => h) (Or.inl ⟨by rfl, ?_⟩) (by assumption) ?_; rotate_left; (focus (intro w9 hS9; (try dsimp only at hS9); have p6 := cell_up hS9 p6; have q6 := cell_up hS9 q6; have d0 := cell_up hS9 d0; have d1 := cell_up hS9 d1; have d2 := cell_up hS9 d2; have e0 := cell_up hS9 e0; have e1 := cell_up hS9 e1; have e2 := cell_up hS9 e2; go_simp; (try with_reducible rfl); done)))
     (try simp only [Act.put, List.setIfInBounds_toArray, List.set_cons_zero, List.set_cons_succ])
     (refine takeL (i := 1) (v := ?_) rfl (by kernel_rfl) (by decide +kernel) (by decide +kernel) (fun _ _ _ h => h) (Or.inl ⟨by rfl, ?_⟩) (by assumption) ?_; rotate_left; (focus (intro w9 hS9; (try dsimp only at hS9); have p6 := cell_up hS9 p6; have q6 := cell_up hS9 q6; have d0 := cell_up hS9 d0; have d1 := cell_up hS9 d1; have d2 := cell_up hS9 d2; have e0 := cell_up hS9 e0; have e1 := cell_up hS9 e1; have e2 := cell_up hS9 e2; go_simp; (try with_reducible rfl); done)))
     (try simp only [Act.put, List.setIfInBounds_toArray, List.set_cons_zero, List.set_cons_succ])
     (refine takeL (i := 2) (v := ?_) rfl (by kernel_rfl) (by decide +kernel) (by decide +kernel) (fun _ _ _ h => h) (Or.inl ⟨by rfl, ?_⟩) (by assumption) ?_; rotate_left; (focus (intro w9 hS9; (try dsimp only at hS9); have p6 := cell_up hS9 p6; have q6 := cell_up hS9 q6; have d0 := cell_up hS9 d0; have d1 := cell_up hS9 d1; have d2 := cell_up hS9 d2; have e0 := cell_up hS9 e0; have e1 := cell_up hS9 e1; have e2 := cell_up hS9 e2; go_simp; (try with_reducible rfl); done)))
     (try simp only [Act.put, List.setIfInBounds_toArray, List.set_cons_zero, List.set_cons_succ])
     (refine takeL (i := 3) (v := ?_) rfl (by kernel_rfl) (by decide +kernel) (by decide +kernel) (fun _ _ _ h => h) (Or.inl ⟨by rfl, ?_⟩) (by assumption) ?_; rotate_left; (focus (intro w9 hS9; (try dsimp only at hS9); have p6 := cell_up hS9 p6; have q6 := cell_up hS9 q6; have d0 := cell_up hS9 d0; have d1 := cell_up hS9 d1; have d2 := cell_up hS9 d2; have e0 := cell_up hS9 e0; have e1 := cell_up hS9 e1; have e2 := cell_up hS9 e2; go_simp; (try with_reducible rfl); done)))
     (try simp only [Act.put, List.setIfInBounds_toArray, List.set_cons_zero, List.set_cons_succ])
     (refine takeL (i := 4) (v := ?_) rfl (by kernel_rfl) (by decide +kernel) (by decide +kernel) (fun _ _ _ h => h) (Or.inl ⟨by rfl, ?_⟩) (by assumption) ?_; rotate_left; (focus (intro w9 hS9; (try dsimp only at hS9); have p6 := cell_up hS9 p6; have q6 := cell_up hS9 q6; have d0 := cell_up hS9 d0; have d1 := cell_up hS9 d1; have d2 := cell_up hS9 d2; have e0 := cell_up hS9 e0; have e1 := cell_up hS9 e1; have e2 := cell_up hS9 e2; go_simp; (try with_reducible rfl); done)))
     (try simp only [Act.put, List.setIfInBounds_toArray, List.set_cons_zero, List.set_cons_succ])
     (refine takeL (i := 5) (v := ?_) rfl (by kernel_rfl) (by decide +kernel) (by decide +kernel) (fun _ _ _ h => h) (Or.inl ⟨by rfl, ?_⟩) (by assumption) ?_; rotate_left; (focus (intro w9 hS9; (try dsimp only at hS9); have p6 := cell_up hS9 p6; have q6 := cell_up hS9 q6; have d0 := cell_up hS9 d0; have d1 := cell_up hS9 d1; have d2 := cell_up hS9 d2; have e0 := cell_up hS9 e0; have e1 := cell_up hS9 e1; have e2 := cell_up hS9 e2; go_simp; (try with_reducible rfl); done)))
     (try simp only [Act.put, List.setIfInBounds_toArray, List.set_cons_zero, List.set_cons_succ])
     (refine takeL (i := 6) (v := ?_) rfl (by kernel_rfl) (by decide +kernel) (by decide +kernel) (fun _ _ _ h => h) (Or.inl ⟨by rfl, ?_⟩) (by assumption) ?_; rotate_left; (focus (intro w9 hS9; (try dsimp only at hS9); have p6 := cell_up hS9 p6; have q6 := cell_up hS9 q6; have d0 := cell_up hS9 d0; have d1 := cell_up hS9 d1; have d2 := cell_up hS9 d2; have e0 := cell_up hS9 e0; have e1 := cell_up hS9 e1; have e2 := cell_up hS9 e2; go_simp; (try with_reducible rfl); done)))
     (try simp only [Act.put, List.setIfInBounds_toArray, List.set_cons_zero, List.set_cons_succ])
     (refine takeL (i := 7) (v := ?_) rfl (by kernel_rfl) (by decide +kernel) (by decide +kernel) (fun _ _ _ h => h) (Or.inl ⟨by rfl, ?_⟩) (by assumption) ?_; rotate_left; (focus (intro w9 hS9; (try dsimp only at hS9); have p6 := cell_up hS9 p6; have q6 := cell_up hS9 q6; have d0 := cell_up hS9 d0; have d1 := cell_up hS9 d1; have d2 := cell_up hS9 d2; have e0 := cell_up hS9 e0; have e1 := cell_up hS9 e1; have e2 := cell_up hS9 e2; go_simp; (try with_reducible rfl); done)))
     (try simp only [Act.put, List.setIfInBounds_toArray, List.set_cons_zero, List.set_cons_succ])
     (refine takeL (i := 8) (v := ?_) rfl (by kernel_rfl) (by decide +kernel) (by decide +kernel) (fun _ _ _ h => h) (Or.inl ⟨by rfl, ?_⟩) (by assumption) ?_; rotate_left; (focus (intro w9 hS9; (try dsimp only at hS9); have p6 := cell_up hS9 p6; have q6 := cell_up hS9 q6; have d0 := cell_up hS9 d0; have d1 := cell_up hS9 d1; have d2 := cell_up hS9 d2; have e0 := cell_up hS9 e0; have e1 := cell_up hS9 e1; have e2 := cell_up hS9 e2; go_simp; (try with_reducible rfl); done)))
     (try simp only [Act.put, List.setIfInBounds_toArray, List.set_cons_zero, List.set_cons_succ])
     (refine takeL (i := 9) (v := ?_) rfl (by kernel_rfl) (by decide +kernel) (by decide +kernel) (fun _ _ _ h => h) (Or.inl ⟨by rfl, ?_⟩) (by assumption) ?_; rotate_left; (focus (intro w9 hS9; (try dsimp only at hS9); have p6 := cell_up hS9 p6; have q6 := cell_up hS9 q6; have d0 := cell_up hS9 d0; have d1 := cell_up hS9 d1; have d2 := cell_up hS9 d2; have e0 := cell_up hS9 e0; have e1 := cell_up hS9 e1; have e2 := cell_up hS9 e2; go_simp; (try with_reducible rfl); done)))
     (try simp only [Act.put, List.setIfInBounds_toArray, List.set_cons_zero, List.set_cons_succ])
     refine wpAnyH_ready (rs := [10, 11]) (by decide +kernel) (by simp) ?_
     refine consL rfl (fun K hK => ?_) ?_
     ·(first | fail | (go_simp; first | done | (first | fail)) | go_simp)
      (first | (with_reducible refine hK.out _ _ ?_ ?_) | (go_wp2_with fail; refine hK.out _ _ ?_ ?_))
      (focus (exact below_next hHeld (below_box _ _)))
      clear hK K hHeld
      intro hHeld
      (try simp only [Act.put, List.setIfInBounds_toArray, List.set_cons_zero, List.set_cons_succ])
      refine wpAnyH_ready (rs := [11]) (by decide +kernel) (by simp) ?_
      refine consL rfl (fun K hK => ?_) ?_
      ·(first | fail | (go_simp; first | done | (first | fail)) | go_simp)
       (first | (with_reducible refine hK.out _ _ ?_ ?_) | (go_wp2_with fail; refine hK.out _ _ ?_ ?_))
       (focus (exact below_next hHeld (below_box _ _)))
       clear hK K hHeld
       intro hHeld
       (try simp only [Act.put, List.setIfInBounds_toArray, List.set_cons_zero, List.set_cons_succ])
       refine wpAnyH_ready (rs := [12]) (by decide +kernel) (by simp) ?_
       refine consL rfl (fun K hK => ?_) ?_
       ·(first | fail | (go_simp; first | done | (first | fail)) | go_simp)
        (first | (with_reducible refine hK.out _ _ ?_ ?_) | (go_wp2_with fail; refine hK.out _ _ ?_ ?_))
        (focus (exact below_next (below_next (below_box wr _) (below_box _ _)) (below_drw2 _)))
        clear hK K hHeld
        intro hHeld
        (try simp only [Act.put, List.setIfInBounds_toArray, List.set_cons_zero, List.set_cons_succ])
        refine wpAnyH_ready (rs := [13]) (by decide +kernel) (by simp) ?_
        refine consL rfl (fun K hK => ?_) ?_
        ·(first | fail | (go_simp; first | done | (first | fail)) | go_simp)
         (first | (with_reducible refine hK.out _ _ ?_ ?_) | (go_wp2_with fail; refine hK.out _ _ ?_ ?_))
         (focus (exact below_next (below_next (below_box wr _) (below_box _ _)) (below_drw2 _)))
         clear hK K hHeld
         intro hHeld
         (try simp only [Act.put, List.setIfInBounds_toArray, List.set_cons_zero, List.set_cons_succ])
         refine wpAnyH_done (by decide +kernel) ?_ _
         obtain ⟨W5, hW5⟩ : ∃ W, W = ((wr.alloc (.cells #[.int .i64 x0, .int .i64 x1, .slice A l.length ca] 76)).alloc (.cells #[.int .i64 x0, .int .i64 x1, .slice A2 l.length ca2] 76)).drew := ⟨_, rfl⟩
         rw [← hW5] at hHeld ⊢
         have HK5 := Lib.hid (HK.out.up hHeld)
         have f0 : W5.cell? ⟨wr.heap.size, 0, none⟩ = some (.int .i64 x0) := by rw [hW5]; simp
         have f1 : W5.cell? ⟨wr.heap.size, 1, none⟩ = some (.int .i64 x1) := by rw [hW5]; simp
         have f2 : W5.cell? ⟨wr.heap.size, 2, none⟩ = some (.slice A l.length ca) := by rw [hW5]; simp
         have g0 : W5.cell? ⟨wr.heap.size + 1, 0, none⟩ = some (.int .i64 x0) := by rw [hW5]; simp
         have g1 : W5.cell? ⟨wr.heap.size + 1, 1, none⟩ = some (.int .i64 x1) := by rw [hW5]; simp
         have g2 : W5.cell? ⟨wr.heap.size + 1, 2, none⟩ = some (.slice A2 l.length ca2) := by rw [hW5]; simp
         have G3 := Lib.hid (G1.out.below hHeld)
         have G4 := Lib.hid (G2.out.below hHeld)
         clear hW5 hHeld HK G1 G2 p6 q6 d0 d1 d2 e0 e1 e2
         generalize wr.heap.size = gw at *
         go_wp2_with fail
         go_loopw [9] (fun i wx => ∃ j : Nat, j ≤ l.length ∧ i = .int .i64 j ∧ Hid (Below W5.heap.size W5 wx)) (fun i _ => l.length - (intOf i).toNat)
         case atStart => exact ⟨0, Nat.zero_le _, rfl, Lib.hid (Below.refl _ _)⟩
         case round =>
          obtain ⟨j, hj, rfl, HBJ⟩ := hrel
          replace f2 := cell_up HBJ.out f2
          replace g2 := cell_up HBJ.out g2
          clear f0 f1 g0 g1
          by_cases hlj : j < l.length
          ·obtain ⟨b, o, hA, hc⟩ := (G3.out.below HBJ.out).flat 2 (fun _ => rfl) (by decide) hlj
           obtain ⟨b', o', hA', hc'⟩ := (G4.out.below HBJ.out).flat 2 (fun _ => rfl) (by decide) hlj
           rw [hA] at f2; rw [hA'] at g2
           generalize l[j] = y at hc hc'
           obtain ⟨y0, y1⟩ := y
           have d0 := hc 0 _ rfl
           have d1 := hc 1 _ rfl
           have e0 := hc' 0 _ rfl
           have e1 := hc' 1 _ rfl
           simp only [Nat.add_zero] at d0 e0
           clear hc hc' hA hA'
           have hz := sg_neq_f y0 y1
           go_wp2_with fail
           have kq_f2 := cell_regrown f2
           have kq_g2 := cell_regrown g2
           have kq_d0 := cell_regrown d0
           have kq_d1 := cell_regrown d1
           have kq_e0 := cell_regrown e0
           have kq_e1 := cell_regrown e1
           refine wp_region_quiet_below (by kernel_rfl) (by kernel_rfl) ?_
           repeat (go_big_quiet_step (fail))
           refine wpQuiet_nil ?_
           intro w6 hb6
           replace hb6 := below_of_regrown hb6
           clear kq_f2 kq_g2 kq_d0 kq_d1 kq_e0 kq_e1
           replace f2 := cell_up hb6 f2
           replace g2 := cell_up hb6 g2
           replace d0 := cell_up hb6 d0
           replace d1 := cell_up hb6 d1
           replace e0 := cell_up hb6 e0
           replace e1 := cell_up hb6 e1
           replace HBJ := Lib.hid (below_next HBJ.out hb6)
           clear hb6
           go_wp2_with fail
           go_roundw
           case rel => exact ⟨j + 1, by omega, by go_num, HBJ⟩
           case measure => simp [intOf]; omega
          ·have hlf2 : decide ((j : Int) < (l.length : Int)) = false := by simp; omega
           go_wp2_with fail
           go_roundw
           case rel => exact ⟨k + 1, by omega, by go_num, Lib.hid (HK5.out.up HBJ.out)⟩
           case measure => simp [intOf]; omega
        exact AllReadyH.nil
       exact AllReadyH.nil
      exact AllReadyH.nil
     refine consL rfl (fun K hK => ?_) ?_
     ·(first | fail | (go_simp; first | done | (first | fail)) | go_simp)
      (first | (with_reducible refine hK.out _ _ ?_ ?_) | (go_wp2_with fail; refine hK.out _ _ ?_ ?_))
      (focus (exact below_next hHeld (below_box _ _)))
      clear hK K hHeld
      intro hHeld
      (try simp only [Act.put, List.setIfInBounds_toArray, List.set_cons_zero, List.set_cons_succ])
      refine wpAnyH_ready (rs := [10]) (by decide +kernel) (by simp) ?_
      refine consL rfl (fun K hK => ?_) ?_
      ·(first | fail | (go_simp; first | done | (first | fail)) | go_simp)
       (first | (with_reducible refine hK.out _ _ ?_ ?_) | (go_wp2_with fail; refine hK.out _ _ ?_ ?_))
       (focus (exact below_next hHeld (below_box _ _)))
       clear hK K hHeld
       intro hHeld
       (try simp only [Act.put, List.setIfInBounds_toArray, List.set_cons_zero, List.set_cons_succ])
       refine wpAnyH_ready (rs := [12]) (by decide +kernel) (by simp) ?_
       refine consL rfl (fun K hK => ?_) ?_
       ·(first | fail | (go_simp; first | done | (first | fail)) | go_simp)
        (first | (with_reducible refine hK.out _ _ ?_ ?_) | (go_wp2_with fail; refine hK.out _ _ ?_ ?_))
        (focus (exact below_next (below_next (below_box wr _) (below_box _ _)) (below_drw2 _)))
        clear hK K hHeld
        intro hHeld
        (try simp only [Act.put, List.setIfInBounds_toArray, List.set_cons_zero, List.set_cons_succ])
        refine wpAnyH_ready (rs := [13]) (by decide +kernel) (by simp) ?_
        refine consL rfl (fun K hK => ?_) ?_
        ·(first | fail | (go_simp; first | done | (first | fail)) | go_simp)
         (first | (with_reducible refine hK.out _ _ ?_ ?_) | (go_wp2_with fail; refine hK.out _ _ ?_ ?_))
         (focus (exact below_next (below_next (below_box wr _) (below_box _ _)) (below_drw2 _)))
         clear hK K hHeld
         intro hHeld
         (try simp only [Act.put, List.setIfInBounds_toArray, List.set_cons_zero, List.set_cons_succ])
         refine wpAnyH_done (by decide +kernel) ?_ _
         obtain ⟨W5, hW5⟩ : ∃ W, W = ((wr.alloc (.cells #[.int .i64 x0, .int .i64 x1, .slice A2 l.length ca2] 76)).alloc (.cells #[.int .i64 x0, .int .i64 x1, .slice A l.length ca] 76)).drew := ⟨_, rfl⟩
         rw [← hW5] at hHeld ⊢
         have HK5 := Lib.hid (HK.out.up hHeld)
         have f0 : W5.cell? ⟨wr.heap.size + 1, 0, none⟩ = some (.int .i64 x0) := by rw [hW5]; simp
         have f1 : W5.cell? ⟨wr.heap.size + 1, 1, none⟩ = some (.int .i64 x1) := by rw [hW5]; simp
         have f2 : W5.cell? ⟨wr.heap.size + 1, 2, none⟩ = some (.slice A l.length ca) := by rw [hW5]; simp
         have g0 : W5.cell? ⟨wr.heap.size, 0, none⟩ = some (.int .i64 x0) := by rw [hW5]; simp
         have g1 : W5.cell? ⟨wr.heap.size, 1, none⟩ = some (.int .i64 x1) := by rw [hW5]; simp
         have g2 : W5.cell? ⟨wr.heap.size, 2, none⟩ = some (.slice A2 l.length ca2) := by rw [hW5]; simp
         have G3 := Lib.hid (G1.out.below hHeld)
         have G4 := Lib.hid (G2.out.below hHeld)
         clear hW5 hHeld HK G1 G2 p6 q6 d0 d1 d2 e0 e1 e2
         generalize wr.heap.size = gw at *
         go_wp2_with fail
         go_loopw [9] (fun i wx => ∃ j : Nat, j ≤ l.length ∧ i = .int .i64 j ∧ Hid (Below W5.heap.size W5 wx)) (fun i _ => l.length - (intOf i).toNat)
         case atStart => exact ⟨0, Nat.zero_le _, rfl, Lib.hid (Below.refl _ _)⟩
         case round =>
          obtain ⟨j, hj, rfl, HBJ⟩ := hrel
          replace f2 := cell_up HBJ.out f2
          replace g2 := cell_up HBJ.out g2
          clear f0 f1 g0 g1
          by_cases hlj : j < l.length
          ·obtain ⟨b, o, hA, hc⟩ := (G3.out.below HBJ.out).flat 2 (fun _ => rfl) (by decide) hlj
           obtain ⟨b', o', hA', hc'⟩ := (G4.out.below HBJ.out).flat 2 (fun _ => rfl) (by decide) hlj
           rw [hA] at f2; rw [hA'] at g2
           generalize l[j] = y at hc hc'
           obtain ⟨y0, y1⟩ := y
           have d0 := hc 0 _ rfl
           have d1 := hc 1 _ rfl
           have e0 := hc' 0 _ rfl
           have e1 := hc' 1 _ rfl
           simp only [Nat.add_zero] at d0 e0
           clear hc hc' hA hA'
           have hz := sg_neq_f y0 y1
           go_wp2_with fail
           have kq_f2 := cell_regrown f2
           have kq_g2 := cell_regrown g2
           have kq_d0 := cell_regrown d0
           have kq_d1 := cell_regrown d1
           have kq_e0 := cell_regrown e0
           have kq_e1 := cell_regrown e1
           refine wp_region_quiet_below (by kernel_rfl) (by kernel_rfl) ?_
           repeat (go_big_quiet_step (fail))
           refine wpQuiet_nil ?_
           intro w6 hb6
           replace hb6 := below_of_regrown hb6
           clear kq_f2 kq_g2 kq_d0 kq_d1 kq_e0 kq_e1
           replace f2 := cell_up hb6 f2
           replace g2 := cell_up hb6 g2
           replace d0 := cell_up hb6 d0
           replace d1 := cell_up hb6 d1
           replace e0 := cell_up hb6 e0
           replace e1 := cell_up hb6 e1
           replace HBJ := Lib.hid (below_next HBJ.out hb6)
           clear hb6
           go_wp2_with fail
           go_roundw
           case rel => exact ⟨j + 1, by omega, by go_num, HBJ⟩
           case measure => simp [intOf]; omega
          ·have hlf2 : decide ((j : Int) < (l.length : Int)) = false := by simp; omega
           go_wp2_with fail
           go_roundw
           case rel => exact ⟨k + 1, by omega, by go_num, Lib.hid (HK5.out.up HBJ.out)⟩
           case measure => simp [intOf]; omega
        exact AllReadyH.nil
       exact AllReadyH.nil
      exact AllReadyH.nil
     exact AllReadyH.nil
    ·have p6 : (wr).cell? ⟨w.heap.size, 6, none⟩ = some (.slice r.aQ c.pols.length r.cQ) := (HK.out).p 6
     have q6 : (wr).cell? ⟨w.heap.size + 1, 6, none⟩ = some (.slice r'.aQ c.pols.length r'.cQ) := (HK.out).q 6
     have p7 : (wr).cell? ⟨w.heap.size, 7, none⟩ = some (.slice r.aD c.dems.length r.cD) := (HK.out).p 7
     have q7 : (wr).cell? ⟨w.heap.size + 1, 7, none⟩ = some (.slice r'.aD c.dems.length r'.cD) := (HK.out).q 7
     have hlf : decide ((k : Int) < (c.pols.length : Int)) = false := by simp; omega
     go_wp2_with fail
     clear hlf hlt hk hle p6 q6
     go_loopw [10] (fun i wr => ∃ k : Nat, k ≤ c.dems.length ∧ i = .int .i64 k ∧ Hid (KB w n r r' c wr)) (fun i _ => c.dems.length - (intOf i).toNat)
     case atStart => exact ⟨0, Nat.zero_le _, rfl, HK⟩
     case round =>
      clear HK p7 q7
      obtain ⟨k, hk, rfl, HK⟩ := hrel
      have hle := HL.out.d
      by_cases hlt : k < c.dems.length
      ·have p7 : (wr).cell? ⟨w.heap.size, 7, none⟩ = some (.slice r.aD c.dems.length r.cD) := (HK.out).p 7
       have q7 : (wr).cell? ⟨w.heap.size + 1, 7, none⟩ = some (.slice r'.aD c.dems.length r'.cD) := (HK.out).q 7
       obtain ⟨b, o, hA, hc⟩ := HK.out.c1.d.flat 4 (fun _ => rfl) (by decide) hlt
       obtain ⟨b', o', hA', hc'⟩ := HK.out.c2.d.flat 4 (fun _ => rfl) (by decide) hlt
       rw [hA] at p7; rw [hA'] at q7
       generalize c.dems[k] = x at hc hc'
       obtain ⟨x0, x1, x2, x3⟩ := x
       have d0 : wr.cell? ⟨b, o + k * 4, none⟩ = some (.int .i64 x0) := hc 0 _ rfl
       have e0 : wr.cell? ⟨b', o' + k * 4, none⟩ = some (.int .i64 x0) := hc' 0 _ rfl
       have d1 : wr.cell? ⟨b, o + k * 4 + 1, none⟩ = some (.int .i64 x1) := hc 1 _ rfl
       have e1 : wr.cell? ⟨b', o' + k * 4 + 1, none⟩ = some (.int .i64 x1) := hc' 1 _ rfl
       have d2 : wr.cell? ⟨b, o + k * 4 + 2, none⟩ = some (.int .i64 x2) := hc 2 _ rfl
       have e2 : wr.cell? ⟨b', o' + k * 4 + 2, none⟩ = some (.int .i64 x2) := hc' 2 _ rfl
       have d3 : wr.cell? ⟨b, o + k * 4 + 3, none⟩ = some (.int .i64 x3) := hc 3 _ rfl
       have e3 : wr.cell? ⟨b', o' + k * 4 + 3, none⟩ = some (.int .i64 x3) := hc' 3 _ rfl
       clear hc hc' hA hA'
       have hz := dm_neq_f x0 x1 x2 x3
       go_wp2_with fail
       have kq_p7 := cell_regrown p7
       have kq_q7 := cell_regrown q7
       have kq_d0 := cell_regrown d0
       have kq_d1 := cell_regrown d1
       have kq_d2 := cell_regrown d2
       have kq_d3 := cell_regrown d3
       have kq_e0 := cell_regrown e0
       have kq_e1 := cell_regrown e1
       have kq_e2 := cell_regrown e2
       have kq_e3 := cell_regrown e3
       refine wp_region_quiet_below (by kernel_rfl) (by kernel_rfl) ?_
       repeat (go_big_quiet_step (fail))
       refine wpQuiet_nil ?_
       intro w4 hb4
       replace hb4 := below_of_regrown hb4
       clear kq_p7 kq_q7 kq_d0 kq_d1 kq_d2 kq_d3 kq_e0 kq_e1 kq_e2 kq_e3
       replace p7 := cell_up hb4 p7
       replace q7 := cell_up hb4 q7
       replace d0 := cell_up hb4 d0
       replace d1 := cell_up hb4 d1
       replace d2 := cell_up hb4 d2
       replace d3 := cell_up hb4 d3
       replace e0 := cell_up hb4 e0
       replace e1 := cell_up hb4 e1
       replace e2 := cell_up hb4 e2
       replace e3 := cell_up hb4 e3
       replace HK := Lib.hid (HK.out.up hb4)
       clear hb4
       go_wp2_with fail
       go_roundw
       case rel => exact ⟨k + 1, by omega, by go_num, HK⟩
       case measure => simp [intOf]; omega
      ·have p7 : (wr).cell? ⟨w.heap.size, 7, none⟩ = some (.slice r.aD c.dems.length r.cD) := (HK.out).p 7
       have q7 : (wr).cell? ⟨w.heap.size + 1, 7, none⟩ = some (.slice r'.aD c.dems.length r'.cD) := (HK.out).q 7
       have hlf : decide ((k : Int) < (c.dems.length : Int)) = false := by simp; omega
       go_wp2_with fail
       go_ret
       exact ⟨rfl, HK.out.hb⟩
end Go.Proofs.YtfimacgmciogmaaGreatDoor
namespace Go.Proofs.YtfimacgmciogmaaGreatDoor
set_option linter.unusedSimpArgs false
set_option linter.unusedVariables false
open Go.RowKit Go.Sort Go.Shelf
theorem lines_ne0 : ∀ (ls : List (List UInt8)) (k : Nat) (c : Cf) {m : Nat} {x : Int}, parseL ls k c = .error (m, x) → x ≠ 0
 | [], _, _, _, _, h => by cases h
 | l :: r, k, c, m, x, h => by
  rw [parseL] at h
  split at h
  ·exact lines_ne0 r _ c h
  ·split at h
   ·rename_i e he
    injection h with h
    injection h with _ h
    subst h
    rintro rfl
    exact lineS_ne0 he
   ·split at h
    ·rename_i e he
     injection h with h
     injection h with _ h
     subst h
     rintro rfl
     exact lineS_ne0 he
    ·exact lines_ne0 r _ _ h
theorem parse_ne0 {s : List UInt8} {m : Nat} {x : Int} (h : parseC s = .error (m, x)) : x ≠ 0 := by
 rw [parseC] at h
 split at h
 ·rename_i e he
  injection h with h
  subst h
  exact lines_ne0 _ _ _ he
 ·split at h
  ·injection h with h
   injection h with _ h
   subst h
   decide
  ·cases h
theorem own_error {s : List UInt8} {m : Nat} {x : Int} (hp : parseC s = .error (m, x)) (hs : s.length ≤ 9999) (w : World) (hE : Errs w) (ht : Tab w.heap.size w) :
  Calls Tryz.prog 5 #[.string ⟨s.toArray⟩] w fun e w' => e = .returned (.tuple #[.agg zeroK, .int .i64 (m : Int), .int .i64 x]) ∧ Below w.heap.size w w' := by
 have h := config_ParseS s hs w hE ht
 rw [hp] at h
 exact h.mono fun _ _ h => h
/-- Parse returns this configuration, in some rows. -/
def RetOwn (n : Int) (c : Cf) (w : World) (e : Ending) (w' : World) : Prop := ∃ r, e = .returned (.tuple #[.agg (cfCells n r c), .int .i64 0, .int .i64 0]) ∧ CAt w' r c ∧ Below w.heap.size w w'
theorem RetCf.own {w w' : World} {c : Cf} {e : Ending} (h : RetCf w (.ok c) e w') : RetOwn (c.names.length : Int) (ovC c) w e w' := by
 obtain ⟨⟨r, rfl, hr, hll, _⟩, hb⟩ := h
 obtain ⟨r', hc, he⟩ := cat_of hr hll
 exact ⟨r', by rw [he], hc, hb⟩
theorem dat_cells {c d : Cf} (h : dat d = dat c) (n : Int) (r : Rws) : cfCells n r d = cfCells n r c := by
 have h1 : cfCells n r d = cfCells n r (dat d) := rfl
 have h2 : cfCells n r c = cfCells n r (dat c) := rfl
 rw [h1, h2, h]
theorem dat_at {c d : Cf} (h : dat d = dat c) {W : World} {r : Rws} (hd : CAt W r d) : CAt W r c := by
 have h1 : CAt W r (dat d) := ⟨hd.n, hd.l, hd.k, hd.o, hd.p, hd.q, hd.s, hd.d, hd.ll⟩
 rw [h] at h1
 exact ⟨h1.n, h1.l, h1.k, h1.o, h1.p, h1.q, h1.s, h1.d, h1.ll⟩
theorem own_lim {c : Cf} (h : CI c) (hne : c.names ≠ []) : VLim (ovC c) ∧ SLim (ovC c) := by
 have hr := ci_rc h hne
 have n1 := pfx_len hr
 have n2 := h.p64
 have n3 := h.d64
 have n4 := h.n64
 have n5 := h.l256
 have n6 := h.lk
 have n7 := h.ov
 have n8 : (ovC c).ov.length ≤ c.ov.length := by
  unfold ovC
  split
  ·exact Nat.le_refl _
  ·exact Nat.zero_le _
 have e1 : (ovC c).pfx = c.pfx := rfl
 rw [e1] at n1
 refine ⟨⟨?_, ?_, ?_, fun p hp => ⟨(h.pv p hp).1.2.1, (h.pv p hp).1.2.2.1, ?_⟩, fun p hp => ?_⟩, ⟨?_, ?_, ?_, ?_, ?_, ?_, ?_⟩⟩
 ·show c.pfx.length ≤ maxLen; unfold maxLen; omega
 ·show c.pols.length ≤ maxLen; unfold maxLen; omega
 ·show c.dems.length ≤ maxLen; unfold maxLen; omega
 ·have := (h.pv p hp).2; unfold inI; omega
 ·have := polB_iff.1 (h.pb p hp).1; unfold inI; omega
 ·show c.names.length ≤ _; omega
 ·show c.lnames.length ≤ _; omega
 ·show c.links.length ≤ _; omega
 ·omega
 ·show c.pfx.length ≤ _; omega
 ·show c.pols.length ≤ _; omega
 ·show c.dems.length ≤ _; omega
/-- The contracts that ConfigOwn calls, of a configuration that was parsed. -/
structure Own (n : Int) (c : Cf) (s : List UInt8) : Prop where
 p1 : ∀ w, Errs w → Tab w.heap.size w → Calls Tryz.prog 5 #[.string ⟨s.toArray⟩] w (RetOwn n c w)
 p2 : ∀ w, Errs w → Tab w.heap.size w → Calls Tryz.prog 5 #[.string ⟨(printC c).toArray⟩] w (RetOwn n c w)
 pr : ∀ r w, CAt w r c → Tab w.heap.size w → Calls Tryz.prog 6 #[.agg (cfCells n r c)] w fun e w' => e = .returned (.string ⟨(printC c).toArray⟩) ∧ Below w.heap.size w w'
 va : ∀ r w, CAt w r c → Calls Tryz.prog 7 #[.agg (cfCells n r c)] w fun e w' => e = .returned (.bool true) ∧ Below w.heap.size w w'
 sa : ∀ r r' w, CAt w r c → CAt w r' c → Calls Tryz.prog 8 #[.agg (cfCells n r c), .agg (cfCells n r' c)] w fun e w' => e = .returned (.bool true) ∧ Below w.heap.size w w'
theorem own_of {s : List UInt8} {c : Cf} (hp : parseC s = .ok c) (hs : s.length ≤ 9999) : Own (c.names.length : Int) (ovC c) s := by
 obtain ⟨hc, hne⟩ := parse_ci hp
 obtain ⟨hv, d, hd, hdat⟩ := own_plain hp
 have hrc := ci_rc hc hne
 obtain ⟨hl, hsl⟩ := own_lim hc hne
 have hlen := print_len hrc
 obtain ⟨q1, q2⟩ := print_split hrc
 refine ⟨fun w hE ht => ?_, fun w hE ht => ?_, fun r w h ht => config_Print _ r _ hl hv (by omega) w h ht, fun r w h => ?_, fun r r' w h1 h2 => ref15_Same_eq _ r r' _ hsl w h1 h2⟩
 ·have h := config_ParseS s hs w hE ht
  rw [hp] at h
  exact h.mono fun _ _ h => h.own
 ·have h := config_ParseL (printC (ovC c)) hlen q1 (fun l hl => by have := q2 l hl; omega) (fun l hl => by
   have h1 := q2 l hl
   have h2 := wordsS_len l
   exact ⟨by omega, fun x hx => by have := h2.2 x hx; omega⟩) w hE ht
  rw [hd] at h
  refine h.mono fun e w' h => ?_
  obtain ⟨r, he, h1, h2⟩ := h.own
  have e1 : d.names.length = c.names.length := by
   have := congrArg Cf.names hdat
   exact congrArg List.length this
  exact ⟨r, by rw [he, e1, dat_cells hdat], dat_at hdat h1, h2⟩
 ·have h9 := config_Valid (c.names.length : Int) r (ovC c) hl w h
  rw [hv] at h9
  exact h9
end Go.Proofs.YtfimacgmciogmaaGreatDoor
