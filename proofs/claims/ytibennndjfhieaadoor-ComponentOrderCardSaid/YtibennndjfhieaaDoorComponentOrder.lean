/-
  ComponentOrder: for every topology, three components and a number the law returns true: Within is reflexive and transitive, a link is within its nodes and its group. The card ComponentOrderCardSaid; no condition beyond the given row's.
-/
import Derived.Test.YtibennndjfhieaaDoorAwake10
import Derived.Test.YtibennndjfhieaaDoorWithin
import Derived.Test.YtibennndjfhieaaDoorOpenComp3
import Derived.Test.YtibennndjfhieaaDoorOpen
import Derived.Test.YtibennndjfhieaaDoorCards
import Derived.Test.YtibennndjfhieaaDoorTie
import Derived.WalkKit
import Derived.ProofKit
import Derived.OpenShut
import Derived.ChangeOld
import Derived.Deep.DeepHandedRow
import Derived.Lib.LaidTab
import Derived.MakeChecks
import Derived.Lib.LaidU8
namespace Go.Proofs.YtibennndjfhieaaDoor.componentOrder
open Go.ChangeShapes Go.WideShapes Go.ChangeAt Go.RowKit Go.Sort
set_option linter.unusedVariables false

theorem within_refl (t : Topo) (k m : Int) : withinV t k m k m = compV t k m := by
  have : withP t k m k m t.ls.length = true := withP_true.2 fun j _ h => h
  simp [withinV, this]
theorem within_trans {t : Topo} {k0 m0 k1 m1 k2 m2 : Int} (h1 : withinV t k0 m0 k1 m1 = true) (h2 : withinV t k1 m1 k2 m2 = true) : withinV t k0 m0 k2 m2 = true := by
  simp only [withinV, Bool.and_eq_true, withP_true] at h1 h2 ⊢
  exact ⟨⟨h1.1.1, h2.1.2⟩, fun j hj hp => h2.2 j hj (h1.2 j hj hp)⟩
theorem within_a {t : Topo} {n : Nat} {l : Lnk} (hv : valid t = true) (hl : t.ls[n]? = some l) : withinV t 1 (n : Int) 2 l.a = true := by
  have hn := (List.getElem?_eq_some_iff.1 hl).1
  have hb := lnk_bd (valid_lnk hv hl)
  simp only [withinV, Bool.and_eq_true, withP_true, compV1 hv, compV2 hv, decide_eq_true_eq]
  refine ⟨⟨⟨by omega, by omega⟩, by omega, by omega⟩, fun j hj hp => ?_⟩
  obtain rfl : j = n := by simp [part1] at hp; omega
  rw [part2 hl]; simp
theorem within_b {t : Topo} {n : Nat} {l : Lnk} (hv : valid t = true) (hl : t.ls[n]? = some l) : withinV t 1 (n : Int) 2 l.b = true := by
  have hn := (List.getElem?_eq_some_iff.1 hl).1
  have hb := lnk_bd (valid_lnk hv hl)
  simp only [withinV, Bool.and_eq_true, withP_true, compV1 hv, compV2 hv, decide_eq_true_eq]
  refine ⟨⟨⟨by omega, by omega⟩, by omega, by omega⟩, fun j hj hp => ?_⟩
  obtain rfl : j = n := by simp [part1] at hp; omega
  rw [part2 hl]; simp
theorem within_g {t : Topo} {n : Nat} {l : Lnk} (hv : valid t = true) (hl : t.ls[n]? = some l) (hg : (l.g == 0) = false) : withinV t 1 (n : Int) 3 l.g = true := by
  have hn := (List.getElem?_eq_some_iff.1 hl).1
  have hb := lnk_bd (valid_lnk hv hl)
  have hg' : l.g ≠ 0 := by simpa using hg
  simp only [withinV, Bool.and_eq_true, withP_true, compV1 hv, compV3 hv, decide_eq_true_eq]
  refine ⟨⟨⟨by omega, by omega⟩, by omega, by omega⟩, fun j hj hp => ?_⟩
  obtain rfl : j = n := by simp [part1] at hp; omega
  rw [part3 hl]; simp

set_option maxHeartbeats 16000000 in
set_option maxRecDepth 100000 in
theorem walk (t : Topo) (A1 A2 : Option Addr) (c1 c2 : Nat) (k0 m0 k1 m1 k2 m2 n : Int) (w : World) (hT : TAt w A1 A2 t) (hn : I64 t.n) (ho : t.ov.length ≤ maxLen) (hl : t.ls.length ≤ maxLen) (hb : ∀ l ∈ t.ls, LnkIn l) (hx : -9223372036854775808 ≤ n ∧ n ≤ 9223372036854775807) (ht : Tab w.heap.size w) :
    Calls Tryd.prog 7 #[.agg #[.int .i64 t.n, .slice A1 t.ov.length c1, .slice A2 t.ls.length c2], .agg #[.int .i64 k0, .int .i64 m0, .int .i64 k1, .int .i64 m1, .int .i64 k2, .int .i64 m2], .int .i64 n] w fun e w' => e = .returned (.bool true) ∧ Below w.heap.size w w' := by
  clear hn ho hl hb
  have HT0 := Lib.hid ht; clear ht
  have HTw := Lib.hid hT; clear hT
  have hb1 := below_box (w.alloc (.cells #[.int .i64 t.n, .slice A1 t.ov.length c1, .slice A2 t.ls.length c2] 25)) (.cells #[.int .i64 k0, .int .i64 m0, .int .i64 k1, .int .i64 m1, .int .i64 k2, .int .i64 m2] 44)
  have HB := below_next (below_box w (.cells #[.int .i64 t.n, .slice A1 t.ov.length c1, .slice A2 t.ls.length c2] 25)) hb1
  have b0 := cell_up hb1 (box0 w (.int .i64 t.n) (.slice A1 t.ov.length c1) (.slice A2 t.ls.length c2) 25)
  have b1 := cell_up hb1 (box1 w (.int .i64 t.n) (.slice A1 t.ov.length c1) (.slice A2 t.ls.length c2) 25)
  have b2 := cell_up hb1 (box2 w (.int .i64 t.n) (.slice A1 t.ov.length c1) (.slice A2 t.ls.length c2) 25)
  have s0 : ((w.alloc (.cells #[.int .i64 t.n, .slice A1 t.ov.length c1, .slice A2 t.ls.length c2] 25)).alloc (.cells #[.int .i64 k0, .int .i64 m0, .int .i64 k1, .int .i64 m1, .int .i64 k2, .int .i64 m2] 44)).cell? ⟨w.heap.size + 1, 0, none⟩ = some (.int .i64 k0) := by simp
  have s1 : ((w.alloc (.cells #[.int .i64 t.n, .slice A1 t.ov.length c1, .slice A2 t.ls.length c2] 25)).alloc (.cells #[.int .i64 k0, .int .i64 m0, .int .i64 k1, .int .i64 m1, .int .i64 k2, .int .i64 m2] 44)).cell? ⟨w.heap.size + 1, 1, none⟩ = some (.int .i64 m0) := by simp
  have s2 : ((w.alloc (.cells #[.int .i64 t.n, .slice A1 t.ov.length c1, .slice A2 t.ls.length c2] 25)).alloc (.cells #[.int .i64 k0, .int .i64 m0, .int .i64 k1, .int .i64 m1, .int .i64 k2, .int .i64 m2] 44)).cell? ⟨w.heap.size + 1, 2, none⟩ = some (.int .i64 k1) := by simp
  have s3 : ((w.alloc (.cells #[.int .i64 t.n, .slice A1 t.ov.length c1, .slice A2 t.ls.length c2] 25)).alloc (.cells #[.int .i64 k0, .int .i64 m0, .int .i64 k1, .int .i64 m1, .int .i64 k2, .int .i64 m2] 44)).cell? ⟨w.heap.size + 1, 3, none⟩ = some (.int .i64 m1) := by simp
  have s4 : ((w.alloc (.cells #[.int .i64 t.n, .slice A1 t.ov.length c1, .slice A2 t.ls.length c2] 25)).alloc (.cells #[.int .i64 k0, .int .i64 m0, .int .i64 k1, .int .i64 m1, .int .i64 k2, .int .i64 m2] 44)).cell? ⟨w.heap.size + 1, 4, none⟩ = some (.int .i64 k2) := by simp
  have s5 : ((w.alloc (.cells #[.int .i64 t.n, .slice A1 t.ov.length c1, .slice A2 t.ls.length c2] 25)).alloc (.cells #[.int .i64 k0, .int .i64 m0, .int .i64 k1, .int .i64 m1, .int .i64 k2, .int .i64 m2] 44)).cell? ⟨w.heap.size + 1, 5, none⟩ = some (.int .i64 m2) := by simp
  clear hb1
  cases hg : big t with
  | true =>
    go_enter Tryd.func7, Tryd.ntmps7
    go_wp2_with (first | (go_at_call 10; refine (law10_awake _ (tab_up HT0.out HB HB.size)).mono ?_; rintro e w1 ⟨rfl, hb⟩; replace b0 := cell_up hb b0; replace b1 := cell_up hb b1; replace b2 := cell_up hb b2; replace s0 := cell_up hb s0; replace s1 := cell_up hb s1; replace s2 := cell_up hb s2; replace s3 := cell_up hb s3; replace s4 := cell_up hb s4; replace s5 := cell_up hb s5; replace HB := below_next HB hb; clear hb) | (go_at_call 11; refine (law10_large _ _ _ t _ _ _).mono ?_; rintro e wL ⟨rfl, hb⟩; replace b0 := cell_up hb b0; replace b1 := cell_up hb b1; replace b2 := cell_up hb b2; replace s0 := cell_up hb s0; replace s1 := cell_up hb s1; replace s2 := cell_up hb s2; replace s3 := cell_up hb s3; replace s4 := cell_up hb s4; replace s5 := cell_up hb s5; replace HB := below_next HB hb; clear hb) | (go_at_call 26; refine (ref09_Valid t _ _ _ _ _ (HTw.out.below HB).ls).mono ?_; rintro e wD ⟨rfl, hb⟩; replace b0 := cell_up hb b0; replace b1 := cell_up hb b1; replace b2 := cell_up hb b2; replace s0 := cell_up hb s0; replace s1 := cell_up hb s1; replace s2 := cell_up hb s2; replace s3 := cell_up hb s3; replace s4 := cell_up hb s4; replace s5 := cell_up hb s5; replace HB := below_next HB hb; clear hb))
    go_ret
    exact ⟨rfl, HB⟩
  | false =>
    have hls : t.ls.length ≤ 100000 := by have := (big_false hg).2; omega
    cases hv : valid t with
    | false =>
      go_enter Tryd.func7, Tryd.ntmps7
      go_wp2_with (first | (go_at_call 10; refine (law10_awake _ (tab_up HT0.out HB HB.size)).mono ?_; rintro e w1 ⟨rfl, hb⟩; replace b0 := cell_up hb b0; replace b1 := cell_up hb b1; replace b2 := cell_up hb b2; replace s0 := cell_up hb s0; replace s1 := cell_up hb s1; replace s2 := cell_up hb s2; replace s3 := cell_up hb s3; replace s4 := cell_up hb s4; replace s5 := cell_up hb s5; replace HB := below_next HB hb; clear hb) | (go_at_call 11; refine (law10_large _ _ _ t _ _ _).mono ?_; rintro e wL ⟨rfl, hb⟩; replace b0 := cell_up hb b0; replace b1 := cell_up hb b1; replace b2 := cell_up hb b2; replace s0 := cell_up hb s0; replace s1 := cell_up hb s1; replace s2 := cell_up hb s2; replace s3 := cell_up hb s3; replace s4 := cell_up hb s4; replace s5 := cell_up hb s5; replace HB := below_next HB hb; clear hb) | (go_at_call 26; refine (ref09_Valid t _ _ _ _ _ (HTw.out.below HB).ls).mono ?_; rintro e wD ⟨rfl, hb⟩; replace b0 := cell_up hb b0; replace b1 := cell_up hb b1; replace b2 := cell_up hb b2; replace s0 := cell_up hb s0; replace s1 := cell_up hb s1; replace s2 := cell_up hb s2; replace s3 := cell_up hb s3; replace s4 := cell_up hb s4; replace s5 := cell_up hb s5; replace HB := below_next HB hb; clear hb))
      go_ret
      exact ⟨rfl, HB⟩
    | true =>
      go_enter Tryd.func7, Tryd.ntmps7
      go_wp2_with (first | (go_at_call 10; refine (law10_awake _ (tab_up HT0.out HB HB.size)).mono ?_; rintro e w1 ⟨rfl, hb⟩; replace b0 := cell_up hb b0; replace b1 := cell_up hb b1; replace b2 := cell_up hb b2; replace s0 := cell_up hb s0; replace s1 := cell_up hb s1; replace s2 := cell_up hb s2; replace s3 := cell_up hb s3; replace s4 := cell_up hb s4; replace s5 := cell_up hb s5; replace HB := below_next HB hb; clear hb) | (go_at_call 11; refine (law10_large _ _ _ t _ _ _).mono ?_; rintro e wL ⟨rfl, hb⟩; replace b0 := cell_up hb b0; replace b1 := cell_up hb b1; replace b2 := cell_up hb b2; replace s0 := cell_up hb s0; replace s1 := cell_up hb s1; replace s2 := cell_up hb s2; replace s3 := cell_up hb s3; replace s4 := cell_up hb s4; replace s5 := cell_up hb s5; replace HB := below_next HB hb; clear hb) | (go_at_call 26; refine (ref09_Valid t _ _ _ _ _ (HTw.out.below HB).ls).mono ?_; rintro e wD ⟨rfl, hb⟩; replace b0 := cell_up hb b0; replace b1 := cell_up hb b1; replace b2 := cell_up hb b2; replace s0 := cell_up hb s0; replace s1 := cell_up hb s1; replace s2 := cell_up hb s2; replace s3 := cell_up hb s3; replace s4 := cell_up hb s4; replace s5 := cell_up hb s5; replace HB := below_next HB hb; clear hb))
      clear HT0 hg
      have HV := Lib.hid hv
      clear hv
      cases hx01 : withinV t k0 m0 k1 m1 with
      | false =>
        have H01 : Hid (∀ d os, Calls Tryd.prog 24 #[.agg #[.int .i64 t.n, .slice A1 t.ov.length c1, .slice A2 t.ls.length c2], .agg #[.int .i64 k0, .int .i64 m0], .agg #[.int .i64 k1, .int .i64 m1]] (grow (redrawn wD d) os) fun e w'' => e = .returned (.bool false) ∧ ∃ p : Regrown, w'' = grow (redrawn wD p.d) p.os) := Lib.hid fun d os => by
          have h := component_Within t A1 A2 c1 c2 k0 m0 k1 m1 _ ((HTw.out.below HB).re d os) hls
          rw [hx01] at h
          exact Calls.regrown_of h
        have H00 : Hid (∀ d os, Calls Tryd.prog 24 #[.agg #[.int .i64 t.n, .slice A1 t.ov.length c1, .slice A2 t.ls.length c2], .agg #[.int .i64 k0, .int .i64 m0], .agg #[.int .i64 k0, .int .i64 m0]] (grow (redrawn wD d) os) fun e w'' => e = .returned (.bool (compV t k0 m0)) ∧ ∃ p : Regrown, w'' = grow (redrawn wD p.d) p.os) := Lib.hid fun d os => by
          have h := component_Within t A1 A2 c1 c2 k0 m0 k0 m0 _ ((HTw.out.below HB).re d os) hls
          rw [within_refl] at h
          exact Calls.regrown_of h
        have HcV : Hid (∀ d os, Calls Tryd.prog 14 #[.agg #[.int .i64 t.n, .slice A1 t.ov.length c1, .slice A2 t.ls.length c2], .agg #[.int .i64 k0, .int .i64 m0]] (grow (redrawn wD d) os) fun e w'' => e = .returned (.bool (compV t k0 m0)) ∧ ∃ p : Regrown, w'' = grow (redrawn wD p.d) p.os) := Lib.hid fun d os => Calls.regrown_of (component_Valid t A1 A2 c1 c2 k0 m0 _ ((HTw.out.below HB).re d os))
        have kq_b0 := cell_regrown b0
        have kq_b1 := cell_regrown b1
        have kq_b2 := cell_regrown b2
        have kq_s0 := cell_regrown s0
        have kq_s1 := cell_regrown s1
        have kq_s2 := cell_regrown s2
        have kq_s3 := cell_regrown s3
        have kq_s4 := cell_regrown s4
        have kq_s5 := cell_regrown s5
        refine wp_region_quiet_below (by kernel_rfl) (by kernel_rfl) ?_
        repeat (go_big_quiet_step (first | with_reducible exact H01.out _ _ | with_reducible exact H00.out _ _ | with_reducible exact HcV.out _ _))
        refine wpQuiet_nil ?_
        intro w2 hb2
        replace hb2 := below_of_regrown hb2
        clear kq_b0 kq_b1 kq_b2 kq_s0 kq_s1 kq_s2 kq_s3 kq_s4 kq_s5
        replace b0 := cell_up hb2 b0
        replace b1 := cell_up hb2 b1
        replace b2 := cell_up hb2 b2
        replace s0 := cell_up hb2 s0
        replace s1 := cell_up hb2 s1
        replace s2 := cell_up hb2 s2
        replace s3 := cell_up hb2 s3
        replace s4 := cell_up hb2 s4
        replace s5 := cell_up hb2 s5
        replace HB := below_next HB hb2
        clear hb2 H01 H00 HcV
        cases hn0 : decide (n < 0) with
        | true =>
          go_wp2_with fail
          go_ret
          exact ⟨rfl, HB⟩
        | false =>
          cases hn1 : decide ((t.ls.length : Int) ≤ n) with
          | true =>
            go_wp2_with fail
            go_ret
            exact ⟨rfl, HB⟩
          | false =>
            obtain ⟨nn, hnn⟩ : ∃ nn : Nat, n = (nn : Int) := ⟨n.toNat, by have := of_decide_eq_false hn0; omega⟩
            subst hnn
            have hnl : nn < t.ls.length := by have := of_decide_eq_false hn1; omega
            have hnl' : (nn : Int) < (t.ls.length : Int) := by omega
            have hn2 : (0 : Int) ≤ (nn : Int) := by omega
            obtain ⟨b, o, l, hA2, hl, hL⟩ := (HTw.out.below HB).ls.at_ hnl
            have q0 := hL.q0
            have q1 := hL.q1
            have q6 := hL.q6
            have EA := Lib.hid (within_a HV.out hl)
            have EB := Lib.hid (within_b HV.out hl)
            have EG := Lib.hid (fun h => within_g HV.out hl h)
            clear hl hL
            subst hA2
            go_wp2_with fail
            have hbx := below_box w2 (.cells #[.int .i64 1, .int .i64 nn] 31)
            replace b0 := cell_up hbx b0
            replace b1 := cell_up hbx b1
            replace b2 := cell_up hbx b2
            replace q0 := cell_up hbx q0
            replace q1 := cell_up hbx q1
            replace q6 := cell_up hbx q6
            have u0 : (w2.alloc (.cells #[.int .i64 1, .int .i64 nn] 31)).cell? ⟨w2.heap.size, 0, none⟩ = some (.int .i64 1) := by simp
            have u1 : (w2.alloc (.cells #[.int .i64 1, .int .i64 nn] 31)).cell? ⟨w2.heap.size, 1, none⟩ = some (.int .i64 nn) := by simp
            replace HB := below_next HB hbx
            obtain ⟨W5, hW5⟩ : ∃ W5, W5 = w2.alloc (.cells #[.int .i64 1, .int .i64 nn] 31) := ⟨_, rfl⟩
            rw [← hW5] at b0 b1 b2 q0 q1 q6 u0 u1 HB ⊢
            clear hW5 hbx s0 s1 s2 s3 s4 s5
            have HcA : Hid (∀ d os, Calls Tryd.prog 24 #[.agg #[.int .i64 t.n, .slice A1 t.ov.length c1, .slice (some ⟨b, o, none⟩) t.ls.length c2], .agg #[.int .i64 1, .int .i64 nn], .agg #[.int .i64 2, .int .i64 l.a]] (grow (redrawn W5 d) os) fun e w'' => e = .returned (.bool true) ∧ ∃ p : Regrown, w'' = grow (redrawn W5 p.d) p.os) := Lib.hid fun d os => by
              have h := component_Within t A1 (some ⟨b, o, none⟩) c1 c2 1 nn 2 l.a _ ((HTw.out.below HB).re d os) hls
              rw [EA.out] at h
              exact Calls.regrown_of h
            have kq_b0 := cell_regrown b0
            have kq_b1 := cell_regrown b1
            have kq_b2 := cell_regrown b2
            have kq_q0 := cell_regrown q0
            have kq_q1 := cell_regrown q1
            have kq_q6 := cell_regrown q6
            have kq_u0 := cell_regrown u0
            have kq_u1 := cell_regrown u1
            refine wp_region_quiet_below (by kernel_rfl) (by kernel_rfl) ?_
            repeat (go_big_quiet_step (exact HcA.out _ _))
            refine wpQuiet_nil ?_
            intro w6 hb6
            replace hb6 := below_of_regrown hb6
            clear kq_b0 kq_b1 kq_b2 kq_q0 kq_q1 kq_q6 kq_u0 kq_u1
            replace b0 := cell_up hb6 b0
            replace b1 := cell_up hb6 b1
            replace b2 := cell_up hb6 b2
            replace q0 := cell_up hb6 q0
            replace q1 := cell_up hb6 q1
            replace q6 := cell_up hb6 q6
            replace u0 := cell_up hb6 u0
            replace u1 := cell_up hb6 u1
            replace HB := below_next HB hb6
            clear HcA hb6
            go_wp2_with fail
            have HcB : Hid (∀ d os, Calls Tryd.prog 24 #[.agg #[.int .i64 t.n, .slice A1 t.ov.length c1, .slice (some ⟨b, o, none⟩) t.ls.length c2], .agg #[.int .i64 1, .int .i64 nn], .agg #[.int .i64 2, .int .i64 l.b]] (grow (redrawn w6 d) os) fun e w'' => e = .returned (.bool true) ∧ ∃ p : Regrown, w'' = grow (redrawn w6 p.d) p.os) := Lib.hid fun d os => by
              have h := component_Within t A1 (some ⟨b, o, none⟩) c1 c2 1 nn 2 l.b _ ((HTw.out.below HB).re d os) hls
              rw [EB.out] at h
              exact Calls.regrown_of h
            have kq_b0 := cell_regrown b0
            have kq_b1 := cell_regrown b1
            have kq_b2 := cell_regrown b2
            have kq_q0 := cell_regrown q0
            have kq_q1 := cell_regrown q1
            have kq_q6 := cell_regrown q6
            have kq_u0 := cell_regrown u0
            have kq_u1 := cell_regrown u1
            refine wp_region_quiet_below (by kernel_rfl) (by kernel_rfl) ?_
            repeat (go_big_quiet_step (exact HcB.out _ _))
            refine wpQuiet_nil ?_
            intro w7 hb7
            replace hb7 := below_of_regrown hb7
            clear kq_b0 kq_b1 kq_b2 kq_q0 kq_q1 kq_q6 kq_u0 kq_u1
            replace b0 := cell_up hb7 b0
            replace b1 := cell_up hb7 b1
            replace b2 := cell_up hb7 b2
            replace q0 := cell_up hb7 q0
            replace q1 := cell_up hb7 q1
            replace q6 := cell_up hb7 q6
            replace u0 := cell_up hb7 u0
            replace u1 := cell_up hb7 u1
            replace HB := below_next HB hb7
            clear HcB hb7
            go_wp2_with fail
            cases hgz : (l.g == 0) with
            | true =>
              have kq_b0 := cell_regrown b0
              have kq_b1 := cell_regrown b1
              have kq_b2 := cell_regrown b2
              have kq_q0 := cell_regrown q0
              have kq_q1 := cell_regrown q1
              have kq_q6 := cell_regrown q6
              have kq_u0 := cell_regrown u0
              have kq_u1 := cell_regrown u1
              refine wp_region_quiet_below (by kernel_rfl) (by kernel_rfl) ?_
              repeat (go_big_quiet_step (fail))
              refine wpQuiet_nil ?_
              intro w8 hb8
              replace hb8 := below_of_regrown hb8
              clear kq_b0 kq_b1 kq_b2 kq_q0 kq_q1 kq_q6 kq_u0 kq_u1
              replace b0 := cell_up hb8 b0
              replace b1 := cell_up hb8 b1
              replace b2 := cell_up hb8 b2
              replace q0 := cell_up hb8 q0
              replace q1 := cell_up hb8 q1
              replace q6 := cell_up hb8 q6
              replace u0 := cell_up hb8 u0
              replace u1 := cell_up hb8 u1
              replace HB := below_next HB hb8
              go_wp2_with fail
              go_ret
              exact ⟨rfl, HB⟩
            | false =>
              have HcG : Hid (∀ d os, Calls Tryd.prog 24 #[.agg #[.int .i64 t.n, .slice A1 t.ov.length c1, .slice (some ⟨b, o, none⟩) t.ls.length c2], .agg #[.int .i64 1, .int .i64 nn], .agg #[.int .i64 3, .int .i64 l.g]] (grow (redrawn w7 d) os) fun e w'' => e = .returned (.bool true) ∧ ∃ p : Regrown, w'' = grow (redrawn w7 p.d) p.os) := Lib.hid fun d os => by
                have h := component_Within t A1 (some ⟨b, o, none⟩) c1 c2 1 nn 3 l.g _ ((HTw.out.below HB).re d os) hls
                rw [EG.out hgz] at h
                exact Calls.regrown_of h
              have kq_b0 := cell_regrown b0
              have kq_b1 := cell_regrown b1
              have kq_b2 := cell_regrown b2
              have kq_q0 := cell_regrown q0
              have kq_q1 := cell_regrown q1
              have kq_q6 := cell_regrown q6
              have kq_u0 := cell_regrown u0
              have kq_u1 := cell_regrown u1
              refine wp_region_quiet_below (by kernel_rfl) (by kernel_rfl) ?_
              repeat (go_big_quiet_step (exact HcG.out _ _))
              refine wpQuiet_nil ?_
              intro w8 hb8
              replace hb8 := below_of_regrown hb8
              clear kq_b0 kq_b1 kq_b2 kq_q0 kq_q1 kq_q6 kq_u0 kq_u1
              replace b0 := cell_up hb8 b0
              replace b1 := cell_up hb8 b1
              replace b2 := cell_up hb8 b2
              replace q0 := cell_up hb8 q0
              replace q1 := cell_up hb8 q1
              replace q6 := cell_up hb8 q6
              replace u0 := cell_up hb8 u0
              replace u1 := cell_up hb8 u1
              replace HB := below_next HB hb8
              go_wp2_with fail
              go_ret
              exact ⟨rfl, HB⟩
      | true =>
        cases hx12 : withinV t k1 m1 k2 m2 with
        | false =>
          have H01 : Hid (∀ d os, Calls Tryd.prog 24 #[.agg #[.int .i64 t.n, .slice A1 t.ov.length c1, .slice A2 t.ls.length c2], .agg #[.int .i64 k0, .int .i64 m0], .agg #[.int .i64 k1, .int .i64 m1]] (grow (redrawn wD d) os) fun e w'' => e = .returned (.bool true) ∧ ∃ p : Regrown, w'' = grow (redrawn wD p.d) p.os) := Lib.hid fun d os => by
            have h := component_Within t A1 A2 c1 c2 k0 m0 k1 m1 _ ((HTw.out.below HB).re d os) hls
            rw [hx01] at h
            exact Calls.regrown_of h
          have H12 : Hid (∀ d os, Calls Tryd.prog 24 #[.agg #[.int .i64 t.n, .slice A1 t.ov.length c1, .slice A2 t.ls.length c2], .agg #[.int .i64 k1, .int .i64 m1], .agg #[.int .i64 k2, .int .i64 m2]] (grow (redrawn wD d) os) fun e w'' => e = .returned (.bool false) ∧ ∃ p : Regrown, w'' = grow (redrawn wD p.d) p.os) := Lib.hid fun d os => by
            have h := component_Within t A1 A2 c1 c2 k1 m1 k2 m2 _ ((HTw.out.below HB).re d os) hls
            rw [hx12] at h
            exact Calls.regrown_of h
          have H00 : Hid (∀ d os, Calls Tryd.prog 24 #[.agg #[.int .i64 t.n, .slice A1 t.ov.length c1, .slice A2 t.ls.length c2], .agg #[.int .i64 k0, .int .i64 m0], .agg #[.int .i64 k0, .int .i64 m0]] (grow (redrawn wD d) os) fun e w'' => e = .returned (.bool (compV t k0 m0)) ∧ ∃ p : Regrown, w'' = grow (redrawn wD p.d) p.os) := Lib.hid fun d os => by
            have h := component_Within t A1 A2 c1 c2 k0 m0 k0 m0 _ ((HTw.out.below HB).re d os) hls
            rw [within_refl] at h
            exact Calls.regrown_of h
          have HcV : Hid (∀ d os, Calls Tryd.prog 14 #[.agg #[.int .i64 t.n, .slice A1 t.ov.length c1, .slice A2 t.ls.length c2], .agg #[.int .i64 k0, .int .i64 m0]] (grow (redrawn wD d) os) fun e w'' => e = .returned (.bool (compV t k0 m0)) ∧ ∃ p : Regrown, w'' = grow (redrawn wD p.d) p.os) := Lib.hid fun d os => Calls.regrown_of (component_Valid t A1 A2 c1 c2 k0 m0 _ ((HTw.out.below HB).re d os))
          have kq_b0 := cell_regrown b0
          have kq_b1 := cell_regrown b1
          have kq_b2 := cell_regrown b2
          have kq_s0 := cell_regrown s0
          have kq_s1 := cell_regrown s1
          have kq_s2 := cell_regrown s2
          have kq_s3 := cell_regrown s3
          have kq_s4 := cell_regrown s4
          have kq_s5 := cell_regrown s5
          refine wp_region_quiet_below (by kernel_rfl) (by kernel_rfl) ?_
          repeat (go_big_quiet_step (first | with_reducible exact H01.out _ _ | with_reducible exact H12.out _ _ | with_reducible exact H00.out _ _ | with_reducible exact HcV.out _ _))
          refine wpQuiet_nil ?_
          intro w2 hb2
          replace hb2 := below_of_regrown hb2
          clear kq_b0 kq_b1 kq_b2 kq_s0 kq_s1 kq_s2 kq_s3 kq_s4 kq_s5
          replace b0 := cell_up hb2 b0
          replace b1 := cell_up hb2 b1
          replace b2 := cell_up hb2 b2
          replace s0 := cell_up hb2 s0
          replace s1 := cell_up hb2 s1
          replace s2 := cell_up hb2 s2
          replace s3 := cell_up hb2 s3
          replace s4 := cell_up hb2 s4
          replace s5 := cell_up hb2 s5
          replace HB := below_next HB hb2
          clear hb2 H01 H12 H00 HcV
          cases hn0 : decide (n < 0) with
          | true =>
            go_wp2_with fail
            go_ret
            exact ⟨rfl, HB⟩
          | false =>
            cases hn1 : decide ((t.ls.length : Int) ≤ n) with
            | true =>
              go_wp2_with fail
              go_ret
              exact ⟨rfl, HB⟩
            | false =>
              obtain ⟨nn, hnn⟩ : ∃ nn : Nat, n = (nn : Int) := ⟨n.toNat, by have := of_decide_eq_false hn0; omega⟩
              subst hnn
              have hnl : nn < t.ls.length := by have := of_decide_eq_false hn1; omega
              have hnl' : (nn : Int) < (t.ls.length : Int) := by omega
              have hn2 : (0 : Int) ≤ (nn : Int) := by omega
              obtain ⟨b, o, l, hA2, hl, hL⟩ := (HTw.out.below HB).ls.at_ hnl
              have q0 := hL.q0
              have q1 := hL.q1
              have q6 := hL.q6
              have EA := Lib.hid (within_a HV.out hl)
              have EB := Lib.hid (within_b HV.out hl)
              have EG := Lib.hid (fun h => within_g HV.out hl h)
              clear hl hL
              subst hA2
              go_wp2_with fail
              have hbx := below_box w2 (.cells #[.int .i64 1, .int .i64 nn] 31)
              replace b0 := cell_up hbx b0
              replace b1 := cell_up hbx b1
              replace b2 := cell_up hbx b2
              replace q0 := cell_up hbx q0
              replace q1 := cell_up hbx q1
              replace q6 := cell_up hbx q6
              have u0 : (w2.alloc (.cells #[.int .i64 1, .int .i64 nn] 31)).cell? ⟨w2.heap.size, 0, none⟩ = some (.int .i64 1) := by simp
              have u1 : (w2.alloc (.cells #[.int .i64 1, .int .i64 nn] 31)).cell? ⟨w2.heap.size, 1, none⟩ = some (.int .i64 nn) := by simp
              replace HB := below_next HB hbx
              obtain ⟨W5, hW5⟩ : ∃ W5, W5 = w2.alloc (.cells #[.int .i64 1, .int .i64 nn] 31) := ⟨_, rfl⟩
              rw [← hW5] at b0 b1 b2 q0 q1 q6 u0 u1 HB ⊢
              clear hW5 hbx s0 s1 s2 s3 s4 s5
              have HcA : Hid (∀ d os, Calls Tryd.prog 24 #[.agg #[.int .i64 t.n, .slice A1 t.ov.length c1, .slice (some ⟨b, o, none⟩) t.ls.length c2], .agg #[.int .i64 1, .int .i64 nn], .agg #[.int .i64 2, .int .i64 l.a]] (grow (redrawn W5 d) os) fun e w'' => e = .returned (.bool true) ∧ ∃ p : Regrown, w'' = grow (redrawn W5 p.d) p.os) := Lib.hid fun d os => by
                have h := component_Within t A1 (some ⟨b, o, none⟩) c1 c2 1 nn 2 l.a _ ((HTw.out.below HB).re d os) hls
                rw [EA.out] at h
                exact Calls.regrown_of h
              have kq_b0 := cell_regrown b0
              have kq_b1 := cell_regrown b1
              have kq_b2 := cell_regrown b2
              have kq_q0 := cell_regrown q0
              have kq_q1 := cell_regrown q1
              have kq_q6 := cell_regrown q6
              have kq_u0 := cell_regrown u0
              have kq_u1 := cell_regrown u1
              refine wp_region_quiet_below (by kernel_rfl) (by kernel_rfl) ?_
              repeat (go_big_quiet_step (exact HcA.out _ _))
              refine wpQuiet_nil ?_
              intro w6 hb6
              replace hb6 := below_of_regrown hb6
              clear kq_b0 kq_b1 kq_b2 kq_q0 kq_q1 kq_q6 kq_u0 kq_u1
              replace b0 := cell_up hb6 b0
              replace b1 := cell_up hb6 b1
              replace b2 := cell_up hb6 b2
              replace q0 := cell_up hb6 q0
              replace q1 := cell_up hb6 q1
              replace q6 := cell_up hb6 q6
              replace u0 := cell_up hb6 u0
              replace u1 := cell_up hb6 u1
              replace HB := below_next HB hb6
              clear HcA hb6
              go_wp2_with fail
              have HcB : Hid (∀ d os, Calls Tryd.prog 24 #[.agg #[.int .i64 t.n, .slice A1 t.ov.length c1, .slice (some ⟨b, o, none⟩) t.ls.length c2], .agg #[.int .i64 1, .int .i64 nn], .agg #[.int .i64 2, .int .i64 l.b]] (grow (redrawn w6 d) os) fun e w'' => e = .returned (.bool true) ∧ ∃ p : Regrown, w'' = grow (redrawn w6 p.d) p.os) := Lib.hid fun d os => by
                have h := component_Within t A1 (some ⟨b, o, none⟩) c1 c2 1 nn 2 l.b _ ((HTw.out.below HB).re d os) hls
                rw [EB.out] at h
                exact Calls.regrown_of h
              have kq_b0 := cell_regrown b0
              have kq_b1 := cell_regrown b1
              have kq_b2 := cell_regrown b2
              have kq_q0 := cell_regrown q0
              have kq_q1 := cell_regrown q1
              have kq_q6 := cell_regrown q6
              have kq_u0 := cell_regrown u0
              have kq_u1 := cell_regrown u1
              refine wp_region_quiet_below (by kernel_rfl) (by kernel_rfl) ?_
              repeat (go_big_quiet_step (exact HcB.out _ _))
              refine wpQuiet_nil ?_
              intro w7 hb7
              replace hb7 := below_of_regrown hb7
              clear kq_b0 kq_b1 kq_b2 kq_q0 kq_q1 kq_q6 kq_u0 kq_u1
              replace b0 := cell_up hb7 b0
              replace b1 := cell_up hb7 b1
              replace b2 := cell_up hb7 b2
              replace q0 := cell_up hb7 q0
              replace q1 := cell_up hb7 q1
              replace q6 := cell_up hb7 q6
              replace u0 := cell_up hb7 u0
              replace u1 := cell_up hb7 u1
              replace HB := below_next HB hb7
              clear HcB hb7
              go_wp2_with fail
              cases hgz : (l.g == 0) with
              | true =>
                have kq_b0 := cell_regrown b0
                have kq_b1 := cell_regrown b1
                have kq_b2 := cell_regrown b2
                have kq_q0 := cell_regrown q0
                have kq_q1 := cell_regrown q1
                have kq_q6 := cell_regrown q6
                have kq_u0 := cell_regrown u0
                have kq_u1 := cell_regrown u1
                refine wp_region_quiet_below (by kernel_rfl) (by kernel_rfl) ?_
                repeat (go_big_quiet_step (fail))
                refine wpQuiet_nil ?_
                intro w8 hb8
                replace hb8 := below_of_regrown hb8
                clear kq_b0 kq_b1 kq_b2 kq_q0 kq_q1 kq_q6 kq_u0 kq_u1
                replace b0 := cell_up hb8 b0
                replace b1 := cell_up hb8 b1
                replace b2 := cell_up hb8 b2
                replace q0 := cell_up hb8 q0
                replace q1 := cell_up hb8 q1
                replace q6 := cell_up hb8 q6
                replace u0 := cell_up hb8 u0
                replace u1 := cell_up hb8 u1
                replace HB := below_next HB hb8
                go_wp2_with fail
                go_ret
                exact ⟨rfl, HB⟩
              | false =>
                have HcG : Hid (∀ d os, Calls Tryd.prog 24 #[.agg #[.int .i64 t.n, .slice A1 t.ov.length c1, .slice (some ⟨b, o, none⟩) t.ls.length c2], .agg #[.int .i64 1, .int .i64 nn], .agg #[.int .i64 3, .int .i64 l.g]] (grow (redrawn w7 d) os) fun e w'' => e = .returned (.bool true) ∧ ∃ p : Regrown, w'' = grow (redrawn w7 p.d) p.os) := Lib.hid fun d os => by
                  have h := component_Within t A1 (some ⟨b, o, none⟩) c1 c2 1 nn 3 l.g _ ((HTw.out.below HB).re d os) hls
                  rw [EG.out hgz] at h
                  exact Calls.regrown_of h
                have kq_b0 := cell_regrown b0
                have kq_b1 := cell_regrown b1
                have kq_b2 := cell_regrown b2
                have kq_q0 := cell_regrown q0
                have kq_q1 := cell_regrown q1
                have kq_q6 := cell_regrown q6
                have kq_u0 := cell_regrown u0
                have kq_u1 := cell_regrown u1
                refine wp_region_quiet_below (by kernel_rfl) (by kernel_rfl) ?_
                repeat (go_big_quiet_step (exact HcG.out _ _))
                refine wpQuiet_nil ?_
                intro w8 hb8
                replace hb8 := below_of_regrown hb8
                clear kq_b0 kq_b1 kq_b2 kq_q0 kq_q1 kq_q6 kq_u0 kq_u1
                replace b0 := cell_up hb8 b0
                replace b1 := cell_up hb8 b1
                replace b2 := cell_up hb8 b2
                replace q0 := cell_up hb8 q0
                replace q1 := cell_up hb8 q1
                replace q6 := cell_up hb8 q6
                replace u0 := cell_up hb8 u0
                replace u1 := cell_up hb8 u1
                replace HB := below_next HB hb8
                go_wp2_with fail
                go_ret
                exact ⟨rfl, HB⟩
        | true =>
          have H01 : Hid (∀ d os, Calls Tryd.prog 24 #[.agg #[.int .i64 t.n, .slice A1 t.ov.length c1, .slice A2 t.ls.length c2], .agg #[.int .i64 k0, .int .i64 m0], .agg #[.int .i64 k1, .int .i64 m1]] (grow (redrawn wD d) os) fun e w'' => e = .returned (.bool true) ∧ ∃ p : Regrown, w'' = grow (redrawn wD p.d) p.os) := Lib.hid fun d os => by
            have h := component_Within t A1 A2 c1 c2 k0 m0 k1 m1 _ ((HTw.out.below HB).re d os) hls
            rw [hx01] at h
            exact Calls.regrown_of h
          have H12 : Hid (∀ d os, Calls Tryd.prog 24 #[.agg #[.int .i64 t.n, .slice A1 t.ov.length c1, .slice A2 t.ls.length c2], .agg #[.int .i64 k1, .int .i64 m1], .agg #[.int .i64 k2, .int .i64 m2]] (grow (redrawn wD d) os) fun e w'' => e = .returned (.bool true) ∧ ∃ p : Regrown, w'' = grow (redrawn wD p.d) p.os) := Lib.hid fun d os => by
            have h := component_Within t A1 A2 c1 c2 k1 m1 k2 m2 _ ((HTw.out.below HB).re d os) hls
            rw [hx12] at h
            exact Calls.regrown_of h
          have H02 : Hid (∀ d os, Calls Tryd.prog 24 #[.agg #[.int .i64 t.n, .slice A1 t.ov.length c1, .slice A2 t.ls.length c2], .agg #[.int .i64 k0, .int .i64 m0], .agg #[.int .i64 k2, .int .i64 m2]] (grow (redrawn wD d) os) fun e w'' => e = .returned (.bool true) ∧ ∃ p : Regrown, w'' = grow (redrawn wD p.d) p.os) := Lib.hid fun d os => by
            have h := component_Within t A1 A2 c1 c2 k0 m0 k2 m2 _ ((HTw.out.below HB).re d os) hls
            rw [within_trans hx01 hx12] at h
            exact Calls.regrown_of h
          have H00 : Hid (∀ d os, Calls Tryd.prog 24 #[.agg #[.int .i64 t.n, .slice A1 t.ov.length c1, .slice A2 t.ls.length c2], .agg #[.int .i64 k0, .int .i64 m0], .agg #[.int .i64 k0, .int .i64 m0]] (grow (redrawn wD d) os) fun e w'' => e = .returned (.bool (compV t k0 m0)) ∧ ∃ p : Regrown, w'' = grow (redrawn wD p.d) p.os) := Lib.hid fun d os => by
            have h := component_Within t A1 A2 c1 c2 k0 m0 k0 m0 _ ((HTw.out.below HB).re d os) hls
            rw [within_refl] at h
            exact Calls.regrown_of h
          have HcV : Hid (∀ d os, Calls Tryd.prog 14 #[.agg #[.int .i64 t.n, .slice A1 t.ov.length c1, .slice A2 t.ls.length c2], .agg #[.int .i64 k0, .int .i64 m0]] (grow (redrawn wD d) os) fun e w'' => e = .returned (.bool (compV t k0 m0)) ∧ ∃ p : Regrown, w'' = grow (redrawn wD p.d) p.os) := Lib.hid fun d os => Calls.regrown_of (component_Valid t A1 A2 c1 c2 k0 m0 _ ((HTw.out.below HB).re d os))
          have kq_b0 := cell_regrown b0
          have kq_b1 := cell_regrown b1
          have kq_b2 := cell_regrown b2
          have kq_s0 := cell_regrown s0
          have kq_s1 := cell_regrown s1
          have kq_s2 := cell_regrown s2
          have kq_s3 := cell_regrown s3
          have kq_s4 := cell_regrown s4
          have kq_s5 := cell_regrown s5
          refine wp_region_quiet_below (by kernel_rfl) (by kernel_rfl) ?_
          repeat (go_big_quiet_step (first | with_reducible exact H01.out _ _ | with_reducible exact H12.out _ _ | with_reducible exact H02.out _ _ | with_reducible exact H00.out _ _ | with_reducible exact HcV.out _ _))
          refine wpQuiet_nil ?_
          intro w2 hb2
          replace hb2 := below_of_regrown hb2
          clear kq_b0 kq_b1 kq_b2 kq_s0 kq_s1 kq_s2 kq_s3 kq_s4 kq_s5
          replace b0 := cell_up hb2 b0
          replace b1 := cell_up hb2 b1
          replace b2 := cell_up hb2 b2
          replace s0 := cell_up hb2 s0
          replace s1 := cell_up hb2 s1
          replace s2 := cell_up hb2 s2
          replace s3 := cell_up hb2 s3
          replace s4 := cell_up hb2 s4
          replace s5 := cell_up hb2 s5
          replace HB := below_next HB hb2
          clear hb2 H01 H12 H02 H00 HcV
          cases hn0 : decide (n < 0) with
          | true =>
            go_wp2_with fail
            go_ret
            exact ⟨rfl, HB⟩
          | false =>
            cases hn1 : decide ((t.ls.length : Int) ≤ n) with
            | true =>
              go_wp2_with fail
              go_ret
              exact ⟨rfl, HB⟩
            | false =>
              obtain ⟨nn, hnn⟩ : ∃ nn : Nat, n = (nn : Int) := ⟨n.toNat, by have := of_decide_eq_false hn0; omega⟩
              subst hnn
              have hnl : nn < t.ls.length := by have := of_decide_eq_false hn1; omega
              have hnl' : (nn : Int) < (t.ls.length : Int) := by omega
              have hn2 : (0 : Int) ≤ (nn : Int) := by omega
              obtain ⟨b, o, l, hA2, hl, hL⟩ := (HTw.out.below HB).ls.at_ hnl
              have q0 := hL.q0
              have q1 := hL.q1
              have q6 := hL.q6
              have EA := Lib.hid (within_a HV.out hl)
              have EB := Lib.hid (within_b HV.out hl)
              have EG := Lib.hid (fun h => within_g HV.out hl h)
              clear hl hL
              subst hA2
              go_wp2_with fail
              have hbx := below_box w2 (.cells #[.int .i64 1, .int .i64 nn] 31)
              replace b0 := cell_up hbx b0
              replace b1 := cell_up hbx b1
              replace b2 := cell_up hbx b2
              replace q0 := cell_up hbx q0
              replace q1 := cell_up hbx q1
              replace q6 := cell_up hbx q6
              have u0 : (w2.alloc (.cells #[.int .i64 1, .int .i64 nn] 31)).cell? ⟨w2.heap.size, 0, none⟩ = some (.int .i64 1) := by simp
              have u1 : (w2.alloc (.cells #[.int .i64 1, .int .i64 nn] 31)).cell? ⟨w2.heap.size, 1, none⟩ = some (.int .i64 nn) := by simp
              replace HB := below_next HB hbx
              obtain ⟨W5, hW5⟩ : ∃ W5, W5 = w2.alloc (.cells #[.int .i64 1, .int .i64 nn] 31) := ⟨_, rfl⟩
              rw [← hW5] at b0 b1 b2 q0 q1 q6 u0 u1 HB ⊢
              clear hW5 hbx s0 s1 s2 s3 s4 s5
              have HcA : Hid (∀ d os, Calls Tryd.prog 24 #[.agg #[.int .i64 t.n, .slice A1 t.ov.length c1, .slice (some ⟨b, o, none⟩) t.ls.length c2], .agg #[.int .i64 1, .int .i64 nn], .agg #[.int .i64 2, .int .i64 l.a]] (grow (redrawn W5 d) os) fun e w'' => e = .returned (.bool true) ∧ ∃ p : Regrown, w'' = grow (redrawn W5 p.d) p.os) := Lib.hid fun d os => by
                have h := component_Within t A1 (some ⟨b, o, none⟩) c1 c2 1 nn 2 l.a _ ((HTw.out.below HB).re d os) hls
                rw [EA.out] at h
                exact Calls.regrown_of h
              have kq_b0 := cell_regrown b0
              have kq_b1 := cell_regrown b1
              have kq_b2 := cell_regrown b2
              have kq_q0 := cell_regrown q0
              have kq_q1 := cell_regrown q1
              have kq_q6 := cell_regrown q6
              have kq_u0 := cell_regrown u0
              have kq_u1 := cell_regrown u1
              refine wp_region_quiet_below (by kernel_rfl) (by kernel_rfl) ?_
              repeat (go_big_quiet_step (exact HcA.out _ _))
              refine wpQuiet_nil ?_
              intro w6 hb6
              replace hb6 := below_of_regrown hb6
              clear kq_b0 kq_b1 kq_b2 kq_q0 kq_q1 kq_q6 kq_u0 kq_u1
              replace b0 := cell_up hb6 b0
              replace b1 := cell_up hb6 b1
              replace b2 := cell_up hb6 b2
              replace q0 := cell_up hb6 q0
              replace q1 := cell_up hb6 q1
              replace q6 := cell_up hb6 q6
              replace u0 := cell_up hb6 u0
              replace u1 := cell_up hb6 u1
              replace HB := below_next HB hb6
              clear HcA hb6
              go_wp2_with fail
              have HcB : Hid (∀ d os, Calls Tryd.prog 24 #[.agg #[.int .i64 t.n, .slice A1 t.ov.length c1, .slice (some ⟨b, o, none⟩) t.ls.length c2], .agg #[.int .i64 1, .int .i64 nn], .agg #[.int .i64 2, .int .i64 l.b]] (grow (redrawn w6 d) os) fun e w'' => e = .returned (.bool true) ∧ ∃ p : Regrown, w'' = grow (redrawn w6 p.d) p.os) := Lib.hid fun d os => by
                have h := component_Within t A1 (some ⟨b, o, none⟩) c1 c2 1 nn 2 l.b _ ((HTw.out.below HB).re d os) hls
                rw [EB.out] at h
                exact Calls.regrown_of h
              have kq_b0 := cell_regrown b0
              have kq_b1 := cell_regrown b1
              have kq_b2 := cell_regrown b2
              have kq_q0 := cell_regrown q0
              have kq_q1 := cell_regrown q1
              have kq_q6 := cell_regrown q6
              have kq_u0 := cell_regrown u0
              have kq_u1 := cell_regrown u1
              refine wp_region_quiet_below (by kernel_rfl) (by kernel_rfl) ?_
              repeat (go_big_quiet_step (exact HcB.out _ _))
              refine wpQuiet_nil ?_
              intro w7 hb7
              replace hb7 := below_of_regrown hb7
              clear kq_b0 kq_b1 kq_b2 kq_q0 kq_q1 kq_q6 kq_u0 kq_u1
              replace b0 := cell_up hb7 b0
              replace b1 := cell_up hb7 b1
              replace b2 := cell_up hb7 b2
              replace q0 := cell_up hb7 q0
              replace q1 := cell_up hb7 q1
              replace q6 := cell_up hb7 q6
              replace u0 := cell_up hb7 u0
              replace u1 := cell_up hb7 u1
              replace HB := below_next HB hb7
              clear HcB hb7
              go_wp2_with fail
              cases hgz : (l.g == 0) with
              | true =>
                have kq_b0 := cell_regrown b0
                have kq_b1 := cell_regrown b1
                have kq_b2 := cell_regrown b2
                have kq_q0 := cell_regrown q0
                have kq_q1 := cell_regrown q1
                have kq_q6 := cell_regrown q6
                have kq_u0 := cell_regrown u0
                have kq_u1 := cell_regrown u1
                refine wp_region_quiet_below (by kernel_rfl) (by kernel_rfl) ?_
                repeat (go_big_quiet_step (fail))
                refine wpQuiet_nil ?_
                intro w8 hb8
                replace hb8 := below_of_regrown hb8
                clear kq_b0 kq_b1 kq_b2 kq_q0 kq_q1 kq_q6 kq_u0 kq_u1
                replace b0 := cell_up hb8 b0
                replace b1 := cell_up hb8 b1
                replace b2 := cell_up hb8 b2
                replace q0 := cell_up hb8 q0
                replace q1 := cell_up hb8 q1
                replace q6 := cell_up hb8 q6
                replace u0 := cell_up hb8 u0
                replace u1 := cell_up hb8 u1
                replace HB := below_next HB hb8
                go_wp2_with fail
                go_ret
                exact ⟨rfl, HB⟩
              | false =>
                have HcG : Hid (∀ d os, Calls Tryd.prog 24 #[.agg #[.int .i64 t.n, .slice A1 t.ov.length c1, .slice (some ⟨b, o, none⟩) t.ls.length c2], .agg #[.int .i64 1, .int .i64 nn], .agg #[.int .i64 3, .int .i64 l.g]] (grow (redrawn w7 d) os) fun e w'' => e = .returned (.bool true) ∧ ∃ p : Regrown, w'' = grow (redrawn w7 p.d) p.os) := Lib.hid fun d os => by
                  have h := component_Within t A1 (some ⟨b, o, none⟩) c1 c2 1 nn 3 l.g _ ((HTw.out.below HB).re d os) hls
                  rw [EG.out hgz] at h
                  exact Calls.regrown_of h
                have kq_b0 := cell_regrown b0
                have kq_b1 := cell_regrown b1
                have kq_b2 := cell_regrown b2
                have kq_q0 := cell_regrown q0
                have kq_q1 := cell_regrown q1
                have kq_q6 := cell_regrown q6
                have kq_u0 := cell_regrown u0
                have kq_u1 := cell_regrown u1
                refine wp_region_quiet_below (by kernel_rfl) (by kernel_rfl) ?_
                repeat (go_big_quiet_step (exact HcG.out _ _))
                refine wpQuiet_nil ?_
                intro w8 hb8
                replace hb8 := below_of_regrown hb8
                clear kq_b0 kq_b1 kq_b2 kq_q0 kq_q1 kq_q6 kq_u0 kq_u1
                replace b0 := cell_up hb8 b0
                replace b1 := cell_up hb8 b1
                replace b2 := cell_up hb8 b2
                replace q0 := cell_up hb8 q0
                replace q1 := cell_up hb8 q1
                replace q6 := cell_up hb8 q6
                replace u0 := cell_up hb8 u0
                replace u1 := cell_up hb8 u1
                replace HB := below_next HB hb8
                go_wp2_with fail
                go_ret
                exact ⟨rfl, HB⟩

theorem own : ownKnob Tryd.prog.godebug = none := by kernel_rfl
theorem laidOut : laidOutB Tryd.prog = true := by kernel_rfl
theorem gTab : Tryd.prog.globalNamed "internal/strconv.uint64pow10" = some 3 := by kernel_rfl
theorem gTabType : (Tryd.prog.globals[(3 : Nat)]?).map (·.type) = some 102 := by kernel_rfl
set_option maxRecDepth 100000 in
theorem table {W : World} (h : laidMetH Tryd.prog Rows.componentOrderRow.laid W) : Lib.TabIs Tryd.prog W "internal/strconv.uint64pow10" .u64 Lib.pow10Tab :=
  by
  rw [Go.MakeChecks.laidMetH_plain _ _ _ (by kernel_rfl)] at h
  have hm : ("internal/strconv.uint64pow10", Rows.laid_internal_strconv_uint64pow10) ∈ Rows.componentOrderRow.laid := by simp [Rows.componentOrderRow]
  rw [show (Rows.laid_internal_strconv_uint64pow10 : DataW Unit) = Lib.tabData .u64 Lib.pow10Tab by kernel_rfl] at hm
  obtain ⟨g', t', cs, fuel, p, hg', ht', hvar, hd⟩ := Lib.laidMet.reads h hm
  obtain rfl := Option.some.inj (gTab.symm.trans hg')
  obtain rfl := Option.some.inj (gTabType.symm.trans ht')
  unfold Lib.TabIs
  rw [hvar, ← Lib.cells_of_tab Tryd.underlying102 Tryd.underlying77 (by kernel_rfl) (by kernel_rfl) hd]

set_option maxHeartbeats 1000000 in
set_option maxRecDepth 100000 in
/-- For every argument and every world that holds the tables. -/
theorem contract (H : Type) (enc : TypeId × Value → H) (W : World) (base : Nat) (args : Array Value) (ds gs : List (DataW H)) (before : List MemPlace)
    (hval : ∀ (j : Nat) t v, Tryd.f7.params[j]? = some t → args[j]? = some v → Value.okWide Tryd.prog W .any base t v)
    (hW : DataW.Whole enc Tryd.prog Tryd.f7.params.toList Rows.componentOrderSpec.vars false W args.toList ds gs before) (hL : laidMetH Tryd.prog Rows.componentOrderRow.laid W) :
    Calls Tryd.prog 7 args W fun e W' => ∃ v, e = .returned v ∧ Rows.componentOrderSpec.post enc Tryd.prog Tryd.f7 false true false false W args v W' := by
  have hW' := hW
  obtain ⟨p, q, hA0, hV, rfl, hfz, hnd⟩ := hW
  have hA : DataW.TrodAll enc Tryd.prog W 0 (fun _ => true) true Tryd.f7.params.toList args.toList ds p := hA0
  rw [Tryd.params7] at hA hval
  obtain ⟨v0, vs0, d0, ds0, p0, q0, hargs, rfl, rfl, h0, r0⟩ := trodAll_cons hA
  obtain ⟨v1, vs1, d1, ds1, p1, q1, rfl, rfl, rfl, h1, r1⟩ := trodAll_cons r0
  obtain ⟨v2, vs2, d2, ds2, p2, q2, rfl, rfl, rfl, h2, r2⟩ := trodAll_cons r1
  obtain ⟨rfl, rfl, rfl⟩ := trodAll_nil r2
  obtain rfl : args = #[v0, v1, v2] := by cases args; simp_all
  obtain ⟨rfl, rfl⟩ := trodVars_none hV
  have k0 := h0
  have lt0 : ∀ x ∈ p0, x.block < W.heap.size := by obtain ⟨m, hm⟩ := k0; exact DataW.trod_lt m _ _ _ hm
  obtain ⟨t0, A0a, A0b, c0a, c0b, rfl, hT0, hn0, ho0, hl0, hb0⟩ := open_topo (hval 0 25 v0 rfl rfl) h0
  have k1 := h1
  have lt1 : ∀ x ∈ p1, x.block < W.heap.size := by obtain ⟨m, hm⟩ := k1; exact DataW.trod_lt m _ _ _ hm
  obtain ⟨ka1, ma1, kb1, mb1, kc1, mc1, rfl⟩ := open_comp3 (hval 1 44 v1 rfl rfl) h1
  have k2 := h2
  have lt2 : ∀ x ∈ p2, x.block < W.heap.size := by obtain ⟨m, hm⟩ := k2; exact DataW.trod_lt m _ _ _ hm
  obtain ⟨x2, rfl, hx2⟩ := open_i64 Tryd.underlying3 (hval 2 3 v2 rfl rfl) h2
  clear hA0
  refine (walk t0 A0a A0b c0a c0b ka1 ma1 kb1 mb1 kc1 mc1 x2 W hT0 hn0 ho0 hl0 hb0  hx2 (Lib.tabBelow_of_tabIs (table hL))).mono fun e W' ⟨he, bel⟩ => ?_
  subst he
  exact ⟨_, rfl, _, _, _, [], _, [], hW', trodAll_mk1 (shut_bool Tryd.underlying4 _), (trodAll_cons_mk (Below.trod laidOut (by kernel_rfl) (of_decide_eq_true (by kernel_rfl)) k0 bel lt0) (trodAll_cons_mk (Below.trod laidOut (by kernel_rfl) (of_decide_eq_true (by kernel_rfl)) k1 bel lt1) (trodAll_cons_mk (Below.trod laidOut (by kernel_rfl) (of_decide_eq_true (by kernel_rfl)) k2 bel lt2) trodAll_mk0))), rfl, bel.frame _, fun h => by cases h⟩

/-- The cells of a laid table. -/
def tabCells : DataW Unit → Array Value
  | .agg ds => (ds.map fun | .lit (.int k n) => Value.int k n | _ => undef).toArray
  | _ => #[]
def layTab (c : Array Value) : Obj → Obj
  | .cells _ t frozen => .cells c t frozen
  | o => o
/-- A world for the witness: the settled one, the tables holding what their initialisers lay. -/
noncomputable def laidWorld (os : Os) : World :=
  { World.holding Tryd.prog os ⟨#[], #[], []⟩ with heap := (((World.holding Tryd.prog os ⟨#[], #[], []⟩).heap.modify 3 (layTab (tabCells Rows.laid_internal_strconv_uint64pow10))).modify 4 (layTab (tabCells Rows.laid_math_bits_deBruijn32tab))).modify 5 (layTab (tabCells Rows.laid_math_bits_deBruijn64tab)) }
set_option maxRecDepth 100000 in
theorem laid_met (os : Os) : laidMet Tryd.prog Rows.componentOrderRow.laid ((laidWorld os).forCall (fun _ _ => 0) ⟨#[], #[.agg #[.int .i64 0, .slice none 0 0, .slice none 0 0], .agg #[.int .i64 0, .int .i64 0, .int .i64 0, .int .i64 0, .int .i64 0, .int .i64 0], .int .i64 0], []⟩).memory :=
  laidMet_of_run' 8 (by kernel_rfl) (by kernel_rfl)
set_option maxRecDepth 100000 in
theorem reads (os : Os) {H : Type} (enc : TypeId × Value → H) : ∃ places, DataW.whole enc Tryd.prog ((laidWorld os).forCall (fun _ _ => 0) ⟨#[], #[.agg #[.int .i64 0, .slice none 0 0, .slice none 0 0], .agg #[.int .i64 0, .int .i64 0, .int .i64 0, .int .i64 0, .int .i64 0, .int .i64 0], .int .i64 0], []⟩).memory Tryd.f7.params.toList Rows.componentOrderSpec.vars false (#[.agg #[.int .i64 0, .slice none 0 0, .slice none 0 0], .agg #[.int .i64 0, .int .i64 0, .int .i64 0, .int .i64 0, .int .i64 0, .int .i64 0], .int .i64 0] : Array Value).toList 8 = some ([.agg [.lit (.int .i64 0), .nil, .nil], .agg [.agg [.lit (.int .i64 0), .lit (.int .i64 0)], .agg [.lit (.int .i64 0), .lit (.int .i64 0)], .agg [.lit (.int .i64 0), .lit (.int .i64 0)]], .lit (.int .i64 0)], [], places) :=
  ⟨[], by kernel_rfl⟩

set_option maxRecDepth 100000 in
theorem lifted (os : Os) (started : os.Started) (H : Type) (enc : TypeId × Value → H) (F : Stop.Interp) :
    ReturnsInHanded {} Tryd.checked os 7 .any ((OpenSpec.ofChange Rows.componentOrderSpec).preRow enc Tryd.prog Tryd.f7 Rows.componentOrderRow.domain false Rows.componentOrderRow.laid) (((OpenSpec.ofChange Rows.componentOrderSpec).at F).post enc Tryd.prog Tryd.f7 false true false false) := by
  obtain ⟨places, hx⟩ := reads os enc
  refine returnsInHanded_of_row (C := Tryd.checked) (s := OpenSpec.ofChange Rows.componentOrderSpec) own started (by kernel_rfl) Tryd.func7
    (witness_row_at (enc := enc) (C := Tryd.checked) false (laidWorld os) #[.agg #[.int .i64 0, .slice none 0 0, .slice none 0 0], .agg #[.int .i64 0, .int .i64 0, .int .i64 0, .int .i64 0, .int .i64 0, .int .i64 0], .int .i64 0] rfl (by kernel_rfl) (by kernel_rfl) (by kernel_rfl)
      (OpenSpec.preRow_of_cond 8 hx (by kernel_rfl) (fun k hk => by cases hk) (by kernel_rfl) (laid_met os))) ?_
  intro W base args ds gs before hval hW _ _ _ hL _ _
  exact contract H enc W base args ds gs before hval hW hL

set_option maxRecDepth 100000 in
theorem said : Rows.ComponentOrderSaid :=
  OpenClaim.holds_of_cond 7 Tryd.f7 rfl rfl rfl rfl rfl rfl rfl ⟨rfl, rfl, rfl, rfl, rfl⟩ rfl rfl rfl rfl rfl (by kernel_rfl) Tryd.func7 (by kernel_rfl)
    (of_decide_eq_true (by kernel_rfl)) (by unfold Func.isWrapper; first | (rw [if_pos (by decide +kernel)]; kernel_rfl) | (rw [if_neg (by decide +kernel)]; exact ⟨rfl, rfl⟩))
    (fun os started H enc _ F => by rw [OpenClaim.pre_eq_preRow]; exact lifted os started H enc F)

set_option maxRecDepth 100000 in
theorem plain (f : FuncId) (fn : Func) (hf : Tryd.pinned.checked.prog.funcNamed "waypoint/waypointlaw10.ComponentOrder" = some f) (hfn : Tryd.pinned.checked.prog.funcs[f]? = some fn) :
    true = Tryd.pinned.checked.prog.looks [] ∧ ∀ (j : Nat) t, fn.params[j]? = some t → Tryd.pinned.checked.prog.wantsStandIn t = false := by
  obtain rfl : f = 7 := Option.some.inj ((show Tryd.prog.funcNamed "waypoint/waypointlaw10.ComponentOrder" = some 7 by kernel_rfl).symm.trans hf) |>.symm
  obtain rfl : fn = Tryd.f7 := (Option.some.inj (Tryd.func7.symm.trans hfn)).symm
  refine ⟨by kernel_rfl, fun j t ht => ?_⟩
  rw [Tryd.params7] at ht
  have hm : t ∈ [25, 44, 3] := by simpa using Array.mem_of_getElem? ht
  have hall : ([25, 44, 3].all fun u => !Tryd.prog.wantsStandIn u) = true := by kernel_rfl
  exact (show Tryd.prog.wantsStandIn t = false by simpa using List.all_eq_true.1 hall t hm)

/-- The card: the statement. -/
theorem card : Rows.ComponentOrderCardSaid :=
  Claim7.holds_tied_plain_at .later [] _ _ _ _ said (fun _ h => by cases h) (by kernel_rfl) (fun _ h => by cases h) componentOrder_row_tie rfl ⟨rfl, rfl⟩ (by kernel_rfl) rfl plain (by kernel_rfl)
#print axioms card
end Go.Proofs.YtibennndjfhieaaDoor.componentOrder
