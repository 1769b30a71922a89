/-
  waypointref56.Valid (printed by gen_vs4.py).
  Distances by repeated comparison, in plain Lean: what holds between two steps, and at the end.
-/
import Derived.Test.YtdnjflpmbnjgeaaGreatVs3
import Derived.Test.YtdnjflpmbnjgeaaGreatPkEventO
import Derived.Test.YtdnjflpmbnjgeaaGreatPkHeapN
set_option linter.unusedSimpArgs false
set_option linter.unusedVariables false
namespace Go.Proofs.YtdnjflpmbnjgeaaGreat
section
open Go.RowKit Go.Sort
theorem vyOk_prop (F : FaN) (ps : List PkN) (tr : List Ev) : vyOk F ps tr = (propB F ps && (trOk tr && tr.all (xQ F.t))) := by
 unfold vyOk propB
 simp [Bool.and_assoc]
theorem evOk_nn {e : Ev} (h : evOk e = true) (h5 : e.k ≠ 5) (h6 : e.k ≠ 6) : 0 ≤ e.n ∧ 0 ≤ e.a := by
 unfold evOk evK at h
 rw [Bool.and_eq_true] at h
 replace h := h.2
 repeat' split at h
 all_goals (simp only [inR, Bool.and_eq_true, Bool.or_eq_true, decide_eq_true_eq, beq_iff_eq, Bool.false_eq_true] at h)
 all_goals omega
theorem trOk_evK {l : List Ev} (h : trOk l = true) {k : Nat} {e : Ev} (he : l[k]? = some e) : evOk e = true := by
 have h1 := trOk_at h (List.getElem?_eq_some_iff.1 he).1
 rw [goodE, getD_at he] at h1
 simp only [Bool.and_eq_true] at h1
 exact h1.1
/-- What an event must name, but for the lower bounds. -/
def namedH (t : Topo) (e : Ev) : Bool :=
 if e.k = 5 ∨ e.k = 6 then gZ t e.a e.r
 else if e.k = 2 ∨ e.k = 7 then decide (e.n < t.n) && decide (e.a < 2 * (t.ls.length : Int))
 else if e.k = 4 then decide (e.n < t.n) && (!onArcB e.r || decide (e.a < 2 * (t.ls.length : Int)))
 else if e.k = 9 then decide (e.n < t.n) && decide (e.a < t.n)
 else decide (e.n < t.n)
theorem isN_lt {n x : Int} (h : 0 ≤ x) : isN n x = decide (x < n) := by
 rw [Bool.eq_iff_iff, isN_true, decide_eq_true_eq]
 omega
theorem named_half {t : Topo} {e : Ev} (h : evOk e = true) : xQ t e = namedH t e := by
 unfold xQ namedH
 by_cases h5 : e.k = 5 ∨ e.k = 6
 ·rw [if_pos h5, if_pos h5]
 ·obtain ⟨h0, h1⟩ := evOk_nn h (fun x => h5 (.inl x)) (fun x => h5 (.inr x))
  rw [isN_lt h0, isN_lt h1, isN_lt h1]
section
variable {w : World}
set_option maxRecDepth 100000 in
set_option maxHeartbeats 16000000 in
theorem ref56_Valid (F : FaN) (ps : List PkN) (tr : List Ev) (A1 A2 O B C : Option Addr) (c1 c2 co cp ct : Nat) (hT : TAt w A1 A2 F.t) (hO : Rd w O (F.out.flatMap outL)) (hP : Rd w B (ps.flatMap pkL)) (hE : RdE w C tr)
    (hl : F.t.ls.length ≤ 100000) (hlo : F.out.length ≤ 100000) (hlp : ps.length ≤ 100000) (hlt : tr.length ≤ 100000) :
    Calls Tryz.prog 12 #[.agg #[.int .i64 F.t.n, .slice A1 F.t.ov.length c1, .slice A2 F.t.ls.length c2, .int .i64 F.det, .int .i64 F.ga, .int .i64 F.ho, .slice O F.out.length co], .slice B ps.length cp, .slice C tr.length ct] w fun e w' => e = .returned (.bool (vyOk F ps tr)) ∧ Below w.heap.size w w' := by
 obtain ⟨R, hR⟩ : ∃ R, R = vyOk F ps tr := ⟨_, rfl⟩
 rw [← hR]
 have HR := hU hR
 have HT := hU hT
 have HTR := hU hE
 have HX := hU (Bl.new w #[.int .i64 F.t.n, .slice A1 F.t.ov.length c1, .slice A2 F.t.ls.length c2, .int .i64 F.det, .int .i64 F.ga, .int .i64 F.ho, .slice O F.out.length co] 28)
 have HB := hU (cQ w (.cells #[.int .i64 F.t.n, .slice A1 F.t.ov.length c1, .slice A2 F.t.ls.length c2, .int .i64 F.det, .int .i64 F.ga, .int .i64 F.ho, .slice O F.out.length co] 28))
 obtain ⟨f0, f1, f2, f3, f4, f5, f6, _⟩ := HX.out.c7
 have HPR := hU (fun (W : World) (hW : Below w.heap.size w W) => ref56_proper (w := W) F ps A1 A2 O B c1 c2 co cp (hT.below hW) (hO.below hW) (hP.below hW) hl hlo hlp)
 have HVA := hU (fun (W : World) (hW : Below w.heap.size w W) => ref55_Valid C ct tr W (hE.below hW) (by omega))
 clear hR hT hO hP hE hlo hlp
 rw [vyOk_prop] at HR
 cases q0 : propB F ps with
 | false =>
  have HRV : Hid (R = false) := hU (by rw [HR.out, q0]; rfl)
  rw [q0] at HPR
  clear HR q0 HVA
  go_enter Tryz.func12, Tryz.ntmps12
  go_wp2_with (go_at_call 40; (with_reducible refine (HPR.out _ HB.out).mono ?_); rintro e w2 ⟨rfl, hb⟩; replace HX := hU (HX.out.up hb); replace HB := hU (bQ HB.out hb); clear hb f0 f1 f2 f3 f4 f5 f6; obtain ⟨f0, f1, f2, f3, f4, f5, f6, _⟩ := HX.out.c7)
  go_ret
  exact ⟨by rw [HRV.out]; rfl, HB.out⟩
 | true =>
  rw [q0] at HPR
  cases q1 : trOk tr with
  | false =>
   have HRV : Hid (R = false) := hU (by rw [HR.out, q0, q1]; rfl)
   rw [q1] at HVA
   clear HR q0 q1
   go_enter Tryz.func12, Tryz.ntmps12
   go_wp2_with (first | (go_at_call 40; (with_reducible refine (HPR.out _ HB.out).mono ?_); rintro e w2 ⟨rfl, hb⟩; replace HX := hU (HX.out.up hb); replace HB := hU (bQ HB.out hb); clear hb f0 f1 f2 f3 f4 f5 f6; obtain ⟨f0, f1, f2, f3, f4, f5, f6, _⟩ := HX.out.c7) | (go_at_call 41; (with_reducible refine (HVA.out _ HB.out).mono ?_); rintro e w2 ⟨rfl, hb⟩; replace HX := hU (HX.out.up hb); replace HB := hU (bQ HB.out hb); clear hb f0 f1 f2 f3 f4 f5 f6; obtain ⟨f0, f1, f2, f3, f4, f5, f6, _⟩ := HX.out.c7))
   go_ret
   exact ⟨by rw [HRV.out]; rfl, HB.out⟩
  | true =>
   have HV : Hid (valid F.t = true) := hU (by unfold propB at q0; simp only [Bool.and_eq_true] at q0; exact q0.1.1)
   replace HR : Hid (R = tr.all (xQ F.t)) := hU (by rw [HR.out, q0, q1]; rfl)
   have HOK := hU q1
   rw [q1] at HVA
   clear q0 q1
   have hw2 := IntWalk.wrap64_in (2 * (F.t.ls.length : Int)) (by omega)
   go_enter Tryz.func12, Tryz.ntmps12
   go_upto_region 4 with (first | (go_at_call 40; (with_reducible refine (HPR.out _ HB.out).mono ?_); rintro e w2 ⟨rfl, hb⟩; replace HX := hU (HX.out.up hb); replace HB := hU (bQ HB.out hb); clear hb f0 f1 f2 f3 f4 f5 f6; obtain ⟨f0, f1, f2, f3, f4, f5, f6, _⟩ := HX.out.c7) | (go_at_call 41; (with_reducible refine (HVA.out _ HB.out).mono ?_); rintro e w2 ⟨rfl, hb⟩; replace HX := hU (HX.out.up hb); replace HB := hU (bQ HB.out hb); clear hb f0 f1 f2 f3 f4 f5 f6; obtain ⟨f0, f1, f2, f3, f4, f5, f6, _⟩ := HX.out.c7))
   have htb := Bl.new w2 #[.int .i64 F.t.n, .slice A1 F.t.ov.length c1, .slice A2 F.t.ls.length c2] 25
   have htl : w.heap.size < w2.heap.size := by have := HX.out.lt; exact this
   refine kQ (fun Y => Bl 25 w2.heap.size #[.int .i64 F.t.n, .slice A1 F.t.ov.length c1, .slice A2 F.t.ls.length c2] Y ∧ Below w.heap.size w Y) ⟨Bl.new _ _ _, bQ HB.out (cQ _ _)⟩ ?_
   clear HX HB f0 f1 f2 f3 f4 f5 f6 HPR HVA htb htl
   generalize w2.heap.size = tb
   rintro Y ⟨h1, h2⟩
   have HX := hU h1
   have HB := hU h2
   clear h1 h2
   go_wp2_with fail
   go_loopw [8] (fun i wr => ∃ q : Nat, q ≤ tr.length ∧ i = .int .i64 q ∧ Hid (Bl 25 tb #[.int .i64 F.t.n, .slice A1 F.t.ov.length c1, .slice A2 F.t.ls.length c2] wr) ∧ Hid (Below w.heap.size w wr) ∧ Hid ((tr.take q).all (xQ F.t) = true)) (fun i _ => tr.length - (intOf i).toNat)
   case atStart => exact ⟨0, Nat.zero_le _, rfl, HX, HB, hU rfl⟩
   case round =>
    clear HX HB
    obtain ⟨q, hq, rfl, HX, HB, HK⟩ := hrel
    obtain ⟨b0, b1, b2, _⟩ := HX.out.c3
    by_cases hql : q < tr.length
    ·have hql' : (q : Int) < (tr.length : Int) := by omega
     obtain ⟨bz, oz, ev, hAz, hev, hcz⟩ := (HTR.out.below HB.out).at_ hql
     have HTK : Hid (tr.take (q + 1) = tr.take q ++ [ev]) := hU (by rw [List.take_add_one, hev]; rfl)
     have HM : Hid (ev ∈ tr) := hU (List.mem_of_getElem? hev)
     have HNH := hU (named_half (t := F.t) (trOk_evK HOK.out hev))
     obtain ⟨x, k, n, a, p, r⟩ := ev
     obtain ⟨z0, z1, z2, z3, z4, z5⟩ := hcz
     simp only at z0 z1 z2 z3 z4 z5
     clear hev
     subst hAz
     have HBAD : Hid (namedH F.t ⟨x, k, n, a, p, r⟩ = false → R = false) := hU (fun h => by
      rw [HR.out, List.all_eq_false]
      exact ⟨_, HM.out, by rw [HNH.out, h]; exact Bool.false_ne_true⟩)
     have HGOOD : Hid (namedH F.t ⟨x, k, n, a, p, r⟩ = true → (tr.take (q + 1)).all (xQ F.t) = true) := hU (fun h => by rw [HTK.out, List.all_append, HK.out]; simp [HNH.out, h])
     go_upto_region 8 with fail
     refine kQ (fun Y => Bl 25 tb #[.int .i64 F.t.n, .slice A1 F.t.ov.length c1, .slice A2 F.t.ls.length c2] Y ∧ Below w.heap.size w Y ∧ Bl 43 wr.heap.size #[.int .i64 x, .int .i64 k, .int .i64 n, .int .i64 a, .int .i64 p, .int .i64 r] Y) ⟨HX.out.up (cQ _ _), bQ HB.out (cQ _ _), Bl.new _ _ _⟩ ?_
     generalize wr.heap.size = eb
     clear HX HB b0 b1 b2 z0 z1 z2 z3 z4 z5
     rintro Y ⟨h1, h2, h3⟩
     have HX := hU h1
     have HB := hU h2
     have HEB := hU h3
     clear h1 h2 h3
     obtain ⟨b0, b1, b2, _⟩ := HX.out.c3
     obtain ⟨z0, z1, z2, z3, z4, z5, _⟩ := HEB.out.c6
     by_cases g5 : k = 5
     ·subst g5
      have HCM : Hid (∀ W d os, Calls Tryz.prog 44 #[.agg #[.int .i64 x, .int .i64 5, .int .i64 n, .int .i64 a, .int .i64 p, .int .i64 r]] (grow (redrawn W d) os) fun e w'' => e = .returned (.agg #[.int .i64 a, .int .i64 r]) ∧ ∃ p : Regrown, w'' = grow (redrawn W p.d) p.os) := hU fun W d os => Calls.regrown_of (ref56_component x 5 n a p r)
      have HCV : Hid (∀ d os, Calls Tryz.prog 43 #[.agg #[.int .i64 F.t.n, .slice A1 F.t.ov.length c1, .slice A2 F.t.ls.length c2], .agg #[.int .i64 a, .int .i64 r]] (grow (redrawn Y d) os) fun e w'' => e = .returned (.bool (gZ F.t a r)) ∧ ∃ p : Regrown, w'' = grow (redrawn Y p.d) p.os) := hU fun d os => Calls.regrown_of (ref10_Valid F.t A1 A2 c1 c2 a r _ ((HT.out.below HB.out).below (below_regrown _ d os)))
      cases gc : gZ F.t a r with
      | false =>
       rw [gc] at HCV
       have HRV := hU (HBAD.out (by simp [namedH, gc]))
       clear HBAD HGOOD gc
       go_wp2_with fail
       obtain ⟨P1, P2, P3, P4, P5, P6, P7, P8, P9, -⟩ := kU b0 (kU b1 (kU b2 (kU z0 (kU z1 (kU z2 (kU z3 (kU z4 (kU z5 trivial))))))))
       refine wp_region_quiet_below (by kernel_rfl) (by kernel_rfl) ?_
       repeat (go_big_quiet_step ((first | (with_reducible exact HCM.out _ _ _) | (with_reducible exact HCV.out _ _))))
       refine wpQuiet_nil ?_
       intro W9 hb
       replace hb := eQ hb
       clear P1 P2 P3 P4 P5 P6 P7 P8 P9
       have zU := uU hb b0 (uU hb b1 (uU hb b2 (uU hb z0 (uU hb z1 (uU hb z2 (uU hb z3 (uU hb z4 (uU hb z5 trivial)))))))); clear b0 b1 b2 z0 z1 z2 z3 z4 z5; obtain ⟨b0, b1, b2, z0, z1, z2, z3, z4, z5, -⟩ := zU
       replace HX := hU (HX.out.up hb)
       replace HB := hU (bQ HB.out hb)
       clear hb
       go_wp2_with fail
       go_ret
       exact ⟨by rw [HRV.out]; rfl, HB.out⟩
      | true =>
       rw [gc] at HCV
       have HG9 := hU (HGOOD.out (by simp [namedH, gc]))
       clear HBAD HGOOD gc
       go_wp2_with fail
       obtain ⟨P1, P2, P3, P4, P5, P6, P7, P8, P9, -⟩ := kU b0 (kU b1 (kU b2 (kU z0 (kU z1 (kU z2 (kU z3 (kU z4 (kU z5 trivial))))))))
       refine wp_region_quiet_below (by kernel_rfl) (by kernel_rfl) ?_
       repeat (go_big_quiet_step ((first | (with_reducible exact HCM.out _ _ _) | (with_reducible exact HCV.out _ _))))
       refine wpQuiet_nil ?_
       intro W9 hb
       replace hb := eQ hb
       clear P1 P2 P3 P4 P5 P6 P7 P8 P9
       have zU := uU hb b0 (uU hb b1 (uU hb b2 (uU hb z0 (uU hb z1 (uU hb z2 (uU hb z3 (uU hb z4 (uU hb z5 trivial)))))))); clear b0 b1 b2 z0 z1 z2 z3 z4 z5; obtain ⟨b0, b1, b2, z0, z1, z2, z3, z4, z5, -⟩ := zU
       replace HX := hU (HX.out.up hb)
       replace HB := hU (bQ HB.out hb)
       clear hb
       go_wp2_with fail
       go_roundw
       case rel => exact ⟨q + 1, by omega, by go_num, HX, HB, HG9⟩
       case measure => simp [intOf]; omega
     have g5b : (k == 5) = false := beq_eq_false_iff_ne.2 g5
     by_cases g6 : k = 6
     ·subst g6
      have HCM : Hid (∀ W d os, Calls Tryz.prog 44 #[.agg #[.int .i64 x, .int .i64 6, .int .i64 n, .int .i64 a, .int .i64 p, .int .i64 r]] (grow (redrawn W d) os) fun e w'' => e = .returned (.agg #[.int .i64 a, .int .i64 r]) ∧ ∃ p : Regrown, w'' = grow (redrawn W p.d) p.os) := hU fun W d os => Calls.regrown_of (ref56_component x 6 n a p r)
      have HCV : Hid (∀ d os, Calls Tryz.prog 43 #[.agg #[.int .i64 F.t.n, .slice A1 F.t.ov.length c1, .slice A2 F.t.ls.length c2], .agg #[.int .i64 a, .int .i64 r]] (grow (redrawn Y d) os) fun e w'' => e = .returned (.bool (gZ F.t a r)) ∧ ∃ p : Regrown, w'' = grow (redrawn Y p.d) p.os) := hU fun d os => Calls.regrown_of (ref10_Valid F.t A1 A2 c1 c2 a r _ ((HT.out.below HB.out).below (below_regrown _ d os)))
      cases gc : gZ F.t a r with
      | false =>
       rw [gc] at HCV
       have HRV := hU (HBAD.out (by simp [namedH, gc]))
       clear HBAD HGOOD gc
       go_wp2_with fail
       obtain ⟨P1, P2, P3, P4, P5, P6, P7, P8, P9, -⟩ := kU b0 (kU b1 (kU b2 (kU z0 (kU z1 (kU z2 (kU z3 (kU z4 (kU z5 trivial))))))))
       refine wp_region_quiet_below (by kernel_rfl) (by kernel_rfl) ?_
       repeat (go_big_quiet_step ((first | (with_reducible exact HCM.out _ _ _) | (with_reducible exact HCV.out _ _))))
       refine wpQuiet_nil ?_
       intro W9 hb
       replace hb := eQ hb
       clear P1 P2 P3 P4 P5 P6 P7 P8 P9
       have zU := uU hb b0 (uU hb b1 (uU hb b2 (uU hb z0 (uU hb z1 (uU hb z2 (uU hb z3 (uU hb z4 (uU hb z5 trivial)))))))); clear b0 b1 b2 z0 z1 z2 z3 z4 z5; obtain ⟨b0, b1, b2, z0, z1, z2, z3, z4, z5, -⟩ := zU
       replace HX := hU (HX.out.up hb)
       replace HB := hU (bQ HB.out hb)
       clear hb
       go_wp2_with fail
       go_ret
       exact ⟨by rw [HRV.out]; rfl, HB.out⟩
      | true =>
       rw [gc] at HCV
       have HG9 := hU (HGOOD.out (by simp [namedH, gc]))
       clear HBAD HGOOD gc
       go_wp2_with fail
       obtain ⟨P1, P2, P3, P4, P5, P6, P7, P8, P9, -⟩ := kU b0 (kU b1 (kU b2 (kU z0 (kU z1 (kU z2 (kU z3 (kU z4 (kU z5 trivial))))))))
       refine wp_region_quiet_below (by kernel_rfl) (by kernel_rfl) ?_
       repeat (go_big_quiet_step ((first | (with_reducible exact HCM.out _ _ _) | (with_reducible exact HCV.out _ _))))
       refine wpQuiet_nil ?_
       intro W9 hb
       replace hb := eQ hb
       clear P1 P2 P3 P4 P5 P6 P7 P8 P9
       have zU := uU hb b0 (uU hb b1 (uU hb b2 (uU hb z0 (uU hb z1 (uU hb z2 (uU hb z3 (uU hb z4 (uU hb z5 trivial)))))))); clear b0 b1 b2 z0 z1 z2 z3 z4 z5; obtain ⟨b0, b1, b2, z0, z1, z2, z3, z4, z5, -⟩ := zU
       replace HX := hU (HX.out.up hb)
       replace HB := hU (bQ HB.out hb)
       clear hb
       go_wp2_with fail
       go_roundw
       case rel => exact ⟨q + 1, by omega, by go_num, HX, HB, HG9⟩
       case measure => simp [intOf]; omega
     have g6b : (k == 6) = false := beq_eq_false_iff_ne.2 g6
     by_cases g2 : k = 2
     ·subst g2
      by_cases gn : n < F.t.n
      ·skip
       by_cases ga : a < 2 * (F.t.ls.length : Int)
       ·skip
        have HG9 := hU (HGOOD.out (by simp [namedH, gn, ga]))
        clear HBAD HGOOD
        go_wp2_with fail
        go_roundw
        case rel => exact ⟨q + 1, by omega, by go_num, HX, HB, HG9⟩
        case measure => simp [intOf]; omega
       ·have gab : decide (a < 2 * (F.t.ls.length : Int)) = false := by simp; omega
        have HRV := hU (HBAD.out (by simp [namedH, gn, ga]))
        clear HBAD HGOOD ga
        go_wp2_with fail
        go_ret
        exact ⟨by rw [HRV.out]; rfl, HB.out⟩
      ·have gnb : decide (n < F.t.n) = false := by simp; omega
       have HRV := hU (HBAD.out (by simp [namedH, gn]))
       clear HBAD HGOOD gn
       go_wp2_with fail
       go_ret
       exact ⟨by rw [HRV.out]; rfl, HB.out⟩
     have g2b : (k == 2) = false := beq_eq_false_iff_ne.2 g2
     by_cases g7 : k = 7
     ·subst g7
      by_cases gn : n < F.t.n
      ·skip
       by_cases ga : a < 2 * (F.t.ls.length : Int)
       ·skip
        have HG9 := hU (HGOOD.out (by simp [namedH, gn, ga]))
        clear HBAD HGOOD
        go_wp2_with fail
        go_roundw
        case rel => exact ⟨q + 1, by omega, by go_num, HX, HB, HG9⟩
        case measure => simp [intOf]; omega
       ·have gab : decide (a < 2 * (F.t.ls.length : Int)) = false := by simp; omega
        have HRV := hU (HBAD.out (by simp [namedH, gn, ga]))
        clear HBAD HGOOD ga
        go_wp2_with fail
        go_ret
        exact ⟨by rw [HRV.out]; rfl, HB.out⟩
      ·have gnb : decide (n < F.t.n) = false := by simp; omega
       have HRV := hU (HBAD.out (by simp [namedH, gn]))
       clear HBAD HGOOD gn
       go_wp2_with fail
       go_ret
       exact ⟨by rw [HRV.out]; rfl, HB.out⟩
     have g7b : (k == 7) = false := beq_eq_false_iff_ne.2 g7
     by_cases g4 : k = 4
     ·subst g4
      by_cases gn : n < F.t.n
      ·cases ho : onArcB r with
       | false =>
        have HOA := hU ho
        have HG9 := hU (HGOOD.out (by simp [namedH, gn, ho]))
        clear HBAD HGOOD ho
        go_wp2_with (go_at_call 42; (with_reducible refine (mQ r _).mono ?_); rw [HOA.out]; rintro e wz ⟨rfl, rfl⟩)
        go_roundw
        case rel => exact ⟨q + 1, by omega, by go_num, HX, HB, HG9⟩
        case measure => simp [intOf]; omega
       | true =>
        have HOA := hU ho
        by_cases ga : a < 2 * (F.t.ls.length : Int)
        ·skip
         have HG9 := hU (HGOOD.out (by simp [namedH, gn, ho, ga]))
         clear HBAD HGOOD ho
         go_wp2_with (go_at_call 42; (with_reducible refine (mQ r _).mono ?_); rw [HOA.out]; rintro e wz ⟨rfl, rfl⟩)
         go_roundw
         case rel => exact ⟨q + 1, by omega, by go_num, HX, HB, HG9⟩
         case measure => simp [intOf]; omega
        ·have gab : decide (a < 2 * (F.t.ls.length : Int)) = false := by simp; omega
         have HRV := hU (HBAD.out (by simp [namedH, gn, ho, ga]))
         clear HBAD HGOOD ho ga
         go_wp2_with (go_at_call 42; (with_reducible refine (mQ r _).mono ?_); rw [HOA.out]; rintro e wz ⟨rfl, rfl⟩)
         go_ret
         exact ⟨by rw [HRV.out]; rfl, HB.out⟩
      ·have gnb : decide (n < F.t.n) = false := by simp; omega
       have HRV := hU (HBAD.out (by simp [namedH, gn]))
       clear HBAD HGOOD gn
       go_wp2_with fail
       go_ret
       exact ⟨by rw [HRV.out]; rfl, HB.out⟩
     have g4b : (k == 4) = false := beq_eq_false_iff_ne.2 g4
     by_cases g9 : k = 9
     ·subst g9
      by_cases gn : n < F.t.n
      ·by_cases ga : a < F.t.n
       ·skip
        have HG9 := hU (HGOOD.out (by simp [namedH, gn, ga]))
        clear HBAD HGOOD
        go_wp2_with fail
        go_roundw
        case rel => exact ⟨q + 1, by omega, by go_num, HX, HB, HG9⟩
        case measure => simp [intOf]; omega
       ·have gab : decide (a < F.t.n) = false := by simp; omega
        have HRV := hU (HBAD.out (by simp [namedH, gn, ga]))
        clear HBAD HGOOD ga
        go_wp2_with fail
        go_ret
        exact ⟨by rw [HRV.out]; rfl, HB.out⟩
      ·have gnb : decide (n < F.t.n) = false := by simp; omega
       have HRV := hU (HBAD.out (by simp [namedH, gn]))
       clear HBAD HGOOD gn
       go_wp2_with fail
       go_ret
       exact ⟨by rw [HRV.out]; rfl, HB.out⟩
     have g9b : (k == 9) = false := beq_eq_false_iff_ne.2 g9
     by_cases gn : n < F.t.n
     ·skip
      have HG9 := hU (HGOOD.out (by simp [namedH, gn, g5, g6, g2, g7, g4, g9]))
      clear HBAD HGOOD g5 g6 g2 g7 g4 g9
      go_wp2_with fail
      go_roundw
      case rel => exact ⟨q + 1, by omega, by go_num, HX, HB, HG9⟩
      case measure => simp [intOf]; omega
     ·have gnb : decide (n < F.t.n) = false := by simp; omega
      have HRV := hU (HBAD.out (by simp [namedH, gn, g5, g6, g2, g7, g4, g9]))
      clear HBAD HGOOD gn g5 g6 g2 g7 g4 g9
      go_wp2_with fail
      go_ret
      exact ⟨by rw [HRV.out]; rfl, HB.out⟩
    ·obtain rfl : q = tr.length := by omega
     have HRV : Hid (R = true) := hU (by have := HK.out; rw [List.take_length] at this; rw [HR.out, this])
     go_wp2_with fail
     go_ret
     exact ⟨by rw [HRV.out]; rfl, HB.out⟩
end
end
section
/-- What a node counts for: its distance, or more than any distance. -/
def wt (x : Int) : Nat := if x < 0 then 65535 * 66 else x.toNat
def wsum (l : List Int) : Nat := (l.map wt).sum
theorem wsum_set : ∀ (l : List Int) (i : Nat) (x : Int), i < l.length → wsum (l.set i x) + wt (l.getD i (-1)) = wsum l + wt x
 | [], i, x, h => by simp at h
 | y :: l, 0, x, _ => by simp [wsum]; omega
 | y :: l, i + 1, x, h => by
  have ih := wsum_set l i x (by simpa using h)
  simp only [wsum, List.set_cons_succ, List.map_cons, List.sum_cons, List.getD_cons_succ] at ih ⊢
  omega
/-- What holds between two comparisons. -/
structure BI (G : SG) (dist : List Int) : Prop where
 len : dist.length = G.N
 lo : ∀ i, 0 ≤ i → i < (G.N : Int) → -1 ≤ dD dist i
 rt : dD dist G.r = 0
 td : ∀ i, 0 ≤ i → i < (G.N : Int) → 0 ≤ dD dist i → i = G.r ∨ ∃ m a, 0 ≤ m ∧ m < (G.N : Int) ∧ 0 ≤ dD dist m ∧ G.pass m ∧ a ∈ G.arcs m ∧ G.up a = true ∧ G.en a = i ∧ dD dist m + G.cost a ≤ dD dist i
 bd : ∀ i, 0 ≤ i → i < (G.N : Int) → dD dist i ≤ 65535 * (cnt dist : Int)
theorem BI.hi {G : SG} (hG : G.Ok) {dist : List Int} (h : BI G dist) {i : Int} (h0 : 0 ≤ i) (h1 : i < (G.N : Int)) : dD dist i ≤ 65535 * 64 := by
 have := h.bd i h0 h1
 have := cnt_le dist
 have := h.len
 have := hG.n64
 omega
theorem BI.start (G : SG) (hG : G.Ok) : BI G ((List.replicate G.N (-1)).set G.r.toNat 0) := by
 have h0 := hG.r0
 have h1 := hG.r1
 have hd : ∀ j, 0 ≤ j → dD ((List.replicate G.N (-1)).set G.r.toNat 0) j = if G.r = j then 0 else -1 := fun j hj => by
  rw [dD_set h0 hj (by simp; omega), dD_none]
 refine ⟨by simp, fun i h2 _ => by rw [hd i h2]; split <;> omega, by rw [hd _ h0, if_pos rfl], fun i h2 _ h3 => ?_, fun i h2 _ => by rw [hd i h2]; split <;> omega⟩
 rw [hd i h2] at h3
 by_cases e : G.r = i
 ·exact .inl e.symm
 ·rw [if_neg e] at h3; omega
/-- A comparison that changes nothing. -/
def shut (G : SG) (dist : List Int) (m a : Int) : Prop := 0 ≤ dD dist m → G.pass m → G.up a = true → 0 ≤ dD dist (G.en a) ∧ dD dist (G.en a) ≤ dD dist m + G.cost a
/-- A comparison that changes something. -/
theorem BI.put {G : SG} (hG : G.Ok) {dist : List Int} (h : BI G dist) {m a : Int} (m0 : 0 ≤ m) (m1 : m < (G.N : Int)) (ha : a ∈ G.arcs m) (hd : 0 ≤ dD dist m) (hp : G.pass m) (hu : G.up a = true)
    (hc : dD dist (G.en a) < 0 ∨ dD dist m + G.cost a < dD dist (G.en a)) : BI G (dist.set (G.en a).toNat (dD dist m + G.cost a)) ∧ wsum (dist.set (G.en a).toNat (dD dist m + G.cost a)) < wsum dist := by
 obtain ⟨e0, e1, c0, c1⟩ := hG.en m m0 m1 a ha
 have hel : G.en a < (dist.length : Int) := by rw [h.len]; exact e1
 have hk : ∀ j, 0 ≤ j → dD (dist.set (G.en a).toNat (dD dist m + G.cost a)) j = if G.en a = j then dD dist m + G.cost a else dD dist j := fun j hj => dD_set e0 hj hel
 have hhi := h.hi hG m0 m1
 have hne : G.en a ≠ m := fun e => by rw [e] at hc; omega
 have hnr : G.en a ≠ G.r := fun e => by rw [e, h.rt] at hc; omega
 have hmk : dD (dist.set (G.en a).toNat (dD dist m + G.cost a)) m = dD dist m := by rw [hk m m0, if_neg hne]
 have hcnt : cnt dist ≤ cnt (dist.set (G.en a).toNat (dD dist m + G.cost a)) ∧ (dD dist (G.en a) < 0 → cnt (dist.set (G.en a).toNat (dD dist m + G.cost a)) = cnt dist + 1) := by
  by_cases hn : dD dist (G.en a) < 0
  ·have := cnt_set dist (G.en a).toNat (dD dist m + G.cost a) (by omega) hn (by omega)
   exact ⟨by omega, fun _ => this⟩
  ·refine ⟨?_, fun h => absurd h hn⟩
   have e2 := cnt_set (dist.set (G.en a).toNat (-1)) (G.en a).toNat (dD dist m + G.cost a) (by simp; omega) (by rw [List.getD_eq_getElem?_getD, List.getElem?_set_self (by omega)]; decide) (by omega)
   have e3 := cnt_set (dist.set (G.en a).toNat (-1)) (G.en a).toNat (dD dist (G.en a)) (by simp; omega) (by rw [List.getD_eq_getElem?_getD, List.getElem?_set_self (by omega)]; decide) (by omega)
   rw [List.set_set] at e2 e3
   have e4 : dist.set (G.en a).toNat (dD dist (G.en a)) = dist := by
    refine List.ext_getElem? fun j => ?_
    rw [List.getElem?_set]
    split
    ·rename_i e
     subst e
     unfold dD
     rw [List.getD_eq_getElem?_getD, List.getElem?_eq_getElem (by omega), if_pos (by omega)]; rfl
    ·rfl
   rw [e4] at e3
   omega
 refine ⟨⟨by simp [h.len], fun i i0 i1 => ?_, by rw [hk _ hG.r0, if_neg hnr]; exact h.rt, fun i i0 i1 i2 => ?_, fun i i0 i1 => ?_⟩, ?_⟩
 ·rw [hk i i0]; split
  ·omega
  ·exact h.lo i i0 i1
 ·rw [hk i i0] at i2 ⊢
  by_cases e : G.en a = i
  ·rw [if_pos e] at i2 ⊢
   exact .inr ⟨m, a, m0, m1, by rw [hmk]; exact hd, hp, ha, hu, e, by rw [hmk]; exact Int.le_refl _⟩
  ·rw [if_neg e] at i2 ⊢
   rcases h.td i i0 i1 i2 with h2 | ⟨n, b, n0, n1, n2, n3, n4, n5, n6, n7⟩
   ·exact .inl h2
   ·refine .inr ⟨n, b, n0, n1, ?_, n3, n4, n5, n6, ?_⟩
    ·rw [hk n n0]; split
     ·omega
     ·exact n2
    ·rw [hk n n0]; split
     ·rename_i e2
      subst e2
      omega
     ·exact n7
 ·rw [hk i i0]; split
  ·rename_i e
   by_cases hn : dD dist (G.en a) < 0
   ·have := h.bd m m0 m1
    have := hcnt.2 hn
    omega
   ·have := h.bd (G.en a) e0 e1
    omega
  ·have := h.bd i i0 i1
   omega
 ·have h2 := wsum_set dist (G.en a).toNat (dD dist m + G.cost a) (by omega)
  have h3 : dist.getD (G.en a).toNat (-1) = dD dist (G.en a) := rfl
  rw [h3] at h2
  have h4 : wt (dD dist m + G.cost a) = (dD dist m + G.cost a).toNat := by unfold wt; rw [if_neg (by omega)]
  have h5 : wt (dD dist (G.en a)) = if dD dist (G.en a) < 0 then 65535 * 66 else (dD dist (G.en a)).toNat := rfl
  split at h5 <;> omega
/-- At the end nothing changes. -/
theorem BI.done {G : SG} (hG : G.Ok) {dist : List Int} (h : BI G dist) (hs : ∀ m, 0 ≤ m → m < (G.N : Int) → ∀ a ∈ G.arcs m, shut G dist m a) : SR G dist := by
 refine ⟨h.len, h.lo, fun i h0 h1 => h.hi hG h0 h1, h.rt, fun i h0 h1 h2 => ?_, fun m h0 h1 h2 h3 a ha hu => (hs m h0 h1 a ha h2 h3 hu).1⟩
 rcases h.td i h0 h1 h2 with rfl | ⟨m, a, m0, m1, m2, m3, m4, m5, rfl, m7⟩
 ·exact .inl ⟨rfl, h.rt⟩
 ·exact .inr ⟨m, a, m0, m1, m2, m3, m4, m5, rfl, by have := (hs m m0 m1 a m4 m2 m3 m5).2; omega⟩
end
end Go.Proofs.YtdnjflpmbnjgeaaGreat
