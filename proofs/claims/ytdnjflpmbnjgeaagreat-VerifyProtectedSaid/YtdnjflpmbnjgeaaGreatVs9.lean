/-
  VerifyProtected: the walk of the law (printed by gen_vs9.py).
-/
import Derived.Test.YtdnjflpmbnjgeaaGreatPkMkG
import Derived.Test.YtdnjflpmbnjgeaaGreatPkVl0
set_option linter.unusedSimpArgs false
set_option linter.unusedVariables false
namespace Go.Proofs.YtdnjflpmbnjgeaaGreat
section
open Go.RowKit Go.Sort
section
variable {w : World}
set_option maxRecDepth 100000 in
set_option maxHeartbeats 16000000 in
theorem law_VerifyProtected (F : FaN) (ps : List PkN) (tr : List Ev) (m : Int) (A1 A2 O B C : Option Addr) (c1 c2 co cp ct : Nat) (hT : TAt w A1 A2 F.t) (hO : Rd w O (F.out.flatMap outL)) (hP : Rd w B (ps.flatMap pkL)) (hE : RdE w C tr) (hid : ∀ p ∈ ps, inJ p.id) :
    Calls Tryz.prog 3 #[.agg #[.int .i64 F.t.n, .slice A1 F.t.ov.length c1, .slice A2 F.t.ls.length c2, .int .i64 F.det, .int .i64 F.ga, .int .i64 F.ho, .slice O F.out.length co, .slice B ps.length cp, .slice C tr.length ct], .int .i64 m] w fun e w' => e = .returned (.bool true) ∧ Below w.heap.size w w' := by
 have HB0 := cQ w (.cells #[.int .i64 F.t.n, .slice A1 F.t.ov.length c1, .slice A2 F.t.ls.length c2, .int .i64 F.det, .int .i64 F.ga, .int .i64 F.ho, .slice O F.out.length co, .slice B ps.length cp, .slice C tr.length ct] 32)
 have hX0 := Bl.new w #[.int .i64 F.t.n, .slice A1 F.t.ov.length c1, .slice A2 F.t.ls.length c2, .int .i64 F.det, .int .i64 F.ga, .int .i64 F.ho, .slice O F.out.length co, .slice B ps.length cp, .slice C tr.length ct] 32
 obtain ⟨W0, hW0⟩ : ∃ W0, W0 = w.alloc (.cells #[.int .i64 F.t.n, .slice A1 F.t.ov.length c1, .slice A2 F.t.ls.length c2, .int .i64 F.det, .int .i64 F.ga, .int .i64 F.ho, .slice O F.out.length co, .slice B ps.length cp, .slice C tr.length ct] 32) := ⟨_, rfl⟩
 rw [← hW0] at HB0 hX0
 have HBW := hU HB0
 have HX := hU hX0
 have HT := hU (hT.below HB0)
 have HO := hU (hO.below HB0)
 have HP := hU (hP.below HB0)
 have HTR := hU (hE.below HB0)
 have HID := hU hid
 obtain ⟨f0, f1, f2, f3, f4, f5, f6, f7, f8, _⟩ := bl9 HX.out
 clear hT hO hP hE hid hX0 HB0
 go_enter Tryz.func3, Tryz.ntmps3
 go_upto_region 1 with fail
 rw [← hW0]
 clear hW0
 cases hlg : lgB F ps tr with
 | true =>
  have HLG := hU hlg
  clear hlg
  go_wp2_with (first | (go_at_call 4; (with_reducible refine law56_awake.mono ?_); rintro e w1 ⟨rfl, hb1⟩; replace HX := hU (HX.out.up hb1); replace HP := hU (HP.out.below hb1); replace HT := hU (HT.out.below hb1); replace HO := hU (HO.out.below hb1); replace HTR := hU (HTR.out.below hb1); replace HBW := hU (bQ HBW.out hb1); clear hb1 f0 f1 f2 f3 f4 f5 f6 f7 f8; obtain ⟨f0, f1, f2, f3, f4, f5, f6, f7, f8, _⟩ := bl9 HX.out) | (go_at_call 5; (with_reducible refine (law56_large F ps tr A1 A2 O B C c1 c2 co cp ct HP.out).mono ?_); rw [HLG.out]; rintro e w2 ⟨rfl, hb1⟩; replace HX := hU (HX.out.up hb1); replace HP := hU (HP.out.below hb1); replace HT := hU (HT.out.below hb1); replace HO := hU (HO.out.below hb1); replace HTR := hU (HTR.out.below hb1); replace HBW := hU (bQ HBW.out hb1); clear hb1 f0 f1 f2 f3 f4 f5 f6 f7 f8; obtain ⟨f0, f1, f2, f3, f4, f5, f6, f7, f8, _⟩ := bl9 HX.out))
  go_ret
  exact ⟨rfl, HBW.out⟩
 | false =>
  have HLG := hU hlg
  have hsz : (F.t.ls.length ≤ 100000 ∧ F.out.length ≤ 100000 ∧ ps.length ≤ 100000 ∧ tr.length ≤ 100000) ∧ ∀ p ∈ ps, p.sn ≤ 1000000 := by
   unfold lgB at hlg
   simp only [Bool.or_eq_false_iff, decide_eq_false_iff_not] at hlg
   obtain ⟨⟨h0, h1, h2, h3, h4⟩, h5⟩ := hlg
   refine ⟨by omega, fun p hp => ?_⟩
   have := List.any_eq_false.1 h5 p hp
   simp at this
   omega
  have HSZ := hU hsz
  have HIP : Hid (∀ p ∈ ps, inJ p.id ∧ p.sn ≤ 1000000) := hU (fun p hp => ⟨HID.out p hp, HSZ.out.2 p hp⟩)
  clear hlg hsz
  go_upto_region 3 with (first | (go_at_call 4; (with_reducible refine law56_awake.mono ?_); rintro e w1 ⟨rfl, hb1⟩; replace HX := hU (HX.out.up hb1); replace HP := hU (HP.out.below hb1); replace HT := hU (HT.out.below hb1); replace HO := hU (HO.out.below hb1); replace HTR := hU (HTR.out.below hb1); replace HBW := hU (bQ HBW.out hb1); clear hb1 f0 f1 f2 f3 f4 f5 f6 f7 f8; obtain ⟨f0, f1, f2, f3, f4, f5, f6, f7, f8, _⟩ := bl9 HX.out) | (go_at_call 5; (with_reducible refine (law56_large F ps tr A1 A2 O B C c1 c2 co cp ct HP.out).mono ?_); rw [HLG.out]; rintro e w2 ⟨rfl, hb1⟩; replace HX := hU (HX.out.up hb1); replace HP := hU (HP.out.below hb1); replace HT := hU (HT.out.below hb1); replace HO := hU (HO.out.below hb1); replace HTR := hU (HTR.out.below hb1); replace HBW := hU (bQ HBW.out hb1); clear hb1 f0 f1 f2 f3 f4 f5 f6 f7 f8; obtain ⟨f0, f1, f2, f3, f4, f5, f6, f7, f8, _⟩ := bl9 HX.out))
  go_upto_region 4 with (go_at_call 6; (with_reducible refine (vy_Protected F ps tr m A1 A2 O B C c1 c2 co cp ct HT.out HO.out HP.out HTR.out HSZ.out.1.1 HSZ.out.1.2.1 HSZ.out.1.2.2.1 HSZ.out.1.2.2.2 HIP.out).mono ?_); rintro e w3 ⟨b1, x1, rfl, hq, hb1⟩; have HQ1 := hU hq; clear hq; replace HX := hU (HX.out.up hb1); replace HP := hU (HP.out.below hb1); replace HT := hU (HT.out.below hb1); replace HO := hU (HO.out.below hb1); replace HTR := hU (HTR.out.below hb1); replace HBW := hU (bQ HBW.out hb1); clear hb1 f0 f1 f2 f3 f4 f5 f6 f7 f8; obtain ⟨f0, f1, f2, f3, f4, f5, f6, f7, f8, _⟩ := bl9 HX.out)
  go_upto_region 5 with (go_at_call 7; (with_reducible refine (ref56_Protected F ps tr m A1 A2 O B C c1 c2 co cp ct HT.out HO.out HP.out HTR.out HSZ.out.1.1 HSZ.out.1.2.1 HSZ.out.1.2.2.1 HSZ.out.1.2.2.2 HIP.out).mono ?_); rintro e w3 ⟨b2, x2, rfl, hq, hb1⟩; have HQ2 := hU hq; clear hq; replace HX := hU (HX.out.up hb1); replace HP := hU (HP.out.below hb1); replace HT := hU (HT.out.below hb1); replace HO := hU (HO.out.below hb1); replace HTR := hU (HTR.out.below hb1); replace HBW := hU (bQ HBW.out hb1); clear hb1 f0 f1 f2 f3 f4 f5 f6 f7 f8; obtain ⟨f0, f1, f2, f3, f4, f5, f6, f7, f8, _⟩ := bl9 HX.out)
  obtain ⟨rfl, rfl⟩ := HQ1.out.same HQ2.out
  have e1 : (b1 == b1) = true := by simp
  have e2 : (x1 == x1) = true := by simp
  clear f0 f1 f2 f3 f4 f5 f6 f7 f8
  go_wp2_with fail
  go_ret
  exact ⟨rfl, HBW.out⟩
end
end
end Go.Proofs.YtdnjflpmbnjgeaaGreat
