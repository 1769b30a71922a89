/-
  waypointref56.Safe (printed by gen_vs6.py).
-/
import Derived.Test.YtdnjflpmbnjgeaaGreatPkVr6
set_option linter.unusedSimpArgs false
set_option linter.unusedVariables false
namespace Go.Proofs.YtdnjflpmbnjgeaaGreat
section
open Go.RowKit Go.Sort
section
variable {w : World}
set_option maxRecDepth 100000 in
set_option maxHeartbeats 16000000 in
theorem ref56_Safe (F : FaN) (tr : List Ev) (P : PkN) (o : OutN) (A1 A2 O C : Option Addr) (c1 c2 co ct : Nat) (hv : valid F.t = true) (hT : TAt w A1 A2 F.t) (hO : Rd w O (F.out.flatMap outL)) (hE : RdE w C tr) (hlt : tr.length ≤ 100000)
    (hoo : F.out = [o]) (hok : outOk F.t o = true) (htm : timOk F = true) (hs : isN F.t.n P.src = true) (hd : isN F.t.n P.dst = true) (hsn : P.sn ≤ 1000000) :
    Calls Tryz.prog 15 #[.agg #[.int .i64 F.t.n, .slice A1 F.t.ov.length c1, .slice A2 F.t.ls.length c2, .int .i64 F.det, .int .i64 F.ga, .int .i64 F.ho, .slice O F.out.length co], .agg #[.int .i64 P.id, .int .i64 P.src, .int .i64 P.dst, .int .i64 P.fl, .slice P.st P.sn P.sc, .int .i64 P.hops], .slice C tr.length ct] w (RetBP w (safeQ F tr P o)) := by
 have hb1 := cQ w (.cells #[.int .i64 F.t.n, .slice A1 F.t.ov.length c1, .slice A2 F.t.ls.length c2, .int .i64 F.det, .int .i64 F.ga, .int .i64 F.ho, .slice O F.out.length co] 28)
 have hb2 := cQ (w.alloc (.cells #[.int .i64 F.t.n, .slice A1 F.t.ov.length c1, .slice A2 F.t.ls.length c2, .int .i64 F.det, .int .i64 F.ga, .int .i64 F.ho, .slice O F.out.length co] 28)) (.cells #[.int .i64 P.id, .int .i64 P.src, .int .i64 P.dst, .int .i64 P.fl, .slice P.st P.sn P.sc, .int .i64 P.hops] 49)
 have n1 := (Bl.new w #[.int .i64 F.t.n, .slice A1 F.t.ov.length c1, .slice A2 F.t.ls.length c2, .int .i64 F.det, .int .i64 F.ga, .int .i64 F.ho, .slice O F.out.length co] 28).up hb2
 have n2 := Bl.new (w.alloc (.cells #[.int .i64 F.t.n, .slice A1 F.t.ov.length c1, .slice A2 F.t.ls.length c2, .int .i64 F.det, .int .i64 F.ga, .int .i64 F.ho, .slice O F.out.length co] 28)) #[.int .i64 P.id, .int .i64 P.src, .int .i64 P.dst, .int .i64 P.fl, .slice P.st P.sn P.sc, .int .i64 P.hops] 49
 simp only [World.size_alloc] at n2
 have HX := hU n1
 have HP := hU n2
 have HB := hU (bQ hb1 hb2)
 have hck : gZ F.t o.k o.m = true := by unfold outOk at hok; simp only [Bool.and_eq_true] at hok; exact hok.1.1
 have hcv : compOk F.t o.k o.m = true := by rw [gZ, hv, Bool.true_and] at hck; exact hck
 have HBD : Hid (1 ≤ o.fr ∧ o.fr ≤ 1073741824 ∧ 0 ≤ F.det ∧ F.det ≤ 65536) := hU (by
  unfold outOk at hok
  unfold timOk at htm
  simp only [Bool.and_eq_true] at hok htm
  have h1 := inR_true.1 hok.1.2
  have h2 := inR_true.1 htm.1
  omega)
 have HL := hU (zQ hv)
 have HM := hU (fun (W : World) (hW : Below w.heap.size w W) => ref10_Mask F.t A1 A2 c1 c2 o.k o.m W (hT.below hW) (by have := HL.out; omega))
 have HU := hU (union_mask hv hcv)
 have HSF := hU (fun (W : World) (hW : Below w.heap.size w W) (D : Option Addr) (dc : Nat) (hD : Rd W D ((mask F.t [(o.k, o.m)]).map Value.bool)) => ref27_Safe (w := W) c1 c2 dc (goneV o) P.dst hv hd (hT.below hW) hD (.inr (mask_length F.t [(o.k, o.m)])))
 have HRE := hU (fun (W : World) (hW : Below w.heap.size w W) (D : Option Addr) (dc : Nat) (hD : Rd W D ((mask F.t [(o.k, o.m)]).map Value.bool)) => ref27_Reaches (w := W) c1 c2 dc P.src P.dst hv hs hd (hT.below hW) hD (.inr (mask_length F.t [(o.k, o.m)])))
 obtain ⟨S, hS⟩ : ∃ S, S = sentV tr P.id := ⟨_, rfl⟩
 have HS := hU hS
 have HSE := hU (fun (W : World) (hW : Below w.heap.size w W) => ref56_sent (w := W) (A := C) tr ct P.id (hE.below hW) hlt)
 rw [← hS] at HSE
 obtain ⟨bz, oz, hAz, hcz⟩ := row_at (s := 4) (l := F.out) (k := 0) (x := o) (fun _ => rfl) (by omega) (hO.below HB.out) (by rw [hoo]; rfl)
 have z0 := hcz 0 (.int .i64 o.fr) rfl
 have z1 := hcz 1 (.int .i64 o.tu) rfl
 have z2 := hcz 2 (.int .i64 o.k) rfl
 have z3 := hcz 3 (.int .i64 o.m) rfl
 simp only [Nat.zero_mul, Nat.add_zero] at z0 z1 z2 z3
 have hl0 : (0 : Int) < (F.out.length : Int) := by rw [hoo]; show (0 : Int) < ((1 : Nat) : Int); decide
 have HMK := hU (mask_length F.t [(o.k, o.m)])
 obtain ⟨f0, f1, f2, f3, f4, f5, f6, _⟩ := HX.out.c7
 obtain ⟨p0, p1, p2, p3, p4, p5, _⟩ := HP.out.c6
 have hsl := hsn
 subst hAz
 clear hb1 hb2 n1 n2 hck hcv hv hT hO hE hlt hoo hok htm hs hd hsn hS hcz
 obtain ⟨G, hG⟩ : ∃ G, G = goneV o := ⟨_, rfl⟩
 have HG := hU hG
 rw [← hG] at HSF
 clear hG
 by_cases hk : o.k = 2
 ·have hkb : (o.k == 2) = true := beq_iff_eq.2 hk
  have HGV : Hid (G = o.m) := hU (by rw [HG.out]; unfold goneV; rw [if_pos hk])
  have hgv := HGV.out
  rw [HGV.out] at HSF
  clear hk hgv
  go_enter Tryz.func15, Tryz.ntmps15
  go_upto_region 2 with fail
  refine kQ (fun Y => Bl 28 w.heap.size #[.int .i64 F.t.n, .slice A1 F.t.ov.length c1, .slice A2 F.t.ls.length c2, .int .i64 F.det, .int .i64 F.ga, .int .i64 F.ho, .slice (some ⟨bz, oz, none⟩) F.out.length co] Y ∧ Bl 49 (w.heap.size + 1) #[.int .i64 P.id, .int .i64 P.src, .int .i64 P.dst, .int .i64 P.fl, .slice P.st P.sn P.sc, .int .i64 P.hops] Y ∧ Bl 81 (w.heap.size + 1 + 1) #[.int .i64 o.fr, .int .i64 o.tu, .int .i64 o.k, .int .i64 o.m] Y ∧ Below w.heap.size w Y) ⟨HX.out.up (cQ _ _), HP.out.up (cQ _ _), by simpa using Bl.new ((w.alloc (.cells #[.int .i64 F.t.n, .slice A1 F.t.ov.length c1, .slice A2 F.t.ls.length c2, .int .i64 F.det, .int .i64 F.ga, .int .i64 F.ho, .slice (some ⟨bz, oz, none⟩) F.out.length co] 28)).alloc (.cells #[.int .i64 P.id, .int .i64 P.src, .int .i64 P.dst, .int .i64 P.fl, .slice P.st P.sn P.sc, .int .i64 P.hops] 49)) #[.int .i64 o.fr, .int .i64 o.tu, .int .i64 o.k, .int .i64 o.m] 81, bQ HB.out (cQ _ _)⟩ ?_
  clear HX HP HB f0 f1 f2 f3 f4 f5 f6 p0 p1 p2 p3 p4 p5 z0 z1 z2 z3
  rintro Y ⟨x1, x2, x3, x4⟩
  have HX := hU x1
  have HP := hU x2
  have HQ := hU x3
  have HB := hU x4
  clear x1 x2 x3 x4
  obtain ⟨f0, f1, f2, f3, f4, f5, f6, _⟩ := HX.out.c7
  obtain ⟨p0, p1, p2, p3, p4, p5, _⟩ := HP.out.c6
  obtain ⟨y0, y1, y2, y3, _⟩ := HQ.out.c4
  go_upto_region 6 with (go_at_call 48; (with_reducible refine (HM.out _ HB.out).mono ?_); rintro e w3 ⟨D, dc, rfl, hr, hb, hfr⟩; clear hfr; rw [HU.out] at hr ⊢; have HD := hU hr; replace HX := hU (HX.out.up hb); replace HP := hU (HP.out.up hb); replace HQ := hU (HQ.out.up hb); replace HB := hU (bQ HB.out hb); clear hr hb HM; clear f0 f1 f2 f3 f4 f5 f6 p0 p1 p2 p3 p4 p5 y0 y1 y2 y3; obtain ⟨f0, f1, f2, f3, f4, f5, f6, _⟩ := HX.out.c7; obtain ⟨p0, p1, p2, p3, p4, p5, _⟩ := HP.out.c6; obtain ⟨y0, y1, y2, y3, _⟩ := HQ.out.c4)
  have HSN : Hid (∀ d os, Calls Tryz.prog 49 #[.slice C tr.length ct, .int .i64 P.id] (grow (redrawn w3 d) os) fun e w'' => e = .returned (.int .i64 S) ∧ ∃ p : Regrown, w'' = grow (redrawn w3 p.d) p.os) := hU fun d os => Calls.regrown_of (HSE.out _ (HB.out.trans ((below_regrown _ d os).mono HB.out.size)))
  have hwr := IntWalk.wrap64_in (o.fr + F.det) (by have := HBD.out; omega)
  by_cases g1 : 0 < P.sn
  ·have g1b : decide (0 < P.sn) = true := decide_eq_true g1
   have HNO : Hid (¬ safeQ F tr P o) := hU (fun h => by have := h.1; omega)
   clear g1 hwr
   go_wp2_with fail
   obtain ⟨P1, P2, P3, P4, P5, P6, P7, P8, P9, P10, P11, P12, P13, P14, P15, P16, P17, -⟩ := kU f0 (kU f1 (kU f2 (kU f3 (kU f4 (kU f5 (kU f6 (kU p0 (kU p1 (kU p2 (kU p3 (kU p4 (kU p5 (kU y0 (kU y1 (kU y2 (kU y3 trivial))))))))))))))))
   refine wp_region_quiet_below (by kernel_rfl) (by kernel_rfl) ?_
   repeat (go_big_quiet_step ((with_reducible exact HSN.out _ _)))
   refine wpQuiet_nil ?_
   intro W4 hb
   replace hb := eQ hb
   clear P1 P2 P3 P4 P5 P6 P7 P8 P9 P10 P11 P12 P13 P14 P15 P16 P17
   have zU := uU hb f0 (uU hb f1 (uU hb f2 (uU hb f3 (uU hb f4 (uU hb f5 (uU hb f6 (uU hb p0 (uU hb p1 (uU hb p2 (uU hb p3 (uU hb p4 (uU hb p5 (uU hb y0 (uU hb y1 (uU hb y2 (uU hb y3 trivial)))))))))))))))); clear f0 f1 f2 f3 f4 f5 f6 p0 p1 p2 p3 p4 p5 y0 y1 y2 y3; obtain ⟨f0, f1, f2, f3, f4, f5, f6, p0, p1, p2, p3, p4, p5, y0, y1, y2, y3, -⟩ := zU
   replace HB := hU (bQ HB.out hb)
   clear hb
   go_wp2_with fail
   go_ret
   exact .mk false rfl ⟨fun h => (by cases h), fun h => absurd h HNO.out⟩ HB.out
  have g1b : decide (0 < P.sn) = false := decide_eq_false g1
  have HG1 : Hid (P.sn = 0) := hU (by omega)
  clear g1
  by_cases g2 : P.src = G
  ·have g2b : (P.src == o.m) = true := by rw [beq_iff_eq, g2]; exact HGV.out
   have HNO : Hid (¬ safeQ F tr P o) := hU (fun h => h.2.1 (by rw [← HG.out]; exact g2))
   clear g2 hwr
   go_wp2_with fail
   obtain ⟨P1, P2, P3, P4, P5, P6, P7, P8, P9, P10, P11, P12, P13, P14, P15, P16, P17, -⟩ := kU f0 (kU f1 (kU f2 (kU f3 (kU f4 (kU f5 (kU f6 (kU p0 (kU p1 (kU p2 (kU p3 (kU p4 (kU p5 (kU y0 (kU y1 (kU y2 (kU y3 trivial))))))))))))))))
   refine wp_region_quiet_below (by kernel_rfl) (by kernel_rfl) ?_
   repeat (go_big_quiet_step ((with_reducible exact HSN.out _ _)))
   refine wpQuiet_nil ?_
   intro W4 hb
   replace hb := eQ hb
   clear P1 P2 P3 P4 P5 P6 P7 P8 P9 P10 P11 P12 P13 P14 P15 P16 P17
   have zU := uU hb f0 (uU hb f1 (uU hb f2 (uU hb f3 (uU hb f4 (uU hb f5 (uU hb f6 (uU hb p0 (uU hb p1 (uU hb p2 (uU hb p3 (uU hb p4 (uU hb p5 (uU hb y0 (uU hb y1 (uU hb y2 (uU hb y3 trivial)))))))))))))))); clear f0 f1 f2 f3 f4 f5 f6 p0 p1 p2 p3 p4 p5 y0 y1 y2 y3; obtain ⟨f0, f1, f2, f3, f4, f5, f6, p0, p1, p2, p3, p4, p5, y0, y1, y2, y3, -⟩ := zU
   replace HB := hU (bQ HB.out hb)
   clear hb
   go_wp2_with fail
   go_ret
   exact .mk false rfl ⟨fun h => (by cases h), fun h => absurd h HNO.out⟩ HB.out
  have g2b : (P.src == o.m) = false := beq_eq_false_iff_ne.2 (fun h => g2 (by rw [HGV.out]; exact h))
  have HG2 := hU g2
  clear g2
  by_cases g3 : P.dst = G
  ·have g3b : (P.dst == o.m) = true := by rw [beq_iff_eq, g3]; exact HGV.out
   have HNO : Hid (¬ safeQ F tr P o) := hU (fun h => h.2.2.1 (by rw [← HG.out]; exact g3))
   clear g3 hwr
   go_wp2_with fail
   obtain ⟨P1, P2, P3, P4, P5, P6, P7, P8, P9, P10, P11, P12, P13, P14, P15, P16, P17, -⟩ := kU f0 (kU f1 (kU f2 (kU f3 (kU f4 (kU f5 (kU f6 (kU p0 (kU p1 (kU p2 (kU p3 (kU p4 (kU p5 (kU y0 (kU y1 (kU y2 (kU y3 trivial))))))))))))))))
   refine wp_region_quiet_below (by kernel_rfl) (by kernel_rfl) ?_
   repeat (go_big_quiet_step ((with_reducible exact HSN.out _ _)))
   refine wpQuiet_nil ?_
   intro W4 hb
   replace hb := eQ hb
   clear P1 P2 P3 P4 P5 P6 P7 P8 P9 P10 P11 P12 P13 P14 P15 P16 P17
   have zU := uU hb f0 (uU hb f1 (uU hb f2 (uU hb f3 (uU hb f4 (uU hb f5 (uU hb f6 (uU hb p0 (uU hb p1 (uU hb p2 (uU hb p3 (uU hb p4 (uU hb p5 (uU hb y0 (uU hb y1 (uU hb y2 (uU hb y3 trivial)))))))))))))))); clear f0 f1 f2 f3 f4 f5 f6 p0 p1 p2 p3 p4 p5 y0 y1 y2 y3; obtain ⟨f0, f1, f2, f3, f4, f5, f6, p0, p1, p2, p3, p4, p5, y0, y1, y2, y3, -⟩ := zU
   replace HB := hU (bQ HB.out hb)
   clear hb
   go_wp2_with fail
   go_ret
   exact .mk false rfl ⟨fun h => (by cases h), fun h => absurd h HNO.out⟩ HB.out
  have g3b : (P.dst == o.m) = false := beq_eq_false_iff_ne.2 (fun h => g3 (by rw [HGV.out]; exact h))
  have HG3 := hU g3
  clear g3
  by_cases g4 : o.fr + F.det < S
  ·have g4b : decide (S ≤ o.fr + F.det) = false := by simp; omega
   have HG4 := hU g4
   clear g4
   go_wp2_with fail
   obtain ⟨P1, P2, P3, P4, P5, P6, P7, P8, P9, P10, P11, P12, P13, P14, P15, P16, P17, -⟩ := kU f0 (kU f1 (kU f2 (kU f3 (kU f4 (kU f5 (kU f6 (kU p0 (kU p1 (kU p2 (kU p3 (kU p4 (kU p5 (kU y0 (kU y1 (kU y2 (kU y3 trivial))))))))))))))))
   refine wp_region_quiet_below (by kernel_rfl) (by kernel_rfl) ?_
   repeat (go_big_quiet_step ((with_reducible exact HSN.out _ _)))
   refine wpQuiet_nil ?_
   intro W4 hb
   replace hb := eQ hb
   clear P1 P2 P3 P4 P5 P6 P7 P8 P9 P10 P11 P12 P13 P14 P15 P16 P17
   have zU := uU hb f0 (uU hb f1 (uU hb f2 (uU hb f3 (uU hb f4 (uU hb f5 (uU hb f6 (uU hb p0 (uU hb p1 (uU hb p2 (uU hb p3 (uU hb p4 (uU hb p5 (uU hb y0 (uU hb y1 (uU hb y2 (uU hb y3 trivial)))))))))))))))); clear f0 f1 f2 f3 f4 f5 f6 p0 p1 p2 p3 p4 p5 y0 y1 y2 y3; obtain ⟨f0, f1, f2, f3, f4, f5, f6, p0, p1, p2, p3, p4, p5, y0, y1, y2, y3, -⟩ := zU
   replace HD := hU (HD.out.below hb)
   replace HX := hU (HX.out.up hb)
   replace HP := hU (HP.out.up hb)
   replace HQ := hU (HQ.out.up hb)
   replace HB := hU (bQ HB.out hb)
   clear hb HSN HSE hwr g1b g2b g3b g4b f0 f1 f2 f3 f4 f5 f6 p0 p1 p2 p3 p4 p5 y0 y1 y2 y3
   obtain ⟨f0, f1, f2, f3, f4, f5, f6, _⟩ := HX.out.c7
   obtain ⟨p0, p1, p2, p3, p4, p5, _⟩ := HP.out.c6
   obtain ⟨y0, y1, y2, y3, _⟩ := HQ.out.c4
   by_cases c1 : safeP F.t (mask F.t [(o.k, o.m)]) (o.m) P.dst
   ·have HC1 := hU c1
    clear c1
    by_cases c2 : reach F.t (mask F.t [(o.k, o.m)]) P.src P.dst
    ·have HC2 := hU c2
     have HYES : Hid (safeQ F tr P o) := hU ⟨HG1.out, by rw [← HG.out]; exact HG2.out, by rw [← HG.out]; exact HG3.out, by rw [← HS.out]; exact HG4.out, by rw [← HG.out, HGV.out]; exact HC1.out, c2⟩
     clear c2
     go_wp2_with (first | (go_at_call 50; (with_reducible refine ((HSF.out _ HB.out _ _ HD.out).mono fun e w9 H => RetBP.yes H HC1.out).mono ?_); rintro e w5 ⟨rfl, hb⟩; replace HD := hU (HD.out.below hb); replace HX := hU (HX.out.up hb); replace HP := hU (HP.out.up hb); replace HQ := hU (HQ.out.up hb); replace HB := hU (bQ HB.out hb); clear hb; clear f0 f1 f2 f3 f4 f5 f6 p0 p1 p2 p3 p4 p5 y0 y1 y2 y3; obtain ⟨f0, f1, f2, f3, f4, f5, f6, _⟩ := HX.out.c7; obtain ⟨p0, p1, p2, p3, p4, p5, _⟩ := HP.out.c6; obtain ⟨y0, y1, y2, y3, _⟩ := HQ.out.c4) | (go_at_call 51; (with_reducible refine ((HRE.out _ HB.out _ _ HD.out).mono fun e w9 H => RetBP.yes H HC2.out).mono ?_); rintro e w6 ⟨rfl, hb⟩; replace HD := hU (HD.out.below hb); replace HX := hU (HX.out.up hb); replace HP := hU (HP.out.up hb); replace HQ := hU (HQ.out.up hb); replace HB := hU (bQ HB.out hb); clear hb; clear f0 f1 f2 f3 f4 f5 f6 p0 p1 p2 p3 p4 p5 y0 y1 y2 y3; obtain ⟨f0, f1, f2, f3, f4, f5, f6, _⟩ := HX.out.c7; obtain ⟨p0, p1, p2, p3, p4, p5, _⟩ := HP.out.c6; obtain ⟨y0, y1, y2, y3, _⟩ := HQ.out.c4))
     go_ret
     exact .mk true rfl ⟨fun _ => HYES.out, fun _ => rfl⟩ HB.out
    ·have HC2 := hU c2
     have HNO : Hid (¬ safeQ F tr P o) := hU (fun h => HC2.out h.2.2.2.2.2)
     clear c2
     go_wp2_with (first | (go_at_call 50; (with_reducible refine ((HSF.out _ HB.out _ _ HD.out).mono fun e w9 H => RetBP.yes H HC1.out).mono ?_); rintro e w5 ⟨rfl, hb⟩; replace HD := hU (HD.out.below hb); replace HX := hU (HX.out.up hb); replace HP := hU (HP.out.up hb); replace HQ := hU (HQ.out.up hb); replace HB := hU (bQ HB.out hb); clear hb; clear f0 f1 f2 f3 f4 f5 f6 p0 p1 p2 p3 p4 p5 y0 y1 y2 y3; obtain ⟨f0, f1, f2, f3, f4, f5, f6, _⟩ := HX.out.c7; obtain ⟨p0, p1, p2, p3, p4, p5, _⟩ := HP.out.c6; obtain ⟨y0, y1, y2, y3, _⟩ := HQ.out.c4) | (go_at_call 51; (with_reducible refine ((HRE.out _ HB.out _ _ HD.out).mono fun e w9 H => RetBP.no H HC2.out).mono ?_); rintro e w6 ⟨rfl, hb⟩; replace HD := hU (HD.out.below hb); replace HX := hU (HX.out.up hb); replace HP := hU (HP.out.up hb); replace HQ := hU (HQ.out.up hb); replace HB := hU (bQ HB.out hb); clear hb; clear f0 f1 f2 f3 f4 f5 f6 p0 p1 p2 p3 p4 p5 y0 y1 y2 y3; obtain ⟨f0, f1, f2, f3, f4, f5, f6, _⟩ := HX.out.c7; obtain ⟨p0, p1, p2, p3, p4, p5, _⟩ := HP.out.c6; obtain ⟨y0, y1, y2, y3, _⟩ := HQ.out.c4))
     go_ret
     exact .mk false rfl ⟨fun h => (by cases h), fun h => absurd h HNO.out⟩ HB.out
   ·have HC1 := hU c1
    have HNO : Hid (¬ safeQ F tr P o) := hU (fun h => HC1.out (by have h9 := h.2.2.2.2.1; rw [← HG.out, HGV.out] at h9; exact h9))
    clear c1
    go_wp2_with (go_at_call 50; (with_reducible refine ((HSF.out _ HB.out _ _ HD.out).mono fun e w9 H => RetBP.no H HC1.out).mono ?_); rintro e w5 ⟨rfl, hb⟩; replace HD := hU (HD.out.below hb); replace HX := hU (HX.out.up hb); replace HP := hU (HP.out.up hb); replace HQ := hU (HQ.out.up hb); replace HB := hU (bQ HB.out hb); clear hb; clear f0 f1 f2 f3 f4 f5 f6 p0 p1 p2 p3 p4 p5 y0 y1 y2 y3; obtain ⟨f0, f1, f2, f3, f4, f5, f6, _⟩ := HX.out.c7; obtain ⟨p0, p1, p2, p3, p4, p5, _⟩ := HP.out.c6; obtain ⟨y0, y1, y2, y3, _⟩ := HQ.out.c4)
    go_ret
    exact .mk false rfl ⟨fun h => (by cases h), fun h => absurd h HNO.out⟩ HB.out
  ·have g4b : decide (S ≤ o.fr + F.det) = true := by simp; omega
   have HNO : Hid (¬ safeQ F tr P o) := hU (fun h => g4 (by rw [HS.out]; exact h.2.2.2.1))
   clear g4
   go_wp2_with fail
   obtain ⟨P1, P2, P3, P4, P5, P6, P7, P8, P9, P10, P11, P12, P13, P14, P15, P16, P17, -⟩ := kU f0 (kU f1 (kU f2 (kU f3 (kU f4 (kU f5 (kU f6 (kU p0 (kU p1 (kU p2 (kU p3 (kU p4 (kU p5 (kU y0 (kU y1 (kU y2 (kU y3 trivial))))))))))))))))
   refine wp_region_quiet_below (by kernel_rfl) (by kernel_rfl) ?_
   repeat (go_big_quiet_step ((with_reducible exact HSN.out _ _)))
   refine wpQuiet_nil ?_
   intro W4 hb
   replace hb := eQ hb
   clear P1 P2 P3 P4 P5 P6 P7 P8 P9 P10 P11 P12 P13 P14 P15 P16 P17
   have zU := uU hb f0 (uU hb f1 (uU hb f2 (uU hb f3 (uU hb f4 (uU hb f5 (uU hb f6 (uU hb p0 (uU hb p1 (uU hb p2 (uU hb p3 (uU hb p4 (uU hb p5 (uU hb y0 (uU hb y1 (uU hb y2 (uU hb y3 trivial)))))))))))))))); clear f0 f1 f2 f3 f4 f5 f6 p0 p1 p2 p3 p4 p5 y0 y1 y2 y3; obtain ⟨f0, f1, f2, f3, f4, f5, f6, p0, p1, p2, p3, p4, p5, y0, y1, y2, y3, -⟩ := zU
   replace HB := hU (bQ HB.out hb)
   clear hb
   go_wp2_with fail
   go_ret
   exact .mk false rfl ⟨fun h => (by cases h), fun h => absurd h HNO.out⟩ HB.out
 ·have hkb : (o.k == 2) = false := beq_eq_false_iff_ne.2 hk
  have HGV : Hid (G = -1) := hU (by rw [HG.out]; unfold goneV; rw [if_neg hk])
  rw [HGV.out] at HSF
  clear hk
  go_enter Tryz.func15, Tryz.ntmps15
  go_upto_region 2 with fail
  refine kQ (fun Y => Bl 28 w.heap.size #[.int .i64 F.t.n, .slice A1 F.t.ov.length c1, .slice A2 F.t.ls.length c2, .int .i64 F.det, .int .i64 F.ga, .int .i64 F.ho, .slice (some ⟨bz, oz, none⟩) F.out.length co] Y ∧ Bl 49 (w.heap.size + 1) #[.int .i64 P.id, .int .i64 P.src, .int .i64 P.dst, .int .i64 P.fl, .slice P.st P.sn P.sc, .int .i64 P.hops] Y ∧ Bl 81 (w.heap.size + 1 + 1) #[.int .i64 o.fr, .int .i64 o.tu, .int .i64 o.k, .int .i64 o.m] Y ∧ Below w.heap.size w Y) ⟨HX.out.up (cQ _ _), HP.out.up (cQ _ _), by simpa using Bl.new ((w.alloc (.cells #[.int .i64 F.t.n, .slice A1 F.t.ov.length c1, .slice A2 F.t.ls.length c2, .int .i64 F.det, .int .i64 F.ga, .int .i64 F.ho, .slice (some ⟨bz, oz, none⟩) F.out.length co] 28)).alloc (.cells #[.int .i64 P.id, .int .i64 P.src, .int .i64 P.dst, .int .i64 P.fl, .slice P.st P.sn P.sc, .int .i64 P.hops] 49)) #[.int .i64 o.fr, .int .i64 o.tu, .int .i64 o.k, .int .i64 o.m] 81, bQ HB.out (cQ _ _)⟩ ?_
  clear HX HP HB f0 f1 f2 f3 f4 f5 f6 p0 p1 p2 p3 p4 p5 z0 z1 z2 z3
  rintro Y ⟨x1, x2, x3, x4⟩
  have HX := hU x1
  have HP := hU x2
  have HQ := hU x3
  have HB := hU x4
  clear x1 x2 x3 x4
  obtain ⟨f0, f1, f2, f3, f4, f5, f6, _⟩ := HX.out.c7
  obtain ⟨p0, p1, p2, p3, p4, p5, _⟩ := HP.out.c6
  obtain ⟨y0, y1, y2, y3, _⟩ := HQ.out.c4
  go_upto_region 6 with (go_at_call 48; (with_reducible refine (HM.out _ HB.out).mono ?_); rintro e w3 ⟨D, dc, rfl, hr, hb, hfr⟩; clear hfr; rw [HU.out] at hr ⊢; have HD := hU hr; replace HX := hU (HX.out.up hb); replace HP := hU (HP.out.up hb); replace HQ := hU (HQ.out.up hb); replace HB := hU (bQ HB.out hb); clear hr hb HM; clear f0 f1 f2 f3 f4 f5 f6 p0 p1 p2 p3 p4 p5 y0 y1 y2 y3; obtain ⟨f0, f1, f2, f3, f4, f5, f6, _⟩ := HX.out.c7; obtain ⟨p0, p1, p2, p3, p4, p5, _⟩ := HP.out.c6; obtain ⟨y0, y1, y2, y3, _⟩ := HQ.out.c4)
  have HSN : Hid (∀ d os, Calls Tryz.prog 49 #[.slice C tr.length ct, .int .i64 P.id] (grow (redrawn w3 d) os) fun e w'' => e = .returned (.int .i64 S) ∧ ∃ p : Regrown, w'' = grow (redrawn w3 p.d) p.os) := hU fun d os => Calls.regrown_of (HSE.out _ (HB.out.trans ((below_regrown _ d os).mono HB.out.size)))
  have hwr := IntWalk.wrap64_in (o.fr + F.det) (by have := HBD.out; omega)
  by_cases g1 : 0 < P.sn
  ·have g1b : decide (0 < P.sn) = true := decide_eq_true g1
   have HNO : Hid (¬ safeQ F tr P o) := hU (fun h => by have := h.1; omega)
   clear g1 hwr
   go_wp2_with fail
   obtain ⟨P1, P2, P3, P4, P5, P6, P7, P8, P9, P10, P11, P12, P13, P14, P15, P16, P17, -⟩ := kU f0 (kU f1 (kU f2 (kU f3 (kU f4 (kU f5 (kU f6 (kU p0 (kU p1 (kU p2 (kU p3 (kU p4 (kU p5 (kU y0 (kU y1 (kU y2 (kU y3 trivial))))))))))))))))
   refine wp_region_quiet_below (by kernel_rfl) (by kernel_rfl) ?_
   repeat (go_big_quiet_step ((with_reducible exact HSN.out _ _)))
   refine wpQuiet_nil ?_
   intro W4 hb
   replace hb := eQ hb
   clear P1 P2 P3 P4 P5 P6 P7 P8 P9 P10 P11 P12 P13 P14 P15 P16 P17
   have zU := uU hb f0 (uU hb f1 (uU hb f2 (uU hb f3 (uU hb f4 (uU hb f5 (uU hb f6 (uU hb p0 (uU hb p1 (uU hb p2 (uU hb p3 (uU hb p4 (uU hb p5 (uU hb y0 (uU hb y1 (uU hb y2 (uU hb y3 trivial)))))))))))))))); clear f0 f1 f2 f3 f4 f5 f6 p0 p1 p2 p3 p4 p5 y0 y1 y2 y3; obtain ⟨f0, f1, f2, f3, f4, f5, f6, p0, p1, p2, p3, p4, p5, y0, y1, y2, y3, -⟩ := zU
   replace HB := hU (bQ HB.out hb)
   clear hb
   go_wp2_with fail
   go_ret
   exact .mk false rfl ⟨fun h => (by cases h), fun h => absurd h HNO.out⟩ HB.out
  have g1b : decide (0 < P.sn) = false := decide_eq_false g1
  have HG1 : Hid (P.sn = 0) := hU (by omega)
  clear g1
  by_cases g2 : P.src = G
  ·have g2b : (P.src == -1) = true := by rw [beq_iff_eq, g2]; exact HGV.out
   have HNO : Hid (¬ safeQ F tr P o) := hU (fun h => h.2.1 (by rw [← HG.out]; exact g2))
   clear g2 hwr
   go_wp2_with fail
   obtain ⟨P1, P2, P3, P4, P5, P6, P7, P8, P9, P10, P11, P12, P13, P14, P15, P16, P17, -⟩ := kU f0 (kU f1 (kU f2 (kU f3 (kU f4 (kU f5 (kU f6 (kU p0 (kU p1 (kU p2 (kU p3 (kU p4 (kU p5 (kU y0 (kU y1 (kU y2 (kU y3 trivial))))))))))))))))
   refine wp_region_quiet_below (by kernel_rfl) (by kernel_rfl) ?_
   repeat (go_big_quiet_step ((with_reducible exact HSN.out _ _)))
   refine wpQuiet_nil ?_
   intro W4 hb
   replace hb := eQ hb
   clear P1 P2 P3 P4 P5 P6 P7 P8 P9 P10 P11 P12 P13 P14 P15 P16 P17
   have zU := uU hb f0 (uU hb f1 (uU hb f2 (uU hb f3 (uU hb f4 (uU hb f5 (uU hb f6 (uU hb p0 (uU hb p1 (uU hb p2 (uU hb p3 (uU hb p4 (uU hb p5 (uU hb y0 (uU hb y1 (uU hb y2 (uU hb y3 trivial)))))))))))))))); clear f0 f1 f2 f3 f4 f5 f6 p0 p1 p2 p3 p4 p5 y0 y1 y2 y3; obtain ⟨f0, f1, f2, f3, f4, f5, f6, p0, p1, p2, p3, p4, p5, y0, y1, y2, y3, -⟩ := zU
   replace HB := hU (bQ HB.out hb)
   clear hb
   go_wp2_with fail
   go_ret
   exact .mk false rfl ⟨fun h => (by cases h), fun h => absurd h HNO.out⟩ HB.out
  have g2b : (P.src == -1) = false := beq_eq_false_iff_ne.2 (fun h => g2 (by rw [HGV.out]; exact h))
  have HG2 := hU g2
  clear g2
  by_cases g3 : P.dst = G
  ·have g3b : (P.dst == -1) = true := by rw [beq_iff_eq, g3]; exact HGV.out
   have HNO : Hid (¬ safeQ F tr P o) := hU (fun h => h.2.2.1 (by rw [← HG.out]; exact g3))
   clear g3 hwr
   go_wp2_with fail
   obtain ⟨P1, P2, P3, P4, P5, P6, P7, P8, P9, P10, P11, P12, P13, P14, P15, P16, P17, -⟩ := kU f0 (kU f1 (kU f2 (kU f3 (kU f4 (kU f5 (kU f6 (kU p0 (kU p1 (kU p2 (kU p3 (kU p4 (kU p5 (kU y0 (kU y1 (kU y2 (kU y3 trivial))))))))))))))))
   refine wp_region_quiet_below (by kernel_rfl) (by kernel_rfl) ?_
   repeat (go_big_quiet_step ((with_reducible exact HSN.out _ _)))
   refine wpQuiet_nil ?_
   intro W4 hb
   replace hb := eQ hb
   clear P1 P2 P3 P4 P5 P6 P7 P8 P9 P10 P11 P12 P13 P14 P15 P16 P17
   have zU := uU hb f0 (uU hb f1 (uU hb f2 (uU hb f3 (uU hb f4 (uU hb f5 (uU hb f6 (uU hb p0 (uU hb p1 (uU hb p2 (uU hb p3 (uU hb p4 (uU hb p5 (uU hb y0 (uU hb y1 (uU hb y2 (uU hb y3 trivial)))))))))))))))); clear f0 f1 f2 f3 f4 f5 f6 p0 p1 p2 p3 p4 p5 y0 y1 y2 y3; obtain ⟨f0, f1, f2, f3, f4, f5, f6, p0, p1, p2, p3, p4, p5, y0, y1, y2, y3, -⟩ := zU
   replace HB := hU (bQ HB.out hb)
   clear hb
   go_wp2_with fail
   go_ret
   exact .mk false rfl ⟨fun h => (by cases h), fun h => absurd h HNO.out⟩ HB.out
  have g3b : (P.dst == -1) = false := beq_eq_false_iff_ne.2 (fun h => g3 (by rw [HGV.out]; exact h))
  have HG3 := hU g3
  clear g3
  by_cases g4 : o.fr + F.det < S
  ·have g4b : decide (S ≤ o.fr + F.det) = false := by simp; omega
   have HG4 := hU g4
   clear g4
   go_wp2_with fail
   obtain ⟨P1, P2, P3, P4, P5, P6, P7, P8, P9, P10, P11, P12, P13, P14, P15, P16, P17, -⟩ := kU f0 (kU f1 (kU f2 (kU f3 (kU f4 (kU f5 (kU f6 (kU p0 (kU p1 (kU p2 (kU p3 (kU p4 (kU p5 (kU y0 (kU y1 (kU y2 (kU y3 trivial))))))))))))))))
   refine wp_region_quiet_below (by kernel_rfl) (by kernel_rfl) ?_
   repeat (go_big_quiet_step ((with_reducible exact HSN.out _ _)))
   refine wpQuiet_nil ?_
   intro W4 hb
   replace hb := eQ hb
   clear P1 P2 P3 P4 P5 P6 P7 P8 P9 P10 P11 P12 P13 P14 P15 P16 P17
   have zU := uU hb f0 (uU hb f1 (uU hb f2 (uU hb f3 (uU hb f4 (uU hb f5 (uU hb f6 (uU hb p0 (uU hb p1 (uU hb p2 (uU hb p3 (uU hb p4 (uU hb p5 (uU hb y0 (uU hb y1 (uU hb y2 (uU hb y3 trivial)))))))))))))))); clear f0 f1 f2 f3 f4 f5 f6 p0 p1 p2 p3 p4 p5 y0 y1 y2 y3; obtain ⟨f0, f1, f2, f3, f4, f5, f6, p0, p1, p2, p3, p4, p5, y0, y1, y2, y3, -⟩ := zU
   replace HD := hU (HD.out.below hb)
   replace HX := hU (HX.out.up hb)
   replace HP := hU (HP.out.up hb)
   replace HQ := hU (HQ.out.up hb)
   replace HB := hU (bQ HB.out hb)
   clear hb HSN HSE hwr g1b g2b g3b g4b f0 f1 f2 f3 f4 f5 f6 p0 p1 p2 p3 p4 p5 y0 y1 y2 y3
   obtain ⟨f0, f1, f2, f3, f4, f5, f6, _⟩ := HX.out.c7
   obtain ⟨p0, p1, p2, p3, p4, p5, _⟩ := HP.out.c6
   obtain ⟨y0, y1, y2, y3, _⟩ := HQ.out.c4
   by_cases c1 : safeP F.t (mask F.t [(o.k, o.m)]) (-1) P.dst
   ·have HC1 := hU c1
    clear c1
    by_cases c2 : reach F.t (mask F.t [(o.k, o.m)]) P.src P.dst
    ·have HC2 := hU c2
     have HYES : Hid (safeQ F tr P o) := hU ⟨HG1.out, by rw [← HG.out]; exact HG2.out, by rw [← HG.out]; exact HG3.out, by rw [← HS.out]; exact HG4.out, by rw [← HG.out, HGV.out]; exact HC1.out, c2⟩
     clear c2
     go_wp2_with (first | (go_at_call 50; (with_reducible refine ((HSF.out _ HB.out _ _ HD.out).mono fun e w9 H => RetBP.yes H HC1.out).mono ?_); rintro e w5 ⟨rfl, hb⟩; replace HD := hU (HD.out.below hb); replace HX := hU (HX.out.up hb); replace HP := hU (HP.out.up hb); replace HQ := hU (HQ.out.up hb); replace HB := hU (bQ HB.out hb); clear hb; clear f0 f1 f2 f3 f4 f5 f6 p0 p1 p2 p3 p4 p5 y0 y1 y2 y3; obtain ⟨f0, f1, f2, f3, f4, f5, f6, _⟩ := HX.out.c7; obtain ⟨p0, p1, p2, p3, p4, p5, _⟩ := HP.out.c6; obtain ⟨y0, y1, y2, y3, _⟩ := HQ.out.c4) | (go_at_call 51; (with_reducible refine ((HRE.out _ HB.out _ _ HD.out).mono fun e w9 H => RetBP.yes H HC2.out).mono ?_); rintro e w6 ⟨rfl, hb⟩; replace HD := hU (HD.out.below hb); replace HX := hU (HX.out.up hb); replace HP := hU (HP.out.up hb); replace HQ := hU (HQ.out.up hb); replace HB := hU (bQ HB.out hb); clear hb; clear f0 f1 f2 f3 f4 f5 f6 p0 p1 p2 p3 p4 p5 y0 y1 y2 y3; obtain ⟨f0, f1, f2, f3, f4, f5, f6, _⟩ := HX.out.c7; obtain ⟨p0, p1, p2, p3, p4, p5, _⟩ := HP.out.c6; obtain ⟨y0, y1, y2, y3, _⟩ := HQ.out.c4))
     go_ret
     exact .mk true rfl ⟨fun _ => HYES.out, fun _ => rfl⟩ HB.out
    ·have HC2 := hU c2
     have HNO : Hid (¬ safeQ F tr P o) := hU (fun h => HC2.out h.2.2.2.2.2)
     clear c2
     go_wp2_with (first | (go_at_call 50; (with_reducible refine ((HSF.out _ HB.out _ _ HD.out).mono fun e w9 H => RetBP.yes H HC1.out).mono ?_); rintro e w5 ⟨rfl, hb⟩; replace HD := hU (HD.out.below hb); replace HX := hU (HX.out.up hb); replace HP := hU (HP.out.up hb); replace HQ := hU (HQ.out.up hb); replace HB := hU (bQ HB.out hb); clear hb; clear f0 f1 f2 f3 f4 f5 f6 p0 p1 p2 p3 p4 p5 y0 y1 y2 y3; obtain ⟨f0, f1, f2, f3, f4, f5, f6, _⟩ := HX.out.c7; obtain ⟨p0, p1, p2, p3, p4, p5, _⟩ := HP.out.c6; obtain ⟨y0, y1, y2, y3, _⟩ := HQ.out.c4) | (go_at_call 51; (with_reducible refine ((HRE.out _ HB.out _ _ HD.out).mono fun e w9 H => RetBP.no H HC2.out).mono ?_); rintro e w6 ⟨rfl, hb⟩; replace HD := hU (HD.out.below hb); replace HX := hU (HX.out.up hb); replace HP := hU (HP.out.up hb); replace HQ := hU (HQ.out.up hb); replace HB := hU (bQ HB.out hb); clear hb; clear f0 f1 f2 f3 f4 f5 f6 p0 p1 p2 p3 p4 p5 y0 y1 y2 y3; obtain ⟨f0, f1, f2, f3, f4, f5, f6, _⟩ := HX.out.c7; obtain ⟨p0, p1, p2, p3, p4, p5, _⟩ := HP.out.c6; obtain ⟨y0, y1, y2, y3, _⟩ := HQ.out.c4))
     go_ret
     exact .mk false rfl ⟨fun h => (by cases h), fun h => absurd h HNO.out⟩ HB.out
   ·have HC1 := hU c1
    have HNO : Hid (¬ safeQ F tr P o) := hU (fun h => HC1.out (by have h9 := h.2.2.2.2.1; rw [← HG.out, HGV.out] at h9; exact h9))
    clear c1
    go_wp2_with (go_at_call 50; (with_reducible refine ((HSF.out _ HB.out _ _ HD.out).mono fun e w9 H => RetBP.no H HC1.out).mono ?_); rintro e w5 ⟨rfl, hb⟩; replace HD := hU (HD.out.below hb); replace HX := hU (HX.out.up hb); replace HP := hU (HP.out.up hb); replace HQ := hU (HQ.out.up hb); replace HB := hU (bQ HB.out hb); clear hb; clear f0 f1 f2 f3 f4 f5 f6 p0 p1 p2 p3 p4 p5 y0 y1 y2 y3; obtain ⟨f0, f1, f2, f3, f4, f5, f6, _⟩ := HX.out.c7; obtain ⟨p0, p1, p2, p3, p4, p5, _⟩ := HP.out.c6; obtain ⟨y0, y1, y2, y3, _⟩ := HQ.out.c4)
    go_ret
    exact .mk false rfl ⟨fun h => (by cases h), fun h => absurd h HNO.out⟩ HB.out
  ·have g4b : decide (S ≤ o.fr + F.det) = true := by simp; omega
   have HNO : Hid (¬ safeQ F tr P o) := hU (fun h => g4 (by rw [HS.out]; exact h.2.2.2.1))
   clear g4
   go_wp2_with fail
   obtain ⟨P1, P2, P3, P4, P5, P6, P7, P8, P9, P10, P11, P12, P13, P14, P15, P16, P17, -⟩ := kU f0 (kU f1 (kU f2 (kU f3 (kU f4 (kU f5 (kU f6 (kU p0 (kU p1 (kU p2 (kU p3 (kU p4 (kU p5 (kU y0 (kU y1 (kU y2 (kU y3 trivial))))))))))))))))
   refine wp_region_quiet_below (by kernel_rfl) (by kernel_rfl) ?_
   repeat (go_big_quiet_step ((with_reducible exact HSN.out _ _)))
   refine wpQuiet_nil ?_
   intro W4 hb
   replace hb := eQ hb
   clear P1 P2 P3 P4 P5 P6 P7 P8 P9 P10 P11 P12 P13 P14 P15 P16 P17
   have zU := uU hb f0 (uU hb f1 (uU hb f2 (uU hb f3 (uU hb f4 (uU hb f5 (uU hb f6 (uU hb p0 (uU hb p1 (uU hb p2 (uU hb p3 (uU hb p4 (uU hb p5 (uU hb y0 (uU hb y1 (uU hb y2 (uU hb y3 trivial)))))))))))))))); clear f0 f1 f2 f3 f4 f5 f6 p0 p1 p2 p3 p4 p5 y0 y1 y2 y3; obtain ⟨f0, f1, f2, f3, f4, f5, f6, p0, p1, p2, p3, p4, p5, y0, y1, y2, y3, -⟩ := zU
   replace HB := hU (bQ HB.out hb)
   clear hb
   go_wp2_with fail
   go_ret
   exact .mk false rfl ⟨fun h => (by cases h), fun h => absurd h HNO.out⟩ HB.out
end
end
end Go.Proofs.YtdnjflpmbnjgeaaGreat
