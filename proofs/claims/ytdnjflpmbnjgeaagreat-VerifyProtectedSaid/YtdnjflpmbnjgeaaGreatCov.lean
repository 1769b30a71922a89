/-
  repair.Covered (printed by gen_cov.py).
-/
import Derived.Test.YtdnjflpmbnjgeaaGreatPkAsm
import Derived.Test.YtdnjflpmbnjgeaaGreatPkInvR
set_option linter.unusedSimpArgs false
set_option linter.unusedVariables false
namespace Go.Proofs.YtdnjflpmbnjgeaaGreat
section
open Go.RowKit Go.Sort
def covD : Nat → Nat
 | 0 => 81
 | 1 => 82
 | 2 => 83
 | 3 => 84
 | 4 => 85
 | 5 => 86
 | _ => 0
theorem covD_lt : ∀ i, i < 6 → covD i < 87 := by decide +kernel
theorem covD_inj : ∀ i, i < 6 → ∀ j, j < 6 → covD i = covD j → i = j := by decide +kernel
def covV (mb : Nat) (tv : Value) (k m k2 m2 : Int) (r : Bool) : Nat → Nat → Value
 | 0, _ => .map (some mb)
 | 1, _ => .agg #[.int .i64 k2, .int .i64 m2]
 | 2, _ => tv
 | 3, _ => .agg #[.int .i64 k, .int .i64 m]
 | 4, _ => .agg #[.int .i64 k2, .int .i64 m2]
 | 5, _ => .bool r
 | _, _ => undef
theorem cov_put (mb : Nat) (tv : Value) (k m k2 m2 : Int) (r : Bool) (xs : Nat → Nat) (T : Array Value) : putAll covD (fun i => covV mb tv k m k2 m2 r i (xs i)) 6 T = ((((((T.setIfInBounds 81 (.map (some mb))).setIfInBounds 82 (.agg #[.int .i64 k2, .int .i64 m2])).setIfInBounds 83 (tv)).setIfInBounds 84 (.agg #[.int .i64 k, .int .i64 m])).setIfInBounds 85 (.agg #[.int .i64 k2, .int .i64 m2])).setIfInBounds 86 (.bool r)) := rfl
section
variable {w : World} {A1 A2 : Option Addr} {t : Topo}
set_option maxRecDepth 100000 in
set_option maxHeartbeats 16000000 in
theorem repair_Covered (c1 c2 : Nat) (k m : Int) (hv : valid t = true) (hT : TAt w A1 A2 t) (hkm : inJ k ∧ inJ m) :
    Calls Tryz.prog 37 #[.agg #[.int .i64 t.n, .slice A1 t.ov.length c1, .slice A2 t.ls.length c2], .agg #[.int .i64 k, .int .i64 m]] w (RetBP w (covP t k m)) := by
 have hL := zQ hv
 have hN := iZ hv
 have hb1 := cQ w (.cells #[.int .i64 t.n, .slice A1 t.ov.length c1, .slice A2 t.ls.length c2] 25)
 have hb2 := cQ (w.alloc (.cells #[.int .i64 t.n, .slice A1 t.ov.length c1, .slice A2 t.ls.length c2] 25)) (.cells #[.int .i64 k, .int .i64 m] 79)
 have n1 := (Bl.new w #[.int .i64 t.n, .slice A1 t.ov.length c1, .slice A2 t.ls.length c2] 25).up hb2
 have n2 := Bl.new (w.alloc (.cells #[.int .i64 t.n, .slice A1 t.ov.length c1, .slice A2 t.ls.length c2] 25)) #[.int .i64 k, .int .i64 m] 79
 simp only [World.size_alloc] at n2
 have HM := hU (component_Mask t A1 A2 c1 c2 k m _ (hT.below (bQ hb1 hb2)) (by omega))
 have HB0 := hU (bQ hb1 hb2)
 have HX1 := hU n1
 have HX2 := hU n2
 have HV := hU hv
 have HL := hU hL
 have HN := hU hN
 have HT0 := hU hT
 have HKM := hU hkm
 obtain ⟨y0, y1, y2, _⟩ := n1.c3
 obtain ⟨p0, p1, _⟩ := n2.c2
 clear hb1 hb2 n1 n2 hv hL hN hT hkm
 cases hc : gZ t k m with
 | false =>
  have HU : Hid (unionV t [(k, m)] = ([], 1)) := hU (by
   have hc' : compOk t k m = false := by rw [gZ, HV.out, Bool.true_and] at hc; exact hc
   simp [unionV, hc'])
  have HNO : Hid (¬ covP t k m) := hU (fun h => by rw [h.1] at hc; cases hc)
  clear hc
  go_enter Tryz.func37, Tryz.ntmps37
  go_wp2_with (go_at_call 35; (with_reducible refine HM.out.mono ?_); rintro e w2 ⟨A, c, rfl, hr, hb, hfr⟩; clear hfr; rw [HU.out]; have HBB := hU (bQ HB0.out hb); clear hr hb HM)
  go_ret
  exact .mk false rfl ⟨fun h => (by cases h), fun h => absurd h HNO.out⟩ HBB.out
 | true =>
  have HU : Hid (unionV t [(k, m)] = (mask t [(k, m)], 0)) := hU (by
   have hc' : compOk t k m = true := by rw [gZ, HV.out, Bool.true_and] at hc; exact hc
   simp [unionV, HV.out, hc'])
  have HC := hU hc
  clear hc
  have HML := hU (mask_length t [(k, m)])
  have hmm := @run_makeMap Tryz.prog
  go_enter Tryz.func37, Tryz.ntmps37
  go_upto_region 4 with (go_at_call 35; (with_reducible refine HM.out.mono ?_); rintro e w2 ⟨A, c, rfl, hr, hb, hfr⟩; clear hfr; rw [HU.out] at hr ⊢; have HR := hU hr; have HBB := hU (bQ HB0.out hb); replace HX1 := hU (HX1.out.up hb); replace HX2 := hU (HX2.out.up hb); clear hr hb HM y0 y1 y2 p0 p1)
  obtain ⟨mb, hmb⟩ : ∃ mb, mb = w2.heap.size := ⟨_, rfl⟩
  have HMB := hU hmb
  go_upto_region 5 with fail
  rw [← hmb]
  clear hmb hmm
  have HW : Hid (CvW w A1 A2 c1 c2 t k m A mb (fun _ => none) (w2.alloc (.map #[] 0))) := hU (by
   have hx := cQ w2 (.map #[] 0)
   refine ⟨HX1.out.up hx, HX2.out.up hx, bQ HBB.out hx, HR.out.below hx, ?_, fun c b h => (by cases h), ?_⟩
   ·rw [HMB.out]; exact FM.made _ _ _ _ _
   ·rw [HMB.out]; exact HX2.out.lt)
  refine kQ (CvW w A1 A2 c1 c2 t k m A mb (fun _ => none)) HW.out ?_
  clear HW HX1 HX2 HBB HR HMB
  rintro Y hY
  have HW := hU hY
  clear hY
  obtain ⟨N, hNL⟩ : ∃ N : Nat, N = 2 * t.ls.length := ⟨_, rfl⟩
  have HNL := hU hNL
  have HML2 : Hid ((mask t [(k, m)]).length = N) := hU (HML.out.trans hNL.symm)
  have hN5 : N ≤ 512 := by have := HL.out; omega
  clear hNL
  have e0 := HML2.out
  rw [e0]
  clear e0
  go_wp2_with fail
  go_loopw [30] (fun i wr => ∃ (j : Nat) (f : Int × Int → Option Bool), j ≤ N ∧ i = .int .i64 j ∧ Hid (CvW w A1 A2 c1 c2 t k m A mb f wr) ∧ Hid (∀ a : Int, 0 ≤ a → a < (j : Int) → covA t k m a)) (fun i _ => N - (intOf i).toNat)
  case atStart => exact ⟨0, _, Nat.zero_le _, rfl, HW, hU (fun a h0 h1 => by omega)⟩
  case round =>
   clear HW
   obtain ⟨j, f, hj, rfl, HW, HPR⟩ := hrel
   by_cases hlt : j < N
   ·have hlt' : (j : Int) < (N : Int) := by omega
    obtain ⟨bm, om, hAm, dm⟩ := HW.out.rd.at_ (k := j) (u := .bool (part t k m ((j : Int) / 2))) (by rw [List.getElem?_map, mask_atN (by have := HNL.out; omega)]; rfl)
    have HNX : Hid (covA t k m (j : Int) → Hid (∀ a : Int, 0 ≤ a → a < ((j + 1 : Nat) : Int) → covA t k m a)) := hU (fun h => hU (fun a h0 h1 => by
     by_cases e : a = (j : Int)
     ·subst e; exact h
     ·exact HPR.out a h0 (by omega)))
    have HJ : Hid (0 ≤ (j : Int) ∧ (j : Int) < 2 * (t.ls.length : Int)) := hU ⟨by omega, by have := HNL.out; omega⟩
    obtain ⟨y0, y1, y2, _⟩ := HW.out.tb.c3
    obtain ⟨p0, p1, _⟩ := HW.out.cb.c2
    have HAM := hU hAm
    subst hAm
    cases hx : part t k m ((j : Int) / 2) with
    | false =>
     have HCA : Hid (covA t k m (j : Int)) := hU (covA_no hx)
     rw [hx] at dm
     clear hx
     go_wp2_with (go_at_call 55; (with_reducible refine (graph_Tail _ _ _ _ t (j : Int) _ (HT0.out.below HW.out.hb).ls HJ.out.1 HJ.out.2 (by have := HL.out; omega)).mono ?_); rintro e w3 ⟨rfl, hb⟩; replace HW := hU (HW.out.up hb); clear hb y0 y1 y2 p0 p1 dm; obtain ⟨y0, y1, y2, _⟩ := HW.out.tb.c3; obtain ⟨p0, p1, _⟩ := HW.out.cb.c2)
     go_round
     case rel => exact ⟨j + 1, f, by omega, by go_num, HW, HNX.out HCA.out⟩
     case measure => simp [intOf]; omega
    | true =>
     rw [hx] at dm
     have HPX := hU hx
     clear hx
     by_cases hkt : k = 2 ∧ m = tail t (j : Int)
     ·have HCA : Hid (covA t k m (j : Int)) := hU (fun _ h => absurd hkt h)
      have q1 : (k == 2) = true := by simp [hkt.1]
      have q2 : (m == tail t (j : Int)) = true := by rw [beq_iff_eq]; exact hkt.2
      clear hkt
      go_wp2_with (go_at_call 55; (with_reducible refine (graph_Tail _ _ _ _ t (j : Int) _ (HT0.out.below HW.out.hb).ls HJ.out.1 HJ.out.2 (by have := HL.out; omega)).mono ?_); rintro e w3 ⟨rfl, hb⟩; replace HW := hU (HW.out.up hb); clear hb y0 y1 y2 p0 p1 dm; obtain ⟨y0, y1, y2, _⟩ := HW.out.tb.c3; obtain ⟨p0, p1, _⟩ := HW.out.cb.c2)
      go_round
      case rel => exact ⟨j + 1, f, by omega, by go_num, HW, HNX.out HCA.out⟩
      case measure => simp [intOf]; omega
     ·have HKT := hU hkt
      have HQ : Hid (((k == 2) && (m == tail t (j : Int))) = false) := hU (by
       cases h1 : (k == 2) <;> cases h2 : (m == tail t (j : Int)) <;> simp_all)
      cases q1 : (k == 2) with
      | false =>
       clear hkt
       go_upto_region 10 with (go_at_call 55; (with_reducible refine (graph_Tail _ _ _ _ t (j : Int) _ (HT0.out.below HW.out.hb).ls HJ.out.1 HJ.out.2 (by have := HL.out; omega)).mono ?_); rintro e w3 ⟨rfl, hb⟩; replace HW := hU (HW.out.up hb); clear hb y0 y1 y2 p0 p1 dm; obtain ⟨y0, y1, y2, _⟩ := HW.out.tb.c3; obtain ⟨p0, p1, _⟩ := HW.out.cb.c2)
       have HFR := hU (spf_From (w := w3) (D := some ⟨bm, om, none⟩) (dn := mask t [(k, m)]) c1 c2 c (tail t (j : Int)) HV.out (isN_true.2 (tail_bdO HV.out HJ.out.1 HJ.out.2)) (HT0.out.below HW.out.hb) HW.out.rd (.inr HML.out))
       rw [HML2.out] at HFR
       go_upto_region 12 with (first | (go_at_call 66; (with_reducible refine HFR.out.mono ?_); rintro e w4 ⟨Al, cl, dist, rfl, hd, hs, hb⟩; have HD := hU hd; have HSR := hU hs; replace HW := hU (HW.out.up hb); clear hd hs hb y0 y1 y2 p0 p1 HFR; obtain ⟨y0, y1, y2, _⟩ := HW.out.tb.c3; obtain ⟨p0, p1, _⟩ := HW.out.cb.c2) | (go_at_call 67; (with_reducible refine (repair_assume c1 c2 (j : Int) HV.out (HT0.out.below HW.out.hb) HJ.out.1 HJ.out.2).mono ?_); rintro e w5 ⟨fv, rfl, hF, hb⟩; obtain ⟨p, q, rfl⟩ := hF.form; have HF := hU hF; replace HW := hU (HW.out.up hb); replace HD := hU (HD.out.below hb); clear hF hb y0 y1 y2 p0 p1))
       obtain ⟨NN, hNN⟩ : ∃ NN : Nat, dist.length = NN := ⟨_, rfl⟩
       have HLEN := hU hNN
       have HNN : Hid ((NN : Int) = t.n) := hU (by have h1 := HSR.out.len; rw [hNN] at h1; have h2 : (sgFrom t (mask t [(k, m)]) (tail t (j : Int))).N = t.n.toNat := rfl; have := HN.out; omega)
       have hNN64 : NN ≤ 64 := by have := HNN.out; have := HN.out; omega
       have HIR := hU (fun (n : Int) (h0 : 0 ≤ n) (h1 : n < (NN : Int)) => (HSR.out.iff (sgFrom_ok HV.out (isN_true.2 (tail_bdO HV.out HJ.out.1 HJ.out.2))) h0 (by show n < ((t.n.toNat : Nat) : Int); have := HNN.out; omega)).trans rchFrom)
       rw [hNN]
       clear hNN
       go_wp2_with fail
       go_loopw [63] (fun i wr => ∃ (d : Nat) (f : Int × Int → Option Bool), d ≤ NN ∧ i = .int .i64 d ∧ Hid (CvW w A1 A2 c1 c2 t k m (some ⟨bm, om, none⟩) mb f wr) ∧ Hid (AsmF t (j : Int) (.func (.func 98) #[] #[p, q]) wr) ∧ Hid (Rd wr Al (dist.map (Value.int .i64))) ∧ Hid (∀ d' : Int, 0 ≤ d' → d' < (d : Int) → reach t (mask t [(k, m)]) (tail t (j : Int)) d' → yQ t k m (asmV t (j : Int) d').1 (asmV t (j : Int) d').2 = true)) (fun i _ => NN - (intOf i).toNat)
       case atStart => exact ⟨0, f, Nat.zero_le _, rfl, HW, HF, HD, hU (fun d' h0 h1 => by omega)⟩
       case round =>
        clear HW HF HD
        obtain ⟨d, f2, hd, rfl, HW, HF, HD, HPD⟩ := hrel
        by_cases hld : d < NN
        ·have hld' : (d : Int) < (NN : Int) := by omega
         obtain ⟨bl, ol, hAl, dl⟩ := dist_at HD.out HLEN.out (i := (d : Int)) (by omega) hld'
         rw [show ((d : Int)).toNat = d by omega] at dl
         have i9 := HIR.out (d : Int) (by omega) hld'
         have HIRd := hU i9
         clear i9
         subst hAl
         have HND : Hid ((reach t (mask t [(k, m)]) (tail t (j : Int)) (d : Int) → (yQ t k m (asmV t (j : Int) (d : Int)).1 (asmV t (j : Int) (d : Int)).2) = true) → Hid (∀ d' : Int, 0 ≤ d' → d' < ((d + 1 : Nat) : Int) → reach t (mask t [(k, m)]) (tail t (j : Int)) d' → yQ t k m (asmV t (j : Int) d').1 (asmV t (j : Int) d').2 = true)) := hU (fun h => hU (fun d' h0 h1 => by
          by_cases e : d' = (d : Int)
          ·subst e; exact h
          ·exact HPD.out d' h0 (by omega)))
         by_cases h0 : 0 ≤ dD dist (d : Int)
         ·have HRE := hU (HIRd.out.1 h0)
          have HCAL := hU (HF.out.call2 HV.out HJ.out.1 HJ.out.2 (d : Int) (isN_true.2 ⟨by omega, by have := HNN.out; omega⟩))
          have HBD := hU (asmV_bd (d := (d : Int)) HV.out HJ.out.1 HJ.out.2)
          have HKY : Hid (∃ l, Go.keyOf Tryz.prog 79 (enc2 (asmV t (j : Int) (d : Int))) = some l) := hU (keyOf_comp (asmV t (j : Int) (d : Int)) (by have := HBD.out; unfold inJ; omega) (by have := HBD.out; unfold inJ; omega))
          go_upto_region 17 with (go_at_call 98; (with_reducible refine HCAL.out.mono ?_); rintro e w6 ⟨rfl, hb⟩; replace HW := hU (HW.out.up hb); replace HF := hU (HF.out.up hb); replace HD := hU (HD.out.below hb); clear hb dl HCAL)
          refine kQ (fun Y => CvW w A1 A2 c1 c2 t k m (some ⟨bm, om, none⟩) mb f2 Y ∧ AsmF t (j : Int) (.func (.func 98) #[] #[p, q]) Y ∧ Rd Y (some ⟨bl, ol, none⟩) (dist.map (Value.int .i64)) ∧ Bl 79 w6.heap.size #[.int .i64 (asmV t (j : Int) (d : Int)).1, .int .i64 (asmV t (j : Int) (d : Int)).2] Y) ⟨HW.out.up (cQ _ _), HF.out.up (cQ _ _), HD.out.below (cQ _ _), Bl.new _ _ _⟩ ?_
          clear HW HF HD
          generalize w6.heap.size = cbk
          rintro Y2 ⟨h1, h2, h3, h4⟩
          have HW := hU h1
          have HF := hU h2
          have HD := hU h3
          have HCB := hU h4
          clear h1 h2 h3 h4
          have HLK := hU (HW.out.fm.look key_comp Tryz.underlying111 (zero_boolV _) (asmV t (j : Int) (d : Int)) HKY.out (enc2_inj _) true)
          obtain ⟨g0, g1, _⟩ := HCB.out.c2
          cases hfx : f2 (asmV t (j : Int) (d : Int)) with
          | none =>
           rw [hfx] at HLK
           have hlk := HLK.out
           simp only [enc2, if_true, Option.map_none, Option.getD_none, Option.isSome_none] at hlk
           clear HLK hfx
           go_upto_region 19 with fail
           clear hlk
           refine wp_region_mkT 6 covD (fun _ => none) (covV mb (.agg #[.int .i64 t.n, .slice A1 t.ov.length c1, .slice A2 t.ls.length c2]) k m (asmV t (j : Int) (d : Int)).1 (asmV t (j : Int) (d : Int)).2 (yQ t k m (asmV t (j : Int) (d : Int)).1 (asmV t (j : Int) (d : Int)).2)) (by kernel_rfl) (by kernel_rfl) (fun i j hi hj h => covD_inj i hi j hj h) (fun i hi => by have := covD_lt i hi; simp; omega) ?_ ?_
           ·intro L ac W xq i hi hst hr
            have HXW := hU ((HW.out.up (gQ _)).up hst.below)
            have HCW := hU ((HCB.out.up (gQ _)).up hst.below)
            obtain ⟨y0, y1, y2, _⟩ := HXW.out.tb.c3
            obtain ⟨p0, p1, _⟩ := HXW.out.cb.c2
            obtain ⟨g0, g1, _⟩ := HCW.out.c2
            match i, hi, hr with
            | 0, _, hr =>
             intro K hK
             have t7 : ac.tmps.getD 7 undef = .map (some mb) := (hst.old 7 (by decide +kernel)).trans rfl
             clear hst hr
             refine iQ _ rfl rfl ?_
             go_simp
             exact hK _ (Below.refl _ _)
            | 1, _, hr =>
             intro K hK
             have t16 : ac.tmps.getD 16 undef = .pointer (some ⟨cbk, 0, none⟩) := (hst.old 16 (by decide +kernel)).trans rfl
             clear hst hr
             refine iQ _ rfl rfl ?_
             go_simp
             exact hK _ (Below.refl _ _)
            | 2, _, hr =>
             intro K hK
             have t2 : ac.tmps.getD 2 undef = .pointer (some ⟨w.heap.size, 0, none⟩) := (hst.old 2 (by decide +kernel)).trans rfl
             clear hst hr
             refine iQ _ rfl rfl ?_
             go_simp
             exact hK _ (Below.refl _ _)
            | 3, _, hr =>
             intro K hK
             have t3 : ac.tmps.getD 3 undef = .pointer (some ⟨w.heap.size + 1, 0, none⟩) := (hst.old 3 (by decide +kernel)).trans rfl
             clear hst hr
             refine iQ _ rfl rfl ?_
             go_simp
             exact hK _ (Below.refl _ _)
            | 4, _, hr =>
             intro K hK
             have t16 : ac.tmps.getD 16 undef = .pointer (some ⟨cbk, 0, none⟩) := (hst.old 16 (by decide +kernel)).trans rfl
             clear hst hr
             refine iQ _ rfl rfl ?_
             go_simp
             exact hK _ (Below.refl _ _)
            | 5, _, hr =>
             intro K hK
             have t83 : ac.tmps.getD 83 undef = .agg #[.int .i64 t.n, .slice A1 t.ov.length c1, .slice A2 t.ls.length c2] := hst.val 2 (by omega) (rU hr 2)
             have t84 : ac.tmps.getD 84 undef = .agg #[.int .i64 k, .int .i64 m] := hst.val 3 (by omega) (rU hr 3)
             have t85 : ac.tmps.getD 85 undef = .agg #[.int .i64 (asmV t (j : Int) (d : Int)).1, .int .i64 (asmV t (j : Int) (d : Int)).2] := hst.val 4 (by omega) (rU hr 4)
             clear hst hr
             refine iQ _ rfl rfl ?_
             go_simp
             with_reducible refine (component_Within t A1 A2 c1 c2 k m (asmV t (j : Int) (d : Int)).1 (asmV t (j : Int) (d : Int)).2 _ (HT0.out.below HXW.out.hb) (by have := HL.out; omega)).mono ?_
             rintro e w9 ⟨rfl, hb⟩
             exact hK w9 hb
            | m + 6, hi, _ => exact absurd hi (by omega)
           ·intro W xs hbl hblk hinj
            simp only [cov_put, List.setIfInBounds_toArray, List.set_cons_zero, List.set_cons_succ]
            replace HW := hU ((HW.out.up (gQ _)).up hbl)
            replace HF := hU ((HF.out.up (gQ _)).up hbl)
            replace HD := hU ((HD.out.below (gQ _)).below hbl)
            replace HCB := hU ((HCB.out.up (gQ _)).up hbl)
            clear hbl hblk hinj g0 g1
            obtain ⟨w9, hu, hf9, hg9⟩ := HW.out.fm.put key_comp Tryz.underlying111 (asmV t (j : Int) (d : Int)) (yQ t k m (asmV t (j : Int) (d : Int)).1 (asmV t (j : Int) (d : Int)).2) HKY.out (enc2_inj _) (evB_inj _)
            simp only [enc2] at hu
            have HF9 := hU hf9
            have HG9 := hU hg9
            clear hf9 hg9
            go_upto_region 20 with fail
            clear hu
            obtain ⟨es, cl0, hmp⟩ := HW.out.fm.isMap
            replace HF := hU (HF.out.kpm (kp_of HG9.out) hmp)
            replace HD := hU (HD.out.kpm (kp_of HG9.out) hmp)
            replace HCB := hU (HCB.out.kpm (kp_of HG9.out) hmp)
            replace HW := hU (HW.out.put rfl HG9.out HF9.out)
            obtain ⟨f3, hf3⟩ : ∃ f3 : Int × Int → Option Bool, f3 = fun x => if x = (asmV t (j : Int) (d : Int)) then some (yQ t k m (asmV t (j : Int) (d : Int)).1 (asmV t (j : Int) (d : Int)).2) else f2 x := ⟨_, rfl⟩
            have HFX : Hid (f3 (asmV t (j : Int) (d : Int)) = some (yQ t k m (asmV t (j : Int) (d : Int)).1 (asmV t (j : Int) (d : Int)).2)) := hU (by rw [hf3]; simp)
            rw [← hf3] at HW
            clear HF9 HG9 hmp hf3
            have HLK2 := hU (HW.out.fm.look key_comp Tryz.underlying111 (zero_boolV _) (asmV t (j : Int) (d : Int)) HKY.out (enc2_inj _) false)
            rw [HFX.out] at HLK2
            cases hwi : (yQ t k m (asmV t (j : Int) (d : Int)).1 (asmV t (j : Int) (d : Int)).2) with
            | true =>
             rw [hwi] at HLK2
             have hlk := HLK2.out
             simp only [enc2, Bool.false_eq_true, if_false, Option.map_some, Option.getD_some] at hlk
             have HWI := hU hwi
             clear hwi HLK2
             obtain ⟨g0, g1, _⟩ := HCB.out.c2
             go_wp2_with fail
             clear hlk
             go_round
             case rel => exact ⟨d + 1, f3, by omega, by go_num, HW, HF, HD, HND.out (fun _ => HWI.out)⟩
             case measure => simp [intOf]; omega
            | false =>
             rw [hwi] at HLK2
             have hlk := HLK2.out
             simp only [enc2, Bool.false_eq_true, if_false, Option.map_some, Option.getD_some] at hlk
             have HNO : Hid (¬ covP t k m) := hU (fun h => by
              have := h.2 (j : Int) HJ.out.1 HJ.out.2 HPX.out HKT.out (d : Int) (by omega) (by have := HNN.out; omega) HRE.out
              rw [hwi] at this
              cases this)
             clear hwi HLK2
             obtain ⟨g0, g1, _⟩ := HCB.out.c2
             go_wp2_with fail
             go_ret
             exact .mk false rfl ⟨fun h => (by cases h), fun h => absurd h HNO.out⟩ HW.out.hb
          | some b9 =>
           rw [hfx] at HLK
           have hlk := HLK.out
           simp only [enc2, if_true, Option.map_some, Option.getD_some, Option.isSome_some] at hlk
           obtain rfl : b9 = (yQ t k m (asmV t (j : Int) (d : Int)).1 (asmV t (j : Int) (d : Int)).2) := HW.out.ok _ _ hfx
           have HFX := hU hfx
           clear HLK hfx
           go_upto_region 20 with fail
           clear hlk g0 g1
           have HLK2 := hU (HW.out.fm.look key_comp Tryz.underlying111 (zero_boolV _) (asmV t (j : Int) (d : Int)) HKY.out (enc2_inj _) false)
           rw [HFX.out] at HLK2
           cases hwi : (yQ t k m (asmV t (j : Int) (d : Int)).1 (asmV t (j : Int) (d : Int)).2) with
           | true =>
            rw [hwi] at HLK2
            have hlk := HLK2.out
            simp only [enc2, Bool.false_eq_true, if_false, Option.map_some, Option.getD_some] at hlk
            have HWI := hU hwi
            clear hwi HLK2
            obtain ⟨g0, g1, _⟩ := HCB.out.c2
            go_wp2_with fail
            clear hlk
            go_round
            case rel => exact ⟨d + 1, f2, by omega, by go_num, HW, HF, HD, HND.out (fun _ => HWI.out)⟩
            case measure => simp [intOf]; omega
           | false =>
            rw [hwi] at HLK2
            have hlk := HLK2.out
            simp only [enc2, Bool.false_eq_true, if_false, Option.map_some, Option.getD_some] at hlk
            have HNO : Hid (¬ covP t k m) := hU (fun h => by
             have := h.2 (j : Int) HJ.out.1 HJ.out.2 HPX.out HKT.out (d : Int) (by omega) (by have := HNN.out; omega) HRE.out
             rw [hwi] at this
             cases this)
            clear hwi HLK2
            obtain ⟨g0, g1, _⟩ := HCB.out.c2
            go_wp2_with fail
            go_ret
            exact .mk false rfl ⟨fun h => (by cases h), fun h => absurd h HNO.out⟩ HW.out.hb
         ·have HNR : Hid (¬ reach t (mask t [(k, m)]) (tail t (j : Int)) (d : Int)) := hU (fun h => h0 (HIRd.out.2 h))
          go_wp2_with fail
          go_round
          case rel => exact ⟨d + 1, f2, by omega, by go_num, HW, HF, HD, HND.out (fun h => absurd h HNR.out)⟩
          case measure => simp [intOf]; omega
        ·obtain rfl : d = NN := by omega
         have HCA : Hid (covA t k m (j : Int)) := hU (fun _ _ d' h0 h1 => HPD.out d' h0 (by have := HNN.out; omega))
         go_wp2_with fail
         go_round
         case rel => exact ⟨j + 1, f2, by omega, by go_num, HW, HNX.out HCA.out⟩
         case measure => simp [intOf]; omega
      | true =>
       have q2 : (m == tail t (j : Int)) = false := by have := HQ.out; rw [q1, Bool.true_and] at this; exact this
       clear hkt
       go_upto_region 10 with (go_at_call 55; (with_reducible refine (graph_Tail _ _ _ _ t (j : Int) _ (HT0.out.below HW.out.hb).ls HJ.out.1 HJ.out.2 (by have := HL.out; omega)).mono ?_); rintro e w3 ⟨rfl, hb⟩; replace HW := hU (HW.out.up hb); clear hb y0 y1 y2 p0 p1 dm; obtain ⟨y0, y1, y2, _⟩ := HW.out.tb.c3; obtain ⟨p0, p1, _⟩ := HW.out.cb.c2)
       have HFR := hU (spf_From (w := w3) (D := some ⟨bm, om, none⟩) (dn := mask t [(k, m)]) c1 c2 c (tail t (j : Int)) HV.out (isN_true.2 (tail_bdO HV.out HJ.out.1 HJ.out.2)) (HT0.out.below HW.out.hb) HW.out.rd (.inr HML.out))
       rw [HML2.out] at HFR
       go_upto_region 12 with (first | (go_at_call 66; (with_reducible refine HFR.out.mono ?_); rintro e w4 ⟨Al, cl, dist, rfl, hd, hs, hb⟩; have HD := hU hd; have HSR := hU hs; replace HW := hU (HW.out.up hb); clear hd hs hb y0 y1 y2 p0 p1 HFR; obtain ⟨y0, y1, y2, _⟩ := HW.out.tb.c3; obtain ⟨p0, p1, _⟩ := HW.out.cb.c2) | (go_at_call 67; (with_reducible refine (repair_assume c1 c2 (j : Int) HV.out (HT0.out.below HW.out.hb) HJ.out.1 HJ.out.2).mono ?_); rintro e w5 ⟨fv, rfl, hF, hb⟩; obtain ⟨p, q, rfl⟩ := hF.form; have HF := hU hF; replace HW := hU (HW.out.up hb); replace HD := hU (HD.out.below hb); clear hF hb y0 y1 y2 p0 p1))
       obtain ⟨NN, hNN⟩ : ∃ NN : Nat, dist.length = NN := ⟨_, rfl⟩
       have HLEN := hU hNN
       have HNN : Hid ((NN : Int) = t.n) := hU (by have h1 := HSR.out.len; rw [hNN] at h1; have h2 : (sgFrom t (mask t [(k, m)]) (tail t (j : Int))).N = t.n.toNat := rfl; have := HN.out; omega)
       have hNN64 : NN ≤ 64 := by have := HNN.out; have := HN.out; omega
       have HIR := hU (fun (n : Int) (h0 : 0 ≤ n) (h1 : n < (NN : Int)) => (HSR.out.iff (sgFrom_ok HV.out (isN_true.2 (tail_bdO HV.out HJ.out.1 HJ.out.2))) h0 (by show n < ((t.n.toNat : Nat) : Int); have := HNN.out; omega)).trans rchFrom)
       rw [hNN]
       clear hNN
       go_wp2_with fail
       go_loopw [63] (fun i wr => ∃ (d : Nat) (f : Int × Int → Option Bool), d ≤ NN ∧ i = .int .i64 d ∧ Hid (CvW w A1 A2 c1 c2 t k m (some ⟨bm, om, none⟩) mb f wr) ∧ Hid (AsmF t (j : Int) (.func (.func 98) #[] #[p, q]) wr) ∧ Hid (Rd wr Al (dist.map (Value.int .i64))) ∧ Hid (∀ d' : Int, 0 ≤ d' → d' < (d : Int) → reach t (mask t [(k, m)]) (tail t (j : Int)) d' → yQ t k m (asmV t (j : Int) d').1 (asmV t (j : Int) d').2 = true)) (fun i _ => NN - (intOf i).toNat)
       case atStart => exact ⟨0, f, Nat.zero_le _, rfl, HW, HF, HD, hU (fun d' h0 h1 => by omega)⟩
       case round =>
        clear HW HF HD
        obtain ⟨d, f2, hd, rfl, HW, HF, HD, HPD⟩ := hrel
        by_cases hld : d < NN
        ·have hld' : (d : Int) < (NN : Int) := by omega
         obtain ⟨bl, ol, hAl, dl⟩ := dist_at HD.out HLEN.out (i := (d : Int)) (by omega) hld'
         rw [show ((d : Int)).toNat = d by omega] at dl
         have i9 := HIR.out (d : Int) (by omega) hld'
         have HIRd := hU i9
         clear i9
         subst hAl
         have HND : Hid ((reach t (mask t [(k, m)]) (tail t (j : Int)) (d : Int) → (yQ t k m (asmV t (j : Int) (d : Int)).1 (asmV t (j : Int) (d : Int)).2) = true) → Hid (∀ d' : Int, 0 ≤ d' → d' < ((d + 1 : Nat) : Int) → reach t (mask t [(k, m)]) (tail t (j : Int)) d' → yQ t k m (asmV t (j : Int) d').1 (asmV t (j : Int) d').2 = true)) := hU (fun h => hU (fun d' h0 h1 => by
          by_cases e : d' = (d : Int)
          ·subst e; exact h
          ·exact HPD.out d' h0 (by omega)))
         by_cases h0 : 0 ≤ dD dist (d : Int)
         ·have HRE := hU (HIRd.out.1 h0)
          have HCAL := hU (HF.out.call2 HV.out HJ.out.1 HJ.out.2 (d : Int) (isN_true.2 ⟨by omega, by have := HNN.out; omega⟩))
          have HBD := hU (asmV_bd (d := (d : Int)) HV.out HJ.out.1 HJ.out.2)
          have HKY : Hid (∃ l, Go.keyOf Tryz.prog 79 (enc2 (asmV t (j : Int) (d : Int))) = some l) := hU (keyOf_comp (asmV t (j : Int) (d : Int)) (by have := HBD.out; unfold inJ; omega) (by have := HBD.out; unfold inJ; omega))
          go_upto_region 17 with (go_at_call 98; (with_reducible refine HCAL.out.mono ?_); rintro e w6 ⟨rfl, hb⟩; replace HW := hU (HW.out.up hb); replace HF := hU (HF.out.up hb); replace HD := hU (HD.out.below hb); clear hb dl HCAL)
          refine kQ (fun Y => CvW w A1 A2 c1 c2 t k m (some ⟨bm, om, none⟩) mb f2 Y ∧ AsmF t (j : Int) (.func (.func 98) #[] #[p, q]) Y ∧ Rd Y (some ⟨bl, ol, none⟩) (dist.map (Value.int .i64)) ∧ Bl 79 w6.heap.size #[.int .i64 (asmV t (j : Int) (d : Int)).1, .int .i64 (asmV t (j : Int) (d : Int)).2] Y) ⟨HW.out.up (cQ _ _), HF.out.up (cQ _ _), HD.out.below (cQ _ _), Bl.new _ _ _⟩ ?_
          clear HW HF HD
          generalize w6.heap.size = cbk
          rintro Y2 ⟨h1, h2, h3, h4⟩
          have HW := hU h1
          have HF := hU h2
          have HD := hU h3
          have HCB := hU h4
          clear h1 h2 h3 h4
          have HLK := hU (HW.out.fm.look key_comp Tryz.underlying111 (zero_boolV _) (asmV t (j : Int) (d : Int)) HKY.out (enc2_inj _) true)
          obtain ⟨g0, g1, _⟩ := HCB.out.c2
          cases hfx : f2 (asmV t (j : Int) (d : Int)) with
          | none =>
           rw [hfx] at HLK
           have hlk := HLK.out
           simp only [enc2, if_true, Option.map_none, Option.getD_none, Option.isSome_none] at hlk
           clear HLK hfx
           go_upto_region 19 with fail
           clear hlk
           refine wp_region_mkT 6 covD (fun _ => none) (covV mb (.agg #[.int .i64 t.n, .slice A1 t.ov.length c1, .slice A2 t.ls.length c2]) k m (asmV t (j : Int) (d : Int)).1 (asmV t (j : Int) (d : Int)).2 (yQ t k m (asmV t (j : Int) (d : Int)).1 (asmV t (j : Int) (d : Int)).2)) (by kernel_rfl) (by kernel_rfl) (fun i j hi hj h => covD_inj i hi j hj h) (fun i hi => by have := covD_lt i hi; simp; omega) ?_ ?_
           ·intro L ac W xq i hi hst hr
            have HXW := hU ((HW.out.up (gQ _)).up hst.below)
            have HCW := hU ((HCB.out.up (gQ _)).up hst.below)
            obtain ⟨y0, y1, y2, _⟩ := HXW.out.tb.c3
            obtain ⟨p0, p1, _⟩ := HXW.out.cb.c2
            obtain ⟨g0, g1, _⟩ := HCW.out.c2
            match i, hi, hr with
            | 0, _, hr =>
             intro K hK
             have t7 : ac.tmps.getD 7 undef = .map (some mb) := (hst.old 7 (by decide +kernel)).trans rfl
             clear hst hr
             refine iQ _ rfl rfl ?_
             go_simp
             exact hK _ (Below.refl _ _)
            | 1, _, hr =>
             intro K hK
             have t16 : ac.tmps.getD 16 undef = .pointer (some ⟨cbk, 0, none⟩) := (hst.old 16 (by decide +kernel)).trans rfl
             clear hst hr
             refine iQ _ rfl rfl ?_
             go_simp
             exact hK _ (Below.refl _ _)
            | 2, _, hr =>
             intro K hK
             have t2 : ac.tmps.getD 2 undef = .pointer (some ⟨w.heap.size, 0, none⟩) := (hst.old 2 (by decide +kernel)).trans rfl
             clear hst hr
             refine iQ _ rfl rfl ?_
             go_simp
             exact hK _ (Below.refl _ _)
            | 3, _, hr =>
             intro K hK
             have t3 : ac.tmps.getD 3 undef = .pointer (some ⟨w.heap.size + 1, 0, none⟩) := (hst.old 3 (by decide +kernel)).trans rfl
             clear hst hr
             refine iQ _ rfl rfl ?_
             go_simp
             exact hK _ (Below.refl _ _)
            | 4, _, hr =>
             intro K hK
             have t16 : ac.tmps.getD 16 undef = .pointer (some ⟨cbk, 0, none⟩) := (hst.old 16 (by decide +kernel)).trans rfl
             clear hst hr
             refine iQ _ rfl rfl ?_
             go_simp
             exact hK _ (Below.refl _ _)
            | 5, _, hr =>
             intro K hK
             have t83 : ac.tmps.getD 83 undef = .agg #[.int .i64 t.n, .slice A1 t.ov.length c1, .slice A2 t.ls.length c2] := hst.val 2 (by omega) (rU hr 2)
             have t84 : ac.tmps.getD 84 undef = .agg #[.int .i64 k, .int .i64 m] := hst.val 3 (by omega) (rU hr 3)
             have t85 : ac.tmps.getD 85 undef = .agg #[.int .i64 (asmV t (j : Int) (d : Int)).1, .int .i64 (asmV t (j : Int) (d : Int)).2] := hst.val 4 (by omega) (rU hr 4)
             clear hst hr
             refine iQ _ rfl rfl ?_
             go_simp
             with_reducible refine (component_Within t A1 A2 c1 c2 k m (asmV t (j : Int) (d : Int)).1 (asmV t (j : Int) (d : Int)).2 _ (HT0.out.below HXW.out.hb) (by have := HL.out; omega)).mono ?_
             rintro e w9 ⟨rfl, hb⟩
             exact hK w9 hb
            | m + 6, hi, _ => exact absurd hi (by omega)
           ·intro W xs hbl hblk hinj
            simp only [cov_put, List.setIfInBounds_toArray, List.set_cons_zero, List.set_cons_succ]
            replace HW := hU ((HW.out.up (gQ _)).up hbl)
            replace HF := hU ((HF.out.up (gQ _)).up hbl)
            replace HD := hU ((HD.out.below (gQ _)).below hbl)
            replace HCB := hU ((HCB.out.up (gQ _)).up hbl)
            clear hbl hblk hinj g0 g1
            obtain ⟨w9, hu, hf9, hg9⟩ := HW.out.fm.put key_comp Tryz.underlying111 (asmV t (j : Int) (d : Int)) (yQ t k m (asmV t (j : Int) (d : Int)).1 (asmV t (j : Int) (d : Int)).2) HKY.out (enc2_inj _) (evB_inj _)
            simp only [enc2] at hu
            have HF9 := hU hf9
            have HG9 := hU hg9
            clear hf9 hg9
            go_upto_region 20 with fail
            clear hu
            obtain ⟨es, cl0, hmp⟩ := HW.out.fm.isMap
            replace HF := hU (HF.out.kpm (kp_of HG9.out) hmp)
            replace HD := hU (HD.out.kpm (kp_of HG9.out) hmp)
            replace HCB := hU (HCB.out.kpm (kp_of HG9.out) hmp)
            replace HW := hU (HW.out.put rfl HG9.out HF9.out)
            obtain ⟨f3, hf3⟩ : ∃ f3 : Int × Int → Option Bool, f3 = fun x => if x = (asmV t (j : Int) (d : Int)) then some (yQ t k m (asmV t (j : Int) (d : Int)).1 (asmV t (j : Int) (d : Int)).2) else f2 x := ⟨_, rfl⟩
            have HFX : Hid (f3 (asmV t (j : Int) (d : Int)) = some (yQ t k m (asmV t (j : Int) (d : Int)).1 (asmV t (j : Int) (d : Int)).2)) := hU (by rw [hf3]; simp)
            rw [← hf3] at HW
            clear HF9 HG9 hmp hf3
            have HLK2 := hU (HW.out.fm.look key_comp Tryz.underlying111 (zero_boolV _) (asmV t (j : Int) (d : Int)) HKY.out (enc2_inj _) false)
            rw [HFX.out] at HLK2
            cases hwi : (yQ t k m (asmV t (j : Int) (d : Int)).1 (asmV t (j : Int) (d : Int)).2) with
            | true =>
             rw [hwi] at HLK2
             have hlk := HLK2.out
             simp only [enc2, Bool.false_eq_true, if_false, Option.map_some, Option.getD_some] at hlk
             have HWI := hU hwi
             clear hwi HLK2
             obtain ⟨g0, g1, _⟩ := HCB.out.c2
             go_wp2_with fail
             clear hlk
             go_round
             case rel => exact ⟨d + 1, f3, by omega, by go_num, HW, HF, HD, HND.out (fun _ => HWI.out)⟩
             case measure => simp [intOf]; omega
            | false =>
             rw [hwi] at HLK2
             have hlk := HLK2.out
             simp only [enc2, Bool.false_eq_true, if_false, Option.map_some, Option.getD_some] at hlk
             have HNO : Hid (¬ covP t k m) := hU (fun h => by
              have := h.2 (j : Int) HJ.out.1 HJ.out.2 HPX.out HKT.out (d : Int) (by omega) (by have := HNN.out; omega) HRE.out
              rw [hwi] at this
              cases this)
             clear hwi HLK2
             obtain ⟨g0, g1, _⟩ := HCB.out.c2
             go_wp2_with fail
             go_ret
             exact .mk false rfl ⟨fun h => (by cases h), fun h => absurd h HNO.out⟩ HW.out.hb
          | some b9 =>
           rw [hfx] at HLK
           have hlk := HLK.out
           simp only [enc2, if_true, Option.map_some, Option.getD_some, Option.isSome_some] at hlk
           obtain rfl : b9 = (yQ t k m (asmV t (j : Int) (d : Int)).1 (asmV t (j : Int) (d : Int)).2) := HW.out.ok _ _ hfx
           have HFX := hU hfx
           clear HLK hfx
           go_upto_region 20 with fail
           clear hlk g0 g1
           have HLK2 := hU (HW.out.fm.look key_comp Tryz.underlying111 (zero_boolV _) (asmV t (j : Int) (d : Int)) HKY.out (enc2_inj _) false)
           rw [HFX.out] at HLK2
           cases hwi : (yQ t k m (asmV t (j : Int) (d : Int)).1 (asmV t (j : Int) (d : Int)).2) with
           | true =>
            rw [hwi] at HLK2
            have hlk := HLK2.out
            simp only [enc2, Bool.false_eq_true, if_false, Option.map_some, Option.getD_some] at hlk
            have HWI := hU hwi
            clear hwi HLK2
            obtain ⟨g0, g1, _⟩ := HCB.out.c2
            go_wp2_with fail
            clear hlk
            go_round
            case rel => exact ⟨d + 1, f2, by omega, by go_num, HW, HF, HD, HND.out (fun _ => HWI.out)⟩
            case measure => simp [intOf]; omega
           | false =>
            rw [hwi] at HLK2
            have hlk := HLK2.out
            simp only [enc2, Bool.false_eq_true, if_false, Option.map_some, Option.getD_some] at hlk
            have HNO : Hid (¬ covP t k m) := hU (fun h => by
             have := h.2 (j : Int) HJ.out.1 HJ.out.2 HPX.out HKT.out (d : Int) (by omega) (by have := HNN.out; omega) HRE.out
             rw [hwi] at this
             cases this)
            clear hwi HLK2
            obtain ⟨g0, g1, _⟩ := HCB.out.c2
            go_wp2_with fail
            go_ret
            exact .mk false rfl ⟨fun h => (by cases h), fun h => absurd h HNO.out⟩ HW.out.hb
         ·have HNR : Hid (¬ reach t (mask t [(k, m)]) (tail t (j : Int)) (d : Int)) := hU (fun h => h0 (HIRd.out.2 h))
          go_wp2_with fail
          go_round
          case rel => exact ⟨d + 1, f2, by omega, by go_num, HW, HF, HD, HND.out (fun h => absurd h HNR.out)⟩
          case measure => simp [intOf]; omega
        ·obtain rfl : d = NN := by omega
         have HCA : Hid (covA t k m (j : Int)) := hU (fun _ _ d' h0 h1 => HPD.out d' h0 (by have := HNN.out; omega))
         go_wp2_with fail
         go_round
         case rel => exact ⟨j + 1, f2, by omega, by go_num, HW, HNX.out HCA.out⟩
         case measure => simp [intOf]; omega
   ·obtain rfl : j = N := by omega
    have HYES : Hid (covP t k m) := hU ⟨HC.out, fun a h0 h1 => HPR.out a h0 (by have := HNL.out; omega)⟩
    go_wp2_with fail
    go_ret
    exact .mk true rfl ⟨fun _ => HYES.out, fun _ => rfl⟩ HW.out.hb
end
end
end Go.Proofs.YtdnjflpmbnjgeaaGreat
