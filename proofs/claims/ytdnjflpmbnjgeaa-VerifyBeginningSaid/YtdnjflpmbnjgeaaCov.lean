/-
  repair.Covered (printed by gen_cov.py).
-/
import Derived.Test.YtdnjflpmbnjgeaaCov0
import Derived.Test.YtdnjflpmbnjgeaaMkR
namespace Go.Proofs.Ytdnjflpmbnjgeaa
set_option linter.unusedSimpArgs false
set_option linter.unusedVariables false
open Go.RowKit Go.Sort
def covD : Nat → Nat
  | 0 => 81
  | 1 => 82
  | 2 => 83
  | 3 => 84
  | 4 => 85
  | 5 => 86
  | _ => 0
theorem covD_lt : ∀ i, i < 6 → covD i < 87 := by decide +kernel
theorem covD_inj : ∀ i, i < 6 → ∀ j, j < 6 → covD i = covD j → i = j := by decide +kernel
def covV (mb : Nat) (tv : Value) (k m k2 m2 : Int) (r : Bool) : Nat → Nat → Value
  | 0, _ => .map (some mb)
  | 1, _ => .agg #[.int .i64 k2, .int .i64 m2]
  | 2, _ => tv
  | 3, _ => .agg #[.int .i64 k, .int .i64 m]
  | 4, _ => .agg #[.int .i64 k2, .int .i64 m2]
  | 5, _ => .bool r
  | _, _ => undef
theorem cov_put (mb : Nat) (tv : Value) (k m k2 m2 : Int) (r : Bool) (xs : Nat → Nat) (T : Array Value) : putAll covD (fun i => covV mb tv k m k2 m2 r i (xs i)) 6 T = ((((((T.setIfInBounds 81 (.map (some mb))).setIfInBounds 82 (.agg #[.int .i64 k2, .int .i64 m2])).setIfInBounds 83 (tv)).setIfInBounds 84 (.agg #[.int .i64 k, .int .i64 m])).setIfInBounds 85 (.agg #[.int .i64 k2, .int .i64 m2])).setIfInBounds 86 (.bool r)) := rfl
section
variable {w : World} {A1 A2 : Option Addr} {t : Topo}
set_option maxRecDepth 100000 in
set_option maxHeartbeats 16000000 in
theorem repair_Covered (c1 c2 : Nat) (k m : Int) (hv : valid t = true) (hT : TAt w A1 A2 t) (hkm : inJ k ∧ inJ m) :
    Calls Try.prog 33 #[.agg #[.int .i64 t.n, .slice A1 t.ov.length c1, .slice A2 t.ls.length c2], .agg #[.int .i64 k, .int .i64 m]] w (RetBP w (covP t k m)) := by
  have hL := valid_ls hv
  have hN := valid_n hv
  have hb1 := below_box w (.cells #[.int .i64 t.n, .slice A1 t.ov.length c1, .slice A2 t.ls.length c2] 25)
  have hb2 := below_box (w.alloc (.cells #[.int .i64 t.n, .slice A1 t.ov.length c1, .slice A2 t.ls.length c2] 25)) (.cells #[.int .i64 k, .int .i64 m] 77)
  have n1 := (Bl.new w #[.int .i64 t.n, .slice A1 t.ov.length c1, .slice A2 t.ls.length c2] 25).up hb2
  have n2 := Bl.new (w.alloc (.cells #[.int .i64 t.n, .slice A1 t.ov.length c1, .slice A2 t.ls.length c2] 25)) #[.int .i64 k, .int .i64 m] 77
  simp only [World.size_alloc] at n2
  have HM := Lib.hid (component_Mask t A1 A2 c1 c2 k m _ (hT.below (below_next hb1 hb2)) (by omega))
  have HB0 := Lib.hid (below_next hb1 hb2)
  have HX1 := Lib.hid n1
  have HX2 := Lib.hid n2
  have HV := Lib.hid hv
  have HL := Lib.hid hL
  have HN := Lib.hid hN
  have HT0 := Lib.hid hT
  have HKM := Lib.hid hkm
  obtain ⟨y0, y1, y2, _⟩ := n1.c3
  obtain ⟨p0, p1, _⟩ := n2.c2
  clear hb1 hb2 n1 n2 hv hL hN hT hkm
  cases hc : compV t k m with
  | false =>
    have HU : Hid (unionV t [(k, m)] = ([], 1)) := Lib.hid (by
      have hc' : compOk t k m = false := by rw [compV, HV.out, Bool.true_and] at hc; exact hc
      simp [unionV, hc'])
    have HNO : Hid (¬ covP t k m) := Lib.hid (fun h => by rw [h.1] at hc; cases hc)
    clear hc
    go_enter Try.func33, Try.ntmps33
    go_wp2_with (go_at_call 31; (with_reducible refine HM.out.mono ?_); rintro e w2 ⟨A, c, rfl, hr, hb, hfr⟩; clear hfr; rw [HU.out]; have HBB := Lib.hid (below_next HB0.out hb); clear hr hb HM)
    go_ret
    exact .mk false rfl ⟨fun h => (by cases h), fun h => absurd h HNO.out⟩ HBB.out
  | true =>
    have HU : Hid (unionV t [(k, m)] = (mask t [(k, m)], 0)) := Lib.hid (by
      have hc' : compOk t k m = true := by rw [compV, HV.out, Bool.true_and] at hc; exact hc
      simp [unionV, HV.out, hc'])
    have HC := Lib.hid hc
    clear hc
    have HML := Lib.hid (mask_length t [(k, m)])
    have hmm := @run_makeMap Try.prog
    go_enter Try.func33, Try.ntmps33
    go_upto_region 4 with (go_at_call 31; (with_reducible refine HM.out.mono ?_); rintro e w2 ⟨A, c, rfl, hr, hb, hfr⟩; clear hfr; rw [HU.out] at hr ⊢; have HR := Lib.hid hr; have HBB := Lib.hid (below_next HB0.out hb); replace HX1 := Lib.hid (HX1.out.up hb); replace HX2 := Lib.hid (HX2.out.up hb); clear hr hb HM y0 y1 y2 p0 p1)
    obtain ⟨mb, hmb⟩ : ∃ mb, mb = w2.heap.size := ⟨_, rfl⟩
    have HMB := Lib.hid hmb
    go_upto_region 5 with fail
    rw [← hmb]
    clear hmb hmm
    have HW : Hid (CvW w A1 A2 c1 c2 t k m A mb (fun _ => none) (w2.alloc (.map #[] 0))) := Lib.hid (by
      have hx := below_box w2 (.map #[] 0)
      refine ⟨HX1.out.up hx, HX2.out.up hx, below_next HBB.out hx, HR.out.below hx, ?_, fun c b h => (by cases h), ?_⟩
      · rw [HMB.out]; exact FM.made _ _ _ _ _
      · rw [HMB.out]; exact HX2.out.lt)
    refine wp_named5 (CvW w A1 A2 c1 c2 t k m A mb (fun _ => none)) HW.out ?_
    clear HW HX1 HX2 HBB HR HMB
    rintro Y hY
    have HW := Lib.hid hY
    clear hY
    obtain ⟨N, hNL⟩ : ∃ N : Nat, N = 2 * t.ls.length := ⟨_, rfl⟩
    have HNL := Lib.hid hNL
    have HML2 : Hid ((mask t [(k, m)]).length = N) := Lib.hid (HML.out.trans hNL.symm)
    have hN5 : N ≤ 512 := by have := HL.out; omega
    clear hNL
    have e0 := HML2.out
    rw [e0]
    clear e0
    go_wp2_with fail
    go_loopw [30] (fun i wr => ∃ (j : Nat) (f : Int × Int → Option Bool), j ≤ N ∧ i = .int .i64 j ∧ Hid (CvW w A1 A2 c1 c2 t k m A mb f wr) ∧ Hid (∀ a : Int, 0 ≤ a → a < (j : Int) → covA t k m a)) (fun i _ => N - (intOf i).toNat)
    case atStart => exact ⟨0, _, Nat.zero_le _, rfl, HW, Lib.hid (fun a h0 h1 => by omega)⟩
    case round =>
      clear HW
      obtain ⟨j, f, hj, rfl, HW, HPR⟩ := hrel
      by_cases hlt : j < N
      · have hlt' : (j : Int) < (N : Int) := by omega
        obtain ⟨bm, om, hAm, dm⟩ := HW.out.rd.at_ (k := j) (u := .bool (part t k m ((j : Int) / 2))) (by rw [List.getElem?_map, mask_atN (by have := HNL.out; omega)]; rfl)
        have HNX : Hid (covA t k m (j : Int) → Hid (∀ a : Int, 0 ≤ a → a < ((j + 1 : Nat) : Int) → covA t k m a)) := Lib.hid (fun h => Lib.hid (fun a h0 h1 => by
          by_cases e : a = (j : Int)
          · subst e; exact h
          · exact HPR.out a h0 (by omega)))
        have HJ : Hid (0 ≤ (j : Int) ∧ (j : Int) < 2 * (t.ls.length : Int)) := Lib.hid ⟨by omega, by have := HNL.out; omega⟩
        obtain ⟨y0, y1, y2, _⟩ := HW.out.tb.c3
        obtain ⟨p0, p1, _⟩ := HW.out.cb.c2
        have HAM := Lib.hid hAm
        subst hAm
        cases hx : part t k m ((j : Int) / 2) with
        | false =>
          have HCA : Hid (covA t k m (j : Int)) := Lib.hid (covA_no hx)
          rw [hx] at dm
          clear hx
          go_wp2_with (go_at_call 38; (with_reducible refine (graph_Tail _ _ _ _ t (j : Int) _ (HT0.out.below HW.out.hb).ls HJ.out.1 HJ.out.2 (by have := HL.out; omega)).mono ?_); rintro e w3 ⟨rfl, hb⟩; replace HW := Lib.hid (HW.out.up hb); clear hb y0 y1 y2 p0 p1 dm; obtain ⟨y0, y1, y2, _⟩ := HW.out.tb.c3; obtain ⟨p0, p1, _⟩ := HW.out.cb.c2)
          go_round
          case rel => exact ⟨j + 1, f, by omega, by go_num, HW, HNX.out HCA.out⟩
          case measure => simp [intOf]; omega
        | true =>
          rw [hx] at dm
          have HPX := Lib.hid hx
          clear hx
          by_cases hkt : k = 2 ∧ m = tail t (j : Int)
          · have HCA : Hid (covA t k m (j : Int)) := Lib.hid (fun _ h => absurd hkt h)
            have q1 : (k == 2) = true := by simp [hkt.1]
            have q2 : (m == tail t (j : Int)) = true := by rw [beq_iff_eq]; exact hkt.2
            clear hkt
            go_wp2_with (go_at_call 38; (with_reducible refine (graph_Tail _ _ _ _ t (j : Int) _ (HT0.out.below HW.out.hb).ls HJ.out.1 HJ.out.2 (by have := HL.out; omega)).mono ?_); rintro e w3 ⟨rfl, hb⟩; replace HW := Lib.hid (HW.out.up hb); clear hb y0 y1 y2 p0 p1 dm; obtain ⟨y0, y1, y2, _⟩ := HW.out.tb.c3; obtain ⟨p0, p1, _⟩ := HW.out.cb.c2)
            go_round
            case rel => exact ⟨j + 1, f, by omega, by go_num, HW, HNX.out HCA.out⟩
            case measure => simp [intOf]; omega
          · have HKT := Lib.hid hkt
            have HQ : Hid (((k == 2) && (m == tail t (j : Int))) = false) := Lib.hid (by
              cases h1 : (k == 2) <;> cases h2 : (m == tail t (j : Int)) <;> simp_all)
            cases q1 : (k == 2) with
            | false =>
              clear hkt
              go_upto_region 10 with (go_at_call 38; (with_reducible refine (graph_Tail _ _ _ _ t (j : Int) _ (HT0.out.below HW.out.hb).ls HJ.out.1 HJ.out.2 (by have := HL.out; omega)).mono ?_); rintro e w3 ⟨rfl, hb⟩; replace HW := Lib.hid (HW.out.up hb); clear hb y0 y1 y2 p0 p1 dm; obtain ⟨y0, y1, y2, _⟩ := HW.out.tb.c3; obtain ⟨p0, p1, _⟩ := HW.out.cb.c2)
              have HFR := Lib.hid (spf_From (w := w3) (D := some ⟨bm, om, none⟩) (dn := mask t [(k, m)]) c1 c2 c (tail t (j : Int)) HV.out (isN_true.2 (tail_bdO HV.out HJ.out.1 HJ.out.2)) (HT0.out.below HW.out.hb) HW.out.rd (.inr HML.out))
              rw [HML2.out] at HFR
              go_upto_region 12 with (first | (go_at_call 49; (with_reducible refine HFR.out.mono ?_); rintro e w4 ⟨Al, cl, dist, rfl, hd, hs, hb⟩; have HD := Lib.hid hd; have HSR := Lib.hid hs; replace HW := Lib.hid (HW.out.up hb); clear hd hs hb y0 y1 y2 p0 p1 HFR; obtain ⟨y0, y1, y2, _⟩ := HW.out.tb.c3; obtain ⟨p0, p1, _⟩ := HW.out.cb.c2) | (go_at_call 50; (with_reducible refine (repair_assume c1 c2 (j : Int) HV.out (HT0.out.below HW.out.hb) HJ.out.1 HJ.out.2).mono ?_); rintro e w5 ⟨fv, rfl, hF, hb⟩; obtain ⟨p, q, rfl⟩ := hF.form; have HF := Lib.hid hF; replace HW := Lib.hid (HW.out.up hb); replace HD := Lib.hid (HD.out.below hb); clear hF hb y0 y1 y2 p0 p1))
              obtain ⟨NN, hNN⟩ : ∃ NN : Nat, dist.length = NN := ⟨_, rfl⟩
              have HLEN := Lib.hid hNN
              have HNN : Hid ((NN : Int) = t.n) := Lib.hid (by have h1 := HSR.out.len; rw [hNN] at h1; have h2 : (sgFrom t (mask t [(k, m)]) (tail t (j : Int))).N = t.n.toNat := rfl; have := HN.out; omega)
              have hNN64 : NN ≤ 64 := by have := HNN.out; have := HN.out; omega
              have HIR := Lib.hid (fun (n : Int) (h0 : 0 ≤ n) (h1 : n < (NN : Int)) => (HSR.out.iff (sgFrom_ok HV.out (isN_true.2 (tail_bdO HV.out HJ.out.1 HJ.out.2))) h0 (by show n < ((t.n.toNat : Nat) : Int); have := HNN.out; omega)).trans rchFrom)
              rw [hNN]
              clear hNN
              go_wp2_with fail
              go_loopw [63] (fun i wr => ∃ (d : Nat) (f : Int × Int → Option Bool), d ≤ NN ∧ i = .int .i64 d ∧ Hid (CvW w A1 A2 c1 c2 t k m (some ⟨bm, om, none⟩) mb f wr) ∧ Hid (AsmF t (j : Int) (.func (.func 70) #[] #[p, q]) wr) ∧ Hid (Rd wr Al (dist.map (Value.int .i64))) ∧ Hid (∀ d' : Int, 0 ≤ d' → d' < (d : Int) → reach t (mask t [(k, m)]) (tail t (j : Int)) d' → withinV t k m (asmV t (j : Int) d').1 (asmV t (j : Int) d').2 = true)) (fun i _ => NN - (intOf i).toNat)
              case atStart => exact ⟨0, f, Nat.zero_le _, rfl, HW, HF, HD, Lib.hid (fun d' h0 h1 => by omega)⟩
              case round =>
                clear HW HF HD
                obtain ⟨d, f2, hd, rfl, HW, HF, HD, HPD⟩ := hrel
                by_cases hld : d < NN
                · have hld' : (d : Int) < (NN : Int) := by omega
                  obtain ⟨bl, ol, hAl, dl⟩ := dist_at HD.out HLEN.out (i := (d : Int)) (by omega) hld'
                  rw [show ((d : Int)).toNat = d by omega] at dl
                  have i9 := HIR.out (d : Int) (by omega) hld'
                  have HIRd := Lib.hid i9
                  clear i9
                  subst hAl
                  have HND : Hid ((reach t (mask t [(k, m)]) (tail t (j : Int)) (d : Int) → (withinV t k m (asmV t (j : Int) (d : Int)).1 (asmV t (j : Int) (d : Int)).2) = true) → Hid (∀ d' : Int, 0 ≤ d' → d' < ((d + 1 : Nat) : Int) → reach t (mask t [(k, m)]) (tail t (j : Int)) d' → withinV t k m (asmV t (j : Int) d').1 (asmV t (j : Int) d').2 = true)) := Lib.hid (fun h => Lib.hid (fun d' h0 h1 => by
                    by_cases e : d' = (d : Int)
                    · subst e; exact h
                    · exact HPD.out d' h0 (by omega)))
                  by_cases h0 : 0 ≤ dD dist (d : Int)
                  · have HRE := Lib.hid (HIRd.out.1 h0)
                    have HCAL := Lib.hid (HF.out.call2 HV.out HJ.out.1 HJ.out.2 (d : Int) (isN_true.2 ⟨by omega, by have := HNN.out; omega⟩))
                    have HBD := Lib.hid (asmV_bd (d := (d : Int)) HV.out HJ.out.1 HJ.out.2)
                    have HKY : Hid (∃ l, Go.keyOf Try.prog 77 (enc2 (asmV t (j : Int) (d : Int))) = some l) := Lib.hid (keyOf_comp (asmV t (j : Int) (d : Int)) (by have := HBD.out; unfold inJ; omega) (by have := HBD.out; unfold inJ; omega))
                    go_upto_region 17 with (go_at_call 70; (with_reducible refine HCAL.out.mono ?_); rintro e w6 ⟨rfl, hb⟩; replace HW := Lib.hid (HW.out.up hb); replace HF := Lib.hid (HF.out.up hb); replace HD := Lib.hid (HD.out.below hb); clear hb dl HCAL)
                    refine wp_named5 (fun Y => CvW w A1 A2 c1 c2 t k m (some ⟨bm, om, none⟩) mb f2 Y ∧ AsmF t (j : Int) (.func (.func 70) #[] #[p, q]) Y ∧ Rd Y (some ⟨bl, ol, none⟩) (dist.map (Value.int .i64)) ∧ Bl 77 w6.heap.size #[.int .i64 (asmV t (j : Int) (d : Int)).1, .int .i64 (asmV t (j : Int) (d : Int)).2] Y) ⟨HW.out.up (below_box _ _), HF.out.up (below_box _ _), HD.out.below (below_box _ _), Bl.new _ _ _⟩ ?_
                    clear HW HF HD
                    generalize w6.heap.size = cbk
                    rintro Y2 ⟨h1, h2, h3, h4⟩
                    have HW := Lib.hid h1
                    have HF := Lib.hid h2
                    have HD := Lib.hid h3
                    have HCB := Lib.hid h4
                    clear h1 h2 h3 h4
                    have HLK := Lib.hid (HW.out.fm.look key_comp Try.underlying106 (zero_boolV _) (asmV t (j : Int) (d : Int)) HKY.out (enc2_inj _) true)
                    obtain ⟨g0, g1, _⟩ := HCB.out.c2
                    cases hfx : f2 (asmV t (j : Int) (d : Int)) with
                    | none =>
                      rw [hfx] at HLK
                      have hlk := HLK.out
                      simp only [enc2, if_true, Option.map_none, Option.getD_none, Option.isSome_none] at hlk
                      clear HLK hfx
                      go_upto_region 19 with fail
                      clear hlk
                      refine wp_region_mkT 6 covD (fun _ => none) (covV mb (.agg #[.int .i64 t.n, .slice A1 t.ov.length c1, .slice A2 t.ls.length c2]) k m (asmV t (j : Int) (d : Int)).1 (asmV t (j : Int) (d : Int)).2 (withinV t k m (asmV t (j : Int) (d : Int)).1 (asmV t (j : Int) (d : Int)).2)) (by kernel_rfl) (by kernel_rfl) (fun i j hi hj h => covD_inj i hi j hj h) (fun i hi => by have := covD_lt i hi; simp; omega) ?_ ?_
                      · intro L ac W xq i hi hst hr
                        have HXW := Lib.hid ((HW.out.up (below_drwV _)).up hst.below)
                        have HCW := Lib.hid ((HCB.out.up (below_drwV _)).up hst.below)
                        obtain ⟨y0, y1, y2, _⟩ := HXW.out.tb.c3
                        obtain ⟨p0, p1, _⟩ := HXW.out.cb.c2
                        obtain ⟨g0, g1, _⟩ := HCW.out.c2
                        match i, hi, hr with
                        | 0, _, hr =>
                          intro K hK
                          have t7 : ac.tmps.getD 7 undef = .map (some mb) := (hst.old 7 (by decide +kernel)).trans rfl
                          clear hst hr
                          refine wpOp_at _ rfl rfl ?_
                          go_simp
                          exact hK _ (Below.refl _ _)
                        | 1, _, hr =>
                          intro K hK
                          have t16 : ac.tmps.getD 16 undef = .pointer (some ⟨cbk, 0, none⟩) := (hst.old 16 (by decide +kernel)).trans rfl
                          clear hst hr
                          refine wpOp_at _ rfl rfl ?_
                          go_simp
                          exact hK _ (Below.refl _ _)
                        | 2, _, hr =>
                          intro K hK
                          have t2 : ac.tmps.getD 2 undef = .pointer (some ⟨w.heap.size, 0, none⟩) := (hst.old 2 (by decide +kernel)).trans rfl
                          clear hst hr
                          refine wpOp_at _ rfl rfl ?_
                          go_simp
                          exact hK _ (Below.refl _ _)
                        | 3, _, hr =>
                          intro K hK
                          have t3 : ac.tmps.getD 3 undef = .pointer (some ⟨w.heap.size + 1, 0, none⟩) := (hst.old 3 (by decide +kernel)).trans rfl
                          clear hst hr
                          refine wpOp_at _ rfl rfl ?_
                          go_simp
                          exact hK _ (Below.refl _ _)
                        | 4, _, hr =>
                          intro K hK
                          have t16 : ac.tmps.getD 16 undef = .pointer (some ⟨cbk, 0, none⟩) := (hst.old 16 (by decide +kernel)).trans rfl
                          clear hst hr
                          refine wpOp_at _ rfl rfl ?_
                          go_simp
                          exact hK _ (Below.refl _ _)
                        | 5, _, hr =>
                          intro K hK
                          have t83 : ac.tmps.getD 83 undef = .agg #[.int .i64 t.n, .slice A1 t.ov.length c1, .slice A2 t.ls.length c2] := hst.val 2 (by omega) (ready_dep hr (e := ⟨2, .data⟩) rfl (by simp) rfl)
                          have t84 : ac.tmps.getD 84 undef = .agg #[.int .i64 k, .int .i64 m] := hst.val 3 (by omega) (ready_dep hr (e := ⟨3, .data⟩) rfl (by simp) rfl)
                          have t85 : ac.tmps.getD 85 undef = .agg #[.int .i64 (asmV t (j : Int) (d : Int)).1, .int .i64 (asmV t (j : Int) (d : Int)).2] := hst.val 4 (by omega) (ready_dep hr (e := ⟨4, .data⟩) rfl (by simp) rfl)
                          clear hst hr
                          refine wpOp_at _ rfl rfl ?_
                          go_simp
                          with_reducible refine (component_Within t A1 A2 c1 c2 k m (asmV t (j : Int) (d : Int)).1 (asmV t (j : Int) (d : Int)).2 _ (HT0.out.below HXW.out.hb) (by have := HL.out; omega)).mono ?_
                          rintro e w9 ⟨rfl, hb⟩
                          exact hK w9 hb
                        | m + 6, hi, _ => exact absurd hi (by omega)
                      · intro W xs hbl hblk hinj
                        simp only [cov_put, List.setIfInBounds_toArray, List.set_cons_zero, List.set_cons_succ]
                        replace HW := Lib.hid ((HW.out.up (below_drwV _)).up hbl)
                        replace HF := Lib.hid ((HF.out.up (below_drwV _)).up hbl)
                        replace HD := Lib.hid ((HD.out.below (below_drwV _)).below hbl)
                        replace HCB := Lib.hid ((HCB.out.up (below_drwV _)).up hbl)
                        clear hbl hblk hinj g0 g1
                        obtain ⟨w9, hu, hf9, hg9⟩ := HW.out.fm.put key_comp Try.underlying106 (asmV t (j : Int) (d : Int)) (withinV t k m (asmV t (j : Int) (d : Int)).1 (asmV t (j : Int) (d : Int)).2) HKY.out (enc2_inj _) (evB_inj _)
                        simp only [enc2] at hu
                        have HF9 := Lib.hid hf9
                        have HG9 := Lib.hid hg9
                        clear hf9 hg9
                        go_upto_region 20 with fail
                        clear hu
                        obtain ⟨es, cl0, hmp⟩ := HW.out.fm.isMap
                        replace HF := Lib.hid (HF.out.kpm (kp_of HG9.out) hmp)
                        replace HD := Lib.hid (HD.out.kpm (kp_of HG9.out) hmp)
                        replace HCB := Lib.hid (HCB.out.kpm (kp_of HG9.out) hmp)
                        replace HW := Lib.hid (HW.out.put rfl HG9.out HF9.out)
                        obtain ⟨f3, hf3⟩ : ∃ f3 : Int × Int → Option Bool, f3 = fun x => if x = (asmV t (j : Int) (d : Int)) then some (withinV t k m (asmV t (j : Int) (d : Int)).1 (asmV t (j : Int) (d : Int)).2) else f2 x := ⟨_, rfl⟩
                        have HFX : Hid (f3 (asmV t (j : Int) (d : Int)) = some (withinV t k m (asmV t (j : Int) (d : Int)).1 (asmV t (j : Int) (d : Int)).2)) := Lib.hid (by rw [hf3]; simp)
                        rw [← hf3] at HW
                        clear HF9 HG9 hmp hf3
                        have HLK2 := Lib.hid (HW.out.fm.look key_comp Try.underlying106 (zero_boolV _) (asmV t (j : Int) (d : Int)) HKY.out (enc2_inj _) false)
                        rw [HFX.out] at HLK2
                        cases hwi : (withinV t k m (asmV t (j : Int) (d : Int)).1 (asmV t (j : Int) (d : Int)).2) with
                        | true =>
                          rw [hwi] at HLK2
                          have hlk := HLK2.out
                          simp only [enc2, Bool.false_eq_true, if_false, Option.map_some, Option.getD_some] at hlk
                          have HWI := Lib.hid hwi
                          clear hwi HLK2
                          obtain ⟨g0, g1, _⟩ := HCB.out.c2
                          go_wp2_with fail
                          clear hlk
                          go_round
                          case rel => exact ⟨d + 1, f3, by omega, by go_num, HW, HF, HD, HND.out (fun _ => HWI.out)⟩
                          case measure => simp [intOf]; omega
                        | false =>
                          rw [hwi] at HLK2
                          have hlk := HLK2.out
                          simp only [enc2, Bool.false_eq_true, if_false, Option.map_some, Option.getD_some] at hlk
                          have HNO : Hid (¬ covP t k m) := Lib.hid (fun h => by
                            have := h.2 (j : Int) HJ.out.1 HJ.out.2 HPX.out HKT.out (d : Int) (by omega) (by have := HNN.out; omega) HRE.out
                            rw [hwi] at this
                            cases this)
                          clear hwi HLK2
                          obtain ⟨g0, g1, _⟩ := HCB.out.c2
                          go_wp2_with fail
                          go_ret
                          exact .mk false rfl ⟨fun h => (by cases h), fun h => absurd h HNO.out⟩ HW.out.hb
                    | some b9 =>
                      rw [hfx] at HLK
                      have hlk := HLK.out
                      simp only [enc2, if_true, Option.map_some, Option.getD_some, Option.isSome_some] at hlk
                      obtain rfl : b9 = (withinV t k m (asmV t (j : Int) (d : Int)).1 (asmV t (j : Int) (d : Int)).2) := HW.out.ok _ _ hfx
                      have HFX := Lib.hid hfx
                      clear HLK hfx
                      go_upto_region 20 with fail
                      clear hlk g0 g1
                      have HLK2 := Lib.hid (HW.out.fm.look key_comp Try.underlying106 (zero_boolV _) (asmV t (j : Int) (d : Int)) HKY.out (enc2_inj _) false)
                      rw [HFX.out] at HLK2
                      cases hwi : (withinV t k m (asmV t (j : Int) (d : Int)).1 (asmV t (j : Int) (d : Int)).2) with
                      | true =>
                        rw [hwi] at HLK2
                        have hlk := HLK2.out
                        simp only [enc2, Bool.false_eq_true, if_false, Option.map_some, Option.getD_some] at hlk
                        have HWI := Lib.hid hwi
                        clear hwi HLK2
                        obtain ⟨g0, g1, _⟩ := HCB.out.c2
                        go_wp2_with fail
                        clear hlk
                        go_round
                        case rel => exact ⟨d + 1, f2, by omega, by go_num, HW, HF, HD, HND.out (fun _ => HWI.out)⟩
                        case measure => simp [intOf]; omega
                      | false =>
                        rw [hwi] at HLK2
                        have hlk := HLK2.out
                        simp only [enc2, Bool.false_eq_true, if_false, Option.map_some, Option.getD_some] at hlk
                        have HNO : Hid (¬ covP t k m) := Lib.hid (fun h => by
                          have := h.2 (j : Int) HJ.out.1 HJ.out.2 HPX.out HKT.out (d : Int) (by omega) (by have := HNN.out; omega) HRE.out
                          rw [hwi] at this
                          cases this)
                        clear hwi HLK2
                        obtain ⟨g0, g1, _⟩ := HCB.out.c2
                        go_wp2_with fail
                        go_ret
                        exact .mk false rfl ⟨fun h => (by cases h), fun h => absurd h HNO.out⟩ HW.out.hb
                  · have HNR : Hid (¬ reach t (mask t [(k, m)]) (tail t (j : Int)) (d : Int)) := Lib.hid (fun h => h0 (HIRd.out.2 h))
                    go_wp2_with fail
                    go_round
                    case rel => exact ⟨d + 1, f2, by omega, by go_num, HW, HF, HD, HND.out (fun h => absurd h HNR.out)⟩
                    case measure => simp [intOf]; omega
                · obtain rfl : d = NN := by omega
                  have HCA : Hid (covA t k m (j : Int)) := Lib.hid (fun _ _ d' h0 h1 => HPD.out d' h0 (by have := HNN.out; omega))
                  go_wp2_with fail
                  go_round
                  case rel => exact ⟨j + 1, f2, by omega, by go_num, HW, HNX.out HCA.out⟩
                  case measure => simp [intOf]; omega
            | true =>
              have q2 : (m == tail t (j : Int)) = false := by have := HQ.out; rw [q1, Bool.true_and] at this; exact this
              clear hkt
              go_upto_region 10 with (go_at_call 38; (with_reducible refine (graph_Tail _ _ _ _ t (j : Int) _ (HT0.out.below HW.out.hb).ls HJ.out.1 HJ.out.2 (by have := HL.out; omega)).mono ?_); rintro e w3 ⟨rfl, hb⟩; replace HW := Lib.hid (HW.out.up hb); clear hb y0 y1 y2 p0 p1 dm; obtain ⟨y0, y1, y2, _⟩ := HW.out.tb.c3; obtain ⟨p0, p1, _⟩ := HW.out.cb.c2)
              have HFR := Lib.hid (spf_From (w := w3) (D := some ⟨bm, om, none⟩) (dn := mask t [(k, m)]) c1 c2 c (tail t (j : Int)) HV.out (isN_true.2 (tail_bdO HV.out HJ.out.1 HJ.out.2)) (HT0.out.below HW.out.hb) HW.out.rd (.inr HML.out))
              rw [HML2.out] at HFR
              go_upto_region 12 with (first | (go_at_call 49; (with_reducible refine HFR.out.mono ?_); rintro e w4 ⟨Al, cl, dist, rfl, hd, hs, hb⟩; have HD := Lib.hid hd; have HSR := Lib.hid hs; replace HW := Lib.hid (HW.out.up hb); clear hd hs hb y0 y1 y2 p0 p1 HFR; obtain ⟨y0, y1, y2, _⟩ := HW.out.tb.c3; obtain ⟨p0, p1, _⟩ := HW.out.cb.c2) | (go_at_call 50; (with_reducible refine (repair_assume c1 c2 (j : Int) HV.out (HT0.out.below HW.out.hb) HJ.out.1 HJ.out.2).mono ?_); rintro e w5 ⟨fv, rfl, hF, hb⟩; obtain ⟨p, q, rfl⟩ := hF.form; have HF := Lib.hid hF; replace HW := Lib.hid (HW.out.up hb); replace HD := Lib.hid (HD.out.below hb); clear hF hb y0 y1 y2 p0 p1))
              obtain ⟨NN, hNN⟩ : ∃ NN : Nat, dist.length = NN := ⟨_, rfl⟩
              have HLEN := Lib.hid hNN
              have HNN : Hid ((NN : Int) = t.n) := Lib.hid (by have h1 := HSR.out.len; rw [hNN] at h1; have h2 : (sgFrom t (mask t [(k, m)]) (tail t (j : Int))).N = t.n.toNat := rfl; have := HN.out; omega)
              have hNN64 : NN ≤ 64 := by have := HNN.out; have := HN.out; omega
              have HIR := Lib.hid (fun (n : Int) (h0 : 0 ≤ n) (h1 : n < (NN : Int)) => (HSR.out.iff (sgFrom_ok HV.out (isN_true.2 (tail_bdO HV.out HJ.out.1 HJ.out.2))) h0 (by show n < ((t.n.toNat : Nat) : Int); have := HNN.out; omega)).trans rchFrom)
              rw [hNN]
              clear hNN
              go_wp2_with fail
              go_loopw [63] (fun i wr => ∃ (d : Nat) (f : Int × Int → Option Bool), d ≤ NN ∧ i = .int .i64 d ∧ Hid (CvW w A1 A2 c1 c2 t k m (some ⟨bm, om, none⟩) mb f wr) ∧ Hid (AsmF t (j : Int) (.func (.func 70) #[] #[p, q]) wr) ∧ Hid (Rd wr Al (dist.map (Value.int .i64))) ∧ Hid (∀ d' : Int, 0 ≤ d' → d' < (d : Int) → reach t (mask t [(k, m)]) (tail t (j : Int)) d' → withinV t k m (asmV t (j : Int) d').1 (asmV t (j : Int) d').2 = true)) (fun i _ => NN - (intOf i).toNat)
              case atStart => exact ⟨0, f, Nat.zero_le _, rfl, HW, HF, HD, Lib.hid (fun d' h0 h1 => by omega)⟩
              case round =>
                clear HW HF HD
                obtain ⟨d, f2, hd, rfl, HW, HF, HD, HPD⟩ := hrel
                by_cases hld : d < NN
                · have hld' : (d : Int) < (NN : Int) := by omega
                  obtain ⟨bl, ol, hAl, dl⟩ := dist_at HD.out HLEN.out (i := (d : Int)) (by omega) hld'
                  rw [show ((d : Int)).toNat = d by omega] at dl
                  have i9 := HIR.out (d : Int) (by omega) hld'
                  have HIRd := Lib.hid i9
                  clear i9
                  subst hAl
                  have HND : Hid ((reach t (mask t [(k, m)]) (tail t (j : Int)) (d : Int) → (withinV t k m (asmV t (j : Int) (d : Int)).1 (asmV t (j : Int) (d : Int)).2) = true) → Hid (∀ d' : Int, 0 ≤ d' → d' < ((d + 1 : Nat) : Int) → reach t (mask t [(k, m)]) (tail t (j : Int)) d' → withinV t k m (asmV t (j : Int) d').1 (asmV t (j : Int) d').2 = true)) := Lib.hid (fun h => Lib.hid (fun d' h0 h1 => by
                    by_cases e : d' = (d : Int)
                    · subst e; exact h
                    · exact HPD.out d' h0 (by omega)))
                  by_cases h0 : 0 ≤ dD dist (d : Int)
                  · have HRE := Lib.hid (HIRd.out.1 h0)
                    have HCAL := Lib.hid (HF.out.call2 HV.out HJ.out.1 HJ.out.2 (d : Int) (isN_true.2 ⟨by omega, by have := HNN.out; omega⟩))
                    have HBD := Lib.hid (asmV_bd (d := (d : Int)) HV.out HJ.out.1 HJ.out.2)
                    have HKY : Hid (∃ l, Go.keyOf Try.prog 77 (enc2 (asmV t (j : Int) (d : Int))) = some l) := Lib.hid (keyOf_comp (asmV t (j : Int) (d : Int)) (by have := HBD.out; unfold inJ; omega) (by have := HBD.out; unfold inJ; omega))
                    go_upto_region 17 with (go_at_call 70; (with_reducible refine HCAL.out.mono ?_); rintro e w6 ⟨rfl, hb⟩; replace HW := Lib.hid (HW.out.up hb); replace HF := Lib.hid (HF.out.up hb); replace HD := Lib.hid (HD.out.below hb); clear hb dl HCAL)
                    refine wp_named5 (fun Y => CvW w A1 A2 c1 c2 t k m (some ⟨bm, om, none⟩) mb f2 Y ∧ AsmF t (j : Int) (.func (.func 70) #[] #[p, q]) Y ∧ Rd Y (some ⟨bl, ol, none⟩) (dist.map (Value.int .i64)) ∧ Bl 77 w6.heap.size #[.int .i64 (asmV t (j : Int) (d : Int)).1, .int .i64 (asmV t (j : Int) (d : Int)).2] Y) ⟨HW.out.up (below_box _ _), HF.out.up (below_box _ _), HD.out.below (below_box _ _), Bl.new _ _ _⟩ ?_
                    clear HW HF HD
                    generalize w6.heap.size = cbk
                    rintro Y2 ⟨h1, h2, h3, h4⟩
                    have HW := Lib.hid h1
                    have HF := Lib.hid h2
                    have HD := Lib.hid h3
                    have HCB := Lib.hid h4
                    clear h1 h2 h3 h4
                    have HLK := Lib.hid (HW.out.fm.look key_comp Try.underlying106 (zero_boolV _) (asmV t (j : Int) (d : Int)) HKY.out (enc2_inj _) true)
                    obtain ⟨g0, g1, _⟩ := HCB.out.c2
                    cases hfx : f2 (asmV t (j : Int) (d : Int)) with
                    | none =>
                      rw [hfx] at HLK
                      have hlk := HLK.out
                      simp only [enc2, if_true, Option.map_none, Option.getD_none, Option.isSome_none] at hlk
                      clear HLK hfx
                      go_upto_region 19 with fail
                      clear hlk
                      refine wp_region_mkT 6 covD (fun _ => none) (covV mb (.agg #[.int .i64 t.n, .slice A1 t.ov.length c1, .slice A2 t.ls.length c2]) k m (asmV t (j : Int) (d : Int)).1 (asmV t (j : Int) (d : Int)).2 (withinV t k m (asmV t (j : Int) (d : Int)).1 (asmV t (j : Int) (d : Int)).2)) (by kernel_rfl) (by kernel_rfl) (fun i j hi hj h => covD_inj i hi j hj h) (fun i hi => by have := covD_lt i hi; simp; omega) ?_ ?_
                      · intro L ac W xq i hi hst hr
                        have HXW := Lib.hid ((HW.out.up (below_drwV _)).up hst.below)
                        have HCW := Lib.hid ((HCB.out.up (below_drwV _)).up hst.below)
                        obtain ⟨y0, y1, y2, _⟩ := HXW.out.tb.c3
                        obtain ⟨p0, p1, _⟩ := HXW.out.cb.c2
                        obtain ⟨g0, g1, _⟩ := HCW.out.c2
                        match i, hi, hr with
                        | 0, _, hr =>
                          intro K hK
                          have t7 : ac.tmps.getD 7 undef = .map (some mb) := (hst.old 7 (by decide +kernel)).trans rfl
                          clear hst hr
                          refine wpOp_at _ rfl rfl ?_
                          go_simp
                          exact hK _ (Below.refl _ _)
                        | 1, _, hr =>
                          intro K hK
                          have t16 : ac.tmps.getD 16 undef = .pointer (some ⟨cbk, 0, none⟩) := (hst.old 16 (by decide +kernel)).trans rfl
                          clear hst hr
                          refine wpOp_at _ rfl rfl ?_
                          go_simp
                          exact hK _ (Below.refl _ _)
                        | 2, _, hr =>
                          intro K hK
                          have t2 : ac.tmps.getD 2 undef = .pointer (some ⟨w.heap.size, 0, none⟩) := (hst.old 2 (by decide +kernel)).trans rfl
                          clear hst hr
                          refine wpOp_at _ rfl rfl ?_
                          go_simp
                          exact hK _ (Below.refl _ _)
                        | 3, _, hr =>
                          intro K hK
                          have t3 : ac.tmps.getD 3 undef = .pointer (some ⟨w.heap.size + 1, 0, none⟩) := (hst.old 3 (by decide +kernel)).trans rfl
                          clear hst hr
                          refine wpOp_at _ rfl rfl ?_
                          go_simp
                          exact hK _ (Below.refl _ _)
                        | 4, _, hr =>
                          intro K hK
                          have t16 : ac.tmps.getD 16 undef = .pointer (some ⟨cbk, 0, none⟩) := (hst.old 16 (by decide +kernel)).trans rfl
                          clear hst hr
                          refine wpOp_at _ rfl rfl ?_
                          go_simp
                          exact hK _ (Below.refl _ _)
                        | 5, _, hr =>
                          intro K hK
                          have t83 : ac.tmps.getD 83 undef = .agg #[.int .i64 t.n, .slice A1 t.ov.length c1, .slice A2 t.ls.length c2] := hst.val 2 (by omega) (ready_dep hr (e := ⟨2, .data⟩) rfl (by simp) rfl)
                          have t84 : ac.tmps.getD 84 undef = .agg #[.int .i64 k, .int .i64 m] := hst.val 3 (by omega) (ready_dep hr (e := ⟨3, .data⟩) rfl (by simp) rfl)
                          have t85 : ac.tmps.getD 85 undef = .agg #[.int .i64 (asmV t (j : Int) (d : Int)).1, .int .i64 (asmV t (j : Int) (d : Int)).2] := hst.val 4 (by omega) (ready_dep hr (e := ⟨4, .data⟩) rfl (by simp) rfl)
                          clear hst hr
                          refine wpOp_at _ rfl rfl ?_
                          go_simp
                          with_reducible refine (component_Within t A1 A2 c1 c2 k m (asmV t (j : Int) (d : Int)).1 (asmV t (j : Int) (d : Int)).2 _ (HT0.out.below HXW.out.hb) (by have := HL.out; omega)).mono ?_
                          rintro e w9 ⟨rfl, hb⟩
                          exact hK w9 hb
                        | m + 6, hi, _ => exact absurd hi (by omega)
                      · intro W xs hbl hblk hinj
                        simp only [cov_put, List.setIfInBounds_toArray, List.set_cons_zero, List.set_cons_succ]
                        replace HW := Lib.hid ((HW.out.up (below_drwV _)).up hbl)
                        replace HF := Lib.hid ((HF.out.up (below_drwV _)).up hbl)
                        replace HD := Lib.hid ((HD.out.below (below_drwV _)).below hbl)
                        replace HCB := Lib.hid ((HCB.out.up (below_drwV _)).up hbl)
                        clear hbl hblk hinj g0 g1
                        obtain ⟨w9, hu, hf9, hg9⟩ := HW.out.fm.put key_comp Try.underlying106 (asmV t (j : Int) (d : Int)) (withinV t k m (asmV t (j : Int) (d : Int)).1 (asmV t (j : Int) (d : Int)).2) HKY.out (enc2_inj _) (evB_inj _)
                        simp only [enc2] at hu
                        have HF9 := Lib.hid hf9
                        have HG9 := Lib.hid hg9
                        clear hf9 hg9
                        go_upto_region 20 with fail
                        clear hu
                        obtain ⟨es, cl0, hmp⟩ := HW.out.fm.isMap
                        replace HF := Lib.hid (HF.out.kpm (kp_of HG9.out) hmp)
                        replace HD := Lib.hid (HD.out.kpm (kp_of HG9.out) hmp)
                        replace HCB := Lib.hid (HCB.out.kpm (kp_of HG9.out) hmp)
                        replace HW := Lib.hid (HW.out.put rfl HG9.out HF9.out)
                        obtain ⟨f3, hf3⟩ : ∃ f3 : Int × Int → Option Bool, f3 = fun x => if x = (asmV t (j : Int) (d : Int)) then some (withinV t k m (asmV t (j : Int) (d : Int)).1 (asmV t (j : Int) (d : Int)).2) else f2 x := ⟨_, rfl⟩
                        have HFX : Hid (f3 (asmV t (j : Int) (d : Int)) = some (withinV t k m (asmV t (j : Int) (d : Int)).1 (asmV t (j : Int) (d : Int)).2)) := Lib.hid (by rw [hf3]; simp)
                        rw [← hf3] at HW
                        clear HF9 HG9 hmp hf3
                        have HLK2 := Lib.hid (HW.out.fm.look key_comp Try.underlying106 (zero_boolV _) (asmV t (j : Int) (d : Int)) HKY.out (enc2_inj _) false)
                        rw [HFX.out] at HLK2
                        cases hwi : (withinV t k m (asmV t (j : Int) (d : Int)).1 (asmV t (j : Int) (d : Int)).2) with
                        | true =>
                          rw [hwi] at HLK2
                          have hlk := HLK2.out
                          simp only [enc2, Bool.false_eq_true, if_false, Option.map_some, Option.getD_some] at hlk
                          have HWI := Lib.hid hwi
                          clear hwi HLK2
                          obtain ⟨g0, g1, _⟩ := HCB.out.c2
                          go_wp2_with fail
                          clear hlk
                          go_round
                          case rel => exact ⟨d + 1, f3, by omega, by go_num, HW, HF, HD, HND.out (fun _ => HWI.out)⟩
                          case measure => simp [intOf]; omega
                        | false =>
                          rw [hwi] at HLK2
                          have hlk := HLK2.out
                          simp only [enc2, Bool.false_eq_true, if_false, Option.map_some, Option.getD_some] at hlk
                          have HNO : Hid (¬ covP t k m) := Lib.hid (fun h => by
                            have := h.2 (j : Int) HJ.out.1 HJ.out.2 HPX.out HKT.out (d : Int) (by omega) (by have := HNN.out; omega) HRE.out
                            rw [hwi] at this
                            cases this)
                          clear hwi HLK2
                          obtain ⟨g0, g1, _⟩ := HCB.out.c2
                          go_wp2_with fail
                          go_ret
                          exact .mk false rfl ⟨fun h => (by cases h), fun h => absurd h HNO.out⟩ HW.out.hb
                    | some b9 =>
                      rw [hfx] at HLK
                      have hlk := HLK.out
                      simp only [enc2, if_true, Option.map_some, Option.getD_some, Option.isSome_some] at hlk
                      obtain rfl : b9 = (withinV t k m (asmV t (j : Int) (d : Int)).1 (asmV t (j : Int) (d : Int)).2) := HW.out.ok _ _ hfx
                      have HFX := Lib.hid hfx
                      clear HLK hfx
                      go_upto_region 20 with fail
                      clear hlk g0 g1
                      have HLK2 := Lib.hid (HW.out.fm.look key_comp Try.underlying106 (zero_boolV _) (asmV t (j : Int) (d : Int)) HKY.out (enc2_inj _) false)
                      rw [HFX.out] at HLK2
                      cases hwi : (withinV t k m (asmV t (j : Int) (d : Int)).1 (asmV t (j : Int) (d : Int)).2) with
                      | true =>
                        rw [hwi] at HLK2
                        have hlk := HLK2.out
                        simp only [enc2, Bool.false_eq_true, if_false, Option.map_some, Option.getD_some] at hlk
                        have HWI := Lib.hid hwi
                        clear hwi HLK2
                        obtain ⟨g0, g1, _⟩ := HCB.out.c2
                        go_wp2_with fail
                        clear hlk
                        go_round
                        case rel => exact ⟨d + 1, f2, by omega, by go_num, HW, HF, HD, HND.out (fun _ => HWI.out)⟩
                        case measure => simp [intOf]; omega
                      | false =>
                        rw [hwi] at HLK2
                        have hlk := HLK2.out
                        simp only [enc2, Bool.false_eq_true, if_false, Option.map_some, Option.getD_some] at hlk
                        have HNO : Hid (¬ covP t k m) := Lib.hid (fun h => by
                          have := h.2 (j : Int) HJ.out.1 HJ.out.2 HPX.out HKT.out (d : Int) (by omega) (by have := HNN.out; omega) HRE.out
                          rw [hwi] at this
                          cases this)
                        clear hwi HLK2
                        obtain ⟨g0, g1, _⟩ := HCB.out.c2
                        go_wp2_with fail
                        go_ret
                        exact .mk false rfl ⟨fun h => (by cases h), fun h => absurd h HNO.out⟩ HW.out.hb
                  · have HNR : Hid (¬ reach t (mask t [(k, m)]) (tail t (j : Int)) (d : Int)) := Lib.hid (fun h => h0 (HIRd.out.2 h))
                    go_wp2_with fail
                    go_round
                    case rel => exact ⟨d + 1, f2, by omega, by go_num, HW, HF, HD, HND.out (fun h => absurd h HNR.out)⟩
                    case measure => simp [intOf]; omega
                · obtain rfl : d = NN := by omega
                  have HCA : Hid (covA t k m (j : Int)) := Lib.hid (fun _ _ d' h0 h1 => HPD.out d' h0 (by have := HNN.out; omega))
                  go_wp2_with fail
                  go_round
                  case rel => exact ⟨j + 1, f2, by omega, by go_num, HW, HNX.out HCA.out⟩
                  case measure => simp [intOf]; omega
      · obtain rfl : j = N := by omega
        have HYES : Hid (covP t k m) := Lib.hid ⟨HC.out, fun a h0 h1 => HPR.out a h0 (by have := HNL.out; omega)⟩
        go_wp2_with fail
        go_ret
        exact .mk true rfl ⟨fun _ => HYES.out, fun _ => rfl⟩ HW.out.hb
end
end Go.Proofs.Ytdnjflpmbnjgeaa
