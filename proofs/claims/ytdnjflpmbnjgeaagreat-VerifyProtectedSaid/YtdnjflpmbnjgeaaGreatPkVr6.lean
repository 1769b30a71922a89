/-
  waypointref29.Covered (printed by gen_vr6.py).
  waypointref56: Single, Safe, Protected (printed by gen_vs5.py).
-/
import Derived.Test.YtdnjflpmbnjgeaaGreatPkVr4
import Derived.Test.YtdnjflpmbnjgeaaGreatVs2
import Derived.Test.YtdnjflpmbnjgeaaGreatPkVs4
import Derived.Test.YtdnjflpmbnjgeaaGreatGp
set_option linter.unusedSimpArgs false
set_option linter.unusedVariables false
namespace Go.Proofs.YtdnjflpmbnjgeaaGreat
section
open Go.RowKit Go.Sort
/-- Covered's memory. -/
structure CvZ (w : World) (A1 A2 : Option Addr) (c1 c2 : Nat) (t : Topo) (k m : Int) (A : Option Addr) (Y : World) : Prop where
 x : Bl 25 w.heap.size #[.int .i64 t.n, .slice A1 t.ov.length c1, .slice A2 t.ls.length c2] Y
 c : Bl 79 (w.heap.size + 1) #[.int .i64 k, .int .i64 m] Y
 b : Below w.heap.size w Y
 r : Rd Y A ((mask t [(k, m)]).map Value.bool)
theorem CvZ.up {w Y Z : World} {A1 A2 A : Option Addr} {c1 c2 : Nat} {t : Topo} {k m : Int} (h : CvZ w A1 A2 c1 c2 t k m A Y) (hb : Below Y.heap.size Y Z) : CvZ w A1 A2 c1 c2 t k m A Z :=
 ⟨h.x.up hb, h.c.up hb, bQ h.b hb, h.r.below hb⟩
section
variable {w : World} {A1 A2 : Option Addr} {t : Topo}
set_option maxRecDepth 100000 in
set_option maxHeartbeats 8000000 in
theorem ref29_Covered (c1 c2 : Nat) (k m : Int) (hv : valid t = true) (hT : TAt w A1 A2 t) :
    Calls Tryz.prog 46 #[.agg #[.int .i64 t.n, .slice A1 t.ov.length c1, .slice A2 t.ls.length c2], .agg #[.int .i64 k, .int .i64 m]] w (RetBP w (covP t k m)) := by
 have hL := zQ hv
 have hN := iZ hv
 have hb1 := cQ w (.cells #[.int .i64 t.n, .slice A1 t.ov.length c1, .slice A2 t.ls.length c2] 25)
 have hb2 := cQ (w.alloc (.cells #[.int .i64 t.n, .slice A1 t.ov.length c1, .slice A2 t.ls.length c2] 25)) (.cells #[.int .i64 k, .int .i64 m] 79)
 have n1 := (Bl.new w #[.int .i64 t.n, .slice A1 t.ov.length c1, .slice A2 t.ls.length c2] 25).up hb2
 have n2 := Bl.new (w.alloc (.cells #[.int .i64 t.n, .slice A1 t.ov.length c1, .slice A2 t.ls.length c2] 25)) #[.int .i64 k, .int .i64 m] 79
 simp only [World.size_alloc] at n2
 have HB := hU (bQ hb1 hb2)
 have HX := hU n1
 have HC := hU n2
 obtain ⟨b0, b1, b2, _⟩ := n1.c3
 obtain ⟨p0, p1, _⟩ := n2.c2
 have HT := hU hT
 have HV := hU hv
 have HLL := hU hL
 have HNN := hU hN
 have HVD := hU (ref10_Valid t A1 A2 c1 c2 k m _ (hT.below HB.out))
 have HM := hU (fun (W : World) (hW : Below w.heap.size w W) => ref10_Mask t A1 A2 c1 c2 k m W (hT.below hW) (by omega))
 clear hb1 hb2 n1 n2 hv hT hL hN
 cases hc : gZ t k m with
 | false =>
  have HNO : Hid (¬ covP t k m) := hU (fun h => by rw [h.1] at hc; cases hc)
  rw [hc] at HVD
  clear hc
  go_enter Tryz.func46, Tryz.ntmps46
  go_wp2_with (go_at_call 43; (with_reducible refine HVD.out.mono ?_); rintro e w2 ⟨rfl, hb⟩; replace HB := hU (bQ HB.out hb); clear hb b0 b1 b2 p0 p1 HVD)
  go_ret
  exact .mk false rfl ⟨fun h => (by cases h), fun h => absurd h HNO.out⟩ HB.out
 | true =>
  have hc' : compOk t k m = true := by rw [gZ, HV.out, Bool.true_and] at hc; exact hc
  have HU := hU (union_mask HV.out hc')
  have HCV := hU hc
  have HML := hU (mask_length t [(k, m)])
  rw [hc] at HVD
  clear hc hc'
  go_enter Tryz.func46, Tryz.ntmps46
  go_upto_region 5 with (first | (go_at_call 43; (with_reducible refine HVD.out.mono ?_); rintro e w2 ⟨rfl, hb⟩; replace HX := hU (HX.out.up hb); replace HC := hU (HC.out.up hb); replace HB := hU (bQ HB.out hb); clear hb b0 b1 b2 p0 p1 HVD; obtain ⟨b0, b1, b2, _⟩ := HX.out.c3; obtain ⟨p0, p1, _⟩ := HC.out.c2) | (go_at_call 48; (with_reducible refine (HM.out _ HB.out).mono ?_); rintro e w3 ⟨A, c, rfl, hr, hb, hfr⟩; clear hfr; rw [HU.out] at hr ⊢; have HZ : Hid (CvZ w A1 A2 c1 c2 t k m A w3) := hU ⟨HX.out.up hb, HC.out.up hb, bQ HB.out hb, hr⟩; clear hr hb b0 b1 b2 p0 p1 HM HB HX HC; obtain ⟨b0, b1, b2, _⟩ := HZ.out.x.c3; obtain ⟨p0, p1, _⟩ := HZ.out.c.c2))
  obtain ⟨N, hNL⟩ : ∃ N : Nat, N = 2 * t.ls.length := ⟨_, rfl⟩
  have HNL := hU hNL
  have HML2 : Hid ((mask t [(k, m)]).length = N) := hU (HML.out.trans hNL.symm)
  have hN5 : N ≤ 512 := by have := HLL.out; omega
  obtain ⟨NN, hNe⟩ : ∃ NN : Nat, t.n = (NN : Int) := ⟨t.n.toNat, by have := HNN.out; omega⟩
  have HNE := hU hNe
  have hNN64 : NN ≤ 64 := by have := HNN.out; omega
  clear hNL hNe
  have e0 := HML2.out
  rw [e0]
  clear e0
  go_wp2_with fail
  go_loopw [7] (fun i wr => ∃ j : Nat, j ≤ N ∧ i = .int .i64 j ∧ Hid (CvZ w A1 A2 c1 c2 t k m A wr) ∧ Hid (∀ a : Int, 0 ≤ a → a < (j : Int) → covA t k m a)) (fun i _ => N - (intOf i).toNat)
  case atStart => exact ⟨0, Nat.zero_le _, rfl, HZ, hU (fun a h0 h1 => by omega)⟩
  case round =>
   clear HZ b0 b1 b2 p0 p1
   obtain ⟨j, hj, rfl, HZ, HPR⟩ := hrel
   obtain ⟨b0, b1, b2, _⟩ := HZ.out.x.c3
   obtain ⟨p0, p1, _⟩ := HZ.out.c.c2
   by_cases hlt : j < N
   ·have hlt' : (j : Int) < (N : Int) := by omega
    have HJ : Hid (0 ≤ (j : Int) ∧ (j : Int) < 2 * (t.ls.length : Int)) := hU (by have := HNL.out; omega)
    have HNX : Hid (covA t k m (j : Int) → Hid (∀ a : Int, 0 ≤ a → a < ((j + 1 : Nat) : Int) → covA t k m a)) := hU (fun h => hU (fun a h0 h1 => by
     by_cases e : a = (j : Int)
     ·subst e; exact h
     ·exact HPR.out a h0 (by omega)))
    obtain ⟨s, hs⟩ : ∃ s, s = tail t (j : Int) := ⟨_, rfl⟩
    have HS := hU hs
    have HSN : Hid (isN t.n s = true) := hU (by rw [hs]; exact isN_true.2 (tail_bdO HV.out HJ.out.1 HJ.out.2))
    have HTL := hU (fun (W : World) (hW : Below w.heap.size w W) => ref09_TailT t A1 A2 c1 c2 (j : Int) W (HT.out.below hW) (by have := HLL.out; omega) HV.out (isN_true.2 HJ.out))
    rw [← hs] at HTL
    obtain ⟨pp, hpp⟩ : ∃ pp, pp = part t k m ((j : Int) / 2) := ⟨_, rfl⟩
    have HPP := hU hpp
    obtain ⟨bm, om, hAm, dm⟩ := HZ.out.r.at_ (k := j) (u := .bool pp) (by rw [List.getElem?_map, mask_atN (by have := HNL.out; omega), hpp]; rfl)
    clear hs hpp
    subst hAm
    cases pp with
    | false =>
     have HCA : Hid (covA t k m (j : Int)) := hU (covA_no HPP.out.symm)
     go_wp2_with (go_at_call 76; (with_reducible refine (HTL.out _ HZ.out.b).mono ?_); rintro e w3 ⟨rfl, hb⟩; replace dm := aQ hb dm; replace HZ := hU (HZ.out.up hb); clear hb b0 b1 b2 p0 p1; obtain ⟨b0, b1, b2, _⟩ := HZ.out.x.c3; obtain ⟨p0, p1, _⟩ := HZ.out.c.c2)
     go_roundw
     case rel => exact ⟨j + 1, by omega, by go_num, HZ, HNX.out HCA.out⟩
     case measure => simp [intOf]; omega
    | true =>
     by_cases hkt : k = 2 ∧ m = s
     ·have HCA : Hid (covA t k m (j : Int)) := hU (fun _ h => absurd ⟨hkt.1, by rw [← HS.out]; exact hkt.2⟩ h)
      have q1 : (k == 2) = true := by simp [hkt.1]
      have q2 : (s == m) = true := by rw [beq_iff_eq]; exact hkt.2.symm
      clear hkt
      go_wp2_with (go_at_call 76; (with_reducible refine (HTL.out _ HZ.out.b).mono ?_); rintro e w3 ⟨rfl, hb⟩; replace dm := aQ hb dm; replace HZ := hU (HZ.out.up hb); clear hb b0 b1 b2 p0 p1; obtain ⟨b0, b1, b2, _⟩ := HZ.out.x.c3; obtain ⟨p0, p1, _⟩ := HZ.out.c.c2)
      go_roundw
      case rel => exact ⟨j + 1, by omega, by go_num, HZ, HNX.out HCA.out⟩
      case measure => simp [intOf]; omega
     ·have HKT := hU hkt
      have HQ : Hid ((k == 2) = true → (s == m) = false) := hU (fun h => by
       rw [beq_eq_false_iff_ne]
       rintro rfl
       exact hkt ⟨beq_iff_eq.1 h, rfl⟩)
      have HRC := hU (fun (d : Int) (hd : isN t.n d = true) (W : World) (hW : Below w.heap.size w W) (D : Option Addr) (dc : Nat) (hD : Rd W D ((mask t [(k, m)]).map Value.bool)) => ref27_Reaches (w := W) c1 c2 dc s d HV.out HSN.out hd (HT.out.below hW) hD (.inr HML.out))
      rw [HML2.out] at HRC
      clear hkt
      cases q1 : (k == 2) with
      | false =>
       clear HQ
       go_upto_region 9 with (go_at_call 76; (with_reducible refine (HTL.out _ HZ.out.b).mono ?_); rintro e w3 ⟨rfl, hb⟩; replace dm := aQ hb dm; replace HZ := hU (HZ.out.up hb); clear hb b0 b1 b2 p0 p1; obtain ⟨b0, b1, b2, _⟩ := HZ.out.x.c3; obtain ⟨p0, p1, _⟩ := HZ.out.c.c2)
       clear dm HTL
       go_wp2_with fail
       go_loopw [9] (fun i wr => ∃ dd : Nat, dd ≤ NN ∧ i = .int .i64 dd ∧ Hid (CvZ w A1 A2 c1 c2 t k m (some ⟨bm, om, none⟩) wr) ∧ Hid (∀ d' : Int, 0 ≤ d' → d' < (dd : Int) → reach t (mask t [(k, m)]) s d' → yQ t k m (asmV t (j : Int) d').1 (asmV t (j : Int) d').2 = true)) (fun i _ => NN - (intOf i).toNat)
       case atStart => exact ⟨0, Nat.zero_le _, rfl, HZ, hU (fun d' h0 h1 => by omega)⟩
       case round =>
        clear HZ b0 b1 b2 p0 p1
        obtain ⟨dd, hdd, rfl, HZ, HPD⟩ := hrel
        obtain ⟨b0, b1, b2, _⟩ := HZ.out.x.c3
        obtain ⟨p0, p1, _⟩ := HZ.out.c.c2
        by_cases hld : dd < NN
        ·have hld' : (dd : Int) < t.n := by have := HNE.out; omega
         have HDN : Hid (isN t.n (dd : Int) = true) := hU (isN_true.2 ⟨by omega, by have := HNE.out; omega⟩)
         have HND : Hid ((reach t (mask t [(k, m)]) s (dd : Int) → yQ t k m (asmV t (j : Int) (dd : Int)).1 (asmV t (j : Int) (dd : Int)).2 = true) → Hid (∀ d' : Int, 0 ≤ d' → d' < ((dd + 1 : Nat) : Int) → reach t (mask t [(k, m)]) s d' → yQ t k m (asmV t (j : Int) d').1 (asmV t (j : Int) d').2 = true)) := hU (fun h => hU (fun d' h0 h1 => by
          by_cases e : d' = (dd : Int)
          ·subst e; exact h
          ·exact HPD.out d' h0 (by omega)))
         replace HRC := hU (HRC.out (dd : Int) HDN.out)
         by_cases hre : reach t (mask t [(k, m)]) s (dd : Int)
         ·have HRE := hU hre
          have HCP := hU (fun (W : World) (hW : Below w.heap.size w W) => ref29_Component (w := W) c1 c2 (j : Int) (dd : Int) HV.out HJ.out.1 HJ.out.2 HDN.out (HT.out.below hW))
          have HWI := hU (fun (W : World) (hW : Below w.heap.size w W) => ref10_Within t A1 A2 c1 c2 k m (asmV t (j : Int) (dd : Int)).1 (asmV t (j : Int) (dd : Int)).2 W (HT.out.below hW) (by have := HLL.out; omega))
          clear hre
          cases hw : yQ t k m (asmV t (j : Int) (dd : Int)).1 (asmV t (j : Int) (dd : Int)).2 with
          | true =>
           rw [hw] at HWI
           have HWT := hU hw
           clear hw
           go_wp2_with (first | (go_at_call 51; (with_reducible refine ((HRC.out _ HZ.out.b _ _ HZ.out.r).mono fun e w9 H => RetBP.yes H HRE.out).mono ?_); rintro e w4 ⟨rfl, hb⟩; replace HZ := hU (HZ.out.up hb); clear hb b0 b1 b2 p0 p1; obtain ⟨b0, b1, b2, _⟩ := HZ.out.x.c3; obtain ⟨p0, p1, _⟩ := HZ.out.c.c2) | (go_at_call 77; (with_reducible refine (HCP.out _ HZ.out.b).mono ?_); rintro e w5 ⟨rfl, hb⟩; replace HZ := hU ((HZ.out.up hb).up (cQ _ (.cells #[.int .i64 (asmV t (j : Int) (dd : Int)).1, .int .i64 (asmV t (j : Int) (dd : Int)).2] 79))); have HCB := hU (Bl.new w5 #[.int .i64 (asmV t (j : Int) (dd : Int)).1, .int .i64 (asmV t (j : Int) (dd : Int)).2] 79); clear hb b0 b1 b2 p0 p1; obtain ⟨b0, b1, b2, _⟩ := HZ.out.x.c3; obtain ⟨p0, p1, _⟩ := HZ.out.c.c2; obtain ⟨g0, g1, _⟩ := HCB.out.c2) | (go_at_call 78; (with_reducible refine (HWI.out _ HZ.out.b).mono ?_); rintro e w6 ⟨rfl, hb⟩; clear g0 g1 HCB; replace HZ := hU (HZ.out.up hb); clear hb b0 b1 b2 p0 p1; obtain ⟨b0, b1, b2, _⟩ := HZ.out.x.c3; obtain ⟨p0, p1, _⟩ := HZ.out.c.c2))
           go_roundw
           case rel => exact ⟨dd + 1, by omega, by go_num, HZ, HND.out (fun _ => HWT.out)⟩
           case measure => simp [intOf]; omega
          | false =>
           rw [hw] at HWI
           have HNO : Hid (¬ covP t k m) := hU (fun h => by
            have := h.2 (j : Int) HJ.out.1 HJ.out.2 HPP.out.symm (by rw [← HS.out]; exact HKT.out) (dd : Int) (by omega) (by have := HNE.out; omega) (by rw [← HS.out]; exact HRE.out)
            rw [hw] at this
            cases this)
           clear hw
           go_wp2_with (first | (go_at_call 51; (with_reducible refine ((HRC.out _ HZ.out.b _ _ HZ.out.r).mono fun e w9 H => RetBP.yes H HRE.out).mono ?_); rintro e w4 ⟨rfl, hb⟩; replace HZ := hU (HZ.out.up hb); clear hb b0 b1 b2 p0 p1; obtain ⟨b0, b1, b2, _⟩ := HZ.out.x.c3; obtain ⟨p0, p1, _⟩ := HZ.out.c.c2) | (go_at_call 77; (with_reducible refine (HCP.out _ HZ.out.b).mono ?_); rintro e w5 ⟨rfl, hb⟩; replace HZ := hU ((HZ.out.up hb).up (cQ _ (.cells #[.int .i64 (asmV t (j : Int) (dd : Int)).1, .int .i64 (asmV t (j : Int) (dd : Int)).2] 79))); have HCB := hU (Bl.new w5 #[.int .i64 (asmV t (j : Int) (dd : Int)).1, .int .i64 (asmV t (j : Int) (dd : Int)).2] 79); clear hb b0 b1 b2 p0 p1; obtain ⟨b0, b1, b2, _⟩ := HZ.out.x.c3; obtain ⟨p0, p1, _⟩ := HZ.out.c.c2; obtain ⟨g0, g1, _⟩ := HCB.out.c2) | (go_at_call 78; (with_reducible refine (HWI.out _ HZ.out.b).mono ?_); rintro e w6 ⟨rfl, hb⟩; clear g0 g1 HCB; replace HZ := hU (HZ.out.up hb); clear hb b0 b1 b2 p0 p1; obtain ⟨b0, b1, b2, _⟩ := HZ.out.x.c3; obtain ⟨p0, p1, _⟩ := HZ.out.c.c2))
           go_ret
           exact .mk false rfl ⟨fun h => (by cases h), fun h => absurd h HNO.out⟩ HZ.out.b
         ·have HRE := hU hre
          clear hre
          go_wp2_with (go_at_call 51; (with_reducible refine ((HRC.out _ HZ.out.b _ _ HZ.out.r).mono fun e w9 H => RetBP.no H HRE.out).mono ?_); rintro e w4 ⟨rfl, hb⟩; replace HZ := hU (HZ.out.up hb); clear hb b0 b1 b2 p0 p1; obtain ⟨b0, b1, b2, _⟩ := HZ.out.x.c3; obtain ⟨p0, p1, _⟩ := HZ.out.c.c2)
          go_roundw
          case rel => exact ⟨dd + 1, by omega, by go_num, HZ, HND.out (fun h => absurd h HRE.out)⟩
          case measure => simp [intOf]; omega
        ·obtain rfl : dd = NN := by omega
         have hdn : t.n ≤ (dd : Int) := by have := HNE.out; omega
         have HCA : Hid (covA t k m (j : Int)) := hU (fun _ _ d' h0 h1 h2 => HPD.out d' h0 (by have := HNE.out; omega) (by rw [HS.out]; exact h2))
         go_wp2_with fail
         go_roundw
         case rel => exact ⟨j + 1, by omega, by go_num, HZ, HNX.out HCA.out⟩
         case measure => simp [intOf]; omega
      | true =>
       have q2 := HQ.out q1
       clear HQ
       go_upto_region 9 with (go_at_call 76; (with_reducible refine (HTL.out _ HZ.out.b).mono ?_); rintro e w3 ⟨rfl, hb⟩; replace dm := aQ hb dm; replace HZ := hU (HZ.out.up hb); clear hb b0 b1 b2 p0 p1; obtain ⟨b0, b1, b2, _⟩ := HZ.out.x.c3; obtain ⟨p0, p1, _⟩ := HZ.out.c.c2)
       clear dm HTL
       go_wp2_with fail
       go_loopw [9] (fun i wr => ∃ dd : Nat, dd ≤ NN ∧ i = .int .i64 dd ∧ Hid (CvZ w A1 A2 c1 c2 t k m (some ⟨bm, om, none⟩) wr) ∧ Hid (∀ d' : Int, 0 ≤ d' → d' < (dd : Int) → reach t (mask t [(k, m)]) s d' → yQ t k m (asmV t (j : Int) d').1 (asmV t (j : Int) d').2 = true)) (fun i _ => NN - (intOf i).toNat)
       case atStart => exact ⟨0, Nat.zero_le _, rfl, HZ, hU (fun d' h0 h1 => by omega)⟩
       case round =>
        clear HZ b0 b1 b2 p0 p1
        obtain ⟨dd, hdd, rfl, HZ, HPD⟩ := hrel
        obtain ⟨b0, b1, b2, _⟩ := HZ.out.x.c3
        obtain ⟨p0, p1, _⟩ := HZ.out.c.c2
        by_cases hld : dd < NN
        ·have hld' : (dd : Int) < t.n := by have := HNE.out; omega
         have HDN : Hid (isN t.n (dd : Int) = true) := hU (isN_true.2 ⟨by omega, by have := HNE.out; omega⟩)
         have HND : Hid ((reach t (mask t [(k, m)]) s (dd : Int) → yQ t k m (asmV t (j : Int) (dd : Int)).1 (asmV t (j : Int) (dd : Int)).2 = true) → Hid (∀ d' : Int, 0 ≤ d' → d' < ((dd + 1 : Nat) : Int) → reach t (mask t [(k, m)]) s d' → yQ t k m (asmV t (j : Int) d').1 (asmV t (j : Int) d').2 = true)) := hU (fun h => hU (fun d' h0 h1 => by
          by_cases e : d' = (dd : Int)
          ·subst e; exact h
          ·exact HPD.out d' h0 (by omega)))
         replace HRC := hU (HRC.out (dd : Int) HDN.out)
         by_cases hre : reach t (mask t [(k, m)]) s (dd : Int)
         ·have HRE := hU hre
          have HCP := hU (fun (W : World) (hW : Below w.heap.size w W) => ref29_Component (w := W) c1 c2 (j : Int) (dd : Int) HV.out HJ.out.1 HJ.out.2 HDN.out (HT.out.below hW))
          have HWI := hU (fun (W : World) (hW : Below w.heap.size w W) => ref10_Within t A1 A2 c1 c2 k m (asmV t (j : Int) (dd : Int)).1 (asmV t (j : Int) (dd : Int)).2 W (HT.out.below hW) (by have := HLL.out; omega))
          clear hre
          cases hw : yQ t k m (asmV t (j : Int) (dd : Int)).1 (asmV t (j : Int) (dd : Int)).2 with
          | true =>
           rw [hw] at HWI
           have HWT := hU hw
           clear hw
           go_wp2_with (first | (go_at_call 51; (with_reducible refine ((HRC.out _ HZ.out.b _ _ HZ.out.r).mono fun e w9 H => RetBP.yes H HRE.out).mono ?_); rintro e w4 ⟨rfl, hb⟩; replace HZ := hU (HZ.out.up hb); clear hb b0 b1 b2 p0 p1; obtain ⟨b0, b1, b2, _⟩ := HZ.out.x.c3; obtain ⟨p0, p1, _⟩ := HZ.out.c.c2) | (go_at_call 77; (with_reducible refine (HCP.out _ HZ.out.b).mono ?_); rintro e w5 ⟨rfl, hb⟩; replace HZ := hU ((HZ.out.up hb).up (cQ _ (.cells #[.int .i64 (asmV t (j : Int) (dd : Int)).1, .int .i64 (asmV t (j : Int) (dd : Int)).2] 79))); have HCB := hU (Bl.new w5 #[.int .i64 (asmV t (j : Int) (dd : Int)).1, .int .i64 (asmV t (j : Int) (dd : Int)).2] 79); clear hb b0 b1 b2 p0 p1; obtain ⟨b0, b1, b2, _⟩ := HZ.out.x.c3; obtain ⟨p0, p1, _⟩ := HZ.out.c.c2; obtain ⟨g0, g1, _⟩ := HCB.out.c2) | (go_at_call 78; (with_reducible refine (HWI.out _ HZ.out.b).mono ?_); rintro e w6 ⟨rfl, hb⟩; clear g0 g1 HCB; replace HZ := hU (HZ.out.up hb); clear hb b0 b1 b2 p0 p1; obtain ⟨b0, b1, b2, _⟩ := HZ.out.x.c3; obtain ⟨p0, p1, _⟩ := HZ.out.c.c2))
           go_roundw
           case rel => exact ⟨dd + 1, by omega, by go_num, HZ, HND.out (fun _ => HWT.out)⟩
           case measure => simp [intOf]; omega
          | false =>
           rw [hw] at HWI
           have HNO : Hid (¬ covP t k m) := hU (fun h => by
            have := h.2 (j : Int) HJ.out.1 HJ.out.2 HPP.out.symm (by rw [← HS.out]; exact HKT.out) (dd : Int) (by omega) (by have := HNE.out; omega) (by rw [← HS.out]; exact HRE.out)
            rw [hw] at this
            cases this)
           clear hw
           go_wp2_with (first | (go_at_call 51; (with_reducible refine ((HRC.out _ HZ.out.b _ _ HZ.out.r).mono fun e w9 H => RetBP.yes H HRE.out).mono ?_); rintro e w4 ⟨rfl, hb⟩; replace HZ := hU (HZ.out.up hb); clear hb b0 b1 b2 p0 p1; obtain ⟨b0, b1, b2, _⟩ := HZ.out.x.c3; obtain ⟨p0, p1, _⟩ := HZ.out.c.c2) | (go_at_call 77; (with_reducible refine (HCP.out _ HZ.out.b).mono ?_); rintro e w5 ⟨rfl, hb⟩; replace HZ := hU ((HZ.out.up hb).up (cQ _ (.cells #[.int .i64 (asmV t (j : Int) (dd : Int)).1, .int .i64 (asmV t (j : Int) (dd : Int)).2] 79))); have HCB := hU (Bl.new w5 #[.int .i64 (asmV t (j : Int) (dd : Int)).1, .int .i64 (asmV t (j : Int) (dd : Int)).2] 79); clear hb b0 b1 b2 p0 p1; obtain ⟨b0, b1, b2, _⟩ := HZ.out.x.c3; obtain ⟨p0, p1, _⟩ := HZ.out.c.c2; obtain ⟨g0, g1, _⟩ := HCB.out.c2) | (go_at_call 78; (with_reducible refine (HWI.out _ HZ.out.b).mono ?_); rintro e w6 ⟨rfl, hb⟩; clear g0 g1 HCB; replace HZ := hU (HZ.out.up hb); clear hb b0 b1 b2 p0 p1; obtain ⟨b0, b1, b2, _⟩ := HZ.out.x.c3; obtain ⟨p0, p1, _⟩ := HZ.out.c.c2))
           go_ret
           exact .mk false rfl ⟨fun h => (by cases h), fun h => absurd h HNO.out⟩ HZ.out.b
         ·have HRE := hU hre
          clear hre
          go_wp2_with (go_at_call 51; (with_reducible refine ((HRC.out _ HZ.out.b _ _ HZ.out.r).mono fun e w9 H => RetBP.no H HRE.out).mono ?_); rintro e w4 ⟨rfl, hb⟩; replace HZ := hU (HZ.out.up hb); clear hb b0 b1 b2 p0 p1; obtain ⟨b0, b1, b2, _⟩ := HZ.out.x.c3; obtain ⟨p0, p1, _⟩ := HZ.out.c.c2)
          go_roundw
          case rel => exact ⟨dd + 1, by omega, by go_num, HZ, HND.out (fun h => absurd h HRE.out)⟩
          case measure => simp [intOf]; omega
        ·obtain rfl : dd = NN := by omega
         have hdn : t.n ≤ (dd : Int) := by have := HNE.out; omega
         have HCA : Hid (covA t k m (j : Int)) := hU (fun _ _ d' h0 h1 h2 => HPD.out d' h0 (by have := HNE.out; omega) (by rw [HS.out]; exact h2))
         go_wp2_with fail
         go_roundw
         case rel => exact ⟨j + 1, by omega, by go_num, HZ, HNX.out HCA.out⟩
         case measure => simp [intOf]; omega
   ·obtain rfl : j = N := by omega
    have HYES : Hid (covP t k m) := hU ⟨HCV.out, fun a h0 h1 => HPR.out a h0 (by have := HNL.out; omega)⟩
    go_wp2_with fail
    go_ret
    exact .mk true rfl ⟨fun _ => HYES.out, fun _ => rfl⟩ HZ.out.b
end
/-- What else the promises ask of a packet. -/
def safeQ (F : FaN) (tr : List Ev) (P : PkN) (o : OutN) : Prop := P.sn = 0 ∧ P.src ≠ goneV o ∧ P.dst ≠ goneV o ∧ o.fr + F.det < sentV tr P.id ∧ safeP F.t (mask F.t [(o.k, o.m)]) (goneV o) P.dst ∧ reach F.t (mask F.t [(o.k, o.m)]) P.src P.dst
theorem protP_iff {F : FaN} {tr : List Ev} {P : PkN} {o : OutN} (ho : F.out = [o]) (hf : 1 ≤ o.fr) (hd : 0 ≤ F.det) : protP F tr P ↔ okP F tr ∧ safeQ F tr P o := by
 have hdv : uQ F = mask F.t [(o.k, o.m)] := by unfold uQ; rw [ho]
 constructor
 ·rintro ⟨h1, h2, o', x, h3, h4, h5, h6, h7, h8, h9⟩
  rw [ho] at h3
  injection h3 with h3
  subst h3
  rw [hdv] at h8 h9
  exact ⟨h1, h2, h6, h7, by unfold sentV; rw [h4]; exact h5, h8, h9⟩
 ·rintro ⟨h1, h2, h3, h4, h5, h6, h7⟩
  cases hs : sentF tr P.id with
  | none =>
   unfold sentV at h5
   rw [hs] at h5
   simp at h5
   omega
  | some x =>
   refine ⟨h1, h2, o, x, ho, hs, ?_, h3, h4, by rw [hdv]; exact h6, by rw [hdv]; exact h7⟩
   unfold sentV at h5
   rw [hs] at h5
   exact h5
section
variable {w : World}
set_option maxRecDepth 100000 in
set_option maxHeartbeats 8000000 in
theorem ref56_Single (F : FaN) (tr : List Ev) (A1 A2 O C : Option Addr) (c1 c2 co ct : Nat) (hv : valid F.t = true) (hT : TAt w A1 A2 F.t) (hO : Rd w O (F.out.flatMap outL)) (hE : RdE w C tr) (hlo : F.out.length ≤ 100000) (hlt : tr.length ≤ 100000) (hnm : tr.all (xQ F.t) = true) :
    Calls Tryz.prog 14 #[.agg #[.int .i64 F.t.n, .slice A1 F.t.ov.length c1, .slice A2 F.t.ls.length c2, .int .i64 F.det, .int .i64 F.ga, .int .i64 F.ho, .slice O F.out.length co], .slice C tr.length ct] w (RetBP w (okP F tr)) := by
 have HX := hU (Bl.new w #[.int .i64 F.t.n, .slice A1 F.t.ov.length c1, .slice A2 F.t.ls.length c2, .int .i64 F.det, .int .i64 F.ga, .int .i64 F.ho, .slice O F.out.length co] 28)
 have HB := hU (cQ w (.cells #[.int .i64 F.t.n, .slice A1 F.t.ov.length c1, .slice A2 F.t.ls.length c2, .int .i64 F.det, .int .i64 F.ga, .int .i64 F.ho, .slice O F.out.length co] 28))
 have HO := hU hO
 obtain ⟨f0, f1, f2, f3, f4, f5, f6, _⟩ := HX.out.c7
 have HSL := hU (fun (W : World) (hW : Below w.heap.size w W) => ref56_slow (w := W) (O := O) F c1 c2 co hv (hT.below hW))
 have HCO := hU (fun (k m : Int) (W : World) (hW : Below w.heap.size w W) => ref29_Covered (w := W) c1 c2 k m hv (hT.below hW))
 have HSE := hU (fun (k m : Int) (W : World) (hW : Below w.heap.size w W) => ref56_settled (w := W) F.t tr c1 c2 ct k m hv (hT.below hW) (hE.below hW) hlt)
 have HSC := hU (fun (k m : Int) => set_same (t := F.t) (k := k) (m := m) tr [] (fun e h => by cases h) (fun e h => List.all_eq_true.1 hnm e h))
 clear hv hT hO hE hlt hnm
 by_cases h1 : F.out.length = 1
 ·obtain ⟨oo, hoo⟩ : ∃ oo, F.out = [oo] := List.length_eq_one_iff.1 h1
  have HOO := hU hoo
  obtain ⟨bz, oz, hAz, hcz⟩ := row_at (s := 4) (l := F.out) (k := 0) (x := oo) (fun _ => rfl) (by omega) (HO.out.below HB.out) (by rw [hoo]; rfl)
  have z1 := hcz 1 (.int .i64 oo.tu) rfl
  have z2 := hcz 2 (.int .i64 oo.k) rfl
  have z3 := hcz 3 (.int .i64 oo.m) rfl
  rw [Nat.zero_mul, Nat.add_zero] at z1 z2 z3
  subst hAz
  have HOK : Hid (okP F tr ↔ oo.tu = 0 ∧ F.t.n ≤ 32 ∧ leastV F.t < F.ga ∧ leastV F.t < F.ho ∧ covP F.t oo.k oo.m ∧ setR F.t oo.k oo.m [] tr = true) := hU (by
   constructor
   ·rintro ⟨o, e, g1, g2, g3, g4, g5, g6⟩
    rw [hoo] at e
    injection e with e
    subst e
    exact ⟨g1, g2, g3, g4, g6, by rw [← HSC.out]; exact g5⟩
   ·rintro ⟨g1, g2, g3, g4, g6, g5⟩
    exact ⟨oo, hoo, g1, g2, g3, g4, by rw [show CkS.new F.t = ckR F.t [] from rfl, HSC.out]; exact g5, g6⟩)
  have h1b : ((F.out.length : Int) != 1) = false := by simp [h1]
  have hl0 : (0 : Int) < (F.out.length : Int) := by omega
  clear hcz h1 hoo
  by_cases g1 : oo.tu = 0
  ·have g1b : (oo.tu != 0) = false := by simp [g1]
   by_cases g2 : F.t.n ≤ 32
   ·have g2b : decide (F.t.n > 32) = false := by simp; omega
    cases g3 : (decide (leastV F.t < F.ga) && decide (leastV F.t < F.ho)) with
    | true =>
     rw [g3] at HSL
     have HG3 := hU (by simpa using g3 : leastV F.t < F.ga ∧ leastV F.t < F.ho)
     have HG1 := hU g1
     have HG2 := hU g2
     clear g1 g2 g3
     obtain ⟨V, hV⟩ : ∃ V, V = setR F.t oo.k oo.m [] tr := ⟨_, rfl⟩
     replace HSE := hU (HSE.out oo.k oo.m)
     rw [← hV] at HSE HOK
     clear hV HSC
     by_cases hc : covP F.t oo.k oo.m
     ·have HCC := hU hc
      have HYES : Hid (V = true ↔ okP F tr) := hU ⟨fun h => HOK.out.2 ⟨HG1.out, HG2.out, HG3.out.1, HG3.out.2, HCC.out, h⟩, fun h => (HOK.out.1 h).2.2.2.2.2⟩
      clear hc HOK
      go_enter Tryz.func14, Tryz.ntmps14
      go_upto_region 4 with (go_at_call 45; (with_reducible refine (HSL.out _ HB.out).mono ?_); rintro e w2 ⟨rfl, hb⟩; replace HX := hU (HX.out.up hb); replace HB := hU (bQ HB.out hb); have zU := uU hb z1 (uU hb z2 (uU hb z3 trivial)); clear z1 z2 z3; obtain ⟨z1, z2, z3, -⟩ := zU; clear hb f0 f1 f2 f3 f4 f5 f6; obtain ⟨f0, f1, f2, f3, f4, f5, f6, _⟩ := HX.out.c7)
      refine kQ (fun Y => Bl 28 w.heap.size #[.int .i64 F.t.n, .slice A1 F.t.ov.length c1, .slice A2 F.t.ls.length c2, .int .i64 F.det, .int .i64 F.ga, .int .i64 F.ho, .slice (some ⟨bz, oz, none⟩) F.out.length co] Y ∧ Bl 79 w2.heap.size #[.int .i64 oo.k, .int .i64 oo.m] Y ∧ Below w.heap.size w Y) ⟨HX.out.up (cQ _ _), Bl.new _ _ _, bQ HB.out (cQ _ _)⟩ ?_
      generalize w2.heap.size = cb
      clear HX HB f0 f1 f2 f3 f4 f5 f6 z1 z2 z3
      rintro Y ⟨y1, y2, y3⟩
      have HX := hU y1
      have HC := hU y2
      have HB := hU y3
      clear y1 y2 y3
      obtain ⟨f0, f1, f2, f3, f4, f5, f6, _⟩ := HX.out.c7
      obtain ⟨p0, p1, _⟩ := HC.out.c2
      go_wp2_with (first | (go_at_call 46; (with_reducible refine ((HCO.out oo.k oo.m _ HB.out).mono fun e w9 H => RetBP.yes H HCC.out).mono ?_); rintro e w3 ⟨rfl, hb⟩; replace HX := hU (HX.out.up hb); replace HC := hU (HC.out.up hb); replace HB := hU (bQ HB.out hb); clear p0 p1; obtain ⟨p0, p1, _⟩ := HC.out.c2; clear hb f0 f1 f2 f3 f4 f5 f6; obtain ⟨f0, f1, f2, f3, f4, f5, f6, _⟩ := HX.out.c7) | (go_at_call 47; (with_reducible refine (HSE.out _ HB.out).mono ?_); rintro e w3 ⟨rfl, hb⟩; replace HX := hU (HX.out.up hb); replace HC := hU (HC.out.up hb); replace HB := hU (bQ HB.out hb); clear p0 p1; obtain ⟨p0, p1, _⟩ := HC.out.c2; clear hb f0 f1 f2 f3 f4 f5 f6; obtain ⟨f0, f1, f2, f3, f4, f5, f6, _⟩ := HX.out.c7))
      go_ret
      exact .mk V rfl HYES.out HB.out
     ·have HCC := hU hc
      have HNO : Hid (¬ okP F tr) := hU (fun h => HCC.out (HOK.out.1 h).2.2.2.2.1)
      clear hc HOK
      go_enter Tryz.func14, Tryz.ntmps14
      go_upto_region 4 with (go_at_call 45; (with_reducible refine (HSL.out _ HB.out).mono ?_); rintro e w2 ⟨rfl, hb⟩; replace HX := hU (HX.out.up hb); replace HB := hU (bQ HB.out hb); have zU := uU hb z1 (uU hb z2 (uU hb z3 trivial)); clear z1 z2 z3; obtain ⟨z1, z2, z3, -⟩ := zU; clear hb f0 f1 f2 f3 f4 f5 f6; obtain ⟨f0, f1, f2, f3, f4, f5, f6, _⟩ := HX.out.c7)
      refine kQ (fun Y => Bl 28 w.heap.size #[.int .i64 F.t.n, .slice A1 F.t.ov.length c1, .slice A2 F.t.ls.length c2, .int .i64 F.det, .int .i64 F.ga, .int .i64 F.ho, .slice (some ⟨bz, oz, none⟩) F.out.length co] Y ∧ Bl 79 w2.heap.size #[.int .i64 oo.k, .int .i64 oo.m] Y ∧ Below w.heap.size w Y) ⟨HX.out.up (cQ _ _), Bl.new _ _ _, bQ HB.out (cQ _ _)⟩ ?_
      generalize w2.heap.size = cb
      clear HX HB f0 f1 f2 f3 f4 f5 f6 z1 z2 z3
      rintro Y ⟨y1, y2, y3⟩
      have HX := hU y1
      have HC := hU y2
      have HB := hU y3
      clear y1 y2 y3
      obtain ⟨f0, f1, f2, f3, f4, f5, f6, _⟩ := HX.out.c7
      obtain ⟨p0, p1, _⟩ := HC.out.c2
      go_wp2_with (go_at_call 46; (with_reducible refine ((HCO.out oo.k oo.m _ HB.out).mono fun e w9 H => RetBP.no H HCC.out).mono ?_); rintro e w3 ⟨rfl, hb⟩; replace HX := hU (HX.out.up hb); replace HC := hU (HC.out.up hb); replace HB := hU (bQ HB.out hb); clear p0 p1; obtain ⟨p0, p1, _⟩ := HC.out.c2; clear hb f0 f1 f2 f3 f4 f5 f6; obtain ⟨f0, f1, f2, f3, f4, f5, f6, _⟩ := HX.out.c7)
      go_ret
      exact .mk false rfl ⟨fun h => (by cases h), fun h => absurd h HNO.out⟩ HB.out
    | false =>
     rw [g3] at HSL
     have HNO : Hid (¬ okP F tr) := hU (fun h => by
      have := HOK.out.1 h
      rw [Bool.and_eq_false_iff] at g3
      simp only [decide_eq_false_iff_not] at g3
      rcases g3 with g3 | g3
      ·exact g3 this.2.2.1
      ·exact g3 this.2.2.2.1)
     clear g1 g2 g3
     go_enter Tryz.func14, Tryz.ntmps14
     go_wp2_with (go_at_call 45; (with_reducible refine (HSL.out _ HB.out).mono ?_); rintro e w2 ⟨rfl, hb⟩; replace HX := hU (HX.out.up hb); replace HB := hU (bQ HB.out hb); have zU := uU hb z1 (uU hb z2 (uU hb z3 trivial)); clear z1 z2 z3; obtain ⟨z1, z2, z3, -⟩ := zU; clear hb f0 f1 f2 f3 f4 f5 f6; obtain ⟨f0, f1, f2, f3, f4, f5, f6, _⟩ := HX.out.c7)
     go_ret
     exact .mk false rfl ⟨fun h => (by cases h), fun h => absurd h HNO.out⟩ HB.out
   ·have g2b : decide (F.t.n > 32) = true := by simp; omega
    have HNO : Hid (¬ okP F tr) := hU (fun h => g2 (HOK.out.1 h).2.1)
    clear g1 g2
    go_enter Tryz.func14, Tryz.ntmps14
    go_wp2_with fail
    go_ret
    exact .mk false rfl ⟨fun h => (by cases h), fun h => absurd h HNO.out⟩ HB.out
  ·have g1b : (oo.tu != 0) = true := bne_iff_ne.2 g1
   have HNO : Hid (¬ okP F tr) := hU (fun h => g1 (HOK.out.1 h).1)
   clear g1
   go_enter Tryz.func14, Tryz.ntmps14
   go_wp2_with fail
   go_ret
   exact .mk false rfl ⟨fun h => (by cases h), fun h => absurd h HNO.out⟩ HB.out
 ·have h1b : ((F.out.length : Int) != 1) = true := by rw [bne_iff_ne]; omega
  have HNO : Hid (¬ okP F tr) := hU (fun ⟨o, e, _⟩ => h1 (by rw [e]; rfl))
  clear h1
  go_enter Tryz.func14, Tryz.ntmps14
  go_wp2_with fail
  go_ret
  exact .mk false rfl ⟨fun h => (by cases h), fun h => absurd h HNO.out⟩ HB.out
end
end
end Go.Proofs.YtdnjflpmbnjgeaaGreat
