/-
  waypointref56: sent, slow, settled (printed by gen_vs2.py).
-/
import Derived.Test.YtdnjflpmbnjgeaaGreatPkVl3
import Derived.Test.YtdnjflpmbnjgeaaGreatPkVyEz
set_option linter.unusedSimpArgs false
set_option linter.unusedVariables false
namespace Go.Proofs.YtdnjflpmbnjgeaaGreat
section
open Go.RowKit Go.Sort
attribute [-go_sem] run_neq_struct run_equalIn_agg
/-- The time of the first sending, or -1. -/
def sentV (tr : List Ev) (id : Int) : Int := (sentF tr id).getD (-1)
theorem sentV_none {tr : List Ev} {id : Int} (h : ∀ e ∈ tr, ¬ (e.k = 1 ∧ e.p = id)) : sentV tr id = -1 := by
 have : tr.find? (fun e => e.k == 1 && e.p == id) = none := by
  rw [List.find?_eq_none]
  intro e he h1
  simp only [Bool.and_eq_true, beq_iff_eq] at h1
  exact h e he h1
 simp [sentV, sentF, this]
theorem sentV_some {tr : List Ev} {id : Int} {k : Nat} {e : Ev} (h : ∀ x ∈ tr.take k, ¬ (x.k = 1 ∧ x.p = id)) (hk : tr[k]? = some e) (he : e.k = 1 ∧ e.p = id) : sentV tr id = e.t := by
 have h1 : (tr.take k).find? (fun e => e.k == 1 && e.p == id) = none := by
  rw [List.find?_eq_none]
  intro e he h1
  simp only [Bool.and_eq_true, beq_iff_eq] at h1
  exact h e he h1
 obtain ⟨h2, h3⟩ := List.getElem?_eq_some_iff.1 hk
 have h4 : tr = tr.take k ++ (e :: tr.drop (k + 1)) := by
  rw [← h3, ← List.drop_eq_getElem_cons h2, List.take_append_drop]
 have h5 : tr.find? (fun e => e.k == 1 && e.p == id) = some e := by
  rw [h4, List.find?_append, h1, List.find?_cons_of_pos (by simp [he])]
  rfl
 simp [sentV, sentF, h5]
section
variable {w : World} {A1 A2 A O : Option Addr}
set_option maxRecDepth 100000 in
set_option maxHeartbeats 4000000 in
theorem ref56_sent (tr : List Ev) (ct : Nat) (id : Int) (hE : RdE w A tr) (hl : tr.length ≤ 100000) :
    Calls Tryz.prog 49 #[.slice A tr.length ct, .int .i64 id] w fun e w' => e = .returned (.int .i64 (sentV tr id)) ∧ Below w.heap.size w w' := by
 obtain ⟨R, hR⟩ : ∃ R, R = sentV tr id := ⟨_, rfl⟩
 rw [← hR]
 have HR := hU hR
 have HE := hU hE
 clear hR hE
 go_enter Tryz.func49, Tryz.ntmps49
 go_wp2_with fail
 go_loopw [5] (fun i wr => ∃ q : Nat, q ≤ tr.length ∧ i = .int .i64 q ∧ Hid (∀ e ∈ tr.take q, ¬ (e.k = 1 ∧ e.p = id)) ∧ Hid (Below w.heap.size w wr)) (fun i _ => tr.length - (intOf i).toNat)
 case atStart => exact ⟨0, Nat.zero_le _, rfl, hU (by simp), hU (Below.refl _ _)⟩
 case round =>
  obtain ⟨q, hq, rfl, HK, HB⟩ := hrel
  by_cases hlt : q < tr.length
  ·have hlt' : (q : Int) < (tr.length : Int) := by omega
   obtain ⟨bz, oz, ev, hAz, hev, hcz⟩ := (HE.out.below HB.out).at_ hlt
   have HTK : Hid (tr.take (q + 1) = tr.take q ++ [ev]) := hU (by rw [List.take_add_one, hev]; rfl)
   have HEV := hU hev
   obtain ⟨x, k, n, a, p, r⟩ := ev
   obtain ⟨z0, z1, z2, z3, z4, z5⟩ := hcz
   simp only at z0 z1 z2 z3 z4 z5
   clear hev
   subst hAz
   by_cases g1 : k = 1
   ·subst g1
    by_cases gp : p = id
    ·have gpb : (p == id) = true := beq_iff_eq.2 gp
     have HRV : Hid (R = x) := hU (by rw [HR.out]; exact sentV_some HK.out HEV.out ⟨rfl, gp⟩)
     clear gp
     go_wp2_with fail
     go_ret
     exact ⟨by rw [HRV.out]; rfl, HB.out⟩
    ·have gpb : (p == id) = false := beq_eq_false_iff_ne.2 gp
     have HNE := hU gp
     clear gp
     go_wp2_with fail
     go_roundw
     case rel => exact ⟨q + 1, by omega, by go_num, hU (by rw [HTK.out]; intro e he; rcases List.mem_append.1 he with he | he; exact HK.out e he; rw [List.mem_singleton.1 he]; exact fun h => HNE.out h.2), HB⟩
     case measure => simp [intOf]; omega
   ·have g1b : (k == 1) = false := beq_eq_false_iff_ne.2 g1
    have HNE := hU g1
    clear g1
    go_wp2_with fail
    go_roundw
    case rel => exact ⟨q + 1, by omega, by go_num, hU (by rw [HTK.out]; intro e he; rcases List.mem_append.1 he with he | he; exact HK.out e he; rw [List.mem_singleton.1 he]; exact fun h => HNE.out h.1), HB⟩
    case measure => simp [intOf]; omega
  ·obtain rfl : q = tr.length := by omega
   have HRV : Hid (R = -1) := hU (by rw [HR.out]; exact sentV_none (by have := HK.out; rwa [List.take_length] at this))
   go_wp2_with fail
   go_ret
   exact ⟨by rw [HRV.out]; rfl, HB.out⟩
set_option maxRecDepth 100000 in
set_option maxHeartbeats 4000000 in
theorem ref56_slow (F : FaN) (c1 c2 co : Nat) (hv : valid F.t = true) (hT : TAt w A1 A2 F.t) :
    Calls Tryz.prog 45 #[.agg #[.int .i64 F.t.n, .slice A1 F.t.ov.length c1, .slice A2 F.t.ls.length c2, .int .i64 F.det, .int .i64 F.ga, .int .i64 F.ho, .slice O F.out.length co]] w fun e w' => e = .returned (.bool (decide (leastV F.t < F.ga) && decide (leastV F.t < F.ho))) ∧ Below w.heap.size w w' := by
 obtain ⟨R, hR⟩ : ∃ R, R = (decide (leastV F.t < F.ga) && decide (leastV F.t < F.ho)) := ⟨_, rfl⟩
 rw [← hR]
 have HR := hU hR
 have HLL := hU (zQ hv)
 have HN := hU (iZ hv)
 have HV := hU hv
 have HT := hU hT
 have HX := hU (Bl.new w #[.int .i64 F.t.n, .slice A1 F.t.ov.length c1, .slice A2 F.t.ls.length c2, .int .i64 F.det, .int .i64 F.ga, .int .i64 F.ho, .slice O F.out.length co] 28)
 have HB := hU (cQ w (.cells #[.int .i64 F.t.n, .slice A1 F.t.ov.length c1, .slice A2 F.t.ls.length c2, .int .i64 F.det, .int .i64 F.ga, .int .i64 F.ho, .slice O F.out.length co] 28))
 obtain ⟨f0, f1, f2, f3, f4, f5, f6, _⟩ := HX.out.c7
 have hll := HLL.out
 clear hR hv hT
 go_enter Tryz.func45, Tryz.ntmps45
 go_upto_region 1 with fail
 refine kQ (fun Y => Bl 28 w.heap.size #[.int .i64 F.t.n, .slice A1 F.t.ov.length c1, .slice A2 F.t.ls.length c2, .int .i64 F.det, .int .i64 F.ga, .int .i64 F.ho, .slice O F.out.length co] Y ∧ Below w.heap.size w Y) ⟨HX.out, HB.out⟩ ?_
 clear HX HB f0 f1 f2 f3 f4 f5 f6
 rintro Y ⟨h1, h2⟩
 have HX := hU h1
 have HB := hU h2
 clear h1 h2
 obtain ⟨f0, f1, f2, f3, f4, f5, f6, _⟩ := HX.out.c7
 go_wp2_with fail
 go_loopw [3, 4] (fun y i wr => ∃ q : Nat, q ≤ F.t.ls.length ∧ y = .int .i64 (maxD (F.t.ls.take q)) ∧ i = .int .i64 q ∧ Hid (Bl 28 w.heap.size #[.int .i64 F.t.n, .slice A1 F.t.ov.length c1, .slice A2 F.t.ls.length c2, .int .i64 F.det, .int .i64 F.ga, .int .i64 F.ho, .slice O F.out.length co] wr) ∧ Hid (Below w.heap.size w wr)) (fun _ i _ => F.t.ls.length - (intOf i).toNat)
 case atStart => exact ⟨0, Nat.zero_le _, rfl, rfl, HX, HB⟩
 case round =>
  clear HX HB f0 f1 f2 f3 f4 f5 f6
  obtain ⟨q, hq, rfl, rfl, HX, HB⟩ := hrel
  obtain ⟨f0, f1, f2, f3, f4, f5, f6, _⟩ := HX.out.c7
  by_cases hlt : q < F.t.ls.length
  ·have hlt' : (q : Int) < (F.t.ls.length : Int) := by omega
   obtain ⟨lb, lo, l, hA2, hl, hla⟩ := (HT.out.below HB.out).ls.at_ hlt
   have HTK : Hid (maxD (F.t.ls.take (q + 1)) = max (maxD (F.t.ls.take q)) l.dl) := hU (by rw [List.take_add_one, hl]; exact maxD_snoc _ _)
   obtain ⟨z0, z1, z2, z3, z4, z5, z6⟩ := hla
   clear hl
   subst hA2
   go_wp2_with fail
   go_roundw
   case rel => exact ⟨q + 1, by omega, by rw [HTK.out]; congr 1; split <;> omega, by go_num, HX, HB⟩
   case measure => simp [intOf]; omega
  ·obtain rfl : q = F.t.ls.length := by omega
   rw [List.take_length]
   have hD : 0 ≤ maxD F.t.ls ∧ maxD F.t.ls ≤ 65536 := maxD_bd (n := F.t.n) F.t.ls 0 (fun l hl => by
    obtain ⟨i, hi, rfl⟩ := List.getElem_of_mem hl
    exact valid_lnk HV.out (List.getElem?_eq_getElem hi)) (by omega) (by omega)
   have hP : 0 ≤ F.t.n * maxD F.t.ls ∧ F.t.n * maxD F.t.ls ≤ 4194304 := ⟨Int.mul_nonneg (by have := HN.out; omega) hD.1, by
    have h1 := Int.mul_le_mul (show F.t.n ≤ 64 from HN.out.2) hD.2 hD.1 (by omega : (0 : Int) ≤ 64)
    omega⟩
   have hLV : leastV F.t = F.t.n * maxD F.t.ls + 4 := rfl
   obtain ⟨D, hDD⟩ : ∃ D, D = maxD F.t.ls := ⟨_, rfl⟩
   rw [← hDD] at hP hLV ⊢
   clear hD hDD
   obtain ⟨P, hPP⟩ : ∃ P, F.t.n * D = P := ⟨_, rfl⟩
   rw [hPP] at hP hLV
   have HPP := hU hPP
   have HLV := hU hLV
   have hw1 := IntWalk.wrap64_in P (by omega)
   have hw2 := IntWalk.wrap64_in (P + 4) (by omega)
   clear hLV
   by_cases g1 : P + 4 < F.ga
   ·have g1b : decide (F.ga > P + 4) = true := by simp; exact g1
    by_cases g2 : P + 4 < F.ho
    ·have g2b : decide (F.ho > P + 4) = true := by simp; exact g2
     have HRV : Hid (R = true) := hU (by rw [HR.out, HLV.out]; simp [g1, g2])
     clear g1 g2
     go_wp2_with fail
     go_ret
     exact ⟨by rw [HRV.out]; rfl, HB.out⟩
    ·have g2b : decide (F.ho > P + 4) = false := by simp; omega
     have HRV : Hid (R = false) := hU (by rw [HR.out, HLV.out]; simp [g2])
     clear g1 g2
     go_wp2_with fail
     go_ret
     exact ⟨by rw [HRV.out]; rfl, HB.out⟩
   ·have g1b : decide (F.ga > P + 4) = false := by simp; omega
    have HRV : Hid (R = false) := hU (by rw [HR.out, HLV.out]; simp [g1])
    clear g1
    go_wp2_with fail
    go_ret
    exact ⟨by rw [HRV.out]; rfl, HB.out⟩
theorem setR_miss {t : Topo} {k m : Int} {pre r : List Ev} {e : Ev} (h : ¬ (e.k = 5 ∧ e.a = k ∧ e.r = m)) : setR t k m pre (e :: r) = setR t k m (pre ++ [e]) r := by rw [setR, if_neg h]
theorem setR_hit {t : Topo} {k m : Int} {pre r : List Ev} {e : Ev} (h : e.k = 5 ∧ e.a = k ∧ e.r = m) : setR t k m pre (e :: r) = ((List.range t.n.toNat).all (fun n => stR pre (n : Int) == 3) && (List.range (2 * t.ls.length)).all (fun a => upR t pre (a : Int))) := by rw [setR, if_pos h]
set_option maxRecDepth 100000 in
set_option maxHeartbeats 8000000 in
theorem ref56_settled (t : Topo) (tr : List Ev) (c1 c2 ct : Nat) (ck cm : Int) (hv : valid t = true) (hT : TAt w A1 A2 t) (hE : RdE w A tr) (hl : tr.length ≤ 100000) :
    Calls Tryz.prog 47 #[.agg #[.int .i64 t.n, .slice A1 t.ov.length c1, .slice A2 t.ls.length c2], .slice A tr.length ct, .agg #[.int .i64 ck, .int .i64 cm]] w fun e w' => e = .returned (.bool (setR t ck cm [] tr)) ∧ Below w.heap.size w w' := by
 obtain ⟨R, hR⟩ : ∃ R, R = setR t ck cm [] tr := ⟨_, rfl⟩
 rw [← hR]
 have HR := hU hR
 have HLL := hU (zQ hv)
 have HN := hU (iZ hv)
 have HV := hU hv
 have HT := hU hT
 have HE := hU hE
 have hb1 := cQ w (.cells #[.int .i64 t.n, .slice A1 t.ov.length c1, .slice A2 t.ls.length c2] 25)
 have hb2 := cQ (w.alloc (.cells #[.int .i64 t.n, .slice A1 t.ov.length c1, .slice A2 t.ls.length c2] 25)) (.cells #[.int .i64 ck, .int .i64 cm] 79)
 have n1 := (Bl.new w #[.int .i64 t.n, .slice A1 t.ov.length c1, .slice A2 t.ls.length c2] 25).up hb2
 have n2 := Bl.new (w.alloc (.cells #[.int .i64 t.n, .slice A1 t.ov.length c1, .slice A2 t.ls.length c2] 25)) #[.int .i64 ck, .int .i64 cm] 79
 simp only [World.size_alloc] at n2
 have HB := hU (bQ hb1 hb2)
 have HX := hU n1
 have HC := hU n2
 obtain ⟨NN, hNe⟩ : ∃ NN : Nat, t.n = (NN : Int) := ⟨t.n.toNat, by have := HN.out; omega⟩
 have HNE := hU hNe
 have HNT : Hid (t.n.toNat = NN) := hU (by omega)
 have hNN64 : NN ≤ 64 := by have := HN.out; omega
 have hll := HLL.out
 clear hR hv hT hE hb1 hb2 n1 n2 hNe
 go_enter Tryz.func47, Tryz.ntmps47
 go_upto_region 1 with fail
 refine kQ (fun Y => Bl 25 w.heap.size #[.int .i64 t.n, .slice A1 t.ov.length c1, .slice A2 t.ls.length c2] Y ∧ Bl 79 (w.heap.size + 1) #[.int .i64 ck, .int .i64 cm] Y ∧ Below w.heap.size w Y) ⟨HX.out, HC.out, HB.out⟩ ?_
 clear HX HC HB
 rintro Y ⟨h1, h2, h3⟩
 have HX := hU h1
 have HC := hU h2
 have HB := hU h3
 clear h1 h2 h3
 go_wp2_with fail
 go_loopw [7] (fun i wr => ∃ q : Nat, q ≤ tr.length ∧ i = .int .i64 q ∧ Hid (setR t ck cm (tr.take q) (tr.drop q) = R) ∧ Hid (Bl 25 w.heap.size #[.int .i64 t.n, .slice A1 t.ov.length c1, .slice A2 t.ls.length c2] wr) ∧ Hid (Bl 79 (w.heap.size + 1) #[.int .i64 ck, .int .i64 cm] wr) ∧ Hid (Below w.heap.size w wr)) (fun i _ => tr.length - (intOf i).toNat)
 case atStart => exact ⟨0, Nat.zero_le _, rfl, hU HR.out.symm, HX, HC, HB⟩
 case round =>
  clear HX HC HB
  obtain ⟨q, hq, rfl, HK, HX, HC, HB⟩ := hrel
  obtain ⟨b0, b1, b2, _⟩ := HX.out.c3
  obtain ⟨p0, p1, _⟩ := HC.out.c2
  by_cases hlt : q < tr.length
  ·have hlt' : (q : Int) < (tr.length : Int) := by omega
   obtain ⟨bz, oz, ev, hAz, hev, hcz⟩ := (HE.out.below HB.out).at_ hlt
   have HTK : Hid (tr.take (q + 1) = tr.take q ++ [ev]) := hU (by rw [List.take_add_one, hev]; rfl)
   have HDR : Hid (tr.drop q = ev :: tr.drop (q + 1)) := hU (by rw [List.drop_eq_getElem_cons hlt]; congr 1; rw [List.getElem?_eq_getElem hlt] at hev; injection hev)
   obtain ⟨x, k, n, a, p, r⟩ := ev
   have HMI : Hid (¬ (k = 5 ∧ a = ck ∧ r = cm) → setR t ck cm (tr.take (q + 1)) (tr.drop (q + 1)) = R) := hU (fun h => by rw [← HK.out, HDR.out, HTK.out]; exact (setR_miss h).symm)
   obtain ⟨z0, z1, z2, z3, z4, z5⟩ := hcz
   simp only at z0 z1 z2 z3 z4 z5
   have HCM : Hid (∀ d os, Calls Tryz.prog 44 #[.agg #[.int .i64 x, .int .i64 k, .int .i64 n, .int .i64 a, .int .i64 p, .int .i64 r]] (grow (redrawn wr d) os) fun e w'' => e = .returned (.agg #[.int .i64 a, .int .i64 r]) ∧ ∃ p : Regrown, w'' = grow (redrawn wr p.d) p.os) := hU fun d os => Calls.regrown_of (ref56_component x k n a p r)
   clear hev
   have hcm := cm_neq a r ck cm
   have HZE := hU hAz
   subst hAz
   by_cases g5 : k = 5
   ·subst g5
    by_cases gc : a = ck ∧ r = cm
    ·obtain ⟨rfl, rfl⟩ := gc
     have HHIT : Hid (R = ((List.range NN).all (fun n => stR (tr.take q) (n : Int) == 3) && (List.range (2 * t.ls.length)).all (fun a => upR t (tr.take q) (a : Int)))) := hU (by rw [← HK.out, HDR.out, ← HNT.out]; exact setR_hit ⟨rfl, rfl, rfl⟩)
     have c1 : (a == a) = true := by simp
     have c2 : (r == r) = true := by simp
     rw [c1, c2] at hcm
     clear c1 c2 HMI
     go_wp2_with fail
     obtain ⟨P1, P2, P3, P4, P5, P6, P7, P8, P9, P10, P11, -⟩ := kU b0 (kU b1 (kU b2 (kU p0 (kU p1 (kU z0 (kU z1 (kU z2 (kU z3 (kU z4 (kU z5 trivial))))))))))
     refine wp_region_quiet_below (by kernel_rfl) (by kernel_rfl) ?_
     repeat (go_big_quiet_step ((with_reducible exact HCM.out _ _)))
     refine wpQuiet_nil ?_
     intro W2 hb
     replace hb := eQ hb
     clear P1 P2 P3 P4 P5 P6 P7 P8 P9 P10 P11
     have zU := uU hb b0 (uU hb b1 (uU hb b2 (uU hb p0 (uU hb p1 (uU hb z0 (uU hb z1 (uU hb z2 (uU hb z3 (uU hb z4 (uU hb z5 trivial)))))))))); clear b0 b1 b2 p0 p1 z0 z1 z2 z3 z4 z5; obtain ⟨b0, b1, b2, p0, p1, z0, z1, z2, z3, z4, z5, -⟩ := zU
     replace HX := hU (HX.out.up hb)
     replace HB := hU (bQ HB.out hb)
     clear hb HC HCM hcm p0 p1 z0 z1 z2 z3 z4 z5
     go_wp2_with fail
     go_loopw [8] (fun i wr => ∃ j : Nat, j ≤ NN ∧ i = .int .i64 j ∧ Hid (∀ i : Nat, i < j → stR (tr.take q) (i : Int) = 3) ∧ Hid (Bl 25 w.heap.size #[.int .i64 t.n, .slice A1 t.ov.length c1, .slice A2 t.ls.length c2] wr) ∧ Hid (Below w.heap.size w wr)) (fun i _ => NN - (intOf i).toNat)
     case atStart => exact ⟨0, Nat.zero_le _, rfl, hU (fun i h => by omega), HX, HB⟩
     case round =>
      clear HX HB b0 b1 b2
      obtain ⟨j, hj, rfl, HJ, HX, HB⟩ := hrel
      obtain ⟨b0, b1, b2, _⟩ := HX.out.c3
      by_cases hjl : j < NN
      ·have hjl' : (j : Int) < t.n := by have := HNE.out; omega
       obtain ⟨S, hS⟩ : ∃ S, S = stR (tr.take q) (j : Int) := ⟨_, rfl⟩
       have HSE := hU hS
       have HST : Hid (∀ W : World, Below w.heap.size w W → Calls Tryz.prog 79 #[.slice (some ⟨bz, oz, none⟩) tr.length ct, .int .i64 q, .int .i64 (j : Int)] W fun e w' => ∃ x : Int, e = .returned (.tuple #[.int .i64 S, .int .i64 x]) ∧ Below W.heap.size W w') := hU (fun W hW => by rw [hS]; exact ref56_State tr ct q (j : Int) (HE.out.below hW) hq (by omega))
       clear hS
       by_cases gs : S = 3
       ·have gsb : (S != 3) = false := by simp [gs]
        have HGS := hU gs
        clear gs
        go_wp2_with (go_at_call 79; (with_reducible refine (HST.out _ HB.out).mono ?_); rintro e w2 ⟨y, rfl, hb⟩; replace HX := hU (HX.out.up hb); replace HB := hU (bQ HB.out hb); clear hb b0 b1 b2)
        go_roundw
        case rel => exact ⟨j + 1, by omega, by go_num, hU (fun i h => by
         by_cases e : i = j
         ·subst e; rw [← HSE.out]; exact HGS.out
         ·exact HJ.out i (by omega)), HX, HB⟩
        case measure => simp [intOf]; omega
       ·have gsb : (S != 3) = true := bne_iff_ne.2 gs
        have HRV : Hid (R = false) := hU (by
         rw [HHIT.out, Bool.and_eq_false_iff]
         refine .inl ?_
         rw [List.all_eq_false]
         exact ⟨j, List.mem_range.2 hjl, by rw [← HSE.out]; simp [gs]⟩)
        clear gs
        go_wp2_with (go_at_call 79; (with_reducible refine (HST.out _ HB.out).mono ?_); rintro e w2 ⟨y, rfl, hb⟩; replace HX := hU (HX.out.up hb); replace HB := hU (bQ HB.out hb); clear hb b0 b1 b2)
        go_ret
        exact ⟨by rw [HRV.out]; rfl, HB.out⟩
      ·obtain rfl : j = NN := by omega
       have HALL : Hid ((List.range j).all (fun n => stR (tr.take q) (n : Int) == 3) = true) := hU (by
        rw [List.all_eq_true]
        intro i hi
        rw [beq_iff_eq]
        exact HJ.out i (List.mem_range.1 hi))
       replace HHIT : Hid (R = (List.range (2 * t.ls.length)).all (fun a => upR t (tr.take q) (a : Int))) := hU (by rw [HHIT.out, HALL.out, Bool.true_and])
       have hjn : t.n ≤ (j : Int) := by have := HNE.out; omega
       have hw2 := IntWalk.wrap64_in (2 * (t.ls.length : Int)) (by omega)
       go_wp2_with fail
       go_loopw [11] (fun i wr => ∃ j : Nat, j ≤ 2 * t.ls.length ∧ i = .int .i64 j ∧ Hid (∀ i : Nat, i < j → upR t (tr.take q) (i : Int) = true) ∧ Hid (Bl 25 w.heap.size #[.int .i64 t.n, .slice A1 t.ov.length c1, .slice A2 t.ls.length c2] wr) ∧ Hid (Below w.heap.size w wr)) (fun i _ => 2 * t.ls.length - (intOf i).toNat)
       case atStart => exact ⟨0, Nat.zero_le _, rfl, hU (fun i h => by omega), HX, HB⟩
       case round =>
        clear HX HB b0 b1 b2
        obtain ⟨u, hu, rfl, HU, HX, HB⟩ := hrel
        obtain ⟨b0, b1, b2, _⟩ := HX.out.c3
        by_cases hul : u < 2 * t.ls.length
        ·have hul' : (u : Int) < 2 * (t.ls.length : Int) := by omega
         obtain ⟨S, hS⟩ : ∃ S, S = upR t (tr.take q) (u : Int) := ⟨_, rfl⟩
         have HSE := hU hS
         have HUP : Hid (∀ W : World, Below w.heap.size w W → Calls Tryz.prog 80 #[.agg #[.int .i64 t.n, .slice A1 t.ov.length c1, .slice A2 t.ls.length c2], .slice (some ⟨bz, oz, none⟩) tr.length ct, .int .i64 q, .int .i64 (u : Int)] W fun e w' => e = .returned (.bool S) ∧ Below W.heap.size W w') := hU (fun W hW => by rw [hS]; exact ref56_Up t _ _ tr ct q (u : Int) HV.out (HT.out.below hW) (by omega) hul' (HE.out.below hW) hq (by omega))
         clear hS
         cases S with
         | true =>
          go_wp2_with (go_at_call 80; (with_reducible refine (HUP.out _ HB.out).mono ?_); rintro e w2 ⟨rfl, hb⟩; replace HX := hU (HX.out.up hb); replace HB := hU (bQ HB.out hb); clear hb b0 b1 b2)
          go_roundw
          case rel => exact ⟨u + 1, by omega, by go_num, hU (fun i h => by
           by_cases e : i = u
           ·subst e; exact HSE.out.symm
           ·exact HU.out i (by omega)), HX, HB⟩
          case measure => simp [intOf]; omega
         | false =>
          have HRV : Hid (R = false) := hU (by
           rw [HHIT.out, List.all_eq_false]
           exact ⟨u, List.mem_range.2 hul, by rw [← HSE.out]; simp⟩)
          go_wp2_with (go_at_call 80; (with_reducible refine (HUP.out _ HB.out).mono ?_); rintro e w2 ⟨rfl, hb⟩; replace HX := hU (HX.out.up hb); replace HB := hU (bQ HB.out hb); clear hb b0 b1 b2)
          go_ret
          exact ⟨by rw [HRV.out]; rfl, HB.out⟩
        ·obtain rfl : u = 2 * t.ls.length := by omega
         have HRV : Hid (R = true) := hU (by
          rw [HHIT.out, List.all_eq_true]
          intro i hi
          exact HU.out i (List.mem_range.1 hi))
         go_wp2_with fail
         go_ret
         exact ⟨by rw [HRV.out]; rfl, HB.out⟩
    ·have gcb : ((a == ck) && (r == cm)) = false := by
      rw [Bool.eq_false_iff]
      intro h
      simp only [Bool.and_eq_true, beq_iff_eq] at h
      exact gc h
     have HMX := hU (HMI.out (fun h => gc h.2))
     rw [gcb] at hcm
     clear gc gcb HMI
     go_wp2_with fail
     obtain ⟨P1, P2, P3, P4, P5, P6, P7, P8, P9, P10, P11, -⟩ := kU b0 (kU b1 (kU b2 (kU p0 (kU p1 (kU z0 (kU z1 (kU z2 (kU z3 (kU z4 (kU z5 trivial))))))))))
     refine wp_region_quiet_below (by kernel_rfl) (by kernel_rfl) ?_
     repeat (go_big_quiet_step ((with_reducible exact HCM.out _ _)))
     refine wpQuiet_nil ?_
     intro W2 hb
     replace hb := eQ hb
     clear P1 P2 P3 P4 P5 P6 P7 P8 P9 P10 P11
     have zU := uU hb b0 (uU hb b1 (uU hb b2 (uU hb p0 (uU hb p1 (uU hb z0 (uU hb z1 (uU hb z2 (uU hb z3 (uU hb z4 (uU hb z5 trivial)))))))))); clear b0 b1 b2 p0 p1 z0 z1 z2 z3 z4 z5; obtain ⟨b0, b1, b2, p0, p1, z0, z1, z2, z3, z4, z5, -⟩ := zU
     replace HX := hU (HX.out.up hb)
     replace HC := hU (HC.out.up hb)
     replace HB := hU (bQ HB.out hb)
     clear hb HCM hcm b0 b1 b2 p0 p1 z0 z1 z2 z3 z4 z5
     go_wp2_with fail
     go_roundw
     case rel => exact ⟨q + 1, by omega, by go_num, HMX, HX, HC, HB⟩
     case measure => simp [intOf]; omega
   ·have g5b : (k != 5) = true := bne_iff_ne.2 g5
    have HMX := hU (HMI.out (fun h => g5 h.1))
    clear g5 HMI hcm
    go_wp2_with fail
    obtain ⟨P1, P2, P3, P4, P5, P6, P7, P8, P9, P10, P11, -⟩ := kU b0 (kU b1 (kU b2 (kU p0 (kU p1 (kU z0 (kU z1 (kU z2 (kU z3 (kU z4 (kU z5 trivial))))))))))
    refine wp_region_quiet_below (by kernel_rfl) (by kernel_rfl) ?_
    repeat (go_big_quiet_step ((with_reducible exact HCM.out _ _)))
    refine wpQuiet_nil ?_
    intro W2 hb
    replace hb := eQ hb
    clear P1 P2 P3 P4 P5 P6 P7 P8 P9 P10 P11
    have zU := uU hb b0 (uU hb b1 (uU hb b2 (uU hb p0 (uU hb p1 (uU hb z0 (uU hb z1 (uU hb z2 (uU hb z3 (uU hb z4 (uU hb z5 trivial)))))))))); clear b0 b1 b2 p0 p1 z0 z1 z2 z3 z4 z5; obtain ⟨b0, b1, b2, p0, p1, z0, z1, z2, z3, z4, z5, -⟩ := zU
    replace HX := hU (HX.out.up hb)
    replace HC := hU (HC.out.up hb)
    replace HB := hU (bQ HB.out hb)
    clear hb HCM b0 b1 b2 p0 p1 z0 z1 z2 z3 z4 z5
    go_wp2_with fail
    go_roundw
    case rel => exact ⟨q + 1, by omega, by go_num, HMX, HX, HC, HB⟩
    case measure => simp [intOf]; omega
  ·obtain rfl : q = tr.length := by omega
   have HRV : Hid (R = false) := hU (by rw [← HK.out, List.drop_length]; rfl)
   go_wp2_with fail
   go_ret
   exact ⟨by rw [HRV.out]; rfl, HB.out⟩
end
end
end Go.Proofs.YtdnjflpmbnjgeaaGreat
