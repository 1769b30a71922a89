/-
  A checker takes an event into account (printed by gen_vye2.py).
  Components compared; verify.converged (printed by gen_vyg.py).
  verify's guard in plain Lean and in memory.
  Stores into a guard.
-/
import Derived.Test.YtdnjflpmbnjgeaaGreatPkVyE0
import Derived.Test.YtdnjflpmbnjgeaaGreatVyE2
import Derived.Test.YtdnjflpmbnjgeaaGreatPkVyE5
import Derived.Test.YtdnjflpmbnjgeaaGreatPkFe
import Derived.ChangeKeysEq
import Derived.Test.YtdnjflpmbnjgeaaGreatCov
set_option linter.unusedSimpArgs false
set_option linter.unusedVariables false
namespace Go.Proofs.YtdnjflpmbnjgeaaGreat
section
open Go.RowKit Go.Sort
section
variable {w w0 : World} {F : FaN} {A1 A2 O : Option Addr} {c1 c2 co : Nat} {fl : Value} {b : CkB} {pm : Int → Option PkN} {pr : Int → Bool}
theorem vy_see (c : CkS) (x k n a p r : Int) (hC : CkAt F A1 A2 O c1 c2 co fl b pm pr c w) (hle : ∀ j ∈ b.L, w0.heap.size ≤ j) (h0 : Below w0.heap.size w0 w) (hT : TAt w0 A1 A2 F.t) (hv : valid F.t = true) (hev : evOk ⟨x, k, n, a, p, r⟩ = true) (hnm : xQ F.t ⟨x, k, n, a, p, r⟩ = true)
    (l1 : c.st.length = F.t.n.toNat) (l2 : c.en.length = F.t.n.toNat) (l3 : c.ch.length = F.t.n.toNat) (l4 : c.up.length = 2 * F.t.ls.length) (hcr : ∀ q j, 0 ≤ c.cr q j ∧ c.cr q j ≤ 1000000) :
    Calls Tryz.prog 28 #[.pointer (some ⟨b.cb, 0, none⟩), .agg #[.int .i64 x, .int .i64 k, .int .i64 n, .int .i64 a, .int .i64 p, .int .i64 r]] w fun e w' => e = .returned (.tuple #[]) ∧ CkAt F A1 A2 O c1 c2 co fl b pm pr (seeS F.t c ⟨x, k, n, a, p, r⟩) w' ∧ Kp b.L w w' := by
 by_cases g1 : k = 1
 ·subst g1; exact vy_see1 c x n a p r hC hle h0 hT hv hev hnm l1 l2 l3 l4 hcr
 by_cases g2 : k = 2
 ·subst g2; exact vy_see2 c x n a p r hC hle h0 hT hv hev hnm l1 l2 l3 l4 hcr
 by_cases g5 : k = 5
 ·subst g5; exact vy_see5 c x n a p r hC hle h0 hT hv hev hnm l1 l2 l3 l4 hcr
 by_cases g6 : k = 6
 ·subst g6; exact vy_see6 c x n a p r hC hle h0 hT hv hev hnm l1 l2 l3 l4 hcr
 by_cases g7 : k = 7
 ·subst g7; exact vy_see7 c x n a p r hC hle h0 hT hv hev hnm l1 l2 l3 l4 hcr
 by_cases g8 : k = 8
 ·subst g8; exact vy_see8 c x n a p r hC hle h0 hT hv hev hnm l1 l2 l3 l4 hcr
 exact vy_see0 c x k n a p r hC hle h0 hT hv hev hnm l1 l2 l3 l4 hcr g1 g2 g5 g6 g7 g8
end
end
section
open Go.RowKit Go.Sort
theorem partV (w : World) (xs : Array Value) (i : Nat) (v : Value) (h : xs[i]? = some v) : (Go.part 3 xs i).run Tryz.prog w = .ok v w := run_part_plain w (by kernel_rfl) h
theorem eqV (d : Nat) (w : World) (a b : Int) : (Op.equalIn (d + 1) 3 (.int .i64 a) (.int .i64 b)).run Tryz.prog w = .ok (a == b) w := run_equalIn_int w d 3 .i64 .i64 a b Tryz.underlying3
theorem eqV_int {d : Nat} {w : World} {xs ys : Array Value} {f : Field} {fs : List Field} {a b : Int} {r : Bool} (hn : f.name ≠ "_") (ht : f.type = 3) (hx : xs[f.offset]? = some (.int .i64 a)) (hy : ys[f.offset]? = some (.int .i64 b))
    (h : (Op.eqFields (d + 1) xs ys fs).run Tryz.prog w = .ok r w) : (Op.eqFields (d + 1) xs ys (f :: fs)).run Tryz.prog w = .ok (a == b && r) w := by
 simp only [Op.eqFields, if_pos hn, Sem.run_bind, Sem.run_ite, Sem.run_pure, ht, partV w _ _ _ hx, partV w _ _ _ hy, Result.andThen_ok, eqV, h]
 cases a == b <;> rfl
theorem cm_eq (a b c d : Int) (w : World) : (Op.equalIn 10000 79 (.agg #[.int .i64 a, .int .i64 b]) (.agg #[.int .i64 c, .int .i64 d])).run Tryz.prog w = .ok ((a == c) && ((b == d) && true)) w := by
 rw [run_equalIn_struct w 9999 79 _ _ (by kernel_rfl) (by kernel_rfl)]
 simp only [Program.fieldsOf, Tryz.underlying79]
 exact eqV_int (by decide) rfl rfl rfl (eqV_int (by decide) rfl rfl rfl (by simp [Op.eqFields]))
theorem cm_neq (a b c d : Int) (w : World) : (binOp .neq 79 (.agg #[.int .i64 a, .int .i64 b]) (.agg #[.int .i64 c, .int .i64 d])).run Tryz.prog w = .ok (.bool (!((a == c) && (b == d)))) w := by
 rw [run_neq_struct, cm_eq]; simp
theorem cm_eql (a b c d : Int) (w : World) : (binOp .eql 79 (.agg #[.int .i64 a, .int .i64 b]) (.agg #[.int .i64 c, .int .i64 d])).run Tryz.prog w = .ok (.bool ((a == c) && (b == d))) w := by
 rw [run_eql_struct, cm_eq]; simp
attribute [-go_sem] run_neq_struct run_equalIn_agg
theorem see_cr (t : Topo) (c : CkS) (e : Ev) (m : Int) (h : ∀ q j, 0 ≤ c.cr q j ∧ c.cr q j ≤ m) : ∀ q j, 0 ≤ (seeS t c e).cr q j ∧ (seeS t c e).cr q j ≤ m + 1 := by
 intro q j
 have := h q j
 unfold seeS
 repeat' split
 all_goals ((try simp only); first | omega | (split <;> omega))
theorem ck_crA {t : Topo} : ∀ (l pre : List Ev), (∀ q j, 0 ≤ (ckR t pre).cr q j ∧ (ckR t pre).cr q j ≤ (pre.length : Int)) → ∀ q j, 0 ≤ (ckR t (pre ++ l)).cr q j ∧ (ckR t (pre ++ l)).cr q j ≤ ((pre ++ l).length : Int)
 | [], pre, h => by rwa [List.append_nil]
 | e :: l, pre, h => by
  rw [show pre ++ e :: l = (pre ++ [e]) ++ l by simp]
  refine ck_crA l _ ?_
  rw [ckR_snoc]
  have := see_cr t (ckR t pre) e _ h
  simpa using this
theorem ck_cr (t : Topo) (l : List Ev) : ∀ q j, 0 ≤ (ckR t l).cr q j ∧ (ckR t l).cr q j ≤ (l.length : Int) := by
 have := ck_crA (t := t) l [] (fun q j => by simp [ckR, CkS.new])
 simpa using this
section
variable {w : World}
set_option maxRecDepth 100000 in
set_option maxHeartbeats 8000000 in
theorem vy_converged (F : FaN) (oo : OutN) (tr : List Ev) (A1 A2 O C : Option Addr) (c1 c2 co ct : Nat) (hT : TAt w A1 A2 F.t) (hO : Rd w O (F.out.flatMap outL)) (hE : RdE w C tr) (hv : valid F.t = true) (hout : F.out = [oo]) (hlt : tr.length ≤ 100000) (hok : trOk tr = true) (hnm : tr.all (xQ F.t) = true) :
    Calls Tryz.prog 36 #[.agg #[.int .i64 F.t.n, .slice A1 F.t.ov.length c1, .slice A2 F.t.ls.length c2, .int .i64 F.det, .int .i64 F.ga, .int .i64 F.ho, .slice O F.out.length co], .slice C tr.length ct] w fun e w' => e = .returned (.bool (setC F.t oo.k oo.m (CkS.new F.t) tr)) ∧ Below w.heap.size w w' := by
 obtain ⟨R, hR⟩ : ∃ R, R = setC F.t oo.k oo.m (CkS.new F.t) tr := ⟨_, rfl⟩
 rw [← hR]
 have HR := hU hR
 have HT := hU hT
 have HO := hU hO
 have HTR := hU hE
 have HV := hU hv
 have HOK := hU hok
 have HNM := hU hnm
 have HOL : Hid (F.out.length = 1) := hU (by rw [hout]; rfl)
 have HOUT := hU hout
 have HN := hU (iZ hv)
 have HLL := hU (zQ hv)
 have HX := hU (Bl.new w #[.int .i64 F.t.n, .slice A1 F.t.ov.length c1, .slice A2 F.t.ls.length c2, .int .i64 F.det, .int .i64 F.ga, .int .i64 F.ho, .slice O F.out.length co] 28)
 obtain ⟨f0, f1, f2, f3, f4, f5, f6, _⟩ := HX.out.c7
 have HB := hU (cQ w (.cells #[.int .i64 F.t.n, .slice A1 F.t.ov.length c1, .slice A2 F.t.ls.length c2, .int .i64 F.det, .int .i64 F.ga, .int .i64 F.ho, .slice O F.out.length co] 28))
 clear hR hT hO hE hv hout hok hnm
 go_enter Tryz.func36, Tryz.ntmps36
 go_wp2_with (go_at_call 16; (with_reducible refine (vy_newChecker F A1 A2 O c1 c2 co (HT.out.below HB.out) HV.out).mono ?_); rintro e w2 ⟨b, rfl, hC, hle, hb⟩; have HLE := hU (show ∀ j ∈ b.L, w.heap.size + 1 ≤ j from fun j hj => by have := hle j hj; simpa using this); have HC := hU hC; replace HX := hU (HX.out.up hb); replace HB := hU (bQ HB.out hb); clear hC hle hb f0 f1 f2 f3 f4 f5 f6)
 go_loopw [16] (fun i wr => ∃ k : Nat, k ≤ tr.length ∧ i = .int .i64 k ∧ Hid (CkAt F A1 A2 O c1 c2 co (.slice none 0 0) b (fun _ => none) (fun _ => false) (ckR F.t (tr.take k)) wr) ∧ Hid (Bl 28 w.heap.size #[.int .i64 F.t.n, .slice A1 F.t.ov.length c1, .slice A2 F.t.ls.length c2, .int .i64 F.det, .int .i64 F.ga, .int .i64 F.ho, .slice O F.out.length co] wr) ∧ Hid (Below w.heap.size w wr) ∧ Hid (setC F.t oo.k oo.m (ckR F.t (tr.take k)) (tr.drop k) = R)) (fun i _ => tr.length - (intOf i).toNat)
 case atStart => exact ⟨0, Nat.zero_le _, rfl, HC, HX, HB, hU HR.out.symm⟩
 case round =>
  clear HX HB HC HR
  obtain ⟨k, hk, rfl, HC, HX, HB, HK⟩ := hrel
  by_cases hlt : k < tr.length
  ·have hlt' : (k : Int) < (tr.length : Int) := by omega
   obtain ⟨bz, oz, ev, hAz, hev, hcz⟩ := (HTR.out.below HB.out).at_ hlt
   have HTK : Hid (tr.take (k + 1) = tr.take k ++ [ev]) := hU (by rw [List.take_add_one, hev]; rfl)
   have HDR : Hid (tr.drop k = ev :: tr.drop (k + 1)) := hU (by rw [List.drop_eq_getElem_cons hlt]; congr 1; rw [List.getElem?_eq_getElem hlt] at hev; injection hev)
   have HEV : Hid (evOk ev = true) := hU (by
    have h1 := trOk_at HOK.out hlt
    unfold goodE at h1
    rw [getD_at hev, Bool.and_eq_true] at h1
    exact h1.1)
   have HNE : Hid (xQ F.t ev = true) := hU (List.all_eq_true.1 HNM.out ev (List.mem_of_getElem? hev))
   have HCK : Hid (CkR F.t (tr.take k)) := hU (ck_all _ fun e he => List.all_eq_true.1 HNM.out e (List.mem_of_mem_take he))
   have HCR : Hid (∀ q j, 0 ≤ (ckR F.t (tr.take k)).cr q j ∧ (ckR F.t (tr.take k)).cr q j ≤ 1000000) := hU fun q j => by
    have h1 := ck_cr F.t (tr.take k) q j
    rw [List.length_take] at h1
    omega
   obtain ⟨x, kd, n, ar, p, r⟩ := ev
   obtain ⟨z0, z1, z2, z3, z4, z5⟩ := hcz
   simp only at z0 z1 z2 z3 z4 z5
   clear hev
   subst hAz
   go_upto_region 5 with fail
   obtain ⟨eb, heb⟩ : ∃ eb, eb = wr.heap.size := ⟨_, rfl⟩
   refine kQ (fun Y => CkAt F A1 A2 O c1 c2 co (.slice none 0 0) b (fun _ => none) (fun _ => false) (ckR F.t (tr.take k)) Y ∧ Bl 28 w.heap.size #[.int .i64 F.t.n, .slice A1 F.t.ov.length c1, .slice A2 F.t.ls.length c2, .int .i64 F.det, .int .i64 F.ga, .int .i64 F.ho, .slice O F.out.length co] Y ∧ Below w.heap.size w Y ∧ Bl 43 eb #[.int .i64 x, .int .i64 kd, .int .i64 n, .int .i64 ar, .int .i64 p, .int .i64 r] Y) ⟨HC.out.up (cQ wr _), HX.out.up (cQ wr _), bQ HB.out (cQ wr _), by rw [heb]; exact Bl.new wr _ _⟩ ?_
   rw [← heb]
   clear heb HC HX HB z0 z1 z2 z3 z4 z5
   rintro Y ⟨h1, h2, h3, h4⟩
   have HC := hU h1
   have HX := hU h2
   have HB := hU h3
   have HE := hU h4
   clear h1 h2 h3 h4
   obtain ⟨f0, f1, f2, f3, f4, f5, f6, _⟩ := HX.out.c7
   obtain ⟨e0, e1, e2, e3, e4, e5, _⟩ := HE.out.c6
   have hon := row_at (s := 4) (k := 0) (x := oo) (fun _ => rfl) (by omega) (HO.out.below HB.out) (by rw [HOUT.out]; rfl)
   obtain ⟨bo, po, hOz, hco⟩ := hon
   have o2 := hco 2 (.int .i64 oo.k) rfl
   have o3 := hco 3 (.int .i64 oo.m) rfl
   rw [show po + 0 * 4 = po by omega] at o2 o3
   rw [hOz, HOL.out] at f6
   have HOZ := hU hOz
   clear hco hOz
   have HCO := hU (fun (W : World) => vy_componentOf (w := W) x kd n ar p r)
   have hneq := cm_neq ar r oo.k oo.m
   have hqb : ∀ (W : World), W = W := fun _ => rfl
   by_cases hhit : kd = 5 ∧ ar = oo.k ∧ r = oo.m
   ·obtain ⟨rfl, rfl, rfl⟩ := hhit
    replace hneq : ∀ W, _ := fun W => (hneq W).trans (by rw [show (!((oo.k == oo.k) && (oo.m == oo.m))) = false from by simp])
    have HRV : Hid (R = ((ckR F.t (tr.take k)).st.all (fun s => s == 3) && (ckR F.t (tr.take k)).up.all id)) := hU (by rw [← HK.out, HDR.out, setC, if_pos ⟨rfl, rfl, rfl⟩])
    obtain ⟨P1, P2, P3, P4, P5, P6, P7, P8, P9, P10, P11, P12, P13, P14, P15, -⟩ := kU e0 (kU e1 (kU e2 (kU e3 (kU e4 (kU e5 (kU f0 (kU f1 (kU f2 (kU f3 (kU f4 (kU f5 (kU f6 (kU o2 (kU o3 trivial))))))))))))))
    refine wp_region_quiet_below (by kernel_rfl) (by kernel_rfl) ?_
    repeat (go_big_quiet_step ((with_reducible exact Calls.regrown_of (HCO.out _))))
    refine wpQuiet_nil ?_
    intro W2 hb2
    replace hb2 := eQ hb2
    clear P1 P2 P3 P4 P5 P6 P7 P8 P9 P10 P11 P12 P13 P14 P15
    have zU := uU hb2 e0 (uU hb2 e1 (uU hb2 e2 (uU hb2 e3 (uU hb2 e4 (uU hb2 e5 (uU hb2 f0 (uU hb2 f1 (uU hb2 f2 (uU hb2 f3 (uU hb2 f4 (uU hb2 f5 (uU hb2 f6 (uU hb2 o2 (uU hb2 o3 trivial)))))))))))))); clear e0 e1 e2 e3 e4 e5 f0 f1 f2 f3 f4 f5 f6 o2 o3; obtain ⟨e0, e1, e2, e3, e4, e5, f0, f1, f2, f3, f4, f5, f6, o2, o3, -⟩ := zU
    replace HC := hU (HC.out.up hb2)
    replace HB := hU (bQ HB.out hb2)
    clear hb2 f0 f1 f2 f3 f4 f5 f6 o2 o3 hneq HE e0 e1 e2 e3 e4 e5 HX HCO
    generalize hcs : ckR F.t (tr.take k) = cs at *
    obtain ⟨M, hM⟩ : ∃ M, M = F.t.n.toNat := ⟨_, rfl⟩
    have HS := hU (show cs.st.length = M by rw [hM, ← hcs]; exact (ck_all _ fun e he => List.all_eq_true.1 HNM.out e (List.mem_of_mem_take he)).sl)
    have HU := hU (show cs.up.length = 2 * F.t.ls.length by rw [← hcs]; exact (ck_all _ fun e he => List.all_eq_true.1 HNM.out e (List.mem_of_mem_take he)).ul)
    have hM64 : M ≤ 64 := by have := HN.out; omega
    have hll := HLL.out
    have z11 := HC.out.q11
    have z14 := HC.out.q14
    rw [HS.out] at z11
    rw [HU.out] at z14
    clear hcs hM HCK HCR
    go_wp2_with fail
    go_loop [41] (fun i => ∃ j : Nat, j ≤ M ∧ i = .int .i64 j ∧ Hid ((cs.st.take j).all (fun s => s == 3) = true)) (fun i => M - (intOf i).toNat)
    case atStart => exact ⟨0, Nat.zero_le _, rfl, hU rfl⟩
    case round =>
     obtain ⟨j, hj, rfl, HJ⟩ := hrel
     by_cases hjl : j < M
     ·have hjl' : (j : Int) < (M : Int) := by omega
      have q1 := RowI.cell (i := (j : Int)) HC.out.m.st (by omega) (by rw [HS.out]; exact hjl')
      rw [show ((j : Int)).toNat = j by omega] at q1
      have HTJ : Hid (cs.st.take (j + 1) = cs.st.take j ++ [getI cs.st j]) := hU (by
       rw [List.take_add_one, List.getElem?_eq_getElem (by rw [HS.out]; exact hjl)]
       simp [getI, List.getD_eq_getElem?_getD, show j < cs.st.length by rw [HS.out]; exact hjl])
      by_cases h3 : getI cs.st j = 3
      ·have h3b : (getI cs.st j != 3) = false := by simp [h3]
       go_wp2_with fail
       go_round
       case rel => exact ⟨j + 1, by omega, by go_num, hU (by rw [HTJ.out, List.all_append, HJ.out]; simp [h3])⟩
       case measure => simp [intOf]; omega
      ·have h3b : (getI cs.st j != 3) = true := bne_iff_ne.2 h3
       have HRF : Hid (R = false) := hU (by
        rw [HRV.out, Bool.and_eq_false_iff]
        left
        rw [List.all_eq_false]
        refine ⟨getI cs.st j, ?_, by simpa using h3⟩
        have : getI cs.st j ∈ cs.st.take (j + 1) := by rw [HTJ.out]; simp
        exact List.mem_of_mem_take this)
       go_wp2_with fail
       go_ret
       exact ⟨by rw [HRF.out]; rfl, HB.out⟩
     ·obtain rfl : j = M := by omega
      have HRU : Hid (R = cs.up.all id) := hU (by
       have := HJ.out
       rw [← HS.out, List.take_length] at this
       rw [HRV.out, this, Bool.true_and])
      clear HJ
      go_wp2_with fail
      go_loop [53] (fun i => ∃ j : Nat, j ≤ 2 * F.t.ls.length ∧ i = .int .i64 j ∧ Hid ((cs.up.take j).all id = true)) (fun i => 2 * F.t.ls.length - (intOf i).toNat)
      case atStart => exact ⟨0, Nat.zero_le _, rfl, hU rfl⟩
      case round =>
       obtain ⟨i, hi, rfl, HI⟩ := hrel
       by_cases hil : i < 2 * F.t.ls.length
       ·have hil' : (i : Int) < 2 * (F.t.ls.length : Int) := by omega
        have q1 := RowB.cell (i := (i : Int)) HC.out.m.up (by omega) (by rw [HU.out]; omega)
        rw [show ((i : Int)).toNat = i by omega] at q1
        have HTI : Hid (cs.up.take (i + 1) = cs.up.take i ++ [cs.up.getD i false]) := hU (by
         rw [List.take_add_one, List.getElem?_eq_getElem (by rw [HU.out]; exact hil)]
         simp [List.getD_eq_getElem?_getD, show i < cs.up.length by rw [HU.out]; exact hil])
        cases hb3 : cs.up.getD i false with
        | true =>
         rw [hb3] at q1 HTI
         go_wp2_with fail
         go_round
         case rel => exact ⟨i + 1, by omega, by go_num, hU (by rw [HTI.out, List.all_append, HI.out]; rfl)⟩
         case measure => simp [intOf]; omega
        | false =>
         rw [hb3] at q1 HTI
         have HRF : Hid (R = false) := hU (by
          rw [HRU.out, List.all_eq_false]
          refine ⟨false, ?_, by simp⟩
          have : false ∈ cs.up.take (i + 1) := by rw [HTI.out]; simp
          exact List.mem_of_mem_take this)
         go_wp2_with fail
         go_ret
         exact ⟨by rw [HRF.out]; rfl, HB.out⟩
       ·obtain rfl : i = 2 * F.t.ls.length := by omega
        have HRF : Hid (R = true) := hU (by
         have := HI.out
         rw [← HU.out, List.take_length] at this
         rw [HRU.out, this])
        go_wp2_with fail
        go_ret
        exact ⟨by rw [HRF.out]; rfl, HB.out⟩
   ·have HSET : Hid (R = setC F.t oo.k oo.m (seeS F.t (ckR F.t (tr.take k)) ⟨x, kd, n, ar, p, r⟩) (tr.drop (k + 1))) := hU (by rw [← HK.out, HDR.out, setC, if_neg hhit])
    by_cases hk5 : kd = 5
    ·subst hk5
     have hcb : (!((ar == oo.k) && (r == oo.m))) = true := by
      simp only [Bool.not_eq_true', Bool.and_eq_false_iff, beq_eq_false_iff_ne]
      by_cases h : ar = oo.k
      ·exact .inr fun h2 => hhit ⟨rfl, h, h2⟩
      ·exact .inl h
     rw [hcb] at hneq
     clear hhit hcb
     obtain ⟨P1, P2, P3, P4, P5, P6, P7, P8, P9, P10, P11, P12, P13, P14, P15, -⟩ := kU e0 (kU e1 (kU e2 (kU e3 (kU e4 (kU e5 (kU f0 (kU f1 (kU f2 (kU f3 (kU f4 (kU f5 (kU f6 (kU o2 (kU o3 trivial))))))))))))))
     refine wp_region_quiet_below (by kernel_rfl) (by kernel_rfl) ?_
     repeat (go_big_quiet_step ((with_reducible exact Calls.regrown_of (HCO.out _))))
     refine wpQuiet_nil ?_
     intro W2 hb2
     replace hb2 := eQ hb2
     clear P1 P2 P3 P4 P5 P6 P7 P8 P9 P10 P11 P12 P13 P14 P15
     have zU := uU hb2 e0 (uU hb2 e1 (uU hb2 e2 (uU hb2 e3 (uU hb2 e4 (uU hb2 e5 (uU hb2 f0 (uU hb2 f1 (uU hb2 f2 (uU hb2 f3 (uU hb2 f4 (uU hb2 f5 (uU hb2 f6 (uU hb2 o2 (uU hb2 o3 trivial)))))))))))))); clear e0 e1 e2 e3 e4 e5 f0 f1 f2 f3 f4 f5 f6 o2 o3; obtain ⟨e0, e1, e2, e3, e4, e5, f0, f1, f2, f3, f4, f5, f6, o2, o3, -⟩ := zU
     replace HC := hU (HC.out.up hb2)
     replace HX := hU (HX.out.up hb2)
     replace HB := hU (bQ HB.out hb2)
     clear hb2 f0 f1 f2 f3 f4 f5 f6 o2 o3 hneq HE
     go_wp2_with (go_at_call 28; (with_reducible refine (vy_see (w0 := w) (ckR F.t (tr.take k)) x _ n ar p r HC.out (fun j hj => by have := HLE.out j hj; omega) HB.out HT.out HV.out HEV.out HNE.out HCK.out.sl HCK.out.el HCK.out.cl HCK.out.ul HCR.out).mono ?_); rintro e w9 ⟨rfl, hc9, hk9⟩; have HC9 := hU hc9; have HX9 := hU (HX.out.kp hk9 (fun hm => by have := HLE.out _ hm; omega)); have HB9 := hU (hk9.below HB.out HB.out.size (fun j hj => by have := HLE.out j hj; omega)); clear hc9 hk9)
     go_roundw
     case rel => exact ⟨k + 1, by omega, by go_num, hU (by rw [HTK.out, ckR_snoc]; exact HC9.out), HX9, HB9, hU (by rw [HTK.out, ckR_snoc]; exact HSET.out.symm)⟩
     case measure => simp [intOf]; omega
    ·have hkb : (kd != 5) = true := bne_iff_ne.2 hk5
     clear hhit
     obtain ⟨P1, P2, P3, P4, P5, P6, P7, P8, P9, P10, P11, P12, P13, P14, P15, -⟩ := kU e0 (kU e1 (kU e2 (kU e3 (kU e4 (kU e5 (kU f0 (kU f1 (kU f2 (kU f3 (kU f4 (kU f5 (kU f6 (kU o2 (kU o3 trivial))))))))))))))
     refine wp_region_quiet_below (by kernel_rfl) (by kernel_rfl) ?_
     repeat (go_big_quiet_step ((with_reducible exact Calls.regrown_of (HCO.out _))))
     refine wpQuiet_nil ?_
     intro W2 hb2
     replace hb2 := eQ hb2
     clear P1 P2 P3 P4 P5 P6 P7 P8 P9 P10 P11 P12 P13 P14 P15
     have zU := uU hb2 e0 (uU hb2 e1 (uU hb2 e2 (uU hb2 e3 (uU hb2 e4 (uU hb2 e5 (uU hb2 f0 (uU hb2 f1 (uU hb2 f2 (uU hb2 f3 (uU hb2 f4 (uU hb2 f5 (uU hb2 f6 (uU hb2 o2 (uU hb2 o3 trivial)))))))))))))); clear e0 e1 e2 e3 e4 e5 f0 f1 f2 f3 f4 f5 f6 o2 o3; obtain ⟨e0, e1, e2, e3, e4, e5, f0, f1, f2, f3, f4, f5, f6, o2, o3, -⟩ := zU
     replace HC := hU (HC.out.up hb2)
     replace HX := hU (HX.out.up hb2)
     replace HB := hU (bQ HB.out hb2)
     clear hb2 f0 f1 f2 f3 f4 f5 f6 o2 o3 hneq HE hk5 hkb
     go_wp2_with (go_at_call 28; (with_reducible refine (vy_see (w0 := w) (ckR F.t (tr.take k)) x _ n ar p r HC.out (fun j hj => by have := HLE.out j hj; omega) HB.out HT.out HV.out HEV.out HNE.out HCK.out.sl HCK.out.el HCK.out.cl HCK.out.ul HCR.out).mono ?_); rintro e w9 ⟨rfl, hc9, hk9⟩; have HC9 := hU hc9; have HX9 := hU (HX.out.kp hk9 (fun hm => by have := HLE.out _ hm; omega)); have HB9 := hU (hk9.below HB.out HB.out.size (fun j hj => by have := HLE.out j hj; omega)); clear hc9 hk9)
     go_roundw
     case rel => exact ⟨k + 1, by omega, by go_num, hU (by rw [HTK.out, ckR_snoc]; exact HC9.out), HX9, HB9, hU (by rw [HTK.out, ckR_snoc]; exact HSET.out.symm)⟩
     case measure => simp [intOf]; omega
  ·obtain rfl : k = tr.length := by omega
   have HRV : Hid (R = false) := hU (by rw [← HK.out, List.drop_length]; rfl)
   go_wp2_with fail
   go_ret
   exact ⟨by rw [HRV.out]; rfl, HB.out⟩
end
end
section
open Go.RowKit Go.Sort
/-- The time of the first TraceSent of a packet. -/
def sentF (tr : List Ev) (id : Int) : Option Int := (tr.find? fun e => e.k == 1 && e.p == id).map (·.t)
theorem sentF_snoc (tr : List Ev) (e : Ev) (id : Int) : sentF (tr ++ [e]) id = match sentF tr id with | some x => some x | none => if e.k = 1 ∧ e.p = id then some e.t else none := by
 unfold sentF
 rw [List.find?_append]
 cases h : tr.find? fun e => e.k == 1 && e.p == id with
 | some x => simp
 | none =>
  by_cases h1 : e.k = 1 ∧ e.p = id
  ·rw [if_pos h1]
   simp [h1.1, h1.2]
  ·rw [if_neg h1]
   have : (e.k == 1 && e.p == id) = false := by
    rw [Bool.eq_false_iff]
    intro h2
    simp at h2
    exact h1 h2
   simp [this]
/-- The largest delay. -/
def maxD (ls : List Lnk) : Int := ls.foldl (fun x l => max x l.dl) 0
theorem maxD_snoc (ls : List Lnk) (l : Lnk) : maxD (ls ++ [l]) = max (maxD ls) l.dl := by simp [maxD]
theorem maxD_bd {n : Int} : ∀ (ls : List Lnk) (x : Int), (∀ l ∈ ls, lnkOk n l = true) → 0 ≤ x → x ≤ 65536 → 0 ≤ ls.foldl (fun x l => max x l.dl) x ∧ ls.foldl (fun x l => max x l.dl) x ≤ 65536
 | [], x, _, h0, h1 => ⟨h0, h1⟩
 | l :: r, x, h, h0, h1 => by
  have hl := h l (List.mem_cons_self ..)
  simp only [lnkOk, inR, Bool.and_eq_true, decide_eq_true_eq] at hl
  rw [List.foldl_cons]
  exact maxD_bd r _ (fun y hy => h y (List.mem_cons_of_mem _ hy)) (by omega) (by omega)
/-- The least time to gather and to hold. -/
def leastV (t : Topo) : Int := t.n * maxD t.ls + 4
/-- The conditions that do not hang on the packet. -/
def okP (F : FaN) (tr : List Ev) : Prop := ∃ o, F.out = [o] ∧ o.tu = 0 ∧ F.t.n ≤ 32 ∧ leastV F.t < F.ga ∧ leastV F.t < F.ho ∧ setC F.t o.k o.m (CkS.new F.t) tr = true ∧ covP F.t o.k o.m
/-- The arcs of the only outage's component. -/
def uQ (F : FaN) : List Bool := match F.out with | [o] => mask F.t [(o.k, o.m)] | _ => []
/-- A guard's cells. -/
def gdV (F : FaN) (A1 A2 O : Option Addr) (c1 c2 co : Nat) (ok : Bool) (dv : Value) (sm : Nat) : Array Value :=
 #[.int .i64 F.t.n, .slice A1 F.t.ov.length c1, .slice A2 F.t.ls.length c2, .int .i64 F.det, .int .i64 F.ga, .int .i64 F.ho, .slice O F.out.length co, .bool ok, dv, .map (some sm)]
/-- A guard in memory, on the way. -/
structure GdW (F : FaN) (A1 A2 O : Option Addr) (c1 c2 co : Nat) (g sm : Nat) (ok : Bool) (Ad : Option Addr) (dn : List Bool) (cd : Nat) (sn : Int → Option Int) (W : World) : Prop where
 gb : Bl 72 g (gdV F A1 A2 O c1 c2 co ok (.slice Ad dn.length cd) sm) W
 fm : FM Tryz.prog 3 enc1 (Value.int .i64) sm sn W
 rd : Rd W Ad (dn.map Value.bool)
theorem GdW.up {F : FaN} {A1 A2 O : Option Addr} {c1 c2 co g sm : Nat} {ok : Bool} {Ad : Option Addr} {dn : List Bool} {cd : Nat} {sn : Int → Option Int} {W W' : World} (h : GdW F A1 A2 O c1 c2 co g sm ok Ad dn cd sn W) (hb : Below W.heap.size W W') : GdW F A1 A2 O c1 c2 co g sm ok Ad dn cd sn W' := ⟨h.gb.up hb, h.fm.up hb, h.rd.below hb⟩
theorem GdW.put {F : FaN} {A1 A2 O : Option Addr} {c1 c2 co g sm : Nat} {ok : Bool} {Ad : Option Addr} {dn : List Bool} {cd : Nat} {sn sn' : Int → Option Int} {W W' : World} (h : GdW F A1 A2 O c1 c2 co g sm ok Ad dn cd sn W) (hg : W.grownBy W' (some sm)) (hf : FM Tryz.prog 3 enc1 (Value.int .i64) sm sn' W') : GdW F A1 A2 O c1 c2 co g sm ok Ad dn cd sn' W' := by
 obtain ⟨es, cl, hm⟩ := h.fm.isMap
 exact ⟨h.gb.kpm (kp_of hg) hm, hf, h.rd.kpm (kp_of hg) hm⟩
section
variable {F : FaN} {A1 A2 O : Option Addr} {c1 c2 co g sm : Nat} {ok : Bool} {Ad Am : Option Addr} {dn ms : List Bool} {cd cm : Nat} {sn : Int → Option Int} {W : World}
theorem gd_two {dv : Value} {o : Nat} {x y : Bool} (hd : ∀ b, dv ≠ .bool b) (h0 : (gdV F A1 A2 O c1 c2 co ok dv sm)[o]? = some (.bool x)) (h1 : (gdV F A1 A2 O c1 c2 co ok dv sm)[o + 1]? = some (.bool y)) : False := by
 have hlt : o + 1 < 10 := by
  have := (Array.getElem?_eq_some_iff.1 h1).1
  simpa [gdV] using this
 match o, hlt with
 | 0, _ => simp [gdV] at h0
 | 1, _ => simp [gdV] at h0
 | 2, _ => simp [gdV] at h0
 | 3, _ => simp [gdV] at h0
 | 4, _ => simp [gdV] at h0
 | 5, _ => simp [gdV] at h0
 | 6, _ => simp [gdV] at h0
 | 7, _ => simp [gdV] at h1; exact hd _ h1
 | 8, _ => simp [gdV] at h0; exact hd _ h0
theorem Rd.setG {j : Nat} {v : Value} {xs : List Bool} {A : Option Addr} (h : Rd W A (xs.map Value.bool)) (hl : xs.length ≠ 1) {dl dc : Nat} (hg : Bl 72 g (gdV F A1 A2 O c1 c2 co ok (.slice Ad dl dc) sm) W) : Rd (W.setCell ⟨g, j, none⟩ v) A (xs.map Value.bool) := by
 rcases h with h | ⟨c, o, rfl, hc⟩
 ·exact .inl h
 ·by_cases e : c = g
  ·subst e
   match xs, hl, hc with
   | [], _, _ => exact .inl rfl
   | [_], hl, _ => exact absurd rfl hl
   | x :: y :: r, _, hc =>
    have h0 := hc 0 (.bool x) rfl
    have h1 := hc 1 (.bool y) rfl
    rw [Lib.cell_of_heap hg] at h0 h1
    exact (gd_two (fun b hb => by cases hb) h0 h1).elim
  ·exact .inr ⟨c, o, rfl, fun i u hu => (World.cell?_of_block (w := W) (Below.heap_setCell _ _ _ _ e)).trans (hc i u hu)⟩
theorem GdW.setD (h : GdW F A1 A2 O c1 c2 co g sm ok Ad dn cd sn W) (hr : Rd W Am (ms.map Value.bool)) (hl : ms.length ≠ 1) (hne : sm ≠ g) : GdW F A1 A2 O c1 c2 co g sm ok Am ms cm sn (W.setCell ⟨g, 8, none⟩ (.slice Am ms.length cm)) :=
 ⟨h.gb.set 8 _ rfl, h.fm.kept (Below.heap_setCell _ _ _ _ hne), hr.setG hl h.gb⟩
theorem GdW.setO (h : GdW F A1 A2 O c1 c2 co g sm ok Ad dn cd sn W) (b : Bool) (hl : dn.length ≠ 1) (hne : sm ≠ g) : GdW F A1 A2 O c1 c2 co g sm b Ad dn cd sn (W.setCell ⟨g, 7, none⟩ (.bool b)) :=
 ⟨h.gb.set 7 _ rfl, h.fm.kept (Below.heap_setCell _ _ _ _ hne), h.rd.setG hl h.gb⟩
/-- A call that returns a guard. -/
def RetGd (F : FaN) (tr : List Ev) (A1 A2 O : Option Addr) (c1 c2 co : Nat) (w : World) (e : Ending) (w' : World) : Prop :=
 ∃ (g sm : Nat) (ok : Bool) (Ad : Option Addr) (cd : Nat), e = .returned (.pointer (some ⟨g, 0, none⟩)) ∧ GdW F A1 A2 O c1 c2 co g sm ok Ad (uQ F) cd (sentF tr) w' ∧ (ok = true ↔ okP F tr) ∧ w.heap.size ≤ g ∧ w.heap.size ≤ sm ∧ Below w.heap.size w w' ∧ ∀ p, Ad = some p → w.heap.size ≤ p.block
theorem RetGd.mk {tr : List Ev} {w w' : World} {e : Ending} {ms : List Bool} (he : e = .returned (.pointer (some ⟨g, 0, none⟩))) (hd : uQ F = ms) (hG : GdW F A1 A2 O c1 c2 co g sm ok Ad ms cd (sentF tr) w') (ho : ok = true ↔ okP F tr) (h1 : w.heap.size ≤ g) (h2 : w.heap.size ≤ sm) (hb : Below w.heap.size w w') (hf : ∀ p, Ad = some p → w.heap.size ≤ p.block) : RetGd F tr A1 A2 O c1 c2 co w e w' :=
 ⟨g, sm, ok, Ad, cd, he, by rw [hd]; exact hG, ho, h1, h2, hb, hf⟩
end
theorem comp_inJ {t : Topo} {k m : Int} (h : gZ t k m = true) : inJ k ∧ inJ m := by
 have hv := compV_valid h
 have hn := iZ hv
 have hl := zQ hv
 have hk := compV_kind h
 rw [gZ, hv, Bool.true_and] at h
 unfold inJ
 rcases hk with rfl | rfl | rfl
 ·rw [compOk1] at h; simp at h; omega
 ·rw [compOk2] at h; have := isN_true.1 h; omega
 ·rw [compOk3] at h; simp at h; omega
end
end Go.Proofs.YtdnjflpmbnjgeaaGreat
