/-
  see: kind 5 (printed by gen_vye2.py).
  see: kind 7 (printed by gen_vye2.py).
  see: kind 8 (printed by gen_vye2.py).
-/
import Derived.Test.YtdnjflpmbnjgeaaGreatPkFe
set_option linter.unusedSimpArgs false
set_option linter.unusedVariables false
namespace Go.Proofs.YtdnjflpmbnjgeaaGreat
section
open Go.RowKit Go.Sort
section
variable {w w0 : World} {F : FaN} {A1 A2 O : Option Addr} {c1 c2 co : Nat} {fl : Value} {b : CkB} {pm : Int → Option PkN} {pr : Int → Bool}
set_option maxRecDepth 100000 in
set_option maxHeartbeats 16000000 in
theorem vy_see5 (c : CkS) (x n a p r : Int) (hC : CkAt F A1 A2 O c1 c2 co fl b pm pr c w) (hle : ∀ j ∈ b.L, w0.heap.size ≤ j) (h0 : Below w0.heap.size w0 w) (hT : TAt w0 A1 A2 F.t) (hv : valid F.t = true) (hev : evOk ⟨x, 5, n, a, p, r⟩ = true) (hnm : xQ F.t ⟨x, 5, n, a, p, r⟩ = true)
    (l1 : c.st.length = F.t.n.toNat) (l2 : c.en.length = F.t.n.toNat) (l3 : c.ch.length = F.t.n.toNat) (l4 : c.up.length = 2 * F.t.ls.length) (hcr : ∀ q j, 0 ≤ c.cr q j ∧ c.cr q j ≤ 1000000) :
    Calls Tryz.prog 28 #[.pointer (some ⟨b.cb, 0, none⟩), .agg #[.int .i64 x, .int .i64 5, .int .i64 n, .int .i64 a, .int .i64 p, .int .i64 r]] w fun e w' => e = .returned (.tuple #[]) ∧ CkAt F A1 A2 O c1 c2 co fl b pm pr (seeS F.t c ⟨x, 5, n, a, p, r⟩) w' ∧ Kp b.L w w' := by
 have hlt : ∀ j ∈ b.L, j < w.heap.size := hC.lt
 obtain ⟨R, hR⟩ : ∃ R, R = seeS F.t c ⟨x, 5, n, a, p, r⟩ := ⟨_, rfl⟩
 rw [← hR]
 have HR := hU hR
 have HC0 := hU hC
 have HLE := hU hle
 have HLT := hU hlt
 have HB0 := hU h0
 have HT := hU hT
 have HV := hU hv
 have HL1 := hU l1
 have HL2 := hU l2
 have HL3 := hU l3
 have HL4 := hU l4
 have HCR := hU hcr
 have HN := hU (iZ hv)
 have HLL := hU (zQ hv)
 have HTW : Hid (∀ W, Kp b.L w W → TAt W A1 A2 F.t) := hU (fun W hK => HT.out.below (hK.below HB0.out HB0.out.size HLE.out))
 have HNM := hU hnm
 have HEV := hU hev
 have z0 := hC.q0
 have z1 := hC.q1
 have z2 := hC.q2
 have u1 := hC.own.lt
 have u2 : b.cb ≠ w.heap.size := Nat.ne_of_lt u1
 have u3 : w.heap.size ≠ b.cb := fun e => u2 e.symm
 have HJx : Hid (inJ x) := hU (evJ hev).1
 have HJn : Hid (inJ n) := hU (evJ hev).2.1
 have HJa : Hid (inJ a) := hU (evJ hev).2.2.1
 have HJp : Hid (inJ p) := hU (evJ hev).2.2.2.1
 have HJr : Hid (inJ r) := hU (evJ hev).2.2.2.2
 clear hR hC hle hlt h0 hT hv l1 l2 l3 l4 hcr hnm hev
 by_cases ha : a = 2
 ·subst ha
  go_enter Tryz.func28, Tryz.ntmps28
  go_upto_region 2 with fail
  refine kQ (fun X => SeeW w F A1 A2 O c1 c2 co fl b pm pr x 5 n 2 p r c X) ⟨HC0.out.up (aZ w _ _), (Bl.new w _ _).up (cQ _ _), by simpa using Bl.new (w.alloc (.cells #[.int .i64 x, .int .i64 5, .int .i64 n, .int .i64 2, .int .i64 p, .int .i64 r] 43)) _ _, Kp.of (aZ w _ _)⟩ ?_
  intro X hX
  have HX := hU hX
  clear hX z0 z1 z2 u1 u2 u3 HC0
  obtain ⟨e0, e1, e2, e3, e4, e5, _⟩ := HX.out.e.c6
  obtain ⟨y0, y1, y2, _⟩ := HX.out.t.c3
  have z10 := HX.out.c.q10
  go_upto_region 16 with fail
  obtain ⟨w9, hu, hf9, hg9⟩ := (HX.out.up (gQ _)).c.m.dn.put key_int Tryz.underlying62 r true (keyJ HJr.out) (enc1_inj r) (evB_inj true)
  unfold enc1 at hu
  have HK9 := hU (kp_of hg9)
  have HF9 := hU hf9
  clear hf9 hg9
  refine tQ 6 (by kernel_rfl) (by kernel_rfl) ?_
  simp only [List.take_succ_cons, List.take_zero, List.drop_succ_cons, List.drop_zero]
  repeat still_step
  refine wpStill_nil ?_
  replace HX := hU (SeeW.wrote (HX.out.up (gQ _)) HLT.out (q := b.dn) (by simp [CkB.L]) HK9.out (CkAt.on_dn (HX.out.up (gQ _)).c (kp_blk HK9.out) (fun q => if q = r then true else c.dn q) (HF9.out)))
  clear HK9 HF9
  go_wp2_with fail
  go_end0
  refine ⟨rfl, ?_, HX.out.kp⟩
  have hc := HX.out.c
  rw [HR.out]
  exact hc
 ·skip
  go_enter Tryz.func28, Tryz.ntmps28
  go_upto_region 2 with fail
  refine kQ (fun X => SeeW w F A1 A2 O c1 c2 co fl b pm pr x 5 n a p r c X) ⟨HC0.out.up (aZ w _ _), (Bl.new w _ _).up (cQ _ _), by simpa using Bl.new (w.alloc (.cells #[.int .i64 x, .int .i64 5, .int .i64 n, .int .i64 a, .int .i64 p, .int .i64 r] 43)) _ _, Kp.of (aZ w _ _)⟩ ?_
  intro X hX
  have HX := hU hX
  clear hX z0 z1 z2 u1 u2 u3 HC0
  obtain ⟨e0, e1, e2, e3, e4, e5, _⟩ := HX.out.e.c6
  obtain ⟨y0, y1, y2, _⟩ := HX.out.t.c3
  have z10 := HX.out.c.q10
  go_wp2_with fail
  go_end0
  refine ⟨rfl, ?_, HX.out.kp⟩
  have hc := HX.out.c
  rw [HR.out]
  rwa [show seeS F.t c ⟨x, 5, n, a, p, r⟩ = c from by simp [seeS, ha]]
end
section
variable {w w0 : World} {F : FaN} {A1 A2 O : Option Addr} {c1 c2 co : Nat} {fl : Value} {b : CkB} {pm : Int → Option PkN} {pr : Int → Bool}
def see27D : Nat → Nat
 | 0 => 150
 | 1 => 151
 | 2 => 152
 | 3 => 153
 | 4 => 154
 | 5 => 155
 | 6 => 156
 | _ => 0
theorem see27D_lt : ∀ i, i < 7 → see27D i < 157 := by decide +kernel
theorem see27D_inj : ∀ i, i < 7 → ∀ j, j < 7 → see27D i = see27D j → i = j := by decide +kernel
def see27V (eb : Nat) (tv : Value) (a q n : Int) : Nat → Nat → Value
 | 0, _ => tv
 | 1, _ => .pointer (some ⟨eb, 3, none⟩)
 | 2, _ => .int .i64 a
 | 3, _ => .int .i64 q
 | 4, _ => .pointer (some ⟨eb, 2, none⟩)
 | 5, _ => .int .i64 n
 | 6, _ => .bool (q == n)
 | _, _ => undef
theorem see27_put (eb : Nat) (tv : Value) (a q n : Int) (xs : Nat → Nat) (T : Array Value) : putAll see27D (fun i => see27V eb tv a q n i (xs i)) 7 T = (((((((T.setIfInBounds 150 (tv)).setIfInBounds 151 (.pointer (some ⟨eb, 3, none⟩))).setIfInBounds 152 (.int .i64 a)).setIfInBounds 153 (.int .i64 q)).setIfInBounds 154 (.pointer (some ⟨eb, 2, none⟩))).setIfInBounds 155 (.int .i64 n)).setIfInBounds 156 (.bool (q == n))) := rfl
set_option maxRecDepth 100000 in
set_option maxHeartbeats 16000000 in
theorem vy_see7 (c : CkS) (x n a p r : Int) (hC : CkAt F A1 A2 O c1 c2 co fl b pm pr c w) (hle : ∀ j ∈ b.L, w0.heap.size ≤ j) (h0 : Below w0.heap.size w0 w) (hT : TAt w0 A1 A2 F.t) (hv : valid F.t = true) (hev : evOk ⟨x, 7, n, a, p, r⟩ = true) (hnm : xQ F.t ⟨x, 7, n, a, p, r⟩ = true)
    (l1 : c.st.length = F.t.n.toNat) (l2 : c.en.length = F.t.n.toNat) (l3 : c.ch.length = F.t.n.toNat) (l4 : c.up.length = 2 * F.t.ls.length) (hcr : ∀ q j, 0 ≤ c.cr q j ∧ c.cr q j ≤ 1000000) :
    Calls Tryz.prog 28 #[.pointer (some ⟨b.cb, 0, none⟩), .agg #[.int .i64 x, .int .i64 7, .int .i64 n, .int .i64 a, .int .i64 p, .int .i64 r]] w fun e w' => e = .returned (.tuple #[]) ∧ CkAt F A1 A2 O c1 c2 co fl b pm pr (seeS F.t c ⟨x, 7, n, a, p, r⟩) w' ∧ Kp b.L w w' := by
 have hlt : ∀ j ∈ b.L, j < w.heap.size := hC.lt
 obtain ⟨R, hR⟩ : ∃ R, R = seeS F.t c ⟨x, 7, n, a, p, r⟩ := ⟨_, rfl⟩
 rw [← hR]
 have HR := hU hR
 have HC0 := hU hC
 have HLE := hU hle
 have HLT := hU hlt
 have HB0 := hU h0
 have HT := hU hT
 have HV := hU hv
 have HL1 := hU l1
 have HL2 := hU l2
 have HL3 := hU l3
 have HL4 := hU l4
 have HCR := hU hcr
 have HN := hU (iZ hv)
 have HLL := hU (zQ hv)
 have HTW : Hid (∀ W, Kp b.L w W → TAt W A1 A2 F.t) := hU (fun W hK => HT.out.below (hK.below HB0.out HB0.out.size HLE.out))
 have HNM := hU hnm
 have HEV := hU hev
 have z0 := hC.q0
 have z1 := hC.q1
 have z2 := hC.q2
 have u1 := hC.own.lt
 have u2 : b.cb ≠ w.heap.size := Nat.ne_of_lt u1
 have u3 : w.heap.size ≠ b.cb := fun e => u2 e.symm
 have HJx : Hid (inJ x) := hU (evJ hev).1
 have HJn : Hid (inJ n) := hU (evJ hev).2.1
 have HJa : Hid (inJ a) := hU (evJ hev).2.2.1
 have HJp : Hid (inJ p) := hU (evJ hev).2.2.2.1
 have HJr : Hid (inJ r) := hU (evJ hev).2.2.2.2
 clear hR hC hle hlt h0 hT hv l1 l2 l3 l4 hcr hnm hev
 have hab : 0 ≤ a ∧ a < 2 * (F.t.ls.length : Int) := by
  have := HNM.out
  simp [xQ] at this
  exact isN_true.1 this.2
 obtain ⟨ha0, ha1⟩ := hab
 have HA0 := hU ha0
 have HA1 := hU ha1
 have HRU : Hid (R = if tail F.t a = n then { c with up := c.up.set a.toNat (r == 2) } else c) := hU (by rw [HR.out]; rfl)
 obtain ⟨q, hq⟩ : ∃ q, q = tail F.t a := ⟨_, rfl⟩
 rw [← hq] at HRU
 have HQ := hU hq
 clear hq HR
 go_enter Tryz.func28, Tryz.ntmps28
 go_upto_region 2 with fail
 refine kQ (fun X => SeeW w F A1 A2 O c1 c2 co fl b pm pr x 7 n a p r c X) ⟨HC0.out.up (aZ w _ _), (Bl.new w _ _).up (cQ _ _), by simpa using Bl.new (w.alloc (.cells #[.int .i64 x, .int .i64 7, .int .i64 n, .int .i64 a, .int .i64 p, .int .i64 r] 43)) _ _, Kp.of (aZ w _ _)⟩ ?_
 intro X hX
 have HX := hU hX
 clear hX z0 z1 z2 u1 u2 u3 HC0
 obtain ⟨e0, e1, e2, e3, e4, e5, _⟩ := HX.out.e.c6
 obtain ⟨y0, y1, y2, _⟩ := HX.out.t.c3
 have z14 := HX.out.c.q14
 go_upto_region 27 with fail
 refine wp_region_all 7 [0, 1, 2, 3, 4, 5, 6] see27D (fun _ => none) (see27V w.heap.size (.agg #[.int .i64 F.t.n, .slice A1 F.t.ov.length c1, .slice A2 F.t.ls.length c2]) a q n) (by kernel_rfl) rfl (by kernel_rfl) (fun i j hi hj h => see27D_inj i hi j hj h) (fun i hi => by have := see27D_lt i hi; simp; omega) ?_ ?_
 ·intro L ac W xq i hi hst hr
  have HXW := hU ((HX.out.up (gQ _)).up hst.below)
  obtain ⟨e0, e1, e2, e3, e4, e5, _⟩ := HXW.out.e.c6
  obtain ⟨y0, y1, y2, _⟩ := HXW.out.t.c3
  match i, hi, hr with
  | 0, _, hr =>
   intro K hK
   have t4 : ac.tmps.getD 4 undef = .pointer (some ⟨w.heap.size + 1, 0, none⟩) := (hst.old 4 (by decide +kernel)).trans rfl
   clear hst hr
   refine iQ _ rfl rfl ?_
   go_simp
   exact hK _ (Below.refl _ _)
  | 1, _, hr =>
   intro K hK
   have t3 : ac.tmps.getD 3 undef = .pointer (some ⟨w.heap.size, 0, none⟩) := (hst.old 3 (by decide +kernel)).trans rfl
   clear hst hr
   refine iQ _ rfl rfl ?_
   go_simp
   exact hK _ (Below.refl _ _)
  | 2, _, hr =>
   intro K hK
   have t151 : ac.tmps.getD 151 undef = .pointer (some ⟨w.heap.size, 3, none⟩) := hst.val 1 (by omega) (rU hr 1)
   clear hst hr
   refine iQ _ rfl rfl ?_
   go_simp
   exact hK _ (Below.refl _ _)
  | 3, _, hr =>
   intro K hK
   have t150 : ac.tmps.getD 150 undef = .agg #[.int .i64 F.t.n, .slice A1 F.t.ov.length c1, .slice A2 F.t.ls.length c2] := hst.val 0 (by omega) (rU hr 0)
   have t152 : ac.tmps.getD 152 undef = .int .i64 a := hst.val 2 (by omega) (rU hr 2)
   clear hst hr
   refine iQ _ rfl rfl ?_
   go_simp
   have hq := HQ.out
   with_reducible refine (graph_Tail _ _ _ _ F.t a _ (HTW.out _ HXW.out.kp).ls HA0.out HA1.out (by have := HLL.out; omega)).mono ?_
   rintro e w9 ⟨rfl, hb⟩
   rw [← hq]
   exact hK w9 hb
  | 4, _, hr =>
   intro K hK
   have t3 : ac.tmps.getD 3 undef = .pointer (some ⟨w.heap.size, 0, none⟩) := (hst.old 3 (by decide +kernel)).trans rfl
   clear hst hr
   refine iQ _ rfl rfl ?_
   go_simp
   exact hK _ (Below.refl _ _)
  | 5, _, hr =>
   intro K hK
   have t154 : ac.tmps.getD 154 undef = .pointer (some ⟨w.heap.size, 2, none⟩) := hst.val 4 (by omega) (rU hr 4)
   clear hst hr
   refine iQ _ rfl rfl ?_
   go_simp
   exact hK _ (Below.refl _ _)
  | 6, _, hr =>
   intro K hK
   have t153 : ac.tmps.getD 153 undef = .int .i64 q := hst.val 3 (by omega) (rU hr 3)
   have t155 : ac.tmps.getD 155 undef = .int .i64 n := hst.val 5 (by omega) (rU hr 5)
   clear hst hr
   refine iQ _ rfl rfl ?_
   go_simp
   exact hK _ (Below.refl _ _)
  | m + 7, hi, _ => exact absurd hi (by omega)
 ·intro W xs hbl hblk hinj
  simp only [see27_put, List.setIfInBounds_toArray, List.set_cons_zero, List.set_cons_succ]
  replace HX := hU ((HX.out.up (gQ _)).up hbl)
  clear hbl hblk hinj
  clear e0 e1 e2 e3 e4 e5 y0 y1 y2 z14
  obtain ⟨e0, e1, e2, e3, e4, e5, _⟩ := HX.out.e.c6
  obtain ⟨y0, y1, y2, _⟩ := HX.out.t.c3
  by_cases hqn : q = n
  ·subst hqn
   have z14 := HX.out.c.q14
   rw [HL4.out] at z14
   have hcl := RowB.cell (i := a) HX.out.c.m.up HA0.out (by rw [HL4.out]; have := HA1.out; omega)
   have hfz : W.frozen? ⟨b.up, a.toNat, none⟩ = false := Bl.frz HX.out.c.m.up _
   have ha0 := HA0.out
   have ha1 := HA1.out
   have hll := HLL.out
   go_upto_region 28 with fail
   refine tQ 10 (by kernel_rfl) (by kernel_rfl) ?_
   simp only [List.take_succ_cons, List.take_zero, List.drop_succ_cons, List.drop_zero]
   repeat still_step
   refine wpStill_nil ?_
   replace HX := hU (SeeW.wrote (HX.out.up (gQ _)) HLT.out (q := b.up) (by simp [CkB.L]) (kp_cell (j := a.toNat) (v := .bool (r == 2))) (CkAt.on_up (HX.out.up (gQ _)).c (kp_blk kp_cell) (c.up.set a.toNat (r == 2)) (by simp) (RowB.set (HX.out.up (gQ _)).c.m.up a.toNat (r == 2))))
   go_wp2_with fail
   go_end0
   refine ⟨rfl, ?_, HX.out.kp⟩
   have hc := HX.out.c
   rw [HRU.out]
   simp only [if_true]
   exact hc
  ·have hqb : (q == n) = false := beq_eq_false_iff_ne.2 hqn
   go_wp2_with fail
   go_end0
   refine ⟨rfl, ?_, HX.out.kp⟩
   have hc := HX.out.c
   rwa [HRU.out, if_neg hqn]
end
section
variable {w w0 : World} {F : FaN} {A1 A2 O : Option Addr} {c1 c2 co : Nat} {fl : Value} {b : CkB} {pm : Int → Option PkN} {pr : Int → Bool}
set_option maxRecDepth 100000 in
set_option maxHeartbeats 16000000 in
theorem vy_see8 (c : CkS) (x n a p r : Int) (hC : CkAt F A1 A2 O c1 c2 co fl b pm pr c w) (hle : ∀ j ∈ b.L, w0.heap.size ≤ j) (h0 : Below w0.heap.size w0 w) (hT : TAt w0 A1 A2 F.t) (hv : valid F.t = true) (hev : evOk ⟨x, 8, n, a, p, r⟩ = true) (hnm : xQ F.t ⟨x, 8, n, a, p, r⟩ = true)
    (l1 : c.st.length = F.t.n.toNat) (l2 : c.en.length = F.t.n.toNat) (l3 : c.ch.length = F.t.n.toNat) (l4 : c.up.length = 2 * F.t.ls.length) (hcr : ∀ q j, 0 ≤ c.cr q j ∧ c.cr q j ≤ 1000000) :
    Calls Tryz.prog 28 #[.pointer (some ⟨b.cb, 0, none⟩), .agg #[.int .i64 x, .int .i64 8, .int .i64 n, .int .i64 a, .int .i64 p, .int .i64 r]] w fun e w' => e = .returned (.tuple #[]) ∧ CkAt F A1 A2 O c1 c2 co fl b pm pr (seeS F.t c ⟨x, 8, n, a, p, r⟩) w' ∧ Kp b.L w w' := by
 have hlt : ∀ j ∈ b.L, j < w.heap.size := hC.lt
 obtain ⟨R, hR⟩ : ∃ R, R = seeS F.t c ⟨x, 8, n, a, p, r⟩ := ⟨_, rfl⟩
 rw [← hR]
 have HR := hU hR
 have HC0 := hU hC
 have HLE := hU hle
 have HLT := hU hlt
 have HB0 := hU h0
 have HT := hU hT
 have HV := hU hv
 have HL1 := hU l1
 have HL2 := hU l2
 have HL3 := hU l3
 have HL4 := hU l4
 have HCR := hU hcr
 have HN := hU (iZ hv)
 have HLL := hU (zQ hv)
 have HTW : Hid (∀ W, Kp b.L w W → TAt W A1 A2 F.t) := hU (fun W hK => HT.out.below (hK.below HB0.out HB0.out.size HLE.out))
 have HNM := hU hnm
 have HEV := hU hev
 have z0 := hC.q0
 have z1 := hC.q1
 have z2 := hC.q2
 have u1 := hC.own.lt
 have u2 : b.cb ≠ w.heap.size := Nat.ne_of_lt u1
 have u3 : w.heap.size ≠ b.cb := fun e => u2 e.symm
 have HJx : Hid (inJ x) := hU (evJ hev).1
 have HJn : Hid (inJ n) := hU (evJ hev).2.1
 have HJa : Hid (inJ a) := hU (evJ hev).2.2.1
 have HJp : Hid (inJ p) := hU (evJ hev).2.2.2.1
 have HJr : Hid (inJ r) := hU (evJ hev).2.2.2.2
 clear hR hC hle hlt h0 hT hv l1 l2 l3 l4 hcr hnm hev
 have hnb : 0 ≤ n ∧ n < F.t.n := by
  have := HNM.out
  simp [xQ] at this
  exact isN_true.1 this
 obtain ⟨hn0, hn1⟩ := hnb
 obtain ⟨M, hM⟩ : ∃ M, M = F.t.n.toNat := ⟨_, rfl⟩
 rw [← hM] at HL1 HL2 HL3
 have hnM : n < (M : Int) := by omega
 have hM64 : M ≤ 64 := by have := HN.out; omega
 have HM := hU hM
 have HRU : Hid (R = { c with en := if earlyB r && !earlyB (getI c.st n) then c.en.set n.toNat x else c.en, st := c.st.set n.toNat r, ch := c.ch.set n.toNat x }) := hU (by rw [HR.out]; rfl)
 clear HR hM
 cases her : earlyB r with
 | false =>
  go_enter Tryz.func28, Tryz.ntmps28
  go_upto_region 2 with fail
  refine kQ (fun X => SeeW w F A1 A2 O c1 c2 co fl b pm pr x 8 n a p r c X) ⟨HC0.out.up (aZ w _ _), (Bl.new w _ _).up (cQ _ _), by simpa using Bl.new (w.alloc (.cells #[.int .i64 x, .int .i64 8, .int .i64 n, .int .i64 a, .int .i64 p, .int .i64 r] 43)) _ _, Kp.of (aZ w _ _)⟩ ?_
  intro X hX
  have HX := hU hX
  clear hX z0 z1 z2 u1 u2 u3 HC0
  obtain ⟨e0, e1, e2, e3, e4, e5, _⟩ := HX.out.e.c6
  obtain ⟨y0, y1, y2, _⟩ := HX.out.t.c3
  have z11 := HX.out.c.q11
  rw [HL1.out] at z11
  have hcs := RowI.cell (i := n) HX.out.c.m.st hn0 (by rw [HL1.out]; exact hnM)
  go_upto_region 30 with fail
  have hnn : (n.toNat : Int) = n := by omega
  have HEr := hU (fun (W : World) => (show Calls Tryz.prog 57 #[.int .i64 (r)] W fun e w' => e = .returned (.bool false) ∧ Below W.heap.size W w' from by have h := vy_early (w := W) (r); rwa [her] at h))
  obtain ⟨P1, P2, P3, P4, P5, P6, P7, P8, P9, P10, P11, -⟩ := kU e0 (kU e1 (kU e2 (kU e3 (kU e4 (kU e5 (kU y0 (kU y1 (kU y2 (kU z11 (kU hcs trivial))))))))))
  refine wp_region_quiet_below (by kernel_rfl) (by kernel_rfl) ?_
  repeat (go_big_quiet_step ((first | (with_reducible exact Calls.regrown_of (HEr.out _)))))
  refine wpQuiet_nil ?_
  intro W2 hb2
  replace hb2 := eQ hb2
  clear P1 P2 P3 P4 P5 P6 P7 P8 P9 P10 P11
  have zU := uU hb2 e0 (uU hb2 e1 (uU hb2 e2 (uU hb2 e3 (uU hb2 e4 (uU hb2 e5 (uU hb2 y0 (uU hb2 y1 (uU hb2 y2 (uU hb2 z11 (uU hb2 hcs trivial)))))))))); clear e0 e1 e2 e3 e4 e5 y0 y1 y2 z11 hcs; obtain ⟨e0, e1, e2, e3, e4, e5, y0, y1, y2, z11, hcs, -⟩ := zU
  replace HX := hU (HX.out.up hb2)
  clear hb2 e0 e1 e2 e3 e4 e5 y0 y1 y2 z11 hcs hnn
  go_upto_region 32 with fail
  refine kQ (fun Y => SeeW w F A1 A2 O c1 c2 co fl b pm pr x 8 n a p r c Y) HX.out ?_
  clear HX
  intro X hX
  have HX := hU hX
  clear hX
  obtain ⟨e0, e1, e2, e3, e4, e5, _⟩ := HX.out.e.c6
  obtain ⟨y0, y1, y2, _⟩ := HX.out.t.c3
  have z11 := HX.out.c.q11
  have hln : (c : CkS).st.length = M := by simp [HL1.out]
  rw [hln] at z11
  have hcl := RowI.cell (i := n) HX.out.c.m.st (by omega) (by rw [hln]; omega)
  clear hln
  have hfz : X.frozen? ⟨b.st, (n).toNat, none⟩ = false := Bl.frz HX.out.c.m.st _
  refine tQ 9 (by kernel_rfl) (by kernel_rfl) ?_
  simp only [List.take_succ_cons, List.take_zero, List.drop_succ_cons, List.drop_zero]
  repeat still_step
  refine wpStill_nil ?_
  replace HX := hU (SeeW.wrote (HX.out.up (gQ _)) HLT.out (q := b.st) (by simp [CkB.L]) (kp_cell (j := (n).toNat) (v := .int .i64 r)) (CkAt.on_st (HX.out.up (gQ _)).c (kp_blk kp_cell) (c.st.set (n).toNat r) (by simp) (RowI.set (HX.out.up (gQ _)).c.m.st (n).toNat r)))
  go_upto_region 33 with fail
  refine kQ (fun Y => SeeW w F A1 A2 O c1 c2 co fl b pm pr x 8 n a p r { c with st := c.st.set n.toNat r } Y) HX.out ?_
  clear HX
  intro X hX
  have HX := hU hX
  clear hX
  obtain ⟨e0, e1, e2, e3, e4, e5, _⟩ := HX.out.e.c6
  obtain ⟨y0, y1, y2, _⟩ := HX.out.t.c3
  have z13 := HX.out.c.q13
  have hln : ({ c with st := c.st.set n.toNat r } : CkS).ch.length = M := by simp [HL3.out]
  rw [hln] at z13
  have hcl := RowI.cell (i := n) HX.out.c.m.ch (by omega) (by rw [hln]; omega)
  clear hln
  have hfz : X.frozen? ⟨b.ch, (n).toNat, none⟩ = false := Bl.frz HX.out.c.m.ch _
  refine tQ 9 (by kernel_rfl) (by kernel_rfl) ?_
  simp only [List.take_succ_cons, List.take_zero, List.drop_succ_cons, List.drop_zero]
  repeat still_step
  refine wpStill_nil ?_
  replace HX := hU (SeeW.wrote (HX.out.up (gQ _)) HLT.out (q := b.ch) (by simp [CkB.L]) (kp_cell (j := (n).toNat) (v := .int .i64 x)) (CkAt.on_ch (HX.out.up (gQ _)).c (kp_blk kp_cell) (c.ch.set (n).toNat x) (by simp) (RowI.set (HX.out.up (gQ _)).c.m.ch (n).toNat x)))
  go_wp2_with fail
  go_end0
  refine ⟨rfl, ?_, HX.out.kp⟩
  have hc := HX.out.c
  rw [HRU.out]
  simp only [her, Bool.false_and, Bool.false_eq_true, if_false]
  exact hc
 | true =>
  cases hes : earlyB (getI c.st n) with
  | true =>
   go_enter Tryz.func28, Tryz.ntmps28
   go_upto_region 2 with fail
   refine kQ (fun X => SeeW w F A1 A2 O c1 c2 co fl b pm pr x 8 n a p r c X) ⟨HC0.out.up (aZ w _ _), (Bl.new w _ _).up (cQ _ _), by simpa using Bl.new (w.alloc (.cells #[.int .i64 x, .int .i64 8, .int .i64 n, .int .i64 a, .int .i64 p, .int .i64 r] 43)) _ _, Kp.of (aZ w _ _)⟩ ?_
   intro X hX
   have HX := hU hX
   clear hX z0 z1 z2 u1 u2 u3 HC0
   obtain ⟨e0, e1, e2, e3, e4, e5, _⟩ := HX.out.e.c6
   obtain ⟨y0, y1, y2, _⟩ := HX.out.t.c3
   have z11 := HX.out.c.q11
   rw [HL1.out] at z11
   have hcs := RowI.cell (i := n) HX.out.c.m.st hn0 (by rw [HL1.out]; exact hnM)
   go_upto_region 30 with fail
   have hnn : (n.toNat : Int) = n := by omega
   have HEr := hU (fun (W : World) => (show Calls Tryz.prog 57 #[.int .i64 (r)] W fun e w' => e = .returned (.bool true) ∧ Below W.heap.size W w' from by have h := vy_early (w := W) (r); rwa [her] at h))
   have HEs := hU (fun (W : World) => (show Calls Tryz.prog 57 #[.int .i64 (getI c.st n)] W fun e w' => e = .returned (.bool true) ∧ Below W.heap.size W w' from by have h := vy_early (w := W) (getI c.st n); rwa [hes] at h))
   obtain ⟨P1, P2, P3, P4, P5, P6, P7, P8, P9, P10, P11, -⟩ := kU e0 (kU e1 (kU e2 (kU e3 (kU e4 (kU e5 (kU y0 (kU y1 (kU y2 (kU z11 (kU hcs trivial))))))))))
   refine wp_region_quiet_below (by kernel_rfl) (by kernel_rfl) ?_
   repeat (go_big_quiet_step ((first | (with_reducible exact Calls.regrown_of (HEr.out _)) | (with_reducible exact Calls.regrown_of (HEs.out _)))))
   refine wpQuiet_nil ?_
   intro W2 hb2
   replace hb2 := eQ hb2
   clear P1 P2 P3 P4 P5 P6 P7 P8 P9 P10 P11
   have zU := uU hb2 e0 (uU hb2 e1 (uU hb2 e2 (uU hb2 e3 (uU hb2 e4 (uU hb2 e5 (uU hb2 y0 (uU hb2 y1 (uU hb2 y2 (uU hb2 z11 (uU hb2 hcs trivial)))))))))); clear e0 e1 e2 e3 e4 e5 y0 y1 y2 z11 hcs; obtain ⟨e0, e1, e2, e3, e4, e5, y0, y1, y2, z11, hcs, -⟩ := zU
   replace HX := hU (HX.out.up hb2)
   clear hb2 e0 e1 e2 e3 e4 e5 y0 y1 y2 z11 hcs hnn
   go_upto_region 32 with fail
   refine kQ (fun Y => SeeW w F A1 A2 O c1 c2 co fl b pm pr x 8 n a p r c Y) HX.out ?_
   clear HX
   intro X hX
   have HX := hU hX
   clear hX
   obtain ⟨e0, e1, e2, e3, e4, e5, _⟩ := HX.out.e.c6
   obtain ⟨y0, y1, y2, _⟩ := HX.out.t.c3
   have z11 := HX.out.c.q11
   have hln : (c : CkS).st.length = M := by simp [HL1.out]
   rw [hln] at z11
   have hcl := RowI.cell (i := n) HX.out.c.m.st (by omega) (by rw [hln]; omega)
   clear hln
   have hfz : X.frozen? ⟨b.st, (n).toNat, none⟩ = false := Bl.frz HX.out.c.m.st _
   refine tQ 9 (by kernel_rfl) (by kernel_rfl) ?_
   simp only [List.take_succ_cons, List.take_zero, List.drop_succ_cons, List.drop_zero]
   repeat still_step
   refine wpStill_nil ?_
   replace HX := hU (SeeW.wrote (HX.out.up (gQ _)) HLT.out (q := b.st) (by simp [CkB.L]) (kp_cell (j := (n).toNat) (v := .int .i64 r)) (CkAt.on_st (HX.out.up (gQ _)).c (kp_blk kp_cell) (c.st.set (n).toNat r) (by simp) (RowI.set (HX.out.up (gQ _)).c.m.st (n).toNat r)))
   go_upto_region 33 with fail
   refine kQ (fun Y => SeeW w F A1 A2 O c1 c2 co fl b pm pr x 8 n a p r { c with st := c.st.set n.toNat r } Y) HX.out ?_
   clear HX
   intro X hX
   have HX := hU hX
   clear hX
   obtain ⟨e0, e1, e2, e3, e4, e5, _⟩ := HX.out.e.c6
   obtain ⟨y0, y1, y2, _⟩ := HX.out.t.c3
   have z13 := HX.out.c.q13
   have hln : ({ c with st := c.st.set n.toNat r } : CkS).ch.length = M := by simp [HL3.out]
   rw [hln] at z13
   have hcl := RowI.cell (i := n) HX.out.c.m.ch (by omega) (by rw [hln]; omega)
   clear hln
   have hfz : X.frozen? ⟨b.ch, (n).toNat, none⟩ = false := Bl.frz HX.out.c.m.ch _
   refine tQ 9 (by kernel_rfl) (by kernel_rfl) ?_
   simp only [List.take_succ_cons, List.take_zero, List.drop_succ_cons, List.drop_zero]
   repeat still_step
   refine wpStill_nil ?_
   replace HX := hU (SeeW.wrote (HX.out.up (gQ _)) HLT.out (q := b.ch) (by simp [CkB.L]) (kp_cell (j := (n).toNat) (v := .int .i64 x)) (CkAt.on_ch (HX.out.up (gQ _)).c (kp_blk kp_cell) (c.ch.set (n).toNat x) (by simp) (RowI.set (HX.out.up (gQ _)).c.m.ch (n).toNat x)))
   go_wp2_with fail
   go_end0
   refine ⟨rfl, ?_, HX.out.kp⟩
   have hc := HX.out.c
   rw [HRU.out]
   simp only [her, hes, Bool.not_true, Bool.and_false, Bool.false_eq_true, if_false]
   exact hc
  | false =>
   go_enter Tryz.func28, Tryz.ntmps28
   go_upto_region 2 with fail
   refine kQ (fun X => SeeW w F A1 A2 O c1 c2 co fl b pm pr x 8 n a p r c X) ⟨HC0.out.up (aZ w _ _), (Bl.new w _ _).up (cQ _ _), by simpa using Bl.new (w.alloc (.cells #[.int .i64 x, .int .i64 8, .int .i64 n, .int .i64 a, .int .i64 p, .int .i64 r] 43)) _ _, Kp.of (aZ w _ _)⟩ ?_
   intro X hX
   have HX := hU hX
   clear hX z0 z1 z2 u1 u2 u3 HC0
   obtain ⟨e0, e1, e2, e3, e4, e5, _⟩ := HX.out.e.c6
   obtain ⟨y0, y1, y2, _⟩ := HX.out.t.c3
   have z11 := HX.out.c.q11
   rw [HL1.out] at z11
   have hcs := RowI.cell (i := n) HX.out.c.m.st hn0 (by rw [HL1.out]; exact hnM)
   go_upto_region 30 with fail
   have hnn : (n.toNat : Int) = n := by omega
   have HEr := hU (fun (W : World) => (show Calls Tryz.prog 57 #[.int .i64 (r)] W fun e w' => e = .returned (.bool true) ∧ Below W.heap.size W w' from by have h := vy_early (w := W) (r); rwa [her] at h))
   have HEs := hU (fun (W : World) => (show Calls Tryz.prog 57 #[.int .i64 (getI c.st n)] W fun e w' => e = .returned (.bool false) ∧ Below W.heap.size W w' from by have h := vy_early (w := W) (getI c.st n); rwa [hes] at h))
   obtain ⟨P1, P2, P3, P4, P5, P6, P7, P8, P9, P10, P11, -⟩ := kU e0 (kU e1 (kU e2 (kU e3 (kU e4 (kU e5 (kU y0 (kU y1 (kU y2 (kU z11 (kU hcs trivial))))))))))
   refine wp_region_quiet_below (by kernel_rfl) (by kernel_rfl) ?_
   repeat (go_big_quiet_step ((first | (with_reducible exact Calls.regrown_of (HEr.out _)) | (with_reducible exact Calls.regrown_of (HEs.out _)))))
   refine wpQuiet_nil ?_
   intro W2 hb2
   replace hb2 := eQ hb2
   clear P1 P2 P3 P4 P5 P6 P7 P8 P9 P10 P11
   have zU := uU hb2 e0 (uU hb2 e1 (uU hb2 e2 (uU hb2 e3 (uU hb2 e4 (uU hb2 e5 (uU hb2 y0 (uU hb2 y1 (uU hb2 y2 (uU hb2 z11 (uU hb2 hcs trivial)))))))))); clear e0 e1 e2 e3 e4 e5 y0 y1 y2 z11 hcs; obtain ⟨e0, e1, e2, e3, e4, e5, y0, y1, y2, z11, hcs, -⟩ := zU
   replace HX := hU (HX.out.up hb2)
   clear hb2 e0 e1 e2 e3 e4 e5 y0 y1 y2 z11 hcs hnn
   go_upto_region 31 with fail
   refine kQ (fun Y => SeeW w F A1 A2 O c1 c2 co fl b pm pr x 8 n a p r c Y) HX.out ?_
   clear HX
   intro X hX
   have HX := hU hX
   clear hX
   obtain ⟨e0, e1, e2, e3, e4, e5, _⟩ := HX.out.e.c6
   obtain ⟨y0, y1, y2, _⟩ := HX.out.t.c3
   have z12 := HX.out.c.q12
   have hln : (c : CkS).en.length = M := by simp [HL2.out]
   rw [hln] at z12
   have hcl := RowI.cell (i := n) HX.out.c.m.en (by omega) (by rw [hln]; omega)
   clear hln
   have hfz : X.frozen? ⟨b.en, (n).toNat, none⟩ = false := Bl.frz HX.out.c.m.en _
   refine tQ 9 (by kernel_rfl) (by kernel_rfl) ?_
   simp only [List.take_succ_cons, List.take_zero, List.drop_succ_cons, List.drop_zero]
   repeat still_step
   refine wpStill_nil ?_
   replace HX := hU (SeeW.wrote (HX.out.up (gQ _)) HLT.out (q := b.en) (by simp [CkB.L]) (kp_cell (j := (n).toNat) (v := .int .i64 x)) (CkAt.on_en (HX.out.up (gQ _)).c (kp_blk kp_cell) (c.en.set (n).toNat x) (by simp) (RowI.set (HX.out.up (gQ _)).c.m.en (n).toNat x)))
   go_upto_region 32 with fail
   refine kQ (fun Y => SeeW w F A1 A2 O c1 c2 co fl b pm pr x 8 n a p r { c with en := c.en.set n.toNat x } Y) HX.out ?_
   clear HX
   intro X hX
   have HX := hU hX
   clear hX
   obtain ⟨e0, e1, e2, e3, e4, e5, _⟩ := HX.out.e.c6
   obtain ⟨y0, y1, y2, _⟩ := HX.out.t.c3
   have z11 := HX.out.c.q11
   have hln : ({ c with en := c.en.set n.toNat x } : CkS).st.length = M := by simp [HL1.out]
   rw [hln] at z11
   have hcl := RowI.cell (i := n) HX.out.c.m.st (by omega) (by rw [hln]; omega)
   clear hln
   have hfz : X.frozen? ⟨b.st, (n).toNat, none⟩ = false := Bl.frz HX.out.c.m.st _
   refine tQ 9 (by kernel_rfl) (by kernel_rfl) ?_
   simp only [List.take_succ_cons, List.take_zero, List.drop_succ_cons, List.drop_zero]
   repeat still_step
   refine wpStill_nil ?_
   replace HX := hU (SeeW.wrote (HX.out.up (gQ _)) HLT.out (q := b.st) (by simp [CkB.L]) (kp_cell (j := (n).toNat) (v := .int .i64 r)) (CkAt.on_st (HX.out.up (gQ _)).c (kp_blk kp_cell) (c.st.set (n).toNat r) (by simp) (RowI.set (HX.out.up (gQ _)).c.m.st (n).toNat r)))
   go_upto_region 33 with fail
   refine kQ (fun Y => SeeW w F A1 A2 O c1 c2 co fl b pm pr x 8 n a p r { { c with en := c.en.set n.toNat x } with st := c.st.set n.toNat r } Y) HX.out ?_
   clear HX
   intro X hX
   have HX := hU hX
   clear hX
   obtain ⟨e0, e1, e2, e3, e4, e5, _⟩ := HX.out.e.c6
   obtain ⟨y0, y1, y2, _⟩ := HX.out.t.c3
   have z13 := HX.out.c.q13
   have hln : ({ { c with en := c.en.set n.toNat x } with st := c.st.set n.toNat r } : CkS).ch.length = M := by simp [HL3.out]
   rw [hln] at z13
   have hcl := RowI.cell (i := n) HX.out.c.m.ch (by omega) (by rw [hln]; omega)
   clear hln
   have hfz : X.frozen? ⟨b.ch, (n).toNat, none⟩ = false := Bl.frz HX.out.c.m.ch _
   refine tQ 9 (by kernel_rfl) (by kernel_rfl) ?_
   simp only [List.take_succ_cons, List.take_zero, List.drop_succ_cons, List.drop_zero]
   repeat still_step
   refine wpStill_nil ?_
   replace HX := hU (SeeW.wrote (HX.out.up (gQ _)) HLT.out (q := b.ch) (by simp [CkB.L]) (kp_cell (j := (n).toNat) (v := .int .i64 x)) (CkAt.on_ch (HX.out.up (gQ _)).c (kp_blk kp_cell) (c.ch.set (n).toNat x) (by simp) (RowI.set (HX.out.up (gQ _)).c.m.ch (n).toNat x)))
   go_wp2_with fail
   go_end0
   refine ⟨rfl, ?_, HX.out.kp⟩
   have hc := HX.out.c
   rw [HRU.out]
   simp only [her, hes, Bool.not_false, Bool.and_true, if_true]
   exact hc
end
end
end Go.Proofs.YtdnjflpmbnjgeaaGreat
