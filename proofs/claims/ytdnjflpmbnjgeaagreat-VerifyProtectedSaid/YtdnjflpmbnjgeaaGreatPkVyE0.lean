/-
  see: kind 0 (printed by gen_vye2.py).
  see: kind 1 (printed by gen_vye2.py).
-/
import Derived.Test.YtdnjflpmbnjgeaaGreatPkFe
set_option linter.unusedSimpArgs false
set_option linter.unusedVariables false
namespace Go.Proofs.YtdnjflpmbnjgeaaGreat
section
open Go.RowKit Go.Sort
section
variable {w w0 : World} {F : FaN} {A1 A2 O : Option Addr} {c1 c2 co : Nat} {fl : Value} {b : CkB} {pm : Int → Option PkN} {pr : Int → Bool}
set_option maxRecDepth 100000 in
set_option maxHeartbeats 16000000 in
theorem vy_see0 (c : CkS) (x k n a p r : Int) (hC : CkAt F A1 A2 O c1 c2 co fl b pm pr c w) (hle : ∀ j ∈ b.L, w0.heap.size ≤ j) (h0 : Below w0.heap.size w0 w) (hT : TAt w0 A1 A2 F.t) (hv : valid F.t = true) (hev : evOk ⟨x, k, n, a, p, r⟩ = true) (hnm : xQ F.t ⟨x, k, n, a, p, r⟩ = true)
    (l1 : c.st.length = F.t.n.toNat) (l2 : c.en.length = F.t.n.toNat) (l3 : c.ch.length = F.t.n.toNat) (l4 : c.up.length = 2 * F.t.ls.length) (hcr : ∀ q j, 0 ≤ c.cr q j ∧ c.cr q j ≤ 1000000) (g1 : ¬ k = 1) (g2 : ¬ k = 2) (g5 : ¬ k = 5) (g6 : ¬ k = 6) (g7 : ¬ k = 7) (g8 : ¬ k = 8) :
    Calls Tryz.prog 28 #[.pointer (some ⟨b.cb, 0, none⟩), .agg #[.int .i64 x, .int .i64 k, .int .i64 n, .int .i64 a, .int .i64 p, .int .i64 r]] w fun e w' => e = .returned (.tuple #[]) ∧ CkAt F A1 A2 O c1 c2 co fl b pm pr (seeS F.t c ⟨x, k, n, a, p, r⟩) w' ∧ Kp b.L w w' := by
 have hlt : ∀ j ∈ b.L, j < w.heap.size := hC.lt
 obtain ⟨R, hR⟩ : ∃ R, R = seeS F.t c ⟨x, k, n, a, p, r⟩ := ⟨_, rfl⟩
 rw [← hR]
 have HR := hU hR
 have HC0 := hU hC
 have HLE := hU hle
 have HLT := hU hlt
 have HB0 := hU h0
 have HT := hU hT
 have HV := hU hv
 have HL1 := hU l1
 have HL2 := hU l2
 have HL3 := hU l3
 have HL4 := hU l4
 have HCR := hU hcr
 have HN := hU (iZ hv)
 have HLL := hU (zQ hv)
 have HTW : Hid (∀ W, Kp b.L w W → TAt W A1 A2 F.t) := hU (fun W hK => HT.out.below (hK.below HB0.out HB0.out.size HLE.out))
 have HNM := hU hnm
 have HEV := hU hev
 have z0 := hC.q0
 have z1 := hC.q1
 have z2 := hC.q2
 have u1 := hC.own.lt
 have u2 : b.cb ≠ w.heap.size := Nat.ne_of_lt u1
 have u3 : w.heap.size ≠ b.cb := fun e => u2 e.symm
 have HJx : Hid (inJ x) := hU (evJ hev).1
 have HJn : Hid (inJ n) := hU (evJ hev).2.1
 have HJa : Hid (inJ a) := hU (evJ hev).2.2.1
 have HJp : Hid (inJ p) := hU (evJ hev).2.2.2.1
 have HJr : Hid (inJ r) := hU (evJ hev).2.2.2.2
 clear hR hC hle hlt h0 hT hv l1 l2 l3 l4 hcr hnm hev
 go_enter Tryz.func28, Tryz.ntmps28
 go_upto_region 2 with fail
 refine kQ (fun X => SeeW w F A1 A2 O c1 c2 co fl b pm pr x k n a p r c X) ⟨HC0.out.up (aZ w _ _), (Bl.new w _ _).up (cQ _ _), by simpa using Bl.new (w.alloc (.cells #[.int .i64 x, .int .i64 k, .int .i64 n, .int .i64 a, .int .i64 p, .int .i64 r] 43)) _ _, Kp.of (aZ w _ _)⟩ ?_
 intro X hX
 have HX := hU hX
 clear hX z0 z1 z2 u1 u2 u3 HC0
 obtain ⟨e0, e1, e2, e3, e4, e5, _⟩ := HX.out.e.c6
 obtain ⟨y0, y1, y2, _⟩ := HX.out.t.c3
 go_wp2_with fail
 go_end0
 refine ⟨rfl, ?_, HX.out.kp⟩
 have hc := HX.out.c
 rw [HR.out]
 rwa [show seeS F.t c ⟨x, k, n, a, p, r⟩ = c from by simp [seeS, g1, g2, g5, g6, g7, g8]]
end
section
variable {w w0 : World} {F : FaN} {A1 A2 O : Option Addr} {c1 c2 co : Nat} {fl : Value} {b : CkB} {pm : Int → Option PkN} {pr : Int → Bool}
set_option maxRecDepth 100000 in
set_option maxHeartbeats 16000000 in
theorem vy_see1 (c : CkS) (x n a p r : Int) (hC : CkAt F A1 A2 O c1 c2 co fl b pm pr c w) (hle : ∀ j ∈ b.L, w0.heap.size ≤ j) (h0 : Below w0.heap.size w0 w) (hT : TAt w0 A1 A2 F.t) (hv : valid F.t = true) (hev : evOk ⟨x, 1, n, a, p, r⟩ = true) (hnm : xQ F.t ⟨x, 1, n, a, p, r⟩ = true)
    (l1 : c.st.length = F.t.n.toNat) (l2 : c.en.length = F.t.n.toNat) (l3 : c.ch.length = F.t.n.toNat) (l4 : c.up.length = 2 * F.t.ls.length) (hcr : ∀ q j, 0 ≤ c.cr q j ∧ c.cr q j ≤ 1000000) :
    Calls Tryz.prog 28 #[.pointer (some ⟨b.cb, 0, none⟩), .agg #[.int .i64 x, .int .i64 1, .int .i64 n, .int .i64 a, .int .i64 p, .int .i64 r]] w fun e w' => e = .returned (.tuple #[]) ∧ CkAt F A1 A2 O c1 c2 co fl b pm pr (seeS F.t c ⟨x, 1, n, a, p, r⟩) w' ∧ Kp b.L w w' := by
 have hlt : ∀ j ∈ b.L, j < w.heap.size := hC.lt
 obtain ⟨R, hR⟩ : ∃ R, R = seeS F.t c ⟨x, 1, n, a, p, r⟩ := ⟨_, rfl⟩
 rw [← hR]
 have HR := hU hR
 have HC0 := hU hC
 have HLE := hU hle
 have HLT := hU hlt
 have HB0 := hU h0
 have HT := hU hT
 have HV := hU hv
 have HL1 := hU l1
 have HL2 := hU l2
 have HL3 := hU l3
 have HL4 := hU l4
 have HCR := hU hcr
 have HN := hU (iZ hv)
 have HLL := hU (zQ hv)
 have HTW : Hid (∀ W, Kp b.L w W → TAt W A1 A2 F.t) := hU (fun W hK => HT.out.below (hK.below HB0.out HB0.out.size HLE.out))
 have HNM := hU hnm
 have HEV := hU hev
 have z0 := hC.q0
 have z1 := hC.q1
 have z2 := hC.q2
 have u1 := hC.own.lt
 have u2 : b.cb ≠ w.heap.size := Nat.ne_of_lt u1
 have u3 : w.heap.size ≠ b.cb := fun e => u2 e.symm
 have HJx : Hid (inJ x) := hU (evJ hev).1
 have HJn : Hid (inJ n) := hU (evJ hev).2.1
 have HJa : Hid (inJ a) := hU (evJ hev).2.2.1
 have HJp : Hid (inJ p) := hU (evJ hev).2.2.2.1
 have HJr : Hid (inJ r) := hU (evJ hev).2.2.2.2
 clear hR hC hle hlt h0 hT hv l1 l2 l3 l4 hcr hnm hev
 go_enter Tryz.func28, Tryz.ntmps28
 go_upto_region 2 with fail
 refine kQ (fun X => SeeW w F A1 A2 O c1 c2 co fl b pm pr x 1 n a p r c X) ⟨HC0.out.up (aZ w _ _), (Bl.new w _ _).up (cQ _ _), by simpa using Bl.new (w.alloc (.cells #[.int .i64 x, .int .i64 1, .int .i64 n, .int .i64 a, .int .i64 p, .int .i64 r] 43)) _ _, Kp.of (aZ w _ _)⟩ ?_
 intro X hX
 have HX := hU hX
 clear hX z0 z1 z2 u1 u2 u3 HC0
 obtain ⟨e0, e1, e2, e3, e4, e5, _⟩ := HX.out.e.c6
 obtain ⟨y0, y1, y2, _⟩ := HX.out.t.c3
 have z15 := HX.out.c.q15
 go_upto_region 4 with fail
 obtain ⟨w9, hu, hf9, hg9⟩ := (HX.out.up (gQ _)).c.m.sn.put key_int Tryz.underlying62 p true (keyJ HJp.out) (enc1_inj p) (evB_inj true)
 unfold enc1 at hu
 have HK9 := hU (kp_of hg9)
 have HF9 := hU hf9
 clear hf9 hg9
 refine tQ 6 (by kernel_rfl) (by kernel_rfl) ?_
 simp only [List.take_succ_cons, List.take_zero, List.drop_succ_cons, List.drop_zero]
 repeat still_step
 refine wpStill_nil ?_
 replace HX := hU (SeeW.wrote (HX.out.up (gQ _)) HLT.out (q := b.sn) (by simp [CkB.L]) HK9.out (CkAt.on_sn (HX.out.up (gQ _)).c (kp_blk HK9.out) (fun q => if q = p then true else c.sn q) (HF9.out)))
 clear HK9 HF9
 go_upto_region 5 with fail
 clear hu
 clear e0 e1 e2 e3 e4 e5 y0 y1 y2 z15
 obtain ⟨e0, e1, e2, e3, e4, e5, _⟩ := HX.out.e.c6
 obtain ⟨y0, y1, y2, _⟩ := HX.out.t.c3
 have z16 := HX.out.c.q16
 obtain ⟨w9, hu, hf9, hg9⟩ := (HX.out.up (gQ _)).c.m.sa.put key_visit Tryz.underlying64 (p, n, x) true (keyOf_visit (p, n, x) HJp.out HJn.out HJx.out) (enc3_inj (p, n, x)) (evB_inj true)
 simp only [enc3] at hu
 have HK9 := hU (kp_of hg9)
 have HF9 := hU hf9
 clear hf9 hg9
 refine tQ 11 (by kernel_rfl) (by kernel_rfl) ?_
 simp only [List.take_succ_cons, List.take_zero, List.drop_succ_cons, List.drop_zero]
 repeat still_step
 refine wpStill_nil ?_
 replace HX := hU (SeeW.wrote (HX.out.up (gQ _)) HLT.out (q := b.sa) (by simp [CkB.L]) HK9.out (CkAt.on_sa (HX.out.up (gQ _)).c (kp_blk HK9.out) (fun q1 q2 q3 => if q1 = p ∧ q2 = n ∧ q3 = x then true else c.sa q1 q2 q3) (HF9.out.congr (fun q => by obtain ⟨q1, q2, q3⟩ := q; simp [Prod.ext_iff]))))
 clear HK9 HF9
 go_wp2_with fail
 go_end0
 refine ⟨rfl, ?_, HX.out.kp⟩
 have hc := HX.out.c
 rw [HR.out]
 rwa [show seeS F.t c ⟨x, 1, n, a, p, r⟩ = _ from if_pos rfl]
end
end
end Go.Proofs.YtdnjflpmbnjgeaaGreat
