/-
  see: kind 8 (printed by gen_vye2.py).
  A checker takes an event into account (printed by gen_vye2.py).
-/
import Derived.Test.YtdnjflpmbnjgeaaPkFe
import Derived.Test.YtdnjflpmbnjgeaaPkVyE0
import Derived.Test.YtdnjflpmbnjgeaaVyE2
import Derived.Test.YtdnjflpmbnjgeaaPkVyE5
import Derived.Test.YtdnjflpmbnjgeaaVyE6
namespace Go.Proofs.Ytdnjflpmbnjgeaa
set_option linter.unusedSimpArgs false
set_option linter.unusedVariables false
open Go.RowKit Go.Sort
section
variable {w w0 : World} {F : FaN} {A1 A2 O : Option Addr} {c1 c2 co : Nat} {fl : Value} {b : CkB} {pm : Int → Option PkN} {pr : Int → Bool}
set_option maxRecDepth 100000 in
set_option maxHeartbeats 16000000 in
theorem vy_see8 (c : CkS) (x n a p r : Int) (hC : CkAt F A1 A2 O c1 c2 co fl b pm pr c w) (hle : ∀ j ∈ b.L, w0.heap.size ≤ j) (h0 : Below w0.heap.size w0 w) (hT : TAt w0 A1 A2 F.t) (hv : valid F.t = true) (hev : evOk ⟨x, 8, n, a, p, r⟩ = true) (hnm : namedB F.t ⟨x, 8, n, a, p, r⟩ = true)
    (l1 : c.st.length = F.t.n.toNat) (l2 : c.en.length = F.t.n.toNat) (l3 : c.ch.length = F.t.n.toNat) (l4 : c.up.length = 2 * F.t.ls.length) (hcr : ∀ q j, 0 ≤ c.cr q j ∧ c.cr q j ≤ 1000000) :
    Calls Try.prog 23 #[.pointer (some ⟨b.cb, 0, none⟩), .agg #[.int .i64 x, .int .i64 8, .int .i64 n, .int .i64 a, .int .i64 p, .int .i64 r]] w fun e w' => e = .returned (.tuple #[]) ∧ CkAt F A1 A2 O c1 c2 co fl b pm pr (seeS F.t c ⟨x, 8, n, a, p, r⟩) w' ∧ Kp b.L w w' := by
  have hlt : ∀ j ∈ b.L, j < w.heap.size := hC.lt
  obtain ⟨R, hR⟩ : ∃ R, R = seeS F.t c ⟨x, 8, n, a, p, r⟩ := ⟨_, rfl⟩
  rw [← hR]
  have HR := Lib.hid hR
  have HC0 := Lib.hid hC
  have HLE := Lib.hid hle
  have HLT := Lib.hid hlt
  have HB0 := Lib.hid h0
  have HT := Lib.hid hT
  have HV := Lib.hid hv
  have HL1 := Lib.hid l1
  have HL2 := Lib.hid l2
  have HL3 := Lib.hid l3
  have HL4 := Lib.hid l4
  have HCR := Lib.hid hcr
  have HN := Lib.hid (valid_n hv)
  have HLL := Lib.hid (valid_ls hv)
  have HTW : Hid (∀ W, Kp b.L w W → TAt W A1 A2 F.t) := Lib.hid (fun W hK => HT.out.below (hK.below HB0.out HB0.out.size HLE.out))
  have HNM := Lib.hid hnm
  have HEV := Lib.hid hev
  have z0 := hC.q0
  have z1 := hC.q1
  have z2 := hC.q2
  have u1 := hC.own.lt
  have u2 : b.cb ≠ w.heap.size := Nat.ne_of_lt u1
  have u3 : w.heap.size ≠ b.cb := fun e => u2 e.symm
  have HJx : Hid (inJ x) := Lib.hid (evJ hev).1
  have HJn : Hid (inJ n) := Lib.hid (evJ hev).2.1
  have HJa : Hid (inJ a) := Lib.hid (evJ hev).2.2.1
  have HJp : Hid (inJ p) := Lib.hid (evJ hev).2.2.2.1
  have HJr : Hid (inJ r) := Lib.hid (evJ hev).2.2.2.2
  clear hR hC hle hlt h0 hT hv l1 l2 l3 l4 hcr hnm hev
  have hnb : 0 ≤ n ∧ n < F.t.n := by
    have := HNM.out
    simp [namedB] at this
    exact isN_true.1 this
  obtain ⟨hn0, hn1⟩ := hnb
  obtain ⟨M, hM⟩ : ∃ M, M = F.t.n.toNat := ⟨_, rfl⟩
  rw [← hM] at HL1 HL2 HL3
  have hnM : n < (M : Int) := by omega
  have hM64 : M ≤ 64 := by have := HN.out; omega
  have HM := Lib.hid hM
  have HRU : Hid (R = { c with en := if earlyB r && !earlyB (getI c.st n) then c.en.set n.toNat x else c.en, st := c.st.set n.toNat r, ch := c.ch.set n.toNat x }) := Lib.hid (by rw [HR.out]; rfl)
  clear HR hM
  cases her : earlyB r with
  | false =>
    go_enter Try.func23, Try.ntmps23
    go_upto_region 2 with fail
    refine wp_named5 (fun X => SeeW w F A1 A2 O c1 c2 co fl b pm pr x 8 n a p r c X) ⟨HC0.out.up (below_two w _ _), (Bl.new w _ _).up (below_box _ _), by simpa using Bl.new (w.alloc (.cells #[.int .i64 x, .int .i64 8, .int .i64 n, .int .i64 a, .int .i64 p, .int .i64 r] 49)) _ _, Kp.of (below_two w _ _)⟩ ?_
    intro X hX
    have HX := Lib.hid hX
    clear hX z0 z1 z2 u1 u2 u3 HC0
    obtain ⟨e0, e1, e2, e3, e4, e5, _⟩ := HX.out.e.c6
    obtain ⟨y0, y1, y2, _⟩ := HX.out.t.c3
    have z11 := HX.out.c.q11
    rw [HL1.out] at z11
    have hcs := RowI.cell (i := n) HX.out.c.m.st hn0 (by rw [HL1.out]; exact hnM)
    go_upto_region 30 with fail
    have hnn : (n.toNat : Int) = n := by omega
    have HEr := Lib.hid (fun (W : World) => (show Calls Try.prog 40 #[.int .i64 (r)] W fun e w' => e = .returned (.bool false) ∧ Below W.heap.size W w' from by have h := vy_early (w := W) (r); rwa [her] at h))
    have kq_e0 := cell_regrown e0
    have kq_e1 := cell_regrown e1
    have kq_e2 := cell_regrown e2
    have kq_e3 := cell_regrown e3
    have kq_e4 := cell_regrown e4
    have kq_e5 := cell_regrown e5
    have kq_y0 := cell_regrown y0
    have kq_y1 := cell_regrown y1
    have kq_y2 := cell_regrown y2
    have kq_z11 := cell_regrown z11
    have kq_hcs := cell_regrown hcs
    refine wp_region_quiet_below (by kernel_rfl) (by kernel_rfl) ?_
    repeat (go_big_quiet_step ((first | (with_reducible exact Calls.regrown_of (HEr.out _)))))
    refine wpQuiet_nil ?_
    intro W2 hb2
    replace hb2 := below_of_regrown hb2
    clear kq_e0 kq_e1 kq_e2 kq_e3 kq_e4 kq_e5 kq_y0 kq_y1 kq_y2 kq_z11 kq_hcs
    replace e0 := cell_up hb2 e0
    replace e1 := cell_up hb2 e1
    replace e2 := cell_up hb2 e2
    replace e3 := cell_up hb2 e3
    replace e4 := cell_up hb2 e4
    replace e5 := cell_up hb2 e5
    replace y0 := cell_up hb2 y0
    replace y1 := cell_up hb2 y1
    replace y2 := cell_up hb2 y2
    replace z11 := cell_up hb2 z11
    replace hcs := cell_up hb2 hcs
    replace HX := Lib.hid (HX.out.up hb2)
    clear hb2 e0 e1 e2 e3 e4 e5 y0 y1 y2 z11 hcs hnn
    go_upto_region 32 with fail
    refine wp_named5 (fun Y => SeeW w F A1 A2 O c1 c2 co fl b pm pr x 8 n a p r c Y) HX.out ?_
    clear HX
    intro X hX
    have HX := Lib.hid hX
    clear hX
    obtain ⟨e0, e1, e2, e3, e4, e5, _⟩ := HX.out.e.c6
    obtain ⟨y0, y1, y2, _⟩ := HX.out.t.c3
    have z11 := HX.out.c.q11
    have hln : (c : CkS).st.length = M := by simp [HL1.out]
    rw [hln] at z11
    have hcl := RowI.cell (i := n) HX.out.c.m.st (by omega) (by rw [hln]; omega)
    clear hln
    have hfz : X.frozen? ⟨b.st, (n).toNat, none⟩ = false := Bl.frz HX.out.c.m.st _
    refine wp_region_still_tailV 9 (by kernel_rfl) (by kernel_rfl) ?_
    simp only [List.take_succ_cons, List.take_zero, List.drop_succ_cons, List.drop_zero]
    repeat still_step
    refine wpStill_nil ?_
    replace HX := Lib.hid (SeeW.wrote (HX.out.up (below_drwV _)) HLT.out (q := b.st) (by simp [CkB.L]) (kp_cell (j := (n).toNat) (v := .int .i64 r)) (CkAt.on_st (HX.out.up (below_drwV _)).c (kp_blk kp_cell) (c.st.set (n).toNat r) (by simp) (RowI.set (HX.out.up (below_drwV _)).c.m.st (n).toNat r)))
    go_upto_region 33 with fail
    refine wp_named5 (fun Y => SeeW w F A1 A2 O c1 c2 co fl b pm pr x 8 n a p r { c with st := c.st.set n.toNat r } Y) HX.out ?_
    clear HX
    intro X hX
    have HX := Lib.hid hX
    clear hX
    obtain ⟨e0, e1, e2, e3, e4, e5, _⟩ := HX.out.e.c6
    obtain ⟨y0, y1, y2, _⟩ := HX.out.t.c3
    have z13 := HX.out.c.q13
    have hln : ({ c with st := c.st.set n.toNat r } : CkS).ch.length = M := by simp [HL3.out]
    rw [hln] at z13
    have hcl := RowI.cell (i := n) HX.out.c.m.ch (by omega) (by rw [hln]; omega)
    clear hln
    have hfz : X.frozen? ⟨b.ch, (n).toNat, none⟩ = false := Bl.frz HX.out.c.m.ch _
    refine wp_region_still_tailV 9 (by kernel_rfl) (by kernel_rfl) ?_
    simp only [List.take_succ_cons, List.take_zero, List.drop_succ_cons, List.drop_zero]
    repeat still_step
    refine wpStill_nil ?_
    replace HX := Lib.hid (SeeW.wrote (HX.out.up (below_drwV _)) HLT.out (q := b.ch) (by simp [CkB.L]) (kp_cell (j := (n).toNat) (v := .int .i64 x)) (CkAt.on_ch (HX.out.up (below_drwV _)).c (kp_blk kp_cell) (c.ch.set (n).toNat x) (by simp) (RowI.set (HX.out.up (below_drwV _)).c.m.ch (n).toNat x)))
    go_wp2_with fail
    go_end0
    refine ⟨rfl, ?_, HX.out.kp⟩
    have hc := HX.out.c
    rw [HRU.out]
    simp only [her, Bool.false_and, Bool.false_eq_true, if_false]
    exact hc
  | true =>
    cases hes : earlyB (getI c.st n) with
    | true =>
      go_enter Try.func23, Try.ntmps23
      go_upto_region 2 with fail
      refine wp_named5 (fun X => SeeW w F A1 A2 O c1 c2 co fl b pm pr x 8 n a p r c X) ⟨HC0.out.up (below_two w _ _), (Bl.new w _ _).up (below_box _ _), by simpa using Bl.new (w.alloc (.cells #[.int .i64 x, .int .i64 8, .int .i64 n, .int .i64 a, .int .i64 p, .int .i64 r] 49)) _ _, Kp.of (below_two w _ _)⟩ ?_
      intro X hX
      have HX := Lib.hid hX
      clear hX z0 z1 z2 u1 u2 u3 HC0
      obtain ⟨e0, e1, e2, e3, e4, e5, _⟩ := HX.out.e.c6
      obtain ⟨y0, y1, y2, _⟩ := HX.out.t.c3
      have z11 := HX.out.c.q11
      rw [HL1.out] at z11
      have hcs := RowI.cell (i := n) HX.out.c.m.st hn0 (by rw [HL1.out]; exact hnM)
      go_upto_region 30 with fail
      have hnn : (n.toNat : Int) = n := by omega
      have HEr := Lib.hid (fun (W : World) => (show Calls Try.prog 40 #[.int .i64 (r)] W fun e w' => e = .returned (.bool true) ∧ Below W.heap.size W w' from by have h := vy_early (w := W) (r); rwa [her] at h))
      have HEs := Lib.hid (fun (W : World) => (show Calls Try.prog 40 #[.int .i64 (getI c.st n)] W fun e w' => e = .returned (.bool true) ∧ Below W.heap.size W w' from by have h := vy_early (w := W) (getI c.st n); rwa [hes] at h))
      have kq_e0 := cell_regrown e0
      have kq_e1 := cell_regrown e1
      have kq_e2 := cell_regrown e2
      have kq_e3 := cell_regrown e3
      have kq_e4 := cell_regrown e4
      have kq_e5 := cell_regrown e5
      have kq_y0 := cell_regrown y0
      have kq_y1 := cell_regrown y1
      have kq_y2 := cell_regrown y2
      have kq_z11 := cell_regrown z11
      have kq_hcs := cell_regrown hcs
      refine wp_region_quiet_below (by kernel_rfl) (by kernel_rfl) ?_
      repeat (go_big_quiet_step ((first | (with_reducible exact Calls.regrown_of (HEr.out _)) | (with_reducible exact Calls.regrown_of (HEs.out _)))))
      refine wpQuiet_nil ?_
      intro W2 hb2
      replace hb2 := below_of_regrown hb2
      clear kq_e0 kq_e1 kq_e2 kq_e3 kq_e4 kq_e5 kq_y0 kq_y1 kq_y2 kq_z11 kq_hcs
      replace e0 := cell_up hb2 e0
      replace e1 := cell_up hb2 e1
      replace e2 := cell_up hb2 e2
      replace e3 := cell_up hb2 e3
      replace e4 := cell_up hb2 e4
      replace e5 := cell_up hb2 e5
      replace y0 := cell_up hb2 y0
      replace y1 := cell_up hb2 y1
      replace y2 := cell_up hb2 y2
      replace z11 := cell_up hb2 z11
      replace hcs := cell_up hb2 hcs
      replace HX := Lib.hid (HX.out.up hb2)
      clear hb2 e0 e1 e2 e3 e4 e5 y0 y1 y2 z11 hcs hnn
      go_upto_region 32 with fail
      refine wp_named5 (fun Y => SeeW w F A1 A2 O c1 c2 co fl b pm pr x 8 n a p r c Y) HX.out ?_
      clear HX
      intro X hX
      have HX := Lib.hid hX
      clear hX
      obtain ⟨e0, e1, e2, e3, e4, e5, _⟩ := HX.out.e.c6
      obtain ⟨y0, y1, y2, _⟩ := HX.out.t.c3
      have z11 := HX.out.c.q11
      have hln : (c : CkS).st.length = M := by simp [HL1.out]
      rw [hln] at z11
      have hcl := RowI.cell (i := n) HX.out.c.m.st (by omega) (by rw [hln]; omega)
      clear hln
      have hfz : X.frozen? ⟨b.st, (n).toNat, none⟩ = false := Bl.frz HX.out.c.m.st _
      refine wp_region_still_tailV 9 (by kernel_rfl) (by kernel_rfl) ?_
      simp only [List.take_succ_cons, List.take_zero, List.drop_succ_cons, List.drop_zero]
      repeat still_step
      refine wpStill_nil ?_
      replace HX := Lib.hid (SeeW.wrote (HX.out.up (below_drwV _)) HLT.out (q := b.st) (by simp [CkB.L]) (kp_cell (j := (n).toNat) (v := .int .i64 r)) (CkAt.on_st (HX.out.up (below_drwV _)).c (kp_blk kp_cell) (c.st.set (n).toNat r) (by simp) (RowI.set (HX.out.up (below_drwV _)).c.m.st (n).toNat r)))
      go_upto_region 33 with fail
      refine wp_named5 (fun Y => SeeW w F A1 A2 O c1 c2 co fl b pm pr x 8 n a p r { c with st := c.st.set n.toNat r } Y) HX.out ?_
      clear HX
      intro X hX
      have HX := Lib.hid hX
      clear hX
      obtain ⟨e0, e1, e2, e3, e4, e5, _⟩ := HX.out.e.c6
      obtain ⟨y0, y1, y2, _⟩ := HX.out.t.c3
      have z13 := HX.out.c.q13
      have hln : ({ c with st := c.st.set n.toNat r } : CkS).ch.length = M := by simp [HL3.out]
      rw [hln] at z13
      have hcl := RowI.cell (i := n) HX.out.c.m.ch (by omega) (by rw [hln]; omega)
      clear hln
      have hfz : X.frozen? ⟨b.ch, (n).toNat, none⟩ = false := Bl.frz HX.out.c.m.ch _
      refine wp_region_still_tailV 9 (by kernel_rfl) (by kernel_rfl) ?_
      simp only [List.take_succ_cons, List.take_zero, List.drop_succ_cons, List.drop_zero]
      repeat still_step
      refine wpStill_nil ?_
      replace HX := Lib.hid (SeeW.wrote (HX.out.up (below_drwV _)) HLT.out (q := b.ch) (by simp [CkB.L]) (kp_cell (j := (n).toNat) (v := .int .i64 x)) (CkAt.on_ch (HX.out.up (below_drwV _)).c (kp_blk kp_cell) (c.ch.set (n).toNat x) (by simp) (RowI.set (HX.out.up (below_drwV _)).c.m.ch (n).toNat x)))
      go_wp2_with fail
      go_end0
      refine ⟨rfl, ?_, HX.out.kp⟩
      have hc := HX.out.c
      rw [HRU.out]
      simp only [her, hes, Bool.not_true, Bool.and_false, Bool.false_eq_true, if_false]
      exact hc
    | false =>
      go_enter Try.func23, Try.ntmps23
      go_upto_region 2 with fail
      refine wp_named5 (fun X => SeeW w F A1 A2 O c1 c2 co fl b pm pr x 8 n a p r c X) ⟨HC0.out.up (below_two w _ _), (Bl.new w _ _).up (below_box _ _), by simpa using Bl.new (w.alloc (.cells #[.int .i64 x, .int .i64 8, .int .i64 n, .int .i64 a, .int .i64 p, .int .i64 r] 49)) _ _, Kp.of (below_two w _ _)⟩ ?_
      intro X hX
      have HX := Lib.hid hX
      clear hX z0 z1 z2 u1 u2 u3 HC0
      obtain ⟨e0, e1, e2, e3, e4, e5, _⟩ := HX.out.e.c6
      obtain ⟨y0, y1, y2, _⟩ := HX.out.t.c3
      have z11 := HX.out.c.q11
      rw [HL1.out] at z11
      have hcs := RowI.cell (i := n) HX.out.c.m.st hn0 (by rw [HL1.out]; exact hnM)
      go_upto_region 30 with fail
      have hnn : (n.toNat : Int) = n := by omega
      have HEr := Lib.hid (fun (W : World) => (show Calls Try.prog 40 #[.int .i64 (r)] W fun e w' => e = .returned (.bool true) ∧ Below W.heap.size W w' from by have h := vy_early (w := W) (r); rwa [her] at h))
      have HEs := Lib.hid (fun (W : World) => (show Calls Try.prog 40 #[.int .i64 (getI c.st n)] W fun e w' => e = .returned (.bool false) ∧ Below W.heap.size W w' from by have h := vy_early (w := W) (getI c.st n); rwa [hes] at h))
      have kq_e0 := cell_regrown e0
      have kq_e1 := cell_regrown e1
      have kq_e2 := cell_regrown e2
      have kq_e3 := cell_regrown e3
      have kq_e4 := cell_regrown e4
      have kq_e5 := cell_regrown e5
      have kq_y0 := cell_regrown y0
      have kq_y1 := cell_regrown y1
      have kq_y2 := cell_regrown y2
      have kq_z11 := cell_regrown z11
      have kq_hcs := cell_regrown hcs
      refine wp_region_quiet_below (by kernel_rfl) (by kernel_rfl) ?_
      repeat (go_big_quiet_step ((first | (with_reducible exact Calls.regrown_of (HEr.out _)) | (with_reducible exact Calls.regrown_of (HEs.out _)))))
      refine wpQuiet_nil ?_
      intro W2 hb2
      replace hb2 := below_of_regrown hb2
      clear kq_e0 kq_e1 kq_e2 kq_e3 kq_e4 kq_e5 kq_y0 kq_y1 kq_y2 kq_z11 kq_hcs
      replace e0 := cell_up hb2 e0
      replace e1 := cell_up hb2 e1
      replace e2 := cell_up hb2 e2
      replace e3 := cell_up hb2 e3
      replace e4 := cell_up hb2 e4
      replace e5 := cell_up hb2 e5
      replace y0 := cell_up hb2 y0
      replace y1 := cell_up hb2 y1
      replace y2 := cell_up hb2 y2
      replace z11 := cell_up hb2 z11
      replace hcs := cell_up hb2 hcs
      replace HX := Lib.hid (HX.out.up hb2)
      clear hb2 e0 e1 e2 e3 e4 e5 y0 y1 y2 z11 hcs hnn
      go_upto_region 31 with fail
      refine wp_named5 (fun Y => SeeW w F A1 A2 O c1 c2 co fl b pm pr x 8 n a p r c Y) HX.out ?_
      clear HX
      intro X hX
      have HX := Lib.hid hX
      clear hX
      obtain ⟨e0, e1, e2, e3, e4, e5, _⟩ := HX.out.e.c6
      obtain ⟨y0, y1, y2, _⟩ := HX.out.t.c3
      have z12 := HX.out.c.q12
      have hln : (c : CkS).en.length = M := by simp [HL2.out]
      rw [hln] at z12
      have hcl := RowI.cell (i := n) HX.out.c.m.en (by omega) (by rw [hln]; omega)
      clear hln
      have hfz : X.frozen? ⟨b.en, (n).toNat, none⟩ = false := Bl.frz HX.out.c.m.en _
      refine wp_region_still_tailV 9 (by kernel_rfl) (by kernel_rfl) ?_
      simp only [List.take_succ_cons, List.take_zero, List.drop_succ_cons, List.drop_zero]
      repeat still_step
      refine wpStill_nil ?_
      replace HX := Lib.hid (SeeW.wrote (HX.out.up (below_drwV _)) HLT.out (q := b.en) (by simp [CkB.L]) (kp_cell (j := (n).toNat) (v := .int .i64 x)) (CkAt.on_en (HX.out.up (below_drwV _)).c (kp_blk kp_cell) (c.en.set (n).toNat x) (by simp) (RowI.set (HX.out.up (below_drwV _)).c.m.en (n).toNat x)))
      go_upto_region 32 with fail
      refine wp_named5 (fun Y => SeeW w F A1 A2 O c1 c2 co fl b pm pr x 8 n a p r { c with en := c.en.set n.toNat x } Y) HX.out ?_
      clear HX
      intro X hX
      have HX := Lib.hid hX
      clear hX
      obtain ⟨e0, e1, e2, e3, e4, e5, _⟩ := HX.out.e.c6
      obtain ⟨y0, y1, y2, _⟩ := HX.out.t.c3
      have z11 := HX.out.c.q11
      have hln : ({ c with en := c.en.set n.toNat x } : CkS).st.length = M := by simp [HL1.out]
      rw [hln] at z11
      have hcl := RowI.cell (i := n) HX.out.c.m.st (by omega) (by rw [hln]; omega)
      clear hln
      have hfz : X.frozen? ⟨b.st, (n).toNat, none⟩ = false := Bl.frz HX.out.c.m.st _
      refine wp_region_still_tailV 9 (by kernel_rfl) (by kernel_rfl) ?_
      simp only [List.take_succ_cons, List.take_zero, List.drop_succ_cons, List.drop_zero]
      repeat still_step
      refine wpStill_nil ?_
      replace HX := Lib.hid (SeeW.wrote (HX.out.up (below_drwV _)) HLT.out (q := b.st) (by simp [CkB.L]) (kp_cell (j := (n).toNat) (v := .int .i64 r)) (CkAt.on_st (HX.out.up (below_drwV _)).c (kp_blk kp_cell) (c.st.set (n).toNat r) (by simp) (RowI.set (HX.out.up (below_drwV _)).c.m.st (n).toNat r)))
      go_upto_region 33 with fail
      refine wp_named5 (fun Y => SeeW w F A1 A2 O c1 c2 co fl b pm pr x 8 n a p r { { c with en := c.en.set n.toNat x } with st := c.st.set n.toNat r } Y) HX.out ?_
      clear HX
      intro X hX
      have HX := Lib.hid hX
      clear hX
      obtain ⟨e0, e1, e2, e3, e4, e5, _⟩ := HX.out.e.c6
      obtain ⟨y0, y1, y2, _⟩ := HX.out.t.c3
      have z13 := HX.out.c.q13
      have hln : ({ { c with en := c.en.set n.toNat x } with st := c.st.set n.toNat r } : CkS).ch.length = M := by simp [HL3.out]
      rw [hln] at z13
      have hcl := RowI.cell (i := n) HX.out.c.m.ch (by omega) (by rw [hln]; omega)
      clear hln
      have hfz : X.frozen? ⟨b.ch, (n).toNat, none⟩ = false := Bl.frz HX.out.c.m.ch _
      refine wp_region_still_tailV 9 (by kernel_rfl) (by kernel_rfl) ?_
      simp only [List.take_succ_cons, List.take_zero, List.drop_succ_cons, List.drop_zero]
      repeat still_step
      refine wpStill_nil ?_
      replace HX := Lib.hid (SeeW.wrote (HX.out.up (below_drwV _)) HLT.out (q := b.ch) (by simp [CkB.L]) (kp_cell (j := (n).toNat) (v := .int .i64 x)) (CkAt.on_ch (HX.out.up (below_drwV _)).c (kp_blk kp_cell) (c.ch.set (n).toNat x) (by simp) (RowI.set (HX.out.up (below_drwV _)).c.m.ch (n).toNat x)))
      go_wp2_with fail
      go_end0
      refine ⟨rfl, ?_, HX.out.kp⟩
      have hc := HX.out.c
      rw [HRU.out]
      simp only [her, hes, Bool.not_false, Bool.and_true, if_true]
      exact hc
end
end Go.Proofs.Ytdnjflpmbnjgeaa
namespace Go.Proofs.Ytdnjflpmbnjgeaa
set_option linter.unusedSimpArgs false
set_option linter.unusedVariables false
open Go.RowKit Go.Sort
section
variable {w w0 : World} {F : FaN} {A1 A2 O : Option Addr} {c1 c2 co : Nat} {fl : Value} {b : CkB} {pm : Int → Option PkN} {pr : Int → Bool}
theorem vy_see (c : CkS) (x k n a p r : Int) (hC : CkAt F A1 A2 O c1 c2 co fl b pm pr c w) (hle : ∀ j ∈ b.L, w0.heap.size ≤ j) (h0 : Below w0.heap.size w0 w) (hT : TAt w0 A1 A2 F.t) (hv : valid F.t = true) (hev : evOk ⟨x, k, n, a, p, r⟩ = true) (hnm : namedB F.t ⟨x, k, n, a, p, r⟩ = true)
    (l1 : c.st.length = F.t.n.toNat) (l2 : c.en.length = F.t.n.toNat) (l3 : c.ch.length = F.t.n.toNat) (l4 : c.up.length = 2 * F.t.ls.length) (hcr : ∀ q j, 0 ≤ c.cr q j ∧ c.cr q j ≤ 1000000) :
    Calls Try.prog 23 #[.pointer (some ⟨b.cb, 0, none⟩), .agg #[.int .i64 x, .int .i64 k, .int .i64 n, .int .i64 a, .int .i64 p, .int .i64 r]] w fun e w' => e = .returned (.tuple #[]) ∧ CkAt F A1 A2 O c1 c2 co fl b pm pr (seeS F.t c ⟨x, k, n, a, p, r⟩) w' ∧ Kp b.L w w' := by
  by_cases g1 : k = 1
  · subst g1; exact vy_see1 c x n a p r hC hle h0 hT hv hev hnm l1 l2 l3 l4 hcr
  by_cases g2 : k = 2
  · subst g2; exact vy_see2 c x n a p r hC hle h0 hT hv hev hnm l1 l2 l3 l4 hcr
  by_cases g5 : k = 5
  · subst g5; exact vy_see5 c x n a p r hC hle h0 hT hv hev hnm l1 l2 l3 l4 hcr
  by_cases g6 : k = 6
  · subst g6; exact vy_see6 c x n a p r hC hle h0 hT hv hev hnm l1 l2 l3 l4 hcr
  by_cases g7 : k = 7
  · subst g7; exact vy_see7 c x n a p r hC hle h0 hT hv hev hnm l1 l2 l3 l4 hcr
  by_cases g8 : k = 8
  · subst g8; exact vy_see8 c x n a p r hC hle h0 hT hv hev hnm l1 l2 l3 l4 hcr
  exact vy_see0 c x k n a p r hC hle h0 hT hv hev hnm l1 l2 l3 l4 hcr g1 g2 g5 g6 g7 g8
end
end Go.Proofs.Ytdnjflpmbnjgeaa
