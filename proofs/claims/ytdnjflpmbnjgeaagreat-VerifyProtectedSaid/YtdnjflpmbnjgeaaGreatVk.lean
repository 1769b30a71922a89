/-
  verify.Check (printed by gen_vk.py).
-/
import Derived.Test.YtdnjflpmbnjgeaaGreatVk2
set_option linter.unusedSimpArgs false
set_option linter.unusedVariables false
namespace Go.Proofs.YtdnjflpmbnjgeaaGreat
section
open Go.RowKit Go.Sort
def vk13D : Nat → Nat
 | 0 => 50
 | 1 => 51
 | 2 => 52
 | 3 => 53
 | 4 => 54
 | 5 => 55
 | 6 => 56
 | 7 => 57
 | 8 => 58
 | _ => 0
theorem vk13D_lt : ∀ i, i < 9 → vk13D i < 59 := by decide +kernel
theorem vk13D_inj : ∀ i, i < 9 → ∀ j, j < 9 → vk13D i = vk13D j → i = j := by decide +kernel
def vk13V (cb mb nb g : Nat) (id : Int) (pk : Value) (v : Bool) : Nat → Nat → Value
 | 0, _ => .pointer (some ⟨cb, 0, none⟩)
 | 1, _ => .pointer (some ⟨cb, 0, none⟩)
 | 2, _ => .pointer (some ⟨cb, 8, none⟩)
 | 3, _ => .map (some mb)
 | 4, _ => .pointer (some ⟨nb, 0, none⟩)
 | 5, _ => .int .i64 id
 | 6, _ => .pointer (some ⟨g, 0, none⟩)
 | 7, _ => pk
 | 8, _ => .bool v
 | _, _ => undef
theorem vk13_put (cb mb nb g : Nat) (id : Int) (pk : Value) (v : Bool) (xs : Nat → Nat) (T : Array Value) : putAll vk13D (fun i => vk13V cb mb nb g id pk v i (xs i)) 9 T = (((((((((T.setIfInBounds 50 (.pointer (some ⟨cb, 0, none⟩))).setIfInBounds 51 (.pointer (some ⟨cb, 0, none⟩))).setIfInBounds 52 (.pointer (some ⟨cb, 8, none⟩))).setIfInBounds 53 (.map (some mb))).setIfInBounds 54 (.pointer (some ⟨nb, 0, none⟩))).setIfInBounds 55 (.int .i64 id)).setIfInBounds 56 (.pointer (some ⟨g, 0, none⟩))).setIfInBounds 57 (pk)).setIfInBounds 58 (.bool v)) := rfl
section
variable {w : World}
set_option maxRecDepth 100000 in
set_option maxHeartbeats 16000000 in
theorem vy_Check (F : FaN) (ps : List PkN) (tr : List Ev) (A1 A2 O B C : Option Addr) (c1 c2 co cp ct : Nat) (hT : TAt w A1 A2 F.t) (hO : Rd w O (F.out.flatMap outL)) (hP : Rd w B (ps.flatMap pkL)) (hE : RdE w C tr)
    (hl : F.t.ls.length ≤ 100000) (hlo : F.out.length ≤ 100000) (hlp : ps.length ≤ 100000) (hlt : tr.length ≤ 100000) (hid : ∀ p ∈ ps, inJ p.id ∧ p.sn ≤ 1000000) (hk3 : ∀ e ∈ tr, e.k ≤ 3) :
    Calls Tryz.prog 8 #[.agg #[.int .i64 F.t.n, .slice A1 F.t.ov.length c1, .slice A2 F.t.ls.length c2, .int .i64 F.det, .int .i64 F.ga, .int .i64 F.ho, .slice O F.out.length co], .slice B ps.length cp, .slice C tr.length ct] w (RetVy F ps tr w) := by
 have HB0 := cQ w (.cells #[.int .i64 F.t.n, .slice A1 F.t.ov.length c1, .slice A2 F.t.ls.length c2, .int .i64 F.det, .int .i64 F.ga, .int .i64 F.ho, .slice O F.out.length co] 28)
 have hX0 := Bl.new w #[.int .i64 F.t.n, .slice A1 F.t.ov.length c1, .slice A2 F.t.ls.length c2, .int .i64 F.det, .int .i64 F.ga, .int .i64 F.ho, .slice O F.out.length co] 28
 have HS0 : Hid ((w.alloc (.cells #[.int .i64 F.t.n, .slice A1 F.t.ov.length c1, .slice A2 F.t.ls.length c2, .int .i64 F.det, .int .i64 F.ga, .int .i64 F.ho, .slice O F.out.length co] 28)).heap.size = w.heap.size + 1) := hU (by simp)
 obtain ⟨W0, hW0⟩ : ∃ W0, W0 = w.alloc (.cells #[.int .i64 F.t.n, .slice A1 F.t.ov.length c1, .slice A2 F.t.ls.length c2, .int .i64 F.det, .int .i64 F.ga, .int .i64 F.ho, .slice O F.out.length co] 28) := ⟨_, rfl⟩
 rw [← hW0] at HB0 hX0 HS0
 have HB0 := hU HB0
 have HX0 := hU hX0
 have HT := hU (hT.below HB0.out)
 have HO := hU (hO.below HB0.out)
 have HP := hU (hP.below HB0.out)
 have HTR := hU (hE.below HB0.out)
 have HID := hU hid
 have HK3 := hU hk3
 have HL := hU hl
 obtain ⟨f0, f1, f2, f3, f4, f5, f6, _⟩ := HX0.out.c7
 have HVC := hU (vy_Valid (w := W0) F ps tr A1 A2 O B C c1 c2 co cp ct HT.out HO.out HP.out HTR.out hl hlo hlp hlt (fun p hp => (hid p hp).1))
 clear hT hO hP hE hid hX0 hl hk3
 go_enter Tryz.func8, Tryz.ntmps8
 go_upto_region 1 with fail
 rw [← hW0]
 clear hW0
 cases hok : vyOk F ps tr with
 | false =>
  have HOK := hU hok
  rw [hok] at HVC
  clear hok
  go_wp2_with (go_at_call 9; (with_reducible refine HVC.out.mono ?_); rintro e w1 ⟨rfl, hb1⟩; replace HB0 := hU (bQ HB0.out hb1))
  go_ret2
  exact ⟨HB0.out, .inl ⟨HOK.out, rfl⟩⟩
 | true =>
  have HOK := hU hok
  rw [hok] at HVC
  have hok2 := hok
  unfold vyOk at hok2
  simp only [Bool.and_eq_true] at hok2
  obtain ⟨⟨hv, htm⟩, hout, hpk, htr, hnm⟩ := hok2
  have HV := hU hv
  have HTM := hU htm
  have HGA : Hid (0 ≤ F.ga ∧ F.ga ≤ 65536) := hU (by unfold timOk inR at htm; simp only [Bool.and_eq_true, decide_eq_true_eq] at htm; omega)
  have HDL : Hid ((uQ F).length ≤ 100000) := hU (by have := down_le F; have := zQ hv; omega)
  have HOUT : Hid (∀ o ∈ F.out, outOk F.t o = true) := hU (fun o ho => List.all_eq_true.1 hout o ho)
  have HPK := hU hpk
  have HTK := hU htr
  have HNM := hU hnm
  clear hok hv htm hout hpk htr hnm
  go_upto_region 4 with (first | (go_at_call 9; (with_reducible refine HVC.out.mono ?_); rintro e w1 ⟨rfl, hb1⟩; have HB1 := hU hb1; clear f0 f1 f2 f3 f4 f5 f6 HVC; obtain ⟨f0, f1, f2, f3, f4, f5, f6, _⟩ := (HX0.out.up HB1.out).c7; clear hb1) | (go_at_call 16; (with_reducible refine (vy_newChecker F A1 A2 O c1 c2 co (HT.out.below HB1.out) HV.out).mono ?_); rintro e w2 ⟨b, rfl, hC, hbl, hb2⟩; have HC := hU hC; have HBL : Hid (∀ k ∈ b.L, W0.heap.size ≤ k) := hU (fun k hk => Nat.le_trans HB1.out.size (hbl k hk)); replace HB1 := hU (bQ HB1.out hb2); clear hC hbl hb2))
  clear f0 f1 f2 f3 f4 f5 f6
  go_wp2_with fail
  go_loopw [29] (fun i wr => ∃ k : Nat, k ≤ ps.length ∧ i = .int .i64 k ∧ Hid (CkAt F A1 A2 O c1 c2 co (.slice none 0 0) b (pkOf (ps.take k)) (fun _ => false) (CkS.new F.t) wr) ∧ Hid (Below W0.heap.size W0 wr)) (fun i _ => ps.length - (intOf i).toNat)
  case atStart => exact ⟨0, Nat.zero_le _, rfl, HC, HB1⟩
  case round =>
   clear HC HB1
   obtain ⟨k, hk, rfl, HC, HB1⟩ := hrel
   by_cases hkl : k < ps.length
   ·have hkl' : (k : Int) < (ps.length : Int) := by omega
    obtain ⟨p, hpp⟩ : ∃ p, ps[k]? = some p := ⟨_, List.getElem?_eq_getElem hkl⟩
    obtain ⟨bz, oz, hAz, hcz⟩ := row_at (s := 6) (fun _ => rfl) (by omega) (HP.out.below HB1.out) hpp
    have HPP := hU hpp
    have z0 := hcz 0 (.int .i64 p.id) rfl
    have z1 := hcz 1 (.int .i64 p.src) rfl
    have z2 := hcz 2 (.int .i64 p.dst) rfl
    have z3 := hcz 3 (.int .i64 p.fl) rfl
    have z4 := hcz 4 (.slice p.st p.sn p.sc) rfl
    have z5 := hcz 5 (.int .i64 p.hops) rfl
    rw [Nat.add_zero] at z0
    have HJ : Hid (inJ p.id) := hU (HID.out p (List.mem_of_getElem? hpp)).1
    have HNE := hU (pks_out ps [] HPK.out k p hpp)
    clear hcz hpp
    subst hAz
    go_upto_region 7 with fail
    obtain ⟨nb, hnb⟩ : ∃ nb, nb = wr.heap.size := ⟨_, rfl⟩
    refine kQ (fun Y => CkAt F A1 A2 O c1 c2 co (.slice none 0 0) b (pkOf (ps.take k)) (fun _ => false) (CkS.new F.t) Y ∧ Below W0.heap.size W0 Y ∧ Bl 49 nb #[.int .i64 p.id, .int .i64 p.src, .int .i64 p.dst, .int .i64 p.fl, .slice p.st p.sn p.sc, .int .i64 p.hops] Y) ⟨HC.out.up (cQ wr _), bQ HB1.out (cQ wr _), by rw [hnb]; exact Bl.new wr _ _⟩ ?_
    rw [← hnb]
    clear hnb HC HB1 z0 z1 z2 z3 z4 z5
    rintro Y ⟨h1, h2, h3⟩
    have HC := hU h1
    have HB1 := hU h2
    have HZ := hU h3
    clear h1 h2 h3
    obtain ⟨z0, z1, z2, z3, z4, z5, _⟩ := HZ.out.c6
    have q7 := HC.out.q7
    obtain ⟨w9, hu, hf9, hg9⟩ := (HC.out.up (gQ _)).m.pk.put key_int Tryz.underlying61 p.id p (keyJ HJ.out) (enc1_inj p.id) (encP_inj p)
    simp only [enc1, encP] at hu
    have HK9 := hU (kp_of hg9)
    have HF9 := hU hf9
    clear hf9 hg9
    refine tQ 7 (by kernel_rfl) (by kernel_rfl) ?_
    simp only [List.take_succ_cons, List.take_zero, List.drop_succ_cons, List.drop_zero]
    repeat still_step
    refine wpStill_nil ?_
    go_wp2_with fail
    clear hu
    have HCN := hU (CkAt.on_pk (HC.out.up (gQ _)) (kp_blk HK9.out) (pkOf (ps.take (k + 1))) (HF9.out.congr (fun x => (pkOf_snoc HPP.out HNE.out.2.1 x).symm)))
    have HBN : Hid (Below W0.heap.size W0 w9) := hU (HK9.out.below (bQ HB1.out (gQ _)) (bQ HB1.out (gQ _)).size (fun j hj => by rw [List.mem_singleton.1 hj]; exact HBL.out _ (by simp [CkB.L])))
    go_roundw
    case rel => exact ⟨k + 1, by omega, by go_num, HCN, HBN⟩
    case measure => simp [intOf]; omega
   ·obtain rfl : k = ps.length := by omega
    rw [List.take_length] at HC
    obtain ⟨f0, f1, f2, f3, f4, f5, f6, _⟩ := (HX0.out.up HB1.out).c7
    have HLW := hU HC.out.lt
    have HWS : Hid (W0.heap.size ≤ wr.heap.size) := hU HB1.out.size
    obtain ⟨L, hL⟩ : ∃ L, L = wr.heap.size := ⟨_, rfl⟩
    rw [← hL] at HLW HWS
    have HLL := hU hL
    clear hL
    go_upto_region 10 with (go_at_call 10; (with_reducible refine (vy_newGuard F tr A1 A2 O C c1 c2 co ct (HT.out.below HB1.out) (HO.out.below HB1.out) (HTR.out.below HB1.out) HV.out HOUT.out HTM.out hlt HTK.out HNM.out).mono ?_); rintro e w3 ⟨g, sm, ok, Ad, cd, rfl, hG, hok, hg1, hg2, hb3, hfr⟩; have HFR : Hid (∀ p, Ad = some p → L ≤ p.block) := hU (by rw [HLL.out]; exact hfr); have HL3 : Hid (L ≤ w3.heap.size) := hU (by rw [HLL.out]; exact hb3.size); clear hfr; have HLR : Hid (L ≤ w3.heap.size) := hU (by rw [HLL.out]; exact hb3.size); have HGS : Hid (∀ k ∈ b.L, k ≠ g ∧ k ≠ sm) := hU (fun k hk => by have := HC.out.lt k hk; omega); have HGB : Hid (W0.heap.size ≤ g ∧ W0.heap.size ≤ sm) := hU (by have := HB1.out.size; omega); replace HC := hU (HC.out.up hb3); replace HB1 := hU (bQ HB1.out hb3); have HG := hU hG; have HGK := hU hok; clear hG hok hg1 hg2 hb3)
    clear f0 f1 f2 f3 f4 f5 f6
    go_wp2_with fail
    replace HC : Hid (CkAt F A1 A2 O c1 c2 co (.slice none 0 0) b (pkOf ps) (protV F tr (ps.take 0)) (CkS.new F.t) w3) := HC
    go_loopw [46] (fun i wr => ∃ k : Nat, k ≤ ps.length ∧ i = .int .i64 k ∧ Hid (CkAt F A1 A2 O c1 c2 co (.slice none 0 0) b (pkOf ps) (protV F tr (ps.take k)) (CkS.new F.t) wr) ∧ Hid (Below W0.heap.size W0 wr) ∧ Hid (GdW F A1 A2 O c1 c2 co g sm ok Ad (uQ F) cd (sentF tr) wr) ∧ Hid (L ≤ wr.heap.size)) (fun i _ => ps.length - (intOf i).toNat)
    case atStart => exact ⟨0, Nat.zero_le _, rfl, HC, HB1, HG, HLR⟩
    case round =>
     clear HC HB1 HG hk HLR
     obtain ⟨k, hk, rfl, HC, HB1, HG, HLR⟩ := hrel
     by_cases hkl : k < ps.length
     ·have hkl' : (k : Int) < (ps.length : Int) := by omega
      obtain ⟨p, hpp⟩ : ∃ p, ps[k]? = some p := ⟨_, List.getElem?_eq_getElem hkl⟩
      obtain ⟨bz, oz, hAz, hcz⟩ := row_at (s := 6) (fun _ => rfl) (by omega) (HP.out.below HB1.out) hpp
      have HPP := hU hpp
      have z0 := hcz 0 (.int .i64 p.id) rfl
      have z1 := hcz 1 (.int .i64 p.src) rfl
      have z2 := hcz 2 (.int .i64 p.dst) rfl
      have z3 := hcz 3 (.int .i64 p.fl) rfl
      have z4 := hcz 4 (.slice p.st p.sn p.sc) rfl
      have z5 := hcz 5 (.int .i64 p.hops) rfl
      rw [Nat.add_zero] at z0
      have HJ : Hid (inJ p.id) := hU (HID.out p (List.mem_of_getElem? hpp)).1
      have HNE := hU (pks_out ps [] HPK.out k p hpp)
      have HPQ : Hid (isN F.t.n p.src = true ∧ isN F.t.n p.dst = true ∧ inJ p.id ∧ p.sn ≤ 1000000) := hU ⟨HNE.out.2.2.1, HNE.out.2.2.2, HID.out p (List.mem_of_getElem? hpp)⟩
      clear hcz hpp
      subst hAz
      go_upto_region 13 with fail
      obtain ⟨nb, hnb⟩ : ∃ nb, nb = wr.heap.size := ⟨_, rfl⟩
      refine kQ (fun Y => CkAt F A1 A2 O c1 c2 co (.slice none 0 0) b (pkOf ps) (protV F tr (ps.take k)) (CkS.new F.t) Y ∧ Below W0.heap.size W0 Y ∧ Bl 49 nb #[.int .i64 p.id, .int .i64 p.src, .int .i64 p.dst, .int .i64 p.fl, .slice p.st p.sn p.sc, .int .i64 p.hops] Y ∧ GdW F A1 A2 O c1 c2 co g sm ok Ad (uQ F) cd (sentF tr) Y ∧ L ≤ Y.heap.size) ⟨HC.out.up (cQ wr _), bQ HB1.out (cQ wr _), by rw [hnb]; exact Bl.new wr _ _, HG.out.up (cQ wr _), Nat.le_trans HLR.out (cQ wr _).size⟩ ?_
      rw [← hnb]
      clear hnb HC HB1 HG HLR z0 z1 z2 z3 z4 z5
      rintro Y ⟨h1, h2, h3, h4, h5⟩
      have HLR := hU h5
      clear h5
      have HC := hU h1
      have HB1 := hU h2
      have HZ := hU h3
      have HG := hU h4
      clear h1 h2 h3 h4
      obtain ⟨v, hv⟩ : ∃ v, v = @decide (protP F tr p) (Classical.propDecidable _) := ⟨_, rfl⟩
      have HVV : Hid (∀ bb : Bool, (bb = true ↔ protP F tr p) → bb = v) := hU (fun bb h => by
       rw [hv, Bool.eq_iff_iff, h]
       exact (@decide_eq_true_iff _ (Classical.propDecidable _)).symm)
      have HVP := hU hv
      clear hv
      refine wp_region_mkT 9 vk13D (fun _ => none) (vk13V b.cb b.pr nb g p.id (.agg #[.int .i64 p.id, .int .i64 p.src, .int .i64 p.dst, .int .i64 p.fl, .slice p.st p.sn p.sc, .int .i64 p.hops]) v) (by kernel_rfl) (by kernel_rfl) (fun i j hi hj h => vk13D_inj i hi j hj h) (fun i hi => by have := vk13D_lt i hi; simp; omega) ?_ ?_
      ·intro L ac W xq i hi hst hr
       have HXC := hU ((HC.out.up (gQ _)).up hst.below)
       have HXZ := hU ((HZ.out.up (gQ _)).up hst.below)
       have HXG := hU ((HG.out.up (gQ _)).up hst.below)
       have HBX := hU (bQ (bQ HB1.out (gQ _)) hst.below)
       obtain ⟨z0, z1, z2, z3, z4, z5, _⟩ := HXZ.out.c6
       have q8 := HXC.out.q8
       match i, hi, hr with
       | 0, _, hr =>
        intro K hK
        have t8 : ac.tmps.getD 8 undef = .pointer (some ⟨b.cb, 0, none⟩) := (hst.old 8 (by decide +kernel)).trans rfl
        clear hst hr
        refine iQ _ rfl rfl ?_
        go_simp
        exact hK _ (Below.refl _ _)
       | 1, _, hr =>
        intro K hK
        have t50 : ac.tmps.getD 50 undef = .pointer (some ⟨b.cb, 0, none⟩) := hst.val 0 (by omega) (rU hr 0)
        clear hst hr
        refine iQ _ rfl rfl ?_
        go_simp
        exact hK _ (Below.refl _ _)
       | 2, _, hr =>
        intro K hK
        have t51 : ac.tmps.getD 51 undef = .pointer (some ⟨b.cb, 0, none⟩) := hst.val 1 (by omega) (rU hr 1)
        clear hst hr
        refine iQ _ rfl rfl ?_
        go_simp
        exact hK _ (Below.refl _ _)
       | 3, _, hr =>
        intro K hK
        have t52 : ac.tmps.getD 52 undef = .pointer (some ⟨b.cb, 8, none⟩) := hst.val 2 (by omega) (rU hr 2)
        clear hst hr
        refine iQ _ rfl rfl ?_
        go_simp
        exact hK _ (Below.refl _ _)
       | 4, _, hr =>
        intro K hK
        have t13 : ac.tmps.getD 13 undef = .pointer (some ⟨nb, 0, none⟩) := (hst.old 13 (by decide +kernel)).trans rfl
        clear hst hr
        refine iQ _ rfl rfl ?_
        go_simp
        exact hK _ (Below.refl _ _)
       | 5, _, hr =>
        intro K hK
        have t54 : ac.tmps.getD 54 undef = .pointer (some ⟨nb, 0, none⟩) := hst.val 4 (by omega) (rU hr 4)
        clear hst hr
        refine iQ _ rfl rfl ?_
        go_simp
        exact hK _ (Below.refl _ _)
       | 6, _, hr =>
        intro K hK
        have t11 : ac.tmps.getD 11 undef = .pointer (some ⟨g, 0, none⟩) := (hst.old 11 (by decide +kernel)).trans rfl
        clear hst hr
        refine iQ _ rfl rfl ?_
        go_simp
        exact hK _ (Below.refl _ _)
       | 7, _, hr =>
        intro K hK
        have t13 : ac.tmps.getD 13 undef = .pointer (some ⟨nb, 0, none⟩) := (hst.old 13 (by decide +kernel)).trans rfl
        clear hst hr
        refine iQ _ rfl rfl ?_
        go_simp
        exact hK _ (Below.refl _ _)
       | 8, _, hr =>
        intro K hK
        have t56 : ac.tmps.getD 56 undef = .pointer (some ⟨g, 0, none⟩) := hst.val 6 (by omega) (rU hr 6)
        have t57 : ac.tmps.getD 57 undef = (.agg #[.int .i64 p.id, .int .i64 p.src, .int .i64 p.dst, .int .i64 p.fl, .slice p.st p.sn p.sc, .int .i64 p.hops]) := hst.val 7 (by omega) (rU hr 7)
        clear hst hr
        refine iQ _ rfl rfl ?_
        go_simp
        with_reducible refine (gd_protects F tr p A1 A2 O Ad c1 c2 co cd g sm ok (HT.out.below HBX.out) (HO.out.below HBX.out) HV.out HOUT.out HTM.out HXG.out HGK.out HPQ.out).mono ?_
        rintro e w9 ⟨bb, rfl, hbb, hb9⟩
        have hbv := HVV.out bb hbb
        subst hbv
        exact hK w9 hb9
       | m + 9, hi, _ => exact absurd hi (by omega)
      ·intro W xs hbl hblk hinj
       simp only [vk13_put, List.setIfInBounds_toArray, List.set_cons_zero, List.set_cons_succ]
       replace HC := hU ((HC.out.up (gQ _)).up hbl)
       replace HB1 := hU (bQ (bQ HB1.out (gQ _)) hbl)
       replace HG := hU ((HG.out.up (gQ _)).up hbl)
       replace HLR : Hid (L ≤ W.heap.size) := hU (Nat.le_trans HLR.out hbl.size)
       clear hbl hblk hinj HZ
       obtain ⟨w9, hu, hf9, hg9⟩ := HC.out.m.pr.put key_int Tryz.underlying62 p.id v (keyJ HJ.out) (enc1_inj p.id) (evB_inj v)
       simp only [enc1] at hu
       have HK9 := hU (kp_of hg9)
       have HF9 := hU hf9
       clear hf9 hg9
       go_wp2_with fail
       clear hu
       have HCN := hU (CkAt.on_pr HC.out (kp_blk HK9.out) (protV F tr (ps.take (k + 1))) (HF9.out.congr (fun x => by rw [protV_snoc HPP.out HNE.out.2.1 x, HVP.out])))
       have HBN : Hid (Below W0.heap.size W0 w9) := hU (HK9.out.below HB1.out HB1.out.size (fun j hj => by rw [List.mem_singleton.1 hj]; exact HBL.out _ (by simp [CkB.L])))
       have HGN : Hid (GdW F A1 A2 O c1 c2 co g sm ok Ad (uQ F) cd (sentF tr) w9) := hU (by
        obtain ⟨gg, hgg, _⟩ := HC.out.m.pr
        obtain ⟨es, cl, hm⟩ := hgg.isMap
        exact HG.out.kpV HK9.out hm (fun e => (HGS.out b.pr (by simp [CkB.L])).2 e.symm))
       go_roundw
       case rel => exact ⟨k + 1, by omega, by go_num, HCN, HBN, HGN, hU (Nat.le_trans HLR.out HK9.out.size)⟩
       case measure => simp [intOf]; omega
     ·obtain rfl : k = ps.length := by omega
      rw [List.take_length] at HC
      obtain ⟨_, _, _, _, _, _, s8, _⟩ := HG.out.cs
      have q9 := HC.out.q9
      have z9 : wr.frozen? ⟨b.cb, 9, none⟩ = false := Bl.frz HC.out.own 9
      go_upto_region 18 with fail
      obtain ⟨rb, hrb⟩ : ∃ rb, rb = wr.heap.size := ⟨_, rfl⟩
      have HRB : Hid (L ≤ rb) := hU (by rw [hrb]; exact HLR.out)
      obtain ⟨B1, hB1⟩ : ∃ B1, B1 = rb + 1 := ⟨_, rfl⟩
      have HOC : Hid (OpC W0 b L B1 rb) := hU ⟨HBL.out, HLW.out, by have := HRB.out; omega, by omega, HRB.out, by have := HRB.out; have := HWS.out; omega⟩
      have hS := (HC.out.setF (fl' := .slice Ad (uQ F).length cd))
      have hKc : Kp [b.cb] wr (wr.setCell ⟨b.cb, 9, none⟩ (.slice Ad (uQ F).length cd)) := kp_cell
      have hsz : (wr.setCell ⟨b.cb, 9, none⟩ (.slice Ad (uQ F).length cd)).heap.size = rb := by simp [hrb]
      have hOP : OpW F ps tr A1 A2 O Ad c1 c2 co cd W0 b L B1 rb (CkS.new F.t) (.slice none 0 0) [] ((wr.setCell ⟨b.cb, 9, none⟩ (.slice Ad (uQ F).length cd)).alloc (.cells (rulesV b.cb) 74)) := by
       have h1 := cQ (wr.setCell ⟨b.cb, 9, none⟩ (.slice Ad (uQ F).length cd)) (.cells (rulesV b.cb) 74)
       refine ⟨hS.up h1, bQ (hKc.below HB1.out HB1.out.size (fun j hj => by rw [List.mem_singleton.1 hj]; exact HBL.out _ (by simp [CkB.L]))) h1, RdZ.mono (B := rb) (RdZ.upB (RdZ.kp (RdZ.mk' HG.out.rd HFR.out (Nat.le_of_eq hrb.symm)) hKc (fun k hk => by rw [List.mem_singleton.1 hk]; exact HLW.out _ (by simp [CkB.L])) (Nat.le_of_eq hrb)) (by rw [← hsz]; exact h1)) (by omega), ?_, World.ownsRow_nil _ _ _ _, by rw [World.size_alloc, hsz]; omega⟩
       have h2 := Bl.new (wr.setCell ⟨b.cb, 9, none⟩ (.slice Ad (uQ F).length cd)) (rulesV b.cb) 74
       rwa [hsz] at h2
      refine kQ (fun Y => OpW F ps tr A1 A2 O Ad c1 c2 co cd W0 b L B1 rb (CkS.new F.t) (.slice none 0 0) [] Y) hOP ?_
      clear hOP hS hKc hsz s8 q9 z9 HC HG HB1 hB1 HFR HGS HGK HGB
      simp only [World.size_setCell, ← hrb]
      clear hrb hk
      intro Y hY
      have HY := hU hY
      clear hY
      go_wp2_with fail
      go_loopw [15, 92] (fun v i wr => ∃ k : Nat, k ≤ tr.length ∧ i = .int .i64 k ∧ Hid (OpW F ps tr A1 A2 O Ad c1 c2 co cd W0 b L B1 rb (ckR F.t (tr.take k)) v (runN F ps (protV F tr ps) (uQ F) tr k) wr)) (fun _ i _ => tr.length - (intOf i).toNat)
      case atStart => exact ⟨0, Nat.zero_le _, rfl, HY⟩
      case round =>
       clear HY
       obtain ⟨k, hk, rfl, HY⟩ := hrel
       by_cases hkl : k < tr.length
       ·have hkl' : (k : Int) < (tr.length : Int) := by omega
        obtain ⟨bz, oz, ev, hAz, hev, hcz⟩ := (HTR.out.below HY.out.b0).at_ hkl
        have HEV := hU hev
        have HEO : Hid (evOk ev = true) := hU (by
         have h1 := trOk_at HTK.out hkl
         unfold goodE at h1
         rw [getD_at hev, Bool.and_eq_true] at h1
         exact h1.1)
        have HEN : Hid (xQ F.t ev = true) := hU (List.all_eq_true.1 HNM.out ev (List.mem_of_getElem? hev))
        have HTN : Hid (tr.take (k + 1) = tr.take k ++ [ev]) := hU (by rw [List.take_add_one, hev]; rfl)
        have HRN := hU (runN_snoc F ps (protV F tr ps) (uQ F) tr hev)
        have HCK : Hid (CkR F.t (tr.take k)) := hU (ck_all _ fun e he => List.all_eq_true.1 HNM.out e (List.mem_of_mem_take he))
        obtain ⟨cs, hcs⟩ : ∃ cs, cs = ckR F.t (tr.take k) := ⟨_, rfl⟩
        have HCS : Hid (ckR F.t (tr.take (k + 1)) = seeS F.t cs ev) := hU (by rw [HTN.out, ckR_snoc, ← hcs])
        have HCL : Hid (cs.st.length = F.t.n.toNat ∧ cs.en.length = F.t.n.toNat ∧ cs.ch.length = F.t.n.toNat ∧ cs.up.length = 2 * F.t.ls.length) := hU (by rw [hcs]; exact ⟨HCK.out.sl, HCK.out.el, HCK.out.cl, HCK.out.ul⟩)
        have HE3 : Hid (ev.k ≤ 3) := hU (HK3.out ev (List.mem_of_getElem? hev))
        have HCC : Hid (∀ q j, 0 ≤ cs.cr q j ∧ cs.cr q j ≤ 1000000) := hU fun q j => by
         have h1 := ck_cr F.t (tr.take k) q j
         rw [List.length_take, ← hcs] at h1
         omega
        rw [← hcs] at HY HRN
        obtain ⟨M, hM⟩ : ∃ M, M = runN F ps (protV F tr ps) (uQ F) tr k := ⟨_, rfl⟩
        have HML : Hid (M.length ≤ 1100000) := hU (by have := runN_le F ps (protV F tr ps) (uQ F) tr k hk; rw [← hM] at this; omega)
        rw [← hM] at HY HRN
        obtain ⟨x, kd, n, ar, p, r⟩ := ev
        obtain ⟨z0, z1, z2, z3, z4, z5⟩ := hcz
        simp only at z0 z1 z2 z3 z4 z5
        clear hev hcs hM
        subst hAz
        go_upto_region 21 with fail
        obtain ⟨eb, heb⟩ : ∃ eb, eb = wr.heap.size := ⟨_, rfl⟩
        refine kQ (fun Y => OpW F ps tr A1 A2 O Ad c1 c2 co cd W0 b L B1 rb cs _ M Y ∧ Bl 43 eb #[.int .i64 x, .int .i64 kd, .int .i64 n, .int .i64 ar, .int .i64 p, .int .i64 r] Y) ⟨HY.out.up (cQ wr _), by rw [heb]; exact Bl.new wr _ _⟩ ?_
        rw [← heb]
        clear heb HY z0 z1 z2 z3 z4 z5
        rintro Y ⟨h1, h2⟩
        have HY := hU h1
        have HE := hU h2
        clear h1 h2
        obtain ⟨r0, r1, r2, r3, r4, r5, r6, r7, r8, r9, r10⟩ := rules_at HY.out.r
        have hx0 := idx11_0
        have hx1 := idx11_1
        have hx2 := idx11_2
        have hx3 := idx11_3
        have hx4 := idx11_4
        have hx5 := idx11_5
        have hx6 := idx11_6
        have hx7 := idx11_7
        have hx8 := idx11_8
        have hx9 := idx11_9
        have hx10 := idx11_10
        obtain ⟨e0, e1, e2, e3, e4, e5, _⟩ := HE.out.c6
        go_wp2_with fail
        clear r0 r1 r2 r3 r4 r5 r6 r7 r8 r9 r10
        go_loopw [15, 98] (fun v i wr => ∃ J : Int, 0 ≤ J ∧ J ≤ 11 ∧ i = .int .i64 J ∧ Hid (OpW F ps tr A1 A2 O Ad c1 c2 co cd W0 b L B1 rb cs v (M ++ eZ F ps (protV F tr ps) (uQ F) cs ⟨x, kd, n, ar, p, r⟩ k J.toNat) wr) ∧ Hid (Bl 43 eb #[.int .i64 x, .int .i64 kd, .int .i64 n, .int .i64 ar, .int .i64 p, .int .i64 r] wr)) (fun _ i _ => 11 - (intOf i).toNat)
        case atStart => exact ⟨0, by omega, by omega, rfl, by rw [show ((0 : Int)).toNat = 0 from rfl, show eZ F ps (protV F tr ps) (uQ F) cs ⟨x, kd, n, ar, p, r⟩ k 0 = [] from rfl, List.append_nil]; exact HY, HE⟩
        case round =>
         clear HY HE e0 e1 e2 e3 e4 e5
         obtain ⟨J, hJ0, hJ1, rfl, HY, HE⟩ := hrel
         obtain ⟨e0, e1, e2, e3, e4, e5, _⟩ := HE.out.c6
         have HLEN : Hid ((M ++ eZ F ps (protV F tr ps) (uQ F) cs ⟨x, kd, n, ar, p, r⟩ k J.toNat).length ≤ 10000000) := hU (by
          have h1 := hits_le F ps (protV F tr ps) (uQ F) cs ⟨x, kd, n, ar, p, r⟩ k J.toNat
          have h2 := HML.out
          rw [List.length_append]
          omega)
         by_cases hJL : J < 11
         ·have HRU : Hid (RuH _ F A1 A2 O c1 c2 co Ad cd (uQ F) b ps (protV F tr ps) cs ⟨x, kd, n, ar, p, r⟩) := hU ⟨HY.out.c, HT.out.below HY.out.b0, HV.out, HEO.out, HEN.out, HCL.out.2.2.2, HE3.out⟩
          rcases (show J = 0 ∨ J = 1 ∨ J = 2 ∨ J = 3 ∨ J = 4 ∨ J = 5 ∨ J = 6 ∨ J = 7 ∨ J = 8 ∨ J = 9 ∨ J = 10 by omega) with rfl | rfl | rfl | rfl | rfl | rfl | rfl | rfl | rfl | rfl | rfl
          all_goals clear hJ0 hJ1 hJL
          ·have HRK := hU (ruk0 HRU.out)
           cases hv : ruleV F ps (protV F tr ps) (uQ F) cs ⟨x, kd, n, ar, p, r⟩ 0 with
           | false =>
            have HN : Hid (eZ F ps (protV F tr ps) (uQ F) cs ⟨x, kd, n, ar, p, r⟩ k 1 = eZ F ps (protV F tr ps) (uQ F) cs ⟨x, kd, n, ar, p, r⟩ k 0) := hU (hits_f hv)
            rw [hv] at HRK
            clear hv
            go_wp2_with (go_at_call 17; (with_reducible refine HRK.out.mono ?_); rintro e w5 ⟨rfl, hb2⟩; replace HY := hU (HY.out.up hb2); replace HE := hU (HE.out.up hb2); clear hb2 e0 e1 e2 e3 e4 e5; obtain ⟨e0, e1, e2, e3, e4, e5, _⟩ := HE.out.c6)
            go_roundw
            case rel => exact ⟨1, by omega, by omega, rfl, by rw [show ((1 : Int)).toNat = 1 from rfl, HN.out]; exact HY, HE⟩
            case measure => simp [intOf]
           | true =>
            have HN : Hid (eZ F ps (protV F tr ps) (uQ F) cs ⟨x, kd, n, ar, p, r⟩ k 1 = eZ F ps (protV F tr ps) (uQ F) cs ⟨x, kd, n, ar, p, r⟩ k 0 ++ [((k : Int), (1 : Int))]) := hU (hits_t hv rfl)
            rw [hv] at HRK
            clear hv
            go_upto_region 25 with (go_at_call 17; (with_reducible refine HRK.out.mono ?_); rintro e w5 ⟨rfl, hb2⟩; replace HY := hU (HY.out.up hb2); replace HE := hU (HE.out.up hb2); clear hb2 e0 e1 e2 e3 e4 e5; obtain ⟨e0, e1, e2, e3, e4, e5, _⟩ := HE.out.c6)
            go_wp2_with (at_builtin; (with_reducible refine wpList_vioR _ (k : Int) 1 B1 _ _ HY.out.o HLEN.out HY.out.hs ?_ ?_ ?_); (rfl); (rfl); intro v7 w7 L7 hl7 ho7 hb7 hg7; have HL7 := hU hl7; have HNE := hU (HY.out.evt HE.out hg7); replace HY := hU (HY.out.app HOC.out hb7 ho7); clear ho7 hb7 hg7 hl7 HE e0 e1 e2 e3 e4 e5)
            go_roundw
            case rel => exact ⟨1, by omega, by omega, rfl, by rw [show ((1 : Int)).toNat = 1 from rfl, HN.out, ← List.append_assoc]; have e := HL7.out; unfold SnocV at e; rw [e] at HY; exact HY, HNE⟩
            case measure => simp [intOf]
          ·have HRK := hU (ruk1 HRU.out)
           cases hv : ruleV F ps (protV F tr ps) (uQ F) cs ⟨x, kd, n, ar, p, r⟩ 1 with
           | false =>
            have HN : Hid (eZ F ps (protV F tr ps) (uQ F) cs ⟨x, kd, n, ar, p, r⟩ k 2 = eZ F ps (protV F tr ps) (uQ F) cs ⟨x, kd, n, ar, p, r⟩ k 1) := hU (hits_f hv)
            rw [hv] at HRK
            clear hv
            go_wp2_with (go_at_call 18; (with_reducible refine HRK.out.mono ?_); rintro e w5 ⟨rfl, hb2⟩; replace HY := hU (HY.out.up hb2); replace HE := hU (HE.out.up hb2); clear hb2 e0 e1 e2 e3 e4 e5; obtain ⟨e0, e1, e2, e3, e4, e5, _⟩ := HE.out.c6)
            go_roundw
            case rel => exact ⟨2, by omega, by omega, rfl, by rw [show ((2 : Int)).toNat = 2 from rfl, HN.out]; exact HY, HE⟩
            case measure => simp [intOf]
           | true =>
            have HN : Hid (eZ F ps (protV F tr ps) (uQ F) cs ⟨x, kd, n, ar, p, r⟩ k 2 = eZ F ps (protV F tr ps) (uQ F) cs ⟨x, kd, n, ar, p, r⟩ k 1 ++ [((k : Int), (2 : Int))]) := hU (hits_t hv rfl)
            rw [hv] at HRK
            clear hv
            go_upto_region 25 with (go_at_call 18; (with_reducible refine HRK.out.mono ?_); rintro e w5 ⟨rfl, hb2⟩; replace HY := hU (HY.out.up hb2); replace HE := hU (HE.out.up hb2); clear hb2 e0 e1 e2 e3 e4 e5; obtain ⟨e0, e1, e2, e3, e4, e5, _⟩ := HE.out.c6)
            go_wp2_with (at_builtin; (with_reducible refine wpList_vioR _ (k : Int) 2 B1 _ _ HY.out.o HLEN.out HY.out.hs ?_ ?_ ?_); (rfl); (rfl); intro v7 w7 L7 hl7 ho7 hb7 hg7; have HL7 := hU hl7; have HNE := hU (HY.out.evt HE.out hg7); replace HY := hU (HY.out.app HOC.out hb7 ho7); clear ho7 hb7 hg7 hl7 HE e0 e1 e2 e3 e4 e5)
            go_roundw
            case rel => exact ⟨2, by omega, by omega, rfl, by rw [show ((2 : Int)).toNat = 2 from rfl, HN.out, ← List.append_assoc]; have e := HL7.out; unfold SnocV at e; rw [e] at HY; exact HY, HNE⟩
            case measure => simp [intOf]
          ·have HRK := hU (ruk2 HRU.out)
           cases hv : ruleV F ps (protV F tr ps) (uQ F) cs ⟨x, kd, n, ar, p, r⟩ 2 with
           | false =>
            have HN : Hid (eZ F ps (protV F tr ps) (uQ F) cs ⟨x, kd, n, ar, p, r⟩ k 3 = eZ F ps (protV F tr ps) (uQ F) cs ⟨x, kd, n, ar, p, r⟩ k 2) := hU (hits_f hv)
            rw [hv] at HRK
            clear hv
            go_wp2_with (go_at_call 19; (with_reducible refine HRK.out.mono ?_); rintro e w5 ⟨rfl, hb2⟩; replace HY := hU (HY.out.up hb2); replace HE := hU (HE.out.up hb2); clear hb2 e0 e1 e2 e3 e4 e5; obtain ⟨e0, e1, e2, e3, e4, e5, _⟩ := HE.out.c6)
            go_roundw
            case rel => exact ⟨3, by omega, by omega, rfl, by rw [show ((3 : Int)).toNat = 3 from rfl, HN.out]; exact HY, HE⟩
            case measure => simp [intOf]
           | true =>
            have HN : Hid (eZ F ps (protV F tr ps) (uQ F) cs ⟨x, kd, n, ar, p, r⟩ k 3 = eZ F ps (protV F tr ps) (uQ F) cs ⟨x, kd, n, ar, p, r⟩ k 2 ++ [((k : Int), (3 : Int))]) := hU (hits_t hv rfl)
            rw [hv] at HRK
            clear hv
            go_upto_region 25 with (go_at_call 19; (with_reducible refine HRK.out.mono ?_); rintro e w5 ⟨rfl, hb2⟩; replace HY := hU (HY.out.up hb2); replace HE := hU (HE.out.up hb2); clear hb2 e0 e1 e2 e3 e4 e5; obtain ⟨e0, e1, e2, e3, e4, e5, _⟩ := HE.out.c6)
            go_wp2_with (at_builtin; (with_reducible refine wpList_vioR _ (k : Int) 3 B1 _ _ HY.out.o HLEN.out HY.out.hs ?_ ?_ ?_); (rfl); (rfl); intro v7 w7 L7 hl7 ho7 hb7 hg7; have HL7 := hU hl7; have HNE := hU (HY.out.evt HE.out hg7); replace HY := hU (HY.out.app HOC.out hb7 ho7); clear ho7 hb7 hg7 hl7 HE e0 e1 e2 e3 e4 e5)
            go_roundw
            case rel => exact ⟨3, by omega, by omega, rfl, by rw [show ((3 : Int)).toNat = 3 from rfl, HN.out, ← List.append_assoc]; have e := HL7.out; unfold SnocV at e; rw [e] at HY; exact HY, HNE⟩
            case measure => simp [intOf]
          ·have HRK := hU (ruk3 HRU.out)
           cases hv : ruleV F ps (protV F tr ps) (uQ F) cs ⟨x, kd, n, ar, p, r⟩ 3 with
           | false =>
            have HN : Hid (eZ F ps (protV F tr ps) (uQ F) cs ⟨x, kd, n, ar, p, r⟩ k 4 = eZ F ps (protV F tr ps) (uQ F) cs ⟨x, kd, n, ar, p, r⟩ k 3) := hU (hits_f hv)
            rw [hv] at HRK
            clear hv
            go_wp2_with (go_at_call 20; (with_reducible refine HRK.out.mono ?_); rintro e w5 ⟨rfl, hb2⟩; replace HY := hU (HY.out.up hb2); replace HE := hU (HE.out.up hb2); clear hb2 e0 e1 e2 e3 e4 e5; obtain ⟨e0, e1, e2, e3, e4, e5, _⟩ := HE.out.c6)
            go_roundw
            case rel => exact ⟨4, by omega, by omega, rfl, by rw [show ((4 : Int)).toNat = 4 from rfl, HN.out]; exact HY, HE⟩
            case measure => simp [intOf]
           | true =>
            have HN : Hid (eZ F ps (protV F tr ps) (uQ F) cs ⟨x, kd, n, ar, p, r⟩ k 4 = eZ F ps (protV F tr ps) (uQ F) cs ⟨x, kd, n, ar, p, r⟩ k 3 ++ [((k : Int), (4 : Int))]) := hU (hits_t hv rfl)
            rw [hv] at HRK
            clear hv
            go_upto_region 25 with (go_at_call 20; (with_reducible refine HRK.out.mono ?_); rintro e w5 ⟨rfl, hb2⟩; replace HY := hU (HY.out.up hb2); replace HE := hU (HE.out.up hb2); clear hb2 e0 e1 e2 e3 e4 e5; obtain ⟨e0, e1, e2, e3, e4, e5, _⟩ := HE.out.c6)
            go_wp2_with (at_builtin; (with_reducible refine wpList_vioR _ (k : Int) 4 B1 _ _ HY.out.o HLEN.out HY.out.hs ?_ ?_ ?_); (rfl); (rfl); intro v7 w7 L7 hl7 ho7 hb7 hg7; have HL7 := hU hl7; have HNE := hU (HY.out.evt HE.out hg7); replace HY := hU (HY.out.app HOC.out hb7 ho7); clear ho7 hb7 hg7 hl7 HE e0 e1 e2 e3 e4 e5)
            go_roundw
            case rel => exact ⟨4, by omega, by omega, rfl, by rw [show ((4 : Int)).toNat = 4 from rfl, HN.out, ← List.append_assoc]; have e := HL7.out; unfold SnocV at e; rw [e] at HY; exact HY, HNE⟩
            case measure => simp [intOf]
          ·have HRK := hU (ruk4 HRU.out)
           cases hv : ruleV F ps (protV F tr ps) (uQ F) cs ⟨x, kd, n, ar, p, r⟩ 4 with
           | false =>
            have HN : Hid (eZ F ps (protV F tr ps) (uQ F) cs ⟨x, kd, n, ar, p, r⟩ k 5 = eZ F ps (protV F tr ps) (uQ F) cs ⟨x, kd, n, ar, p, r⟩ k 4) := hU (hits_f hv)
            rw [hv] at HRK
            clear hv
            go_wp2_with (go_at_call 21; (with_reducible refine HRK.out.mono ?_); rintro e w5 ⟨rfl, hb2⟩; replace HY := hU (HY.out.up hb2); replace HE := hU (HE.out.up hb2); clear hb2 e0 e1 e2 e3 e4 e5; obtain ⟨e0, e1, e2, e3, e4, e5, _⟩ := HE.out.c6)
            go_roundw
            case rel => exact ⟨5, by omega, by omega, rfl, by rw [show ((5 : Int)).toNat = 5 from rfl, HN.out]; exact HY, HE⟩
            case measure => simp [intOf]
           | true =>
            have HN : Hid (eZ F ps (protV F tr ps) (uQ F) cs ⟨x, kd, n, ar, p, r⟩ k 5 = eZ F ps (protV F tr ps) (uQ F) cs ⟨x, kd, n, ar, p, r⟩ k 4 ++ [((k : Int), (5 : Int))]) := hU (hits_t hv rfl)
            rw [hv] at HRK
            clear hv
            go_upto_region 25 with (go_at_call 21; (with_reducible refine HRK.out.mono ?_); rintro e w5 ⟨rfl, hb2⟩; replace HY := hU (HY.out.up hb2); replace HE := hU (HE.out.up hb2); clear hb2 e0 e1 e2 e3 e4 e5; obtain ⟨e0, e1, e2, e3, e4, e5, _⟩ := HE.out.c6)
            go_wp2_with (at_builtin; (with_reducible refine wpList_vioR _ (k : Int) 5 B1 _ _ HY.out.o HLEN.out HY.out.hs ?_ ?_ ?_); (rfl); (rfl); intro v7 w7 L7 hl7 ho7 hb7 hg7; have HL7 := hU hl7; have HNE := hU (HY.out.evt HE.out hg7); replace HY := hU (HY.out.app HOC.out hb7 ho7); clear ho7 hb7 hg7 hl7 HE e0 e1 e2 e3 e4 e5)
            go_roundw
            case rel => exact ⟨5, by omega, by omega, rfl, by rw [show ((5 : Int)).toNat = 5 from rfl, HN.out, ← List.append_assoc]; have e := HL7.out; unfold SnocV at e; rw [e] at HY; exact HY, HNE⟩
            case measure => simp [intOf]
          ·have HRK := hU (ruk5 HRU.out)
           cases hv : ruleV F ps (protV F tr ps) (uQ F) cs ⟨x, kd, n, ar, p, r⟩ 5 with
           | false =>
            have HN : Hid (eZ F ps (protV F tr ps) (uQ F) cs ⟨x, kd, n, ar, p, r⟩ k 6 = eZ F ps (protV F tr ps) (uQ F) cs ⟨x, kd, n, ar, p, r⟩ k 5) := hU (hits_f hv)
            rw [hv] at HRK
            clear hv
            go_wp2_with (go_at_call 22; (with_reducible refine HRK.out.mono ?_); rintro e w5 ⟨rfl, hb2⟩; replace HY := hU (HY.out.up hb2); replace HE := hU (HE.out.up hb2); clear hb2 e0 e1 e2 e3 e4 e5; obtain ⟨e0, e1, e2, e3, e4, e5, _⟩ := HE.out.c6)
            go_roundw
            case rel => exact ⟨6, by omega, by omega, rfl, by rw [show ((6 : Int)).toNat = 6 from rfl, HN.out]; exact HY, HE⟩
            case measure => simp [intOf]
           | true =>
            have HN : Hid (eZ F ps (protV F tr ps) (uQ F) cs ⟨x, kd, n, ar, p, r⟩ k 6 = eZ F ps (protV F tr ps) (uQ F) cs ⟨x, kd, n, ar, p, r⟩ k 5 ++ [((k : Int), (6 : Int))]) := hU (hits_t hv rfl)
            rw [hv] at HRK
            clear hv
            go_upto_region 25 with (go_at_call 22; (with_reducible refine HRK.out.mono ?_); rintro e w5 ⟨rfl, hb2⟩; replace HY := hU (HY.out.up hb2); replace HE := hU (HE.out.up hb2); clear hb2 e0 e1 e2 e3 e4 e5; obtain ⟨e0, e1, e2, e3, e4, e5, _⟩ := HE.out.c6)
            go_wp2_with (at_builtin; (with_reducible refine wpList_vioR _ (k : Int) 6 B1 _ _ HY.out.o HLEN.out HY.out.hs ?_ ?_ ?_); (rfl); (rfl); intro v7 w7 L7 hl7 ho7 hb7 hg7; have HL7 := hU hl7; have HNE := hU (HY.out.evt HE.out hg7); replace HY := hU (HY.out.app HOC.out hb7 ho7); clear ho7 hb7 hg7 hl7 HE e0 e1 e2 e3 e4 e5)
            go_roundw
            case rel => exact ⟨6, by omega, by omega, rfl, by rw [show ((6 : Int)).toNat = 6 from rfl, HN.out, ← List.append_assoc]; have e := HL7.out; unfold SnocV at e; rw [e] at HY; exact HY, HNE⟩
            case measure => simp [intOf]
          ·have HRK := hU (ruk6 HRU.out)
           cases hv : ruleV F ps (protV F tr ps) (uQ F) cs ⟨x, kd, n, ar, p, r⟩ 6 with
           | false =>
            have HN : Hid (eZ F ps (protV F tr ps) (uQ F) cs ⟨x, kd, n, ar, p, r⟩ k 7 = eZ F ps (protV F tr ps) (uQ F) cs ⟨x, kd, n, ar, p, r⟩ k 6) := hU (hits_f hv)
            rw [hv] at HRK
            clear hv
            go_wp2_with (go_at_call 23; (with_reducible refine HRK.out.mono ?_); rintro e w5 ⟨rfl, hb2⟩; replace HY := hU (HY.out.up hb2); replace HE := hU (HE.out.up hb2); clear hb2 e0 e1 e2 e3 e4 e5; obtain ⟨e0, e1, e2, e3, e4, e5, _⟩ := HE.out.c6)
            go_roundw
            case rel => exact ⟨7, by omega, by omega, rfl, by rw [show ((7 : Int)).toNat = 7 from rfl, HN.out]; exact HY, HE⟩
            case measure => simp [intOf]
           | true =>
            have HN : Hid (eZ F ps (protV F tr ps) (uQ F) cs ⟨x, kd, n, ar, p, r⟩ k 7 = eZ F ps (protV F tr ps) (uQ F) cs ⟨x, kd, n, ar, p, r⟩ k 6 ++ [((k : Int), (7 : Int))]) := hU (hits_t hv rfl)
            rw [hv] at HRK
            clear hv
            go_upto_region 25 with (go_at_call 23; (with_reducible refine HRK.out.mono ?_); rintro e w5 ⟨rfl, hb2⟩; replace HY := hU (HY.out.up hb2); replace HE := hU (HE.out.up hb2); clear hb2 e0 e1 e2 e3 e4 e5; obtain ⟨e0, e1, e2, e3, e4, e5, _⟩ := HE.out.c6)
            go_wp2_with (at_builtin; (with_reducible refine wpList_vioR _ (k : Int) 7 B1 _ _ HY.out.o HLEN.out HY.out.hs ?_ ?_ ?_); (rfl); (rfl); intro v7 w7 L7 hl7 ho7 hb7 hg7; have HL7 := hU hl7; have HNE := hU (HY.out.evt HE.out hg7); replace HY := hU (HY.out.app HOC.out hb7 ho7); clear ho7 hb7 hg7 hl7 HE e0 e1 e2 e3 e4 e5)
            go_roundw
            case rel => exact ⟨7, by omega, by omega, rfl, by rw [show ((7 : Int)).toNat = 7 from rfl, HN.out, ← List.append_assoc]; have e := HL7.out; unfold SnocV at e; rw [e] at HY; exact HY, HNE⟩
            case measure => simp [intOf]
          ·have HRK := hU (ruk7 HRU.out)
           cases hv : ruleV F ps (protV F tr ps) (uQ F) cs ⟨x, kd, n, ar, p, r⟩ 7 with
           | false =>
            have HN : Hid (eZ F ps (protV F tr ps) (uQ F) cs ⟨x, kd, n, ar, p, r⟩ k 8 = eZ F ps (protV F tr ps) (uQ F) cs ⟨x, kd, n, ar, p, r⟩ k 7) := hU (hits_f hv)
            rw [hv] at HRK
            clear hv
            go_wp2_with (go_at_call 24; (with_reducible refine HRK.out.mono ?_); rintro e w5 ⟨rfl, hb2⟩; replace HY := hU (HY.out.up hb2); replace HE := hU (HE.out.up hb2); clear hb2 e0 e1 e2 e3 e4 e5; obtain ⟨e0, e1, e2, e3, e4, e5, _⟩ := HE.out.c6)
            go_roundw
            case rel => exact ⟨8, by omega, by omega, rfl, by rw [show ((8 : Int)).toNat = 8 from rfl, HN.out]; exact HY, HE⟩
            case measure => simp [intOf]
           | true =>
            have HN : Hid (eZ F ps (protV F tr ps) (uQ F) cs ⟨x, kd, n, ar, p, r⟩ k 8 = eZ F ps (protV F tr ps) (uQ F) cs ⟨x, kd, n, ar, p, r⟩ k 7 ++ [((k : Int), (8 : Int))]) := hU (hits_t hv rfl)
            rw [hv] at HRK
            clear hv
            go_upto_region 25 with (go_at_call 24; (with_reducible refine HRK.out.mono ?_); rintro e w5 ⟨rfl, hb2⟩; replace HY := hU (HY.out.up hb2); replace HE := hU (HE.out.up hb2); clear hb2 e0 e1 e2 e3 e4 e5; obtain ⟨e0, e1, e2, e3, e4, e5, _⟩ := HE.out.c6)
            go_wp2_with (at_builtin; (with_reducible refine wpList_vioR _ (k : Int) 8 B1 _ _ HY.out.o HLEN.out HY.out.hs ?_ ?_ ?_); (rfl); (rfl); intro v7 w7 L7 hl7 ho7 hb7 hg7; have HL7 := hU hl7; have HNE := hU (HY.out.evt HE.out hg7); replace HY := hU (HY.out.app HOC.out hb7 ho7); clear ho7 hb7 hg7 hl7 HE e0 e1 e2 e3 e4 e5)
            go_roundw
            case rel => exact ⟨8, by omega, by omega, rfl, by rw [show ((8 : Int)).toNat = 8 from rfl, HN.out, ← List.append_assoc]; have e := HL7.out; unfold SnocV at e; rw [e] at HY; exact HY, HNE⟩
            case measure => simp [intOf]
          ·have HRK := hU (ruk8 HRU.out)
           cases hv : ruleV F ps (protV F tr ps) (uQ F) cs ⟨x, kd, n, ar, p, r⟩ 8 with
           | false =>
            have HN : Hid (eZ F ps (protV F tr ps) (uQ F) cs ⟨x, kd, n, ar, p, r⟩ k 9 = eZ F ps (protV F tr ps) (uQ F) cs ⟨x, kd, n, ar, p, r⟩ k 8) := hU (hits_f hv)
            rw [hv] at HRK
            clear hv
            go_wp2_with (go_at_call 25; (with_reducible refine HRK.out.mono ?_); rintro e w5 ⟨rfl, hb2⟩; replace HY := hU (HY.out.up hb2); replace HE := hU (HE.out.up hb2); clear hb2 e0 e1 e2 e3 e4 e5; obtain ⟨e0, e1, e2, e3, e4, e5, _⟩ := HE.out.c6)
            go_roundw
            case rel => exact ⟨9, by omega, by omega, rfl, by rw [show ((9 : Int)).toNat = 9 from rfl, HN.out]; exact HY, HE⟩
            case measure => simp [intOf]
           | true =>
            have HN : Hid (eZ F ps (protV F tr ps) (uQ F) cs ⟨x, kd, n, ar, p, r⟩ k 9 = eZ F ps (protV F tr ps) (uQ F) cs ⟨x, kd, n, ar, p, r⟩ k 8 ++ [((k : Int), (9 : Int))]) := hU (hits_t hv rfl)
            rw [hv] at HRK
            clear hv
            go_upto_region 25 with (go_at_call 25; (with_reducible refine HRK.out.mono ?_); rintro e w5 ⟨rfl, hb2⟩; replace HY := hU (HY.out.up hb2); replace HE := hU (HE.out.up hb2); clear hb2 e0 e1 e2 e3 e4 e5; obtain ⟨e0, e1, e2, e3, e4, e5, _⟩ := HE.out.c6)
            go_wp2_with (at_builtin; (with_reducible refine wpList_vioR _ (k : Int) 9 B1 _ _ HY.out.o HLEN.out HY.out.hs ?_ ?_ ?_); (rfl); (rfl); intro v7 w7 L7 hl7 ho7 hb7 hg7; have HL7 := hU hl7; have HNE := hU (HY.out.evt HE.out hg7); replace HY := hU (HY.out.app HOC.out hb7 ho7); clear ho7 hb7 hg7 hl7 HE e0 e1 e2 e3 e4 e5)
            go_roundw
            case rel => exact ⟨9, by omega, by omega, rfl, by rw [show ((9 : Int)).toNat = 9 from rfl, HN.out, ← List.append_assoc]; have e := HL7.out; unfold SnocV at e; rw [e] at HY; exact HY, HNE⟩
            case measure => simp [intOf]
          ·have HRK := hU (ruk9 HRU.out)
           cases hv : ruleV F ps (protV F tr ps) (uQ F) cs ⟨x, kd, n, ar, p, r⟩ 9 with
           | false =>
            have HN : Hid (eZ F ps (protV F tr ps) (uQ F) cs ⟨x, kd, n, ar, p, r⟩ k 10 = eZ F ps (protV F tr ps) (uQ F) cs ⟨x, kd, n, ar, p, r⟩ k 9) := hU (hits_f hv)
            rw [hv] at HRK
            clear hv
            go_wp2_with (go_at_call 26; (with_reducible refine HRK.out.mono ?_); rintro e w5 ⟨rfl, hb2⟩; replace HY := hU (HY.out.up hb2); replace HE := hU (HE.out.up hb2); clear hb2 e0 e1 e2 e3 e4 e5; obtain ⟨e0, e1, e2, e3, e4, e5, _⟩ := HE.out.c6)
            go_roundw
            case rel => exact ⟨10, by omega, by omega, rfl, by rw [show ((10 : Int)).toNat = 10 from rfl, HN.out]; exact HY, HE⟩
            case measure => simp [intOf]
           | true =>
            have HN : Hid (eZ F ps (protV F tr ps) (uQ F) cs ⟨x, kd, n, ar, p, r⟩ k 10 = eZ F ps (protV F tr ps) (uQ F) cs ⟨x, kd, n, ar, p, r⟩ k 9 ++ [((k : Int), (10 : Int))]) := hU (hits_t hv rfl)
            rw [hv] at HRK
            clear hv
            go_upto_region 25 with (go_at_call 26; (with_reducible refine HRK.out.mono ?_); rintro e w5 ⟨rfl, hb2⟩; replace HY := hU (HY.out.up hb2); replace HE := hU (HE.out.up hb2); clear hb2 e0 e1 e2 e3 e4 e5; obtain ⟨e0, e1, e2, e3, e4, e5, _⟩ := HE.out.c6)
            go_wp2_with (at_builtin; (with_reducible refine wpList_vioR _ (k : Int) 10 B1 _ _ HY.out.o HLEN.out HY.out.hs ?_ ?_ ?_); (rfl); (rfl); intro v7 w7 L7 hl7 ho7 hb7 hg7; have HL7 := hU hl7; have HNE := hU (HY.out.evt HE.out hg7); replace HY := hU (HY.out.app HOC.out hb7 ho7); clear ho7 hb7 hg7 hl7 HE e0 e1 e2 e3 e4 e5)
            go_roundw
            case rel => exact ⟨10, by omega, by omega, rfl, by rw [show ((10 : Int)).toNat = 10 from rfl, HN.out, ← List.append_assoc]; have e := HL7.out; unfold SnocV at e; rw [e] at HY; exact HY, HNE⟩
            case measure => simp [intOf]
          ·have HRK := hU (ruk10 HRU.out)
           cases hv : ruleV F ps (protV F tr ps) (uQ F) cs ⟨x, kd, n, ar, p, r⟩ 10 with
           | false =>
            have HN : Hid (eZ F ps (protV F tr ps) (uQ F) cs ⟨x, kd, n, ar, p, r⟩ k 11 = eZ F ps (protV F tr ps) (uQ F) cs ⟨x, kd, n, ar, p, r⟩ k 10) := hU (hits_f hv)
            rw [hv] at HRK
            clear hv
            go_wp2_with (go_at_call 27; (with_reducible refine HRK.out.mono ?_); rintro e w5 ⟨rfl, hb2⟩; replace HY := hU (HY.out.up hb2); replace HE := hU (HE.out.up hb2); clear hb2 e0 e1 e2 e3 e4 e5; obtain ⟨e0, e1, e2, e3, e4, e5, _⟩ := HE.out.c6)
            go_roundw
            case rel => exact ⟨11, by omega, by omega, rfl, by rw [show ((11 : Int)).toNat = 11 from rfl, HN.out]; exact HY, HE⟩
            case measure => simp [intOf]
           | true =>
            have HN : Hid (eZ F ps (protV F tr ps) (uQ F) cs ⟨x, kd, n, ar, p, r⟩ k 11 = eZ F ps (protV F tr ps) (uQ F) cs ⟨x, kd, n, ar, p, r⟩ k 10 ++ [((k : Int), (11 : Int))]) := hU (hits_t hv rfl)
            rw [hv] at HRK
            clear hv
            go_upto_region 25 with (go_at_call 27; (with_reducible refine HRK.out.mono ?_); rintro e w5 ⟨rfl, hb2⟩; replace HY := hU (HY.out.up hb2); replace HE := hU (HE.out.up hb2); clear hb2 e0 e1 e2 e3 e4 e5; obtain ⟨e0, e1, e2, e3, e4, e5, _⟩ := HE.out.c6)
            go_wp2_with (at_builtin; (with_reducible refine wpList_vioR _ (k : Int) 11 B1 _ _ HY.out.o HLEN.out HY.out.hs ?_ ?_ ?_); (rfl); (rfl); intro v7 w7 L7 hl7 ho7 hb7 hg7; have HL7 := hU hl7; have HNE := hU (HY.out.evt HE.out hg7); replace HY := hU (HY.out.app HOC.out hb7 ho7); clear ho7 hb7 hg7 hl7 HE e0 e1 e2 e3 e4 e5)
            go_roundw
            case rel => exact ⟨11, by omega, by omega, rfl, by rw [show ((11 : Int)).toNat = 11 from rfl, HN.out, ← List.append_assoc]; have e := HL7.out; unfold SnocV at e; rw [e] at HY; exact HY, HNE⟩
            case measure => simp [intOf]
         ·obtain rfl : J = 11 := by omega
          clear hx0 hx1 hx2 hx3 hx4 hx5 hx6 hx7 hx8 hx9 hx10
          have HSEE := hU (vy_see (w0 := W0) cs x kd n ar p r HY.out.c HBL.out HY.out.b0 HT.out HV.out HEO.out HEN.out HCL.out.1 HCL.out.2.1 HCL.out.2.2.1 HCL.out.2.2.2 HCC.out)
          go_wp2_with (go_at_call 28; (with_reducible refine HSEE.out.mono ?_); rintro e w6 ⟨rfl, hC6, hK6⟩; have HC6 := hU hC6; have HK6 := hU hK6; clear hC6 hK6)
          go_roundw
          case rel => exact ⟨k + 1, by omega, by go_num, by rw [HCS.out, HRN.out]; exact hU (HY.out.see HOC.out HK6.out HC6.out)⟩
          case measure => simp [intOf]; omega
       ·obtain rfl : k = tr.length := by omega
        obtain ⟨Av, cv, hvv, _, _, hvr⟩ := rd_of_ownK HY.out.o
        have HVR := hU hvr
        have HBZ := hU (bQ HB0.out (HY.out.b0))
        clear hvr
        subst hvv
        go_wp2_with fail
        go_ret2
        exact ⟨HBZ.out, .inr ⟨HOK.out, Av, cv, _, runN_all F ps (protV F tr ps) (uQ F) tr, rfl, HVR.out⟩⟩
end
end
end Go.Proofs.YtdnjflpmbnjgeaaGreat
