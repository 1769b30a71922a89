/-
  see: kind 2 (printed by gen_vye2.py).
-/
import Derived.Test.YtdnjflpmbnjgeaaGreatPkFe
set_option linter.unusedSimpArgs false
set_option linter.unusedVariables false
namespace Go.Proofs.YtdnjflpmbnjgeaaGreat
section
open Go.RowKit Go.Sort
section
variable {w w0 : World} {F : FaN} {A1 A2 O : Option Addr} {c1 c2 co : Nat} {fl : Value} {b : CkB} {pm : Int → Option PkN} {pr : Int → Bool}
def see9D : Nat → Nat
 | 0 => 58
 | 1 => 59
 | 2 => 60
 | 3 => 61
 | 4 => 62
 | 5 => 63
 | 6 => 57
 | 7 => 64
 | 8 => 65
 | 9 => 7
 | 10 => 8
 | _ => 0
theorem see9D_lt : ∀ i, i < 11 → see9D i < 66 := by decide +kernel
theorem see9D_inj : ∀ i, i < 11 → ∀ j, j < 11 → see9D i = see9D j → i = j := by decide +kernel
def see9V (cb mb : Nat) (p h l : Int) (ok : Bool) : Nat → Nat → Value
 | 0, _ => .pointer (some ⟨cb, 0, none⟩)
 | 1, _ => .pointer (some ⟨cb, 0, none⟩)
 | 2, _ => .pointer (some ⟨cb, 17, none⟩)
 | 3, _ => .map (some mb)
 | 4, _ => .agg #[.int .i64 p, .int .i64 h]
 | 5, _ => .tuple #[.int .i64 l, .bool ok]
 | 6, _ => .tuple #[.int .i64 l, .bool ok]
 | 7, _ => .int .i64 l
 | 8, _ => .bool ok
 | 9, _ => .int .i64 l
 | 10, _ => .bool ok
 | _, _ => undef
theorem see9_put (cb mb : Nat) (p h l : Int) (ok : Bool) (xs : Nat → Nat) (T : Array Value) : putAll see9D (fun i => see9V cb mb p h l ok i (xs i)) 11 T = (((((((((((T.setIfInBounds 58 (.pointer (some ⟨cb, 0, none⟩))).setIfInBounds 59 (.pointer (some ⟨cb, 0, none⟩))).setIfInBounds 60 (.pointer (some ⟨cb, 17, none⟩))).setIfInBounds 61 (.map (some mb))).setIfInBounds 62 (.agg #[.int .i64 p, .int .i64 h])).setIfInBounds 63 (.tuple #[.int .i64 l, .bool ok])).setIfInBounds 57 (.tuple #[.int .i64 l, .bool ok])).setIfInBounds 64 (.int .i64 l)).setIfInBounds 65 (.bool ok)).setIfInBounds 7 (.int .i64 l)).setIfInBounds 8 (.bool ok)) := rfl
def see13D : Nat → Nat
 | 0 => 90
 | 1 => 91
 | 2 => 92
 | 3 => 93
 | 4 => 94
 | 5 => 95
 | 6 => 96
 | 7 => 97
 | 8 => 98
 | 9 => 99
 | 10 => 100
 | 11 => 101
 | 12 => 102
 | _ => 0
theorem see13D_lt : ∀ i, i < 13 → see13D i < 103 := by decide +kernel
theorem see13D_inj : ∀ i, i < 13 → ∀ j, j < 13 → see13D i = see13D j → i = j := by decide +kernel
def see13V (cb mb eb : Nat) (p a q : Int) (v0 : Value) (st : Nat) : Nat → Nat → Value
 | 0, _ => .pointer (some ⟨cb, 0, none⟩)
 | 1, _ => .pointer (some ⟨cb, 0, none⟩)
 | 2, _ => .pointer (some ⟨cb, 19, none⟩)
 | 3, _ => .map (some mb)
 | 4, _ => .pointer (some ⟨eb, 4, none⟩)
 | 5, _ => .int .i64 p
 | 6, _ => .pointer (some ⟨eb, 3, none⟩)
 | 7, _ => .int .i64 a
 | 8, _ => .agg #[.int .i64 p, .int .i64 a]
 | 9, _ => .int .i64 q
 | 10, _ => .int .i64 (q + 1)
 | 11, _ => .tuple #[v0, goInt st]
 | 12, _ => goInt st
 | _, _ => undef
theorem see13_put (cb mb eb : Nat) (p a q : Int) (v0 : Value) (st : Nat) (xs : Nat → Nat) (T : Array Value) : putAll see13D (fun i => see13V cb mb eb p a q v0 st i (xs i)) 13 T = (((((((((((((T.setIfInBounds 90 (.pointer (some ⟨cb, 0, none⟩))).setIfInBounds 91 (.pointer (some ⟨cb, 0, none⟩))).setIfInBounds 92 (.pointer (some ⟨cb, 19, none⟩))).setIfInBounds 93 (.map (some mb))).setIfInBounds 94 (.pointer (some ⟨eb, 4, none⟩))).setIfInBounds 95 (.int .i64 p)).setIfInBounds 96 (.pointer (some ⟨eb, 3, none⟩))).setIfInBounds 97 (.int .i64 a)).setIfInBounds 98 (.agg #[.int .i64 p, .int .i64 a])).setIfInBounds 99 (.int .i64 q)).setIfInBounds 100 (.int .i64 (q + 1))).setIfInBounds 101 (.tuple #[v0, goInt st])).setIfInBounds 102 (goInt st)) := rfl
def see7D : Nat → Nat
 | 0 => 39
 | 1 => 40
 | 2 => 41
 | 3 => 42
 | 4 => 43
 | 5 => 44
 | 6 => 45
 | 7 => 5
 | _ => 0
theorem see7D_lt : ∀ i, i < 8 → see7D i < 46 := by decide +kernel
theorem see7D_inj : ∀ i, i < 8 → ∀ j, j < 8 → see7D i = see7D j → i = j := by decide +kernel
def see7M : Nat → Option Obj
 | 7 => some (.cells #[.int .i64 0, .int .i64 0] 101)
 | _ => none
def see7V (eb : Nat) (tv : Value) (a p h : Int) : Nat → Nat → Value
 | 0, _ => .pointer (some ⟨eb, 4, none⟩)
 | 1, _ => .int .i64 p
 | 2, _ => tv
 | 3, _ => .pointer (some ⟨eb, 3, none⟩)
 | 4, _ => .int .i64 a
 | 5, _ => .int .i64 h
 | 6, _ => .agg #[.int .i64 p, .int .i64 h]
 | 7, x => .pointer (some ⟨x, 0, none⟩)
 | _, _ => undef
theorem see7_put (eb : Nat) (tv : Value) (a p h : Int) (xs : Nat → Nat) (T : Array Value) : putAll see7D (fun i => see7V eb tv a p h i (xs i)) 8 T = ((((((((T.setIfInBounds 39 (.pointer (some ⟨eb, 4, none⟩))).setIfInBounds 40 (.int .i64 p)).setIfInBounds 41 (tv)).setIfInBounds 42 (.pointer (some ⟨eb, 3, none⟩))).setIfInBounds 43 (.int .i64 a)).setIfInBounds 44 (.int .i64 h)).setIfInBounds 45 (.agg #[.int .i64 p, .int .i64 h])).setIfInBounds 5 (.pointer (some ⟨(xs 7), 0, none⟩))) := rfl
set_option maxRecDepth 100000 in
set_option maxHeartbeats 16000000 in
theorem vy_see2 (c : CkS) (x n a p r : Int) (hC : CkAt F A1 A2 O c1 c2 co fl b pm pr c w) (hle : ∀ j ∈ b.L, w0.heap.size ≤ j) (h0 : Below w0.heap.size w0 w) (hT : TAt w0 A1 A2 F.t) (hv : valid F.t = true) (hev : evOk ⟨x, 2, n, a, p, r⟩ = true) (hnm : xQ F.t ⟨x, 2, n, a, p, r⟩ = true)
    (l1 : c.st.length = F.t.n.toNat) (l2 : c.en.length = F.t.n.toNat) (l3 : c.ch.length = F.t.n.toNat) (l4 : c.up.length = 2 * F.t.ls.length) (hcr : ∀ q j, 0 ≤ c.cr q j ∧ c.cr q j ≤ 1000000) :
    Calls Tryz.prog 28 #[.pointer (some ⟨b.cb, 0, none⟩), .agg #[.int .i64 x, .int .i64 2, .int .i64 n, .int .i64 a, .int .i64 p, .int .i64 r]] w fun e w' => e = .returned (.tuple #[]) ∧ CkAt F A1 A2 O c1 c2 co fl b pm pr (seeS F.t c ⟨x, 2, n, a, p, r⟩) w' ∧ Kp b.L w w' := by
 have hlt : ∀ j ∈ b.L, j < w.heap.size := hC.lt
 obtain ⟨R, hR⟩ : ∃ R, R = seeS F.t c ⟨x, 2, n, a, p, r⟩ := ⟨_, rfl⟩
 rw [← hR]
 have HR := hU hR
 have HC0 := hU hC
 have HLE := hU hle
 have HLT := hU hlt
 have HB0 := hU h0
 have HT := hU hT
 have HV := hU hv
 have HL1 := hU l1
 have HL2 := hU l2
 have HL3 := hU l3
 have HL4 := hU l4
 have HCR := hU hcr
 have HN := hU (iZ hv)
 have HLL := hU (zQ hv)
 have HTW : Hid (∀ W, Kp b.L w W → TAt W A1 A2 F.t) := hU (fun W hK => HT.out.below (hK.below HB0.out HB0.out.size HLE.out))
 have HNM := hU hnm
 have HEV := hU hev
 have z0 := hC.q0
 have z1 := hC.q1
 have z2 := hC.q2
 have u1 := hC.own.lt
 have u2 : b.cb ≠ w.heap.size := Nat.ne_of_lt u1
 have u3 : w.heap.size ≠ b.cb := fun e => u2 e.symm
 have HJx : Hid (inJ x) := hU (evJ hev).1
 have HJn : Hid (inJ n) := hU (evJ hev).2.1
 have HJa : Hid (inJ a) := hU (evJ hev).2.2.1
 have HJp : Hid (inJ p) := hU (evJ hev).2.2.2.1
 have HJr : Hid (inJ r) := hU (evJ hev).2.2.2.2
 clear hR hC hle hlt h0 hT hv l1 l2 l3 l4 hcr hnm hev
 have hab : 0 ≤ a ∧ a < 2 * (F.t.ls.length : Int) := by
  have := HNM.out
  simp [xQ] at this
  exact isN_true.1 this.2
 obtain ⟨ha0, ha1⟩ := hab
 have HA0 := hU ha0
 have HA1 := hU ha1
 have hx : 0 ≤ x ∧ x ≤ 1073741824 := (evSmall HEV.out).1
 have HX0 := hU hx
 obtain ⟨dl, hdl⟩ : ∃ dl, dl = (lnk F.t a).dl := ⟨_, rfl⟩
 obtain ⟨hd, hhd⟩ : ∃ hd, hd = fZ F.t a := ⟨_, rfl⟩
 have hdb := lnk_bd (valid_lnk HV.out (lnk_at ha0 ha1).2)
 have hdb1 : 0 ≤ dl ∧ dl ≤ 1000000 := by rw [hdl]; omega
 have hhb := arc_ends2 HV.out ha0 ha1
 have HJh : Hid (inJ hd) := hU (by have := HN.out; rw [hhd]; unfold inJ; omega)
 have HRU : Hid (R = { c with ar := fun q1 q2 => if q1 = p ∧ q2 = hd then (match c.ar q1 q2 with | some l => if x + dl < l then some (x + dl) else some l | none => some (x + dl)) else c.ar q1 q2, fw := fun q1 q2 q3 => if q1 = p ∧ q2 = n ∧ q3 = a then true else c.fw q1 q2 q3, cr := fun q1 q2 => if q1 = p ∧ q2 = a then c.cr q1 q2 + 1 else c.cr q1 q2 }) := hU (by rw [HR.out, hdl, hhd]; rfl)
 have HHD := hU hhd
 have HDL := hU hdl
 have HDB := hU hdb1
 clear HR hdl hhd hdb hdb1 hhb hx ha0 ha1
 go_enter Tryz.func28, Tryz.ntmps28
 go_upto_region 2 with fail
 refine kQ (fun X => SeeW w F A1 A2 O c1 c2 co fl b pm pr x 2 n a p r c X) ⟨HC0.out.up (aZ w _ _), (Bl.new w _ _).up (cQ _ _), by simpa using Bl.new (w.alloc (.cells #[.int .i64 x, .int .i64 2, .int .i64 n, .int .i64 a, .int .i64 p, .int .i64 r] 43)) _ _, Kp.of (aZ w _ _)⟩ ?_
 intro X hX
 have HX := hU hX
 clear hX z0 z1 z2 u1 u2 u3 HC0
 obtain ⟨e0, e1, e2, e3, e4, e5, _⟩ := HX.out.e.c6
 obtain ⟨y0, y1, y2, _⟩ := HX.out.t.c3
 have HX0S := hU (show w.heap.size + 1 < X.heap.size from HX.out.t.lt)
 go_upto_region 7 with fail
 refine wp_region_mkT 8 see7D see7M (see7V w.heap.size (.agg #[.int .i64 F.t.n, .slice A1 F.t.ov.length c1, .slice A2 F.t.ls.length c2]) a p hd) (by kernel_rfl) (by kernel_rfl) (fun i j hi hj h => see7D_inj i hi j hj h) (fun i hi => by have := see7D_lt i hi; simp; omega) ?_ ?_
 ·intro L ac W xq i hi hst hr
  have HXW := hU ((HX.out.up (gQ _)).up hst.below)
  obtain ⟨e0, e1, e2, e3, e4, e5, _⟩ := HXW.out.e.c6
  obtain ⟨y0, y1, y2, _⟩ := HXW.out.t.c3
  match i, hi, hr with
  | 0, _, hr =>
   intro K hK
   have t3 : ac.tmps.getD 3 undef = .pointer (some ⟨w.heap.size, 0, none⟩) := (hst.old 3 (by decide +kernel)).trans rfl
   clear hst hr
   refine iQ _ rfl rfl ?_
   go_simp
   exact hK _ (Below.refl _ _)
  | 1, _, hr =>
   intro K hK
   have t39 : ac.tmps.getD 39 undef = .pointer (some ⟨w.heap.size, 4, none⟩) := hst.val 0 (by omega) (rU hr 0)
   clear hst hr
   refine iQ _ rfl rfl ?_
   go_simp
   exact hK _ (Below.refl _ _)
  | 2, _, hr =>
   intro K hK
   have t4 : ac.tmps.getD 4 undef = .pointer (some ⟨w.heap.size + 1, 0, none⟩) := (hst.old 4 (by decide +kernel)).trans rfl
   clear hst hr
   refine iQ _ rfl rfl ?_
   go_simp
   exact hK _ (Below.refl _ _)
  | 3, _, hr =>
   intro K hK
   have t3 : ac.tmps.getD 3 undef = .pointer (some ⟨w.heap.size, 0, none⟩) := (hst.old 3 (by decide +kernel)).trans rfl
   clear hst hr
   refine iQ _ rfl rfl ?_
   go_simp
   exact hK _ (Below.refl _ _)
  | 4, _, hr =>
   intro K hK
   have t42 : ac.tmps.getD 42 undef = .pointer (some ⟨w.heap.size, 3, none⟩) := hst.val 3 (by omega) (rU hr 3)
   clear hst hr
   refine iQ _ rfl rfl ?_
   go_simp
   exact hK _ (Below.refl _ _)
  | 5, _, hr =>
   intro K hK
   have t41 : ac.tmps.getD 41 undef = .agg #[.int .i64 F.t.n, .slice A1 F.t.ov.length c1, .slice A2 F.t.ls.length c2] := hst.val 2 (by omega) (rU hr 2)
   have t43 : ac.tmps.getD 43 undef = .int .i64 a := hst.val 4 (by omega) (rU hr 4)
   clear hst hr
   refine iQ _ rfl rfl ?_
   go_simp
   have hq := HHD.out
   with_reducible refine (graph_Head _ _ _ _ F.t a _ (HTW.out _ HXW.out.kp).ls HA0.out HA1.out (by have := HLL.out; omega)).mono ?_
   rintro e w9 ⟨rfl, hb⟩
   rw [← hq]
   exact hK w9 hb
  | 6, _, hr =>
   intro K hK
   have t40 : ac.tmps.getD 40 undef = .int .i64 p := hst.val 1 (by omega) (rU hr 1)
   have t44 : ac.tmps.getD 44 undef = .int .i64 hd := hst.val 5 (by omega) (rU hr 5)
   clear hst hr
   refine iQ _ rfl rfl ?_
   go_simp
   rw [Array.getD_eq_getD_getElem?] at t40 t44
   go_simp
   exact hK _ (Below.refl _ _)
  | 7, _, hr =>
   intro K hK
   clear hst hr
   refine iQ _ rfl rfl ?_
   go_simp
   exact hK
  | m + 8, hi, _ => exact absurd hi (by omega)
 ·intro W xs hbl hblk hinj
  simp only [see7_put, List.setIfInBounds_toArray, List.set_cons_zero, List.set_cons_succ]
  obtain ⟨lsp, hsp⟩ := hblk 7 _ (by omega) rfl
  generalize xs 7 = sp at *
  replace HX := hU ((HX.out.up (gQ _)).up hbl)
  have hsz : w.heap.size + 2 ≤ sp := by
   have h1 : w.heap.size + 1 < X.heap.size := HX0S.out
   have h2 : X.drew.heap.size = X.heap.size := rfl
   omega
  have HSP := hU (show Bl 101 sp #[.int .i64 0, .int .i64 0] W from hsp)
  have HSZ := hU hsz
  clear hbl hblk hinj hsp lsp hsz
  obtain ⟨s0, s1, sf⟩ := HSP.out.c2
  go_upto_region 8 with fail
  refine kQ (fun Y => SeeW w F A1 A2 O c1 c2 co fl b pm pr x 2 n a p r c Y ∧ Bl 101 sp #[.int .i64 p, .int .i64 hd] Y) ⟨SeeW.far HX.out HLT.out HSZ.out (Kp.set (kp_cell (j := 0) (v := .int .i64 p)) (by simp) (.int .i64 hd) : Kp [sp] W ((W.setCell ⟨sp, 0, none⟩ (.int .i64 p)).setCell ⟨sp, 1, none⟩ (.int .i64 hd))), (HSP.out.set 0 _ rfl).set 1 _ rfl⟩ ?_
  clear HX HSP s0 s1 sf
  rintro X ⟨hX, hSP⟩
  have HX := hU hX
  have HSP := hU hSP
  clear hX hSP
  obtain ⟨e0, e1, e2, e3, e4, e5, _⟩ := HX.out.e.c6
  obtain ⟨y0, y1, y2, _⟩ := HX.out.t.c3
  obtain ⟨lb, lo, hA2, hla⟩ := (HTW.out _ HX.out.kp).ls.arc HA0.out HA1.out
  have d5 := hla.q5
  rw [← HDL.out] at d5
  clear hla
  subst hA2
  have hll := HLL.out
  have h2 : a / 2 < (F.t.ls.length : Int) := by have := HA1.out; omega
  have h3 : (0 : Int) ≤ a / 2 := by have := HA0.out; omega
  have ha0 := HA0.out
  have ha1 := HA1.out
  obtain ⟨hx0, hx1⟩ := HX0.out
  obtain ⟨hdb0, hdb1⟩ := HDB.out
  have hw := IntWalk.wrap64_in (x + dl) (by omega)
  obtain ⟨P1, P2, P3, P4, P5, P6, P7, P8, P9, P10, -⟩ := kU e0 (kU e1 (kU e2 (kU e3 (kU e4 (kU e5 (kU y0 (kU y1 (kU y2 (kU d5 trivial)))))))))
  refine wp_region_quiet_below (by kernel_rfl) (by kernel_rfl) ?_
  repeat (go_big_quiet_step ((fail)))
  refine wpQuiet_nil ?_
  intro W2 hb2
  replace hb2 := eQ hb2
  clear P1 P2 P3 P4 P5 P6 P7 P8 P9 P10
  have zU := uU hb2 e0 (uU hb2 e1 (uU hb2 e2 (uU hb2 e3 (uU hb2 e4 (uU hb2 e5 (uU hb2 y0 (uU hb2 y1 (uU hb2 y2 (uU hb2 d5 trivial))))))))); clear e0 e1 e2 e3 e4 e5 y0 y1 y2 d5; obtain ⟨e0, e1, e2, e3, e4, e5, y0, y1, y2, d5, -⟩ := zU
  replace HX := hU (HX.out.up hb2)
  replace HSP := hU (HSP.out.up hb2)
  have HLK := hU (fun (W : World) (h : SeeW w F A1 (some ⟨lb, lo, none⟩) O c1 c2 co fl b pm pr x 2 n a p r c W) => h.c.m.ar.look key_spot Tryz.underlying65 (zero_intV W) (p, hd) (keyOf_spot (p, hd) HJp.out HJh.out) (enc2_inj (p, hd)) true)
  have HLKX := hU (show (0 : Int) = 0 from rfl)
  clear hb2 e0 e1 e2 e3 e4 e5 y0 y1 y2 d5 hw hll h2 h3 ha0 ha1 hx0 hx1 hdb0 hdb1
  go_upto_region 9 with fail
  cases har : c.ar p hd with
  | none =>
   have HJhd := HJh
   refine wp_region_all 11 [0, 1, 2, 3, 4, 5, 6, 7, 9, 8, 10] see9D (fun _ => none) (see9V b.cb b.ar p hd 0 false) (by kernel_rfl) rfl (by kernel_rfl) (fun i j hi hj h => see9D_inj i hi j hj h) (fun i hi => by have := see9D_lt i hi; simp; omega) ?_ ?_
   ·intro L ac W xq i hi hst hr
    have HXW := hU ((HX.out.up (gQ _)).up hst.below)
    have HSW := hU ((HSP.out.up (gQ _)).up hst.below)
    have z17 := HXW.out.c.q17
    obtain ⟨s0, s1, _⟩ := HSW.out.c2
    have hlk := HLK.out W HXW.out
    simp only [har, Option.map_none, Option.map_some, Option.getD_none, Option.getD_some, Option.isSome_none, Option.isSome_some, if_true, enc2] at hlk
    match i, hi, hr with
    | 0, _, hr =>
     intro K hK
     have t0 : ac.tmps.getD 0 undef = .pointer (some ⟨b.cb, 0, none⟩) := (hst.old 0 (by decide +kernel)).trans rfl
     clear hst hr
     refine iQ _ rfl rfl ?_
     go_simp
     exact hK _ (Below.refl _ _)
    | 1, _, hr =>
     intro K hK
     have t58 : ac.tmps.getD 58 undef = .pointer (some ⟨b.cb, 0, none⟩) := hst.val 0 (by omega) (rU hr 0)
     clear hst hr
     refine iQ _ rfl rfl ?_
     go_simp
     exact hK _ (Below.refl _ _)
    | 2, _, hr =>
     intro K hK
     have t59 : ac.tmps.getD 59 undef = .pointer (some ⟨b.cb, 0, none⟩) := hst.val 1 (by omega) (rU hr 1)
     clear hst hr
     refine iQ _ rfl rfl ?_
     go_simp
     exact hK _ (Below.refl _ _)
    | 3, _, hr =>
     intro K hK
     have t60 : ac.tmps.getD 60 undef = .pointer (some ⟨b.cb, 17, none⟩) := hst.val 2 (by omega) (rU hr 2)
     clear hst hr
     refine iQ _ rfl rfl ?_
     go_simp
     exact hK _ (Below.refl _ _)
    | 4, _, hr =>
     intro K hK
     have t5 : ac.tmps.getD 5 undef = .pointer (some ⟨sp, 0, none⟩) := (hst.old 5 (by decide +kernel)).trans rfl
     clear hst hr
     refine iQ _ rfl rfl ?_
     go_simp
     exact hK _ (Below.refl _ _)
    | 5, _, hr =>
     intro K hK
     have t61 : ac.tmps.getD 61 undef = .map (some b.ar) := hst.val 3 (by omega) (rU hr 3)
     have t62 : ac.tmps.getD 62 undef = .agg #[.int .i64 p, .int .i64 hd] := hst.val 4 (by omega) (rU hr 4)
     clear hst hr
     refine iQ _ rfl rfl ?_
     go_simp
     exact hK _ (Below.refl _ _)
    | 6, _, hr =>
     intro K hK
     have t63 : ac.tmps.getD 63 undef = .tuple #[.int .i64 0, .bool false] := hst.val 5 (by omega) (rU hr 5)
     clear hst hr
     refine iQ _ rfl rfl ?_
     go_simp
     exact hK _ (Below.refl _ _)
    | 7, _, hr =>
     intro K hK
     have t57 : ac.tmps.getD 57 undef = .tuple #[.int .i64 0, .bool false] := hst.val 6 (by omega) (rU hr 6)
     clear hst hr
     refine iQ _ rfl rfl ?_
     go_simp
     exact hK _ (Below.refl _ _)
    | 8, _, hr =>
     intro K hK
     have t57 : ac.tmps.getD 57 undef = .tuple #[.int .i64 0, .bool false] := hst.val 6 (by omega) (rU hr 6)
     clear hst hr
     refine iQ _ rfl rfl ?_
     go_simp
     exact hK _ (Below.refl _ _)
    | 9, _, hr =>
     intro K hK
     have t64 : ac.tmps.getD 64 undef = .int .i64 0 := hst.val 7 (by omega) (rU hr 7)
     clear hst hr
     refine iQ _ rfl rfl ?_
     go_simp
     exact hK _ (Below.refl _ _)
    | 10, _, hr =>
     intro K hK
     have t65 : ac.tmps.getD 65 undef = .bool false := hst.val 8 (by omega) (rU hr 8)
     clear hst hr
     refine iQ _ rfl rfl ?_
     go_simp
     exact hK _ (Below.refl _ _)
    | m + 11, hi, _ => exact absurd hi (by omega)
   ·intro W xs hbl hblk hinj
    simp only [see9_put, List.setIfInBounds_toArray, List.set_cons_zero, List.set_cons_succ]
    replace HX := hU ((HX.out.up (gQ _)).up hbl)
    replace HSP := hU ((HSP.out.up (gQ _)).up hbl)
    clear hbl hblk hinj
    go_upto_region 11 with fail
    refine kQ (fun Y => SeeW w F A1 (some ⟨lb, lo, none⟩) O c1 c2 co fl b pm pr x 2 n a p r c Y ∧ Bl 101 sp #[.int .i64 p, .int .i64 hd] Y) ⟨HX.out, HSP.out⟩ ?_
    clear HX HSP
    intro X hX
    have HX := hU hX.1
    have HSP := hU hX.2
    clear hX
    obtain ⟨e0, e1, e2, e3, e4, e5, _⟩ := HX.out.e.c6
    obtain ⟨y0, y1, y2, _⟩ := HX.out.t.c3
    have z17 := HX.out.c.q17
    obtain ⟨s0, s1, _⟩ := HSP.out.c2
    obtain ⟨w9, hu, hf9, hg9⟩ := (HX.out.up (gQ _)).c.m.ar.put key_spot Tryz.underlying65 (p, hd) (x + dl) (keyOf_spot (p, hd) HJp.out HJhd.out) (enc2_inj (p, hd)) (evI_inj (x + dl))
    simp only [enc2] at hu
    have HK9 := hU (kp_of hg9)
    have HF9 := hU hf9
    clear hf9 hg9
    refine tQ 6 (by kernel_rfl) (by kernel_rfl) ?_
    simp only [List.take_succ_cons, List.take_zero, List.drop_succ_cons, List.drop_zero]
    repeat still_step
    refine wpStill_nil ?_
    replace HX := hU (SeeW.wrote (HX.out.up (gQ _)) HLT.out (q := b.ar) (by simp [CkB.L]) HK9.out (CkAt.on_ar (HX.out.up (gQ _)).c (kp_blk HK9.out) (fun q1 q2 => if q1 = p ∧ q2 = hd then some (x + dl) else c.ar q1 q2) (HF9.out.congr (fun q => by obtain ⟨q1, q2⟩ := q; simp [Prod.ext_iff]))))
    clear HK9 HF9
    clear HSP
    have hdummy := HJh
    go_upto_region 12 with fail
    refine kQ (fun Y => SeeW w F A1 (some ⟨lb, lo, none⟩) O c1 c2 co fl b pm pr x 2 n a p r { c with ar := (fun q1 q2 => if q1 = p ∧ q2 = hd then some (x + dl) else c.ar q1 q2) } Y) HX.out ?_
    clear HX
    intro X hX
    have HX := hU hX
    clear hX
    obtain ⟨e0, e1, e2, e3, e4, e5, _⟩ := HX.out.e.c6
    obtain ⟨y0, y1, y2, _⟩ := HX.out.t.c3
    have z18 := HX.out.c.q18
    obtain ⟨w9, hu, hf9, hg9⟩ := (HX.out.up (gQ _)).c.m.fw.put key_hop Tryz.underlying66 (p, n, a) true (keyOf_hop (p, n, a) HJp.out HJn.out HJa.out) (enc3_inj (p, n, a)) (evB_inj true)
    simp only [enc3] at hu
    have HK9 := hU (kp_of hg9)
    have HF9 := hU hf9
    clear hf9 hg9
    refine tQ 11 (by kernel_rfl) (by kernel_rfl) ?_
    simp only [List.take_succ_cons, List.take_zero, List.drop_succ_cons, List.drop_zero]
    repeat still_step
    refine wpStill_nil ?_
    replace HX := hU (SeeW.wrote (HX.out.up (gQ _)) HLT.out (q := b.fw) (by simp [CkB.L]) HK9.out (CkAt.on_fw (HX.out.up (gQ _)).c (kp_blk HK9.out) (fun q1 q2 q3 => if q1 = p ∧ q2 = n ∧ q3 = a then true else c.fw q1 q2 q3) (HF9.out.congr (fun q => by obtain ⟨q1, q2, q3⟩ := q; simp [Prod.ext_iff]))))
    clear HK9 HF9
    go_upto_region 13 with fail
    clear hu z18 e0 e1 e2 e3 e4 e5 y0 y1 y2
    refine kQ (fun Y => SeeW w F A1 (some ⟨lb, lo, none⟩) O c1 c2 co fl b pm pr x 2 n a p r { { c with ar := (fun q1 q2 => if q1 = p ∧ q2 = hd then some (x + dl) else c.ar q1 q2) } with fw := fun q1 q2 q3 => if q1 = p ∧ q2 = n ∧ q3 = a then true else c.fw q1 q2 q3 } Y) HX.out ?_
    clear HX
    intro X hX
    have HX := hU hX
    clear hX
    obtain ⟨e0, e1, e2, e3, e4, e5, _⟩ := HX.out.e.c6
    obtain ⟨y0, y1, y2, _⟩ := HX.out.t.c3
    clear e0 e1 e2 e3 e4 e5 y0 y1 y2
    obtain ⟨v0, st, es1, cl1, hme, hgr, hbk, hft, hes⟩ := (HX.out.up (gQ _)).c.m.cr.entry key_cross Tryz.underlying67 zero_intV (p, a) (keyOf_cross (p, a) HJp.out HJa.out) (enc2_inj (p, a)) (evI_inj 0)
    have HME := hU hme
    obtain ⟨WB, hWB⟩ : ∃ WB, WB = ChangeMaps.setBlock X.drew b.cr (.map es1 cl1) := ⟨_, rfl⟩
    rw [← hWB] at hgr hbk hft HME
    have HK9 := hU (kp_of hgr)
    have HXB := hU (SeeW.wrote (HX.out.up (gQ _)) HLT.out (q := b.cr) (by simp [CkB.L]) HK9.out (CkAt.on_cr (HX.out.up (gQ _)).c (kp_blk HK9.out) c.cr hft))
    have hcb := HCR.out p a
    have HCB := hU hcb
    obtain ⟨w3, hst3, hf3, hg3⟩ := hes WB (c.cr p a + 1) (evI_inj _) hbk
    have HK3 := hU (kp_of hg3)
    have HX3 := hU (SeeW.wrote HXB.out HLT.out (q := b.cr) (by simp [CkB.L]) HK3.out (CkAt.on_cr HXB.out.c (kp_blk HK3.out) (fun q1 q2 => if q1 = p ∧ q2 = a then c.cr q1 q2 + 1 else c.cr q1 q2) (hf3.congr (fun q => by obtain ⟨q1, q2⟩ := q; by_cases h : q1 = p ∧ q2 = a <;> simp [Prod.ext_iff, h]))))
    have HS3 := hU hst3
    clear hme hgr hbk hft hes hcb hf3 hg3 hst3 hWB
    refine wp_region_two 13 see13D (fun i => see13V b.cb b.cr w.heap.size p a (c.cr p a) v0 st i 0) 11 WB (by omega) (by kernel_rfl) (by kernel_rfl) (fun i j hi hj h => see13D_inj i hi j hj h) (fun i hi => by have := see13D_lt i hi; simp; omega) ?_ ?_ ?_
    ·intro L ac i W hi hik hW hst hr K hK
     have HXW : Hid (SeeW w F A1 (some ⟨lb, lo, none⟩) O c1 c2 co fl b pm pr x 2 n a p r { { c with ar := (fun q1 q2 => if q1 = p ∧ q2 = hd then some (x + dl) else c.ar q1 q2) } with fw := fun q1 q2 q3 => if q1 = p ∧ q2 = n ∧ q3 = a then true else c.fw q1 q2 q3 } W) := hU (hW.elim (fun e => by rw [e]; exact HX.out.up (gQ _)) (fun e => by rw [e]; exact HXB.out))
     obtain ⟨e0, e1, e2, e3, e4, e5, _⟩ := HXW.out.e.c6
     have z19 := HXW.out.c.q19
     have hlk := HXW.out.c.m.cr.look key_cross Tryz.underlying67 (zero_intV W) (p, a) (keyOf_cross (p, a) HJp.out HJa.out) (enc2_inj (p, a))
     simp only [enc2] at hlk
     have hcb := HCB.out
     match i, hi, hik, hr, hK with
     | 0, _, _, hr, hK =>
      have t0 : ac.tmps.getD 0 undef = .pointer (some ⟨b.cb, 0, none⟩) := (hst.old 0 (by decide +kernel)).trans rfl
      clear hst hr
      refine iQ _ rfl rfl ?_
      go_simp
      exact hK
     | 1, _, _, hr, hK =>
      have t90 : ac.tmps.getD 90 undef = .pointer (some ⟨b.cb, 0, none⟩) := hst.val 0 (by omega) (rU hr 0)
      clear hst hr
      refine iQ _ rfl rfl ?_
      go_simp
      exact hK
     | 2, _, _, hr, hK =>
      have t91 : ac.tmps.getD 91 undef = .pointer (some ⟨b.cb, 0, none⟩) := hst.val 1 (by omega) (rU hr 1)
      clear hst hr
      refine iQ _ rfl rfl ?_
      go_simp
      exact hK
     | 3, _, _, hr, hK =>
      have t92 : ac.tmps.getD 92 undef = .pointer (some ⟨b.cb, 19, none⟩) := hst.val 2 (by omega) (rU hr 2)
      clear hst hr
      refine iQ _ rfl rfl ?_
      go_simp
      exact hK
     | 4, _, _, hr, hK =>
      have t3 : ac.tmps.getD 3 undef = .pointer (some ⟨w.heap.size, 0, none⟩) := (hst.old 3 (by decide +kernel)).trans rfl
      clear hst hr
      refine iQ _ rfl rfl ?_
      go_simp
      exact hK
     | 5, _, _, hr, hK =>
      have t94 : ac.tmps.getD 94 undef = .pointer (some ⟨w.heap.size, 4, none⟩) := hst.val 4 (by omega) (rU hr 4)
      clear hst hr
      refine iQ _ rfl rfl ?_
      go_simp
      exact hK
     | 6, _, _, hr, hK =>
      have t3 : ac.tmps.getD 3 undef = .pointer (some ⟨w.heap.size, 0, none⟩) := (hst.old 3 (by decide +kernel)).trans rfl
      clear hst hr
      refine iQ _ rfl rfl ?_
      go_simp
      exact hK
     | 7, _, _, hr, hK =>
      have t96 : ac.tmps.getD 96 undef = .pointer (some ⟨w.heap.size, 3, none⟩) := hst.val 6 (by omega) (rU hr 6)
      clear hst hr
      refine iQ _ rfl rfl ?_
      go_simp
      exact hK
     | 8, _, _, hr, hK =>
      have t95 : ac.tmps.getD 95 undef = .int .i64 p := hst.val 5 (by omega) (rU hr 5)
      have t97 : ac.tmps.getD 97 undef = .int .i64 a := hst.val 7 (by omega) (rU hr 7)
      clear hst hr
      refine iQ _ rfl rfl ?_
      rw [Array.getD_eq_getD_getElem?] at t95 t97
      go_simp
      exact hK
     | 9, _, _, hr, hK =>
      have t93 : ac.tmps.getD 93 undef = .map (some b.cr) := hst.val 3 (by omega) (rU hr 3)
      have t98 : ac.tmps.getD 98 undef = .agg #[.int .i64 p, .int .i64 a] := hst.val 8 (by omega) (rU hr 8)
      clear hst hr
      refine iQ _ rfl rfl ?_
      go_simp
      exact hK
     | 10, _, _, hr, hK =>
      have t99 : ac.tmps.getD 99 undef = .int .i64 (c.cr p a) := hst.val 9 (by omega) (rU hr 9)
      clear hst hr
      refine iQ _ rfl rfl ?_
      have hw := IntWalk.i64_in (c.cr p a + 1) (by omega)
      go_simp
      exact hK
     | 11, _, hik, _, _ => exact absurd rfl hik
     | 12, _, _, hr, hK =>
      have t101 : ac.tmps.getD 101 undef = .tuple #[v0, goInt st] := hst.val 11 (by omega) (rU hr 11)
      clear hst hr
      refine iQ _ rfl rfl ?_
      go_simp
      exact hK
     | m + 13, hi, _, _, _ => exact absurd hi (by omega)
    ·intro L ac hst hr K hK
     have hme := HME.out
     simp only [enc2] at hme
     have t93 : ac.tmps.getD 93 undef = .map (some b.cr) := hst.val 3 (by omega) (rU hr 3)
     have t98 : ac.tmps.getD 98 undef = .agg #[.int .i64 p, .int .i64 a] := hst.val 8 (by omega) (rU hr 8)
     clear hst hr
     refine iQ _ rfl rfl ?_
     go_simp
     exact hK
    ·simp only [see13_put, List.setIfInBounds_toArray, List.set_cons_zero, List.set_cons_succ]
     have hst3 := HS3.out
     simp only [goInt] at hst3
     go_wp2_with fail
     go_end0
     refine ⟨rfl, ?_, HX3.out.kp⟩
     have hc := HX3.out.c
     rw [HRU.out]
     refine cast (congrArg (fun f => CkAt F A1 (some ⟨lb, lo, none⟩) O c1 c2 co fl b pm pr { c with ar := f, fw := fun q1 q2 q3 => if q1 = p ∧ q2 = n ∧ q3 = a then true else c.fw q1 q2 q3, cr := fun q1 q2 => if q1 = p ∧ q2 = a then c.cr q1 q2 + 1 else c.cr q1 q2 } w3) ?_) hc
     funext q1 q2
     by_cases h : q1 = p ∧ q2 = hd
     ·obtain ⟨rfl, rfl⟩ := h
      simp [har]
     ·simp [h]
  | some l =>
   have HJhd := HJh
   refine wp_region_all 11 [0, 1, 2, 3, 4, 5, 6, 7, 9, 8, 10] see9D (fun _ => none) (see9V b.cb b.ar p hd l true) (by kernel_rfl) rfl (by kernel_rfl) (fun i j hi hj h => see9D_inj i hi j hj h) (fun i hi => by have := see9D_lt i hi; simp; omega) ?_ ?_
   ·intro L ac W xq i hi hst hr
    have HXW := hU ((HX.out.up (gQ _)).up hst.below)
    have HSW := hU ((HSP.out.up (gQ _)).up hst.below)
    have z17 := HXW.out.c.q17
    obtain ⟨s0, s1, _⟩ := HSW.out.c2
    have hlk := HLK.out W HXW.out
    simp only [har, Option.map_none, Option.map_some, Option.getD_none, Option.getD_some, Option.isSome_none, Option.isSome_some, if_true, enc2] at hlk
    match i, hi, hr with
    | 0, _, hr =>
     intro K hK
     have t0 : ac.tmps.getD 0 undef = .pointer (some ⟨b.cb, 0, none⟩) := (hst.old 0 (by decide +kernel)).trans rfl
     clear hst hr
     refine iQ _ rfl rfl ?_
     go_simp
     exact hK _ (Below.refl _ _)
    | 1, _, hr =>
     intro K hK
     have t58 : ac.tmps.getD 58 undef = .pointer (some ⟨b.cb, 0, none⟩) := hst.val 0 (by omega) (rU hr 0)
     clear hst hr
     refine iQ _ rfl rfl ?_
     go_simp
     exact hK _ (Below.refl _ _)
    | 2, _, hr =>
     intro K hK
     have t59 : ac.tmps.getD 59 undef = .pointer (some ⟨b.cb, 0, none⟩) := hst.val 1 (by omega) (rU hr 1)
     clear hst hr
     refine iQ _ rfl rfl ?_
     go_simp
     exact hK _ (Below.refl _ _)
    | 3, _, hr =>
     intro K hK
     have t60 : ac.tmps.getD 60 undef = .pointer (some ⟨b.cb, 17, none⟩) := hst.val 2 (by omega) (rU hr 2)
     clear hst hr
     refine iQ _ rfl rfl ?_
     go_simp
     exact hK _ (Below.refl _ _)
    | 4, _, hr =>
     intro K hK
     have t5 : ac.tmps.getD 5 undef = .pointer (some ⟨sp, 0, none⟩) := (hst.old 5 (by decide +kernel)).trans rfl
     clear hst hr
     refine iQ _ rfl rfl ?_
     go_simp
     exact hK _ (Below.refl _ _)
    | 5, _, hr =>
     intro K hK
     have t61 : ac.tmps.getD 61 undef = .map (some b.ar) := hst.val 3 (by omega) (rU hr 3)
     have t62 : ac.tmps.getD 62 undef = .agg #[.int .i64 p, .int .i64 hd] := hst.val 4 (by omega) (rU hr 4)
     clear hst hr
     refine iQ _ rfl rfl ?_
     go_simp
     exact hK _ (Below.refl _ _)
    | 6, _, hr =>
     intro K hK
     have t63 : ac.tmps.getD 63 undef = .tuple #[.int .i64 l, .bool true] := hst.val 5 (by omega) (rU hr 5)
     clear hst hr
     refine iQ _ rfl rfl ?_
     go_simp
     exact hK _ (Below.refl _ _)
    | 7, _, hr =>
     intro K hK
     have t57 : ac.tmps.getD 57 undef = .tuple #[.int .i64 l, .bool true] := hst.val 6 (by omega) (rU hr 6)
     clear hst hr
     refine iQ _ rfl rfl ?_
     go_simp
     exact hK _ (Below.refl _ _)
    | 8, _, hr =>
     intro K hK
     have t57 : ac.tmps.getD 57 undef = .tuple #[.int .i64 l, .bool true] := hst.val 6 (by omega) (rU hr 6)
     clear hst hr
     refine iQ _ rfl rfl ?_
     go_simp
     exact hK _ (Below.refl _ _)
    | 9, _, hr =>
     intro K hK
     have t64 : ac.tmps.getD 64 undef = .int .i64 l := hst.val 7 (by omega) (rU hr 7)
     clear hst hr
     refine iQ _ rfl rfl ?_
     go_simp
     exact hK _ (Below.refl _ _)
    | 10, _, hr =>
     intro K hK
     have t65 : ac.tmps.getD 65 undef = .bool true := hst.val 8 (by omega) (rU hr 8)
     clear hst hr
     refine iQ _ rfl rfl ?_
     go_simp
     exact hK _ (Below.refl _ _)
    | m + 11, hi, _ => exact absurd hi (by omega)
   ·intro W xs hbl hblk hinj
    simp only [see9_put, List.setIfInBounds_toArray, List.set_cons_zero, List.set_cons_succ]
    replace HX := hU ((HX.out.up (gQ _)).up hbl)
    replace HSP := hU ((HSP.out.up (gQ _)).up hbl)
    clear hbl hblk hinj
    by_cases hlt : x + dl < l
    ·skip
     go_upto_region 11 with fail
     refine kQ (fun Y => SeeW w F A1 (some ⟨lb, lo, none⟩) O c1 c2 co fl b pm pr x 2 n a p r c Y ∧ Bl 101 sp #[.int .i64 p, .int .i64 hd] Y) ⟨HX.out, HSP.out⟩ ?_
     clear HX HSP
     intro X hX
     have HX := hU hX.1
     have HSP := hU hX.2
     clear hX
     obtain ⟨e0, e1, e2, e3, e4, e5, _⟩ := HX.out.e.c6
     obtain ⟨y0, y1, y2, _⟩ := HX.out.t.c3
     have z17 := HX.out.c.q17
     obtain ⟨s0, s1, _⟩ := HSP.out.c2
     obtain ⟨w9, hu, hf9, hg9⟩ := (HX.out.up (gQ _)).c.m.ar.put key_spot Tryz.underlying65 (p, hd) (x + dl) (keyOf_spot (p, hd) HJp.out HJhd.out) (enc2_inj (p, hd)) (evI_inj (x + dl))
     simp only [enc2] at hu
     have HK9 := hU (kp_of hg9)
     have HF9 := hU hf9
     clear hf9 hg9
     refine tQ 6 (by kernel_rfl) (by kernel_rfl) ?_
     simp only [List.take_succ_cons, List.take_zero, List.drop_succ_cons, List.drop_zero]
     repeat still_step
     refine wpStill_nil ?_
     replace HX := hU (SeeW.wrote (HX.out.up (gQ _)) HLT.out (q := b.ar) (by simp [CkB.L]) HK9.out (CkAt.on_ar (HX.out.up (gQ _)).c (kp_blk HK9.out) (fun q1 q2 => if q1 = p ∧ q2 = hd then some (x + dl) else c.ar q1 q2) (HF9.out.congr (fun q => by obtain ⟨q1, q2⟩ := q; simp [Prod.ext_iff]))))
     clear HK9 HF9
     clear HSP
     go_upto_region 12 with fail
     refine kQ (fun Y => SeeW w F A1 (some ⟨lb, lo, none⟩) O c1 c2 co fl b pm pr x 2 n a p r { c with ar := (fun q1 q2 => if q1 = p ∧ q2 = hd then some (x + dl) else c.ar q1 q2) } Y) HX.out ?_
     clear HX
     intro X hX
     have HX := hU hX
     clear hX
     obtain ⟨e0, e1, e2, e3, e4, e5, _⟩ := HX.out.e.c6
     obtain ⟨y0, y1, y2, _⟩ := HX.out.t.c3
     have z18 := HX.out.c.q18
     obtain ⟨w9, hu, hf9, hg9⟩ := (HX.out.up (gQ _)).c.m.fw.put key_hop Tryz.underlying66 (p, n, a) true (keyOf_hop (p, n, a) HJp.out HJn.out HJa.out) (enc3_inj (p, n, a)) (evB_inj true)
     simp only [enc3] at hu
     have HK9 := hU (kp_of hg9)
     have HF9 := hU hf9
     clear hf9 hg9
     refine tQ 11 (by kernel_rfl) (by kernel_rfl) ?_
     simp only [List.take_succ_cons, List.take_zero, List.drop_succ_cons, List.drop_zero]
     repeat still_step
     refine wpStill_nil ?_
     replace HX := hU (SeeW.wrote (HX.out.up (gQ _)) HLT.out (q := b.fw) (by simp [CkB.L]) HK9.out (CkAt.on_fw (HX.out.up (gQ _)).c (kp_blk HK9.out) (fun q1 q2 q3 => if q1 = p ∧ q2 = n ∧ q3 = a then true else c.fw q1 q2 q3) (HF9.out.congr (fun q => by obtain ⟨q1, q2, q3⟩ := q; simp [Prod.ext_iff]))))
     clear HK9 HF9
     go_upto_region 13 with fail
     clear hu z18 e0 e1 e2 e3 e4 e5 y0 y1 y2
     refine kQ (fun Y => SeeW w F A1 (some ⟨lb, lo, none⟩) O c1 c2 co fl b pm pr x 2 n a p r { { c with ar := (fun q1 q2 => if q1 = p ∧ q2 = hd then some (x + dl) else c.ar q1 q2) } with fw := fun q1 q2 q3 => if q1 = p ∧ q2 = n ∧ q3 = a then true else c.fw q1 q2 q3 } Y) HX.out ?_
     clear HX
     intro X hX
     have HX := hU hX
     clear hX
     obtain ⟨e0, e1, e2, e3, e4, e5, _⟩ := HX.out.e.c6
     obtain ⟨y0, y1, y2, _⟩ := HX.out.t.c3
     clear e0 e1 e2 e3 e4 e5 y0 y1 y2
     obtain ⟨v0, st, es1, cl1, hme, hgr, hbk, hft, hes⟩ := (HX.out.up (gQ _)).c.m.cr.entry key_cross Tryz.underlying67 zero_intV (p, a) (keyOf_cross (p, a) HJp.out HJa.out) (enc2_inj (p, a)) (evI_inj 0)
     have HME := hU hme
     obtain ⟨WB, hWB⟩ : ∃ WB, WB = ChangeMaps.setBlock X.drew b.cr (.map es1 cl1) := ⟨_, rfl⟩
     rw [← hWB] at hgr hbk hft HME
     have HK9 := hU (kp_of hgr)
     have HXB := hU (SeeW.wrote (HX.out.up (gQ _)) HLT.out (q := b.cr) (by simp [CkB.L]) HK9.out (CkAt.on_cr (HX.out.up (gQ _)).c (kp_blk HK9.out) c.cr hft))
     have hcb := HCR.out p a
     have HCB := hU hcb
     obtain ⟨w3, hst3, hf3, hg3⟩ := hes WB (c.cr p a + 1) (evI_inj _) hbk
     have HK3 := hU (kp_of hg3)
     have HX3 := hU (SeeW.wrote HXB.out HLT.out (q := b.cr) (by simp [CkB.L]) HK3.out (CkAt.on_cr HXB.out.c (kp_blk HK3.out) (fun q1 q2 => if q1 = p ∧ q2 = a then c.cr q1 q2 + 1 else c.cr q1 q2) (hf3.congr (fun q => by obtain ⟨q1, q2⟩ := q; by_cases h : q1 = p ∧ q2 = a <;> simp [Prod.ext_iff, h]))))
     have HS3 := hU hst3
     clear hme hgr hbk hft hes hcb hf3 hg3 hst3 hWB
     refine wp_region_two 13 see13D (fun i => see13V b.cb b.cr w.heap.size p a (c.cr p a) v0 st i 0) 11 WB (by omega) (by kernel_rfl) (by kernel_rfl) (fun i j hi hj h => see13D_inj i hi j hj h) (fun i hi => by have := see13D_lt i hi; simp; omega) ?_ ?_ ?_
     ·intro L ac i W hi hik hW hst hr K hK
      have HXW : Hid (SeeW w F A1 (some ⟨lb, lo, none⟩) O c1 c2 co fl b pm pr x 2 n a p r { { c with ar := (fun q1 q2 => if q1 = p ∧ q2 = hd then some (x + dl) else c.ar q1 q2) } with fw := fun q1 q2 q3 => if q1 = p ∧ q2 = n ∧ q3 = a then true else c.fw q1 q2 q3 } W) := hU (hW.elim (fun e => by rw [e]; exact HX.out.up (gQ _)) (fun e => by rw [e]; exact HXB.out))
      obtain ⟨e0, e1, e2, e3, e4, e5, _⟩ := HXW.out.e.c6
      have z19 := HXW.out.c.q19
      have hlk := HXW.out.c.m.cr.look key_cross Tryz.underlying67 (zero_intV W) (p, a) (keyOf_cross (p, a) HJp.out HJa.out) (enc2_inj (p, a))
      simp only [enc2] at hlk
      have hcb := HCB.out
      match i, hi, hik, hr, hK with
      | 0, _, _, hr, hK =>
       have t0 : ac.tmps.getD 0 undef = .pointer (some ⟨b.cb, 0, none⟩) := (hst.old 0 (by decide +kernel)).trans rfl
       clear hst hr
       refine iQ _ rfl rfl ?_
       go_simp
       exact hK
      | 1, _, _, hr, hK =>
       have t90 : ac.tmps.getD 90 undef = .pointer (some ⟨b.cb, 0, none⟩) := hst.val 0 (by omega) (rU hr 0)
       clear hst hr
       refine iQ _ rfl rfl ?_
       go_simp
       exact hK
      | 2, _, _, hr, hK =>
       have t91 : ac.tmps.getD 91 undef = .pointer (some ⟨b.cb, 0, none⟩) := hst.val 1 (by omega) (rU hr 1)
       clear hst hr
       refine iQ _ rfl rfl ?_
       go_simp
       exact hK
      | 3, _, _, hr, hK =>
       have t92 : ac.tmps.getD 92 undef = .pointer (some ⟨b.cb, 19, none⟩) := hst.val 2 (by omega) (rU hr 2)
       clear hst hr
       refine iQ _ rfl rfl ?_
       go_simp
       exact hK
      | 4, _, _, hr, hK =>
       have t3 : ac.tmps.getD 3 undef = .pointer (some ⟨w.heap.size, 0, none⟩) := (hst.old 3 (by decide +kernel)).trans rfl
       clear hst hr
       refine iQ _ rfl rfl ?_
       go_simp
       exact hK
      | 5, _, _, hr, hK =>
       have t94 : ac.tmps.getD 94 undef = .pointer (some ⟨w.heap.size, 4, none⟩) := hst.val 4 (by omega) (rU hr 4)
       clear hst hr
       refine iQ _ rfl rfl ?_
       go_simp
       exact hK
      | 6, _, _, hr, hK =>
       have t3 : ac.tmps.getD 3 undef = .pointer (some ⟨w.heap.size, 0, none⟩) := (hst.old 3 (by decide +kernel)).trans rfl
       clear hst hr
       refine iQ _ rfl rfl ?_
       go_simp
       exact hK
      | 7, _, _, hr, hK =>
       have t96 : ac.tmps.getD 96 undef = .pointer (some ⟨w.heap.size, 3, none⟩) := hst.val 6 (by omega) (rU hr 6)
       clear hst hr
       refine iQ _ rfl rfl ?_
       go_simp
       exact hK
      | 8, _, _, hr, hK =>
       have t95 : ac.tmps.getD 95 undef = .int .i64 p := hst.val 5 (by omega) (rU hr 5)
       have t97 : ac.tmps.getD 97 undef = .int .i64 a := hst.val 7 (by omega) (rU hr 7)
       clear hst hr
       refine iQ _ rfl rfl ?_
       rw [Array.getD_eq_getD_getElem?] at t95 t97
       go_simp
       exact hK
      | 9, _, _, hr, hK =>
       have t93 : ac.tmps.getD 93 undef = .map (some b.cr) := hst.val 3 (by omega) (rU hr 3)
       have t98 : ac.tmps.getD 98 undef = .agg #[.int .i64 p, .int .i64 a] := hst.val 8 (by omega) (rU hr 8)
       clear hst hr
       refine iQ _ rfl rfl ?_
       go_simp
       exact hK
      | 10, _, _, hr, hK =>
       have t99 : ac.tmps.getD 99 undef = .int .i64 (c.cr p a) := hst.val 9 (by omega) (rU hr 9)
       clear hst hr
       refine iQ _ rfl rfl ?_
       have hw := IntWalk.i64_in (c.cr p a + 1) (by omega)
       go_simp
       exact hK
      | 11, _, hik, _, _ => exact absurd rfl hik
      | 12, _, _, hr, hK =>
       have t101 : ac.tmps.getD 101 undef = .tuple #[v0, goInt st] := hst.val 11 (by omega) (rU hr 11)
       clear hst hr
       refine iQ _ rfl rfl ?_
       go_simp
       exact hK
      | m + 13, hi, _, _, _ => exact absurd hi (by omega)
     ·intro L ac hst hr K hK
      have hme := HME.out
      simp only [enc2] at hme
      have t93 : ac.tmps.getD 93 undef = .map (some b.cr) := hst.val 3 (by omega) (rU hr 3)
      have t98 : ac.tmps.getD 98 undef = .agg #[.int .i64 p, .int .i64 a] := hst.val 8 (by omega) (rU hr 8)
      clear hst hr
      refine iQ _ rfl rfl ?_
      go_simp
      exact hK
     ·simp only [see13_put, List.setIfInBounds_toArray, List.set_cons_zero, List.set_cons_succ]
      have hst3 := HS3.out
      simp only [goInt] at hst3
      go_wp2_with fail
      go_end0
      refine ⟨rfl, ?_, HX3.out.kp⟩
      have hc := HX3.out.c
      rw [HRU.out]
      refine cast (congrArg (fun f => CkAt F A1 (some ⟨lb, lo, none⟩) O c1 c2 co fl b pm pr { c with ar := f, fw := fun q1 q2 q3 => if q1 = p ∧ q2 = n ∧ q3 = a then true else c.fw q1 q2 q3, cr := fun q1 q2 => if q1 = p ∧ q2 = a then c.cr q1 q2 + 1 else c.cr q1 q2 } w3) ?_) hc
      funext q1 q2
      by_cases h : q1 = p ∧ q2 = hd
      ·obtain ⟨rfl, rfl⟩ := h
       simp [har, hlt]
      ·simp [h]
    ·clear HSP
     go_upto_region 12 with fail
     refine kQ (fun Y => SeeW w F A1 (some ⟨lb, lo, none⟩) O c1 c2 co fl b pm pr x 2 n a p r c Y) HX.out ?_
     clear HX
     intro X hX
     have HX := hU hX
     clear hX
     obtain ⟨e0, e1, e2, e3, e4, e5, _⟩ := HX.out.e.c6
     obtain ⟨y0, y1, y2, _⟩ := HX.out.t.c3
     have z18 := HX.out.c.q18
     obtain ⟨w9, hu, hf9, hg9⟩ := (HX.out.up (gQ _)).c.m.fw.put key_hop Tryz.underlying66 (p, n, a) true (keyOf_hop (p, n, a) HJp.out HJn.out HJa.out) (enc3_inj (p, n, a)) (evB_inj true)
     simp only [enc3] at hu
     have HK9 := hU (kp_of hg9)
     have HF9 := hU hf9
     clear hf9 hg9
     refine tQ 11 (by kernel_rfl) (by kernel_rfl) ?_
     simp only [List.take_succ_cons, List.take_zero, List.drop_succ_cons, List.drop_zero]
     repeat still_step
     refine wpStill_nil ?_
     replace HX := hU (SeeW.wrote (HX.out.up (gQ _)) HLT.out (q := b.fw) (by simp [CkB.L]) HK9.out (CkAt.on_fw (HX.out.up (gQ _)).c (kp_blk HK9.out) (fun q1 q2 q3 => if q1 = p ∧ q2 = n ∧ q3 = a then true else c.fw q1 q2 q3) (HF9.out.congr (fun q => by obtain ⟨q1, q2, q3⟩ := q; simp [Prod.ext_iff]))))
     clear HK9 HF9
     go_upto_region 13 with fail
     clear hu z18 e0 e1 e2 e3 e4 e5 y0 y1 y2
     refine kQ (fun Y => SeeW w F A1 (some ⟨lb, lo, none⟩) O c1 c2 co fl b pm pr x 2 n a p r { c with fw := fun q1 q2 q3 => if q1 = p ∧ q2 = n ∧ q3 = a then true else c.fw q1 q2 q3 } Y) HX.out ?_
     clear HX
     intro X hX
     have HX := hU hX
     clear hX
     obtain ⟨e0, e1, e2, e3, e4, e5, _⟩ := HX.out.e.c6
     obtain ⟨y0, y1, y2, _⟩ := HX.out.t.c3
     clear e0 e1 e2 e3 e4 e5 y0 y1 y2
     obtain ⟨v0, st, es1, cl1, hme, hgr, hbk, hft, hes⟩ := (HX.out.up (gQ _)).c.m.cr.entry key_cross Tryz.underlying67 zero_intV (p, a) (keyOf_cross (p, a) HJp.out HJa.out) (enc2_inj (p, a)) (evI_inj 0)
     have HME := hU hme
     obtain ⟨WB, hWB⟩ : ∃ WB, WB = ChangeMaps.setBlock X.drew b.cr (.map es1 cl1) := ⟨_, rfl⟩
     rw [← hWB] at hgr hbk hft HME
     have HK9 := hU (kp_of hgr)
     have HXB := hU (SeeW.wrote (HX.out.up (gQ _)) HLT.out (q := b.cr) (by simp [CkB.L]) HK9.out (CkAt.on_cr (HX.out.up (gQ _)).c (kp_blk HK9.out) c.cr hft))
     have hcb := HCR.out p a
     have HCB := hU hcb
     obtain ⟨w3, hst3, hf3, hg3⟩ := hes WB (c.cr p a + 1) (evI_inj _) hbk
     have HK3 := hU (kp_of hg3)
     have HX3 := hU (SeeW.wrote HXB.out HLT.out (q := b.cr) (by simp [CkB.L]) HK3.out (CkAt.on_cr HXB.out.c (kp_blk HK3.out) (fun q1 q2 => if q1 = p ∧ q2 = a then c.cr q1 q2 + 1 else c.cr q1 q2) (hf3.congr (fun q => by obtain ⟨q1, q2⟩ := q; by_cases h : q1 = p ∧ q2 = a <;> simp [Prod.ext_iff, h]))))
     have HS3 := hU hst3
     clear hme hgr hbk hft hes hcb hf3 hg3 hst3 hWB
     refine wp_region_two 13 see13D (fun i => see13V b.cb b.cr w.heap.size p a (c.cr p a) v0 st i 0) 11 WB (by omega) (by kernel_rfl) (by kernel_rfl) (fun i j hi hj h => see13D_inj i hi j hj h) (fun i hi => by have := see13D_lt i hi; simp; omega) ?_ ?_ ?_
     ·intro L ac i W hi hik hW hst hr K hK
      have HXW : Hid (SeeW w F A1 (some ⟨lb, lo, none⟩) O c1 c2 co fl b pm pr x 2 n a p r { c with fw := fun q1 q2 q3 => if q1 = p ∧ q2 = n ∧ q3 = a then true else c.fw q1 q2 q3 } W) := hU (hW.elim (fun e => by rw [e]; exact HX.out.up (gQ _)) (fun e => by rw [e]; exact HXB.out))
      obtain ⟨e0, e1, e2, e3, e4, e5, _⟩ := HXW.out.e.c6
      have z19 := HXW.out.c.q19
      have hlk := HXW.out.c.m.cr.look key_cross Tryz.underlying67 (zero_intV W) (p, a) (keyOf_cross (p, a) HJp.out HJa.out) (enc2_inj (p, a))
      simp only [enc2] at hlk
      have hcb := HCB.out
      match i, hi, hik, hr, hK with
      | 0, _, _, hr, hK =>
       have t0 : ac.tmps.getD 0 undef = .pointer (some ⟨b.cb, 0, none⟩) := (hst.old 0 (by decide +kernel)).trans rfl
       clear hst hr
       refine iQ _ rfl rfl ?_
       go_simp
       exact hK
      | 1, _, _, hr, hK =>
       have t90 : ac.tmps.getD 90 undef = .pointer (some ⟨b.cb, 0, none⟩) := hst.val 0 (by omega) (rU hr 0)
       clear hst hr
       refine iQ _ rfl rfl ?_
       go_simp
       exact hK
      | 2, _, _, hr, hK =>
       have t91 : ac.tmps.getD 91 undef = .pointer (some ⟨b.cb, 0, none⟩) := hst.val 1 (by omega) (rU hr 1)
       clear hst hr
       refine iQ _ rfl rfl ?_
       go_simp
       exact hK
      | 3, _, _, hr, hK =>
       have t92 : ac.tmps.getD 92 undef = .pointer (some ⟨b.cb, 19, none⟩) := hst.val 2 (by omega) (rU hr 2)
       clear hst hr
       refine iQ _ rfl rfl ?_
       go_simp
       exact hK
      | 4, _, _, hr, hK =>
       have t3 : ac.tmps.getD 3 undef = .pointer (some ⟨w.heap.size, 0, none⟩) := (hst.old 3 (by decide +kernel)).trans rfl
       clear hst hr
       refine iQ _ rfl rfl ?_
       go_simp
       exact hK
      | 5, _, _, hr, hK =>
       have t94 : ac.tmps.getD 94 undef = .pointer (some ⟨w.heap.size, 4, none⟩) := hst.val 4 (by omega) (rU hr 4)
       clear hst hr
       refine iQ _ rfl rfl ?_
       go_simp
       exact hK
      | 6, _, _, hr, hK =>
       have t3 : ac.tmps.getD 3 undef = .pointer (some ⟨w.heap.size, 0, none⟩) := (hst.old 3 (by decide +kernel)).trans rfl
       clear hst hr
       refine iQ _ rfl rfl ?_
       go_simp
       exact hK
      | 7, _, _, hr, hK =>
       have t96 : ac.tmps.getD 96 undef = .pointer (some ⟨w.heap.size, 3, none⟩) := hst.val 6 (by omega) (rU hr 6)
       clear hst hr
       refine iQ _ rfl rfl ?_
       go_simp
       exact hK
      | 8, _, _, hr, hK =>
       have t95 : ac.tmps.getD 95 undef = .int .i64 p := hst.val 5 (by omega) (rU hr 5)
       have t97 : ac.tmps.getD 97 undef = .int .i64 a := hst.val 7 (by omega) (rU hr 7)
       clear hst hr
       refine iQ _ rfl rfl ?_
       rw [Array.getD_eq_getD_getElem?] at t95 t97
       go_simp
       exact hK
      | 9, _, _, hr, hK =>
       have t93 : ac.tmps.getD 93 undef = .map (some b.cr) := hst.val 3 (by omega) (rU hr 3)
       have t98 : ac.tmps.getD 98 undef = .agg #[.int .i64 p, .int .i64 a] := hst.val 8 (by omega) (rU hr 8)
       clear hst hr
       refine iQ _ rfl rfl ?_
       go_simp
       exact hK
      | 10, _, _, hr, hK =>
       have t99 : ac.tmps.getD 99 undef = .int .i64 (c.cr p a) := hst.val 9 (by omega) (rU hr 9)
       clear hst hr
       refine iQ _ rfl rfl ?_
       have hw := IntWalk.i64_in (c.cr p a + 1) (by omega)
       go_simp
       exact hK
      | 11, _, hik, _, _ => exact absurd rfl hik
      | 12, _, _, hr, hK =>
       have t101 : ac.tmps.getD 101 undef = .tuple #[v0, goInt st] := hst.val 11 (by omega) (rU hr 11)
       clear hst hr
       refine iQ _ rfl rfl ?_
       go_simp
       exact hK
      | m + 13, hi, _, _, _ => exact absurd hi (by omega)
     ·intro L ac hst hr K hK
      have hme := HME.out
      simp only [enc2] at hme
      have t93 : ac.tmps.getD 93 undef = .map (some b.cr) := hst.val 3 (by omega) (rU hr 3)
      have t98 : ac.tmps.getD 98 undef = .agg #[.int .i64 p, .int .i64 a] := hst.val 8 (by omega) (rU hr 8)
      clear hst hr
      refine iQ _ rfl rfl ?_
      go_simp
      exact hK
     ·simp only [see13_put, List.setIfInBounds_toArray, List.set_cons_zero, List.set_cons_succ]
      have hst3 := HS3.out
      simp only [goInt] at hst3
      go_wp2_with fail
      go_end0
      refine ⟨rfl, ?_, HX3.out.kp⟩
      have hc := HX3.out.c
      rw [HRU.out]
      refine cast (congrArg (fun f => CkAt F A1 (some ⟨lb, lo, none⟩) O c1 c2 co fl b pm pr { c with ar := f, fw := fun q1 q2 q3 => if q1 = p ∧ q2 = n ∧ q3 = a then true else c.fw q1 q2 q3, cr := fun q1 q2 => if q1 = p ∧ q2 = a then c.cr q1 q2 + 1 else c.cr q1 q2 } w3) ?_) hc
      funext q1 q2
      by_cases h : q1 = p ∧ q2 = hd
      ·obtain ⟨rfl, rfl⟩ := h
       simp [har]
       intro h9
       omega
      ·simp [h]
end
end
end Go.Proofs.YtdnjflpmbnjgeaaGreat
