/-
  guard.protects (printed by gen_gp.py).
-/
import Derived.Test.YtdnjflpmbnjgeaaGreatGd
set_option linter.unusedSimpArgs false
set_option linter.unusedVariables false
namespace Go.Proofs.YtdnjflpmbnjgeaaGreat
section
open Go.RowKit Go.Sort
def gp1D : Nat → Nat
 | 0 => 11
 | 1 => 12
 | 2 => 13
 | 3 => 14
 | 4 => 15
 | 5 => 16
 | 6 => 17
 | 7 => 10
 | 8 => 18
 | 9 => 19
 | 10 => 5
 | 11 => 6
 | _ => 0
theorem gp1D_lt : ∀ i, i < 12 → gp1D i < 20 := by decide +kernel
theorem gp1D_inj : ∀ i, i < 12 → ∀ j, j < 12 → gp1D i = gp1D j → i = j := by decide +kernel
def gp1V (g sm eb : Nat) (p l : Int) (ok : Bool) : Nat → Nat → Value
 | 0, _ => .pointer (some ⟨g, 0, none⟩)
 | 1, _ => .pointer (some ⟨g, 0, none⟩)
 | 2, _ => .pointer (some ⟨g, 9, none⟩)
 | 3, _ => .map (some sm)
 | 4, _ => .pointer (some ⟨eb, 0, none⟩)
 | 5, _ => .int .i64 p
 | 6, _ => .tuple #[.int .i64 l, .bool ok]
 | 7, _ => .tuple #[.int .i64 l, .bool ok]
 | 8, _ => .int .i64 l
 | 9, _ => .bool ok
 | 10, _ => .int .i64 l
 | 11, _ => .bool ok
 | _, _ => undef
theorem gp1_put (g sm eb : Nat) (p l : Int) (ok : Bool) (xs : Nat → Nat) (T : Array Value) : putAll gp1D (fun i => gp1V g sm eb p l ok i (xs i)) 12 T = ((((((((((((T.setIfInBounds 11 (.pointer (some ⟨g, 0, none⟩))).setIfInBounds 12 (.pointer (some ⟨g, 0, none⟩))).setIfInBounds 13 (.pointer (some ⟨g, 9, none⟩))).setIfInBounds 14 (.map (some sm))).setIfInBounds 15 (.pointer (some ⟨eb, 0, none⟩))).setIfInBounds 16 (.int .i64 p)).setIfInBounds 17 (.tuple #[.int .i64 l, .bool ok])).setIfInBounds 10 (.tuple #[.int .i64 l, .bool ok])).setIfInBounds 18 (.int .i64 l)).setIfInBounds 19 (.bool ok)).setIfInBounds 5 (.int .i64 l)).setIfInBounds 6 (.bool ok)) := rfl
theorem GdW.cs {F : FaN} {A1 A2 O : Option Addr} {c1 c2 co g sm : Nat} {ok : Bool} {Ad : Option Addr} {dn : List Bool} {cd : Nat} {sn : Int → Option Int} {W : World} (h : GdW F A1 A2 O c1 c2 co g sm ok Ad dn cd sn W) :
    W.cell? ⟨g, 0, none⟩ = some (.int .i64 F.t.n) ∧ W.cell? ⟨g, 1, none⟩ = some (.slice A1 F.t.ov.length c1) ∧ W.cell? ⟨g, 2, none⟩ = some (.slice A2 F.t.ls.length c2) ∧ W.cell? ⟨g, 3, none⟩ = some (.int .i64 F.det) ∧ W.cell? ⟨g, 6, none⟩ = some (.slice O F.out.length co) ∧ W.cell? ⟨g, 7, none⟩ = some (.bool ok) ∧ W.cell? ⟨g, 8, none⟩ = some (.slice Ad dn.length cd) ∧ W.cell? ⟨g, 9, none⟩ = some (.map (some sm)) :=
 ⟨h.gb.cell 0 rfl, h.gb.cell 1 rfl, h.gb.cell 2 rfl, h.gb.cell 3 rfl, h.gb.cell 6 rfl, h.gb.cell 7 rfl, h.gb.cell 8 rfl, h.gb.cell 9 rfl⟩
def goneV (o : OutN) : Int := if o.k = 2 then o.m else -1
/-- The promises apply to a packet. -/
def protP (F : FaN) (tr : List Ev) (p : PkN) : Prop := okP F tr ∧ p.sn = 0 ∧ ∃ (o : OutN) (x : Int), F.out = [o] ∧ sentF tr p.id = some x ∧ o.fr + F.det < x ∧ p.src ≠ goneV o ∧ p.dst ≠ goneV o ∧ safeP F.t (uQ F) (goneV o) p.dst ∧ reach F.t (uQ F) p.src p.dst
section
variable {w : World}
set_option maxRecDepth 100000 in
set_option maxHeartbeats 16000000 in
theorem gd_protects (F : FaN) (tr : List Ev) (p : PkN) (A1 A2 O Ad : Option Addr) (c1 c2 co cd g sm : Nat) (ok : Bool) (hT : TAt w A1 A2 F.t) (hO : Rd w O (F.out.flatMap outL)) (hv : valid F.t = true) (hout : ∀ o ∈ F.out, outOk F.t o = true) (htm : timOk F = true)
    (hG : GdW F A1 A2 O c1 c2 co g sm ok Ad (uQ F) cd (sentF tr) w) (hok : ok = true ↔ okP F tr) (hp : isN F.t.n p.src = true ∧ isN F.t.n p.dst = true ∧ inJ p.id ∧ p.sn ≤ 1000000) :
    Calls Tryz.prog 11 #[.pointer (some ⟨g, 0, none⟩), .agg #[.int .i64 p.id, .int .i64 p.src, .int .i64 p.dst, .int .i64 p.fl, .slice p.st p.sn p.sc, .int .i64 p.hops]] w (RetBP w (protP F tr p)) := by
 have HT := hU hT
 have HO := hU hO
 have HV := hU hv
 have HOUT := hU hout
 have HTM := hU htm
 have HOKP := hU hok
 have HP := hU hp
 have HB := hU (cQ w (.cells #[.int .i64 p.id, .int .i64 p.src, .int .i64 p.dst, .int .i64 p.fl, .slice p.st p.sn p.sc, .int .i64 p.hops] 49))
 have HG := hU (hG.up HB.out)
 have HE := hU (Bl.new w #[.int .i64 p.id, .int .i64 p.src, .int .i64 p.dst, .int .i64 p.fl, .slice p.st p.sn p.sc, .int .i64 p.hops] 49)
 obtain ⟨e0, e1, e2, e3, e4, e5, _⟩ := HE.out.c6
 have s9 := HG.out.gb.cell 9 rfl
 clear hT hO hv hout htm hG hok hp
 go_enter Tryz.func11, Tryz.ntmps11
 go_upto_region 1 with fail
 cases hsn : sentF tr p.id with
 | none =>
  have HNO : Hid (¬ protP F tr p) := hU (fun ⟨_, _, o, x, _, h, _⟩ => by rw [hsn] at h; cases h)
  refine wp_region_all 12 [0, 1, 2, 3, 4, 5, 6, 7, 8, 10, 9, 11] gp1D (fun _ => none) (gp1V g sm w.heap.size p.id 0 false) (by kernel_rfl) rfl (by kernel_rfl) (fun i j hi hj h => gp1D_inj i hi j hj h) (fun i hi => by have := gp1D_lt i hi; simp; omega) ?_ ?_
  ·intro L ac W xq i hi hst hr
   have HXG := hU ((HG.out.up (gQ _)).up hst.below)
   have HXE := hU ((HE.out.up (gQ _)).up hst.below)
   obtain ⟨e0, e1, e2, e3, e4, e5, _⟩ := HXE.out.c6
   obtain ⟨_, _, _, _, _, _, _, s9⟩ := HXG.out.cs
   have hlk := HXG.out.fm.look key_int Tryz.underlying70 (zero_intV _) p.id (keyJ HP.out.2.2.1) (enc1_inj p.id) true
   simp only [hsn, Option.map_none, Option.map_some, Option.getD_none, Option.getD_some, Option.isSome_none, Option.isSome_some, if_true, enc1] at hlk
   match i, hi, hr with
   | 0, _, hr =>
    intro K hK
    have t0 : ac.tmps.getD 0 undef = .pointer (some ⟨g, 0, none⟩) := (hst.old 0 (by decide +kernel)).trans rfl
    clear hst hr
    refine iQ _ rfl rfl ?_
    go_simp
    exact hK _ (Below.refl _ _)
   | 1, _, hr =>
    intro K hK
    have t11 : ac.tmps.getD 11 undef = .pointer (some ⟨g, 0, none⟩) := hst.val 0 (by omega) (rU hr 0)
    clear hst hr
    refine iQ _ rfl rfl ?_
    go_simp
    exact hK _ (Below.refl _ _)
   | 2, _, hr =>
    intro K hK
    have t12 : ac.tmps.getD 12 undef = .pointer (some ⟨g, 0, none⟩) := hst.val 1 (by omega) (rU hr 1)
    clear hst hr
    refine iQ _ rfl rfl ?_
    go_simp
    exact hK _ (Below.refl _ _)
   | 3, _, hr =>
    intro K hK
    have t13 : ac.tmps.getD 13 undef = .pointer (some ⟨g, 9, none⟩) := hst.val 2 (by omega) (rU hr 2)
    clear hst hr
    refine iQ _ rfl rfl ?_
    go_simp
    exact hK _ (Below.refl _ _)
   | 4, _, hr =>
    intro K hK
    have t3 : ac.tmps.getD 3 undef = .pointer (some ⟨w.heap.size, 0, none⟩) := (hst.old 3 (by decide +kernel)).trans rfl
    clear hst hr
    refine iQ _ rfl rfl ?_
    go_simp
    exact hK _ (Below.refl _ _)
   | 5, _, hr =>
    intro K hK
    have t15 : ac.tmps.getD 15 undef = .pointer (some ⟨w.heap.size, 0, none⟩) := hst.val 4 (by omega) (rU hr 4)
    clear hst hr
    refine iQ _ rfl rfl ?_
    go_simp
    exact hK _ (Below.refl _ _)
   | 6, _, hr =>
    intro K hK
    have t14 : ac.tmps.getD 14 undef = .map (some sm) := hst.val 3 (by omega) (rU hr 3)
    have t16 : ac.tmps.getD 16 undef = .int .i64 p.id := hst.val 5 (by omega) (rU hr 5)
    clear hst hr
    refine iQ _ rfl rfl ?_
    go_simp
    exact hK _ (Below.refl _ _)
   | 7, _, hr =>
    intro K hK
    have t17 : ac.tmps.getD 17 undef = .tuple #[.int .i64 0, .bool false] := hst.val 6 (by omega) (rU hr 6)
    clear hst hr
    refine iQ _ rfl rfl ?_
    go_simp
    exact hK _ (Below.refl _ _)
   | 8, _, hr =>
    intro K hK
    have t10 : ac.tmps.getD 10 undef = .tuple #[.int .i64 0, .bool false] := hst.val 7 (by omega) (rU hr 7)
    clear hst hr
    refine iQ _ rfl rfl ?_
    go_simp
    exact hK _ (Below.refl _ _)
   | 9, _, hr =>
    intro K hK
    have t10 : ac.tmps.getD 10 undef = .tuple #[.int .i64 0, .bool false] := hst.val 7 (by omega) (rU hr 7)
    clear hst hr
    refine iQ _ rfl rfl ?_
    go_simp
    exact hK _ (Below.refl _ _)
   | 10, _, hr =>
    intro K hK
    have t18 : ac.tmps.getD 18 undef = .int .i64 0 := hst.val 8 (by omega) (rU hr 8)
    clear hst hr
    refine iQ _ rfl rfl ?_
    go_simp
    exact hK _ (Below.refl _ _)
   | 11, _, hr =>
    intro K hK
    have t19 : ac.tmps.getD 19 undef = .bool false := hst.val 9 (by omega) (rU hr 9)
    clear hst hr
    refine iQ _ rfl rfl ?_
    go_simp
    exact hK _ (Below.refl _ _)
   | m + 12, hi, _ => exact absurd hi (by omega)
  ·intro W xs hbl hblk hinj
   simp only [gp1_put, List.setIfInBounds_toArray, List.set_cons_zero, List.set_cons_succ]
   replace HG := hU ((HG.out.up (gQ _)).up hbl)
   replace HE := hU ((HE.out.up (gQ _)).up hbl)
   replace HB := hU (bQ (bQ HB.out (gQ _)) hbl)
   clear hbl hblk hinj e0 e1 e2 e3 e4 e5 s9
   obtain ⟨e0, e1, e2, e3, e4, e5, _⟩ := HE.out.c6
   obtain ⟨s0, s1, s2, s3, s6, s7, s8, s9⟩ := HG.out.cs
   cases ok <;>
   (go_wp2_with fail
    go_ret
    exact .mk false rfl ⟨fun h => (by cases h), fun h => absurd h HNO.out⟩ HB.out)
 | some x =>
  refine wp_region_all 12 [0, 1, 2, 3, 4, 5, 6, 7, 8, 10, 9, 11] gp1D (fun _ => none) (gp1V g sm w.heap.size p.id x true) (by kernel_rfl) rfl (by kernel_rfl) (fun i j hi hj h => gp1D_inj i hi j hj h) (fun i hi => by have := gp1D_lt i hi; simp; omega) ?_ ?_
  ·intro L ac W xq i hi hst hr
   have HXG := hU ((HG.out.up (gQ _)).up hst.below)
   have HXE := hU ((HE.out.up (gQ _)).up hst.below)
   obtain ⟨e0, e1, e2, e3, e4, e5, _⟩ := HXE.out.c6
   obtain ⟨_, _, _, _, _, _, _, s9⟩ := HXG.out.cs
   have hlk := HXG.out.fm.look key_int Tryz.underlying70 (zero_intV _) p.id (keyJ HP.out.2.2.1) (enc1_inj p.id) true
   simp only [hsn, Option.map_none, Option.map_some, Option.getD_none, Option.getD_some, Option.isSome_none, Option.isSome_some, if_true, enc1] at hlk
   match i, hi, hr with
   | 0, _, hr =>
    intro K hK
    have t0 : ac.tmps.getD 0 undef = .pointer (some ⟨g, 0, none⟩) := (hst.old 0 (by decide +kernel)).trans rfl
    clear hst hr
    refine iQ _ rfl rfl ?_
    go_simp
    exact hK _ (Below.refl _ _)
   | 1, _, hr =>
    intro K hK
    have t11 : ac.tmps.getD 11 undef = .pointer (some ⟨g, 0, none⟩) := hst.val 0 (by omega) (rU hr 0)
    clear hst hr
    refine iQ _ rfl rfl ?_
    go_simp
    exact hK _ (Below.refl _ _)
   | 2, _, hr =>
    intro K hK
    have t12 : ac.tmps.getD 12 undef = .pointer (some ⟨g, 0, none⟩) := hst.val 1 (by omega) (rU hr 1)
    clear hst hr
    refine iQ _ rfl rfl ?_
    go_simp
    exact hK _ (Below.refl _ _)
   | 3, _, hr =>
    intro K hK
    have t13 : ac.tmps.getD 13 undef = .pointer (some ⟨g, 9, none⟩) := hst.val 2 (by omega) (rU hr 2)
    clear hst hr
    refine iQ _ rfl rfl ?_
    go_simp
    exact hK _ (Below.refl _ _)
   | 4, _, hr =>
    intro K hK
    have t3 : ac.tmps.getD 3 undef = .pointer (some ⟨w.heap.size, 0, none⟩) := (hst.old 3 (by decide +kernel)).trans rfl
    clear hst hr
    refine iQ _ rfl rfl ?_
    go_simp
    exact hK _ (Below.refl _ _)
   | 5, _, hr =>
    intro K hK
    have t15 : ac.tmps.getD 15 undef = .pointer (some ⟨w.heap.size, 0, none⟩) := hst.val 4 (by omega) (rU hr 4)
    clear hst hr
    refine iQ _ rfl rfl ?_
    go_simp
    exact hK _ (Below.refl _ _)
   | 6, _, hr =>
    intro K hK
    have t14 : ac.tmps.getD 14 undef = .map (some sm) := hst.val 3 (by omega) (rU hr 3)
    have t16 : ac.tmps.getD 16 undef = .int .i64 p.id := hst.val 5 (by omega) (rU hr 5)
    clear hst hr
    refine iQ _ rfl rfl ?_
    go_simp
    exact hK _ (Below.refl _ _)
   | 7, _, hr =>
    intro K hK
    have t17 : ac.tmps.getD 17 undef = .tuple #[.int .i64 x, .bool true] := hst.val 6 (by omega) (rU hr 6)
    clear hst hr
    refine iQ _ rfl rfl ?_
    go_simp
    exact hK _ (Below.refl _ _)
   | 8, _, hr =>
    intro K hK
    have t10 : ac.tmps.getD 10 undef = .tuple #[.int .i64 x, .bool true] := hst.val 7 (by omega) (rU hr 7)
    clear hst hr
    refine iQ _ rfl rfl ?_
    go_simp
    exact hK _ (Below.refl _ _)
   | 9, _, hr =>
    intro K hK
    have t10 : ac.tmps.getD 10 undef = .tuple #[.int .i64 x, .bool true] := hst.val 7 (by omega) (rU hr 7)
    clear hst hr
    refine iQ _ rfl rfl ?_
    go_simp
    exact hK _ (Below.refl _ _)
   | 10, _, hr =>
    intro K hK
    have t18 : ac.tmps.getD 18 undef = .int .i64 x := hst.val 8 (by omega) (rU hr 8)
    clear hst hr
    refine iQ _ rfl rfl ?_
    go_simp
    exact hK _ (Below.refl _ _)
   | 11, _, hr =>
    intro K hK
    have t19 : ac.tmps.getD 19 undef = .bool true := hst.val 9 (by omega) (rU hr 9)
    clear hst hr
    refine iQ _ rfl rfl ?_
    go_simp
    exact hK _ (Below.refl _ _)
   | m + 12, hi, _ => exact absurd hi (by omega)
  ·intro W xs hbl hblk hinj
   simp only [gp1_put, List.setIfInBounds_toArray, List.set_cons_zero, List.set_cons_succ]
   replace HG := hU ((HG.out.up (gQ _)).up hbl)
   replace HE := hU ((HE.out.up (gQ _)).up hbl)
   replace HB := hU (bQ (bQ HB.out (gQ _)) hbl)
   clear hbl hblk hinj e0 e1 e2 e3 e4 e5 s9
   obtain ⟨e0, e1, e2, e3, e4, e5, _⟩ := HE.out.c6
   obtain ⟨s0, s1, s2, s3, s6, s7, s8, s9⟩ := HG.out.cs
   have HSN := hU hsn
   clear hsn
   cases ok with
   | false =>
    have HNO : Hid (¬ protP F tr p) := hU (fun h => by have := HOKP.out.2 h.1; cases this)
    go_wp2_with fail
    go_ret
    exact .mk false rfl ⟨fun h => (by cases h), fun h => absurd h HNO.out⟩ HB.out
   | true =>
    have HOP := hU (HOKP.out.1 rfl)
    by_cases hs : p.sn = 0
    ·have HS0 := hU hs
     rw [hs] at e4
     clear hs
     obtain ⟨oo, hoo, hrest⟩ := HOP.out
     clear hrest
     have HOO := hU hoo
     have HOL : Hid (F.out.length = 1) := hU (by rw [hoo]; rfl)
     have HDV : Hid (uQ F = mask F.t [(oo.k, oo.m)]) := hU (by unfold uQ; rw [hoo])
     have HOK1 : Hid (outOk F.t oo = true) := hU (HOUT.out oo (by rw [hoo]; simp))
     have hon := row_at (s := 4) (k := 0) (x := oo) (fun _ => rfl) (by omega) (HO.out.below HB.out) (by rw [hoo]; rfl)
     obtain ⟨bo, po, hOz, hco⟩ := hon
     have o0 := hco 0 (.int .i64 oo.fr) rfl
     have o1 := hco 1 (.int .i64 oo.tu) rfl
     have o2 := hco 2 (.int .i64 oo.k) rfl
     have o3 := hco 3 (.int .i64 oo.m) rfl
     rw [show po + 0 * 4 = po by omega] at o0 o1 o2 o3
     rw [hOz, HOL.out] at s6
     have hfb : 0 ≤ oo.fr ∧ oo.fr ≤ 1073741824 ∧ 0 ≤ F.det ∧ F.det ≤ 65536 := by
      have h1 := HOK1.out
      have h2 := HTM.out
      unfold outOk inR at h1
      unfold timOk inR at h2
      simp only [Bool.and_eq_true, decide_eq_true_eq] at h1 h2
      omega
     have hw := IntWalk.wrap64_in (oo.fr + F.det) (by omega)
     clear hco hoo
     go_upto_region 5 with fail
     obtain ⟨ob, hob⟩ : ∃ ob, ob = W.heap.size := ⟨_, rfl⟩
     refine kQ (fun Y => Below w.heap.size w Y ∧ GdW F A1 A2 O c1 c2 co g sm true Ad (uQ F) cd (sentF tr) Y ∧ Bl 81 ob #[.int .i64 oo.fr, .int .i64 oo.tu, .int .i64 oo.k, .int .i64 oo.m] Y ∧ Bl 49 w.heap.size #[.int .i64 p.id, .int .i64 p.src, .int .i64 p.dst, .int .i64 p.fl, .slice p.st p.sn p.sc, .int .i64 p.hops] Y) ⟨bQ HB.out (cQ W _), HG.out.up (cQ W _), by rw [hob]; exact Bl.new W _ _, HE.out.up (cQ W _)⟩ ?_
     rw [← hob]
     clear hob HB HG HE e0 e1 e2 e3 e4 e5 s0 s1 s2 s3 s6 s7 s8 s9 o0 o1 o2 o3
     rintro Y ⟨h1, h2, h3, h4⟩
     have HB := hU h1
     have HG := hU h2
     have HOB := hU h3
     have HE := hU h4
     clear h1 h2 h3 h4
     obtain ⟨o0, o1, o2, o3, _⟩ := HOB.out.c4
     obtain ⟨s0, s1, s2, s3, s6, s7, s8, s9⟩ := HG.out.cs
     obtain ⟨e0, e1, e2, e3, e4, e5, _⟩ := HE.out.c6
     obtain ⟨P1, P2, -⟩ := kU o0 (kU s3 trivial)
     refine wp_region_quiet_below (by kernel_rfl) (by kernel_rfl) ?_
     repeat (go_big_quiet_step ((fail)))
     refine wpQuiet_nil ?_
     intro W2 hb2
     replace hb2 := eQ hb2
     clear P1 P2
     have zU := uU hb2 o0 (uU hb2 s3 trivial); clear o0 s3; obtain ⟨o0, s3, -⟩ := zU
     clear o0 s3 o1 o2 o3 s0 s1 s2 s6 s7 s8 s9 e0 e1 e2 e3 e4 e5
     replace HG := hU (HG.out.up hb2)
     replace HE := hU (HE.out.up hb2)
     replace HOB := hU (HOB.out.up hb2)
     replace HB := hU (bQ HB.out hb2)
     clear hb2
     obtain ⟨o0, o1, o2, o3, _⟩ := HOB.out.c4
     obtain ⟨s0, s1, s2, s3, s6, s7, s8, s9⟩ := HG.out.cs
     obtain ⟨e0, e1, e2, e3, e4, e5, _⟩ := HE.out.c6
     by_cases hti : x ≤ oo.fr + F.det
     ·have HNO : Hid (¬ protP F tr p) := hU (fun ⟨_, _, o, y, ho, hy, h, _⟩ => by
       rw [HOO.out] at ho
       injection ho with ho
       subst ho
       rw [HSN.out] at hy
       injection hy with hy
       omega)
      go_wp2_with fail
      go_ret
      exact .mk false rfl ⟨fun h => (by cases h), fun h => absurd h HNO.out⟩ HB.out
     ·have HTI := hU hti
      obtain ⟨q, hq⟩ : ∃ q, q = goneV oo := ⟨_, rfl⟩
      have HQ := hU hq
      unfold goneV at hq
      by_cases hk : oo.k = 2
      ·rw [if_pos hk] at hq
       have b1 : (oo.k == 2) = true := by simp [hk]
       go_upto_region 10 with fail
       rw [← hq]
       clear hq hk b1
       by_cases hsd : p.src = q ∨ p.dst = q
       ·have HNO : Hid (¬ protP F tr p) := hU (fun ⟨_, _, o, y, ho, _, _, h1, h2, _⟩ => by
         rw [HOO.out] at ho
         injection ho with ho
         subst ho
         rw [← HQ.out] at h1 h2
         exact hsd.elim h1 h2)
        have d1 : ((p.src == q) || (p.dst == q)) = true := by
         rw [Bool.or_eq_true, beq_iff_eq, beq_iff_eq]; exact hsd
        clear hsd
        cases d2 : (p.src == q) with
        | true =>
         go_wp2_with fail
         go_ret
         exact .mk false rfl ⟨fun h => (by cases h), fun h => absurd h HNO.out⟩ HB.out
        | false =>
         have d3 : (p.dst == q) = true := by rw [d2, Bool.false_or] at d1; exact d1
         clear d1
         go_wp2_with fail
         go_ret
         exact .mk false rfl ⟨fun h => (by cases h), fun h => absurd h HNO.out⟩ HB.out
       ·have d2 : (p.src == q) = false := by rw [beq_eq_false_iff_ne]; exact fun h => hsd (.inl h)
        have d3 : (p.dst == q) = false := by rw [beq_eq_false_iff_ne]; exact fun h => hsd (.inr h)
        have HSD := hU hsd
        clear hsd
        go_upto_region 13 with fail
        obtain ⟨tk, htk⟩ : ∃ tk, tk = W2.heap.size := ⟨_, rfl⟩
        refine kQ (fun Y => Below w.heap.size w Y ∧ GdW F A1 A2 O c1 c2 co g sm true Ad (uQ F) cd (sentF tr) Y ∧ Bl 25 tk #[.int .i64 F.t.n, .slice A1 F.t.ov.length c1, .slice A2 F.t.ls.length c2] Y ∧ Bl 49 w.heap.size #[.int .i64 p.id, .int .i64 p.src, .int .i64 p.dst, .int .i64 p.fl, .slice p.st p.sn p.sc, .int .i64 p.hops] Y) ⟨bQ HB.out (cQ W2 _), HG.out.up (cQ W2 _), by rw [htk]; exact Bl.new W2 _ _, HE.out.up (cQ W2 _)⟩ ?_
        rw [← htk]
        clear htk HB HG HE HOB e0 e1 e2 e3 e4 e5 s0 s1 s2 s3 s6 s7 s8 s9 o0 o1 o2 o3
        rintro Z ⟨h1, h2, h3, h4⟩
        have HB := hU h1
        have HG := hU h2
        have HTK := hU h3
        have HE := hU h4
        clear h1 h2 h3 h4
        obtain ⟨y0, y1, y2, _⟩ := HTK.out.c3
        obtain ⟨_, _, _, _, _, _, s8, _⟩ := HG.out.cs
        obtain ⟨e0, e1, e2, e3, e4, e5, _⟩ := HE.out.c6
        have HDL : Hid ((uQ F).length = 0 ∨ (uQ F).length = 2 * F.t.ls.length) := hU (.inr (by rw [HDV.out]; exact mask_length _ _))
        by_cases hsf : safeP F.t (uQ F) q p.dst
        ·have HSF : Hid (∀ d os, Calls Tryz.prog 38 #[.agg #[.int .i64 F.t.n, .slice A1 F.t.ov.length c1, .slice A2 F.t.ls.length c2], .slice Ad (uQ F).length cd, .int .i64 q, .int .i64 p.dst] (grow (redrawn Z d) os) fun e w'' => e = .returned (.bool true) ∧ ∃ p : Regrown, w'' = grow (redrawn Z p.d) p.os) := hU fun d os => Calls.regrown_of ((pc_Safe (w := grow (redrawn Z d) os) (D := Ad) (dn := uQ F) c1 c2 cd q p.dst HV.out HP.out.2.1 ((HT.out.below HB.out).below (below_regrown Z d os)) (HG.out.rd.below (below_regrown Z d os)) HDL.out).mono (by
          rintro e w9 ⟨b, rfl, hb, hw⟩
          obtain rfl : b = true := by exact hb.2 hsf
          exact ⟨rfl, hw⟩))
         by_cases hre : reach F.t (uQ F) p.src p.dst
         ·have HRC : Hid (∀ d os, Calls Tryz.prog 39 #[.agg #[.int .i64 F.t.n, .slice A1 F.t.ov.length c1, .slice A2 F.t.ls.length c2], .slice Ad (uQ F).length cd, .int .i64 p.src, .int .i64 p.dst] (grow (redrawn Z d) os) fun e w'' => e = .returned (.bool true) ∧ ∃ p : Regrown, w'' = grow (redrawn Z p.d) p.os) := hU fun d os => Calls.regrown_of ((pc_Reaches (w := grow (redrawn Z d) os) (D := Ad) (dn := uQ F) c1 c2 cd p.src p.dst HV.out HP.out.1 HP.out.2.1 ((HT.out.below HB.out).below (below_regrown Z d os)) (HG.out.rd.below (below_regrown Z d os)) HDL.out).mono (by
           rintro e w9 ⟨b, rfl, hb, hw⟩
           obtain rfl : b = true := by exact hb.2 hre
           exact ⟨rfl, hw⟩))
          have HYES : Hid (protP F tr p) := hU ⟨HOP.out, HS0.out, oo, x, HOO.out, HSN.out, by have := HTI.out; omega, fun h => HSD.out (.inl (h.trans HQ.out.symm)), fun h => HSD.out (.inr (h.trans HQ.out.symm)), by rw [← HQ.out]; exact hsf, hre⟩
          clear hsf hre
          obtain ⟨P1, P2, P3, P4, P5, P6, -⟩ := kU y0 (kU y1 (kU y2 (kU s8 (kU e1 (kU e2 trivial)))))
          refine wp_region_quiet_below (by kernel_rfl) (by kernel_rfl) ?_
          repeat (go_big_quiet_step ((first | (with_reducible exact HSF.out _ _) | (with_reducible exact HRC.out _ _))))
          refine wpQuiet_nil ?_
          intro W3 hb3
          replace hb3 := eQ hb3
          clear P1 P2 P3 P4 P5 P6
          have zU := uU hb3 y0 (uU hb3 y1 (uU hb3 y2 (uU hb3 s8 (uU hb3 e1 (uU hb3 e2 trivial))))); clear y0 y1 y2 s8 e1 e2; obtain ⟨y0, y1, y2, s8, e1, e2, -⟩ := zU
          replace HB := hU (bQ HB.out hb3)
          clear y0 y1 y2 s8 e0 e1 e2 e3 e4 e5
          go_wp2_with fail
          go_ret
          exact .mk true rfl ⟨fun _ => HYES.out, fun _ => rfl⟩ HB.out
         ·have HRC : Hid (∀ d os, Calls Tryz.prog 39 #[.agg #[.int .i64 F.t.n, .slice A1 F.t.ov.length c1, .slice A2 F.t.ls.length c2], .slice Ad (uQ F).length cd, .int .i64 p.src, .int .i64 p.dst] (grow (redrawn Z d) os) fun e w'' => e = .returned (.bool false) ∧ ∃ p : Regrown, w'' = grow (redrawn Z p.d) p.os) := hU fun d os => Calls.regrown_of ((pc_Reaches (w := grow (redrawn Z d) os) (D := Ad) (dn := uQ F) c1 c2 cd p.src p.dst HV.out HP.out.1 HP.out.2.1 ((HT.out.below HB.out).below (below_regrown Z d os)) (HG.out.rd.below (below_regrown Z d os)) HDL.out).mono (by
           rintro e w9 ⟨b, rfl, hb, hw⟩
           obtain rfl : b = false := by cases b; rfl; exact absurd (hb.1 rfl) hre
           exact ⟨rfl, hw⟩))
          have HNO : Hid (¬ protP F tr p) := hU (fun ⟨_, _, o, y, _, _, _, _, _, _, h⟩ => hre h)
          clear hsf hre
          obtain ⟨P1, P2, P3, P4, P5, P6, -⟩ := kU y0 (kU y1 (kU y2 (kU s8 (kU e1 (kU e2 trivial)))))
          refine wp_region_quiet_below (by kernel_rfl) (by kernel_rfl) ?_
          repeat (go_big_quiet_step ((first | (with_reducible exact HSF.out _ _) | (with_reducible exact HRC.out _ _))))
          refine wpQuiet_nil ?_
          intro W3 hb3
          replace hb3 := eQ hb3
          clear P1 P2 P3 P4 P5 P6
          have zU := uU hb3 y0 (uU hb3 y1 (uU hb3 y2 (uU hb3 s8 (uU hb3 e1 (uU hb3 e2 trivial))))); clear y0 y1 y2 s8 e1 e2; obtain ⟨y0, y1, y2, s8, e1, e2, -⟩ := zU
          replace HB := hU (bQ HB.out hb3)
          clear y0 y1 y2 s8 e0 e1 e2 e3 e4 e5
          go_wp2_with fail
          go_ret
          exact .mk false rfl ⟨fun h => (by cases h), fun h => absurd h HNO.out⟩ HB.out
        ·have HSF : Hid (∀ d os, Calls Tryz.prog 38 #[.agg #[.int .i64 F.t.n, .slice A1 F.t.ov.length c1, .slice A2 F.t.ls.length c2], .slice Ad (uQ F).length cd, .int .i64 q, .int .i64 p.dst] (grow (redrawn Z d) os) fun e w'' => e = .returned (.bool false) ∧ ∃ p : Regrown, w'' = grow (redrawn Z p.d) p.os) := hU fun d os => Calls.regrown_of ((pc_Safe (w := grow (redrawn Z d) os) (D := Ad) (dn := uQ F) c1 c2 cd q p.dst HV.out HP.out.2.1 ((HT.out.below HB.out).below (below_regrown Z d os)) (HG.out.rd.below (below_regrown Z d os)) HDL.out).mono (by
          rintro e w9 ⟨b, rfl, hb, hw⟩
          obtain rfl : b = false := by cases b; rfl; exact absurd (hb.1 rfl) hsf
          exact ⟨rfl, hw⟩))
         have HNO : Hid (¬ protP F tr p) := hU (fun ⟨_, _, o, y, ho, _, _, _, _, h, _⟩ => by
          rw [HOO.out] at ho
          injection ho with ho
          subst ho
          rw [← HQ.out] at h
          exact hsf h)
         clear hsf
         obtain ⟨P1, P2, P3, P4, P5, P6, -⟩ := kU y0 (kU y1 (kU y2 (kU s8 (kU e1 (kU e2 trivial)))))
         refine wp_region_quiet_below (by kernel_rfl) (by kernel_rfl) ?_
         repeat (go_big_quiet_step ((with_reducible exact HSF.out _ _)))
         refine wpQuiet_nil ?_
         intro W3 hb3
         replace hb3 := eQ hb3
         clear P1 P2 P3 P4 P5 P6
         have zU := uU hb3 y0 (uU hb3 y1 (uU hb3 y2 (uU hb3 s8 (uU hb3 e1 (uU hb3 e2 trivial))))); clear y0 y1 y2 s8 e1 e2; obtain ⟨y0, y1, y2, s8, e1, e2, -⟩ := zU
         replace HB := hU (bQ HB.out hb3)
         clear y0 y1 y2 s8 e0 e1 e2 e3 e4 e5
         go_wp2_with fail
         go_ret
         exact .mk false rfl ⟨fun h => (by cases h), fun h => absurd h HNO.out⟩ HB.out
      ·rw [if_neg hk] at hq
       have b1 : (oo.k == 2) = false := by simp [hk]
       go_upto_region 10 with fail
       rw [← hq]
       clear hq hk b1
       by_cases hsd : p.src = q ∨ p.dst = q
       ·have HNO : Hid (¬ protP F tr p) := hU (fun ⟨_, _, o, y, ho, _, _, h1, h2, _⟩ => by
         rw [HOO.out] at ho
         injection ho with ho
         subst ho
         rw [← HQ.out] at h1 h2
         exact hsd.elim h1 h2)
        have d1 : ((p.src == q) || (p.dst == q)) = true := by
         rw [Bool.or_eq_true, beq_iff_eq, beq_iff_eq]; exact hsd
        clear hsd
        cases d2 : (p.src == q) with
        | true =>
         go_wp2_with fail
         go_ret
         exact .mk false rfl ⟨fun h => (by cases h), fun h => absurd h HNO.out⟩ HB.out
        | false =>
         have d3 : (p.dst == q) = true := by rw [d2, Bool.false_or] at d1; exact d1
         clear d1
         go_wp2_with fail
         go_ret
         exact .mk false rfl ⟨fun h => (by cases h), fun h => absurd h HNO.out⟩ HB.out
       ·have d2 : (p.src == q) = false := by rw [beq_eq_false_iff_ne]; exact fun h => hsd (.inl h)
        have d3 : (p.dst == q) = false := by rw [beq_eq_false_iff_ne]; exact fun h => hsd (.inr h)
        have HSD := hU hsd
        clear hsd
        go_upto_region 13 with fail
        obtain ⟨tk, htk⟩ : ∃ tk, tk = W2.heap.size := ⟨_, rfl⟩
        refine kQ (fun Y => Below w.heap.size w Y ∧ GdW F A1 A2 O c1 c2 co g sm true Ad (uQ F) cd (sentF tr) Y ∧ Bl 25 tk #[.int .i64 F.t.n, .slice A1 F.t.ov.length c1, .slice A2 F.t.ls.length c2] Y ∧ Bl 49 w.heap.size #[.int .i64 p.id, .int .i64 p.src, .int .i64 p.dst, .int .i64 p.fl, .slice p.st p.sn p.sc, .int .i64 p.hops] Y) ⟨bQ HB.out (cQ W2 _), HG.out.up (cQ W2 _), by rw [htk]; exact Bl.new W2 _ _, HE.out.up (cQ W2 _)⟩ ?_
        rw [← htk]
        clear htk HB HG HE HOB e0 e1 e2 e3 e4 e5 s0 s1 s2 s3 s6 s7 s8 s9 o0 o1 o2 o3
        rintro Z ⟨h1, h2, h3, h4⟩
        have HB := hU h1
        have HG := hU h2
        have HTK := hU h3
        have HE := hU h4
        clear h1 h2 h3 h4
        obtain ⟨y0, y1, y2, _⟩ := HTK.out.c3
        obtain ⟨_, _, _, _, _, _, s8, _⟩ := HG.out.cs
        obtain ⟨e0, e1, e2, e3, e4, e5, _⟩ := HE.out.c6
        have HDL : Hid ((uQ F).length = 0 ∨ (uQ F).length = 2 * F.t.ls.length) := hU (.inr (by rw [HDV.out]; exact mask_length _ _))
        by_cases hsf : safeP F.t (uQ F) q p.dst
        ·have HSF : Hid (∀ d os, Calls Tryz.prog 38 #[.agg #[.int .i64 F.t.n, .slice A1 F.t.ov.length c1, .slice A2 F.t.ls.length c2], .slice Ad (uQ F).length cd, .int .i64 q, .int .i64 p.dst] (grow (redrawn Z d) os) fun e w'' => e = .returned (.bool true) ∧ ∃ p : Regrown, w'' = grow (redrawn Z p.d) p.os) := hU fun d os => Calls.regrown_of ((pc_Safe (w := grow (redrawn Z d) os) (D := Ad) (dn := uQ F) c1 c2 cd q p.dst HV.out HP.out.2.1 ((HT.out.below HB.out).below (below_regrown Z d os)) (HG.out.rd.below (below_regrown Z d os)) HDL.out).mono (by
          rintro e w9 ⟨b, rfl, hb, hw⟩
          obtain rfl : b = true := by exact hb.2 hsf
          exact ⟨rfl, hw⟩))
         by_cases hre : reach F.t (uQ F) p.src p.dst
         ·have HRC : Hid (∀ d os, Calls Tryz.prog 39 #[.agg #[.int .i64 F.t.n, .slice A1 F.t.ov.length c1, .slice A2 F.t.ls.length c2], .slice Ad (uQ F).length cd, .int .i64 p.src, .int .i64 p.dst] (grow (redrawn Z d) os) fun e w'' => e = .returned (.bool true) ∧ ∃ p : Regrown, w'' = grow (redrawn Z p.d) p.os) := hU fun d os => Calls.regrown_of ((pc_Reaches (w := grow (redrawn Z d) os) (D := Ad) (dn := uQ F) c1 c2 cd p.src p.dst HV.out HP.out.1 HP.out.2.1 ((HT.out.below HB.out).below (below_regrown Z d os)) (HG.out.rd.below (below_regrown Z d os)) HDL.out).mono (by
           rintro e w9 ⟨b, rfl, hb, hw⟩
           obtain rfl : b = true := by exact hb.2 hre
           exact ⟨rfl, hw⟩))
          have HYES : Hid (protP F tr p) := hU ⟨HOP.out, HS0.out, oo, x, HOO.out, HSN.out, by have := HTI.out; omega, fun h => HSD.out (.inl (h.trans HQ.out.symm)), fun h => HSD.out (.inr (h.trans HQ.out.symm)), by rw [← HQ.out]; exact hsf, hre⟩
          clear hsf hre
          obtain ⟨P1, P2, P3, P4, P5, P6, -⟩ := kU y0 (kU y1 (kU y2 (kU s8 (kU e1 (kU e2 trivial)))))
          refine wp_region_quiet_below (by kernel_rfl) (by kernel_rfl) ?_
          repeat (go_big_quiet_step ((first | (with_reducible exact HSF.out _ _) | (with_reducible exact HRC.out _ _))))
          refine wpQuiet_nil ?_
          intro W3 hb3
          replace hb3 := eQ hb3
          clear P1 P2 P3 P4 P5 P6
          have zU := uU hb3 y0 (uU hb3 y1 (uU hb3 y2 (uU hb3 s8 (uU hb3 e1 (uU hb3 e2 trivial))))); clear y0 y1 y2 s8 e1 e2; obtain ⟨y0, y1, y2, s8, e1, e2, -⟩ := zU
          replace HB := hU (bQ HB.out hb3)
          clear y0 y1 y2 s8 e0 e1 e2 e3 e4 e5
          go_wp2_with fail
          go_ret
          exact .mk true rfl ⟨fun _ => HYES.out, fun _ => rfl⟩ HB.out
         ·have HRC : Hid (∀ d os, Calls Tryz.prog 39 #[.agg #[.int .i64 F.t.n, .slice A1 F.t.ov.length c1, .slice A2 F.t.ls.length c2], .slice Ad (uQ F).length cd, .int .i64 p.src, .int .i64 p.dst] (grow (redrawn Z d) os) fun e w'' => e = .returned (.bool false) ∧ ∃ p : Regrown, w'' = grow (redrawn Z p.d) p.os) := hU fun d os => Calls.regrown_of ((pc_Reaches (w := grow (redrawn Z d) os) (D := Ad) (dn := uQ F) c1 c2 cd p.src p.dst HV.out HP.out.1 HP.out.2.1 ((HT.out.below HB.out).below (below_regrown Z d os)) (HG.out.rd.below (below_regrown Z d os)) HDL.out).mono (by
           rintro e w9 ⟨b, rfl, hb, hw⟩
           obtain rfl : b = false := by cases b; rfl; exact absurd (hb.1 rfl) hre
           exact ⟨rfl, hw⟩))
          have HNO : Hid (¬ protP F tr p) := hU (fun ⟨_, _, o, y, _, _, _, _, _, _, h⟩ => hre h)
          clear hsf hre
          obtain ⟨P1, P2, P3, P4, P5, P6, -⟩ := kU y0 (kU y1 (kU y2 (kU s8 (kU e1 (kU e2 trivial)))))
          refine wp_region_quiet_below (by kernel_rfl) (by kernel_rfl) ?_
          repeat (go_big_quiet_step ((first | (with_reducible exact HSF.out _ _) | (with_reducible exact HRC.out _ _))))
          refine wpQuiet_nil ?_
          intro W3 hb3
          replace hb3 := eQ hb3
          clear P1 P2 P3 P4 P5 P6
          have zU := uU hb3 y0 (uU hb3 y1 (uU hb3 y2 (uU hb3 s8 (uU hb3 e1 (uU hb3 e2 trivial))))); clear y0 y1 y2 s8 e1 e2; obtain ⟨y0, y1, y2, s8, e1, e2, -⟩ := zU
          replace HB := hU (bQ HB.out hb3)
          clear y0 y1 y2 s8 e0 e1 e2 e3 e4 e5
          go_wp2_with fail
          go_ret
          exact .mk false rfl ⟨fun h => (by cases h), fun h => absurd h HNO.out⟩ HB.out
        ·have HSF : Hid (∀ d os, Calls Tryz.prog 38 #[.agg #[.int .i64 F.t.n, .slice A1 F.t.ov.length c1, .slice A2 F.t.ls.length c2], .slice Ad (uQ F).length cd, .int .i64 q, .int .i64 p.dst] (grow (redrawn Z d) os) fun e w'' => e = .returned (.bool false) ∧ ∃ p : Regrown, w'' = grow (redrawn Z p.d) p.os) := hU fun d os => Calls.regrown_of ((pc_Safe (w := grow (redrawn Z d) os) (D := Ad) (dn := uQ F) c1 c2 cd q p.dst HV.out HP.out.2.1 ((HT.out.below HB.out).below (below_regrown Z d os)) (HG.out.rd.below (below_regrown Z d os)) HDL.out).mono (by
          rintro e w9 ⟨b, rfl, hb, hw⟩
          obtain rfl : b = false := by cases b; rfl; exact absurd (hb.1 rfl) hsf
          exact ⟨rfl, hw⟩))
         have HNO : Hid (¬ protP F tr p) := hU (fun ⟨_, _, o, y, ho, _, _, _, _, h, _⟩ => by
          rw [HOO.out] at ho
          injection ho with ho
          subst ho
          rw [← HQ.out] at h
          exact hsf h)
         clear hsf
         obtain ⟨P1, P2, P3, P4, P5, P6, -⟩ := kU y0 (kU y1 (kU y2 (kU s8 (kU e1 (kU e2 trivial)))))
         refine wp_region_quiet_below (by kernel_rfl) (by kernel_rfl) ?_
         repeat (go_big_quiet_step ((with_reducible exact HSF.out _ _)))
         refine wpQuiet_nil ?_
         intro W3 hb3
         replace hb3 := eQ hb3
         clear P1 P2 P3 P4 P5 P6
         have zU := uU hb3 y0 (uU hb3 y1 (uU hb3 y2 (uU hb3 s8 (uU hb3 e1 (uU hb3 e2 trivial))))); clear y0 y1 y2 s8 e1 e2; obtain ⟨y0, y1, y2, s8, e1, e2, -⟩ := zU
         replace HB := hU (bQ HB.out hb3)
         clear y0 y1 y2 s8 e0 e1 e2 e3 e4 e5
         go_wp2_with fail
         go_ret
         exact .mk false rfl ⟨fun h => (by cases h), fun h => absurd h HNO.out⟩ HB.out
    ·have HNO : Hid (¬ protP F tr p) := hU (fun h => hs h.2.1)
     have hs1 : 0 < (p.sn : Int) := by omega
     clear hs
     go_wp2_with fail
     go_ret
     exact .mk false rfl ⟨fun h => (by cases h), fun h => absurd h HNO.out⟩ HB.out
end
end
end Go.Proofs.YtdnjflpmbnjgeaaGreat
