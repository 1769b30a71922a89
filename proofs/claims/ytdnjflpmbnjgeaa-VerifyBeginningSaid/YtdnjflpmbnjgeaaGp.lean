/-
  guard.protects (printed by gen_gp.py).
-/
import Derived.Test.YtdnjflpmbnjgeaaGd
namespace Go.Proofs.Ytdnjflpmbnjgeaa
set_option linter.unusedSimpArgs false
set_option linter.unusedVariables false
open Go.RowKit Go.Sort
def gp1D : Nat → Nat
  | 0 => 11
  | 1 => 12
  | 2 => 13
  | 3 => 14
  | 4 => 15
  | 5 => 16
  | 6 => 17
  | 7 => 10
  | 8 => 18
  | 9 => 19
  | 10 => 5
  | 11 => 6
  | _ => 0
theorem gp1D_lt : ∀ i, i < 12 → gp1D i < 20 := by decide +kernel
theorem gp1D_inj : ∀ i, i < 12 → ∀ j, j < 12 → gp1D i = gp1D j → i = j := by decide +kernel
def gp1V (g sm eb : Nat) (p l : Int) (ok : Bool) : Nat → Nat → Value
  | 0, _ => .pointer (some ⟨g, 0, none⟩)
  | 1, _ => .pointer (some ⟨g, 0, none⟩)
  | 2, _ => .pointer (some ⟨g, 9, none⟩)
  | 3, _ => .map (some sm)
  | 4, _ => .pointer (some ⟨eb, 0, none⟩)
  | 5, _ => .int .i64 p
  | 6, _ => .tuple #[.int .i64 l, .bool ok]
  | 7, _ => .tuple #[.int .i64 l, .bool ok]
  | 8, _ => .int .i64 l
  | 9, _ => .bool ok
  | 10, _ => .int .i64 l
  | 11, _ => .bool ok
  | _, _ => undef
theorem gp1_put (g sm eb : Nat) (p l : Int) (ok : Bool) (xs : Nat → Nat) (T : Array Value) : putAll gp1D (fun i => gp1V g sm eb p l ok i (xs i)) 12 T = ((((((((((((T.setIfInBounds 11 (.pointer (some ⟨g, 0, none⟩))).setIfInBounds 12 (.pointer (some ⟨g, 0, none⟩))).setIfInBounds 13 (.pointer (some ⟨g, 9, none⟩))).setIfInBounds 14 (.map (some sm))).setIfInBounds 15 (.pointer (some ⟨eb, 0, none⟩))).setIfInBounds 16 (.int .i64 p)).setIfInBounds 17 (.tuple #[.int .i64 l, .bool ok])).setIfInBounds 10 (.tuple #[.int .i64 l, .bool ok])).setIfInBounds 18 (.int .i64 l)).setIfInBounds 19 (.bool ok)).setIfInBounds 5 (.int .i64 l)).setIfInBounds 6 (.bool ok)) := rfl
theorem GdW.cs {F : FaN} {A1 A2 O : Option Addr} {c1 c2 co g sm : Nat} {ok : Bool} {Ad : Option Addr} {dn : List Bool} {cd : Nat} {sn : Int → Option Int} {W : World} (h : GdW F A1 A2 O c1 c2 co g sm ok Ad dn cd sn W) :
    W.cell? ⟨g, 0, none⟩ = some (.int .i64 F.t.n) ∧ W.cell? ⟨g, 1, none⟩ = some (.slice A1 F.t.ov.length c1) ∧ W.cell? ⟨g, 2, none⟩ = some (.slice A2 F.t.ls.length c2) ∧ W.cell? ⟨g, 3, none⟩ = some (.int .i64 F.det) ∧ W.cell? ⟨g, 6, none⟩ = some (.slice O F.out.length co) ∧ W.cell? ⟨g, 7, none⟩ = some (.bool ok) ∧ W.cell? ⟨g, 8, none⟩ = some (.slice Ad dn.length cd) ∧ W.cell? ⟨g, 9, none⟩ = some (.map (some sm)) :=
  ⟨h.gb.cell 0 rfl, h.gb.cell 1 rfl, h.gb.cell 2 rfl, h.gb.cell 3 rfl, h.gb.cell 6 rfl, h.gb.cell 7 rfl, h.gb.cell 8 rfl, h.gb.cell 9 rfl⟩
def goneV (o : OutN) : Int := if o.k = 2 then o.m else -1
/-- The promises apply to a packet. -/
def protP (F : FaN) (tr : List Ev) (p : PkN) : Prop := okP F tr ∧ p.sn = 0 ∧ ∃ (o : OutN) (x : Int), F.out = [o] ∧ sentF tr p.id = some x ∧ o.fr + F.det < x ∧ p.src ≠ goneV o ∧ p.dst ≠ goneV o ∧ safeP F.t (downV F) (goneV o) p.dst ∧ reach F.t (downV F) p.src p.dst
section
variable {w : World}
set_option maxRecDepth 100000 in
set_option maxHeartbeats 16000000 in
theorem gd_protects (F : FaN) (tr : List Ev) (p : PkN) (A1 A2 O Ad : Option Addr) (c1 c2 co cd g sm : Nat) (ok : Bool) (hT : TAt w A1 A2 F.t) (hO : Rd w O (F.out.flatMap outL)) (hv : valid F.t = true) (hout : ∀ o ∈ F.out, outOk F.t o = true) (htm : timOk F = true)
    (hG : GdW F A1 A2 O c1 c2 co g sm ok Ad (downV F) cd (sentF tr) w) (hok : ok = true ↔ okP F tr) (hp : isN F.t.n p.src = true ∧ isN F.t.n p.dst = true ∧ inJ p.id ∧ p.sn ≤ 1000000) :
    Calls Try.prog 11 #[.pointer (some ⟨g, 0, none⟩), .agg #[.int .i64 p.id, .int .i64 p.src, .int .i64 p.dst, .int .i64 p.fl, .slice p.st p.sn p.sc, .int .i64 p.hops]] w (RetBP w (protP F tr p)) := by
  have HT := Lib.hid hT
  have HO := Lib.hid hO
  have HV := Lib.hid hv
  have HOUT := Lib.hid hout
  have HTM := Lib.hid htm
  have HOKP := Lib.hid hok
  have HP := Lib.hid hp
  have HB := Lib.hid (below_box w (.cells #[.int .i64 p.id, .int .i64 p.src, .int .i64 p.dst, .int .i64 p.fl, .slice p.st p.sn p.sc, .int .i64 p.hops] 52))
  have HG := Lib.hid (hG.up HB.out)
  have HE := Lib.hid (Bl.new w #[.int .i64 p.id, .int .i64 p.src, .int .i64 p.dst, .int .i64 p.fl, .slice p.st p.sn p.sc, .int .i64 p.hops] 52)
  obtain ⟨e0, e1, e2, e3, e4, e5, _⟩ := HE.out.c6
  have s9 := HG.out.gb.cell 9 rfl
  clear hT hO hv hout htm hG hok hp
  go_enter Try.func11, Try.ntmps11
  go_upto_region 1 with fail
  cases hsn : sentF tr p.id with
  | none =>
    have HNO : Hid (¬ protP F tr p) := Lib.hid (fun ⟨_, _, o, x, _, h, _⟩ => by rw [hsn] at h; cases h)
    refine wp_region_all 12 [0, 1, 2, 3, 4, 5, 6, 7, 8, 10, 9, 11] gp1D (fun _ => none) (gp1V g sm w.heap.size p.id 0 false) (by kernel_rfl) rfl (by kernel_rfl) (fun i j hi hj h => gp1D_inj i hi j hj h) (fun i hi => by have := gp1D_lt i hi; simp; omega) ?_ ?_
    · intro L ac W xq i hi hst hr
      have HXG := Lib.hid ((HG.out.up (below_drwV _)).up hst.below)
      have HXE := Lib.hid ((HE.out.up (below_drwV _)).up hst.below)
      obtain ⟨e0, e1, e2, e3, e4, e5, _⟩ := HXE.out.c6
      obtain ⟨_, _, _, _, _, _, _, s9⟩ := HXG.out.cs
      have hlk := HXG.out.fm.look key_int Try.underlying68 (zero_intV _) p.id (keyJ HP.out.2.2.1) (enc1_inj p.id) true
      simp only [hsn, Option.map_none, Option.map_some, Option.getD_none, Option.getD_some, Option.isSome_none, Option.isSome_some, if_true, enc1] at hlk
      match i, hi, hr with
      | 0, _, hr =>
        intro K hK
        have t0 : ac.tmps.getD 0 undef = .pointer (some ⟨g, 0, none⟩) := (hst.old 0 (by decide +kernel)).trans rfl
        clear hst hr
        refine wpOp_at _ rfl rfl ?_
        go_simp
        exact hK _ (Below.refl _ _)
      | 1, _, hr =>
        intro K hK
        have t11 : ac.tmps.getD 11 undef = .pointer (some ⟨g, 0, none⟩) := hst.val 0 (by omega) (ready_dep hr (e := ⟨0, .data⟩) rfl (by simp) rfl)
        clear hst hr
        refine wpOp_at _ rfl rfl ?_
        go_simp
        exact hK _ (Below.refl _ _)
      | 2, _, hr =>
        intro K hK
        have t12 : ac.tmps.getD 12 undef = .pointer (some ⟨g, 0, none⟩) := hst.val 1 (by omega) (ready_dep hr (e := ⟨1, .data⟩) rfl (by simp) rfl)
        clear hst hr
        refine wpOp_at _ rfl rfl ?_
        go_simp
        exact hK _ (Below.refl _ _)
      | 3, _, hr =>
        intro K hK
        have t13 : ac.tmps.getD 13 undef = .pointer (some ⟨g, 9, none⟩) := hst.val 2 (by omega) (ready_dep hr (e := ⟨2, .data⟩) rfl (by simp) rfl)
        clear hst hr
        refine wpOp_at _ rfl rfl ?_
        go_simp
        exact hK _ (Below.refl _ _)
      | 4, _, hr =>
        intro K hK
        have t3 : ac.tmps.getD 3 undef = .pointer (some ⟨w.heap.size, 0, none⟩) := (hst.old 3 (by decide +kernel)).trans rfl
        clear hst hr
        refine wpOp_at _ rfl rfl ?_
        go_simp
        exact hK _ (Below.refl _ _)
      | 5, _, hr =>
        intro K hK
        have t15 : ac.tmps.getD 15 undef = .pointer (some ⟨w.heap.size, 0, none⟩) := hst.val 4 (by omega) (ready_dep hr (e := ⟨4, .data⟩) rfl (by simp) rfl)
        clear hst hr
        refine wpOp_at _ rfl rfl ?_
        go_simp
        exact hK _ (Below.refl _ _)
      | 6, _, hr =>
        intro K hK
        have t14 : ac.tmps.getD 14 undef = .map (some sm) := hst.val 3 (by omega) (ready_dep hr (e := ⟨3, .data⟩) rfl (by simp) rfl)
        have t16 : ac.tmps.getD 16 undef = .int .i64 p.id := hst.val 5 (by omega) (ready_dep hr (e := ⟨5, .data⟩) rfl (by simp) rfl)
        clear hst hr
        refine wpOp_at _ rfl rfl ?_
        go_simp
        exact hK _ (Below.refl _ _)
      | 7, _, hr =>
        intro K hK
        have t17 : ac.tmps.getD 17 undef = .tuple #[.int .i64 0, .bool false] := hst.val 6 (by omega) (ready_dep hr (e := ⟨6, .data⟩) rfl (by simp) rfl)
        clear hst hr
        refine wpOp_at _ rfl rfl ?_
        go_simp
        exact hK _ (Below.refl _ _)
      | 8, _, hr =>
        intro K hK
        have t10 : ac.tmps.getD 10 undef = .tuple #[.int .i64 0, .bool false] := hst.val 7 (by omega) (ready_dep hr (e := ⟨7, .data⟩) rfl (by simp) rfl)
        clear hst hr
        refine wpOp_at _ rfl rfl ?_
        go_simp
        exact hK _ (Below.refl _ _)
      | 9, _, hr =>
        intro K hK
        have t10 : ac.tmps.getD 10 undef = .tuple #[.int .i64 0, .bool false] := hst.val 7 (by omega) (ready_dep hr (e := ⟨7, .data⟩) rfl (by simp) rfl)
        clear hst hr
        refine wpOp_at _ rfl rfl ?_
        go_simp
        exact hK _ (Below.refl _ _)
      | 10, _, hr =>
        intro K hK
        have t18 : ac.tmps.getD 18 undef = .int .i64 0 := hst.val 8 (by omega) (ready_dep hr (e := ⟨8, .data⟩) rfl (by simp) rfl)
        clear hst hr
        refine wpOp_at _ rfl rfl ?_
        go_simp
        exact hK _ (Below.refl _ _)
      | 11, _, hr =>
        intro K hK
        have t19 : ac.tmps.getD 19 undef = .bool false := hst.val 9 (by omega) (ready_dep hr (e := ⟨9, .data⟩) rfl (by simp) rfl)
        clear hst hr
        refine wpOp_at _ rfl rfl ?_
        go_simp
        exact hK _ (Below.refl _ _)
      | m + 12, hi, _ => exact absurd hi (by omega)
    · intro W xs hbl hblk hinj
      simp only [gp1_put, List.setIfInBounds_toArray, List.set_cons_zero, List.set_cons_succ]
      replace HG := Lib.hid ((HG.out.up (below_drwV _)).up hbl)
      replace HE := Lib.hid ((HE.out.up (below_drwV _)).up hbl)
      replace HB := Lib.hid (below_next (below_next HB.out (below_drwV _)) hbl)
      clear hbl hblk hinj e0 e1 e2 e3 e4 e5 s9
      obtain ⟨e0, e1, e2, e3, e4, e5, _⟩ := HE.out.c6
      obtain ⟨s0, s1, s2, s3, s6, s7, s8, s9⟩ := HG.out.cs
      cases ok <;>
      (go_wp2_with fail
       go_ret
       exact .mk false rfl ⟨fun h => (by cases h), fun h => absurd h HNO.out⟩ HB.out)
  | some x =>
    refine wp_region_all 12 [0, 1, 2, 3, 4, 5, 6, 7, 8, 10, 9, 11] gp1D (fun _ => none) (gp1V g sm w.heap.size p.id x true) (by kernel_rfl) rfl (by kernel_rfl) (fun i j hi hj h => gp1D_inj i hi j hj h) (fun i hi => by have := gp1D_lt i hi; simp; omega) ?_ ?_
    · intro L ac W xq i hi hst hr
      have HXG := Lib.hid ((HG.out.up (below_drwV _)).up hst.below)
      have HXE := Lib.hid ((HE.out.up (below_drwV _)).up hst.below)
      obtain ⟨e0, e1, e2, e3, e4, e5, _⟩ := HXE.out.c6
      obtain ⟨_, _, _, _, _, _, _, s9⟩ := HXG.out.cs
      have hlk := HXG.out.fm.look key_int Try.underlying68 (zero_intV _) p.id (keyJ HP.out.2.2.1) (enc1_inj p.id) true
      simp only [hsn, Option.map_none, Option.map_some, Option.getD_none, Option.getD_some, Option.isSome_none, Option.isSome_some, if_true, enc1] at hlk
      match i, hi, hr with
      | 0, _, hr =>
        intro K hK
        have t0 : ac.tmps.getD 0 undef = .pointer (some ⟨g, 0, none⟩) := (hst.old 0 (by decide +kernel)).trans rfl
        clear hst hr
        refine wpOp_at _ rfl rfl ?_
        go_simp
        exact hK _ (Below.refl _ _)
      | 1, _, hr =>
        intro K hK
        have t11 : ac.tmps.getD 11 undef = .pointer (some ⟨g, 0, none⟩) := hst.val 0 (by omega) (ready_dep hr (e := ⟨0, .data⟩) rfl (by simp) rfl)
        clear hst hr
        refine wpOp_at _ rfl rfl ?_
        go_simp
        exact hK _ (Below.refl _ _)
      | 2, _, hr =>
        intro K hK
        have t12 : ac.tmps.getD 12 undef = .pointer (some ⟨g, 0, none⟩) := hst.val 1 (by omega) (ready_dep hr (e := ⟨1, .data⟩) rfl (by simp) rfl)
        clear hst hr
        refine wpOp_at _ rfl rfl ?_
        go_simp
        exact hK _ (Below.refl _ _)
      | 3, _, hr =>
        intro K hK
        have t13 : ac.tmps.getD 13 undef = .pointer (some ⟨g, 9, none⟩) := hst.val 2 (by omega) (ready_dep hr (e := ⟨2, .data⟩) rfl (by simp) rfl)
        clear hst hr
        refine wpOp_at _ rfl rfl ?_
        go_simp
        exact hK _ (Below.refl _ _)
      | 4, _, hr =>
        intro K hK
        have t3 : ac.tmps.getD 3 undef = .pointer (some ⟨w.heap.size, 0, none⟩) := (hst.old 3 (by decide +kernel)).trans rfl
        clear hst hr
        refine wpOp_at _ rfl rfl ?_
        go_simp
        exact hK _ (Below.refl _ _)
      | 5, _, hr =>
        intro K hK
        have t15 : ac.tmps.getD 15 undef = .pointer (some ⟨w.heap.size, 0, none⟩) := hst.val 4 (by omega) (ready_dep hr (e := ⟨4, .data⟩) rfl (by simp) rfl)
        clear hst hr
        refine wpOp_at _ rfl rfl ?_
        go_simp
        exact hK _ (Below.refl _ _)
      | 6, _, hr =>
        intro K hK
        have t14 : ac.tmps.getD 14 undef = .map (some sm) := hst.val 3 (by omega) (ready_dep hr (e := ⟨3, .data⟩) rfl (by simp) rfl)
        have t16 : ac.tmps.getD 16 undef = .int .i64 p.id := hst.val 5 (by omega) (ready_dep hr (e := ⟨5, .data⟩) rfl (by simp) rfl)
        clear hst hr
        refine wpOp_at _ rfl rfl ?_
        go_simp
        exact hK _ (Below.refl _ _)
      | 7, _, hr =>
        intro K hK
        have t17 : ac.tmps.getD 17 undef = .tuple #[.int .i64 x, .bool true] := hst.val 6 (by omega) (ready_dep hr (e := ⟨6, .data⟩) rfl (by simp) rfl)
        clear hst hr
        refine wpOp_at _ rfl rfl ?_
        go_simp
        exact hK _ (Below.refl _ _)
      | 8, _, hr =>
        intro K hK
        have t10 : ac.tmps.getD 10 undef = .tuple #[.int .i64 x, .bool true] := hst.val 7 (by omega) (ready_dep hr (e := ⟨7, .data⟩) rfl (by simp) rfl)
        clear hst hr
        refine wpOp_at _ rfl rfl ?_
        go_simp
        exact hK _ (Below.refl _ _)
      | 9, _, hr =>
        intro K hK
        have t10 : ac.tmps.getD 10 undef = .tuple #[.int .i64 x, .bool true] := hst.val 7 (by omega) (ready_dep hr (e := ⟨7, .data⟩) rfl (by simp) rfl)
        clear hst hr
        refine wpOp_at _ rfl rfl ?_
        go_simp
        exact hK _ (Below.refl _ _)
      | 10, _, hr =>
        intro K hK
        have t18 : ac.tmps.getD 18 undef = .int .i64 x := hst.val 8 (by omega) (ready_dep hr (e := ⟨8, .data⟩) rfl (by simp) rfl)
        clear hst hr
        refine wpOp_at _ rfl rfl ?_
        go_simp
        exact hK _ (Below.refl _ _)
      | 11, _, hr =>
        intro K hK
        have t19 : ac.tmps.getD 19 undef = .bool true := hst.val 9 (by omega) (ready_dep hr (e := ⟨9, .data⟩) rfl (by simp) rfl)
        clear hst hr
        refine wpOp_at _ rfl rfl ?_
        go_simp
        exact hK _ (Below.refl _ _)
      | m + 12, hi, _ => exact absurd hi (by omega)
    · intro W xs hbl hblk hinj
      simp only [gp1_put, List.setIfInBounds_toArray, List.set_cons_zero, List.set_cons_succ]
      replace HG := Lib.hid ((HG.out.up (below_drwV _)).up hbl)
      replace HE := Lib.hid ((HE.out.up (below_drwV _)).up hbl)
      replace HB := Lib.hid (below_next (below_next HB.out (below_drwV _)) hbl)
      clear hbl hblk hinj e0 e1 e2 e3 e4 e5 s9
      obtain ⟨e0, e1, e2, e3, e4, e5, _⟩ := HE.out.c6
      obtain ⟨s0, s1, s2, s3, s6, s7, s8, s9⟩ := HG.out.cs
      have HSN := Lib.hid hsn
      clear hsn
      cases ok with
      | false =>
        have HNO : Hid (¬ protP F tr p) := Lib.hid (fun h => by have := HOKP.out.2 h.1; cases this)
        go_wp2_with fail
        go_ret
        exact .mk false rfl ⟨fun h => (by cases h), fun h => absurd h HNO.out⟩ HB.out
      | true =>
        have HOP := Lib.hid (HOKP.out.1 rfl)
        by_cases hs : p.sn = 0
        · have HS0 := Lib.hid hs
          rw [hs] at e4
          clear hs
          obtain ⟨oo, hoo, hrest⟩ := HOP.out
          clear hrest
          have HOO := Lib.hid hoo
          have HOL : Hid (F.out.length = 1) := Lib.hid (by rw [hoo]; rfl)
          have HDV : Hid (downV F = mask F.t [(oo.k, oo.m)]) := Lib.hid (by unfold downV; rw [hoo])
          have HOK1 : Hid (outOk F.t oo = true) := Lib.hid (HOUT.out oo (by rw [hoo]; simp))
          have hon := row_at (s := 4) (k := 0) (x := oo) (fun _ => rfl) (by omega) (HO.out.below HB.out) (by rw [hoo]; rfl)
          obtain ⟨bo, po, hOz, hco⟩ := hon
          have o0 := hco 0 (.int .i64 oo.fr) rfl
          have o1 := hco 1 (.int .i64 oo.tu) rfl
          have o2 := hco 2 (.int .i64 oo.k) rfl
          have o3 := hco 3 (.int .i64 oo.m) rfl
          rw [show po + 0 * 4 = po by omega] at o0 o1 o2 o3
          rw [hOz, HOL.out] at s6
          have hfb : 0 ≤ oo.fr ∧ oo.fr ≤ 1073741824 ∧ 0 ≤ F.det ∧ F.det ≤ 65536 := by
            have h1 := HOK1.out
            have h2 := HTM.out
            unfold outOk inR at h1
            unfold timOk inR at h2
            simp only [Bool.and_eq_true, decide_eq_true_eq] at h1 h2
            omega
          have hw := IntWalk.wrap64_in (oo.fr + F.det) (by omega)
          clear hco hoo
          go_upto_region 5 with fail
          obtain ⟨ob, hob⟩ : ∃ ob, ob = W.heap.size := ⟨_, rfl⟩
          refine wp_named5 (fun Y => Below w.heap.size w Y ∧ GdW F A1 A2 O c1 c2 co g sm true Ad (downV F) cd (sentF tr) Y ∧ Bl 79 ob #[.int .i64 oo.fr, .int .i64 oo.tu, .int .i64 oo.k, .int .i64 oo.m] Y ∧ Bl 52 w.heap.size #[.int .i64 p.id, .int .i64 p.src, .int .i64 p.dst, .int .i64 p.fl, .slice p.st p.sn p.sc, .int .i64 p.hops] Y) ⟨below_next HB.out (below_box W _), HG.out.up (below_box W _), by rw [hob]; exact Bl.new W _ _, HE.out.up (below_box W _)⟩ ?_
          rw [← hob]
          clear hob HB HG HE e0 e1 e2 e3 e4 e5 s0 s1 s2 s3 s6 s7 s8 s9 o0 o1 o2 o3
          rintro Y ⟨h1, h2, h3, h4⟩
          have HB := Lib.hid h1
          have HG := Lib.hid h2
          have HOB := Lib.hid h3
          have HE := Lib.hid h4
          clear h1 h2 h3 h4
          obtain ⟨o0, o1, o2, o3, _⟩ := HOB.out.c4
          obtain ⟨s0, s1, s2, s3, s6, s7, s8, s9⟩ := HG.out.cs
          obtain ⟨e0, e1, e2, e3, e4, e5, _⟩ := HE.out.c6
          have kq_o0 := cell_regrown o0
          have kq_s3 := cell_regrown s3
          refine wp_region_quiet_below (by kernel_rfl) (by kernel_rfl) ?_
          repeat (go_big_quiet_step ((fail)))
          refine wpQuiet_nil ?_
          intro W2 hb2
          replace hb2 := below_of_regrown hb2
          clear kq_o0 kq_s3
          replace o0 := cell_up hb2 o0
          replace s3 := cell_up hb2 s3
          clear o0 s3 o1 o2 o3 s0 s1 s2 s6 s7 s8 s9 e0 e1 e2 e3 e4 e5
          replace HG := Lib.hid (HG.out.up hb2)
          replace HE := Lib.hid (HE.out.up hb2)
          replace HOB := Lib.hid (HOB.out.up hb2)
          replace HB := Lib.hid (below_next HB.out hb2)
          clear hb2
          obtain ⟨o0, o1, o2, o3, _⟩ := HOB.out.c4
          obtain ⟨s0, s1, s2, s3, s6, s7, s8, s9⟩ := HG.out.cs
          obtain ⟨e0, e1, e2, e3, e4, e5, _⟩ := HE.out.c6
          by_cases hti : x ≤ oo.fr + F.det
          · have HNO : Hid (¬ protP F tr p) := Lib.hid (fun ⟨_, _, o, y, ho, hy, h, _⟩ => by
              rw [HOO.out] at ho
              injection ho with ho
              subst ho
              rw [HSN.out] at hy
              injection hy with hy
              omega)
            go_wp2_with fail
            go_ret
            exact .mk false rfl ⟨fun h => (by cases h), fun h => absurd h HNO.out⟩ HB.out
          · have HTI := Lib.hid hti
            obtain ⟨q, hq⟩ : ∃ q, q = goneV oo := ⟨_, rfl⟩
            have HQ := Lib.hid hq
            unfold goneV at hq
            by_cases hk : oo.k = 2
            · rw [if_pos hk] at hq
              have b1 : (oo.k == 2) = true := by simp [hk]
              go_upto_region 10 with fail
              rw [← hq]
              clear hq hk b1
              by_cases hsd : p.src = q ∨ p.dst = q
              · have HNO : Hid (¬ protP F tr p) := Lib.hid (fun ⟨_, _, o, y, ho, _, _, h1, h2, _⟩ => by
                  rw [HOO.out] at ho
                  injection ho with ho
                  subst ho
                  rw [← HQ.out] at h1 h2
                  exact hsd.elim h1 h2)
                have d1 : ((p.src == q) || (p.dst == q)) = true := by
                  rw [Bool.or_eq_true, beq_iff_eq, beq_iff_eq]; exact hsd
                clear hsd
                cases d2 : (p.src == q) with
                | true =>
                  go_wp2_with fail
                  go_ret
                  exact .mk false rfl ⟨fun h => (by cases h), fun h => absurd h HNO.out⟩ HB.out
                | false =>
                  have d3 : (p.dst == q) = true := by rw [d2, Bool.false_or] at d1; exact d1
                  clear d1
                  go_wp2_with fail
                  go_ret
                  exact .mk false rfl ⟨fun h => (by cases h), fun h => absurd h HNO.out⟩ HB.out
              · have d2 : (p.src == q) = false := by rw [beq_eq_false_iff_ne]; exact fun h => hsd (.inl h)
                have d3 : (p.dst == q) = false := by rw [beq_eq_false_iff_ne]; exact fun h => hsd (.inr h)
                have HSD := Lib.hid hsd
                clear hsd
                go_upto_region 13 with fail
                obtain ⟨tk, htk⟩ : ∃ tk, tk = W2.heap.size := ⟨_, rfl⟩
                refine wp_named5 (fun Y => Below w.heap.size w Y ∧ GdW F A1 A2 O c1 c2 co g sm true Ad (downV F) cd (sentF tr) Y ∧ Bl 25 tk #[.int .i64 F.t.n, .slice A1 F.t.ov.length c1, .slice A2 F.t.ls.length c2] Y ∧ Bl 52 w.heap.size #[.int .i64 p.id, .int .i64 p.src, .int .i64 p.dst, .int .i64 p.fl, .slice p.st p.sn p.sc, .int .i64 p.hops] Y) ⟨below_next HB.out (below_box W2 _), HG.out.up (below_box W2 _), by rw [htk]; exact Bl.new W2 _ _, HE.out.up (below_box W2 _)⟩ ?_
                rw [← htk]
                clear htk HB HG HE HOB e0 e1 e2 e3 e4 e5 s0 s1 s2 s3 s6 s7 s8 s9 o0 o1 o2 o3
                rintro Z ⟨h1, h2, h3, h4⟩
                have HB := Lib.hid h1
                have HG := Lib.hid h2
                have HTK := Lib.hid h3
                have HE := Lib.hid h4
                clear h1 h2 h3 h4
                obtain ⟨y0, y1, y2, _⟩ := HTK.out.c3
                obtain ⟨_, _, _, _, _, _, s8, _⟩ := HG.out.cs
                obtain ⟨e0, e1, e2, e3, e4, e5, _⟩ := HE.out.c6
                have HDL : Hid ((downV F).length = 0 ∨ (downV F).length = 2 * F.t.ls.length) := Lib.hid (.inr (by rw [HDV.out]; exact mask_length _ _))
                by_cases hsf : safeP F.t (downV F) q p.dst
                · have HSF : Hid (∀ d os, Calls Try.prog 34 #[.agg #[.int .i64 F.t.n, .slice A1 F.t.ov.length c1, .slice A2 F.t.ls.length c2], .slice Ad (downV F).length cd, .int .i64 q, .int .i64 p.dst] (grow (redrawn Z d) os) fun e w'' => e = .returned (.bool true) ∧ ∃ p : Regrown, w'' = grow (redrawn Z p.d) p.os) := Lib.hid fun d os => Calls.regrown_of ((pc_Safe (w := grow (redrawn Z d) os) (D := Ad) (dn := downV F) c1 c2 cd q p.dst HV.out HP.out.2.1 ((HT.out.below HB.out).below (below_regrown Z d os)) (HG.out.rd.below (below_regrown Z d os)) HDL.out).mono (by
                    rintro e w9 ⟨b, rfl, hb, hw⟩
                    obtain rfl : b = true := by exact hb.2 hsf
                    exact ⟨rfl, hw⟩))
                  by_cases hre : reach F.t (downV F) p.src p.dst
                  · have HRC : Hid (∀ d os, Calls Try.prog 35 #[.agg #[.int .i64 F.t.n, .slice A1 F.t.ov.length c1, .slice A2 F.t.ls.length c2], .slice Ad (downV F).length cd, .int .i64 p.src, .int .i64 p.dst] (grow (redrawn Z d) os) fun e w'' => e = .returned (.bool true) ∧ ∃ p : Regrown, w'' = grow (redrawn Z p.d) p.os) := Lib.hid fun d os => Calls.regrown_of ((pc_Reaches (w := grow (redrawn Z d) os) (D := Ad) (dn := downV F) c1 c2 cd p.src p.dst HV.out HP.out.1 HP.out.2.1 ((HT.out.below HB.out).below (below_regrown Z d os)) (HG.out.rd.below (below_regrown Z d os)) HDL.out).mono (by
                      rintro e w9 ⟨b, rfl, hb, hw⟩
                      obtain rfl : b = true := by exact hb.2 hre
                      exact ⟨rfl, hw⟩))
                    have HYES : Hid (protP F tr p) := Lib.hid ⟨HOP.out, HS0.out, oo, x, HOO.out, HSN.out, by have := HTI.out; omega, fun h => HSD.out (.inl (h.trans HQ.out.symm)), fun h => HSD.out (.inr (h.trans HQ.out.symm)), by rw [← HQ.out]; exact hsf, hre⟩
                    clear hsf hre
                    have kq_y0 := cell_regrown y0
                    have kq_y1 := cell_regrown y1
                    have kq_y2 := cell_regrown y2
                    have kq_s8 := cell_regrown s8
                    have kq_e1 := cell_regrown e1
                    have kq_e2 := cell_regrown e2
                    refine wp_region_quiet_below (by kernel_rfl) (by kernel_rfl) ?_
                    repeat (go_big_quiet_step ((first | (with_reducible exact HSF.out _ _) | (with_reducible exact HRC.out _ _))))
                    refine wpQuiet_nil ?_
                    intro W3 hb3
                    replace hb3 := below_of_regrown hb3
                    clear kq_y0 kq_y1 kq_y2 kq_s8 kq_e1 kq_e2
                    replace y0 := cell_up hb3 y0
                    replace y1 := cell_up hb3 y1
                    replace y2 := cell_up hb3 y2
                    replace s8 := cell_up hb3 s8
                    replace e1 := cell_up hb3 e1
                    replace e2 := cell_up hb3 e2
                    replace HB := Lib.hid (below_next HB.out hb3)
                    clear y0 y1 y2 s8 e0 e1 e2 e3 e4 e5
                    go_wp2_with fail
                    go_ret
                    exact .mk true rfl ⟨fun _ => HYES.out, fun _ => rfl⟩ HB.out
                  · have HRC : Hid (∀ d os, Calls Try.prog 35 #[.agg #[.int .i64 F.t.n, .slice A1 F.t.ov.length c1, .slice A2 F.t.ls.length c2], .slice Ad (downV F).length cd, .int .i64 p.src, .int .i64 p.dst] (grow (redrawn Z d) os) fun e w'' => e = .returned (.bool false) ∧ ∃ p : Regrown, w'' = grow (redrawn Z p.d) p.os) := Lib.hid fun d os => Calls.regrown_of ((pc_Reaches (w := grow (redrawn Z d) os) (D := Ad) (dn := downV F) c1 c2 cd p.src p.dst HV.out HP.out.1 HP.out.2.1 ((HT.out.below HB.out).below (below_regrown Z d os)) (HG.out.rd.below (below_regrown Z d os)) HDL.out).mono (by
                      rintro e w9 ⟨b, rfl, hb, hw⟩
                      obtain rfl : b = false := by cases b; rfl; exact absurd (hb.1 rfl) hre
                      exact ⟨rfl, hw⟩))
                    have HNO : Hid (¬ protP F tr p) := Lib.hid (fun ⟨_, _, o, y, _, _, _, _, _, _, h⟩ => hre h)
                    clear hsf hre
                    have kq_y0 := cell_regrown y0
                    have kq_y1 := cell_regrown y1
                    have kq_y2 := cell_regrown y2
                    have kq_s8 := cell_regrown s8
                    have kq_e1 := cell_regrown e1
                    have kq_e2 := cell_regrown e2
                    refine wp_region_quiet_below (by kernel_rfl) (by kernel_rfl) ?_
                    repeat (go_big_quiet_step ((first | (with_reducible exact HSF.out _ _) | (with_reducible exact HRC.out _ _))))
                    refine wpQuiet_nil ?_
                    intro W3 hb3
                    replace hb3 := below_of_regrown hb3
                    clear kq_y0 kq_y1 kq_y2 kq_s8 kq_e1 kq_e2
                    replace y0 := cell_up hb3 y0
                    replace y1 := cell_up hb3 y1
                    replace y2 := cell_up hb3 y2
                    replace s8 := cell_up hb3 s8
                    replace e1 := cell_up hb3 e1
                    replace e2 := cell_up hb3 e2
                    replace HB := Lib.hid (below_next HB.out hb3)
                    clear y0 y1 y2 s8 e0 e1 e2 e3 e4 e5
                    go_wp2_with fail
                    go_ret
                    exact .mk false rfl ⟨fun h => (by cases h), fun h => absurd h HNO.out⟩ HB.out
                · have HSF : Hid (∀ d os, Calls Try.prog 34 #[.agg #[.int .i64 F.t.n, .slice A1 F.t.ov.length c1, .slice A2 F.t.ls.length c2], .slice Ad (downV F).length cd, .int .i64 q, .int .i64 p.dst] (grow (redrawn Z d) os) fun e w'' => e = .returned (.bool false) ∧ ∃ p : Regrown, w'' = grow (redrawn Z p.d) p.os) := Lib.hid fun d os => Calls.regrown_of ((pc_Safe (w := grow (redrawn Z d) os) (D := Ad) (dn := downV F) c1 c2 cd q p.dst HV.out HP.out.2.1 ((HT.out.below HB.out).below (below_regrown Z d os)) (HG.out.rd.below (below_regrown Z d os)) HDL.out).mono (by
                    rintro e w9 ⟨b, rfl, hb, hw⟩
                    obtain rfl : b = false := by cases b; rfl; exact absurd (hb.1 rfl) hsf
                    exact ⟨rfl, hw⟩))
                  have HNO : Hid (¬ protP F tr p) := Lib.hid (fun ⟨_, _, o, y, ho, _, _, _, _, h, _⟩ => by
                    rw [HOO.out] at ho
                    injection ho with ho
                    subst ho
                    rw [← HQ.out] at h
                    exact hsf h)
                  clear hsf
                  have kq_y0 := cell_regrown y0
                  have kq_y1 := cell_regrown y1
                  have kq_y2 := cell_regrown y2
                  have kq_s8 := cell_regrown s8
                  have kq_e1 := cell_regrown e1
                  have kq_e2 := cell_regrown e2
                  refine wp_region_quiet_below (by kernel_rfl) (by kernel_rfl) ?_
                  repeat (go_big_quiet_step ((with_reducible exact HSF.out _ _)))
                  refine wpQuiet_nil ?_
                  intro W3 hb3
                  replace hb3 := below_of_regrown hb3
                  clear kq_y0 kq_y1 kq_y2 kq_s8 kq_e1 kq_e2
                  replace y0 := cell_up hb3 y0
                  replace y1 := cell_up hb3 y1
                  replace y2 := cell_up hb3 y2
                  replace s8 := cell_up hb3 s8
                  replace e1 := cell_up hb3 e1
                  replace e2 := cell_up hb3 e2
                  replace HB := Lib.hid (below_next HB.out hb3)
                  clear y0 y1 y2 s8 e0 e1 e2 e3 e4 e5
                  go_wp2_with fail
                  go_ret
                  exact .mk false rfl ⟨fun h => (by cases h), fun h => absurd h HNO.out⟩ HB.out
            · rw [if_neg hk] at hq
              have b1 : (oo.k == 2) = false := by simp [hk]
              go_upto_region 10 with fail
              rw [← hq]
              clear hq hk b1
              by_cases hsd : p.src = q ∨ p.dst = q
              · have HNO : Hid (¬ protP F tr p) := Lib.hid (fun ⟨_, _, o, y, ho, _, _, h1, h2, _⟩ => by
                  rw [HOO.out] at ho
                  injection ho with ho
                  subst ho
                  rw [← HQ.out] at h1 h2
                  exact hsd.elim h1 h2)
                have d1 : ((p.src == q) || (p.dst == q)) = true := by
                  rw [Bool.or_eq_true, beq_iff_eq, beq_iff_eq]; exact hsd
                clear hsd
                cases d2 : (p.src == q) with
                | true =>
                  go_wp2_with fail
                  go_ret
                  exact .mk false rfl ⟨fun h => (by cases h), fun h => absurd h HNO.out⟩ HB.out
                | false =>
                  have d3 : (p.dst == q) = true := by rw [d2, Bool.false_or] at d1; exact d1
                  clear d1
                  go_wp2_with fail
                  go_ret
                  exact .mk false rfl ⟨fun h => (by cases h), fun h => absurd h HNO.out⟩ HB.out
              · have d2 : (p.src == q) = false := by rw [beq_eq_false_iff_ne]; exact fun h => hsd (.inl h)
                have d3 : (p.dst == q) = false := by rw [beq_eq_false_iff_ne]; exact fun h => hsd (.inr h)
                have HSD := Lib.hid hsd
                clear hsd
                go_upto_region 13 with fail
                obtain ⟨tk, htk⟩ : ∃ tk, tk = W2.heap.size := ⟨_, rfl⟩
                refine wp_named5 (fun Y => Below w.heap.size w Y ∧ GdW F A1 A2 O c1 c2 co g sm true Ad (downV F) cd (sentF tr) Y ∧ Bl 25 tk #[.int .i64 F.t.n, .slice A1 F.t.ov.length c1, .slice A2 F.t.ls.length c2] Y ∧ Bl 52 w.heap.size #[.int .i64 p.id, .int .i64 p.src, .int .i64 p.dst, .int .i64 p.fl, .slice p.st p.sn p.sc, .int .i64 p.hops] Y) ⟨below_next HB.out (below_box W2 _), HG.out.up (below_box W2 _), by rw [htk]; exact Bl.new W2 _ _, HE.out.up (below_box W2 _)⟩ ?_
                rw [← htk]
                clear htk HB HG HE HOB e0 e1 e2 e3 e4 e5 s0 s1 s2 s3 s6 s7 s8 s9 o0 o1 o2 o3
                rintro Z ⟨h1, h2, h3, h4⟩
                have HB := Lib.hid h1
                have HG := Lib.hid h2
                have HTK := Lib.hid h3
                have HE := Lib.hid h4
                clear h1 h2 h3 h4
                obtain ⟨y0, y1, y2, _⟩ := HTK.out.c3
                obtain ⟨_, _, _, _, _, _, s8, _⟩ := HG.out.cs
                obtain ⟨e0, e1, e2, e3, e4, e5, _⟩ := HE.out.c6
                have HDL : Hid ((downV F).length = 0 ∨ (downV F).length = 2 * F.t.ls.length) := Lib.hid (.inr (by rw [HDV.out]; exact mask_length _ _))
                by_cases hsf : safeP F.t (downV F) q p.dst
                · have HSF : Hid (∀ d os, Calls Try.prog 34 #[.agg #[.int .i64 F.t.n, .slice A1 F.t.ov.length c1, .slice A2 F.t.ls.length c2], .slice Ad (downV F).length cd, .int .i64 q, .int .i64 p.dst] (grow (redrawn Z d) os) fun e w'' => e = .returned (.bool true) ∧ ∃ p : Regrown, w'' = grow (redrawn Z p.d) p.os) := Lib.hid fun d os => Calls.regrown_of ((pc_Safe (w := grow (redrawn Z d) os) (D := Ad) (dn := downV F) c1 c2 cd q p.dst HV.out HP.out.2.1 ((HT.out.below HB.out).below (below_regrown Z d os)) (HG.out.rd.below (below_regrown Z d os)) HDL.out).mono (by
                    rintro e w9 ⟨b, rfl, hb, hw⟩
                    obtain rfl : b = true := by exact hb.2 hsf
                    exact ⟨rfl, hw⟩))
                  by_cases hre : reach F.t (downV F) p.src p.dst
                  · have HRC : Hid (∀ d os, Calls Try.prog 35 #[.agg #[.int .i64 F.t.n, .slice A1 F.t.ov.length c1, .slice A2 F.t.ls.length c2], .slice Ad (downV F).length cd, .int .i64 p.src, .int .i64 p.dst] (grow (redrawn Z d) os) fun e w'' => e = .returned (.bool true) ∧ ∃ p : Regrown, w'' = grow (redrawn Z p.d) p.os) := Lib.hid fun d os => Calls.regrown_of ((pc_Reaches (w := grow (redrawn Z d) os) (D := Ad) (dn := downV F) c1 c2 cd p.src p.dst HV.out HP.out.1 HP.out.2.1 ((HT.out.below HB.out).below (below_regrown Z d os)) (HG.out.rd.below (below_regrown Z d os)) HDL.out).mono (by
                      rintro e w9 ⟨b, rfl, hb, hw⟩
                      obtain rfl : b = true := by exact hb.2 hre
                      exact ⟨rfl, hw⟩))
                    have HYES : Hid (protP F tr p) := Lib.hid ⟨HOP.out, HS0.out, oo, x, HOO.out, HSN.out, by have := HTI.out; omega, fun h => HSD.out (.inl (h.trans HQ.out.symm)), fun h => HSD.out (.inr (h.trans HQ.out.symm)), by rw [← HQ.out]; exact hsf, hre⟩
                    clear hsf hre
                    have kq_y0 := cell_regrown y0
                    have kq_y1 := cell_regrown y1
                    have kq_y2 := cell_regrown y2
                    have kq_s8 := cell_regrown s8
                    have kq_e1 := cell_regrown e1
                    have kq_e2 := cell_regrown e2
                    refine wp_region_quiet_below (by kernel_rfl) (by kernel_rfl) ?_
                    repeat (go_big_quiet_step ((first | (with_reducible exact HSF.out _ _) | (with_reducible exact HRC.out _ _))))
                    refine wpQuiet_nil ?_
                    intro W3 hb3
                    replace hb3 := below_of_regrown hb3
                    clear kq_y0 kq_y1 kq_y2 kq_s8 kq_e1 kq_e2
                    replace y0 := cell_up hb3 y0
                    replace y1 := cell_up hb3 y1
                    replace y2 := cell_up hb3 y2
                    replace s8 := cell_up hb3 s8
                    replace e1 := cell_up hb3 e1
                    replace e2 := cell_up hb3 e2
                    replace HB := Lib.hid (below_next HB.out hb3)
                    clear y0 y1 y2 s8 e0 e1 e2 e3 e4 e5
                    go_wp2_with fail
                    go_ret
                    exact .mk true rfl ⟨fun _ => HYES.out, fun _ => rfl⟩ HB.out
                  · have HRC : Hid (∀ d os, Calls Try.prog 35 #[.agg #[.int .i64 F.t.n, .slice A1 F.t.ov.length c1, .slice A2 F.t.ls.length c2], .slice Ad (downV F).length cd, .int .i64 p.src, .int .i64 p.dst] (grow (redrawn Z d) os) fun e w'' => e = .returned (.bool false) ∧ ∃ p : Regrown, w'' = grow (redrawn Z p.d) p.os) := Lib.hid fun d os => Calls.regrown_of ((pc_Reaches (w := grow (redrawn Z d) os) (D := Ad) (dn := downV F) c1 c2 cd p.src p.dst HV.out HP.out.1 HP.out.2.1 ((HT.out.below HB.out).below (below_regrown Z d os)) (HG.out.rd.below (below_regrown Z d os)) HDL.out).mono (by
                      rintro e w9 ⟨b, rfl, hb, hw⟩
                      obtain rfl : b = false := by cases b; rfl; exact absurd (hb.1 rfl) hre
                      exact ⟨rfl, hw⟩))
                    have HNO : Hid (¬ protP F tr p) := Lib.hid (fun ⟨_, _, o, y, _, _, _, _, _, _, h⟩ => hre h)
                    clear hsf hre
                    have kq_y0 := cell_regrown y0
                    have kq_y1 := cell_regrown y1
                    have kq_y2 := cell_regrown y2
                    have kq_s8 := cell_regrown s8
                    have kq_e1 := cell_regrown e1
                    have kq_e2 := cell_regrown e2
                    refine wp_region_quiet_below (by kernel_rfl) (by kernel_rfl) ?_
                    repeat (go_big_quiet_step ((first | (with_reducible exact HSF.out _ _) | (with_reducible exact HRC.out _ _))))
                    refine wpQuiet_nil ?_
                    intro W3 hb3
                    replace hb3 := below_of_regrown hb3
                    clear kq_y0 kq_y1 kq_y2 kq_s8 kq_e1 kq_e2
                    replace y0 := cell_up hb3 y0
                    replace y1 := cell_up hb3 y1
                    replace y2 := cell_up hb3 y2
                    replace s8 := cell_up hb3 s8
                    replace e1 := cell_up hb3 e1
                    replace e2 := cell_up hb3 e2
                    replace HB := Lib.hid (below_next HB.out hb3)
                    clear y0 y1 y2 s8 e0 e1 e2 e3 e4 e5
                    go_wp2_with fail
                    go_ret
                    exact .mk false rfl ⟨fun h => (by cases h), fun h => absurd h HNO.out⟩ HB.out
                · have HSF : Hid (∀ d os, Calls Try.prog 34 #[.agg #[.int .i64 F.t.n, .slice A1 F.t.ov.length c1, .slice A2 F.t.ls.length c2], .slice Ad (downV F).length cd, .int .i64 q, .int .i64 p.dst] (grow (redrawn Z d) os) fun e w'' => e = .returned (.bool false) ∧ ∃ p : Regrown, w'' = grow (redrawn Z p.d) p.os) := Lib.hid fun d os => Calls.regrown_of ((pc_Safe (w := grow (redrawn Z d) os) (D := Ad) (dn := downV F) c1 c2 cd q p.dst HV.out HP.out.2.1 ((HT.out.below HB.out).below (below_regrown Z d os)) (HG.out.rd.below (below_regrown Z d os)) HDL.out).mono (by
                    rintro e w9 ⟨b, rfl, hb, hw⟩
                    obtain rfl : b = false := by cases b; rfl; exact absurd (hb.1 rfl) hsf
                    exact ⟨rfl, hw⟩))
                  have HNO : Hid (¬ protP F tr p) := Lib.hid (fun ⟨_, _, o, y, ho, _, _, _, _, h, _⟩ => by
                    rw [HOO.out] at ho
                    injection ho with ho
                    subst ho
                    rw [← HQ.out] at h
                    exact hsf h)
                  clear hsf
                  have kq_y0 := cell_regrown y0
                  have kq_y1 := cell_regrown y1
                  have kq_y2 := cell_regrown y2
                  have kq_s8 := cell_regrown s8
                  have kq_e1 := cell_regrown e1
                  have kq_e2 := cell_regrown e2
                  refine wp_region_quiet_below (by kernel_rfl) (by kernel_rfl) ?_
                  repeat (go_big_quiet_step ((with_reducible exact HSF.out _ _)))
                  refine wpQuiet_nil ?_
                  intro W3 hb3
                  replace hb3 := below_of_regrown hb3
                  clear kq_y0 kq_y1 kq_y2 kq_s8 kq_e1 kq_e2
                  replace y0 := cell_up hb3 y0
                  replace y1 := cell_up hb3 y1
                  replace y2 := cell_up hb3 y2
                  replace s8 := cell_up hb3 s8
                  replace e1 := cell_up hb3 e1
                  replace e2 := cell_up hb3 e2
                  replace HB := Lib.hid (below_next HB.out hb3)
                  clear y0 y1 y2 s8 e0 e1 e2 e3 e4 e5
                  go_wp2_with fail
                  go_ret
                  exact .mk false rfl ⟨fun h => (by cases h), fun h => absurd h HNO.out⟩ HB.out
        · have HNO : Hid (¬ protP F tr p) := Lib.hid (fun h => hs h.2.1)
          have hs1 : 0 < (p.sn : Int) := by omega
          clear hs
          go_wp2_with fail
          go_ret
          exact .mk false rfl ⟨fun h => (by cases h), fun h => absurd h HNO.out⟩ HB.out
end
end Go.Proofs.Ytdnjflpmbnjgeaa
