/-
  The rules of the check: undetected.
  The rules of the check: state.
  The rules of the check: dead (printed by gen_ru2.py).
  The rules of the check: dead, the other kinds.
  The rules of the check: loop.
  The rules of the check: arc.
  The rules of the check: lost.
-/
import Derived.Test.YtdnjflpmbnjgeaaGreatGp
set_option linter.unusedSimpArgs false
set_option linter.unusedVariables false
namespace Go.Proofs.YtdnjflpmbnjgeaaGreat
section
open Go.RowKit Go.Sort
/-- What a rule answers. -/
def RetRu (w : World) (v : Bool) (e : Ending) (w' : World) : Prop := e = .returned (.bool v) ∧ Below w.heap.size w w'
section
variable {w : World} {F : FaN} {A1 A2 O : Option Addr} {c1 c2 co : Nat} {fl : Value} {b : CkB} {pm : Int → Option PkN} {pr : Int → Bool}
set_option maxRecDepth 100000 in
set_option maxHeartbeats 4000000 in
theorem ru_undetected (c : CkS) (e : Ev) (hC : CkAt F A1 A2 O c1 c2 co fl b pm pr c w) (hb : e.k = 2 → 0 ≤ e.a ∧ e.a < (c.up.length : Int)) :
    Calls Tryz.prog 21 #[.pointer (some ⟨b.cb, 0, none⟩), .agg #[.int .i64 e.t, .int .i64 e.k, .int .i64 e.n, .int .i64 e.a, .int .i64 e.p, .int .i64 e.r]] w (RetRu w ((e.k == 2) && !c.up.getD e.a.toNat false)) := by
 have HB := hU (cQ w (.cells #[.int .i64 e.t, .int .i64 e.k, .int .i64 e.n, .int .i64 e.a, .int .i64 e.p, .int .i64 e.r] 43))
 have HE := hU (Bl.new w #[.int .i64 e.t, .int .i64 e.k, .int .i64 e.n, .int .i64 e.a, .int .i64 e.p, .int .i64 e.r] 43)
 have HC := hU (hC.up HB.out)
 obtain ⟨x, kd, n, ar, p, r⟩ := e
 simp only at hb HE HB HC ⊢
 obtain ⟨e0, e1, e2, e3, e4, e5, _⟩ := HE.out.c6
 have q14 := HC.out.q14
 by_cases hk : kd = 2
 ·subst hk
  obtain ⟨h0, h1⟩ := hb rfl
  have hr := HC.out.m.up.cell h0 h1
  obtain ⟨v, hv⟩ : ∃ v, v = c.up.getD ar.toNat false := ⟨_, rfl⟩
  rw [← hv] at hr ⊢
  clear hC hb hv
  go_enter Tryz.func21, Tryz.ntmps21
  go_upto_region 1 with fail
  obtain ⟨P1, P2, P3, P4, P5, P6, P7, P8, -⟩ := kU e0 (kU e1 (kU e2 (kU e3 (kU e4 (kU e5 (kU q14 (kU hr trivial)))))))
  refine wp_region_quiet_below (by kernel_rfl) (by kernel_rfl) ?_
  repeat (go_big_quiet_step ((fail)))
  refine wpQuiet_nil ?_
  intro W2 hb2
  replace hb2 := eQ hb2
  clear P1 P2 P3 P4 P5 P6 P7 P8
  have zU := uU hb2 e0 (uU hb2 e1 (uU hb2 e2 (uU hb2 e3 (uU hb2 e4 (uU hb2 e5 (uU hb2 q14 (uU hb2 hr trivial))))))); clear e0 e1 e2 e3 e4 e5 q14 hr; obtain ⟨e0, e1, e2, e3, e4, e5, q14, hr, -⟩ := zU
  replace HB := hU (bQ HB.out hb2)
  go_wp2_with fail
  go_ret
  exact ⟨by cases v <;> rfl, HB.out⟩
 ·have hkb : (kd == 2) = false := by simp [hk]
  rw [hkb]
  clear hC hb hk
  go_enter Tryz.func21, Tryz.ntmps21
  go_upto_region 1 with fail
  obtain ⟨P1, P2, P3, P4, P5, P6, P7, -⟩ := kU e0 (kU e1 (kU e2 (kU e3 (kU e4 (kU e5 (kU q14 trivial))))))
  refine wp_region_quiet_below (by kernel_rfl) (by kernel_rfl) ?_
  repeat (go_big_quiet_step ((fail)))
  refine wpQuiet_nil ?_
  intro W2 hb2
  replace hb2 := eQ hb2
  clear P1 P2 P3 P4 P5 P6 P7
  have zU := uU hb2 e0 (uU hb2 e1 (uU hb2 e2 (uU hb2 e3 (uU hb2 e4 (uU hb2 e5 (uU hb2 q14 trivial)))))); clear e0 e1 e2 e3 e4 e5 q14; obtain ⟨e0, e1, e2, e3, e4, e5, q14, -⟩ := zU
  replace HB := hU (bQ HB.out hb2)
  go_wp2_with fail
  go_ret
  exact ⟨rfl, HB.out⟩
end
section
variable {w : World} {F : FaN} {A1 A2 O : Option Addr} {c1 c2 co : Nat} {fl : Value} {b : CkB} {pm : Int → Option PkN} {pr : Int → Bool}
end
def ru6D : Nat → Nat
 | 0 => 12
 | 1 => 13
 | 2 => 14
 | 3 => 15
 | 4 => 16
 | 5 => 17
 | 6 => 18
 | 7 => 4
 | _ => 0
theorem ru6D_lt : ∀ i, i < 8 → ru6D i < 19 := by decide +kernel
theorem ru6D_inj : ∀ i, i < 8 → ∀ j, j < 8 → ru6D i = ru6D j → i = j := by decide +kernel
def ru6V (cb mb eb : Nat) (n : Int) (v : Bool) : Nat → Nat → Value
 | 0, _ => .pointer (some ⟨cb, 0, none⟩)
 | 1, _ => .pointer (some ⟨cb, 0, none⟩)
 | 2, _ => .pointer (some ⟨cb, 10, none⟩)
 | 3, _ => .map (some mb)
 | 4, _ => .pointer (some ⟨eb, 2, none⟩)
 | 5, _ => .int .i64 n
 | 6, _ => .bool v
 | 7, _ => .bool v
 | _, _ => undef
theorem ru6_put (cb mb eb : Nat) (n : Int) (v : Bool) (xs : Nat → Nat) (T : Array Value) : putAll ru6D (fun i => ru6V cb mb eb n v i (xs i)) 8 T = ((((((((T.setIfInBounds 12 (.pointer (some ⟨cb, 0, none⟩))).setIfInBounds 13 (.pointer (some ⟨cb, 0, none⟩))).setIfInBounds 14 (.pointer (some ⟨cb, 10, none⟩))).setIfInBounds 15 (.map (some mb))).setIfInBounds 16 (.pointer (some ⟨eb, 2, none⟩))).setIfInBounds 17 (.int .i64 n)).setIfInBounds 18 (.bool v)).setIfInBounds 4 (.bool v)) := rfl
section
variable {w : World} {F : FaN} {A1 A2 O : Option Addr} {c1 c2 co : Nat} {fl : Value} {b : CkB} {pm : Int → Option PkN} {pr : Int → Bool}
set_option maxRecDepth 100000 in
set_option maxHeartbeats 4000000 in
theorem ru_dead1 (c : CkS) (x kd n ar p r : Int) (hC : CkAt F A1 A2 O c1 c2 co fl b pm pr c w) (hJ : inJ n) (hk : kd = 1 ∨ kd = 7 ∨ kd = 8 ∨ kd = 9) :
    Calls Tryz.prog 25 #[.pointer (some ⟨b.cb, 0, none⟩), .agg #[.int .i64 x, .int .i64 kd, .int .i64 n, .int .i64 ar, .int .i64 p, .int .i64 r]] w (RetRu w (c.dn n)) := by
 have HB := hU (cQ w (.cells #[.int .i64 x, .int .i64 kd, .int .i64 n, .int .i64 ar, .int .i64 p, .int .i64 r] 43))
 have HE := hU (Bl.new w #[.int .i64 x, .int .i64 kd, .int .i64 n, .int .i64 ar, .int .i64 p, .int .i64 r] 43)
 have HC := hU (hC.up HB.out)
 have HJ := hU hJ
 obtain ⟨e0, e1, e2, e3, e4, e5, _⟩ := HE.out.c6
 have q10 := HC.out.q10
 clear hC hJ
 rcases hk with rfl | rfl | rfl | rfl
 all_goals
  go_enter Tryz.func25, Tryz.ntmps25
  go_upto_region 6 with fail
  refine wp_region_all 8 [0, 1, 2, 3, 4, 5, 6, 7] ru6D (fun _ => none) (ru6V b.cb b.dn w.heap.size n (c.dn n)) (by kernel_rfl) rfl (by kernel_rfl) (fun i j hi hj h => ru6D_inj i hi j hj h) (fun i hi => by have := ru6D_lt i hi; simp; omega) ?_ ?_
  ·intro L ac W xq i hi hst hr
   have HXC := hU ((HC.out.up (gQ _)).up hst.below)
   have HXE := hU ((HE.out.up (gQ _)).up hst.below)
   obtain ⟨e0, e1, e2, e3, e4, e5, _⟩ := HXE.out.c6
   have q10 := HXC.out.q10
   have hlk := HXC.out.m.dn.look key_int Tryz.underlying62 (zero_boolV _) n (keyJ HJ.out) (enc1_inj n)
   simp only [enc1] at hlk
   match i, hi, hr with
   | 0, _, hr =>
    intro K hK
    have t0 : ac.tmps.getD 0 undef = .pointer (some ⟨b.cb, 0, none⟩) := (hst.old 0 (by decide +kernel)).trans rfl
    clear hst hr
    refine iQ _ rfl rfl ?_
    go_simp
    exact hK _ (Below.refl _ _)
   | 1, _, hr =>
    intro K hK
    have t12 : ac.tmps.getD 12 undef = .pointer (some ⟨b.cb, 0, none⟩) := hst.val 0 (by omega) (rU hr 0)
    clear hst hr
    refine iQ _ rfl rfl ?_
    go_simp
    exact hK _ (Below.refl _ _)
   | 2, _, hr =>
    intro K hK
    have t13 : ac.tmps.getD 13 undef = .pointer (some ⟨b.cb, 0, none⟩) := hst.val 1 (by omega) (rU hr 1)
    clear hst hr
    refine iQ _ rfl rfl ?_
    go_simp
    exact hK _ (Below.refl _ _)
   | 3, _, hr =>
    intro K hK
    have t14 : ac.tmps.getD 14 undef = .pointer (some ⟨b.cb, 10, none⟩) := hst.val 2 (by omega) (rU hr 2)
    clear hst hr
    refine iQ _ rfl rfl ?_
    go_simp
    exact hK _ (Below.refl _ _)
   | 4, _, hr =>
    intro K hK
    have t3 : ac.tmps.getD 3 undef = .pointer (some ⟨w.heap.size, 0, none⟩) := (hst.old 3 (by decide +kernel)).trans rfl
    clear hst hr
    refine iQ _ rfl rfl ?_
    go_simp
    exact hK _ (Below.refl _ _)
   | 5, _, hr =>
    intro K hK
    have t16 : ac.tmps.getD 16 undef = .pointer (some ⟨w.heap.size, 2, none⟩) := hst.val 4 (by omega) (rU hr 4)
    clear hst hr
    refine iQ _ rfl rfl ?_
    go_simp
    exact hK _ (Below.refl _ _)
   | 6, _, hr =>
    intro K hK
    have t15 : ac.tmps.getD 15 undef = .map (some b.dn) := hst.val 3 (by omega) (rU hr 3)
    have t17 : ac.tmps.getD 17 undef = .int .i64 n := hst.val 5 (by omega) (rU hr 5)
    clear hst hr
    refine iQ _ rfl rfl ?_
    go_simp
    exact hK _ (Below.refl _ _)
   | 7, _, hr =>
    intro K hK
    have t18 : ac.tmps.getD 18 undef = .bool (c.dn n) := hst.val 6 (by omega) (rU hr 6)
    clear hst hr
    refine iQ _ rfl rfl ?_
    go_simp
    exact hK _ (Below.refl _ _)
   | m + 8, hi, _ => exact absurd hi (by omega)
  ·intro W xs hbl hblk hinj
   have HV : Hid (Below w.heap.size w W) := hU (bQ (bQ HB.out (gQ _)) hbl)
   simp only [ru6_put, List.setIfInBounds_toArray, List.set_cons_zero, List.set_cons_succ]
   clear hbl hblk hinj
   go_wp2_with fail
   go_ret
   exact ⟨rfl, HV.out⟩
end
section
variable {w : World} {F : FaN} {A1 A2 O : Option Addr} {c1 c2 co : Nat} {fl : Value} {b : CkB} {pm : Int → Option PkN} {pr : Int → Bool}
set_option maxRecDepth 100000 in
set_option maxHeartbeats 4000000 in
theorem ru_dead2 (c : CkS) (x kd n ar p r : Int) (hC : CkAt F A1 A2 O c1 c2 co fl b pm pr c w) (hJ : inJ n) (k1 : (kd == 1) = false) (k7 : (kd == 7) = false) (k8 : (kd == 8) = false) (k9 : (kd == 9) = false) :
    Calls Tryz.prog 25 #[.pointer (some ⟨b.cb, 0, none⟩), .agg #[.int .i64 x, .int .i64 kd, .int .i64 n, .int .i64 ar, .int .i64 p, .int .i64 r]] w (RetRu w (handB ⟨x, kd, n, ar, p, r⟩ && c.dn n)) := by
 have HB := hU (cQ w (.cells #[.int .i64 x, .int .i64 kd, .int .i64 n, .int .i64 ar, .int .i64 p, .int .i64 r] 43))
 have HE := hU (Bl.new w #[.int .i64 x, .int .i64 kd, .int .i64 n, .int .i64 ar, .int .i64 p, .int .i64 r] 43)
 have HC := hU (hC.up HB.out)
 have HJ := hU hJ
 obtain ⟨e0, e1, e2, e3, e4, e5, _⟩ := HE.out.c6
 have q10 := HC.out.q10
 clear hC hJ
 cases hh : handB ⟨x, kd, n, ar, p, r⟩ with
 | false =>
  have HH : Hid (∀ W d os, Calls Tryz.prog 54 #[.agg #[.int .i64 x, .int .i64 kd, .int .i64 n, .int .i64 ar, .int .i64 p, .int .i64 r]] (grow (redrawn W d) os) fun e w'' => e = .returned (.bool false) ∧ ∃ p : Regrown, w'' = grow (redrawn W p.d) p.os) := hU fun W d os => Calls.regrown_of (by have := vy_handling (w := grow (redrawn W d) os) x kd n ar p r; rw [hh] at this; exact this)
  clear hh
  go_enter Tryz.func25, Tryz.ntmps25
  go_upto_region 7 with fail
  obtain ⟨P1, P2, P3, P4, P5, P6, P7, -⟩ := kU e0 (kU e1 (kU e2 (kU e3 (kU e4 (kU e5 (kU q10 trivial))))))
  refine wp_region_quiet_below (by kernel_rfl) (by kernel_rfl) ?_
  repeat (go_big_quiet_step ((with_reducible exact HH.out _ _ _)))
  refine wpQuiet_nil ?_
  intro W2 hb2
  replace hb2 := eQ hb2
  clear P1 P2 P3 P4 P5 P6 P7
  have zU := uU hb2 e0 (uU hb2 e1 (uU hb2 e2 (uU hb2 e3 (uU hb2 e4 (uU hb2 e5 (uU hb2 q10 trivial)))))); clear e0 e1 e2 e3 e4 e5 q10; obtain ⟨e0, e1, e2, e3, e4, e5, q10, -⟩ := zU
  replace HB := hU (bQ HB.out hb2)
  go_wp2_with fail
  go_ret
  exact ⟨rfl, HB.out⟩
 | true =>
  have HH : Hid (∀ W d os, Calls Tryz.prog 54 #[.agg #[.int .i64 x, .int .i64 kd, .int .i64 n, .int .i64 ar, .int .i64 p, .int .i64 r]] (grow (redrawn W d) os) fun e w'' => e = .returned (.bool true) ∧ ∃ p : Regrown, w'' = grow (redrawn W p.d) p.os) := hU fun W d os => Calls.regrown_of (by have := vy_handling (w := grow (redrawn W d) os) x kd n ar p r; rw [hh] at this; exact this)
  clear hh
  go_enter Tryz.func25, Tryz.ntmps25
  go_upto_region 7 with fail
  have hlk : ∀ d os, (Instr.lookup 62 (.map (some b.dn)) (.int .i64 n) false).run Tryz.prog (grow (redrawn (w.alloc (.cells #[.int .i64 x, .int .i64 kd, .int .i64 n, .int .i64 ar, .int .i64 p, .int .i64 r] 43)) d) os) = .ok (.bool (c.dn n)) (grow (redrawn (w.alloc (.cells #[.int .i64 x, .int .i64 kd, .int .i64 n, .int .i64 ar, .int .i64 p, .int .i64 r] 43)) d) os) := fun d os => (HC.out.up (below_regrown _ d os)).m.dn.look key_int Tryz.underlying62 (zero_boolV _) n (keyJ HJ.out) (enc1_inj n)
  obtain ⟨P1, P2, P3, P4, P5, P6, P7, -⟩ := kU e0 (kU e1 (kU e2 (kU e3 (kU e4 (kU e5 (kU q10 trivial))))))
  refine wp_region_quiet_below (by kernel_rfl) (by kernel_rfl) ?_
  repeat (go_big_quiet_step ((with_reducible exact HH.out _ _ _)))
  refine wpQuiet_nil ?_
  intro W2 hb2
  replace hb2 := eQ hb2
  clear P1 P2 P3 P4 P5 P6 P7
  have zU := uU hb2 e0 (uU hb2 e1 (uU hb2 e2 (uU hb2 e3 (uU hb2 e4 (uU hb2 e5 (uU hb2 q10 trivial)))))); clear e0 e1 e2 e3 e4 e5 q10; obtain ⟨e0, e1, e2, e3, e4, e5, q10, -⟩ := zU
  clear hlk
  replace HB := hU (bQ HB.out hb2)
  go_wp2_with fail
  go_ret
  exact ⟨rfl, HB.out⟩
end
section
variable {w : World} {F : FaN} {A1 A2 O : Option Addr} {c1 c2 co : Nat} {fl : Value} {b : CkB} {pm : Int → Option PkN} {pr : Int → Bool}
set_option maxRecDepth 100000 in
set_option maxHeartbeats 4000000 in
theorem ru_loop (c : CkS) (x kd n ar p r : Int) (hC : CkAt F A1 A2 O c1 c2 co fl b pm pr c w) (hJ : inJ p ∧ inJ ar) :
    Calls Tryz.prog 27 #[.pointer (some ⟨b.cb, 0, none⟩), .agg #[.int .i64 x, .int .i64 kd, .int .i64 n, .int .i64 ar, .int .i64 p, .int .i64 r]] w (RetRu w ((kd == 2) && (pr p && decide (2 ≤ c.cr p ar)))) := by
 obtain ⟨X, hX⟩ : ∃ X, X = w.alloc (.cells #[.int .i64 x, .int .i64 kd, .int .i64 n, .int .i64 ar, .int .i64 p, .int .i64 r] 43) := ⟨_, rfl⟩
 have hB := cQ w (.cells #[.int .i64 x, .int .i64 kd, .int .i64 n, .int .i64 ar, .int .i64 p, .int .i64 r] 43)
 have hE := Bl.new w #[.int .i64 x, .int .i64 kd, .int .i64 n, .int .i64 ar, .int .i64 p, .int .i64 r] 43
 rw [← hX] at hB hE
 have HB := hU hB
 have HC := hU (hC.up hB)
 have HJ := hU hJ
 obtain ⟨e0, e1, e2, e3, e4, e5, _⟩ := hE.c6
 have q8 := HC.out.q8
 have q19 := HC.out.q19
 have l1 : ∀ d os, (Instr.lookup 62 (.map (some b.pr)) (.int .i64 p) false).run Tryz.prog (grow (redrawn X d) os) = .ok (.bool (pr p)) (grow (redrawn X d) os) := fun d os => (HC.out.up (below_regrown _ d os)).m.pr.look key_int Tryz.underlying62 (zero_boolV _) p (keyJ HJ.out.1) (enc1_inj p)
 have l2 : ∀ d os, (Instr.lookup 67 (.map (some b.cr)) (.agg #[.int .i64 p, .int .i64 ar]) false).run Tryz.prog (grow (redrawn X d) os) = .ok (.int .i64 (c.cr p ar)) (grow (redrawn X d) os) := fun d os => (HC.out.up (below_regrown _ d os)).m.cr.look key_cross Tryz.underlying67 (zero_intV _) (p, ar) (keyOf_cross (p, ar) HJ.out.1 HJ.out.2) (enc2_inj (p, ar))
 obtain ⟨v, hv⟩ : ∃ v, v = pr p := ⟨_, rfl⟩
 obtain ⟨y, hy⟩ : ∃ y, y = c.cr p ar := ⟨_, rfl⟩
 rw [← hv] at l1 ⊢
 rw [← hy] at l2 ⊢
 clear hB hE hC hJ hv hy
 go_enter Tryz.func27, Tryz.ntmps27
 go_upto_region 1 with fail
 rw [← hX]
 clear hX
 by_cases hk : kd = 2
 ·subst hk
  cases v with
  | true =>
   obtain ⟨P1, P2, P3, P4, P5, P6, P7, P8, -⟩ := kU e0 (kU e1 (kU e2 (kU e3 (kU e4 (kU e5 (kU q8 (kU q19 trivial)))))))
   refine wp_region_quiet_below (by kernel_rfl) (by kernel_rfl) ?_
   repeat (go_big_quiet_step ((fail)))
   refine wpQuiet_nil ?_
   intro W2 hb2
   replace hb2 := eQ hb2
   clear P1 P2 P3 P4 P5 P6 P7 P8
   have zU := uU hb2 e0 (uU hb2 e1 (uU hb2 e2 (uU hb2 e3 (uU hb2 e4 (uU hb2 e5 (uU hb2 q8 (uU hb2 q19 trivial))))))); clear e0 e1 e2 e3 e4 e5 q8 q19; obtain ⟨e0, e1, e2, e3, e4, e5, q8, q19, -⟩ := zU
   replace HB := hU (bQ HB.out hb2)
   clear l1 l2
   go_wp2_with fail
   go_ret
   exact ⟨rfl, HB.out⟩
  | false =>
   obtain ⟨P1, P2, P3, P4, P5, P6, P7, P8, -⟩ := kU e0 (kU e1 (kU e2 (kU e3 (kU e4 (kU e5 (kU q8 (kU q19 trivial)))))))
   refine wp_region_quiet_below (by kernel_rfl) (by kernel_rfl) ?_
   repeat (go_big_quiet_step ((fail)))
   refine wpQuiet_nil ?_
   intro W2 hb2
   replace hb2 := eQ hb2
   clear P1 P2 P3 P4 P5 P6 P7 P8
   have zU := uU hb2 e0 (uU hb2 e1 (uU hb2 e2 (uU hb2 e3 (uU hb2 e4 (uU hb2 e5 (uU hb2 q8 (uU hb2 q19 trivial))))))); clear e0 e1 e2 e3 e4 e5 q8 q19; obtain ⟨e0, e1, e2, e3, e4, e5, q8, q19, -⟩ := zU
   replace HB := hU (bQ HB.out hb2)
   clear l1 l2
   go_wp2_with fail
   go_ret
   exact ⟨rfl, HB.out⟩
 ·have hkb : (kd == 2) = false := by simp [hk]
  clear hk
  obtain ⟨P1, P2, P3, P4, P5, P6, P7, P8, -⟩ := kU e0 (kU e1 (kU e2 (kU e3 (kU e4 (kU e5 (kU q8 (kU q19 trivial)))))))
  refine wp_region_quiet_below (by kernel_rfl) (by kernel_rfl) ?_
  repeat (go_big_quiet_step ((fail)))
  refine wpQuiet_nil ?_
  intro W2 hb2
  replace hb2 := eQ hb2
  clear P1 P2 P3 P4 P5 P6 P7 P8
  have zU := uU hb2 e0 (uU hb2 e1 (uU hb2 e2 (uU hb2 e3 (uU hb2 e4 (uU hb2 e5 (uU hb2 q8 (uU hb2 q19 trivial))))))); clear e0 e1 e2 e3 e4 e5 q8 q19; obtain ⟨e0, e1, e2, e3, e4, e5, q8, q19, -⟩ := zU
  replace HB := hU (bQ HB.out hb2)
  clear l1 l2
  go_wp2_with fail
  go_ret
  exact ⟨by rw [hkb]; rfl, HB.out⟩
end
section
variable {w : World} {F : FaN} {A1 A2 O : Option Addr} {c1 c2 co : Nat} {fl : Value} {b : CkB} {pm : Int → Option PkN} {pr : Int → Bool}
set_option maxRecDepth 100000 in
set_option maxHeartbeats 4000000 in
theorem ru_arc (c : CkS) (x kd n ar p r : Int) (hC : CkAt F A1 A2 O c1 c2 co fl b pm pr c w) (hT : TAt w A1 A2 F.t) (hl : F.t.ls.length ≤ 100000) (hJ : inJ p ∧ inJ n ∧ inJ ar) (ha : kd = 2 → 0 ≤ ar ∧ ar < 2 * (F.t.ls.length : Int)) :
    Calls Tryz.prog 19 #[.pointer (some ⟨b.cb, 0, none⟩), .agg #[.int .i64 x, .int .i64 kd, .int .i64 n, .int .i64 ar, .int .i64 p, .int .i64 r]] w (RetRu w (if kd = 2 then !(tail F.t ar == n) else lossB ⟨x, kd, n, ar, p, r⟩ && !c.fw p n ar)) := by
 obtain ⟨X, hX⟩ : ∃ X, X = w.alloc (.cells #[.int .i64 x, .int .i64 kd, .int .i64 n, .int .i64 ar, .int .i64 p, .int .i64 r] 43) := ⟨_, rfl⟩
 have hB := cQ w (.cells #[.int .i64 x, .int .i64 kd, .int .i64 n, .int .i64 ar, .int .i64 p, .int .i64 r] 43)
 have hE := Bl.new w #[.int .i64 x, .int .i64 kd, .int .i64 n, .int .i64 ar, .int .i64 p, .int .i64 r] 43
 rw [← hX] at hB hE
 have HB := hU hB
 have HC := hU (hC.up hB)
 have HT := hU (hT.below hB)
 have HJ := hU hJ
 obtain ⟨e0, e1, e2, e3, e4, e5, _⟩ := hE.c6
 have q0 := HC.out.q0
 have q1 := HC.out.q1
 have q2 := HC.out.q2
 have q18 := HC.out.q18
 by_cases hk : kd = 2
 ·subst hk
  obtain ⟨h0, h1⟩ := ha rfl
  obtain ⟨v, hv⟩ : ∃ v, v = tail F.t ar := ⟨_, rfl⟩
  have HH : Hid (∀ d os, Calls Tryz.prog 55 #[.agg #[.int .i64 F.t.n, .slice A1 F.t.ov.length c1, .slice A2 F.t.ls.length c2], .int .i64 ar] (grow (redrawn X d) os) fun e w'' => e = .returned (.int .i64 v) ∧ ∃ p : Regrown, w'' = grow (redrawn X p.d) p.os) := hU fun d os => by rw [hv]; exact Calls.regrown_of (graph_Tail _ _ _ _ F.t ar _ (HT.out.below (below_regrown X d os)).ls h0 h1 hl)
  rw [if_pos rfl, ← hv]
  clear hB hE hC hT hJ ha hv h0 h1 hl
  go_enter Tryz.func19, Tryz.ntmps19
  go_upto_region 2 with fail
  rw [← hX]
  clear hX
  obtain ⟨P1, P2, P3, P4, P5, P6, P7, P8, P9, -⟩ := kU e0 (kU e1 (kU e2 (kU e3 (kU e4 (kU e5 (kU q0 (kU q1 (kU q2 trivial))))))))
  refine wp_region_quiet_below (by kernel_rfl) (by kernel_rfl) ?_
  repeat (go_big_quiet_step ((with_reducible exact HH.out _ _)))
  refine wpQuiet_nil ?_
  intro W2 hb2
  replace hb2 := eQ hb2
  clear P1 P2 P3 P4 P5 P6 P7 P8 P9
  have zU := uU hb2 e0 (uU hb2 e1 (uU hb2 e2 (uU hb2 e3 (uU hb2 e4 (uU hb2 e5 (uU hb2 q0 (uU hb2 q1 (uU hb2 q2 trivial)))))))); clear e0 e1 e2 e3 e4 e5 q0 q1 q2; obtain ⟨e0, e1, e2, e3, e4, e5, q0, q1, q2, -⟩ := zU
  replace HB := hU (bQ HB.out hb2)
  go_wp2_with fail
  go_ret
  exact ⟨rfl, HB.out⟩
 ·have hkb : (kd == 2) = false := by simp [hk]
  rw [if_neg hk]
  have l2 : ∀ d os, (Instr.lookup 66 (.map (some b.fw)) (.agg #[.int .i64 p, .int .i64 n, .int .i64 ar]) false).run Tryz.prog (grow (redrawn X d) os) = .ok (.bool (c.fw p n ar)) (grow (redrawn X d) os) := fun d os => (HC.out.up (below_regrown _ d os)).m.fw.look key_hop Tryz.underlying66 (zero_boolV _) (p, n, ar) (keyOf_hop (p, n, ar) HJ.out.1 HJ.out.2.1 HJ.out.2.2) (enc3_inj (p, n, ar))
  obtain ⟨v, hv⟩ : ∃ v, v = lossB ⟨x, kd, n, ar, p, r⟩ := ⟨_, rfl⟩
  have HH : Hid (∀ d os, Calls Tryz.prog 56 #[.agg #[.int .i64 x, .int .i64 kd, .int .i64 n, .int .i64 ar, .int .i64 p, .int .i64 r]] (grow (redrawn X d) os) fun e w'' => e = .returned (.bool v) ∧ ∃ p : Regrown, w'' = grow (redrawn X p.d) p.os) := hU fun d os => by rw [hv]; exact Calls.regrown_of (vy_onArc (w := grow (redrawn X d) os) x kd n ar p r)
  obtain ⟨y, hy⟩ : ∃ y, y = c.fw p n ar := ⟨_, rfl⟩
  rw [← hv, ← hy]
  rw [← hy] at l2
  clear hB hE hC hT hJ ha hv hl hk hy
  go_enter Tryz.func19, Tryz.ntmps19
  go_upto_region 3 with fail
  rw [← hX]
  clear hX
  cases v with
  | true =>
   obtain ⟨P1, P2, P3, P4, P5, P6, P7, -⟩ := kU e0 (kU e1 (kU e2 (kU e3 (kU e4 (kU e5 (kU q18 trivial))))))
   refine wp_region_quiet_below (by kernel_rfl) (by kernel_rfl) ?_
   repeat (go_big_quiet_step ((with_reducible exact HH.out _ _)))
   refine wpQuiet_nil ?_
   intro W2 hb2
   replace hb2 := eQ hb2
   clear P1 P2 P3 P4 P5 P6 P7
   have zU := uU hb2 e0 (uU hb2 e1 (uU hb2 e2 (uU hb2 e3 (uU hb2 e4 (uU hb2 e5 (uU hb2 q18 trivial)))))); clear e0 e1 e2 e3 e4 e5 q18; obtain ⟨e0, e1, e2, e3, e4, e5, q18, -⟩ := zU
   replace HB := hU (bQ HB.out hb2)
   clear l2
   go_wp2_with fail
   go_ret
   exact ⟨rfl, HB.out⟩
  | false =>
   obtain ⟨P1, P2, P3, P4, P5, P6, P7, -⟩ := kU e0 (kU e1 (kU e2 (kU e3 (kU e4 (kU e5 (kU q18 trivial))))))
   refine wp_region_quiet_below (by kernel_rfl) (by kernel_rfl) ?_
   repeat (go_big_quiet_step ((with_reducible exact HH.out _ _)))
   refine wpQuiet_nil ?_
   intro W2 hb2
   replace hb2 := eQ hb2
   clear P1 P2 P3 P4 P5 P6 P7
   have zU := uU hb2 e0 (uU hb2 e1 (uU hb2 e2 (uU hb2 e3 (uU hb2 e4 (uU hb2 e5 (uU hb2 q18 trivial)))))); clear e0 e1 e2 e3 e4 e5 q18; obtain ⟨e0, e1, e2, e3, e4, e5, q18, -⟩ := zU
   replace HB := hU (bQ HB.out hb2)
   clear l2
   go_wp2_with fail
   go_ret
   exact ⟨rfl, HB.out⟩
end
section
variable {w : World} {F : FaN} {A1 A2 O : Option Addr} {c1 c2 co : Nat} {Af : Option Addr} {cf : Nat} {fail : List Bool} {b : CkB} {pm : Int → Option PkN} {pr : Int → Bool}
end
end
end Go.Proofs.YtdnjflpmbnjgeaaGreat
