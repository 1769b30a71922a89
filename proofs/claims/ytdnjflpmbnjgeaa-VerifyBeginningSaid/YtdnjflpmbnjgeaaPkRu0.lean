/-
  The rules of the check: undetected.
  The rules of the check: state.
  The rules of the check: dead (printed by gen_ru2.py).
  The rules of the check: dead, the other kinds.
  The rules of the check: loop.
-/
import Derived.Test.YtdnjflpmbnjgeaaGp
namespace Go.Proofs.Ytdnjflpmbnjgeaa
set_option linter.unusedSimpArgs false
set_option linter.unusedVariables false
open Go.RowKit Go.Sort
/-- What a rule answers. -/
def RetRu (w : World) (v : Bool) (e : Ending) (w' : World) : Prop := e = .returned (.bool v) ∧ Below w.heap.size w w'
section
variable {w : World} {F : FaN} {A1 A2 O : Option Addr} {c1 c2 co : Nat} {fl : Value} {b : CkB} {pm : Int → Option PkN} {pr : Int → Bool}
set_option maxRecDepth 100000 in
set_option maxHeartbeats 4000000 in
theorem ru_undetected (c : CkS) (e : Ev) (hC : CkAt F A1 A2 O c1 c2 co fl b pm pr c w) (hb : e.k = 2 → 0 ≤ e.a ∧ e.a < (c.up.length : Int)) :
    Calls Try.prog 16 #[.pointer (some ⟨b.cb, 0, none⟩), .agg #[.int .i64 e.t, .int .i64 e.k, .int .i64 e.n, .int .i64 e.a, .int .i64 e.p, .int .i64 e.r]] w (RetRu w ((e.k == 2) && !c.up.getD e.a.toNat false)) := by
  have HB := Lib.hid (below_box w (.cells #[.int .i64 e.t, .int .i64 e.k, .int .i64 e.n, .int .i64 e.a, .int .i64 e.p, .int .i64 e.r] 49))
  have HE := Lib.hid (Bl.new w #[.int .i64 e.t, .int .i64 e.k, .int .i64 e.n, .int .i64 e.a, .int .i64 e.p, .int .i64 e.r] 49)
  have HC := Lib.hid (hC.up HB.out)
  obtain ⟨x, kd, n, ar, p, r⟩ := e
  simp only at hb HE HB HC ⊢
  obtain ⟨e0, e1, e2, e3, e4, e5, _⟩ := HE.out.c6
  have q14 := HC.out.q14
  by_cases hk : kd = 2
  · subst hk
    obtain ⟨h0, h1⟩ := hb rfl
    have hr := HC.out.m.up.cell h0 h1
    obtain ⟨v, hv⟩ : ∃ v, v = c.up.getD ar.toNat false := ⟨_, rfl⟩
    rw [← hv] at hr ⊢
    clear hC hb hv
    go_enter Try.func16, Try.ntmps16
    go_upto_region 1 with fail
    have kq_e0 := cell_regrown e0
    have kq_e1 := cell_regrown e1
    have kq_e2 := cell_regrown e2
    have kq_e3 := cell_regrown e3
    have kq_e4 := cell_regrown e4
    have kq_e5 := cell_regrown e5
    have kq_q14 := cell_regrown q14
    have kq_hr := cell_regrown hr
    refine wp_region_quiet_below (by kernel_rfl) (by kernel_rfl) ?_
    repeat (go_big_quiet_step ((fail)))
    refine wpQuiet_nil ?_
    intro W2 hb2
    replace hb2 := below_of_regrown hb2
    clear kq_e0 kq_e1 kq_e2 kq_e3 kq_e4 kq_e5 kq_q14 kq_hr
    replace e0 := cell_up hb2 e0
    replace e1 := cell_up hb2 e1
    replace e2 := cell_up hb2 e2
    replace e3 := cell_up hb2 e3
    replace e4 := cell_up hb2 e4
    replace e5 := cell_up hb2 e5
    replace q14 := cell_up hb2 q14
    replace hr := cell_up hb2 hr
    replace HB := Lib.hid (below_next HB.out hb2)
    go_wp2_with fail
    go_ret
    exact ⟨by cases v <;> rfl, HB.out⟩
  · have hkb : (kd == 2) = false := by simp [hk]
    rw [hkb]
    clear hC hb hk
    go_enter Try.func16, Try.ntmps16
    go_upto_region 1 with fail
    have kq_e0 := cell_regrown e0
    have kq_e1 := cell_regrown e1
    have kq_e2 := cell_regrown e2
    have kq_e3 := cell_regrown e3
    have kq_e4 := cell_regrown e4
    have kq_e5 := cell_regrown e5
    have kq_q14 := cell_regrown q14
    refine wp_region_quiet_below (by kernel_rfl) (by kernel_rfl) ?_
    repeat (go_big_quiet_step ((fail)))
    refine wpQuiet_nil ?_
    intro W2 hb2
    replace hb2 := below_of_regrown hb2
    clear kq_e0 kq_e1 kq_e2 kq_e3 kq_e4 kq_e5 kq_q14
    replace e0 := cell_up hb2 e0
    replace e1 := cell_up hb2 e1
    replace e2 := cell_up hb2 e2
    replace e3 := cell_up hb2 e3
    replace e4 := cell_up hb2 e4
    replace e5 := cell_up hb2 e5
    replace q14 := cell_up hb2 q14
    replace HB := Lib.hid (below_next HB.out hb2)
    go_wp2_with fail
    go_ret
    exact ⟨rfl, HB.out⟩
end
end Go.Proofs.Ytdnjflpmbnjgeaa
namespace Go.Proofs.Ytdnjflpmbnjgeaa
set_option linter.unusedSimpArgs false
set_option linter.unusedVariables false
open Go.RowKit Go.Sort
section
variable {w : World} {F : FaN} {A1 A2 O : Option Addr} {c1 c2 co : Nat} {fl : Value} {b : CkB} {pm : Int → Option PkN} {pr : Int → Bool}
set_option maxRecDepth 100000 in
set_option maxHeartbeats 4000000 in
theorem ru_state (c : CkS) (e : Ev) (hC : CkAt F A1 A2 O c1 c2 co fl b pm pr c w) (hb : e.k = 8 → 0 ≤ e.n ∧ e.n < (c.st.length : Int)) :
    Calls Try.prog 17 #[.pointer (some ⟨b.cb, 0, none⟩), .agg #[.int .i64 e.t, .int .i64 e.k, .int .i64 e.n, .int .i64 e.a, .int .i64 e.p, .int .i64 e.r]] w (RetRu w (stateV c e)) := by
  have HB := Lib.hid (below_box w (.cells #[.int .i64 e.t, .int .i64 e.k, .int .i64 e.n, .int .i64 e.a, .int .i64 e.p, .int .i64 e.r] 49))
  have HE := Lib.hid (Bl.new w #[.int .i64 e.t, .int .i64 e.k, .int .i64 e.n, .int .i64 e.a, .int .i64 e.p, .int .i64 e.r] 49)
  have HC := Lib.hid (hC.up HB.out)
  obtain ⟨x, kd, n, ar, p, r⟩ := e
  simp only at hb HE HB HC ⊢
  obtain ⟨e0, e1, e2, e3, e4, e5, _⟩ := HE.out.c6
  have q11 := HC.out.q11
  by_cases hk : kd = 8
  · subst hk
    obtain ⟨h0, h1⟩ := hb rfl
    have hr := HC.out.m.st.cell h0 h1
    obtain ⟨v, hv⟩ : ∃ v, v = getI c.st n := ⟨_, rfl⟩
    have HV : Hid (stateV c ⟨x, 8, n, ar, p, r⟩ = if r = 2 then !earlyB v else if r = 3 then !(v == 2) else v == r) := Lib.hid (by rw [hv]; simp [stateV])
    rw [← hv] at hr
    clear hC hb hv
    go_enter Try.func17, Try.ntmps17
    go_upto_region 3 with fail
    have kq_e0 := cell_regrown e0
    have kq_e1 := cell_regrown e1
    have kq_e2 := cell_regrown e2
    have kq_e3 := cell_regrown e3
    have kq_e4 := cell_regrown e4
    have kq_e5 := cell_regrown e5
    have kq_q11 := cell_regrown q11
    have kq_hr := cell_regrown hr
    refine wp_region_quiet_below (by kernel_rfl) (by kernel_rfl) ?_
    repeat (go_big_quiet_step ((fail)))
    refine wpQuiet_nil ?_
    intro W2 hb2
    replace hb2 := below_of_regrown hb2
    clear kq_e0 kq_e1 kq_e2 kq_e3 kq_e4 kq_e5 kq_q11 kq_hr
    replace e0 := cell_up hb2 e0
    replace e1 := cell_up hb2 e1
    replace e2 := cell_up hb2 e2
    replace e3 := cell_up hb2 e3
    replace e4 := cell_up hb2 e4
    replace e5 := cell_up hb2 e5
    replace q11 := cell_up hb2 q11
    replace hr := cell_up hb2 hr
    replace HB := Lib.hid (below_next HB.out hb2)
    by_cases r2 : r = 2
    · subst r2
      go_wp2_with (go_at_call 40; (with_reducible refine (vy_early _).mono ?_); rintro e w3 ⟨rfl, hb3⟩; replace HB := Lib.hid (below_next HB.out hb3))
      go_ret
      exact ⟨by rw [HV.out]; rfl, HB.out⟩
    · have r2b : (r == 2) = false := by simp [r2]
      by_cases r3 : r = 3
      · subst r3
        go_wp2_with fail
        go_ret
        exact ⟨by rw [HV.out]; rfl, HB.out⟩
      · have r3b : (r == 3) = false := by simp [r3]
        have HV2 : Hid (stateV c ⟨x, 8, n, ar, p, r⟩ = (v == r)) := Lib.hid (by rw [HV.out, if_neg r2, if_neg r3])
        clear r2 r3
        go_wp2_with fail
        go_ret
        exact ⟨by rw [HV2.out]; rfl, HB.out⟩
  · have hkb : (kd != 8) = true := by simp [hk]
    have HV : Hid (stateV c ⟨x, kd, n, ar, p, r⟩ = false) := Lib.hid (by simp [stateV, hk])
    clear hC hb hk
    go_enter Try.func17, Try.ntmps17
    go_wp2_with fail
    go_ret
    exact ⟨by rw [HV.out]; rfl, HB.out⟩
end
end Go.Proofs.Ytdnjflpmbnjgeaa
namespace Go.Proofs.Ytdnjflpmbnjgeaa
set_option linter.unusedSimpArgs false
set_option linter.unusedVariables false
open Go.RowKit Go.Sort
def ru6D : Nat → Nat
  | 0 => 12
  | 1 => 13
  | 2 => 14
  | 3 => 15
  | 4 => 16
  | 5 => 17
  | 6 => 18
  | 7 => 4
  | _ => 0
theorem ru6D_lt : ∀ i, i < 8 → ru6D i < 19 := by decide +kernel
theorem ru6D_inj : ∀ i, i < 8 → ∀ j, j < 8 → ru6D i = ru6D j → i = j := by decide +kernel
def ru6V (cb mb eb : Nat) (n : Int) (v : Bool) : Nat → Nat → Value
  | 0, _ => .pointer (some ⟨cb, 0, none⟩)
  | 1, _ => .pointer (some ⟨cb, 0, none⟩)
  | 2, _ => .pointer (some ⟨cb, 10, none⟩)
  | 3, _ => .map (some mb)
  | 4, _ => .pointer (some ⟨eb, 2, none⟩)
  | 5, _ => .int .i64 n
  | 6, _ => .bool v
  | 7, _ => .bool v
  | _, _ => undef
theorem ru6_put (cb mb eb : Nat) (n : Int) (v : Bool) (xs : Nat → Nat) (T : Array Value) : putAll ru6D (fun i => ru6V cb mb eb n v i (xs i)) 8 T = ((((((((T.setIfInBounds 12 (.pointer (some ⟨cb, 0, none⟩))).setIfInBounds 13 (.pointer (some ⟨cb, 0, none⟩))).setIfInBounds 14 (.pointer (some ⟨cb, 10, none⟩))).setIfInBounds 15 (.map (some mb))).setIfInBounds 16 (.pointer (some ⟨eb, 2, none⟩))).setIfInBounds 17 (.int .i64 n)).setIfInBounds 18 (.bool v)).setIfInBounds 4 (.bool v)) := rfl
section
variable {w : World} {F : FaN} {A1 A2 O : Option Addr} {c1 c2 co : Nat} {fl : Value} {b : CkB} {pm : Int → Option PkN} {pr : Int → Bool}
set_option maxRecDepth 100000 in
set_option maxHeartbeats 4000000 in
theorem ru_dead1 (c : CkS) (x kd n ar p r : Int) (hC : CkAt F A1 A2 O c1 c2 co fl b pm pr c w) (hJ : inJ n) (hk : kd = 1 ∨ kd = 7 ∨ kd = 8 ∨ kd = 9) :
    Calls Try.prog 20 #[.pointer (some ⟨b.cb, 0, none⟩), .agg #[.int .i64 x, .int .i64 kd, .int .i64 n, .int .i64 ar, .int .i64 p, .int .i64 r]] w (RetRu w (c.dn n)) := by
  have HB := Lib.hid (below_box w (.cells #[.int .i64 x, .int .i64 kd, .int .i64 n, .int .i64 ar, .int .i64 p, .int .i64 r] 49))
  have HE := Lib.hid (Bl.new w #[.int .i64 x, .int .i64 kd, .int .i64 n, .int .i64 ar, .int .i64 p, .int .i64 r] 49)
  have HC := Lib.hid (hC.up HB.out)
  have HJ := Lib.hid hJ
  obtain ⟨e0, e1, e2, e3, e4, e5, _⟩ := HE.out.c6
  have q10 := HC.out.q10
  clear hC hJ
  rcases hk with rfl | rfl | rfl | rfl
  all_goals
    go_enter Try.func20, Try.ntmps20
    go_upto_region 6 with fail
    refine wp_region_all 8 [0, 1, 2, 3, 4, 5, 6, 7] ru6D (fun _ => none) (ru6V b.cb b.dn w.heap.size n (c.dn n)) (by kernel_rfl) rfl (by kernel_rfl) (fun i j hi hj h => ru6D_inj i hi j hj h) (fun i hi => by have := ru6D_lt i hi; simp; omega) ?_ ?_
    · intro L ac W xq i hi hst hr
      have HXC := Lib.hid ((HC.out.up (below_drwV _)).up hst.below)
      have HXE := Lib.hid ((HE.out.up (below_drwV _)).up hst.below)
      obtain ⟨e0, e1, e2, e3, e4, e5, _⟩ := HXE.out.c6
      have q10 := HXC.out.q10
      have hlk := HXC.out.m.dn.look key_int Try.underlying57 (zero_boolV _) n (keyJ HJ.out) (enc1_inj n)
      simp only [enc1] at hlk
      match i, hi, hr with
      | 0, _, hr =>
        intro K hK
        have t0 : ac.tmps.getD 0 undef = .pointer (some ⟨b.cb, 0, none⟩) := (hst.old 0 (by decide +kernel)).trans rfl
        clear hst hr
        refine wpOp_at _ rfl rfl ?_
        go_simp
        exact hK _ (Below.refl _ _)
      | 1, _, hr =>
        intro K hK
        have t12 : ac.tmps.getD 12 undef = .pointer (some ⟨b.cb, 0, none⟩) := hst.val 0 (by omega) (ready_dep hr (e := ⟨0, .data⟩) rfl (by simp) rfl)
        clear hst hr
        refine wpOp_at _ rfl rfl ?_
        go_simp
        exact hK _ (Below.refl _ _)
      | 2, _, hr =>
        intro K hK
        have t13 : ac.tmps.getD 13 undef = .pointer (some ⟨b.cb, 0, none⟩) := hst.val 1 (by omega) (ready_dep hr (e := ⟨1, .data⟩) rfl (by simp) rfl)
        clear hst hr
        refine wpOp_at _ rfl rfl ?_
        go_simp
        exact hK _ (Below.refl _ _)
      | 3, _, hr =>
        intro K hK
        have t14 : ac.tmps.getD 14 undef = .pointer (some ⟨b.cb, 10, none⟩) := hst.val 2 (by omega) (ready_dep hr (e := ⟨2, .data⟩) rfl (by simp) rfl)
        clear hst hr
        refine wpOp_at _ rfl rfl ?_
        go_simp
        exact hK _ (Below.refl _ _)
      | 4, _, hr =>
        intro K hK
        have t3 : ac.tmps.getD 3 undef = .pointer (some ⟨w.heap.size, 0, none⟩) := (hst.old 3 (by decide +kernel)).trans rfl
        clear hst hr
        refine wpOp_at _ rfl rfl ?_
        go_simp
        exact hK _ (Below.refl _ _)
      | 5, _, hr =>
        intro K hK
        have t16 : ac.tmps.getD 16 undef = .pointer (some ⟨w.heap.size, 2, none⟩) := hst.val 4 (by omega) (ready_dep hr (e := ⟨4, .data⟩) rfl (by simp) rfl)
        clear hst hr
        refine wpOp_at _ rfl rfl ?_
        go_simp
        exact hK _ (Below.refl _ _)
      | 6, _, hr =>
        intro K hK
        have t15 : ac.tmps.getD 15 undef = .map (some b.dn) := hst.val 3 (by omega) (ready_dep hr (e := ⟨3, .data⟩) rfl (by simp) rfl)
        have t17 : ac.tmps.getD 17 undef = .int .i64 n := hst.val 5 (by omega) (ready_dep hr (e := ⟨5, .data⟩) rfl (by simp) rfl)
        clear hst hr
        refine wpOp_at _ rfl rfl ?_
        go_simp
        exact hK _ (Below.refl _ _)
      | 7, _, hr =>
        intro K hK
        have t18 : ac.tmps.getD 18 undef = .bool (c.dn n) := hst.val 6 (by omega) (ready_dep hr (e := ⟨6, .data⟩) rfl (by simp) rfl)
        clear hst hr
        refine wpOp_at _ rfl rfl ?_
        go_simp
        exact hK _ (Below.refl _ _)
      | m + 8, hi, _ => exact absurd hi (by omega)
    · intro W xs hbl hblk hinj
      have HV : Hid (Below w.heap.size w W) := Lib.hid (below_next (below_next HB.out (below_drwV _)) hbl)
      simp only [ru6_put, List.setIfInBounds_toArray, List.set_cons_zero, List.set_cons_succ]
      clear hbl hblk hinj
      go_wp2_with fail
      go_ret
      exact ⟨rfl, HV.out⟩
end
end Go.Proofs.Ytdnjflpmbnjgeaa
namespace Go.Proofs.Ytdnjflpmbnjgeaa
set_option linter.unusedSimpArgs false
set_option linter.unusedVariables false
open Go.RowKit Go.Sort
section
variable {w : World} {F : FaN} {A1 A2 O : Option Addr} {c1 c2 co : Nat} {fl : Value} {b : CkB} {pm : Int → Option PkN} {pr : Int → Bool}
set_option maxRecDepth 100000 in
set_option maxHeartbeats 4000000 in
theorem ru_dead2 (c : CkS) (x kd n ar p r : Int) (hC : CkAt F A1 A2 O c1 c2 co fl b pm pr c w) (hJ : inJ n) (k1 : (kd == 1) = false) (k7 : (kd == 7) = false) (k8 : (kd == 8) = false) (k9 : (kd == 9) = false) :
    Calls Try.prog 20 #[.pointer (some ⟨b.cb, 0, none⟩), .agg #[.int .i64 x, .int .i64 kd, .int .i64 n, .int .i64 ar, .int .i64 p, .int .i64 r]] w (RetRu w (handB ⟨x, kd, n, ar, p, r⟩ && c.dn n)) := by
  have HB := Lib.hid (below_box w (.cells #[.int .i64 x, .int .i64 kd, .int .i64 n, .int .i64 ar, .int .i64 p, .int .i64 r] 49))
  have HE := Lib.hid (Bl.new w #[.int .i64 x, .int .i64 kd, .int .i64 n, .int .i64 ar, .int .i64 p, .int .i64 r] 49)
  have HC := Lib.hid (hC.up HB.out)
  have HJ := Lib.hid hJ
  obtain ⟨e0, e1, e2, e3, e4, e5, _⟩ := HE.out.c6
  have q10 := HC.out.q10
  clear hC hJ
  cases hh : handB ⟨x, kd, n, ar, p, r⟩ with
  | false =>
    have HH : Hid (∀ W d os, Calls Try.prog 37 #[.agg #[.int .i64 x, .int .i64 kd, .int .i64 n, .int .i64 ar, .int .i64 p, .int .i64 r]] (grow (redrawn W d) os) fun e w'' => e = .returned (.bool false) ∧ ∃ p : Regrown, w'' = grow (redrawn W p.d) p.os) := Lib.hid fun W d os => Calls.regrown_of (by have := vy_handling (w := grow (redrawn W d) os) x kd n ar p r; rw [hh] at this; exact this)
    clear hh
    go_enter Try.func20, Try.ntmps20
    go_upto_region 7 with fail
    have kq_e0 := cell_regrown e0
    have kq_e1 := cell_regrown e1
    have kq_e2 := cell_regrown e2
    have kq_e3 := cell_regrown e3
    have kq_e4 := cell_regrown e4
    have kq_e5 := cell_regrown e5
    have kq_q10 := cell_regrown q10
    refine wp_region_quiet_below (by kernel_rfl) (by kernel_rfl) ?_
    repeat (go_big_quiet_step ((with_reducible exact HH.out _ _ _)))
    refine wpQuiet_nil ?_
    intro W2 hb2
    replace hb2 := below_of_regrown hb2
    clear kq_e0 kq_e1 kq_e2 kq_e3 kq_e4 kq_e5 kq_q10
    replace e0 := cell_up hb2 e0
    replace e1 := cell_up hb2 e1
    replace e2 := cell_up hb2 e2
    replace e3 := cell_up hb2 e3
    replace e4 := cell_up hb2 e4
    replace e5 := cell_up hb2 e5
    replace q10 := cell_up hb2 q10
    replace HB := Lib.hid (below_next HB.out hb2)
    go_wp2_with fail
    go_ret
    exact ⟨rfl, HB.out⟩
  | true =>
    have HH : Hid (∀ W d os, Calls Try.prog 37 #[.agg #[.int .i64 x, .int .i64 kd, .int .i64 n, .int .i64 ar, .int .i64 p, .int .i64 r]] (grow (redrawn W d) os) fun e w'' => e = .returned (.bool true) ∧ ∃ p : Regrown, w'' = grow (redrawn W p.d) p.os) := Lib.hid fun W d os => Calls.regrown_of (by have := vy_handling (w := grow (redrawn W d) os) x kd n ar p r; rw [hh] at this; exact this)
    clear hh
    go_enter Try.func20, Try.ntmps20
    go_upto_region 7 with fail
    have hlk : ∀ d os, (Instr.lookup 57 (.map (some b.dn)) (.int .i64 n) false).run Try.prog (grow (redrawn (w.alloc (.cells #[.int .i64 x, .int .i64 kd, .int .i64 n, .int .i64 ar, .int .i64 p, .int .i64 r] 49)) d) os) = .ok (.bool (c.dn n)) (grow (redrawn (w.alloc (.cells #[.int .i64 x, .int .i64 kd, .int .i64 n, .int .i64 ar, .int .i64 p, .int .i64 r] 49)) d) os) := fun d os => (HC.out.up (below_regrown _ d os)).m.dn.look key_int Try.underlying57 (zero_boolV _) n (keyJ HJ.out) (enc1_inj n)
    have kq_e0 := cell_regrown e0
    have kq_e1 := cell_regrown e1
    have kq_e2 := cell_regrown e2
    have kq_e3 := cell_regrown e3
    have kq_e4 := cell_regrown e4
    have kq_e5 := cell_regrown e5
    have kq_q10 := cell_regrown q10
    refine wp_region_quiet_below (by kernel_rfl) (by kernel_rfl) ?_
    repeat (go_big_quiet_step ((with_reducible exact HH.out _ _ _)))
    refine wpQuiet_nil ?_
    intro W2 hb2
    replace hb2 := below_of_regrown hb2
    clear kq_e0 kq_e1 kq_e2 kq_e3 kq_e4 kq_e5 kq_q10
    replace e0 := cell_up hb2 e0
    replace e1 := cell_up hb2 e1
    replace e2 := cell_up hb2 e2
    replace e3 := cell_up hb2 e3
    replace e4 := cell_up hb2 e4
    replace e5 := cell_up hb2 e5
    replace q10 := cell_up hb2 q10
    clear hlk
    replace HB := Lib.hid (below_next HB.out hb2)
    go_wp2_with fail
    go_ret
    exact ⟨rfl, HB.out⟩
end
end Go.Proofs.Ytdnjflpmbnjgeaa
namespace Go.Proofs.Ytdnjflpmbnjgeaa
set_option linter.unusedSimpArgs false
set_option linter.unusedVariables false
open Go.RowKit Go.Sort
section
variable {w : World} {F : FaN} {A1 A2 O : Option Addr} {c1 c2 co : Nat} {fl : Value} {b : CkB} {pm : Int → Option PkN} {pr : Int → Bool}
set_option maxRecDepth 100000 in
set_option maxHeartbeats 4000000 in
theorem ru_loop (c : CkS) (x kd n ar p r : Int) (hC : CkAt F A1 A2 O c1 c2 co fl b pm pr c w) (hJ : inJ p ∧ inJ ar) :
    Calls Try.prog 22 #[.pointer (some ⟨b.cb, 0, none⟩), .agg #[.int .i64 x, .int .i64 kd, .int .i64 n, .int .i64 ar, .int .i64 p, .int .i64 r]] w (RetRu w ((kd == 2) && (pr p && decide (2 ≤ c.cr p ar)))) := by
  obtain ⟨X, hX⟩ : ∃ X, X = w.alloc (.cells #[.int .i64 x, .int .i64 kd, .int .i64 n, .int .i64 ar, .int .i64 p, .int .i64 r] 49) := ⟨_, rfl⟩
  have hB := below_box w (.cells #[.int .i64 x, .int .i64 kd, .int .i64 n, .int .i64 ar, .int .i64 p, .int .i64 r] 49)
  have hE := Bl.new w #[.int .i64 x, .int .i64 kd, .int .i64 n, .int .i64 ar, .int .i64 p, .int .i64 r] 49
  rw [← hX] at hB hE
  have HB := Lib.hid hB
  have HC := Lib.hid (hC.up hB)
  have HJ := Lib.hid hJ
  obtain ⟨e0, e1, e2, e3, e4, e5, _⟩ := hE.c6
  have q8 := HC.out.q8
  have q19 := HC.out.q19
  have l1 : ∀ d os, (Instr.lookup 57 (.map (some b.pr)) (.int .i64 p) false).run Try.prog (grow (redrawn X d) os) = .ok (.bool (pr p)) (grow (redrawn X d) os) := fun d os => (HC.out.up (below_regrown _ d os)).m.pr.look key_int Try.underlying57 (zero_boolV _) p (keyJ HJ.out.1) (enc1_inj p)
  have l2 : ∀ d os, (Instr.lookup 62 (.map (some b.cr)) (.agg #[.int .i64 p, .int .i64 ar]) false).run Try.prog (grow (redrawn X d) os) = .ok (.int .i64 (c.cr p ar)) (grow (redrawn X d) os) := fun d os => (HC.out.up (below_regrown _ d os)).m.cr.look key_cross Try.underlying62 (zero_intV _) (p, ar) (keyOf_cross (p, ar) HJ.out.1 HJ.out.2) (enc2_inj (p, ar))
  obtain ⟨v, hv⟩ : ∃ v, v = pr p := ⟨_, rfl⟩
  obtain ⟨y, hy⟩ : ∃ y, y = c.cr p ar := ⟨_, rfl⟩
  rw [← hv] at l1 ⊢
  rw [← hy] at l2 ⊢
  clear hB hE hC hJ hv hy
  go_enter Try.func22, Try.ntmps22
  go_upto_region 1 with fail
  rw [← hX]
  clear hX
  by_cases hk : kd = 2
  · subst hk
    cases v with
    | true =>
      have kq_e0 := cell_regrown e0
      have kq_e1 := cell_regrown e1
      have kq_e2 := cell_regrown e2
      have kq_e3 := cell_regrown e3
      have kq_e4 := cell_regrown e4
      have kq_e5 := cell_regrown e5
      have kq_q8 := cell_regrown q8
      have kq_q19 := cell_regrown q19
      refine wp_region_quiet_below (by kernel_rfl) (by kernel_rfl) ?_
      repeat (go_big_quiet_step ((fail)))
      refine wpQuiet_nil ?_
      intro W2 hb2
      replace hb2 := below_of_regrown hb2
      clear kq_e0 kq_e1 kq_e2 kq_e3 kq_e4 kq_e5 kq_q8 kq_q19
      replace e0 := cell_up hb2 e0
      replace e1 := cell_up hb2 e1
      replace e2 := cell_up hb2 e2
      replace e3 := cell_up hb2 e3
      replace e4 := cell_up hb2 e4
      replace e5 := cell_up hb2 e5
      replace q8 := cell_up hb2 q8
      replace q19 := cell_up hb2 q19
      replace HB := Lib.hid (below_next HB.out hb2)
      clear l1 l2
      go_wp2_with fail
      go_ret
      exact ⟨rfl, HB.out⟩
    | false =>
      have kq_e0 := cell_regrown e0
      have kq_e1 := cell_regrown e1
      have kq_e2 := cell_regrown e2
      have kq_e3 := cell_regrown e3
      have kq_e4 := cell_regrown e4
      have kq_e5 := cell_regrown e5
      have kq_q8 := cell_regrown q8
      have kq_q19 := cell_regrown q19
      refine wp_region_quiet_below (by kernel_rfl) (by kernel_rfl) ?_
      repeat (go_big_quiet_step ((fail)))
      refine wpQuiet_nil ?_
      intro W2 hb2
      replace hb2 := below_of_regrown hb2
      clear kq_e0 kq_e1 kq_e2 kq_e3 kq_e4 kq_e5 kq_q8 kq_q19
      replace e0 := cell_up hb2 e0
      replace e1 := cell_up hb2 e1
      replace e2 := cell_up hb2 e2
      replace e3 := cell_up hb2 e3
      replace e4 := cell_up hb2 e4
      replace e5 := cell_up hb2 e5
      replace q8 := cell_up hb2 q8
      replace q19 := cell_up hb2 q19
      replace HB := Lib.hid (below_next HB.out hb2)
      clear l1 l2
      go_wp2_with fail
      go_ret
      exact ⟨rfl, HB.out⟩
  · have hkb : (kd == 2) = false := by simp [hk]
    clear hk
    have kq_e0 := cell_regrown e0
    have kq_e1 := cell_regrown e1
    have kq_e2 := cell_regrown e2
    have kq_e3 := cell_regrown e3
    have kq_e4 := cell_regrown e4
    have kq_e5 := cell_regrown e5
    have kq_q8 := cell_regrown q8
    have kq_q19 := cell_regrown q19
    refine wp_region_quiet_below (by kernel_rfl) (by kernel_rfl) ?_
    repeat (go_big_quiet_step ((fail)))
    refine wpQuiet_nil ?_
    intro W2 hb2
    replace hb2 := below_of_regrown hb2
    clear kq_e0 kq_e1 kq_e2 kq_e3 kq_e4 kq_e5 kq_q8 kq_q19
    replace e0 := cell_up hb2 e0
    replace e1 := cell_up hb2 e1
    replace e2 := cell_up hb2 e2
    replace e3 := cell_up hb2 e3
    replace e4 := cell_up hb2 e4
    replace e5 := cell_up hb2 e5
    replace q8 := cell_up hb2 q8
    replace q19 := cell_up hb2 q19
    replace HB := Lib.hid (below_next HB.out hb2)
    clear l1 l2
    go_wp2_with fail
    go_ret
    exact ⟨by rw [hkb]; rfl, HB.out⟩
end
end Go.Proofs.Ytdnjflpmbnjgeaa
