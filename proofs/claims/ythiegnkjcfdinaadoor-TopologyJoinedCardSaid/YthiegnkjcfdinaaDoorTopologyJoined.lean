/-
  TopologyJoined: for every topology, node, list of arcs and cut the law returns true. The card TopologyJoinedCardSaid; no condition beyond the given row's.
-/
import Derived.Test.YthiegnkjcfdinaaDoorAwake09
import Derived.Test.YthiegnkjcfdinaaDoorJoined
import Derived.Test.YthiegnkjcfdinaaDoorOpen
import Derived.Test.YthiegnkjcfdinaaDoorCards
import Derived.Test.YthiegnkjcfdinaaDoorTie
import Derived.WalkKit
import Derived.ProofKit
import Derived.OpenShut
import Derived.ChangeOld
import Derived.Deep.DeepHandedRow
import Derived.Lib.LaidTab
import Derived.MakeChecks
import Derived.Lib.LaidU8
namespace Go.Proofs.YthiegnkjcfdinaaDoor.topologyJoined
open Go.ChangeShapes Go.WideShapes Go.ChangeAt Go.RowKit Go.Sort
set_option linter.unusedVariables false

set_option maxHeartbeats 4000000 in
set_option maxRecDepth 100000 in
theorem walk (t : Topo) (A1 A2 : Option Addr) (c1 c2 : Nat) (n : Int) (A3 : Option Addr) (c3 : Nat) (xs : List Int) (q : Int) (w : World) (hT : TAt w A1 A2 t) (hn : I64 t.n) (ho : t.ov.length ≤ maxLen) (hl : t.ls.length ≤ maxLen) (hb : ∀ l ∈ t.ls, LnkIn l)
    (hx : -9223372036854775808 ≤ n ∧ n ≤ 9223372036854775807) (hlc : xs.length ≤ c3) (hcm : c3 ≤ maxLen) (hxs : ∀ x ∈ xs, -9223372036854775808 ≤ x ∧ x ≤ 9223372036854775807) (hA : Rd w A3 (xs.map (Value.int .i64))) (hq : 0 ≤ q ∧ q ≤ 255) (ht : Tab w.heap.size w) :
    Calls Tryd.prog 4 #[.agg #[.int .i64 t.n, .slice A1 t.ov.length c1, .slice A2 t.ls.length c2], .int .i64 n, .slice A3 xs.length c3, .int .u8 q] w fun e w' => e = .returned (.bool true) ∧ Below w.heap.size w w' := by
  clear hn ho hl hb hx hxs
  obtain ⟨hq0, hq1⟩ := hq
  have HA := Lib.hid hA; clear hA
  have hb0 := below_box w (.cells #[.int .i64 t.n, .slice A1 t.ov.length c1, .slice A2 t.ls.length c2] 25)
  have HT := hT.below hb0
  have HB := hb0
  have b0 := box0 w (.int .i64 t.n) (.slice A1 t.ov.length c1) (.slice A2 t.ls.length c2) 25
  have b1 := box1 w (.int .i64 t.n) (.slice A1 t.ov.length c1) (.slice A2 t.ls.length c2) 25
  have b2 := box2 w (.int .i64 t.n) (.slice A1 t.ov.length c1) (.slice A2 t.ls.length c2) 25
  clear hb0 hT
  have HT0 := Lib.hid ht; clear ht
  cases hg : big t with
  | true =>
    go_enter Tryd.func4, Tryd.ntmps4
    go_wp2_with (first | (go_at_call 8; refine (law09_awake _ (tab_up HT0.out HB HB.size)).mono ?_; rintro e w1 ⟨rfl, hb⟩; replace HT := HT.below hb; replace b0 := cell_up hb b0; replace b1 := cell_up hb b1; replace b2 := cell_up hb b2; replace HB := below_next HB hb; clear hb) | (go_at_call 9; refine (law09_large _ _ _ t _ _ _).mono ?_; rintro e w1 ⟨rfl, hb⟩; replace HT := HT.below hb; replace b0 := cell_up hb b0; replace b1 := cell_up hb b1; replace b2 := cell_up hb b2; replace HB := below_next HB hb; clear hb))
    go_ret
    exact ⟨rfl, HB⟩
  | false =>
    cases hm : decide (300 < (xs.length : Int)) with
    | true =>
      go_enter Tryd.func4, Tryd.ntmps4
      go_wp2_with (first | (go_at_call 8; refine (law09_awake _ (tab_up HT0.out HB HB.size)).mono ?_; rintro e w1 ⟨rfl, hb⟩; replace HT := HT.below hb; replace b0 := cell_up hb b0; replace b1 := cell_up hb b1; replace b2 := cell_up hb b2; replace HB := below_next HB hb; clear hb) | (go_at_call 9; refine (law09_large _ _ _ t _ _ _).mono ?_; rintro e w1 ⟨rfl, hb⟩; replace HT := HT.below hb; replace b0 := cell_up hb b0; replace b1 := cell_up hb b1; replace b2 := cell_up hb b2; replace HB := below_next HB hb; clear hb))
      go_ret
      exact ⟨rfl, HB⟩
    | false =>
      cases hv : valid t with
      | false =>
        go_enter Tryd.func4, Tryd.ntmps4
        go_wp2_with (first | (go_at_call 8; refine (law09_awake _ (tab_up HT0.out HB HB.size)).mono ?_; rintro e w1 ⟨rfl, hb⟩; replace HT := HT.below hb; replace b0 := cell_up hb b0; replace b1 := cell_up hb b1; replace b2 := cell_up hb b2; replace HB := below_next HB hb; clear hb) | (go_at_call 9; refine (law09_large _ _ _ t _ _ _).mono ?_; rintro e w1 ⟨rfl, hb⟩; replace HT := HT.below hb; replace b0 := cell_up hb b0; replace b1 := cell_up hb b1; replace b2 := cell_up hb b2; replace HB := below_next HB hb; clear hb) | (go_at_call 12; refine (ref09_Valid t _ _ _ _ _ HT.ls).mono ?_; rintro e w1 ⟨rfl, hb⟩; replace HT := HT.below hb; replace b0 := cell_up hb b0; replace b1 := cell_up hb b1; replace b2 := cell_up hb b2; replace HB := below_next HB hb; clear hb))
        go_ret
        exact ⟨rfl, HB⟩
      | true =>
        have HV := Lib.hid hv
        have hm' : xs.length ≤ 300 := by have := of_decide_eq_false hm; omega
        have hl' : t.ls.length ≤ 100000 := by have := big_false hg; omega
        obtain ⟨k, hk⟩ : ∃ k : Nat, q % ((xs.length : Int) + 1) = (k : Int) := ⟨(q % ((xs.length : Int) + 1)).toNat, by have := Int.emod_nonneg q (show ((xs.length : Int) + 1) ≠ 0 by omega); omega⟩
        have hkl : k ≤ xs.length := by have := Int.emod_lt_of_pos q (show (0 : Int) < (xs.length : Int) + 1 by omega); omega
        have hcm' : c3 ≤ 9223372036854775807 := hcm
        clear hcm
        obtain ⟨⟨r0, r1, r2⟩, hR⟩ : ∃ R, R = path t n xs := ⟨_, rfl⟩
        obtain ⟨⟨s0, s1, s2⟩, hS⟩ : ∃ S, S = path t n (xs.take k) := ⟨_, rfl⟩
        obtain ⟨⟨u0, u1, u2⟩, hU⟩ : ∃ U, U = path t s0 (xs.drop k) := ⟨_, rfl⟩
        have HR := Lib.hid hR
        have HS := Lib.hid hS
        have HU := Lib.hid hU
        have j1 := @joined_err t hv n xs k
        have j2 := @joined_ok t hv n xs k
        rw [← hS, ← hR] at j1 j2
        simp only at j1 j2
        rw [← hU] at j2
        simp only at j2
        have J1 := Lib.hid j1
        have J2 := Lib.hid j2
        clear hR hS hU j1 j2
        go_enter Tryd.func4, Tryd.ntmps4
        go_wp2_with (first | (go_at_call 8; refine (law09_awake _ (tab_up HT0.out HB HB.size)).mono ?_; rintro e w1 ⟨rfl, hb⟩; replace HT := HT.below hb; replace b0 := cell_up hb b0; replace b1 := cell_up hb b1; replace b2 := cell_up hb b2; replace HB := below_next HB hb; clear hb) | (go_at_call 9; refine (law09_large _ _ _ t _ _ _).mono ?_; rintro e w1 ⟨rfl, hb⟩; replace HT := HT.below hb; replace b0 := cell_up hb b0; replace b1 := cell_up hb b1; replace b2 := cell_up hb b2; replace HB := below_next HB hb; clear hb) | (go_at_call 12; refine (ref09_Valid t _ _ _ _ _ HT.ls).mono ?_; rintro e w1 ⟨rfl, hb⟩; replace HT := HT.below hb; replace b0 := cell_up hb b0; replace b1 := cell_up hb b1; replace b2 := cell_up hb b2; replace HB := below_next HB hb; clear hb))
        refine (topology_Path t _ _ _ _ _ _ n xs _ HT (HA.out.below HB) hl' (by omega)).mono ?_
        rw [← HR.out]
        rintro e w2 ⟨rfl, hb2⟩
        replace HT := HT.below hb2
        replace b0 := cell_up hb2 b0
        replace b1 := cell_up hb2 b1
        replace b2 := cell_up hb2 b2
        replace HB := below_next HB hb2
        rw [show R3 (r0, r1, r2) = .tuple #[.int .i64 r0, .int .i64 r1, .int .i64 r2] from rfl]
        go_wp2_with fail
        have i0 : (0 : Int) ≤ (k : Int) := by omega
        have i1 : (k : Int) ≤ (c3 : Int) := by omega
        have i2 : (k : Int) ≤ (xs.length : Int) := by omega
        have HTT := Lib.hid HT; clear HT
        have cP : ∀ d os, Calls Tryd.prog 10 #[.agg #[.int .i64 t.n, .slice A1 t.ov.length c1, .slice A2 t.ls.length c2], .int .i64 n, .slice A3 k c3] (grow (redrawn w2 d) os) fun e w'' => e = .returned (.tuple #[.int .i64 s0, .int .i64 s1, .int .i64 s2]) ∧ ∃ p : Regrown, w'' = grow (redrawn w2 p.d) p.os := by
          intro d os
          have h := path_take t A1 A2 A3 c1 c2 c3 n xs k (grow (redrawn w2 d) os) (HTT.out.re d os) ((HA.out.below HB).below (below_regrown w2 d os)) hl' hm' hkl
          rw [← HS.out] at h
          exact Calls.regrown_of h
        have kq_b0 := cell_regrown b0
        have kq_b1 := cell_regrown b1
        have kq_b2 := cell_regrown b2
        refine wp_region_quiet_below (by kernel_rfl) (by kernel_rfl) ?_
        repeat (go_big_quiet_step (exact cP _ _))
        refine wpQuiet_nil ?_
        intro w3 hb3
        replace hb3 := below_of_regrown hb3
        clear kq_b0 kq_b1 kq_b2
        replace b0 := cell_up hb3 b0
        replace b1 := cell_up hb3 b1
        replace b2 := cell_up hb3 b2
        replace HB := below_next HB hb3
        clear cP
        replace HTT := Lib.hid (HTT.out.below hb3)
        cases hs2 : (s2 != 0) with
        | true =>
          have HJ : Hid ((r2 != 0) = true) := Lib.hid (by simp only [bne_iff_ne] at hs2 ⊢; exact J1.out hs2)
          go_wp2_with fail
          go_ret
          exact ⟨by rw [HJ.out]; rfl, HB⟩
        | false =>
          have hs0 : s2 = 0 := by simpa using hs2
          have J3 := Lib.hid (J2.out hs0); clear J2 J1
          subst hs0
          have hbs : 0 ≤ s1 ∧ s1 ≤ 19660500 := by
            have := path_bd HV.out n (xs.take k)
            rw [← HS.out] at this
            have h3 : (xs.take k).length ≤ 300 := by rw [List.length_take]; omega
            simp only at this; omega
          have hbu : 0 ≤ u1 ∧ u1 ≤ 19660500 := by
            have := path_bd HV.out s0 (xs.drop k)
            rw [← HU.out] at this
            have h3 : (xs.drop k).length ≤ 300 := by rw [List.length_drop]; omega
            simp only at this; omega
          obtain ⟨hbs0, hbs1⟩ := hbs
          obtain ⟨hbu0, hbu1⟩ := hbu
          obtain ⟨B, hB⟩ : ∃ B : Bool, B = (decide (0 < k) && decide (k < xs.length) && overV t s0) := ⟨_, rfl⟩
          have J4 : Hid ((B = true ∨ (u2 != 0) = true → (r2 != 0) = true) ∧ (B = false → (u2 != 0) = false → (r2 == 0) = true ∧ (r0 == u0) = true ∧ (r1 == s1 + u1) = true)) := by
            refine Lib.hid ⟨fun h => ?_, fun h1 h2 => ?_⟩
            · rcases h with h | h
              · rw [bne_iff_ne]
                refine J3.out.1 ?_
                rw [hB] at h
                simpa [and_assoc] using h
              · rw [bne_iff_ne] at h ⊢
                exact J3.out.2.1 h
            · have := J3.out.2.2 (by intro h; rw [hB] at h1; simp [h.1, h.2.1, h.2.2] at h1) (by simpa using h2)
              simp [this.1, this.2.1, this.2.2]
          have HBB := Lib.hid hB
          clear hB J3 HS
          have HCP : Hid (∀ A' c' m, m = xs.length - k → Rd w3 A' ((xs.drop k).map (Value.int .i64)) → ∀ d os, Calls Tryd.prog 10 #[.agg #[.int .i64 t.n, .slice A1 t.ov.length c1, .slice A2 t.ls.length c2], .int .i64 s0, .slice A' m c'] (grow (redrawn w3 d) os) fun e w'' => e = .returned (.tuple #[.int .i64 u0, .int .i64 u1, .int .i64 u2]) ∧ ∃ p : Regrown, w'' = grow (redrawn w3 p.d) p.os) := by
            refine Lib.hid fun A' c' m hm hA' d os => ?_
            have h := path_drop t A1 A2 A' c1 c2 c' s0 xs k m (grow (redrawn w3 d) os) (HTT.out.re d os) (hA'.below (below_regrown w3 d os)) hl' hm' hm
            rw [← HU.out] at h
            exact Calls.regrown_of h
          have HRD := Lib.hid ((HA.out.below HB))
          by_cases hck : c3 = k
          · subst hck
            have hxe : (xs.drop c3).map (Value.int .i64) = [] := by rw [List.drop_of_length_le (by omega)]; rfl
            have HXE := Lib.hid hxe; clear hxe
            go_wp2_with fail
            have kq_b0 := cell_regrown b0
            have kq_b1 := cell_regrown b1
            have kq_b2 := cell_regrown b2
            refine wp_region_quiet_below (by kernel_rfl) (by kernel_rfl) ?_
            repeat (go_big_quiet_step (exact HCP.out _ _ _ (by omega) (.inl HXE.out) _ _))
            refine wpQuiet_nil ?_
            intro w4 hb4
            replace hb4 := below_of_regrown hb4
            clear kq_b0 kq_b1 kq_b2
            replace b0 := cell_up hb4 b0
            replace b1 := cell_up hb4 b1
            replace b2 := cell_up hb4 b2
            replace HB := below_next HB hb4
            have HT := HTT.out.below hb4
            clear hb4
            cases hd1 : decide (0 < c3) <;> cases hd2 : decide (c3 < xs.length) <;> cases hov : overV t s0 <;> cases hu : (u2 != 0)
            all_goals
              have hBe := HBB.out
              rw [hd1, hd2, hov] at hBe
              simp only [Bool.and_true, Bool.and_false, Bool.true_and, Bool.false_and] at hBe
              have HBe := Lib.hid hBe
              clear hBe
              first
                | (have g := J4.out.2 HBe.out hu; obtain ⟨g1, g2, g3⟩ := g)
                | (have g1 := J4.out.1 (.inl HBe.out))
                | (have g1 := J4.out.1 (.inr hu))
              go_wp2_with (go_at_call 13; refine (topology_Overloaded t _ _ _ _ _ _ HT).mono ?_; rintro e w1 ⟨rfl, hb⟩; replace HT := HT.below hb; replace b0 := cell_up hb b0; replace b1 := cell_up hb b1; replace b2 := cell_up hb b2; replace HB := below_next HB hb; clear hb)
              go_ret
              exact ⟨rfl, HB⟩
          · go_wp2_with fail
            have kq_b0 := cell_regrown b0
            have kq_b1 := cell_regrown b1
            have kq_b2 := cell_regrown b2
            refine wp_region_quiet_below (by kernel_rfl) (by kernel_rfl) ?_
            repeat (go_big_quiet_step (exact HCP.out _ _ _ rfl (HRD.out.dropM k) _ _))
            refine wpQuiet_nil ?_
            intro w4 hb4
            replace hb4 := below_of_regrown hb4
            clear kq_b0 kq_b1 kq_b2
            replace b0 := cell_up hb4 b0
            replace b1 := cell_up hb4 b1
            replace b2 := cell_up hb4 b2
            replace HB := below_next HB hb4
            have HT := HTT.out.below hb4
            clear hb4
            cases hd1 : decide (0 < k) <;> cases hd2 : decide (k < xs.length) <;> cases hov : overV t s0 <;> cases hu : (u2 != 0)
            all_goals
              have hBe := HBB.out
              rw [hd1, hd2, hov] at hBe
              simp only [Bool.and_true, Bool.and_false, Bool.true_and, Bool.false_and] at hBe
              have HBe := Lib.hid hBe
              clear hBe
              first
                | (have g := J4.out.2 HBe.out hu; obtain ⟨g1, g2, g3⟩ := g)
                | (have g1 := J4.out.1 (.inl HBe.out))
                | (have g1 := J4.out.1 (.inr hu))
              go_wp2_with (go_at_call 13; refine (topology_Overloaded t _ _ _ _ _ _ HT).mono ?_; rintro e w1 ⟨rfl, hb⟩; replace HT := HT.below hb; replace b0 := cell_up hb b0; replace b1 := cell_up hb b1; replace b2 := cell_up hb b2; replace HB := below_next HB hb; clear hb)
              go_ret
              exact ⟨rfl, HB⟩

theorem own : ownKnob Tryd.prog.godebug = none := by kernel_rfl
theorem laidOut : laidOutB Tryd.prog = true := by kernel_rfl
theorem gTab : Tryd.prog.globalNamed "internal/strconv.uint64pow10" = some 0 := by kernel_rfl
theorem gTabType : (Tryd.prog.globals[(0 : Nat)]?).map (·.type) = some 78 := by kernel_rfl
theorem table {W : World} (h : laidMetH Tryd.prog Rows.topologyJoinedRow.laid W) : Lib.TabIs Tryd.prog W "internal/strconv.uint64pow10" .u64 Lib.pow10Tab :=
  by
  rw [Go.MakeChecks.laidMetH_plain _ _ _ (by kernel_rfl)] at h
  have hm : ("internal/strconv.uint64pow10", Rows.laid_internal_strconv_uint64pow10) ∈ Rows.topologyJoinedRow.laid := by simp [Rows.topologyJoinedRow]
  rw [show (Rows.laid_internal_strconv_uint64pow10 : DataW Unit) = Lib.tabData .u64 Lib.pow10Tab by kernel_rfl] at hm
  obtain ⟨g', t', cs, fuel, p, hg', ht', hvar, hd⟩ := Lib.laidMet.reads h hm
  obtain rfl := Option.some.inj (gTab.symm.trans hg')
  obtain rfl := Option.some.inj (gTabType.symm.trans ht')
  unfold Lib.TabIs
  rw [hvar, ← Lib.cells_of_tab Tryd.underlying78 Tryd.underlying71 (by kernel_rfl) (by kernel_rfl) hd]

/-- For every argument and every world that holds the tables. -/
theorem contract (H : Type) (enc : TypeId × Value → H) (W : World) (base : Nat) (args : Array Value) (ds gs : List (DataW H)) (before : List MemPlace)
    (hval : ∀ (j : Nat) t v, Tryd.f4.params[j]? = some t → args[j]? = some v → Value.okWide Tryd.prog W .any base t v)
    (hW : DataW.Whole enc Tryd.prog Tryd.f4.params.toList Rows.topologyJoinedSpec.vars false W args.toList ds gs before) (hL : laidMetH Tryd.prog Rows.topologyJoinedRow.laid W) :
    Calls Tryd.prog 4 args W fun e W' => ∃ v, e = .returned v ∧ Rows.topologyJoinedSpec.post enc Tryd.prog Tryd.f4 false true false false W args v W' := by
  have hW' := hW
  obtain ⟨p, q, hA0, hV, rfl, hfz, hnd⟩ := hW
  have hA : DataW.TrodAll enc Tryd.prog W 0 (fun _ => true) true Tryd.f4.params.toList args.toList ds p := hA0
  rw [Tryd.params4] at hA hval
  obtain ⟨v0, vs0, d0, ds0, p0, q0, hargs, rfl, rfl, h0, r0⟩ := trodAll_cons hA
  obtain ⟨v1, vs1, d1, ds1, p1, q1, rfl, rfl, rfl, h1, r1⟩ := trodAll_cons r0
  obtain ⟨v2, vs2, d2, ds2, p2, q2, rfl, rfl, rfl, h2, r2⟩ := trodAll_cons r1
  obtain ⟨v3, vs3, d3, ds3, p3, q3, rfl, rfl, rfl, h3, r3⟩ := trodAll_cons r2
  obtain ⟨rfl, rfl, rfl⟩ := trodAll_nil r3
  obtain rfl : args = #[v0, v1, v2, v3] := by cases args; simp_all
  obtain ⟨rfl, rfl⟩ := trodVars_none hV
  have k0 := h0
  have lt0 : ∀ x ∈ p0, x.block < W.heap.size := by obtain ⟨m, hm⟩ := k0; exact DataW.trod_lt m _ _ _ hm
  obtain ⟨t0, A0a, A0b, c0a, c0b, rfl, hT0, hn0, ho0, hl0, hb0⟩ := open_topo (hval 0 25 v0 rfl rfl) h0
  have k1 := h1
  have lt1 : ∀ x ∈ p1, x.block < W.heap.size := by obtain ⟨m, hm⟩ := k1; exact DataW.trod_lt m _ _ _ hm
  obtain ⟨x1, rfl, hx1⟩ := open_i64 Tryd.underlying3 (hval 1 3 v1 rfl rfl) h1
  have k2 := h2
  have lt2 : ∀ x ∈ p2, x.block < W.heap.size := by obtain ⟨m, hm⟩ := k2; exact DataW.trod_lt m _ _ _ hm
  obtain ⟨A2, c2, xs2, rfl, hlc2, hcm2, hx2, hA2⟩ := open_ints64 Tryd.underlying26 Tryd.underlying3 cells1 (hval 2 26 v2 rfl rfl) h2
  have k3 := h3
  have lt3 : ∀ x ∈ p3, x.block < W.heap.size := by obtain ⟨m, hm⟩ := k3; exact DataW.trod_lt m _ _ _ hm
  obtain ⟨x3, rfl, hx3⟩ := open_u8 Tryd.underlying5 (hval 3 5 v3 rfl rfl) h3
  clear hA0
  refine (walk t0 A0a A0b c0a c0b x1 A2 c2 xs2 x3 W hT0 hn0 ho0 hl0 hb0 hx1 hlc2 hcm2 hx2 hA2 hx3 (Lib.tabBelow_of_tabIs (table hL))).mono fun e W' ⟨he, bel⟩ => ?_
  subst he
  exact ⟨_, rfl, _, _, _, [], _, [], hW', trodAll_mk1 (shut_bool Tryd.underlying4 _), (trodAll_cons_mk (Below.trod laidOut (by kernel_rfl) (of_decide_eq_true (by kernel_rfl)) k0 bel lt0) (trodAll_cons_mk (Below.trod laidOut (by kernel_rfl) (of_decide_eq_true (by kernel_rfl)) k1 bel lt1) (trodAll_cons_mk (Below.trod laidOut (by kernel_rfl) (of_decide_eq_true (by kernel_rfl)) k2 bel lt2) (trodAll_cons_mk (Below.trod laidOut (by kernel_rfl) (of_decide_eq_true (by kernel_rfl)) k3 bel lt3) trodAll_mk0)))), rfl, bel.frame _, fun h => by cases h⟩

/-- The cells of a laid table. -/
def tabCells : DataW Unit → Array Value
  | .agg ds => (ds.map fun | .lit (.int k n) => Value.int k n | _ => undef).toArray
  | _ => #[]
def layTab (c : Array Value) : Obj → Obj
  | .cells _ t frozen => .cells c t frozen
  | o => o
/-- A world for the witness: the settled one, the tables holding what their initialisers lay. -/
noncomputable def laidWorld (os : Os) : World :=
  { World.holding Tryd.prog os ⟨#[], #[], []⟩ with heap := (((World.holding Tryd.prog os ⟨#[], #[], []⟩).heap.modify 0 (layTab (tabCells Rows.laid_internal_strconv_uint64pow10))).modify 1 (layTab (tabCells Rows.laid_math_bits_deBruijn32tab))).modify 2 (layTab (tabCells Rows.laid_math_bits_deBruijn64tab)) }
theorem laid_met (os : Os) : laidMet Tryd.prog Rows.topologyJoinedRow.laid ((laidWorld os).forCall (fun _ _ => 0) ⟨#[], #[.agg #[.int .i64 0, .slice none 0 0, .slice none 0 0], .int .i64 0, .slice none 0 0, .int .u8 0], []⟩).memory :=
  laidMet_of_run' 8 (by kernel_rfl) (by kernel_rfl)
theorem reads (os : Os) {H : Type} (enc : TypeId × Value → H) : ∃ places, DataW.whole enc Tryd.prog ((laidWorld os).forCall (fun _ _ => 0) ⟨#[], #[.agg #[.int .i64 0, .slice none 0 0, .slice none 0 0], .int .i64 0, .slice none 0 0, .int .u8 0], []⟩).memory Tryd.f4.params.toList Rows.topologyJoinedSpec.vars false (#[.agg #[.int .i64 0, .slice none 0 0, .slice none 0 0], .int .i64 0, .slice none 0 0, .int .u8 0] : Array Value).toList 8 = some ([.agg [.lit (.int .i64 0), .nil, .nil], .lit (.int .i64 0), .nil, .lit (.int .u8 0)], [], places) :=
  ⟨[], by kernel_rfl⟩

set_option maxRecDepth 100000 in
theorem lifted (os : Os) (started : os.Started) (H : Type) (enc : TypeId × Value → H) (F : Stop.Interp) :
    ReturnsInHanded {} Tryd.checked os 4 .any ((OpenSpec.ofChange Rows.topologyJoinedSpec).preRow enc Tryd.prog Tryd.f4 Rows.topologyJoinedRow.domain false Rows.topologyJoinedRow.laid) (((OpenSpec.ofChange Rows.topologyJoinedSpec).at F).post enc Tryd.prog Tryd.f4 false true false false) := by
  obtain ⟨places, hx⟩ := reads os enc
  refine returnsInHanded_of_row (C := Tryd.checked) (s := OpenSpec.ofChange Rows.topologyJoinedSpec) own started (by kernel_rfl) Tryd.func4
    (witness_row_at (enc := enc) (C := Tryd.checked) false (laidWorld os) #[.agg #[.int .i64 0, .slice none 0 0, .slice none 0 0], .int .i64 0, .slice none 0 0, .int .u8 0] rfl (by kernel_rfl) (by kernel_rfl) (by kernel_rfl)
      (OpenSpec.preRow_of_cond 8 hx (by kernel_rfl) (fun k hk => by cases hk) (by kernel_rfl) (laid_met os))) ?_
  intro W base args ds gs before hval hW _ _ _ hL _ _
  exact contract H enc W base args ds gs before hval hW hL

theorem said : Rows.TopologyJoinedSaid :=
  OpenClaim.holds_of_cond 4 Tryd.f4 rfl rfl rfl rfl rfl rfl rfl ⟨rfl, rfl, rfl, rfl, rfl⟩ rfl rfl rfl rfl rfl (by kernel_rfl) Tryd.func4 (by kernel_rfl)
    (of_decide_eq_true (by kernel_rfl)) (by unfold Func.isWrapper; first | (rw [if_pos (by decide +kernel)]; kernel_rfl) | (rw [if_neg (by decide +kernel)]; exact ⟨rfl, rfl⟩))
    (fun os started H enc _ F => by rw [OpenClaim.pre_eq_preRow]; exact lifted os started H enc F)

theorem plain (f : FuncId) (fn : Func) (hf : Tryd.pinned.checked.prog.funcNamed "waypoint/waypointlaw09.TopologyJoined" = some f) (hfn : Tryd.pinned.checked.prog.funcs[f]? = some fn) :
    false = Tryd.pinned.checked.prog.looks [] ∧ ∀ (j : Nat) t, fn.params[j]? = some t → Tryd.pinned.checked.prog.wantsStandIn t = false := by
  obtain rfl : f = 4 := Option.some.inj ((show Tryd.prog.funcNamed "waypoint/waypointlaw09.TopologyJoined" = some 4 by kernel_rfl).symm.trans hf) |>.symm
  obtain rfl : fn = Tryd.f4 := (Option.some.inj (Tryd.func4.symm.trans hfn)).symm
  refine ⟨by kernel_rfl, fun j t ht => ?_⟩
  rw [Tryd.params4] at ht
  have hm : t ∈ [25, 3, 26, 5] := by simpa using Array.mem_of_getElem? ht
  have hall : ([25, 3, 26, 5].all fun u => !Tryd.prog.wantsStandIn u) = true := by kernel_rfl
  exact (show Tryd.prog.wantsStandIn t = false by simpa using List.all_eq_true.1 hall t hm)

/-- The card: the statement. -/
theorem card : Rows.TopologyJoinedCardSaid :=
  Claim7.holds_tied_plain_at .later [] _ _ _ _ said (fun _ h => by cases h) (by kernel_rfl) (fun _ h => by cases h) topologyJoined_row_tie rfl ⟨rfl, rfl⟩ (by kernel_rfl) rfl plain (by kernel_rfl)
#print axioms card
end Go.Proofs.YthiegnkjcfdinaaDoor.topologyJoined
