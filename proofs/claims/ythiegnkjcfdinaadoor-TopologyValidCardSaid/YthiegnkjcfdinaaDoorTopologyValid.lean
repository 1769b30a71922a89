/-
  TopologyValid: for every two topologies the law returns true: topology.Valid and Same agree with the reference's, and Same is symmetric and reflexive. The card TopologyValidCardSaid; no condition beyond the given row's.
-/
import Derived.Test.YthiegnkjcfdinaaDoorAwake09
import Derived.Test.YthiegnkjcfdinaaDoorRefSame
import Derived.Test.YthiegnkjcfdinaaDoorOpen
import Derived.Test.YthiegnkjcfdinaaDoorCards
import Derived.Test.YthiegnkjcfdinaaDoorTie
import Derived.WalkKit
import Derived.ProofKit
import Derived.OpenShut
import Derived.ChangeOld
import Derived.Deep.DeepHandedRow
import Derived.Lib.LaidTab
import Derived.MakeChecks
import Derived.Lib.LaidU8
namespace Go.Proofs.YthiegnkjcfdinaaDoor.topologyValid
open Go.ChangeShapes Go.WideShapes Go.ChangeAt Go.RowKit Go.Sort
set_option linter.unusedVariables false

theorem topology_SameC (t u : Topo) (A1 A2 B1 B2 : Option Addr) (c1 c2 d1 d2 : Nat) (w : World) (hT : TAt w A1 A2 t) (hU : TAt w B1 B2 u) (hm : t.ov.length ≤ 4611686018427387904) (hm2 : u.ov.length ≤ 4611686018427387904) (hl : u.ls.length ≤ 4611686018427387904) :
    Calls Tryd.prog 15 #[.agg #[.int .i64 u.n, .slice B1 u.ov.length d1, .slice B2 u.ls.length d2], .agg #[.int .i64 t.n, .slice A1 t.ov.length c1, .slice A2 t.ls.length c2]] w fun e w' => e = .returned (.bool (same t u)) ∧ Below w.heap.size w w' := by
  rw [← same_comm]; exact topology_Same u t _ _ _ _ _ _ _ _ _ hU hT hm2 hm hl
theorem topology_SameR (t : Topo) (A1 A2 B1 B2 : Option Addr) (c1 c2 d1 d2 : Nat) (w : World) (hT : TAt w A1 A2 t) (hU : TAt w B1 B2 t) (hm : t.ov.length ≤ 4611686018427387904) (hl : t.ls.length ≤ 4611686018427387904) :
    Calls Tryd.prog 15 #[.agg #[.int .i64 t.n, .slice A1 t.ov.length c1, .slice A2 t.ls.length c2], .agg #[.int .i64 t.n, .slice B1 t.ov.length d1, .slice B2 t.ls.length d2]] w fun e w' => e = .returned (.bool true) ∧ Below w.heap.size w w' := by
  have h := topology_Same t t _ _ _ _ c1 c2 d1 d2 _ hT hU hm hm hl
  rwa [same_refl] at h

set_option maxHeartbeats 4000000 in
set_option maxRecDepth 100000 in
theorem walk (t : Topo) (A1 A2 : Option Addr) (c1 c2 : Nat) (u : Topo) (B1 B2 : Option Addr) (d1 d2 : Nat) (w : World) (hT : TAt w A1 A2 t) (hn : I64 t.n) (ho : t.ov.length ≤ maxLen) (hl : t.ls.length ≤ maxLen) (hb : ∀ l ∈ t.ls, LnkIn l)
    (hU : TAt w B1 B2 u) (hn2 : I64 u.n) (ho2 : u.ov.length ≤ maxLen) (hl2 : u.ls.length ≤ maxLen) (hb2 : ∀ l ∈ u.ls, LnkIn l) (ht : Tab w.heap.size w) :
    Calls Tryd.prog 5 #[.agg #[.int .i64 t.n, .slice A1 t.ov.length c1, .slice A2 t.ls.length c2], .agg #[.int .i64 u.n, .slice B1 u.ov.length d1, .slice B2 u.ls.length d2]] w fun e w' => e = .returned (.bool true) ∧ Below w.heap.size w w' := by
  clear hn ho hl hb hn2 ho2 hl2 hb2
  have HB : Below w.heap.size w ((w.alloc (.cells #[.int .i64 t.n, .slice A1 t.ov.length c1, .slice A2 t.ls.length c2] 25)).alloc (.cells #[.int .i64 u.n, .slice B1 u.ov.length d1, .slice B2 u.ls.length d2] 25)) := below_next (below_box w _) (below_box _ _)
  have HT := Lib.hid (hT.below HB); have HU := Lib.hid (hU.below HB)
  obtain ⟨p0, p1, p2, q0, q1, q2⟩ := boxes w (.int .i64 t.n) (.slice A1 t.ov.length c1) (.slice A2 t.ls.length c2) (.int .i64 u.n) (.slice B1 u.ov.length d1) (.slice B2 u.ls.length d2) 25
  clear hT hU
  have HT0 := Lib.hid ht; clear ht
  cases hg : big t with
  | true =>
    go_enter Tryd.func5, Tryd.ntmps5
    go_wp2_with (first | (go_at_call 8; refine (law09_awake _ (tab_up HT0.out HB HB.size)).mono ?_; rintro e w1 ⟨rfl, hb⟩; replace p0 := cell_up hb p0; replace p1 := cell_up hb p1; replace p2 := cell_up hb p2; replace q0 := cell_up hb q0; replace q1 := cell_up hb q1; replace q2 := cell_up hb q2; replace HT := Lib.hid (HT.out.below hb); replace HU := Lib.hid (HU.out.below hb); replace HB := below_next HB hb; clear hb) | (go_at_call 9; (first | (with_reducible refine (law09_large _ _ _ t _ _ _).mono ?_) | (with_reducible refine (law09_large _ _ _ u _ _ _).mono ?_)); rintro e w1 ⟨rfl, hb⟩; replace p0 := cell_up hb p0; replace p1 := cell_up hb p1; replace p2 := cell_up hb p2; replace q0 := cell_up hb q0; replace q1 := cell_up hb q1; replace q2 := cell_up hb q2; replace HT := Lib.hid (HT.out.below hb); replace HU := Lib.hid (HU.out.below hb); replace HB := below_next HB hb; clear hb))
    go_ret
    exact ⟨rfl, HB⟩
  | false =>
    cases hg2 : big u with
    | true =>
      go_enter Tryd.func5, Tryd.ntmps5
      go_wp2_with (first | (go_at_call 8; refine (law09_awake _ (tab_up HT0.out HB HB.size)).mono ?_; rintro e w1 ⟨rfl, hb⟩; replace p0 := cell_up hb p0; replace p1 := cell_up hb p1; replace p2 := cell_up hb p2; replace q0 := cell_up hb q0; replace q1 := cell_up hb q1; replace q2 := cell_up hb q2; replace HT := Lib.hid (HT.out.below hb); replace HU := Lib.hid (HU.out.below hb); replace HB := below_next HB hb; clear hb) | (go_at_call 9; (first | (with_reducible refine (law09_large _ _ _ t _ _ _).mono ?_) | (with_reducible refine (law09_large _ _ _ u _ _ _).mono ?_)); rintro e w1 ⟨rfl, hb⟩; replace p0 := cell_up hb p0; replace p1 := cell_up hb p1; replace p2 := cell_up hb p2; replace q0 := cell_up hb q0; replace q1 := cell_up hb q1; replace q2 := cell_up hb q2; replace HT := Lib.hid (HT.out.below hb); replace HU := Lib.hid (HU.out.below hb); replace HB := below_next HB hb; clear hb))
      go_ret
      exact ⟨rfl, HB⟩
    | false =>
      have hm : t.ov.length ≤ 4611686018427387904 := by have := big_false hg; omega
      have hm2 : u.ov.length ≤ 4611686018427387904 := by have := big_false hg2; omega
      have hl : t.ls.length ≤ 4611686018427387904 := by have := big_false hg; omega
      have hl2 : u.ls.length ≤ 4611686018427387904 := by have := big_false hg2; omega
      go_enter Tryd.func5, Tryd.ntmps5
      go_wp2_with (first | (go_at_call 8; refine (law09_awake _ (tab_up HT0.out HB HB.size)).mono ?_; rintro e w1 ⟨rfl, hb⟩; replace p0 := cell_up hb p0; replace p1 := cell_up hb p1; replace p2 := cell_up hb p2; replace q0 := cell_up hb q0; replace q1 := cell_up hb q1; replace q2 := cell_up hb q2; replace HT := Lib.hid (HT.out.below hb); replace HU := Lib.hid (HU.out.below hb); replace HB := below_next HB hb; clear hb) | (go_at_call 9; (first | (with_reducible refine (law09_large _ _ _ t _ _ _).mono ?_) | (with_reducible refine (law09_large _ _ _ u _ _ _).mono ?_)); rintro e w1 ⟨rfl, hb⟩; replace p0 := cell_up hb p0; replace p1 := cell_up hb p1; replace p2 := cell_up hb p2; replace q0 := cell_up hb q0; replace q1 := cell_up hb q1; replace q2 := cell_up hb q2; replace HT := Lib.hid (HT.out.below hb); replace HU := Lib.hid (HU.out.below hb); replace HB := below_next HB hb; clear hb))
      have cV : ∀ d os, Calls Tryd.prog 14 #[.agg #[.int .i64 t.n, .slice A1 t.ov.length c1, .slice A2 t.ls.length c2]] (grow (redrawn w1 d) os) fun e w'' => e = .returned (.bool (valid t)) ∧ ∃ p : Regrown, w'' = grow (redrawn w1 p.d) p.os := fun d os => Calls.regrown_of (topology_Valid t _ _ _ _ _ (HT.out.re _ _).ls)
      have cW : ∀ d os, Calls Tryd.prog 12 #[.agg #[.int .i64 t.n, .slice A1 t.ov.length c1, .slice A2 t.ls.length c2]] (grow (redrawn w1 d) os) fun e w'' => e = .returned (.bool (valid t)) ∧ ∃ p : Regrown, w'' = grow (redrawn w1 p.d) p.os := fun d os => Calls.regrown_of (ref09_Valid t _ _ _ _ _ (HT.out.re _ _).ls)
      have cS : ∀ d os, Calls Tryd.prog 15 #[.agg #[.int .i64 t.n, .slice A1 t.ov.length c1, .slice A2 t.ls.length c2], .agg #[.int .i64 u.n, .slice B1 u.ov.length d1, .slice B2 u.ls.length d2]] (grow (redrawn w1 d) os) fun e w'' => e = .returned (.bool (same t u)) ∧ ∃ p : Regrown, w'' = grow (redrawn w1 p.d) p.os := fun d os => Calls.regrown_of (topology_Same t u _ _ _ _ _ _ _ _ _ (HT.out.re _ _) (HU.out.re _ _) hm hm2 hl)
      have cR : ∀ d os, Calls Tryd.prog 16 #[.agg #[.int .i64 t.n, .slice A1 t.ov.length c1, .slice A2 t.ls.length c2], .agg #[.int .i64 u.n, .slice B1 u.ov.length d1, .slice B2 u.ls.length d2]] (grow (redrawn w1 d) os) fun e w'' => e = .returned (.bool (same t u)) ∧ ∃ p : Regrown, w'' = grow (redrawn w1 p.d) p.os := fun d os => Calls.regrown_of (ref09_Same t u _ _ _ _ _ _ _ _ _ (HT.out.re _ _) (HU.out.re _ _) hm hm2 hl)
      have cC : ∀ d os, Calls Tryd.prog 15 #[.agg #[.int .i64 u.n, .slice B1 u.ov.length d1, .slice B2 u.ls.length d2], .agg #[.int .i64 t.n, .slice A1 t.ov.length c1, .slice A2 t.ls.length c2]] (grow (redrawn w1 d) os) fun e w'' => e = .returned (.bool (same t u)) ∧ ∃ p : Regrown, w'' = grow (redrawn w1 p.d) p.os := fun d os => Calls.regrown_of (topology_SameC t u _ _ _ _ _ _ _ _ _ (HT.out.re _ _) (HU.out.re _ _) hm hm2 hl2)
      have cX : ∀ d os, Calls Tryd.prog 15 #[.agg #[.int .i64 t.n, .slice A1 t.ov.length c1, .slice A2 t.ls.length c2], .agg #[.int .i64 t.n, .slice A1 t.ov.length c1, .slice A2 t.ls.length c2]] (grow (redrawn w1 d) os) fun e w'' => e = .returned (.bool (true)) ∧ ∃ p : Regrown, w'' = grow (redrawn w1 p.d) p.os := fun d os => Calls.regrown_of (topology_SameR t _ _ _ _ _ _ _ _ _ (HT.out.re _ _) (HT.out.re _ _) hm hl)
      have HcV := Lib.hid cV; clear cV
      have HcW := Lib.hid cW; clear cW
      have HcS := Lib.hid cS; clear cS
      have HcR := Lib.hid cR; clear cR
      have HcC := Lib.hid cC; clear cC
      have HcX := Lib.hid cX; clear cX
      have kq_p0 := cell_regrown p0
      have kq_p1 := cell_regrown p1
      have kq_p2 := cell_regrown p2
      have kq_q0 := cell_regrown q0
      have kq_q1 := cell_regrown q1
      have kq_q2 := cell_regrown q2
      refine wp_region_quiet_below (by kernel_rfl) (by kernel_rfl) ?_
      repeat (go_big_quiet_step (first | with_reducible exact HcV.out _ _ | with_reducible exact HcW.out _ _ | with_reducible exact HcS.out _ _ | with_reducible exact HcR.out _ _ | with_reducible exact HcC.out _ _ | with_reducible exact HcX.out _ _))
      refine wpQuiet_nil ?_
      intro w2 hb2
      replace hb2 := below_of_regrown hb2
      clear kq_p0 kq_p1 kq_p2 kq_q0 kq_q1 kq_q2
      replace p0 := cell_up hb2 p0
      replace p1 := cell_up hb2 p1
      replace p2 := cell_up hb2 p2
      replace q0 := cell_up hb2 q0
      replace q1 := cell_up hb2 q1
      replace q2 := cell_up hb2 q2
      replace HB := below_next HB hb2
      go_wp2_with fail
      go_ret
      exact ⟨rfl, HB⟩

theorem own : ownKnob Tryd.prog.godebug = none := by kernel_rfl
theorem laidOut : laidOutB Tryd.prog = true := by kernel_rfl
theorem gTab : Tryd.prog.globalNamed "internal/strconv.uint64pow10" = some 0 := by kernel_rfl
theorem gTabType : (Tryd.prog.globals[(0 : Nat)]?).map (·.type) = some 78 := by kernel_rfl
theorem table {W : World} (h : laidMetH Tryd.prog Rows.topologyValidRow.laid W) : Lib.TabIs Tryd.prog W "internal/strconv.uint64pow10" .u64 Lib.pow10Tab :=
  by
  rw [Go.MakeChecks.laidMetH_plain _ _ _ (by kernel_rfl)] at h
  have hm : ("internal/strconv.uint64pow10", Rows.laid_internal_strconv_uint64pow10) ∈ Rows.topologyValidRow.laid := by simp [Rows.topologyValidRow]
  rw [show (Rows.laid_internal_strconv_uint64pow10 : DataW Unit) = Lib.tabData .u64 Lib.pow10Tab by kernel_rfl] at hm
  obtain ⟨g', t', cs, fuel, p, hg', ht', hvar, hd⟩ := Lib.laidMet.reads h hm
  obtain rfl := Option.some.inj (gTab.symm.trans hg')
  obtain rfl := Option.some.inj (gTabType.symm.trans ht')
  unfold Lib.TabIs
  rw [hvar, ← Lib.cells_of_tab Tryd.underlying78 Tryd.underlying71 (by kernel_rfl) (by kernel_rfl) hd]

/-- For every argument and every world that holds the tables. -/
theorem contract (H : Type) (enc : TypeId × Value → H) (W : World) (base : Nat) (args : Array Value) (ds gs : List (DataW H)) (before : List MemPlace)
    (hval : ∀ (j : Nat) t v, Tryd.f5.params[j]? = some t → args[j]? = some v → Value.okWide Tryd.prog W .any base t v)
    (hW : DataW.Whole enc Tryd.prog Tryd.f5.params.toList Rows.topologyValidSpec.vars false W args.toList ds gs before) (hL : laidMetH Tryd.prog Rows.topologyValidRow.laid W) :
    Calls Tryd.prog 5 args W fun e W' => ∃ v, e = .returned v ∧ Rows.topologyValidSpec.post enc Tryd.prog Tryd.f5 false true false false W args v W' := by
  have hW' := hW
  obtain ⟨p, q, hA0, hV, rfl, hfz, hnd⟩ := hW
  have hA : DataW.TrodAll enc Tryd.prog W 0 (fun _ => true) true Tryd.f5.params.toList args.toList ds p := hA0
  rw [Tryd.params5] at hA hval
  obtain ⟨v0, vs0, d0, ds0, p0, q0, hargs, rfl, rfl, h0, r0⟩ := trodAll_cons hA
  obtain ⟨v1, vs1, d1, ds1, p1, q1, rfl, rfl, rfl, h1, r1⟩ := trodAll_cons r0
  obtain ⟨rfl, rfl, rfl⟩ := trodAll_nil r1
  obtain rfl : args = #[v0, v1] := by cases args; simp_all
  obtain ⟨rfl, rfl⟩ := trodVars_none hV
  have k0 := h0
  have lt0 : ∀ x ∈ p0, x.block < W.heap.size := by obtain ⟨m, hm⟩ := k0; exact DataW.trod_lt m _ _ _ hm
  obtain ⟨t0, A0a, A0b, c0a, c0b, rfl, hT0, hn0, ho0, hl0, hb0⟩ := open_topo (hval 0 25 v0 rfl rfl) h0
  have k1 := h1
  have lt1 : ∀ x ∈ p1, x.block < W.heap.size := by obtain ⟨m, hm⟩ := k1; exact DataW.trod_lt m _ _ _ hm
  obtain ⟨t1, A1a, A1b, c1a, c1b, rfl, hT1, hn1, ho1, hl1, hb1⟩ := open_topo (hval 1 25 v1 rfl rfl) h1
  clear hA0
  refine (walk t0 A0a A0b c0a c0b t1 A1a A1b c1a c1b W hT0 hn0 ho0 hl0 hb0 hT1 hn1 ho1 hl1 hb1 (Lib.tabBelow_of_tabIs (table hL))).mono fun e W' ⟨he, bel⟩ => ?_
  subst he
  exact ⟨_, rfl, _, _, _, [], _, [], hW', trodAll_mk1 (shut_bool Tryd.underlying4 _), (trodAll_cons_mk (Below.trod laidOut (by kernel_rfl) (of_decide_eq_true (by kernel_rfl)) k0 bel lt0) (trodAll_cons_mk (Below.trod laidOut (by kernel_rfl) (of_decide_eq_true (by kernel_rfl)) k1 bel lt1) trodAll_mk0)), rfl, bel.frame _, fun h => by cases h⟩

/-- The cells of a laid table. -/
def tabCells : DataW Unit → Array Value
  | .agg ds => (ds.map fun | .lit (.int k n) => Value.int k n | _ => undef).toArray
  | _ => #[]
def layTab (c : Array Value) : Obj → Obj
  | .cells _ t frozen => .cells c t frozen
  | o => o
/-- A world for the witness: the settled one, the tables holding what their initialisers lay. -/
noncomputable def laidWorld (os : Os) : World :=
  { World.holding Tryd.prog os ⟨#[], #[], []⟩ with heap := (((World.holding Tryd.prog os ⟨#[], #[], []⟩).heap.modify 0 (layTab (tabCells Rows.laid_internal_strconv_uint64pow10))).modify 1 (layTab (tabCells Rows.laid_math_bits_deBruijn32tab))).modify 2 (layTab (tabCells Rows.laid_math_bits_deBruijn64tab)) }
theorem laid_met (os : Os) : laidMet Tryd.prog Rows.topologyValidRow.laid ((laidWorld os).forCall (fun _ _ => 0) ⟨#[], #[.agg #[.int .i64 0, .slice none 0 0, .slice none 0 0], .agg #[.int .i64 0, .slice none 0 0, .slice none 0 0]], []⟩).memory :=
  laidMet_of_run' 8 (by kernel_rfl) (by kernel_rfl)
theorem reads (os : Os) {H : Type} (enc : TypeId × Value → H) : ∃ places, DataW.whole enc Tryd.prog ((laidWorld os).forCall (fun _ _ => 0) ⟨#[], #[.agg #[.int .i64 0, .slice none 0 0, .slice none 0 0], .agg #[.int .i64 0, .slice none 0 0, .slice none 0 0]], []⟩).memory Tryd.f5.params.toList Rows.topologyValidSpec.vars false (#[.agg #[.int .i64 0, .slice none 0 0, .slice none 0 0], .agg #[.int .i64 0, .slice none 0 0, .slice none 0 0]] : Array Value).toList 8 = some ([.agg [.lit (.int .i64 0), .nil, .nil], .agg [.lit (.int .i64 0), .nil, .nil]], [], places) :=
  ⟨[], by kernel_rfl⟩

set_option maxRecDepth 100000 in
theorem lifted (os : Os) (started : os.Started) (H : Type) (enc : TypeId × Value → H) (F : Stop.Interp) :
    ReturnsInHanded {} Tryd.checked os 5 .any ((OpenSpec.ofChange Rows.topologyValidSpec).preRow enc Tryd.prog Tryd.f5 Rows.topologyValidRow.domain false Rows.topologyValidRow.laid) (((OpenSpec.ofChange Rows.topologyValidSpec).at F).post enc Tryd.prog Tryd.f5 false true false false) := by
  obtain ⟨places, hx⟩ := reads os enc
  refine returnsInHanded_of_row (C := Tryd.checked) (s := OpenSpec.ofChange Rows.topologyValidSpec) own started (by kernel_rfl) Tryd.func5
    (witness_row_at (enc := enc) (C := Tryd.checked) false (laidWorld os) #[.agg #[.int .i64 0, .slice none 0 0, .slice none 0 0], .agg #[.int .i64 0, .slice none 0 0, .slice none 0 0]] rfl (by kernel_rfl) (by kernel_rfl) (by kernel_rfl)
      (OpenSpec.preRow_of_cond 8 hx (by kernel_rfl) (fun k hk => by cases hk) (by kernel_rfl) (laid_met os))) ?_
  intro W base args ds gs before hval hW _ _ _ hL _ _
  exact contract H enc W base args ds gs before hval hW hL

theorem said : Rows.TopologyValidSaid :=
  OpenClaim.holds_of_cond 5 Tryd.f5 rfl rfl rfl rfl rfl rfl rfl ⟨rfl, rfl, rfl, rfl, rfl⟩ rfl rfl rfl rfl rfl (by kernel_rfl) Tryd.func5 (by kernel_rfl)
    (of_decide_eq_true (by kernel_rfl)) (by unfold Func.isWrapper; first | (rw [if_pos (by decide +kernel)]; kernel_rfl) | (rw [if_neg (by decide +kernel)]; exact ⟨rfl, rfl⟩))
    (fun os started H enc _ F => by rw [OpenClaim.pre_eq_preRow]; exact lifted os started H enc F)

theorem plain (f : FuncId) (fn : Func) (hf : Tryd.pinned.checked.prog.funcNamed "waypoint/waypointlaw09.TopologyValid" = some f) (hfn : Tryd.pinned.checked.prog.funcs[f]? = some fn) :
    false = Tryd.pinned.checked.prog.looks [] ∧ ∀ (j : Nat) t, fn.params[j]? = some t → Tryd.pinned.checked.prog.wantsStandIn t = false := by
  obtain rfl : f = 5 := Option.some.inj ((show Tryd.prog.funcNamed "waypoint/waypointlaw09.TopologyValid" = some 5 by kernel_rfl).symm.trans hf) |>.symm
  obtain rfl : fn = Tryd.f5 := (Option.some.inj (Tryd.func5.symm.trans hfn)).symm
  refine ⟨by kernel_rfl, fun j t ht => ?_⟩
  rw [Tryd.params5] at ht
  have hm : t ∈ [25] := by simpa using Array.mem_of_getElem? ht
  have hall : ([25].all fun u => !Tryd.prog.wantsStandIn u) = true := by kernel_rfl
  exact (show Tryd.prog.wantsStandIn t = false by simpa using List.all_eq_true.1 hall t hm)

/-- The card: the statement. -/
theorem card : Rows.TopologyValidCardSaid :=
  Claim7.holds_tied_plain_at .later [] _ _ _ _ said (fun _ h => by cases h) (by kernel_rfl) (fun _ h => by cases h) topologyValid_row_tie rfl ⟨rfl, rfl⟩ (by kernel_rfl) rfl plain (by kernel_rfl)
#print axioms card
end Go.Proofs.YthiegnkjcfdinaaDoor.topologyValid
