/-
  ComponentMask: for every topology and component the law returns true: Arcs, Mask and Valid agree with the reference's. The card ComponentMaskCardSaid; no condition beyond the given row's.
-/
import Derived.Test.YtibennndjfhieaaDoorAwake10
import Derived.Test.YtibennndjfhieaaDoorMask
import Derived.Test.YtibennndjfhieaaDoorOpenComp
import Derived.Test.YtibennndjfhieaaDoorOpen
import Derived.Test.YtibennndjfhieaaDoorCards
import Derived.Test.YtibennndjfhieaaDoorTie
import Derived.WalkKit
import Derived.ProofKit
import Derived.OpenShut
import Derived.ChangeOld
import Derived.Deep.DeepHandedRow
import Derived.Lib.LaidTab
import Derived.MakeChecks
import Derived.Lib.LaidU8
import Derived.Deep.RegionHeld3
import Derived.Deep.DrawnRows
namespace Go.Proofs.YtibennndjfhieaaDoor.componentMask
open Go.ChangeShapes Go.WideShapes Go.ChangeAt Go.RowKit Go.Sort
set_option linter.unusedVariables false

theorem mask_len (t : Topo) (l : List (Int × Int)) : (unionV t l).1.length ≤ 2 * t.ls.length := by
  unfold unionV
  split
  · simp [mask]
  · simp
theorem arcs_len (t : Topo) (k m : Int) : (arcsC t k m).1.length ≤ 2 * t.ls.length := by
  unfold arcsC
  split
  · rw [← arcs_ups]; exact ups_le _ _
  · simp

set_option maxHeartbeats 8000000 in
set_option maxRecDepth 100000 in
theorem walk (t : Topo) (A1 A2 : Option Addr) (c1 c2 : Nat) (k m : Int) (w : World) (hT : TAt w A1 A2 t) (hn : I64 t.n) (ho : t.ov.length ≤ maxLen) (hl : t.ls.length ≤ maxLen) (hb : ∀ l ∈ t.ls, LnkIn l) (hk : I64 k) (hm : I64 m) (ht : Tab w.heap.size w) :
    Calls Tryd.prog 5 #[.agg #[.int .i64 t.n, .slice A1 t.ov.length c1, .slice A2 t.ls.length c2], .agg #[.int .i64 k, .int .i64 m]] w fun e w' => e = .returned (.bool true) ∧ Below w.heap.size w w' := by
  clear hn ho hl hb hk hm
  have HT0 := Lib.hid ht; clear ht
  have hb0 := below_box w (.cells #[.int .i64 t.n, .slice A1 t.ov.length c1, .slice A2 t.ls.length c2] 25)
  have hb1 := below_box (w.alloc (.cells #[.int .i64 t.n, .slice A1 t.ov.length c1, .slice A2 t.ls.length c2] 25)) (.cells #[.int .i64 k, .int .i64 m] 31)
  have HB := below_next hb0 hb1
  have HT := hT.below HB
  have b0 := cell_up hb1 (box0 w (.int .i64 t.n) (.slice A1 t.ov.length c1) (.slice A2 t.ls.length c2) 25)
  have b1 := cell_up hb1 (box1 w (.int .i64 t.n) (.slice A1 t.ov.length c1) (.slice A2 t.ls.length c2) 25)
  have b2 := cell_up hb1 (box2 w (.int .i64 t.n) (.slice A1 t.ov.length c1) (.slice A2 t.ls.length c2) 25)
  have s0 : ((w.alloc (.cells #[.int .i64 t.n, .slice A1 t.ov.length c1, .slice A2 t.ls.length c2] 25)).alloc (.cells #[.int .i64 k, .int .i64 m] 31)).cell? ⟨w.heap.size + 1, 0, none⟩ = some (.int .i64 k) := by simp
  have s1 : ((w.alloc (.cells #[.int .i64 t.n, .slice A1 t.ov.length c1, .slice A2 t.ls.length c2] 25)).alloc (.cells #[.int .i64 k, .int .i64 m] 31)).cell? ⟨w.heap.size + 1, 1, none⟩ = some (.int .i64 m) := by simp
  clear hb0 hb1 hT
  cases hg : big t with
  | true =>
    go_enter Tryd.func5, Tryd.ntmps5
    go_wp2_with (first | (go_at_call 10; refine (law10_awake _ (tab_up HT0.out HB HB.size)).mono ?_; rintro e w1 ⟨rfl, hb⟩; replace HT := HT.below hb; replace b0 := cell_up hb b0; replace b1 := cell_up hb b1; replace b2 := cell_up hb b2; replace s0 := cell_up hb s0; replace s1 := cell_up hb s1; replace HB := below_next HB hb; clear hb) | (go_at_call 11; refine (law10_large _ _ _ t _ _ _).mono ?_; rintro e w1 ⟨rfl, hb⟩; replace HT := HT.below hb; replace b0 := cell_up hb b0; replace b1 := cell_up hb b1; replace b2 := cell_up hb b2; replace s0 := cell_up hb s0; replace s1 := cell_up hb s1; replace HB := below_next HB hb; clear hb))
    go_ret
    exact ⟨rfl, HB⟩
  | false =>
    have hls : t.ls.length ≤ 100000 := by have := (big_false hg).2; omega
    have h1 := mask_len t [(k, m)]
    have h2 := arcs_len t k m
    obtain ⟨⟨ys, eb⟩, hU⟩ : ∃ R, unionV t [(k, m)] = R := ⟨_, rfl⟩
    obtain ⟨⟨xs, er⟩, hR⟩ : ∃ R, arcsC t k m = R := ⟨_, rfl⟩
    have cA : Hid (∀ w', TAt w' A1 A2 t → Calls Tryd.prog 18 #[.agg #[.int .i64 t.n, .slice A1 t.ov.length c1, .slice A2 t.ls.length c2], .agg #[.int .i64 k, .int .i64 m]] w' (RetIE w' (xs, er))) := Lib.hid fun w' h => by rw [← hR]; exact component_Arcs t A1 A2 c1 c2 k m w' h hls
    have cB : Hid (∀ w', TAt w' A1 A2 t → Calls Tryd.prog 19 #[.agg #[.int .i64 t.n, .slice A1 t.ov.length c1, .slice A2 t.ls.length c2], .agg #[.int .i64 k, .int .i64 m]] w' (RetIE w' (xs, er))) := Lib.hid fun w' h => by rw [← hR]; exact ref10_Arcs t A1 A2 c1 c2 k m w' h hls
    have cC : Hid (∀ w', TAt w' A1 A2 t → Calls Tryd.prog 20 #[.agg #[.int .i64 t.n, .slice A1 t.ov.length c1, .slice A2 t.ls.length c2], .agg #[.int .i64 k, .int .i64 m]] w' (RetBE w' (ys, eb))) := Lib.hid fun w' h => by rw [← hU]; exact component_Mask t A1 A2 c1 c2 k m w' h hls
    have cD : Hid (∀ w', TAt w' A1 A2 t → Calls Tryd.prog 21 #[.agg #[.int .i64 t.n, .slice A1 t.ov.length c1, .slice A2 t.ls.length c2], .agg #[.int .i64 k, .int .i64 m]] w' (RetBE w' (ys, eb))) := Lib.hid fun w' h => by rw [← hU]; exact ref10_Mask t A1 A2 c1 c2 k m w' h hls
    rw [hU] at h1
    rw [hR] at h2
    simp only at h1 h2
    have hxl : xs.length ≤ 4611686018427387904 := by omega
    have hyl : ys.length ≤ 4611686018427387904 := by omega
    clear hR hU h1 h2 hls
    go_enter Tryd.func5, Tryd.ntmps5
    go_wp2_with (first | (go_at_call 10; refine (law10_awake _ (tab_up HT0.out HB HB.size)).mono ?_; rintro e w1 ⟨rfl, hb⟩; replace HT := HT.below hb; replace b0 := cell_up hb b0; replace b1 := cell_up hb b1; replace b2 := cell_up hb b2; replace s0 := cell_up hb s0; replace s1 := cell_up hb s1; replace HB := below_next HB hb; clear hb) | (go_at_call 11; refine (law10_large _ _ _ t _ _ _).mono ?_; rintro e w1 ⟨rfl, hb⟩; replace HT := HT.below hb; replace b0 := cell_up hb b0; replace b1 := cell_up hb b1; replace b2 := cell_up hb b2; replace s0 := cell_up hb s0; replace s1 := cell_up hb s1; replace HB := below_next HB hb; clear hb) | (go_at_call 18; refine (cA.out _ HT).mono ?_; rintro e wA ⟨Aa, ca, rfl, _, _, ra, hb⟩; replace HT := HT.below hb; replace b0 := cell_up hb b0; replace b1 := cell_up hb b1; replace b2 := cell_up hb b2; replace s0 := cell_up hb s0; replace s1 := cell_up hb s1; replace HB := below_next HB hb; clear hb) | (go_at_call 19; refine (cB.out _ HT).mono ?_; rintro e wB ⟨Ab, cb, rfl, _, _, rb, hb⟩; replace ra := ra.below hb; replace HT := HT.below hb; replace b0 := cell_up hb b0; replace b1 := cell_up hb b1; replace b2 := cell_up hb b2; replace s0 := cell_up hb s0; replace s1 := cell_up hb s1; replace HB := below_next HB hb; clear hb) | (go_at_call 20; refine (cC.out _ HT).mono ?_; rintro e wC ⟨Ac, cc, rfl, rc, hb⟩; replace ra := ra.below hb; replace rb := rb.below hb; replace HT := HT.below hb; replace b0 := cell_up hb b0; replace b1 := cell_up hb b1; replace b2 := cell_up hb b2; replace s0 := cell_up hb s0; replace s1 := cell_up hb s1; replace HB := below_next HB hb; clear hb) | (go_at_call 21; refine (cD.out _ HT).mono ?_; rintro e wD ⟨Ad, cd, rfl, rd, hb⟩; replace ra := ra.below hb; replace rb := rb.below hb; replace rc := rc.below hb; replace HT := HT.below hb; replace b0 := cell_up hb b0; replace b1 := cell_up hb b1; replace b2 := cell_up hb b2; replace s0 := cell_up hb s0; replace s1 := cell_up hb s1; replace HB := below_next HB hb; clear hb))
    have HcI : Hid (∀ d os, Calls Tryd.prog 22 #[.slice Aa xs.length ca, .slice Ab xs.length cb] (grow (redrawn wD d) os) fun e w'' => e = .returned (.bool (true)) ∧ ∃ p : Regrown, w'' = grow (redrawn wD p.d) p.os) := Lib.hid fun d os => Calls.regrown_of (sameInts_refl _ _ _ _ xs _ (ra.below (below_regrown wD d os)) (rb.below (below_regrown wD d os)) hxl)
    have HcB : Hid (∀ d os, Calls Tryd.prog 17 #[.slice Ac ys.length cc, .slice Ad ys.length cd] (grow (redrawn wD d) os) fun e w'' => e = .returned (.bool (true)) ∧ ∃ p : Regrown, w'' = grow (redrawn wD p.d) p.os) := Lib.hid fun d os => Calls.regrown_of (sameBools_refl _ _ _ _ ys _ (rc.below (below_regrown wD d os)) (rd.below (below_regrown wD d os)) hyl)
    have HcV : Hid (∀ d os, Calls Tryd.prog 14 #[.agg #[.int .i64 t.n, .slice A1 t.ov.length c1, .slice A2 t.ls.length c2], .agg #[.int .i64 k, .int .i64 m]] (grow (redrawn wD d) os) fun e w'' => e = .returned (.bool (compV t k m)) ∧ ∃ p : Regrown, w'' = grow (redrawn wD p.d) p.os) := Lib.hid fun d os => Calls.regrown_of (component_Valid t A1 A2 c1 c2 k m _ (HT.re d os))
    have HcW : Hid (∀ d os, Calls Tryd.prog 23 #[.agg #[.int .i64 t.n, .slice A1 t.ov.length c1, .slice A2 t.ls.length c2], .agg #[.int .i64 k, .int .i64 m]] (grow (redrawn wD d) os) fun e w'' => e = .returned (.bool (compV t k m)) ∧ ∃ p : Regrown, w'' = grow (redrawn wD p.d) p.os) := Lib.hid fun d os => Calls.regrown_of (ref10_Valid t A1 A2 c1 c2 k m _ (HT.re d os))
    clear cA cB cC cD HT0 hg ra rb rc rd HT
    have kq_b0 := cell_regrown b0
    have kq_b1 := cell_regrown b1
    have kq_b2 := cell_regrown b2
    have kq_s0 := cell_regrown s0
    have kq_s1 := cell_regrown s1
    refine wp_region_quiet_below (by kernel_rfl) (by kernel_rfl) ?_
    repeat (go_big_quiet_step (first | with_reducible exact HcI.out _ _ | with_reducible exact HcB.out _ _ | with_reducible exact HcV.out _ _ | with_reducible exact HcW.out _ _))
    refine wpQuiet_nil ?_
    intro w2 hb2
    replace hb2 := below_of_regrown hb2
    clear kq_b0 kq_b1 kq_b2 kq_s0 kq_s1
    replace b0 := cell_up hb2 b0
    replace b1 := cell_up hb2 b1
    replace b2 := cell_up hb2 b2
    replace s0 := cell_up hb2 s0
    replace s1 := cell_up hb2 s1
    replace HB := below_next HB hb2
    go_wp2_with fail
    go_ret
    exact ⟨rfl, HB⟩

theorem own : ownKnob Tryd.prog.godebug = none := by kernel_rfl
theorem laidOut : laidOutB Tryd.prog = true := by kernel_rfl
theorem gTab : Tryd.prog.globalNamed "internal/strconv.uint64pow10" = some 3 := by kernel_rfl
theorem gTabType : (Tryd.prog.globals[(3 : Nat)]?).map (·.type) = some 102 := by kernel_rfl
set_option maxRecDepth 100000 in
theorem table {W : World} (h : laidMetH Tryd.prog Rows.componentMaskRow.laid W) : Lib.TabIs Tryd.prog W "internal/strconv.uint64pow10" .u64 Lib.pow10Tab :=
  by
  rw [Go.MakeChecks.laidMetH_plain _ _ _ (by kernel_rfl)] at h
  have hm : ("internal/strconv.uint64pow10", Rows.laid_internal_strconv_uint64pow10) ∈ Rows.componentMaskRow.laid := by simp [Rows.componentMaskRow]
  rw [show (Rows.laid_internal_strconv_uint64pow10 : DataW Unit) = Lib.tabData .u64 Lib.pow10Tab by kernel_rfl] at hm
  obtain ⟨g', t', cs, fuel, p, hg', ht', hvar, hd⟩ := Lib.laidMet.reads h hm
  obtain rfl := Option.some.inj (gTab.symm.trans hg')
  obtain rfl := Option.some.inj (gTabType.symm.trans ht')
  unfold Lib.TabIs
  rw [hvar, ← Lib.cells_of_tab Tryd.underlying102 Tryd.underlying77 (by kernel_rfl) (by kernel_rfl) hd]

set_option maxHeartbeats 1000000 in
set_option maxRecDepth 100000 in
/-- For every argument and every world that holds the tables. -/
theorem contract (H : Type) (enc : TypeId × Value → H) (W : World) (base : Nat) (args : Array Value) (ds gs : List (DataW H)) (before : List MemPlace)
    (hval : ∀ (j : Nat) t v, Tryd.f5.params[j]? = some t → args[j]? = some v → Value.okWide Tryd.prog W .any base t v)
    (hW : DataW.Whole enc Tryd.prog Tryd.f5.params.toList Rows.componentMaskSpec.vars false W args.toList ds gs before) (hL : laidMetH Tryd.prog Rows.componentMaskRow.laid W) :
    Calls Tryd.prog 5 args W fun e W' => ∃ v, e = .returned v ∧ Rows.componentMaskSpec.post enc Tryd.prog Tryd.f5 false true false false W args v W' := by
  have hW' := hW
  obtain ⟨p, q, hA0, hV, rfl, hfz, hnd⟩ := hW
  have hA : DataW.TrodAll enc Tryd.prog W 0 (fun _ => true) true Tryd.f5.params.toList args.toList ds p := hA0
  rw [Tryd.params5] at hA hval
  obtain ⟨v0, vs0, d0, ds0, p0, q0, hargs, rfl, rfl, h0, r0⟩ := trodAll_cons hA
  obtain ⟨v1, vs1, d1, ds1, p1, q1, rfl, rfl, rfl, h1, r1⟩ := trodAll_cons r0
  obtain ⟨rfl, rfl, rfl⟩ := trodAll_nil r1
  obtain rfl : args = #[v0, v1] := by cases args; simp_all
  obtain ⟨rfl, rfl⟩ := trodVars_none hV
  have k0 := h0
  have lt0 : ∀ x ∈ p0, x.block < W.heap.size := by obtain ⟨m, hm⟩ := k0; exact DataW.trod_lt m _ _ _ hm
  obtain ⟨t0, A0a, A0b, c0a, c0b, rfl, hT0, hn0, ho0, hl0, hb0⟩ := open_topo (hval 0 25 v0 rfl rfl) h0
  have k1 := h1
  have lt1 : ∀ x ∈ p1, x.block < W.heap.size := by obtain ⟨m, hm⟩ := k1; exact DataW.trod_lt m _ _ _ hm
  obtain ⟨sk1, sm1, rfl, hk1, hm1⟩ := open_comp (hval 1 31 v1 rfl rfl) h1
  clear hA0
  refine (walk t0 A0a A0b c0a c0b sk1 sm1 W hT0 hn0 ho0 hl0 hb0 hk1 hm1 (Lib.tabBelow_of_tabIs (table hL))).mono fun e W' ⟨he, bel⟩ => ?_
  subst he
  exact ⟨_, rfl, _, _, _, [], _, [], hW', trodAll_mk1 (shut_bool Tryd.underlying4 _), (trodAll_cons_mk (Below.trod laidOut (by kernel_rfl) (of_decide_eq_true (by kernel_rfl)) k0 bel lt0) (trodAll_cons_mk (Below.trod laidOut (by kernel_rfl) (of_decide_eq_true (by kernel_rfl)) k1 bel lt1) trodAll_mk0)), rfl, bel.frame _, fun h => by cases h⟩

/-- The cells of a laid table. -/
def tabCells : DataW Unit → Array Value
  | .agg ds => (ds.map fun | .lit (.int k n) => Value.int k n | _ => undef).toArray
  | _ => #[]
def layTab (c : Array Value) : Obj → Obj
  | .cells _ t frozen => .cells c t frozen
  | o => o
/-- A world for the witness: the settled one, the tables holding what their initialisers lay. -/
noncomputable def laidWorld (os : Os) : World :=
  { World.holding Tryd.prog os ⟨#[], #[], []⟩ with heap := (((World.holding Tryd.prog os ⟨#[], #[], []⟩).heap.modify 3 (layTab (tabCells Rows.laid_internal_strconv_uint64pow10))).modify 4 (layTab (tabCells Rows.laid_math_bits_deBruijn32tab))).modify 5 (layTab (tabCells Rows.laid_math_bits_deBruijn64tab)) }
set_option maxRecDepth 100000 in
theorem laid_met (os : Os) : laidMet Tryd.prog Rows.componentMaskRow.laid ((laidWorld os).forCall (fun _ _ => 0) ⟨#[], #[.agg #[.int .i64 0, .slice none 0 0, .slice none 0 0], .agg #[.int .i64 0, .int .i64 0]], []⟩).memory :=
  laidMet_of_run' 8 (by kernel_rfl) (by kernel_rfl)
set_option maxRecDepth 100000 in
theorem reads (os : Os) {H : Type} (enc : TypeId × Value → H) : ∃ places, DataW.whole enc Tryd.prog ((laidWorld os).forCall (fun _ _ => 0) ⟨#[], #[.agg #[.int .i64 0, .slice none 0 0, .slice none 0 0], .agg #[.int .i64 0, .int .i64 0]], []⟩).memory Tryd.f5.params.toList Rows.componentMaskSpec.vars false (#[.agg #[.int .i64 0, .slice none 0 0, .slice none 0 0], .agg #[.int .i64 0, .int .i64 0]] : Array Value).toList 8 = some ([.agg [.lit (.int .i64 0), .nil, .nil], .agg [.lit (.int .i64 0), .lit (.int .i64 0)]], [], places) :=
  ⟨[], by kernel_rfl⟩

set_option maxRecDepth 100000 in
theorem lifted (os : Os) (started : os.Started) (H : Type) (enc : TypeId × Value → H) (F : Stop.Interp) :
    ReturnsInHanded {} Tryd.checked os 5 .any ((OpenSpec.ofChange Rows.componentMaskSpec).preRow enc Tryd.prog Tryd.f5 Rows.componentMaskRow.domain false Rows.componentMaskRow.laid) (((OpenSpec.ofChange Rows.componentMaskSpec).at F).post enc Tryd.prog Tryd.f5 false true false false) := by
  obtain ⟨places, hx⟩ := reads os enc
  refine returnsInHanded_of_row (C := Tryd.checked) (s := OpenSpec.ofChange Rows.componentMaskSpec) own started (by kernel_rfl) Tryd.func5
    (witness_row_at (enc := enc) (C := Tryd.checked) false (laidWorld os) #[.agg #[.int .i64 0, .slice none 0 0, .slice none 0 0], .agg #[.int .i64 0, .int .i64 0]] rfl (by kernel_rfl) (by kernel_rfl) (by kernel_rfl)
      (OpenSpec.preRow_of_cond 8 hx (by kernel_rfl) (fun k hk => by cases hk) (by kernel_rfl) (laid_met os))) ?_
  intro W base args ds gs before hval hW _ _ _ hL _ _
  exact contract H enc W base args ds gs before hval hW hL

set_option maxRecDepth 100000 in
theorem said : Rows.ComponentMaskSaid :=
  OpenClaim.holds_of_cond 5 Tryd.f5 rfl rfl rfl rfl rfl rfl rfl ⟨rfl, rfl, rfl, rfl, rfl⟩ rfl rfl rfl rfl rfl (by kernel_rfl) Tryd.func5 (by kernel_rfl)
    (of_decide_eq_true (by kernel_rfl)) (by unfold Func.isWrapper; first | (rw [if_pos (by decide +kernel)]; kernel_rfl) | (rw [if_neg (by decide +kernel)]; exact ⟨rfl, rfl⟩))
    (fun os started H enc _ F => by rw [OpenClaim.pre_eq_preRow]; exact lifted os started H enc F)

set_option maxRecDepth 100000 in
theorem plain (f : FuncId) (fn : Func) (hf : Tryd.pinned.checked.prog.funcNamed "waypoint/waypointlaw10.ComponentMask" = some f) (hfn : Tryd.pinned.checked.prog.funcs[f]? = some fn) :
    true = Tryd.pinned.checked.prog.looks [] ∧ ∀ (j : Nat) t, fn.params[j]? = some t → Tryd.pinned.checked.prog.wantsStandIn t = false := by
  obtain rfl : f = 5 := Option.some.inj ((show Tryd.prog.funcNamed "waypoint/waypointlaw10.ComponentMask" = some 5 by kernel_rfl).symm.trans hf) |>.symm
  obtain rfl : fn = Tryd.f5 := (Option.some.inj (Tryd.func5.symm.trans hfn)).symm
  refine ⟨by kernel_rfl, fun j t ht => ?_⟩
  rw [Tryd.params5] at ht
  have hm : t ∈ [25, 31] := by simpa using Array.mem_of_getElem? ht
  have hall : ([25, 31].all fun u => !Tryd.prog.wantsStandIn u) = true := by kernel_rfl
  exact (show Tryd.prog.wantsStandIn t = false by simpa using List.all_eq_true.1 hall t hm)

/-- The card: the statement. -/
theorem card : Rows.ComponentMaskCardSaid :=
  Claim7.holds_tied_plain_at .later [] _ _ _ _ said (fun _ h => by cases h) (by kernel_rfl) (fun _ h => by cases h) componentMask_row_tie rfl ⟨rfl, rfl⟩ (by kernel_rfl) rfl plain (by kernel_rfl)
#print axioms card
end Go.Proofs.YtibennndjfhieaaDoor.componentMask
