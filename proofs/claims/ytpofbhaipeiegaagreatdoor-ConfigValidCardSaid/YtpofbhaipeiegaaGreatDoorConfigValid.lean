/-
  ConfigValid: for every configuration the law returns true: config.Valid agrees with the reference's Valid. The card ConfigValidCardSaid; no condition beyond the given row's.
-/
import Derived.Test.YtpofbhaipeiegaaGreatDoorCfgVr
import Derived.Test.YtpofbhaipeiegaaGreatDoorOpenCfg
import Derived.Test.YtpofbhaipeiegaaGreatDoorCfgFi
import Derived.Test.YtpofbhaipeiegaaGreatDoorErrs
import Derived.Test.YtpofbhaipeiegaaGreatDoorOpen
import Derived.Test.YtpofbhaipeiegaaGreatDoorCards
import Derived.Test.YtpofbhaipeiegaaGreatDoorTie
import Derived.WalkKit
import Derived.ProofKit
import Derived.OpenShut
import Derived.ChangeOld
import Derived.Deep.DeepHandedRow
import Derived.Lib.LaidTab
import Derived.MakeChecks
import Derived.Lib.LaidU8
namespace Go.Proofs.YtpofbhaipeiegaaGreatDoor.configValid
open Go.ChangeShapes Go.WideShapes Go.ChangeAt Go.RowKit Go.Sort
set_option linter.unusedVariables false

set_option maxHeartbeats 8000000 in
set_option maxRecDepth 100000 in
theorem walk (n : Int) (r : Rws) (c : Cf) (w : World) (hL : VLim c) (hn63 : c.names.length ≤ maxLen ∧ c.lnames.length ≤ maxLen) (hC : CAt w r c) (ht : Tab w.heap.size w) (hE : Errs w) :
    Calls Tryz.prog 6 #[.agg (cfCells n r c)] w fun e w' => e = .returned (.bool true) ∧ Below w.heap.size w w' := by
  have HK := Lib.hid (KC.start 56 w n r c hC)
  have HT := Lib.hid ht
  have HE := Lib.hid hE
  obtain ⟨t0, ht0⟩ : ∃ t, t = c.tm.getD 0 0 := ⟨_, rfl⟩
  obtain ⟨t1, ht1⟩ : ∃ t, t = c.tm.getD 1 0 := ⟨_, rfl⟩
  obtain ⟨t2, ht2⟩ : ∃ t, t = c.tm.getD 2 0 := ⟨_, rfl⟩
  obtain ⟨t3, ht3⟩ : ∃ t, t = c.tm.getD 3 0 := ⟨_, rfl⟩
  obtain ⟨t4, ht4⟩ : ∃ t, t = c.tm.getD 4 0 := ⟨_, rfl⟩
  have HALL : Hid ((#[.slice r.aN c.names.length r.cN, .slice r.aL c.lnames.length r.cL, .int .i64 n, .slice r.aO c.ov.length r.cO, .slice r.aK c.links.length r.cK, .slice r.aP c.pfx.length r.cP, .slice r.aQ c.pols.length r.cQ, .slice r.aD c.dems.length r.cD, .int .i64 t0, .int .i64 t1, .int .i64 t2, .int .i64 t3, .int .i64 t4] : Array Value) = cfCells n r c) := Lib.hid (by rw [ht0, ht1, ht2, ht3, ht4]; rfl)
  obtain ⟨vb, hvb⟩ : ∃ b, b = cfgB n c := ⟨_, rfl⟩
  have HLG : Hid (∀ W, CAt W r c → Calls Tryz.prog 18 #[.agg #[.slice r.aN c.names.length r.cN, .slice r.aL c.lnames.length r.cL, .int .i64 n, .slice r.aO c.ov.length r.cO, .slice r.aK c.links.length r.cK, .slice r.aP c.pfx.length r.cP, .slice r.aQ c.pols.length r.cQ, .slice r.aD c.dems.length r.cD, .int .i64 t0, .int .i64 t1, .int .i64 t2, .int .i64 t3, .int .i64 t4]] W fun e w' => (∃ b, e = .returned (.bool b)) ∧ Below W.heap.size W w') := Lib.hid fun W h => by rw [HALL.out]; exact law15_large n r c hL hn63 W h
  have HVA : Hid (∀ W, CAt W r c → Calls Tryz.prog 19 #[.agg #[.slice r.aN c.names.length r.cN, .slice r.aL c.lnames.length r.cL, .int .i64 n, .slice r.aO c.ov.length r.cO, .slice r.aK c.links.length r.cK, .slice r.aP c.pfx.length r.cP, .slice r.aQ c.pols.length r.cQ, .slice r.aD c.dems.length r.cD, .int .i64 t0, .int .i64 t1, .int .i64 t2, .int .i64 t3, .int .i64 t4]] W fun e w' => e = .returned (.bool vb) ∧ Below W.heap.size W w') := Lib.hid fun W h => by rw [HALL.out, hvb]; exact config_Valid n r c hL W h
  have HVR : Hid (∀ W, CAt W r c → Calls Tryz.prog 20 #[.agg #[.slice r.aN c.names.length r.cN, .slice r.aL c.lnames.length r.cL, .int .i64 n, .slice r.aO c.ov.length r.cO, .slice r.aK c.links.length r.cK, .slice r.aP c.pfx.length r.cP, .slice r.aQ c.pols.length r.cQ, .slice r.aD c.dems.length r.cD, .int .i64 t0, .int .i64 t1, .int .i64 t2, .int .i64 t3, .int .i64 t4]] W fun e w' => e = .returned (.bool vb) ∧ Below W.heap.size W w') := Lib.hid fun W h => by rw [HALL.out, hvb]; exact ref15_Valid n r c hL W h
  have HTM0 := Lib.hid ht0
  have HTM1 := Lib.hid ht1
  have HTM2 := Lib.hid ht2
  have HTM3 := Lib.hid ht3
  have HTM4 := Lib.hid ht4
  clear hL hn63 hC ht hE hvb ht0 ht1 ht2 ht3 ht4
  go_enter Tryz.func6, Tryz.ntmps6
  go_wp2_with (first | (go_at_call 8; refine (law15_awake _ (HE.out.up HK.out.hb) (tab_up HT.out HK.out.hb HK.out.hb.size)).mono ?_; rintro e w1 ⟨rfl, hb⟩; replace HK := Lib.hid (HK.out.up hb); clear hb; obtain ⟨p0, p1, p2, p3, p4, p5, p6, p7, p8, p9, p10, p11, p12⟩ := HK.out.all HTM0.out HTM1.out HTM2.out HTM3.out HTM4.out) | (go_at_call 18; (with_reducible refine (HLG.out _ HK.out.c1).mono ?_); rintro e w2 ⟨⟨lb, rfl⟩, hb⟩; replace HK := Lib.hid (HK.out.up hb); clear hb p0 p1 p2 p3 p4 p5 p6 p7 p8 p9 p10 p11 p12; cases lb; rotate_left))
  · go_ret
    exact ⟨rfl, HK.out.hb⟩
  · obtain ⟨p0, p1, p2, p3, p4, p5, p6, p7, p8, p9, p10, p11, p12⟩ := HK.out.all HTM0.out HTM1.out HTM2.out HTM3.out HTM4.out
    have HGA : Hid (∀ d os, Calls Tryz.prog 19 #[.agg #[.slice r.aN c.names.length r.cN, .slice r.aL c.lnames.length r.cL, .int .i64 n, .slice r.aO c.ov.length r.cO, .slice r.aK c.links.length r.cK, .slice r.aP c.pfx.length r.cP, .slice r.aQ c.pols.length r.cQ, .slice r.aD c.dems.length r.cD, .int .i64 t0, .int .i64 t1, .int .i64 t2, .int .i64 t3, .int .i64 t4]] (grow (redrawn w2 d) os) fun e w'' => e = .returned (.bool vb) ∧ ∃ p : Regrown, w'' = grow (redrawn w2 p.d) p.os) := Lib.hid fun d os => Calls.regrown_of (HVA.out _ (HK.out.c1.below (below_regrown w2 d os)))
    have HGR : Hid (∀ d os, Calls Tryz.prog 20 #[.agg #[.slice r.aN c.names.length r.cN, .slice r.aL c.lnames.length r.cL, .int .i64 n, .slice r.aO c.ov.length r.cO, .slice r.aK c.links.length r.cK, .slice r.aP c.pfx.length r.cP, .slice r.aQ c.pols.length r.cQ, .slice r.aD c.dems.length r.cD, .int .i64 t0, .int .i64 t1, .int .i64 t2, .int .i64 t3, .int .i64 t4]] (grow (redrawn w2 d) os) fun e w'' => e = .returned (.bool vb) ∧ ∃ p : Regrown, w'' = grow (redrawn w2 p.d) p.os) := Lib.hid fun d os => Calls.regrown_of (HVR.out _ (HK.out.c1.below (below_regrown w2 d os)))
    clear HVA HVR HLG
    cases vb
    · skip
      have kq_p0 := cell_regrown p0
      have kq_p1 := cell_regrown p1
      have kq_p2 := cell_regrown p2
      have kq_p3 := cell_regrown p3
      have kq_p4 := cell_regrown p4
      have kq_p5 := cell_regrown p5
      have kq_p6 := cell_regrown p6
      have kq_p7 := cell_regrown p7
      have kq_p8 := cell_regrown p8
      have kq_p9 := cell_regrown p9
      have kq_p10 := cell_regrown p10
      have kq_p11 := cell_regrown p11
      have kq_p12 := cell_regrown p12
      refine wp_region_quiet_below (by kernel_rfl) (by kernel_rfl) ?_
      repeat (go_big_quiet_step (first | with_reducible exact HGA.out _ _ | with_reducible exact HGR.out _ _))
      refine wpQuiet_nil ?_
      intro w5 hb5
      replace hb5 := below_of_regrown hb5
      clear kq_p0 kq_p1 kq_p2 kq_p3 kq_p4 kq_p5 kq_p6 kq_p7 kq_p8 kq_p9 kq_p10 kq_p11 kq_p12
      replace p0 := cell_up hb5 p0
      replace p1 := cell_up hb5 p1
      replace p2 := cell_up hb5 p2
      replace p3 := cell_up hb5 p3
      replace p4 := cell_up hb5 p4
      replace p5 := cell_up hb5 p5
      replace p6 := cell_up hb5 p6
      replace p7 := cell_up hb5 p7
      replace p8 := cell_up hb5 p8
      replace p9 := cell_up hb5 p9
      replace p10 := cell_up hb5 p10
      replace p11 := cell_up hb5 p11
      replace p12 := cell_up hb5 p12
      go_wp2_with fail
      go_ret
      exact ⟨rfl, below_next HK.out.hb hb5⟩
    · skip
      have kq_p0 := cell_regrown p0
      have kq_p1 := cell_regrown p1
      have kq_p2 := cell_regrown p2
      have kq_p3 := cell_regrown p3
      have kq_p4 := cell_regrown p4
      have kq_p5 := cell_regrown p5
      have kq_p6 := cell_regrown p6
      have kq_p7 := cell_regrown p7
      have kq_p8 := cell_regrown p8
      have kq_p9 := cell_regrown p9
      have kq_p10 := cell_regrown p10
      have kq_p11 := cell_regrown p11
      have kq_p12 := cell_regrown p12
      refine wp_region_quiet_below (by kernel_rfl) (by kernel_rfl) ?_
      repeat (go_big_quiet_step (first | with_reducible exact HGA.out _ _ | with_reducible exact HGR.out _ _))
      refine wpQuiet_nil ?_
      intro w5 hb5
      replace hb5 := below_of_regrown hb5
      clear kq_p0 kq_p1 kq_p2 kq_p3 kq_p4 kq_p5 kq_p6 kq_p7 kq_p8 kq_p9 kq_p10 kq_p11 kq_p12
      replace p0 := cell_up hb5 p0
      replace p1 := cell_up hb5 p1
      replace p2 := cell_up hb5 p2
      replace p3 := cell_up hb5 p3
      replace p4 := cell_up hb5 p4
      replace p5 := cell_up hb5 p5
      replace p6 := cell_up hb5 p6
      replace p7 := cell_up hb5 p7
      replace p8 := cell_up hb5 p8
      replace p9 := cell_up hb5 p9
      replace p10 := cell_up hb5 p10
      replace p11 := cell_up hb5 p11
      replace p12 := cell_up hb5 p12
      go_wp2_with fail
      go_ret
      exact ⟨rfl, below_next HK.out.hb hb5⟩

theorem own : ownKnob Tryz.prog.godebug = none := by kernel_rfl
theorem laidOut : laidOutB Tryz.prog = true := by kernel_rfl
theorem gTab : Tryz.prog.globalNamed "internal/strconv.uint64pow10" = some 3 := by kernel_rfl
theorem gTabType : (Tryz.prog.globals[(3 : Nat)]?).map (·.type) = some 176 := by kernel_rfl
set_option maxRecDepth 100000 in
theorem table {W : World} (h : laidMetH Tryz.prog Rows.configValidRow.laid W) : Lib.TabIs Tryz.prog W "internal/strconv.uint64pow10" .u64 Lib.pow10Tab :=
  by
  rw [Go.MakeChecks.laidMetH_plain _ _ _ (by kernel_rfl)] at h
  have hm : ("internal/strconv.uint64pow10", Rows.laid_internal_strconv_uint64pow10) ∈ Rows.configValidRow.laid := by simp [Rows.configValidRow]
  rw [show (Rows.laid_internal_strconv_uint64pow10 : DataW Unit) = Lib.tabData .u64 Lib.pow10Tab by kernel_rfl] at hm
  obtain ⟨g', t', cs, fuel, p, hg', ht', hvar, hd⟩ := Lib.laidMet.reads h hm
  obtain rfl := Option.some.inj (gTab.symm.trans hg')
  obtain rfl := Option.some.inj (gTabType.symm.trans ht')
  unfold Lib.TabIs
  rw [hvar, ← Lib.cells_of_tab Tryz.underlying176 Tryz.underlying67 (by kernel_rfl) (by kernel_rfl) hd]

set_option maxRecDepth 100000 in
theorem errs {W : World} (h : laidMetH Tryz.prog Rows.configValidRow.laid W) : Errs W := by
  rw [Go.MakeChecks.laidMetH_plain _ _ _ (by kernel_rfl)] at h
  exact errs_of (laidMet.tail (laidMet.tail (laidMet.tail (laidMet.tail h))))

set_option maxHeartbeats 1000000 in
set_option maxRecDepth 100000 in
/-- For every argument and every world that holds the tables. -/
theorem contract (H : Type) (enc : TypeId × Value → H) (W : World) (base : Nat) (args : Array Value) (ds gs : List (DataW H)) (before : List MemPlace)
    (hval : ∀ (j : Nat) t v, Tryz.f6.params[j]? = some t → args[j]? = some v → Value.okWide Tryz.prog W .any base t v)
    (hW : DataW.Whole enc Tryz.prog Tryz.f6.params.toList Rows.configValidSpec.vars false W args.toList ds gs before) (hL : laidMetH Tryz.prog Rows.configValidRow.laid W) :
    Calls Tryz.prog 6 args W fun e W' => ∃ v, e = .returned v ∧ Rows.configValidSpec.post enc Tryz.prog Tryz.f6 false true false false W args v W' := by
  have hW' := hW
  obtain ⟨p, q, hAll, hV, rfl, hfz, hnd⟩ := hW
  have hA : DataW.TrodAll enc Tryz.prog W 0 (fun _ => true) true Tryz.f6.params.toList args.toList ds p := hAll
  rw [Tryz.params6] at hA hval
  obtain ⟨v0, vs0, d0, ds0, p0, q0, hargs, rfl, rfl, h0, r0⟩ := trodAll_cons hA
  obtain ⟨rfl, rfl, rfl⟩ := trodAll_nil r0
  obtain rfl : args = #[v0] := by cases args; simp_all
  obtain ⟨rfl, rfl⟩ := trodVars_none hV
  have k0 := h0
  have lt0 : ∀ x ∈ p0, x.block < W.heap.size := by obtain ⟨m, hm⟩ := k0; exact DataW.trod_lt m _ _ _ hm
  obtain ⟨n0, R0, c0, rfl, hV0, hN0, hC0⟩ := open_cfg (hval 0 56 v0 rfl rfl) h0
  clear hAll
  refine (walk n0 R0 c0 W hV0 hN0 hC0 (Lib.tabBelow_of_tabIs (table hL)) (errs hL)).mono fun e W' ⟨he, bel⟩ => ?_
  subst he
  exact ⟨_, rfl, _, _, _, [], _, [], hW', trodAll_mk1 (shut_bool Tryz.underlying4 _), (trodAll_cons_mk (Below.trod laidOut (by kernel_rfl) (of_decide_eq_true (by kernel_rfl)) k0 bel lt0) trodAll_mk0), rfl, bel.frame _, fun h => by cases h⟩

/-- The cells of a laid table. -/
def litCells : DataW Unit → List Value
  | .lit (.int k n) => [Value.int k n]
  | _ => []
def aggCells : DataW Unit → List Value
  | .agg ds => ds.flatMap litCells
  | d => litCells d
def tabCells : DataW Unit → Array Value
  | .agg ds => (ds.flatMap aggCells).toArray
  | _ => #[]
def layTab (c : Array Value) : Obj → Obj
  | .cells _ t frozen => .cells c t frozen
  | o => o
/-- A world for the witness: the settled one, the tables holding what their initialisers lay. -/
noncomputable def low : Nat := (World.holding Tryz.prog default ⟨#[], #[], []⟩).heap.size
noncomputable def heldWorld (os : Os) : World := World.holding Tryz.prog os ⟨#[.cells #[.string ⟨#[118, 97, 108, 117, 101, 32, 111, 117, 116, 32, 111, 102, 32, 114, 97, 110, 103, 101]⟩] 198, .cells #[.string ⟨#[105, 110, 118, 97, 108, 105, 100, 32, 115, 121, 110, 116, 97, 120]⟩] 198], #[], []⟩
noncomputable def laidWorld (os : Os) : World :=
  { heldWorld os with heap := ((((((((heldWorld os).heap.modify 6 (layTab (tabCells Rows.laid_math_bits_deBruijn32tab))).modify 7 (layTab (tabCells Rows.laid_math_bits_deBruijn64tab))).modify 3 (layTab (tabCells Rows.laid_internal_strconv_uint64pow10))).modify 2 (layTab (tabCells Rows.laid_unicode_utf8_acceptRanges))).modify 5 (layTab #[.iface 196 (.pointer (some ⟨low, 0, none⟩))])).modify 4 (layTab #[.iface 196 (.pointer (some ⟨low + 1, 0, none⟩))])).modify 1 (layTab (tabCells Rows.laid_unicode_utf8_first))) }
set_option maxRecDepth 100000 in
theorem laid_met (os : Os) : laidMet Tryz.prog Rows.configValidRow.laid ((laidWorld os).forCall (fun _ _ => 0) ⟨#[], #[.agg #[.slice none 0 0, .slice none 0 0, .int .i64 0, .slice none 0 0, .slice none 0 0, .slice none 0 0, .slice none 0 0, .slice none 0 0, .int .i64 0, .int .i64 0, .int .i64 0, .int .i64 0, .int .i64 0]], []⟩).memory :=
  laidMet_of_run' 8 (by kernel_rfl) (by kernel_rfl)
set_option maxRecDepth 100000 in
theorem reads (os : Os) {H : Type} (enc : TypeId × Value → H) : ∃ places, DataW.whole enc Tryz.prog ((laidWorld os).forCall (fun _ _ => 0) ⟨#[], #[.agg #[.slice none 0 0, .slice none 0 0, .int .i64 0, .slice none 0 0, .slice none 0 0, .slice none 0 0, .slice none 0 0, .slice none 0 0, .int .i64 0, .int .i64 0, .int .i64 0, .int .i64 0, .int .i64 0]], []⟩).memory Tryz.f6.params.toList Rows.configValidSpec.vars false (#[.agg #[.slice none 0 0, .slice none 0 0, .int .i64 0, .slice none 0 0, .slice none 0 0, .slice none 0 0, .slice none 0 0, .slice none 0 0, .int .i64 0, .int .i64 0, .int .i64 0, .int .i64 0, .int .i64 0]] : Array Value).toList 8 = some ([.agg [.nil, .nil, .agg [.lit (.int .i64 0), .nil, .nil], .nil, .nil, .nil, .agg [.lit (.int .i64 0), .lit (.int .i64 0), .lit (.int .i64 0), .lit (.int .i64 0), .lit (.int .i64 0)]]], [], places) :=
  ⟨[], by kernel_rfl⟩

set_option maxRecDepth 100000 in
theorem lifted (os : Os) (started : os.Started) (H : Type) (enc : TypeId × Value → H) (F : Stop.Interp) :
    ReturnsInHanded {} Tryz.checked os 6 .any ((OpenSpec.ofChange Rows.configValidSpec).preRow enc Tryz.prog Tryz.f6 Rows.configValidRow.domain false Rows.configValidRow.laid) (((OpenSpec.ofChange Rows.configValidSpec).at F).post enc Tryz.prog Tryz.f6 false true false false) := by
  obtain ⟨places, hx⟩ := reads os enc
  refine returnsInHanded_of_row (C := Tryz.checked) (s := OpenSpec.ofChange Rows.configValidSpec) own started (by kernel_rfl) Tryz.func6
    (witness_row_at (enc := enc) (C := Tryz.checked) false (laidWorld os) #[.agg #[.slice none 0 0, .slice none 0 0, .int .i64 0, .slice none 0 0, .slice none 0 0, .slice none 0 0, .slice none 0 0, .slice none 0 0, .int .i64 0, .int .i64 0, .int .i64 0, .int .i64 0, .int .i64 0]] rfl (by kernel_rfl) (by kernel_rfl) (by kernel_rfl)
      (OpenSpec.preRow_of_cond 8 hx (by kernel_rfl) (fun k hk => by cases hk) (by kernel_rfl) (laid_met os))) ?_
  intro W base args ds gs before hval hW _ _ _ hL _ _
  exact contract H enc W base args ds gs before hval hW hL

set_option maxRecDepth 100000 in
theorem said : Rows.ConfigValidSaid :=
  OpenClaim.holds_of_cond 6 Tryz.f6 rfl rfl rfl rfl rfl rfl rfl ⟨rfl, rfl, rfl, rfl, rfl⟩ rfl rfl rfl rfl rfl (by kernel_rfl) Tryz.func6 (by kernel_rfl)
    (of_decide_eq_true (by kernel_rfl)) (by unfold Func.isWrapper; first | (rw [if_pos (by decide +kernel)]; kernel_rfl) | (rw [if_neg (by decide +kernel)]; exact ⟨rfl, rfl⟩))
    (fun os started H enc _ F => by rw [OpenClaim.pre_eq_preRow]; exact lifted os started H enc F)

set_option maxRecDepth 100000 in
theorem plain (f : FuncId) (fn : Func) (hf : Tryz.pinned.checked.prog.funcNamed "waypoint/waypointlaw15.ConfigValid" = some f) (hfn : Tryz.pinned.checked.prog.funcs[f]? = some fn) :
    true = Tryz.pinned.checked.prog.looks [] ∧ ∀ (j : Nat) t, fn.params[j]? = some t → Tryz.pinned.checked.prog.wantsStandIn t = false := by
  obtain rfl : f = 6 := Option.some.inj ((show Tryz.prog.funcNamed "waypoint/waypointlaw15.ConfigValid" = some 6 by kernel_rfl).symm.trans hf) |>.symm
  obtain rfl : fn = Tryz.f6 := (Option.some.inj (Tryz.func6.symm.trans hfn)).symm
  refine ⟨by kernel_rfl, fun j t ht => ?_⟩
  rw [Tryz.params6] at ht
  have hm : t ∈ [56] := by simpa using Array.mem_of_getElem? ht
  have hall : ([56].all fun u => !Tryz.prog.wantsStandIn u) = true := by kernel_rfl
  exact (show Tryz.prog.wantsStandIn t = false by simpa using List.all_eq_true.1 hall t hm)

/-- The card: the statement. -/
theorem card : Rows.ConfigValidCardSaid :=
  Claim7.holds_tied_plain_at .later [] _ _ _ _ said (fun _ h => by cases h) (by kernel_rfl) (fun _ h => by cases h) configValid_row_tie rfl ⟨rfl, rfl⟩ (by kernel_rfl) rfl plain (by kernel_rfl)
#print axioms card
end Go.Proofs.YtpofbhaipeiegaaGreatDoor.configValid
