/-
  ExplainText: for every list of events and every cause the law returns true: explain.Text returns the text of the reference. The card ExplainTextCardSaid; no condition beyond the given row's.
-/
import Derived.Test.YtjcnjnonhncelaaDoorAwake57
import Derived.Test.YtjcnjnonhncelaaDoorExplR
import Derived.Test.YtjcnjnonhncelaaDoorOpenCa
import Derived.Test.YtjcnjnonhncelaaDoorOpenTr
import Derived.Test.YtjcnjnonhncelaaDoorOpen
import Derived.Test.YtjcnjnonhncelaaDoorCards
import Derived.Test.YtjcnjnonhncelaaDoorTie
import Derived.WalkKit
import Derived.ProofKit
import Derived.OpenShut
import Derived.ChangeOld
import Derived.Deep.DeepHandedRow
import Derived.Lib.LaidTab
import Derived.MakeChecks
import Derived.Lib.LaidU8
namespace Go.Proofs.YtjcnjnonhncelaaDoor.explainText
open Go.ChangeShapes Go.WideShapes Go.ChangeAt Go.RowKit Go.Sort
set_option linter.unusedVariables false

set_option maxHeartbeats 4000000 in
set_option maxRecDepth 100000 in
theorem walk (A : Option Addr) (c : Nat) (l : List Ev) (r e v : Int) (w : World) (hlc : l.length ≤ c) (hcm : c ≤ maxLen) (hx : ∀ e ∈ l, EvIn e) (hA : RdE w A l) (ht : Tab w.heap.size w) :
    Calls Tryd.prog 8 #[.slice A l.length c, .agg #[.int .i64 r, .int .i64 e, .int .i64 v]] w fun e w' => e = .returned (.bool true) ∧ Below w.heap.size w w' := by
  clear hx
  have HT := Lib.hid ht
  have HA := Lib.hid hA
  have HW := Lib.hid (below_box w (.cells #[.int .i64 r, .int .i64 e, .int .i64 v] 46))
  have HC : Hid ((w.alloc (.cells #[.int .i64 r, .int .i64 e, .int .i64 v] 46)).heap[w.heap.size]? = some (.cells #[.int .i64 r, .int .i64 e, .int .i64 v] 46 (0, 0))) := Lib.hid (heap_alloc_new _ _)
  clear ht hA
  go_enter Tryd.func8, Tryd.ntmps8
  go_upto_region 1 with fail
  generalize w.alloc (.cells #[.int .i64 r, .int .i64 e, .int .i64 v] 46) = W1 at *
  by_cases h6 : 60 < (l.length : Int)
  · go_wp2_with (go_at_call 23; (with_reducible refine (law57_awake _ (tab_up HT.out HW.out HW.out.size)).mono ?_); rintro e9 w1 ⟨rfl, hb⟩; replace HW := Lib.hid (below_next HW.out hb); clear hb)
    go_ret
    exact ⟨rfl, HW.out⟩
  have hl : l.length ≤ 60 := by omega
  go_upto_region 3 with (go_at_call 23; (with_reducible refine (law57_awake _ (tab_up HT.out HW.out HW.out.size)).mono ?_); rintro e9 w1 ⟨rfl, hb⟩; replace HW := Lib.hid (below_next HW.out hb); replace HC := Lib.hid ((hb.block _ (lt_of_heap HC.out)).trans HC.out); clear hb)
  obtain ⟨c0, c1, c2, _⟩ := three_facts HC.out
  have HTw := Lib.hid (tab_up HT.out HW.out HW.out.size)
  have HAw := Lib.hid (HA.out.below HW.out)
  have H1 : Hid (∀ d os, Calls Tryd.prog 24 #[.slice A l.length c, .agg #[.int .i64 r, .int .i64 e, .int .i64 v]] (grow (redrawn w1 d) os) fun e9 w'' => e9 = .returned (.string ⟨(expT l r e v).toArray⟩) ∧ ∃ p : Regrown, w'' = grow (redrawn w1 p.d) p.os) := Lib.hid fun d os => Calls.regrown_of (explain_Text A c l r e v _ (HAw.out.below (below_regrown w1 d os)) (by omega) hlc hcm (tab_up HTw.out (below_regrown w1 d os) (below_regrown w1 d os).size))
  have H2 : Hid (∀ d os, Calls Tryd.prog 25 #[.slice A l.length c, .agg #[.int .i64 r, .int .i64 e, .int .i64 v]] (grow (redrawn w1 d) os) fun e9 w'' => e9 = .returned (.string ⟨(expT l r e v).toArray⟩) ∧ ∃ p : Regrown, w'' = grow (redrawn w1 p.d) p.os) := Lib.hid fun d os => Calls.regrown_of (ref57_Text A c l r e v _ (HAw.out.below (below_regrown w1 d os)) (by omega))
  generalize expT l r e v = X at *
  have HW2 := HW.out
  have kq_c0 := cell_regrown c0
  have kq_c1 := cell_regrown c1
  have kq_c2 := cell_regrown c2
  refine wp_region_quiet_below (by kernel_rfl) (by kernel_rfl) ?_
  repeat (go_big_quiet_step (first | with_reducible exact H1.out _ _ | with_reducible exact H2.out _ _))
  refine wpQuiet_nil ?_
  intro w2 hb2
  replace hb2 := below_of_regrown hb2
  clear kq_c0 kq_c1 kq_c2
  replace c0 := cell_up hb2 c0
  replace c1 := cell_up hb2 c1
  replace c2 := cell_up hb2 c2
  replace HW2 := below_next HW2 hb2
  go_wp2_with fail
  go_ret
  exact ⟨rfl, HW2⟩

theorem own : ownKnob Tryd.prog.godebug = none := by kernel_rfl
theorem laidOut : laidOutB Tryd.prog = true := by kernel_rfl
theorem gTab : Tryd.prog.globalNamed "internal/strconv.uint64pow10" = some 3 := by kernel_rfl
theorem gTabType : (Tryd.prog.globals[(3 : Nat)]?).map (·.type) = some 169 := by kernel_rfl
set_option maxRecDepth 100000 in
theorem table {W : World} (h : laidMetH Tryd.prog Rows.explainTextRow.laid W) : Lib.TabIs Tryd.prog W "internal/strconv.uint64pow10" .u64 Lib.pow10Tab :=
  by
  rw [Go.MakeChecks.laidMetH_plain _ _ _ (by kernel_rfl)] at h
  have hm : ("internal/strconv.uint64pow10", Rows.laid_internal_strconv_uint64pow10) ∈ Rows.explainTextRow.laid := by simp [Rows.explainTextRow]
  rw [show (Rows.laid_internal_strconv_uint64pow10 : DataW Unit) = Lib.tabData .u64 Lib.pow10Tab by kernel_rfl] at hm
  obtain ⟨g', t', cs, fuel, p, hg', ht', hvar, hd⟩ := Lib.laidMet.reads h hm
  obtain rfl := Option.some.inj (gTab.symm.trans hg')
  obtain rfl := Option.some.inj (gTabType.symm.trans ht')
  unfold Lib.TabIs
  rw [hvar, ← Lib.cells_of_tab Tryd.underlying169 Tryd.underlying130 (by kernel_rfl) (by kernel_rfl) hd]

set_option maxHeartbeats 1000000 in
set_option maxRecDepth 100000 in
/-- For every argument and every world that holds the tables. -/
theorem contract (H : Type) (enc : TypeId × Value → H) (W : World) (base : Nat) (args : Array Value) (ds gs : List (DataW H)) (before : List MemPlace)
    (hval : ∀ (j : Nat) t v, Tryd.f8.params[j]? = some t → args[j]? = some v → Value.okWide Tryd.prog W .any base t v)
    (hW : DataW.Whole enc Tryd.prog Tryd.f8.params.toList Rows.explainTextSpec.vars false W args.toList ds gs before) (hL : laidMetH Tryd.prog Rows.explainTextRow.laid W) :
    Calls Tryd.prog 8 args W fun e W' => ∃ v, e = .returned v ∧ Rows.explainTextSpec.post enc Tryd.prog Tryd.f8 false true false false W args v W' := by
  have hW' := hW
  obtain ⟨p, q, hAll, hV, rfl, hfz, hnd⟩ := hW
  have hA : DataW.TrodAll enc Tryd.prog W 0 (fun _ => true) true Tryd.f8.params.toList args.toList ds p := hAll
  rw [Tryd.params8] at hA hval
  obtain ⟨v0, vs0, d0, ds0, p0, q0, hargs, rfl, rfl, h0, r0⟩ := trodAll_cons hA
  obtain ⟨v1, vs1, d1, ds1, p1, q1, rfl, rfl, rfl, h1, r1⟩ := trodAll_cons r0
  obtain ⟨rfl, rfl, rfl⟩ := trodAll_nil r1
  obtain rfl : args = #[v0, v1] := by cases args; simp_all
  obtain ⟨rfl, rfl⟩ := trodVars_none hV
  have k0 := h0
  have lt0 : ∀ x ∈ p0, x.block < W.heap.size := by obtain ⟨m, hm⟩ := k0; exact DataW.trod_lt m _ _ _ hm
  obtain ⟨A0, c0, l0, rfl, hlc0, hcm0, hx0, hA0⟩ := open_evs (hval 0 22 v0 rfl rfl) h0
  have k1 := h1
  have lt1 : ∀ x ∈ p1, x.block < W.heap.size := by obtain ⟨m, hm⟩ := k1; exact DataW.trod_lt m _ _ _ hm
  obtain ⟨r1, e1, y1, rfl⟩ := open_cause (hval 1 46 v1 rfl rfl) h1
  clear hAll
  refine (walk A0 c0 l0 r1 e1 y1 W hlc0 hcm0 hx0 hA0  (Lib.tabBelow_of_tabIs (table hL))).mono fun e W' ⟨he, bel⟩ => ?_
  subst he
  exact ⟨_, rfl, _, _, _, [], _, [], hW', trodAll_mk1 (shut_bool Tryd.underlying4 _), (trodAll_cons_mk (Below.trod laidOut (by kernel_rfl) (of_decide_eq_true (by kernel_rfl)) k0 bel lt0) (trodAll_cons_mk (Below.trod laidOut (by kernel_rfl) (of_decide_eq_true (by kernel_rfl)) k1 bel lt1) trodAll_mk0)), rfl, bel.frame _, fun h => by cases h⟩

/-- The cells of a laid table. -/
def litCells : DataW Unit → List Value
  | .lit (.int k n) => [Value.int k n]
  | _ => []
def aggCells : DataW Unit → List Value
  | .agg ds => ds.flatMap litCells
  | d => litCells d
def tabCells : DataW Unit → Array Value
  | .agg ds => (ds.flatMap aggCells).toArray
  | _ => #[]
def layTab (c : Array Value) : Obj → Obj
  | .cells _ t frozen => .cells c t frozen
  | o => o
/-- A world for the witness: the settled one, the tables holding what their initialisers lay. -/
noncomputable def laidWorld (os : Os) : World :=
  { World.holding Tryd.prog os ⟨#[], #[], []⟩ with heap := (((World.holding Tryd.prog os ⟨#[], #[], []⟩).heap.modify 3 (layTab (tabCells Rows.laid_internal_strconv_uint64pow10))).modify 6 (layTab (tabCells Rows.laid_math_bits_deBruijn32tab))).modify 7 (layTab (tabCells Rows.laid_math_bits_deBruijn64tab)) }
set_option maxRecDepth 100000 in
theorem laid_met (os : Os) : laidMet Tryd.prog Rows.explainTextRow.laid ((laidWorld os).forCall (fun _ _ => 0) ⟨#[], #[.slice none 0 0, .agg #[.int .i64 0, .int .i64 0, .int .i64 0]], []⟩).memory :=
  laidMet_of_run' 8 (by kernel_rfl) (by kernel_rfl)
set_option maxRecDepth 100000 in
theorem reads (os : Os) {H : Type} (enc : TypeId × Value → H) : ∃ places, DataW.whole enc Tryd.prog ((laidWorld os).forCall (fun _ _ => 0) ⟨#[], #[.slice none 0 0, .agg #[.int .i64 0, .int .i64 0, .int .i64 0]], []⟩).memory Tryd.f8.params.toList Rows.explainTextSpec.vars false (#[.slice none 0 0, .agg #[.int .i64 0, .int .i64 0, .int .i64 0]] : Array Value).toList 8 = some ([.nil, .agg [.lit (.int .i64 0), .lit (.int .i64 0), .lit (.int .i64 0)]], [], places) :=
  ⟨[], by kernel_rfl⟩

set_option maxRecDepth 100000 in
theorem lifted (os : Os) (started : os.Started) (H : Type) (enc : TypeId × Value → H) (F : Stop.Interp) :
    ReturnsInHanded {} Tryd.checked os 8 .any ((OpenSpec.ofChange Rows.explainTextSpec).preRow enc Tryd.prog Tryd.f8 Rows.explainTextRow.domain false Rows.explainTextRow.laid) (((OpenSpec.ofChange Rows.explainTextSpec).at F).post enc Tryd.prog Tryd.f8 false true false false) := by
  obtain ⟨places, hx⟩ := reads os enc
  refine returnsInHanded_of_row (C := Tryd.checked) (s := OpenSpec.ofChange Rows.explainTextSpec) own started (by kernel_rfl) Tryd.func8
    (witness_row_at (enc := enc) (C := Tryd.checked) false (laidWorld os) #[.slice none 0 0, .agg #[.int .i64 0, .int .i64 0, .int .i64 0]] rfl (by kernel_rfl) (by kernel_rfl) (by kernel_rfl)
      (OpenSpec.preRow_of_cond 8 hx (by kernel_rfl) (fun k hk => by cases hk) (by kernel_rfl) (laid_met os))) ?_
  intro W base args ds gs before hval hW _ _ _ hL _ _
  exact contract H enc W base args ds gs before hval hW hL

set_option maxRecDepth 100000 in
theorem said : Rows.ExplainTextSaid :=
  OpenClaim.holds_of_cond 8 Tryd.f8 rfl rfl rfl rfl rfl rfl rfl ⟨rfl, rfl, rfl, rfl, rfl⟩ rfl rfl rfl rfl rfl (by kernel_rfl) Tryd.func8 (by kernel_rfl)
    (of_decide_eq_true (by kernel_rfl)) (by unfold Func.isWrapper; first | (rw [if_pos (by decide +kernel)]; kernel_rfl) | (rw [if_neg (by decide +kernel)]; exact ⟨rfl, rfl⟩))
    (fun os started H enc _ F => by rw [OpenClaim.pre_eq_preRow]; exact lifted os started H enc F)

set_option maxRecDepth 100000 in
theorem plain (f : FuncId) (fn : Func) (hf : Tryd.pinned.checked.prog.funcNamed "waypoint/waypointlaw57.ExplainText" = some f) (hfn : Tryd.pinned.checked.prog.funcs[f]? = some fn) :
    true = Tryd.pinned.checked.prog.looks [] ∧ ∀ (j : Nat) t, fn.params[j]? = some t → Tryd.pinned.checked.prog.wantsStandIn t = false := by
  obtain rfl : f = 8 := Option.some.inj ((show Tryd.prog.funcNamed "waypoint/waypointlaw57.ExplainText" = some 8 by kernel_rfl).symm.trans hf) |>.symm
  obtain rfl : fn = Tryd.f8 := (Option.some.inj (Tryd.func8.symm.trans hfn)).symm
  refine ⟨by kernel_rfl, fun j t ht => ?_⟩
  rw [Tryd.params8] at ht
  have hm : t ∈ [22, 46] := by simpa using Array.mem_of_getElem? ht
  have hall : ([22, 46].all fun u => !Tryd.prog.wantsStandIn u) = true := by kernel_rfl
  exact (show Tryd.prog.wantsStandIn t = false by simpa using List.all_eq_true.1 hall t hm)

/-- The card: the statement. -/
theorem card : Rows.ExplainTextCardSaid :=
  Claim7.holds_tied_plain_at .later [] _ _ _ _ said (fun _ h => by cases h) (by kernel_rfl) (fun _ h => by cases h) explainText_row_tie rfl ⟨rfl, rfl⟩ (by kernel_rfl) rfl plain (by kernel_rfl)
#print axioms card
end Go.Proofs.YtjcnjnonhncelaaDoor.explainText
