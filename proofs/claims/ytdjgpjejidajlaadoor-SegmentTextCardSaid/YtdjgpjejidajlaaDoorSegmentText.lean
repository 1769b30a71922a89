/-
  SegmentText: for every segment the law returns true: segment.Text agrees with the reference, and Parse returns the segment from its text. The card SegmentTextCardSaid; no condition beyond the given row's.
-/
import Derived.Test.YtdjgpjejidajlaaDoorAwake18
import Derived.Test.YtdjgpjejidajlaaDoorOpenSeg
import Derived.Test.YtdjgpjejidajlaaDoorSegP
import Derived.Test.YtdjgpjejidajlaaDoorErrs
import Derived.Test.YtdjgpjejidajlaaDoorOpen
import Derived.Test.YtdjgpjejidajlaaDoorCards
import Derived.Test.YtdjgpjejidajlaaDoorTie
import Derived.WalkKit
import Derived.ProofKit
import Derived.OpenShut
import Derived.ChangeOld
import Derived.Deep.DeepHandedRow
import Derived.Lib.LaidTab
import Derived.MakeChecks
import Derived.Lib.LaidU8
namespace Go.Proofs.YtdjgpjejidajlaaDoor.segmentText
open Go.ChangeShapes Go.WideShapes Go.ChangeAt Go.RowKit Go.Sort
set_option linter.unusedVariables false

set_option maxHeartbeats 4000000 in
set_option maxRecDepth 100000 in
theorem walk (k m : Int) (w : World) (hk : I64 k) (hm : I64 m) (ht : Tab w.heap.size w) (hE : Errs w) :
    Calls Tryd.prog 3 #[.agg #[.int .i64 k, .int .i64 m]] w fun e w' => e = .returned (.bool true) ∧ Below w.heap.size w w' := by
  clear hk hm
  have HT0 := Lib.hid ht
  have HE := Lib.hid hE
  clear ht hE
  have HB := below_box w (.cells #[.int .i64 k, .int .i64 m] 23)
  have s0 := seg_cell0 w k m
  have s1 := seg_cell1 w k m
  obtain ⟨T, hT⟩ : ∃ T, T = segT k m := ⟨_, rfl⟩
  have hTl : T.length ≤ 1000 := by rw [hT]; have := segT_len' k m; omega
  have HcT : Hid (∀ w', Tab w'.heap.size w' → Calls Tryd.prog 10 #[.agg #[.int .i64 k, .int .i64 m]] w' fun e w'' => e = .returned (.string ⟨T.toArray⟩) ∧ Below w'.heap.size w' w'') := Lib.hid fun w' ht => by rw [hT]; exact segment_Text k m w' ht
  have HcR : Hid (∀ w', Calls Tryd.prog 12 #[.agg #[.int .i64 k, .int .i64 m]] w' fun e w'' => e = .returned (.string ⟨T.toArray⟩) ∧ Below w'.heap.size w' w'') := Lib.hid fun w' => by rw [hT]; exact ref18_Text k m w'
  have HD : Hid (∀ k' m' er, SegR T k' m' er → (T = [] → er = 3) ∧ (T ≠ [] → er = 0 ∧ k' = k ∧ m' = m)) := Lib.hid fun k' m' er h => by rw [hT] at h ⊢; exact seg_of_text h
  clear hT
  by_cases hn : T = []
  · subst hn
    have HcP : Hid (∀ w', Errs w' → Tab w'.heap.size w' → Calls Tryd.prog 11 #[.string ⟨#[]⟩] w' fun e w'' => ∃ k' m', e = .returned (.tuple #[.agg #[.int .i64 k', .int .i64 m'], .int .i64 3]) ∧ Below w'.heap.size w' w'') := Lib.hid fun w' hE ht => by
      refine (segment_Parse [] hTl w' hE ht).mono ?_
      rintro e w'' ⟨k', m', er, rfl, hp, hb⟩
      obtain rfl := (HD.out _ _ _ hp).1 rfl
      exact ⟨k', m', rfl, hb⟩
    clear HD
    go_enter Tryd.func3, Tryd.ntmps3
    go_wp2_with (first | (go_at_call 9; refine (law18_awake _ (tab_up HT0.out HB HB.size)).mono ?_; rintro e w1 ⟨rfl, hb⟩; replace s0 := cell_up hb s0; replace s1 := cell_up hb s1; replace HB := below_next HB hb; clear hb) | (go_at_call 10; refine (HcT.out _ (tab_up HT0.out HB HB.size)).mono ?_; rintro e w2 ⟨rfl, hb⟩; replace s0 := cell_up hb s0; replace s1 := cell_up hb s1; replace HB := below_next HB hb; clear hb) | (go_at_call 11; refine (HcP.out _ (HE.out.up HB) (tab_up HT0.out HB HB.size)).mono ?_; rintro e w3 ⟨k', m', rfl, hb⟩; replace s0 := cell_up hb s0; replace s1 := cell_up hb s1; replace HB := below_next HB hb; clear hb; have q0 := seg_cell0 w3 k' m'; have q1 := seg_cell1 w3 k' m'; replace s0 := cell_up (below_box w3 (.cells #[.int .i64 k', .int .i64 m'] 23)) s0; replace s1 := cell_up (below_box w3 (.cells #[.int .i64 k', .int .i64 m'] 23)) s1; replace HB := below_next HB (below_box w3 (.cells #[.int .i64 k', .int .i64 m'] 23))) | (go_at_call 12; refine (HcR.out _).mono ?_; rintro e w4 ⟨rfl, hb⟩; replace q0 := cell_up hb q0; replace q1 := cell_up hb q1; replace s0 := cell_up hb s0; replace s1 := cell_up hb s1; replace HB := below_next HB hb; clear hb))
    go_ret
    exact ⟨rfl, HB⟩
  · have hnb : (T == []) = false := by simpa using hn
    have hne : T.isEmpty = false := by simpa using hn
    have HcP : Hid (∀ w', Errs w' → Tab w'.heap.size w' → Calls Tryd.prog 11 #[.string ⟨T.toArray⟩] w' fun e w'' => e = .returned (.tuple #[.agg #[.int .i64 k, .int .i64 m], .int .i64 0]) ∧ Below w'.heap.size w' w'') := Lib.hid fun w' hE ht => by
      refine (segment_Parse T hTl w' hE ht).mono ?_
      rintro e w'' ⟨k', m', er, rfl, hp, hb⟩
      obtain ⟨h1, h2, h3⟩ := (HD.out _ _ _ hp).2 hn
      rw [h1, h2, h3]
      exact ⟨rfl, hb⟩
    clear HD
    go_enter Tryd.func3, Tryd.ntmps3
    go_wp2_with (first | (go_at_call 9; refine (law18_awake _ (tab_up HT0.out HB HB.size)).mono ?_; rintro e w1 ⟨rfl, hb⟩; replace s0 := cell_up hb s0; replace s1 := cell_up hb s1; replace HB := below_next HB hb; clear hb) | (go_at_call 10; refine (HcT.out _ (tab_up HT0.out HB HB.size)).mono ?_; rintro e w2 ⟨rfl, hb⟩; replace s0 := cell_up hb s0; replace s1 := cell_up hb s1; replace HB := below_next HB hb; clear hb) | (go_at_call 11; refine (HcP.out _ (HE.out.up HB) (tab_up HT0.out HB HB.size)).mono ?_; rintro e w3 ⟨rfl, hb⟩; replace s0 := cell_up hb s0; replace s1 := cell_up hb s1; replace HB := below_next HB hb; clear hb; have q0 := seg_cell0 w3 k m; have q1 := seg_cell1 w3 k m; replace s0 := cell_up (below_box w3 (.cells #[.int .i64 k, .int .i64 m] 23)) s0; replace s1 := cell_up (below_box w3 (.cells #[.int .i64 k, .int .i64 m] 23)) s1; replace HB := below_next HB (below_box w3 (.cells #[.int .i64 k, .int .i64 m] 23))) | (go_at_call 12; refine (HcR.out _).mono ?_; rintro e w4 ⟨rfl, hb⟩; replace q0 := cell_up hb q0; replace q1 := cell_up hb q1; replace s0 := cell_up hb s0; replace s1 := cell_up hb s1; replace HB := below_next HB hb; clear hb))
    go_ret
    exact ⟨rfl, HB⟩

theorem own : ownKnob Tryd.prog.godebug = none := by kernel_rfl
theorem laidOut : laidOutB Tryd.prog = true := by kernel_rfl
theorem gTab : Tryd.prog.globalNamed "internal/strconv.uint64pow10" = some 4 := by kernel_rfl
theorem gTabType : (Tryd.prog.globals[(4 : Nat)]?).map (·.type) = some 129 := by kernel_rfl
set_option maxRecDepth 100000 in
theorem table {W : World} (h : laidMetH Tryd.prog Rows.segmentTextRow.laid W) : Lib.TabIs Tryd.prog W "internal/strconv.uint64pow10" .u64 Lib.pow10Tab :=
  by
  rw [Go.MakeChecks.laidMetH_plain _ _ _ (by kernel_rfl)] at h
  have hm : ("internal/strconv.uint64pow10", Rows.laid_internal_strconv_uint64pow10) ∈ Rows.segmentTextRow.laid := by simp [Rows.segmentTextRow]
  rw [show (Rows.laid_internal_strconv_uint64pow10 : DataW Unit) = Lib.tabData .u64 Lib.pow10Tab by kernel_rfl] at hm
  obtain ⟨g', t', cs, fuel, p, hg', ht', hvar, hd⟩ := Lib.laidMet.reads h hm
  obtain rfl := Option.some.inj (gTab.symm.trans hg')
  obtain rfl := Option.some.inj (gTabType.symm.trans ht')
  unfold Lib.TabIs
  rw [hvar, ← Lib.cells_of_tab Tryd.underlying129 Tryd.underlying86 (by kernel_rfl) (by kernel_rfl) hd]

set_option maxRecDepth 100000 in
theorem errs {W : World} (h : laidMetH Tryd.prog Rows.segmentTextRow.laid W) : Errs W := by
  rw [Go.MakeChecks.laidMetH_plain _ _ _ (by kernel_rfl)] at h
  exact errs_of (laidMet.tail (laidMet.tail (laidMet.tail h)))

set_option maxHeartbeats 1000000 in
set_option maxRecDepth 100000 in
/-- For every argument and every world that holds the tables. -/
theorem contract (H : Type) (enc : TypeId × Value → H) (W : World) (base : Nat) (args : Array Value) (ds gs : List (DataW H)) (before : List MemPlace)
    (hval : ∀ (j : Nat) t v, Tryd.f3.params[j]? = some t → args[j]? = some v → Value.okWide Tryd.prog W .any base t v)
    (hW : DataW.Whole enc Tryd.prog Tryd.f3.params.toList Rows.segmentTextSpec.vars false W args.toList ds gs before) (hL : laidMetH Tryd.prog Rows.segmentTextRow.laid W) :
    Calls Tryd.prog 3 args W fun e W' => ∃ v, e = .returned v ∧ Rows.segmentTextSpec.post enc Tryd.prog Tryd.f3 false true false false W args v W' := by
  have hW' := hW
  obtain ⟨p, q, hA0, hV, rfl, hfz, hnd⟩ := hW
  have hA : DataW.TrodAll enc Tryd.prog W 0 (fun _ => true) true Tryd.f3.params.toList args.toList ds p := hA0
  rw [Tryd.params3] at hA hval
  obtain ⟨v0, vs0, d0, ds0, p0, q0, hargs, rfl, rfl, h0, r0⟩ := trodAll_cons hA
  obtain ⟨rfl, rfl, rfl⟩ := trodAll_nil r0
  obtain rfl : args = #[v0] := by cases args; simp_all
  obtain ⟨rfl, rfl⟩ := trodVars_none hV
  have k0 := h0
  have lt0 : ∀ x ∈ p0, x.block < W.heap.size := by obtain ⟨m, hm⟩ := k0; exact DataW.trod_lt m _ _ _ hm
  obtain ⟨sk0, sm0, rfl, hk0, hm0⟩ := open_seg (hval 0 23 v0 rfl rfl) h0
  clear hA0
  refine (walk sk0 sm0 W hk0 hm0 (Lib.tabBelow_of_tabIs (table hL)) (errs hL)).mono fun e W' ⟨he, bel⟩ => ?_
  subst he
  exact ⟨_, rfl, _, _, _, [], _, [], hW', trodAll_mk1 (shut_bool Tryd.underlying4 _), (trodAll_cons_mk (Below.trod laidOut (by kernel_rfl) (of_decide_eq_true (by kernel_rfl)) k0 bel lt0) trodAll_mk0), rfl, bel.frame _, fun h => by cases h⟩

/-- The cells of a laid table. -/
def tabCells : DataW Unit → Array Value
  | .agg ds => (ds.map fun | .lit (.int k n) => Value.int k n | _ => undef).toArray
  | _ => #[]
def layTab (c : Array Value) : Obj → Obj
  | .cells _ t frozen => .cells c t frozen
  | o => o
/-- A world for the witness: the settled one, the tables holding what their initialisers lay. -/
noncomputable def low : Nat := (World.holding Tryd.prog default ⟨#[], #[], []⟩).heap.size
noncomputable def heldWorld (os : Os) : World := World.holding Tryd.prog os ⟨#[.cells #[.string ⟨#[118, 97, 108, 117, 101, 32, 111, 117, 116, 32, 111, 102, 32, 114, 97, 110, 103, 101]⟩] 136, .cells #[.string ⟨#[105, 110, 118, 97, 108, 105, 100, 32, 115, 121, 110, 116, 97, 120]⟩] 136], #[], []⟩
noncomputable def laidWorld (os : Os) : World :=
  { heldWorld os with heap := (((((heldWorld os).heap.modify 4 (layTab (tabCells Rows.laid_internal_strconv_uint64pow10))).modify 8 (layTab (tabCells Rows.laid_math_bits_deBruijn32tab))).modify 9 (layTab (tabCells Rows.laid_math_bits_deBruijn64tab))).modify 2 (layTab #[.iface 134 (.pointer (some ⟨low, 0, none⟩))])).modify 1 (layTab #[.iface 134 (.pointer (some ⟨low + 1, 0, none⟩))]) }
set_option maxRecDepth 100000 in
theorem laid_met (os : Os) : laidMet Tryd.prog Rows.segmentTextRow.laid ((laidWorld os).forCall (fun _ _ => 0) ⟨#[], #[.agg #[.int .i64 0, .int .i64 0]], []⟩).memory :=
  laidMet_of_run' 8 (by kernel_rfl) (by kernel_rfl)
set_option maxRecDepth 100000 in
theorem reads (os : Os) {H : Type} (enc : TypeId × Value → H) : ∃ places, DataW.whole enc Tryd.prog ((laidWorld os).forCall (fun _ _ => 0) ⟨#[], #[.agg #[.int .i64 0, .int .i64 0]], []⟩).memory Tryd.f3.params.toList Rows.segmentTextSpec.vars false (#[.agg #[.int .i64 0, .int .i64 0]] : Array Value).toList 8 = some ([.agg [.lit (.int .i64 0), .lit (.int .i64 0)]], [], places) :=
  ⟨[], by kernel_rfl⟩

set_option maxRecDepth 100000 in
theorem lifted (os : Os) (started : os.Started) (H : Type) (enc : TypeId × Value → H) (F : Stop.Interp) :
    ReturnsInHanded {} Tryd.checked os 3 .any ((OpenSpec.ofChange Rows.segmentTextSpec).preRow enc Tryd.prog Tryd.f3 Rows.segmentTextRow.domain false Rows.segmentTextRow.laid) (((OpenSpec.ofChange Rows.segmentTextSpec).at F).post enc Tryd.prog Tryd.f3 false true false false) := by
  obtain ⟨places, hx⟩ := reads os enc
  refine returnsInHanded_of_row (C := Tryd.checked) (s := OpenSpec.ofChange Rows.segmentTextSpec) own started (by kernel_rfl) Tryd.func3
    (witness_row_at (enc := enc) (C := Tryd.checked) false (laidWorld os) #[.agg #[.int .i64 0, .int .i64 0]] rfl (by kernel_rfl) (by kernel_rfl) (by kernel_rfl)
      (OpenSpec.preRow_of_cond 8 hx (by kernel_rfl) (fun k hk => by cases hk) (by kernel_rfl) (laid_met os))) ?_
  intro W base args ds gs before hval hW _ _ _ hL _ _
  exact contract H enc W base args ds gs before hval hW hL

set_option maxRecDepth 100000 in
theorem said : Rows.SegmentTextSaid :=
  OpenClaim.holds_of_cond 3 Tryd.f3 rfl rfl rfl rfl rfl rfl rfl ⟨rfl, rfl, rfl, rfl, rfl⟩ rfl rfl rfl rfl rfl (by kernel_rfl) Tryd.func3 (by kernel_rfl)
    (of_decide_eq_true (by kernel_rfl)) (by unfold Func.isWrapper; first | (rw [if_pos (by decide +kernel)]; kernel_rfl) | (rw [if_neg (by decide +kernel)]; exact ⟨rfl, rfl⟩))
    (fun os started H enc _ F => by rw [OpenClaim.pre_eq_preRow]; exact lifted os started H enc F)

set_option maxRecDepth 100000 in
theorem plain (f : FuncId) (fn : Func) (hf : Tryd.pinned.checked.prog.funcNamed "waypoint/waypointlaw18.SegmentText" = some f) (hfn : Tryd.pinned.checked.prog.funcs[f]? = some fn) :
    true = Tryd.pinned.checked.prog.looks [] ∧ ∀ (j : Nat) t, fn.params[j]? = some t → Tryd.pinned.checked.prog.wantsStandIn t = false := by
  obtain rfl : f = 3 := Option.some.inj ((show Tryd.prog.funcNamed "waypoint/waypointlaw18.SegmentText" = some 3 by kernel_rfl).symm.trans hf) |>.symm
  obtain rfl : fn = Tryd.f3 := (Option.some.inj (Tryd.func3.symm.trans hfn)).symm
  refine ⟨by kernel_rfl, fun j t ht => ?_⟩
  rw [Tryd.params3] at ht
  have hm : t ∈ [23] := by simpa using Array.mem_of_getElem? ht
  have hall : ([23].all fun u => !Tryd.prog.wantsStandIn u) = true := by kernel_rfl
  exact (show Tryd.prog.wantsStandIn t = false by simpa using List.all_eq_true.1 hall t hm)

/-- The card: the statement. -/
theorem card : Rows.SegmentTextCardSaid :=
  Claim7.holds_tied_plain_at .later [] _ _ _ _ said (fun _ h => by cases h) (by kernel_rfl) (fun _ h => by cases h) segmentText_row_tie rfl ⟨rfl, rfl⟩ (by kernel_rfl) rfl plain (by kernel_rfl)
#print axioms card
end Go.Proofs.YtdjgpjejidajlaaDoor.segmentText
