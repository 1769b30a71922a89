/-
  SegmentParseList: for every text the law returns true: segment.ParseList agrees with the reference, and TextList returns the text again. The card SegmentParseListCardSaid; no condition beyond the given row's.
-/
import Derived.Test.YtdjgpjejidajlaaDoorAwake18
import Derived.Test.YtdjgpjejidajlaaDoorSegPL
import Derived.Test.YtdjgpjejidajlaaDoorErrs
import Derived.Test.YtdjgpjejidajlaaDoorOpen
import Derived.Test.YtdjgpjejidajlaaDoorCards
import Derived.Test.YtdjgpjejidajlaaDoorTie
import Derived.WalkKit
import Derived.ProofKit
import Derived.OpenShut
import Derived.ChangeOld
import Derived.Deep.DeepHandedRow
import Derived.Lib.LaidTab
import Derived.MakeChecks
import Derived.Lib.LaidU8
namespace Go.Proofs.YtdjgpjejidajlaaDoor.segmentParseList
open Go.ChangeShapes Go.WideShapes Go.ChangeAt Go.RowKit Go.Sort
set_option linter.unusedVariables false

set_option maxHeartbeats 4000000 in
set_option maxRecDepth 100000 in
theorem walk (s : List UInt8) (w : World) (hs : s.length ≤ maxLen) (ht : Tab w.heap.size w) (hE : Errs w) :
    Calls Tryd.prog 6 #[.string ⟨s.toArray⟩] w fun e w' => e = .returned (.bool true) ∧ Below w.heap.size w w' := by
  clear hs
  have HT0 := Lib.hid ht
  have HE := Lib.hid hE
  clear ht hE
  have HB := Lib.hid (Below.refl w.heap.size w)
  by_cases h6 : 200 < (s.length : Int)
  · go_enter Tryd.func6, Tryd.ntmps6
    go_wp2_with (go_at_call 9; refine (law18_awake _ (tab_up HT0.out HB.out HB.out.size)).mono ?_; rintro e w1 ⟨rfl, hb⟩; replace HB := Lib.hid (below_next HB.out hb); clear hb)
    go_ret
    exact ⟨rfl, HB.out⟩
  have hs' : s.length ≤ 100000 := by omega
  obtain ⟨⟨l, er⟩, hR⟩ : ∃ R, parseL s = R := ⟨_, rfl⟩
  have hl : l.length ≤ 1000 := by have := parseL_len s; rw [hR] at this; simp only at this; omega
  have HC1 : Hid (∀ w', Errs w' → Tab w'.heap.size w' → Calls Tryd.prog 15 #[.string ⟨s.toArray⟩] w' (RetPE w' (l, er))) := Lib.hid fun w' h1 h2 => by
    have := segment_ParseList s hs' w' h1 h2
    rwa [hR] at this
  have HC2 : Hid (∀ w', Calls Tryd.prog 18 #[.string ⟨s.toArray⟩] w' (RetPE w' (l, er))) := Lib.hid fun w' => by
    have := ref18_ParseList s hs' w'
    rwa [hR] at this
  have HTL : Hid (er = 0 → tlL l = s) := Lib.hid fun h => by
    have := tlL_parse (s := s)
    rw [hR] at this
    exact this h
  clear hR
  by_cases he : er = 0
  · have HC3 : Hid (∀ A c w', RdP w' A l → Tab w'.heap.size w' → Calls Tryd.prog 14 #[.slice A l.length c] w' fun e w'' => e = .returned (.string ⟨s.toArray⟩) ∧ Below w'.heap.size w' w'') := Lib.hid fun A c w' h1 h2 => by rw [← HTL.out he]; exact segment_TextList A c l w' h1 (by omega) h2
    subst he
    go_enter Tryd.func6, Tryd.ntmps6
    go_wp2_with (first | (go_at_call 9; refine (law18_awake _ (tab_up HT0.out HB.out HB.out.size)).mono ?_; rintro e w1 ⟨rfl, hb⟩; replace HB := Lib.hid (below_next HB.out hb); clear hb) | (go_at_call 15; refine (HC1.out _ (HE.out.up HB.out) (tab_up HT0.out HB.out HB.out.size)).mono ?_; rintro e w3 ⟨A, ca, rfl, _, _, hrd, hb⟩; have HRD := Lib.hid hrd; replace HB := Lib.hid (below_next HB.out hb); clear hb hrd) | (go_at_call 18; refine (HC2.out _).mono ?_; rintro e w4 ⟨B, cb, rfl, _, _, hrd, hb⟩; have HRE := Lib.hid hrd; replace HRD := Lib.hid (HRD.out.below hb); replace HB := Lib.hid (below_next HB.out hb); clear hb hrd) | (go_at_call 17; refine (ref18_Same_refl _ _ _ _ l _ HRD.out HRE.out (by omega)).mono ?_; rintro e w5 ⟨rfl, hb⟩; replace HRD := Lib.hid (HRD.out.below hb); replace HB := Lib.hid (below_next HB.out hb); clear hb) | (go_at_call 14; refine (HC3.out _ _ _ HRD.out (tab_up HT0.out HB.out HB.out.size)).mono ?_; rintro e w6 ⟨rfl, hb⟩; replace HB := Lib.hid (below_next HB.out hb); clear hb))
    go_ret
    exact ⟨rfl, HB.out⟩
  · have hen : (er != 0) = true := by simpa using he
    clear he
    go_enter Tryd.func6, Tryd.ntmps6
    go_wp2_with (first | (go_at_call 9; refine (law18_awake _ (tab_up HT0.out HB.out HB.out.size)).mono ?_; rintro e w1 ⟨rfl, hb⟩; replace HB := Lib.hid (below_next HB.out hb); clear hb) | (go_at_call 15; refine (HC1.out _ (HE.out.up HB.out) (tab_up HT0.out HB.out HB.out.size)).mono ?_; rintro e w3 ⟨A, ca, rfl, _, _, hrd, hb⟩; have HRD := Lib.hid hrd; replace HB := Lib.hid (below_next HB.out hb); clear hb hrd) | (go_at_call 18; refine (HC2.out _).mono ?_; rintro e w4 ⟨B, cb, rfl, _, _, hrd, hb⟩; have HRE := Lib.hid hrd; replace HRD := Lib.hid (HRD.out.below hb); replace HB := Lib.hid (below_next HB.out hb); clear hb hrd) | (go_at_call 17; refine (ref18_Same_refl _ _ _ _ l _ HRD.out HRE.out (by omega)).mono ?_; rintro e w5 ⟨rfl, hb⟩; replace HRD := Lib.hid (HRD.out.below hb); replace HB := Lib.hid (below_next HB.out hb); clear hb))
    go_ret
    exact ⟨rfl, HB.out⟩

theorem own : ownKnob Tryd.prog.godebug = none := by kernel_rfl
theorem laidOut : laidOutB Tryd.prog = true := by kernel_rfl
theorem gTab : Tryd.prog.globalNamed "internal/strconv.uint64pow10" = some 4 := by kernel_rfl
theorem gTabType : (Tryd.prog.globals[(4 : Nat)]?).map (·.type) = some 129 := by kernel_rfl
set_option maxRecDepth 100000 in
theorem table {W : World} (h : laidMetH Tryd.prog Rows.segmentParseListRow.laid W) : Lib.TabIs Tryd.prog W "internal/strconv.uint64pow10" .u64 Lib.pow10Tab :=
  by
  rw [Go.MakeChecks.laidMetH_plain _ _ _ (by kernel_rfl)] at h
  have hm : ("internal/strconv.uint64pow10", Rows.laid_internal_strconv_uint64pow10) ∈ Rows.segmentParseListRow.laid := by simp [Rows.segmentParseListRow]
  rw [show (Rows.laid_internal_strconv_uint64pow10 : DataW Unit) = Lib.tabData .u64 Lib.pow10Tab by kernel_rfl] at hm
  obtain ⟨g', t', cs, fuel, p, hg', ht', hvar, hd⟩ := Lib.laidMet.reads h hm
  obtain rfl := Option.some.inj (gTab.symm.trans hg')
  obtain rfl := Option.some.inj (gTabType.symm.trans ht')
  unfold Lib.TabIs
  rw [hvar, ← Lib.cells_of_tab Tryd.underlying129 Tryd.underlying86 (by kernel_rfl) (by kernel_rfl) hd]

set_option maxRecDepth 100000 in
theorem errs {W : World} (h : laidMetH Tryd.prog Rows.segmentParseListRow.laid W) : Errs W := by
  rw [Go.MakeChecks.laidMetH_plain _ _ _ (by kernel_rfl)] at h
  exact errs_of (laidMet.tail (laidMet.tail (laidMet.tail (laidMet.tail h))))

set_option maxHeartbeats 1000000 in
set_option maxRecDepth 100000 in
/-- For every argument and every world that holds the tables. -/
theorem contract (H : Type) (enc : TypeId × Value → H) (W : World) (base : Nat) (args : Array Value) (ds gs : List (DataW H)) (before : List MemPlace)
    (hval : ∀ (j : Nat) t v, Tryd.f6.params[j]? = some t → args[j]? = some v → Value.okWide Tryd.prog W .any base t v)
    (hW : DataW.Whole enc Tryd.prog Tryd.f6.params.toList Rows.segmentParseListSpec.vars false W args.toList ds gs before) (hL : laidMetH Tryd.prog Rows.segmentParseListRow.laid W) :
    Calls Tryd.prog 6 args W fun e W' => ∃ v, e = .returned v ∧ Rows.segmentParseListSpec.post enc Tryd.prog Tryd.f6 false true false false W args v W' := by
  have hW' := hW
  obtain ⟨p, q, hA0, hV, rfl, hfz, hnd⟩ := hW
  have hA : DataW.TrodAll enc Tryd.prog W 0 (fun _ => true) true Tryd.f6.params.toList args.toList ds p := hA0
  rw [Tryd.params6] at hA hval
  obtain ⟨v0, vs0, d0, ds0, p0, q0, hargs, rfl, rfl, h0, r0⟩ := trodAll_cons hA
  obtain ⟨rfl, rfl, rfl⟩ := trodAll_nil r0
  obtain rfl : args = #[v0] := by cases args; simp_all
  obtain ⟨rfl, rfl⟩ := trodVars_none hV
  have k0 := h0
  have lt0 : ∀ x ∈ p0, x.block < W.heap.size := by obtain ⟨m, hm⟩ := k0; exact DataW.trod_lt m _ _ _ hm
  obtain ⟨l0, rfl, hx0⟩ := open_str (hval 0 9 v0 rfl rfl) h0
  clear hA0
  refine (walk l0 W hx0 (Lib.tabBelow_of_tabIs (table hL)) (errs hL)).mono fun e W' ⟨he, bel⟩ => ?_
  subst he
  exact ⟨_, rfl, _, _, _, [], _, [], hW', trodAll_mk1 (shut_bool Tryd.underlying4 _), (trodAll_cons_mk (Below.trod laidOut (by kernel_rfl) (of_decide_eq_true (by kernel_rfl)) k0 bel lt0) trodAll_mk0), rfl, bel.frame _, fun h => by cases h⟩

/-- The cells of a laid table. -/
def litCells : DataW Unit → List Value
  | .lit (.int k n) => [Value.int k n]
  | _ => []
def aggCells : DataW Unit → List Value
  | .agg ds => ds.flatMap litCells
  | d => litCells d
def tabCells : DataW Unit → Array Value
  | .agg ds => (ds.flatMap aggCells).toArray
  | _ => #[]
def layTab (c : Array Value) : Obj → Obj
  | .cells _ t frozen => .cells c t frozen
  | o => o
/-- A world for the witness: the settled one, the tables holding what their initialisers lay. -/
noncomputable def low : Nat := (World.holding Tryd.prog default ⟨#[], #[], []⟩).heap.size
noncomputable def heldWorld (os : Os) : World := World.holding Tryd.prog os ⟨#[.cells #[.string ⟨#[118, 97, 108, 117, 101, 32, 111, 117, 116, 32, 111, 102, 32, 114, 97, 110, 103, 101]⟩] 136, .cells #[.string ⟨#[105, 110, 118, 97, 108, 105, 100, 32, 115, 121, 110, 116, 97, 120]⟩] 136], #[], []⟩
noncomputable def laidWorld (os : Os) : World :=
  { heldWorld os with heap := ((((((((heldWorld os).heap.modify 8 (layTab (tabCells Rows.laid_math_bits_deBruijn32tab))).modify 9 (layTab (tabCells Rows.laid_math_bits_deBruijn64tab))).modify 4 (layTab (tabCells Rows.laid_internal_strconv_uint64pow10))).modify 7 (layTab (tabCells Rows.laid_unicode_utf8_acceptRanges))).modify 2 (layTab #[.iface 134 (.pointer (some ⟨low, 0, none⟩))])).modify 1 (layTab #[.iface 134 (.pointer (some ⟨low + 1, 0, none⟩))])).modify 6 (layTab (tabCells Rows.laid_unicode_utf8_first))) }
set_option maxRecDepth 100000 in
theorem laid_met (os : Os) : laidMet Tryd.prog Rows.segmentParseListRow.laid ((laidWorld os).forCall (fun _ _ => 0) ⟨#[], #[.string ⟨#[]⟩], []⟩).memory :=
  laidMet_of_run' 8 (by kernel_rfl) (by kernel_rfl)
set_option maxRecDepth 100000 in
theorem reads (os : Os) {H : Type} (enc : TypeId × Value → H) : ∃ places, DataW.whole enc Tryd.prog ((laidWorld os).forCall (fun _ _ => 0) ⟨#[], #[.string ⟨#[]⟩], []⟩).memory Tryd.f6.params.toList Rows.segmentParseListSpec.vars false (#[.string ⟨#[]⟩] : Array Value).toList 8 = some ([.lit (.string [])], [], places) :=
  ⟨[], by kernel_rfl⟩

set_option maxRecDepth 100000 in
theorem lifted (os : Os) (started : os.Started) (H : Type) (enc : TypeId × Value → H) (F : Stop.Interp) :
    ReturnsInHanded {} Tryd.checked os 6 .any ((OpenSpec.ofChange Rows.segmentParseListSpec).preRow enc Tryd.prog Tryd.f6 Rows.segmentParseListRow.domain false Rows.segmentParseListRow.laid) (((OpenSpec.ofChange Rows.segmentParseListSpec).at F).post enc Tryd.prog Tryd.f6 false true false false) := by
  obtain ⟨places, hx⟩ := reads os enc
  refine returnsInHanded_of_row (C := Tryd.checked) (s := OpenSpec.ofChange Rows.segmentParseListSpec) own started (by kernel_rfl) Tryd.func6
    (witness_row_at (enc := enc) (C := Tryd.checked) false (laidWorld os) #[.string ⟨#[]⟩] rfl (by kernel_rfl) (by kernel_rfl) (by kernel_rfl)
      (OpenSpec.preRow_of_cond 8 hx (by kernel_rfl) (fun k hk => by cases hk) (by kernel_rfl) (laid_met os))) ?_
  intro W base args ds gs before hval hW _ _ _ hL _ _
  exact contract H enc W base args ds gs before hval hW hL

set_option maxRecDepth 100000 in
theorem said : Rows.SegmentParseListSaid :=
  OpenClaim.holds_of_cond 6 Tryd.f6 rfl rfl rfl rfl rfl rfl rfl ⟨rfl, rfl, rfl, rfl, rfl⟩ rfl rfl rfl rfl rfl (by kernel_rfl) Tryd.func6 (by kernel_rfl)
    (of_decide_eq_true (by kernel_rfl)) (by unfold Func.isWrapper; first | (rw [if_pos (by decide +kernel)]; kernel_rfl) | (rw [if_neg (by decide +kernel)]; exact ⟨rfl, rfl⟩))
    (fun os started H enc _ F => by rw [OpenClaim.pre_eq_preRow]; exact lifted os started H enc F)

set_option maxRecDepth 100000 in
theorem plain (f : FuncId) (fn : Func) (hf : Tryd.pinned.checked.prog.funcNamed "waypoint/waypointlaw18.SegmentParseList" = some f) (hfn : Tryd.pinned.checked.prog.funcs[f]? = some fn) :
    true = Tryd.pinned.checked.prog.looks [] ∧ ∀ (j : Nat) t, fn.params[j]? = some t → Tryd.pinned.checked.prog.wantsStandIn t = false := by
  obtain rfl : f = 6 := Option.some.inj ((show Tryd.prog.funcNamed "waypoint/waypointlaw18.SegmentParseList" = some 6 by kernel_rfl).symm.trans hf) |>.symm
  obtain rfl : fn = Tryd.f6 := (Option.some.inj (Tryd.func6.symm.trans hfn)).symm
  refine ⟨by kernel_rfl, fun j t ht => ?_⟩
  rw [Tryd.params6] at ht
  have hm : t ∈ [9] := by simpa using Array.mem_of_getElem? ht
  have hall : ([9].all fun u => !Tryd.prog.wantsStandIn u) = true := by kernel_rfl
  exact (show Tryd.prog.wantsStandIn t = false by simpa using List.all_eq_true.1 hall t hm)

/-- The card: the statement. -/
theorem card : Rows.SegmentParseListCardSaid :=
  Claim7.holds_tied_plain_at .later [] _ _ _ _ said (fun _ h => by cases h) (by kernel_rfl) (fun _ h => by cases h) segmentParseList_row_tie rfl ⟨rfl, rfl⟩ (by kernel_rfl) rfl plain (by kernel_rfl)
#print axioms card
end Go.Proofs.YtdjgpjejidajlaaDoor.segmentParseList
