/-
  SegmentList: for every list of segments the law returns true: segment.TextList agrees with the reference, and ParseList returns the list from its text. The card SegmentListCardSaid; no condition beyond the given row's.
-/
import Derived.Test.YtdjgpjejidajlaaDoorAwake18
import Derived.Test.YtdjgpjejidajlaaDoorOpenSeg
import Derived.Test.YtdjgpjejidajlaaDoorSegPL
import Derived.Test.YtdjgpjejidajlaaDoorErrs
import Derived.Test.YtdjgpjejidajlaaDoorOpen
import Derived.Test.YtdjgpjejidajlaaDoorCards
import Derived.Test.YtdjgpjejidajlaaDoorTie
import Derived.WalkKit
import Derived.ProofKit
import Derived.OpenShut
import Derived.ChangeOld
import Derived.Deep.DeepHandedRow
import Derived.Lib.LaidTab
import Derived.MakeChecks
import Derived.Lib.LaidU8
namespace Go.Proofs.YtdjgpjejidajlaaDoor.segmentList
open Go.ChangeShapes Go.WideShapes Go.ChangeAt Go.RowKit Go.Sort
set_option linter.unusedVariables false

set_option maxHeartbeats 4000000 in
set_option maxRecDepth 100000 in
theorem walk (A : Option Addr) (c : Nat) (l : List (Int × Int)) (w : World) (hlc : l.length ≤ c) (hcm : c ≤ maxLen) (hx : ∀ p ∈ l, PairIn p) (hA : RdP w A l) (ht : Tab w.heap.size w) (hE : Errs w) :
    Calls Tryd.prog 5 #[.slice A l.length c] w fun e w' => e = .returned (.bool true) ∧ Below w.heap.size w w' := by
  clear hlc hcm hx
  have HT0 := Lib.hid ht
  have HE := Lib.hid hE
  have HA := Lib.hid hA
  clear ht hE hA
  have HB := Lib.hid (Below.refl w.heap.size w)
  by_cases h6 : 100 < (l.length : Int)
  · go_enter Tryd.func5, Tryd.ntmps5
    go_wp2_with (go_at_call 9; refine (law18_awake _ (tab_up HT0.out HB.out HB.out.size)).mono ?_; rintro e w1 ⟨rfl, hb⟩; replace HB := Lib.hid (below_next HB.out hb); clear hb)
    go_ret
    exact ⟨rfl, HB.out⟩
  have hl : l.length ≤ 100 := by omega
  obtain ⟨T, hT⟩ : ∃ T, T = tlL l := ⟨_, rfl⟩
  have hTl : T.length ≤ 100000 := by
    rw [hT]
    have := join_len l
    unfold tlL
    split
    · omega
    · simp
  have HC1 : Hid (∀ w', RdP w' A l → Tab w'.heap.size w' → Calls Tryd.prog 14 #[.slice A l.length c] w' fun e w'' => e = .returned (.string ⟨T.toArray⟩) ∧ Below w'.heap.size w' w'') := Lib.hid fun w' h1 h2 => by rw [hT]; exact segment_TextList A c l w' h1 (by omega) h2
  have HC2 : Hid (∀ w', RdP w' A l → Calls Tryd.prog 16 #[.slice A l.length c] w' fun e w'' => e = .returned (.string ⟨T.toArray⟩) ∧ Below w'.heap.size w' w'') := Lib.hid fun w' h1 => by rw [hT]; exact ref18_TextList A c l w' h1 (by omega)
  have hpt := parse_tlL l
  rw [← hT] at hpt
  obtain ⟨p0, p1, p2⟩ := hpt
  clear hT
  by_cases hn : T = []
  · have hr : parseL T = ([], 0) := by rw [hn]; rfl
    have HC3 : Hid (∀ w', Errs w' → Tab w'.heap.size w' → Calls Tryd.prog 15 #[.string ⟨T.toArray⟩] w' fun e w'' => ∃ B d, e = .returned (.tuple #[.slice B 0 d, .int .i64 0]) ∧ Below w'.heap.size w' w'') := Lib.hid fun w' h1 h2 => by
      refine (segment_ParseList T hTl w' h1 h2).mono ?_
      rw [hr]
      rintro e w'' ⟨B, d, rfl, _, _, _, hb⟩
      exact ⟨B, d, rfl, hb⟩
    clear p0 p1 p2 hr
    subst hn
    go_enter Tryd.func5, Tryd.ntmps5
    go_wp2_with (first | (go_at_call 9; refine (law18_awake _ (tab_up HT0.out HB.out HB.out.size)).mono ?_; rintro e w1 ⟨rfl, hb⟩; replace HB := Lib.hid (below_next HB.out hb); clear hb) | (go_at_call 14; refine (HC1.out _ (HA.out.below HB.out) (tab_up HT0.out HB.out HB.out.size)).mono ?_; rintro e w2 ⟨rfl, hb⟩; replace HB := Lib.hid (below_next HB.out hb); clear hb) | (go_at_call 15; refine (HC3.out _ (HE.out.up HB.out) (tab_up HT0.out HB.out HB.out.size)).mono ?_; rintro e w3 ⟨B, d, rfl, hb⟩; replace HB := Lib.hid (below_next HB.out hb); clear hb) | (go_at_call 16; refine (HC2.out _ (HA.out.below HB.out)).mono ?_; rintro e w4 ⟨rfl, hb⟩; replace HB := Lib.hid (below_next HB.out hb); clear hb))
    go_ret
    exact ⟨rfl, HB.out⟩
  · have hr : parseL T = (l, 0) := Prod.ext (p2 hn) p0
    have hne : T.isEmpty = false := by simpa using hn
    have hnb : (T == []) = false := by simpa using hn
    have HC3 : Hid (∀ w', Errs w' → Tab w'.heap.size w' → Calls Tryd.prog 15 #[.string ⟨T.toArray⟩] w' (RetPE w' (l, 0))) := Lib.hid fun w' h1 h2 => by
      have := segment_ParseList T hTl w' h1 h2
      rwa [hr] at this
    clear p0 p1 p2 hr
    go_enter Tryd.func5, Tryd.ntmps5
    go_wp2_with (first | (go_at_call 9; refine (law18_awake _ (tab_up HT0.out HB.out HB.out.size)).mono ?_; rintro e w1 ⟨rfl, hb⟩; replace HB := Lib.hid (below_next HB.out hb); clear hb) | (go_at_call 14; refine (HC1.out _ (HA.out.below HB.out) (tab_up HT0.out HB.out HB.out.size)).mono ?_; rintro e w2 ⟨rfl, hb⟩; replace HB := Lib.hid (below_next HB.out hb); clear hb) | (go_at_call 15; refine (HC3.out _ (HE.out.up HB.out) (tab_up HT0.out HB.out HB.out.size)).mono ?_; rintro e w3 ⟨B, d, rfl, _, _, hrd, hb⟩; have HRD := Lib.hid hrd; replace HB := Lib.hid (below_next HB.out hb); clear hb hrd) | (go_at_call 16; refine (HC2.out _ (HA.out.below HB.out)).mono ?_; rintro e w4 ⟨rfl, hb⟩; replace HRD := Lib.hid (HRD.out.below hb); replace HB := Lib.hid (below_next HB.out hb); clear hb) | (go_at_call 17; refine (ref18_Same_refl _ _ _ _ l _ HRD.out (HA.out.below HB.out) (by omega)).mono ?_; rintro e w5 ⟨rfl, hb⟩; replace HB := Lib.hid (below_next HB.out hb); clear hb))
    go_ret
    exact ⟨rfl, HB.out⟩

theorem own : ownKnob Tryd.prog.godebug = none := by kernel_rfl
theorem laidOut : laidOutB Tryd.prog = true := by kernel_rfl
theorem gTab : Tryd.prog.globalNamed "internal/strconv.uint64pow10" = some 4 := by kernel_rfl
theorem gTabType : (Tryd.prog.globals[(4 : Nat)]?).map (·.type) = some 129 := by kernel_rfl
set_option maxRecDepth 100000 in
theorem table {W : World} (h : laidMetH Tryd.prog Rows.segmentListRow.laid W) : Lib.TabIs Tryd.prog W "internal/strconv.uint64pow10" .u64 Lib.pow10Tab :=
  by
  rw [Go.MakeChecks.laidMetH_plain _ _ _ (by kernel_rfl)] at h
  have hm : ("internal/strconv.uint64pow10", Rows.laid_internal_strconv_uint64pow10) ∈ Rows.segmentListRow.laid := by simp [Rows.segmentListRow]
  rw [show (Rows.laid_internal_strconv_uint64pow10 : DataW Unit) = Lib.tabData .u64 Lib.pow10Tab by kernel_rfl] at hm
  obtain ⟨g', t', cs, fuel, p, hg', ht', hvar, hd⟩ := Lib.laidMet.reads h hm
  obtain rfl := Option.some.inj (gTab.symm.trans hg')
  obtain rfl := Option.some.inj (gTabType.symm.trans ht')
  unfold Lib.TabIs
  rw [hvar, ← Lib.cells_of_tab Tryd.underlying129 Tryd.underlying86 (by kernel_rfl) (by kernel_rfl) hd]

set_option maxRecDepth 100000 in
theorem errs {W : World} (h : laidMetH Tryd.prog Rows.segmentListRow.laid W) : Errs W := by
  rw [Go.MakeChecks.laidMetH_plain _ _ _ (by kernel_rfl)] at h
  exact errs_of (laidMet.tail (laidMet.tail (laidMet.tail (laidMet.tail h))))

set_option maxHeartbeats 1000000 in
set_option maxRecDepth 100000 in
/-- For every argument and every world that holds the tables. -/
theorem contract (H : Type) (enc : TypeId × Value → H) (W : World) (base : Nat) (args : Array Value) (ds gs : List (DataW H)) (before : List MemPlace)
    (hval : ∀ (j : Nat) t v, Tryd.f5.params[j]? = some t → args[j]? = some v → Value.okWide Tryd.prog W .any base t v)
    (hW : DataW.Whole enc Tryd.prog Tryd.f5.params.toList Rows.segmentListSpec.vars false W args.toList ds gs before) (hL : laidMetH Tryd.prog Rows.segmentListRow.laid W) :
    Calls Tryd.prog 5 args W fun e W' => ∃ v, e = .returned v ∧ Rows.segmentListSpec.post enc Tryd.prog Tryd.f5 false true false false W args v W' := by
  have hW' := hW
  obtain ⟨p, q, hAll, hV, rfl, hfz, hnd⟩ := hW
  have hA : DataW.TrodAll enc Tryd.prog W 0 (fun _ => true) true Tryd.f5.params.toList args.toList ds p := hAll
  rw [Tryd.params5] at hA hval
  obtain ⟨v0, vs0, d0, ds0, p0, q0, hargs, rfl, rfl, h0, r0⟩ := trodAll_cons hA
  obtain ⟨rfl, rfl, rfl⟩ := trodAll_nil r0
  obtain rfl : args = #[v0] := by cases args; simp_all
  obtain ⟨rfl, rfl⟩ := trodVars_none hV
  have k0 := h0
  have lt0 : ∀ x ∈ p0, x.block < W.heap.size := by obtain ⟨m, hm⟩ := k0; exact DataW.trod_lt m _ _ _ hm
  obtain ⟨A0, c0, l0, rfl, hlc0, hcm0, hx0, hA0⟩ := open_segs (hval 0 31 v0 rfl rfl) h0
  clear hAll
  refine (walk A0 c0 l0 W hlc0 hcm0 hx0 hA0 (Lib.tabBelow_of_tabIs (table hL)) (errs hL)).mono fun e W' ⟨he, bel⟩ => ?_
  subst he
  exact ⟨_, rfl, _, _, _, [], _, [], hW', trodAll_mk1 (shut_bool Tryd.underlying4 _), (trodAll_cons_mk (Below.trod laidOut (by kernel_rfl) (of_decide_eq_true (by kernel_rfl)) k0 bel lt0) trodAll_mk0), rfl, bel.frame _, fun h => by cases h⟩

/-- The cells of a laid table. -/
def litCells : DataW Unit → List Value
  | .lit (.int k n) => [Value.int k n]
  | _ => []
def aggCells : DataW Unit → List Value
  | .agg ds => ds.flatMap litCells
  | d => litCells d
def tabCells : DataW Unit → Array Value
  | .agg ds => (ds.flatMap aggCells).toArray
  | _ => #[]
def layTab (c : Array Value) : Obj → Obj
  | .cells _ t frozen => .cells c t frozen
  | o => o
/-- A world for the witness: the settled one, the tables holding what their initialisers lay. -/
noncomputable def low : Nat := (World.holding Tryd.prog default ⟨#[], #[], []⟩).heap.size
noncomputable def heldWorld (os : Os) : World := World.holding Tryd.prog os ⟨#[.cells #[.string ⟨#[118, 97, 108, 117, 101, 32, 111, 117, 116, 32, 111, 102, 32, 114, 97, 110, 103, 101]⟩] 136, .cells #[.string ⟨#[105, 110, 118, 97, 108, 105, 100, 32, 115, 121, 110, 116, 97, 120]⟩] 136], #[], []⟩
noncomputable def laidWorld (os : Os) : World :=
  { heldWorld os with heap := ((((((((heldWorld os).heap.modify 8 (layTab (tabCells Rows.laid_math_bits_deBruijn32tab))).modify 9 (layTab (tabCells Rows.laid_math_bits_deBruijn64tab))).modify 4 (layTab (tabCells Rows.laid_internal_strconv_uint64pow10))).modify 7 (layTab (tabCells Rows.laid_unicode_utf8_acceptRanges))).modify 2 (layTab #[.iface 134 (.pointer (some ⟨low, 0, none⟩))])).modify 1 (layTab #[.iface 134 (.pointer (some ⟨low + 1, 0, none⟩))])).modify 6 (layTab (tabCells Rows.laid_unicode_utf8_first))) }
set_option maxRecDepth 100000 in
theorem laid_met (os : Os) : laidMet Tryd.prog Rows.segmentListRow.laid ((laidWorld os).forCall (fun _ _ => 0) ⟨#[], #[.slice none 0 0], []⟩).memory :=
  laidMet_of_run' 8 (by kernel_rfl) (by kernel_rfl)
set_option maxRecDepth 100000 in
theorem reads (os : Os) {H : Type} (enc : TypeId × Value → H) : ∃ places, DataW.whole enc Tryd.prog ((laidWorld os).forCall (fun _ _ => 0) ⟨#[], #[.slice none 0 0], []⟩).memory Tryd.f5.params.toList Rows.segmentListSpec.vars false (#[.slice none 0 0] : Array Value).toList 8 = some ([.nil], [], places) :=
  ⟨[], by kernel_rfl⟩

set_option maxRecDepth 100000 in
theorem lifted (os : Os) (started : os.Started) (H : Type) (enc : TypeId × Value → H) (F : Stop.Interp) :
    ReturnsInHanded {} Tryd.checked os 5 .any ((OpenSpec.ofChange Rows.segmentListSpec).preRow enc Tryd.prog Tryd.f5 Rows.segmentListRow.domain false Rows.segmentListRow.laid) (((OpenSpec.ofChange Rows.segmentListSpec).at F).post enc Tryd.prog Tryd.f5 false true false false) := by
  obtain ⟨places, hx⟩ := reads os enc
  refine returnsInHanded_of_row (C := Tryd.checked) (s := OpenSpec.ofChange Rows.segmentListSpec) own started (by kernel_rfl) Tryd.func5
    (witness_row_at (enc := enc) (C := Tryd.checked) false (laidWorld os) #[.slice none 0 0] rfl (by kernel_rfl) (by kernel_rfl) (by kernel_rfl)
      (OpenSpec.preRow_of_cond 8 hx (by kernel_rfl) (fun k hk => by cases hk) (by kernel_rfl) (laid_met os))) ?_
  intro W base args ds gs before hval hW _ _ _ hL _ _
  exact contract H enc W base args ds gs before hval hW hL

set_option maxRecDepth 100000 in
theorem said : Rows.SegmentListSaid :=
  OpenClaim.holds_of_cond 5 Tryd.f5 rfl rfl rfl rfl rfl rfl rfl ⟨rfl, rfl, rfl, rfl, rfl⟩ rfl rfl rfl rfl rfl (by kernel_rfl) Tryd.func5 (by kernel_rfl)
    (of_decide_eq_true (by kernel_rfl)) (by unfold Func.isWrapper; first | (rw [if_pos (by decide +kernel)]; kernel_rfl) | (rw [if_neg (by decide +kernel)]; exact ⟨rfl, rfl⟩))
    (fun os started H enc _ F => by rw [OpenClaim.pre_eq_preRow]; exact lifted os started H enc F)

set_option maxRecDepth 100000 in
theorem plain (f : FuncId) (fn : Func) (hf : Tryd.pinned.checked.prog.funcNamed "waypoint/waypointlaw18.SegmentList" = some f) (hfn : Tryd.pinned.checked.prog.funcs[f]? = some fn) :
    true = Tryd.pinned.checked.prog.looks [] ∧ ∀ (j : Nat) t, fn.params[j]? = some t → Tryd.pinned.checked.prog.wantsStandIn t = false := by
  obtain rfl : f = 5 := Option.some.inj ((show Tryd.prog.funcNamed "waypoint/waypointlaw18.SegmentList" = some 5 by kernel_rfl).symm.trans hf) |>.symm
  obtain rfl : fn = Tryd.f5 := (Option.some.inj (Tryd.func5.symm.trans hfn)).symm
  refine ⟨by kernel_rfl, fun j t ht => ?_⟩
  rw [Tryd.params5] at ht
  have hm : t ∈ [31] := by simpa using Array.mem_of_getElem? ht
  have hall : ([31].all fun u => !Tryd.prog.wantsStandIn u) = true := by kernel_rfl
  exact (show Tryd.prog.wantsStandIn t = false by simpa using List.all_eq_true.1 hall t hm)

/-- The card: the statement. -/
theorem card : Rows.SegmentListCardSaid :=
  Claim7.holds_tied_plain_at .later [] _ _ _ _ said (fun _ h => by cases h) (by kernel_rfl) (fun _ h => by cases h) segmentList_row_tie rfl ⟨rfl, rfl⟩ (by kernel_rfl) rfl plain (by kernel_rfl)
#print axioms card
end Go.Proofs.YtdjgpjejidajlaaDoor.segmentList
