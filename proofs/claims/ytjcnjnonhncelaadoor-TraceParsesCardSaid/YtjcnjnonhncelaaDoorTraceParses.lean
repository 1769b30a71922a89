/-
  TraceParses: for every text the law returns true: trace.Parse returns the trace of the reference, or the number of the first line with a fault. The card TraceParsesCardSaid; no condition beyond the given row's.
-/
import Derived.Test.YtjcnjnonhncelaaDoorAwake55
import Derived.Test.YtjcnjnonhncelaaDoorRefP
import Derived.Test.YtjcnjnonhncelaaDoorOpenTr
import Derived.Test.YtjcnjnonhncelaaDoorErrs
import Derived.Test.YtjcnjnonhncelaaDoorOpen
import Derived.Test.YtjcnjnonhncelaaDoorCards
import Derived.Test.YtjcnjnonhncelaaDoorTie
import Derived.WalkKit
import Derived.ProofKit
import Derived.OpenShut
import Derived.ChangeOld
import Derived.Deep.DeepHandedRow
import Derived.Lib.LaidTab
import Derived.MakeChecks
import Derived.Lib.LaidU8
namespace Go.Proofs.YtjcnjnonhncelaaDoor.traceParses
open Go.ChangeShapes Go.WideShapes Go.ChangeAt Go.RowKit Go.Sort
set_option linter.unusedVariables false

set_option maxHeartbeats 8000000 in
set_option maxRecDepth 100000 in
theorem walk (s : List UInt8) (w : World) (hs : s.length ≤ maxLen) (ht : Tab w.heap.size w) (hE : Errs w) :
    Calls Tryd.prog 4 #[.string ⟨s.toArray⟩] w fun e w' => e = .returned (.bool true) ∧ Below w.heap.size w w' := by
  clear hs
  have HT := Lib.hid ht
  have HE := Lib.hid hE
  have HB := Lib.hid (Below.refl w.heap.size w)
  clear ht hE
  by_cases h7 : 3000 < (s.length : Int)
  · go_enter Tryd.func4, Tryd.ntmps4
    go_wp2_with (go_at_call 9; refine (law55_awake _ (HE.out.up HB.out) (tab_up HT.out HB.out HB.out.size)).mono ?_; rintro e w1 ⟨rfl, hb⟩; replace HB := Lib.hid (below_next HB.out hb); clear hb)
    go_ret
    exact ⟨rfl, HB.out⟩
  have hs : s.length ≤ 3000 := by omega
  obtain ⟨m, n, er, hV⟩ : ∃ m n er, parseT s = (m, n, er) := ⟨_, _, _, rfl⟩
  have hml : m.length ≤ 3001 := by
    have h1 := goT_len (splitK 10 [10] s) []
    have h2 := splitK_len 10 [10] s
    rw [show goT (splitK 10 [10] s) [] = (m, n, er) from hV] at h1
    simp at h1; omega
  have HC1 : Hid (∀ W, Errs W → Tab W.heap.size W → Calls Tryd.prog 14 #[.string ⟨s.toArray⟩] W (RetEP W (m, n, er))) := Lib.hid fun W h1 h2 => by
    have := trace_Parse s (by omega) W h1 h2
    rwa [hV] at this
  have HC2 : Hid (∀ W, Calls Tryd.prog 15 #[.string ⟨s.toArray⟩] W (RetRP W (m, n, er))) := Lib.hid fun W => by
    have := ref55_Parse s (by omega) W
    rwa [hV] at this
  have HC3 : Hid (∀ A B c d W, RdE W A m → RdE W B m → Calls Tryd.prog 16 #[.slice A m.length c, .slice B m.length d] W fun e w' => e = .returned (.bool true) ∧ Below W.heap.size W w') := Lib.hid fun A B c d W h1 h2 => by
    have := ref55_Same A B c d m m W h1 h2 (by omega)
    rwa [sameE_refl] at this
  have hends := goT_ends (splitK 10 [10] s) []
  rw [show goT (splitK 10 [10] s) [] = (m, n, er) from hV] at hends
  simp only at hends
  clear hV
  rcases hends with ⟨rfl, rfl⟩ | ⟨rfl, rfl, hn⟩
  all_goals
    go_enter Tryd.func4, Tryd.ntmps4
    go_wp2_with (first | (go_at_call 9; refine (law55_awake _ (HE.out.up HB.out) (tab_up HT.out HB.out HB.out.size)).mono ?_; rintro e w1 ⟨rfl, hb⟩; replace HB := Lib.hid (below_next HB.out hb); clear hb) | (go_at_call 14; (with_reducible refine (HC1.out _ (HE.out.up HB.out) (tab_up HT.out HB.out HB.out.size)).mono ?_); rintro e w1 ⟨Aq, cq, rfl, _, _, hrd, hb⟩; have HQ := Lib.hid hrd; clear hrd; replace HB := Lib.hid (below_next HB.out hb); clear hb) | (go_at_call 15; (with_reducible refine (HC2.out _).mono ?_); rintro e w1 ⟨Ar, cr, rfl, hrd, hb⟩; have HR := Lib.hid hrd; replace HQ := Lib.hid (HQ.out.below hb); clear hrd; replace HB := Lib.hid (below_next HB.out hb); clear hb) | (go_at_call 16; (with_reducible refine (HC3.out _ _ _ _ _ HQ.out HR.out).mono ?_); rintro e w1 ⟨rfl, hb⟩; replace HB := Lib.hid (below_next HB.out hb); clear hb))
    go_ret
    exact ⟨rfl, HB.out⟩

theorem own : ownKnob Tryd.prog.godebug = none := by kernel_rfl
theorem laidOut : laidOutB Tryd.prog = true := by kernel_rfl
theorem gTab : Tryd.prog.globalNamed "internal/strconv.uint64pow10" = some 3 := by kernel_rfl
theorem gTabType : (Tryd.prog.globals[(3 : Nat)]?).map (·.type) = some 169 := by kernel_rfl
set_option maxRecDepth 100000 in
theorem table {W : World} (h : laidMetH Tryd.prog Rows.traceParsesRow.laid W) : Lib.TabIs Tryd.prog W "internal/strconv.uint64pow10" .u64 Lib.pow10Tab :=
  by
  rw [Go.MakeChecks.laidMetH_plain _ _ _ (by kernel_rfl)] at h
  have hm : ("internal/strconv.uint64pow10", Rows.laid_internal_strconv_uint64pow10) ∈ Rows.traceParsesRow.laid := by simp [Rows.traceParsesRow]
  rw [show (Rows.laid_internal_strconv_uint64pow10 : DataW Unit) = Lib.tabData .u64 Lib.pow10Tab by kernel_rfl] at hm
  obtain ⟨g', t', cs, fuel, p, hg', ht', hvar, hd⟩ := Lib.laidMet.reads h hm
  obtain rfl := Option.some.inj (gTab.symm.trans hg')
  obtain rfl := Option.some.inj (gTabType.symm.trans ht')
  unfold Lib.TabIs
  rw [hvar, ← Lib.cells_of_tab Tryd.underlying169 Tryd.underlying130 (by kernel_rfl) (by kernel_rfl) hd]

set_option maxRecDepth 100000 in
theorem errs {W : World} (h : laidMetH Tryd.prog Rows.traceParsesRow.laid W) : Errs W := by
  rw [Go.MakeChecks.laidMetH_plain _ _ _ (by kernel_rfl)] at h
  exact errs_of (laidMet.tail (laidMet.tail (laidMet.tail (laidMet.tail h))))

set_option maxHeartbeats 1000000 in
set_option maxRecDepth 100000 in
/-- For every argument and every world that holds the tables. -/
theorem contract (H : Type) (enc : TypeId × Value → H) (W : World) (base : Nat) (args : Array Value) (ds gs : List (DataW H)) (before : List MemPlace)
    (hval : ∀ (j : Nat) t v, Tryd.f4.params[j]? = some t → args[j]? = some v → Value.okWide Tryd.prog W .any base t v)
    (hW : DataW.Whole enc Tryd.prog Tryd.f4.params.toList Rows.traceParsesSpec.vars false W args.toList ds gs before) (hL : laidMetH Tryd.prog Rows.traceParsesRow.laid W) :
    Calls Tryd.prog 4 args W fun e W' => ∃ v, e = .returned v ∧ Rows.traceParsesSpec.post enc Tryd.prog Tryd.f4 false true false false W args v W' := by
  have hW' := hW
  obtain ⟨p, q, hAll, hV, rfl, hfz, hnd⟩ := hW
  have hA : DataW.TrodAll enc Tryd.prog W 0 (fun _ => true) true Tryd.f4.params.toList args.toList ds p := hAll
  rw [Tryd.params4] at hA hval
  obtain ⟨v0, vs0, d0, ds0, p0, q0, hargs, rfl, rfl, h0, r0⟩ := trodAll_cons hA
  obtain ⟨rfl, rfl, rfl⟩ := trodAll_nil r0
  obtain rfl : args = #[v0] := by cases args; simp_all
  obtain ⟨rfl, rfl⟩ := trodVars_none hV
  have k0 := h0
  have lt0 : ∀ x ∈ p0, x.block < W.heap.size := by obtain ⟨m, hm⟩ := k0; exact DataW.trod_lt m _ _ _ hm
  obtain ⟨l0, rfl, hx0⟩ := open_str (hval 0 9 v0 rfl rfl) h0
  clear hAll
  refine (walk l0 W hx0 (Lib.tabBelow_of_tabIs (table hL)) (errs hL)).mono fun e W' ⟨he, bel⟩ => ?_
  subst he
  exact ⟨_, rfl, _, _, _, [], _, [], hW', trodAll_mk1 (shut_bool Tryd.underlying4 _), (trodAll_cons_mk (Below.trod laidOut (by kernel_rfl) (of_decide_eq_true (by kernel_rfl)) k0 bel lt0) trodAll_mk0), rfl, bel.frame _, fun h => by cases h⟩

/-- The cells of a laid table. -/
def litCells : DataW Unit → List Value
  | .lit (.int k n) => [Value.int k n]
  | _ => []
def aggCells : DataW Unit → List Value
  | .agg ds => ds.flatMap litCells
  | d => litCells d
def tabCells : DataW Unit → Array Value
  | .agg ds => (ds.flatMap aggCells).toArray
  | _ => #[]
def layTab (c : Array Value) : Obj → Obj
  | .cells _ t frozen => .cells c t frozen
  | o => o
/-- A world for the witness: the settled one, the tables holding what their initialisers lay. -/
noncomputable def low : Nat := (World.holding Tryd.prog default ⟨#[], #[], []⟩).heap.size
noncomputable def heldWorld (os : Os) : World := World.holding Tryd.prog os ⟨#[.cells #[.string ⟨#[118, 97, 108, 117, 101, 32, 111, 117, 116, 32, 111, 102, 32, 114, 97, 110, 103, 101]⟩] 189, .cells #[.string ⟨#[105, 110, 118, 97, 108, 105, 100, 32, 115, 121, 110, 116, 97, 120]⟩] 189], #[], []⟩
noncomputable def laidWorld (os : Os) : World :=
  { heldWorld os with heap := ((((((((heldWorld os).heap.modify 6 (layTab (tabCells Rows.laid_math_bits_deBruijn32tab))).modify 7 (layTab (tabCells Rows.laid_math_bits_deBruijn64tab))).modify 3 (layTab (tabCells Rows.laid_internal_strconv_uint64pow10))).modify 1 (layTab (tabCells Rows.laid_unicode_utf8_acceptRanges))).modify 5 (layTab #[.iface 187 (.pointer (some ⟨low, 0, none⟩))])).modify 4 (layTab #[.iface 187 (.pointer (some ⟨low + 1, 0, none⟩))])).modify 0 (layTab (tabCells Rows.laid_unicode_utf8_first))) }
set_option maxRecDepth 100000 in
theorem laid_met (os : Os) : laidMet Tryd.prog Rows.traceParsesRow.laid ((laidWorld os).forCall (fun _ _ => 0) ⟨#[], #[.string ⟨#[]⟩], []⟩).memory :=
  laidMet_of_run' 8 (by kernel_rfl) (by kernel_rfl)
set_option maxRecDepth 100000 in
theorem reads (os : Os) {H : Type} (enc : TypeId × Value → H) : ∃ places, DataW.whole enc Tryd.prog ((laidWorld os).forCall (fun _ _ => 0) ⟨#[], #[.string ⟨#[]⟩], []⟩).memory Tryd.f4.params.toList Rows.traceParsesSpec.vars false (#[.string ⟨#[]⟩] : Array Value).toList 8 = some ([.lit (.string [])], [], places) :=
  ⟨[], by kernel_rfl⟩

set_option maxRecDepth 100000 in
theorem lifted (os : Os) (started : os.Started) (H : Type) (enc : TypeId × Value → H) (F : Stop.Interp) :
    ReturnsInHanded {} Tryd.checked os 4 .any ((OpenSpec.ofChange Rows.traceParsesSpec).preRow enc Tryd.prog Tryd.f4 Rows.traceParsesRow.domain false Rows.traceParsesRow.laid) (((OpenSpec.ofChange Rows.traceParsesSpec).at F).post enc Tryd.prog Tryd.f4 false true false false) := by
  obtain ⟨places, hx⟩ := reads os enc
  refine returnsInHanded_of_row (C := Tryd.checked) (s := OpenSpec.ofChange Rows.traceParsesSpec) own started (by kernel_rfl) Tryd.func4
    (witness_row_at (enc := enc) (C := Tryd.checked) false (laidWorld os) #[.string ⟨#[]⟩] rfl (by kernel_rfl) (by kernel_rfl) (by kernel_rfl)
      (OpenSpec.preRow_of_cond 8 hx (by kernel_rfl) (fun k hk => by cases hk) (by kernel_rfl) (laid_met os))) ?_
  intro W base args ds gs before hval hW _ _ _ hL _ _
  exact contract H enc W base args ds gs before hval hW hL

set_option maxRecDepth 100000 in
theorem said : Rows.TraceParsesSaid :=
  OpenClaim.holds_of_cond 4 Tryd.f4 rfl rfl rfl rfl rfl rfl rfl ⟨rfl, rfl, rfl, rfl, rfl⟩ rfl rfl rfl rfl rfl (by kernel_rfl) Tryd.func4 (by kernel_rfl)
    (of_decide_eq_true (by kernel_rfl)) (by unfold Func.isWrapper; first | (rw [if_pos (by decide +kernel)]; kernel_rfl) | (rw [if_neg (by decide +kernel)]; exact ⟨rfl, rfl⟩))
    (fun os started H enc _ F => by rw [OpenClaim.pre_eq_preRow]; exact lifted os started H enc F)

set_option maxRecDepth 100000 in
theorem plain (f : FuncId) (fn : Func) (hf : Tryd.pinned.checked.prog.funcNamed "waypoint/waypointlaw55.TraceParses" = some f) (hfn : Tryd.pinned.checked.prog.funcs[f]? = some fn) :
    true = Tryd.pinned.checked.prog.looks [] ∧ ∀ (j : Nat) t, fn.params[j]? = some t → Tryd.pinned.checked.prog.wantsStandIn t = false := by
  obtain rfl : f = 4 := Option.some.inj ((show Tryd.prog.funcNamed "waypoint/waypointlaw55.TraceParses" = some 4 by kernel_rfl).symm.trans hf) |>.symm
  obtain rfl : fn = Tryd.f4 := (Option.some.inj (Tryd.func4.symm.trans hfn)).symm
  refine ⟨by kernel_rfl, fun j t ht => ?_⟩
  rw [Tryd.params4] at ht
  have hm : t ∈ [9] := by simpa using Array.mem_of_getElem? ht
  have hall : ([9].all fun u => !Tryd.prog.wantsStandIn u) = true := by kernel_rfl
  exact (show Tryd.prog.wantsStandIn t = false by simpa using List.all_eq_true.1 hall t hm)

/-- The card: the statement. -/
theorem card : Rows.TraceParsesCardSaid :=
  Claim7.holds_tied_plain_at .later [] _ _ _ _ said (fun _ h => by cases h) (by kernel_rfl) (fun _ h => by cases h) traceParses_row_tie rfl ⟨rfl, rfl⟩ (by kernel_rfl) rfl plain (by kernel_rfl)
#print axioms card
end Go.Proofs.YtjcnjnonhncelaaDoor.traceParses
