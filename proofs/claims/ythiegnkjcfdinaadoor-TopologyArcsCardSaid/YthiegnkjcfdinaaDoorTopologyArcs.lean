/-
  TopologyArcs: for every topology and number the law returns true: Overloaded, Arcs, Tail, Head, Cost, Out and In agree with the reference's. The card TopologyArcsCardSaid; no condition beyond the given row's.
-/
import Derived.Test.YthiegnkjcfdinaaDoorAwake09
import Derived.Test.YthiegnkjcfdinaaDoorIn
import Derived.Test.YthiegnkjcfdinaaDoorOpen
import Derived.Test.YthiegnkjcfdinaaDoorCards
import Derived.Test.YthiegnkjcfdinaaDoorTie
import Derived.WalkKit
import Derived.ProofKit
import Derived.OpenShut
import Derived.ChangeOld
import Derived.Deep.DeepHandedRow
import Derived.Lib.LaidTab
import Derived.MakeChecks
import Derived.Lib.LaidU8
import Derived.Deep.RegionHeld3
import Derived.Deep.DrawnRows
namespace Go.Proofs.YthiegnkjcfdinaaDoor.topologyArcs
open Go.ChangeShapes Go.WideShapes Go.ChangeAt Go.RowKit Go.Sort
set_option linter.unusedVariables false

set_option maxHeartbeats 8000000 in
set_option maxRecDepth 100000 in
theorem walk (t : Topo) (A1 A2 : Option Addr) (c1 c2 : Nat) (n : Int) (w : World) (hT : TAt w A1 A2 t) (hn : I64 t.n) (ho : t.ov.length ≤ maxLen) (hl : t.ls.length ≤ maxLen) (hb : ∀ l ∈ t.ls, LnkIn l)
    (hx : -9223372036854775808 ≤ n ∧ n ≤ 9223372036854775807) (ht : Tab w.heap.size w) :
    Calls Tryd.prog 7 #[.agg #[.int .i64 t.n, .slice A1 t.ov.length c1, .slice A2 t.ls.length c2], .int .i64 n] w fun e w' => e = .returned (.bool true) ∧ Below w.heap.size w w' := by
  clear hn ho hl hb hx
  have hX := TBox.start c1 c2 hT
  have hb0 := below_box w (.cells #[.int .i64 t.n, .slice A1 t.ov.length c1, .slice A2 t.ls.length c2] 25)
  have HT := hT.below hb0
  have HB := hb0
  have b0 := box0 w (.int .i64 t.n) (.slice A1 t.ov.length c1) (.slice A2 t.ls.length c2) 25
  have b1 := box1 w (.int .i64 t.n) (.slice A1 t.ov.length c1) (.slice A2 t.ls.length c2) 25
  have b2 := box2 w (.int .i64 t.n) (.slice A1 t.ov.length c1) (.slice A2 t.ls.length c2) 25
  clear hb0 hT
  have HT0 := Lib.hid ht; clear ht
  cases hg : big t with
  | true =>
    clear hX
    go_enter Tryd.func7, Tryd.ntmps7
    go_wp2_with (first | (go_at_call 8; refine (law09_awake _ (tab_up HT0.out HB HB.size)).mono ?_; rintro e w1 ⟨rfl, hb⟩; replace HT := HT.below hb; replace b0 := cell_up hb b0; replace b1 := cell_up hb b1; replace b2 := cell_up hb b2; replace HB := below_next HB hb; clear hb) | (go_at_call 9; refine (law09_large _ _ _ t _ _ _).mono ?_; rintro e w1 ⟨rfl, hb⟩; replace HT := HT.below hb; replace b0 := cell_up hb b0; replace b1 := cell_up hb b1; replace b2 := cell_up hb b2; replace HB := below_next HB hb; clear hb))
    go_ret
    exact ⟨rfl, HB⟩
  | false =>
    have hn : t.ls.length ≤ 100000 := by have := big_false hg; omega
    have HX := Lib.hid hX; clear hX
    have HTT := Lib.hid HT; clear HT
    go_enter Tryd.func7, Tryd.ntmps7
    go_wp2_with (first | (go_at_call 8; refine (law09_awake _ (tab_up HT0.out HB HB.size)).mono ?_; rintro e w1 ⟨rfl, hb⟩; replace HX := Lib.hid (HX.out.up hb); replace b0 := cell_up hb b0; replace b1 := cell_up hb b1; replace b2 := cell_up hb b2; clear hb) | (go_at_call 9; refine (law09_large _ _ _ t _ _ _).mono ?_; rintro e w1 ⟨rfl, hb⟩; replace HX := Lib.hid (HX.out.up hb); replace b0 := cell_up hb b0; replace b1 := cell_up hb b1; replace b2 := cell_up hb b2; clear hb))
    clear HB HT0 HTT hg
    replace HX := Lib.hid (HX.out.up (below_drew1 _))
    go_region_held3 (fun w' => w'.cell? ⟨w.heap.size, 0, none⟩ = some (.int .i64 t.n) ∧ w'.cell? ⟨w.heap.size, 1, none⟩ = some (.slice A1 t.ov.length c1) ∧ w'.cell? ⟨w.heap.size, 2, none⟩ = some (.slice A2 t.ls.length c2) ∧ Hid (TBox w A1 A2 c1 c2 t w')) (exact TBox.keep (by assumption))
      (first
        | (go_at_call 13; refine (topology_Overloaded t _ _ _ _ _ _ ?_).mono ?_; (exact TBox.ta (Hid.out (by assumption))); rintro e w1 ⟨rfl, hb⟩; have HX := Lib.hid (TBox.up (w := w) (A1 := A1) (A2 := A2) (c1 := c1) (c2 := c2) (t := t) (Hid.out (by assumption)) hb); clear hb)
        | (go_at_call 23; refine (topology_Arcs t _ _ _ _ _ ?_ hn).mono ?_; (exact TBox.ta (Hid.out (by assumption))); rintro e w1 ⟨rfl, hb⟩; have HX := Lib.hid (TBox.up (w := w) (A1 := A1) (A2 := A2) (c1 := c1) (c2 := c2) (t := t) (Hid.out (by assumption)) hb); clear hb)
        | (go_at_call 17; refine (topology_Tail t _ _ _ _ _ _ ?_ hn).mono ?_; (exact TBox.ta (Hid.out (by assumption))); rintro e w1 ⟨rfl, hb⟩; have HX := Lib.hid (TBox.up (w := w) (A1 := A1) (A2 := A2) (c1 := c1) (c2 := c2) (t := t) (Hid.out (by assumption)) hb); clear hb)
        | (go_at_call 18; refine (topology_Head t _ _ _ _ _ _ ?_ hn).mono ?_; (exact TBox.ta (Hid.out (by assumption))); rintro e w1 ⟨rfl, hb⟩; have HX := Lib.hid (TBox.up (w := w) (A1 := A1) (A2 := A2) (c1 := c1) (c2 := c2) (t := t) (Hid.out (by assumption)) hb); clear hb)
        | (go_at_call 27; refine (topology_Cost t _ _ _ _ _ _ ?_ hn).mono ?_; (exact TBox.ta (Hid.out (by assumption))); rintro e w1 ⟨rfl, hb⟩; have HX := Lib.hid (TBox.up (w := w) (A1 := A1) (A2 := A2) (c1 := c1) (c2 := c2) (t := t) (Hid.out (by assumption)) hb); clear hb)
        | (go_at_call 22; refine (ref09_Overloaded t _ _ _ _ _ _ ?_).mono ?_; (exact TBox.ta (Hid.out (by assumption))); rintro e w1 ⟨rfl, hb⟩; have HX := Lib.hid (TBox.up (w := w) (A1 := A1) (A2 := A2) (c1 := c1) (c2 := c2) (t := t) (Hid.out (by assumption)) hb); clear hb)
        | (go_at_call 24; refine (ref09_Arcs t _ _ _ _ _ ?_ hn).mono ?_; (exact TBox.ta (Hid.out (by assumption))); rintro e w1 ⟨rfl, hb⟩; have HX := Lib.hid (TBox.up (w := w) (A1 := A1) (A2 := A2) (c1 := c1) (c2 := c2) (t := t) (Hid.out (by assumption)) hb); clear hb)
        | (go_at_call 25; refine (ref09_Tail t _ _ _ _ _ _ ?_ hn).mono ?_; (exact TBox.ta (Hid.out (by assumption))); rintro e w1 ⟨rfl, hb⟩; have HX := Lib.hid (TBox.up (w := w) (A1 := A1) (A2 := A2) (c1 := c1) (c2 := c2) (t := t) (Hid.out (by assumption)) hb); clear hb)
        | (go_at_call 26; refine (ref09_Head t _ _ _ _ _ _ ?_ hn).mono ?_; (exact TBox.ta (Hid.out (by assumption))); rintro e w1 ⟨rfl, hb⟩; have HX := Lib.hid (TBox.up (w := w) (A1 := A1) (A2 := A2) (c1 := c1) (c2 := c2) (t := t) (Hid.out (by assumption)) hb); clear hb)
        | (go_at_call 28; refine (ref09_Cost t _ _ _ _ _ _ ?_ hn).mono ?_; (exact TBox.ta (Hid.out (by assumption))); rintro e w1 ⟨rfl, hb⟩; have HX := Lib.hid (TBox.up (w := w) (A1 := A1) (A2 := A2) (c1 := c1) (c2 := c2) (t := t) (Hid.out (by assumption)) hb); clear hb)
        | (go_at_call 20; refine (topology_OutV t _ _ _ _ _ _ ?_ hn).mono ?_; (exact TBox.ta (Hid.out (by assumption))); rintro e w1 ⟨Aa, ca, rfl, _, _, ra, hb⟩; have HX := Lib.hid (TBox.up (w := w) (A1 := A1) (A2 := A2) (c1 := c1) (c2 := c2) (t := t) (Hid.out (by assumption)) hb); clear hb)
        | (go_at_call 30; refine (ref09_Out t _ _ _ _ _ _ ?_ hn).mono ?_; (exact TBox.ta (Hid.out (by assumption))); rintro e w1 ⟨Ab, cb, rfl, _, _, rb, hb⟩; have ra := ra.below hb; have HX := Lib.hid (TBox.up (w := w) (A1 := A1) (A2 := A2) (c1 := c1) (c2 := c2) (t := t) (Hid.out (by assumption)) hb); clear hb)
        | (go_at_call 21; refine (topology_InV t _ _ _ _ _ _ ?_ hn).mono ?_; (exact TBox.ta (Hid.out (by assumption))); rintro e w1 ⟨Ac, cc, rfl, _, _, rc, hb⟩; have HX := Lib.hid (TBox.up (w := w) (A1 := A1) (A2 := A2) (c1 := c1) (c2 := c2) (t := t) (Hid.out (by assumption)) hb); clear hb)
        | (go_at_call 31; refine (ref09_In t _ _ _ _ _ _ ?_ hn).mono ?_; (exact TBox.ta (Hid.out (by assumption))); rintro e w1 ⟨Ad, cd, rfl, _, _, rd, hb⟩; have rc := rc.below hb; have HX := Lib.hid (TBox.up (w := w) (A1 := A1) (A2 := A2) (c1 := c1) (c2 := c2) (t := t) (Hid.out (by assumption)) hb); clear hb)
        | (go_at_call 29; (first | (with_reducible refine (sameInts_refl _ _ _ _ _ _ rc rd (inV_le t n hn)).mono ?_) | (with_reducible refine (sameInts_refl _ _ _ _ _ _ ra rb (outV_le t n hn)).mono ?_)); rintro e w1 ⟨rfl, hb⟩; have HX := Lib.hid (TBox.up (w := w) (A1 := A1) (A2 := A2) (c1 := c1) (c2 := c2) (t := t) (Hid.out (by assumption)) hb); clear hb))
    go_wp2_with fail
    go_ret
    exact ⟨rfl, TBox.hb (Hid.out (by assumption))⟩

theorem own : ownKnob Tryd.prog.godebug = none := by kernel_rfl
theorem laidOut : laidOutB Tryd.prog = true := by kernel_rfl
theorem gTab : Tryd.prog.globalNamed "internal/strconv.uint64pow10" = some 0 := by kernel_rfl
theorem gTabType : (Tryd.prog.globals[(0 : Nat)]?).map (·.type) = some 78 := by kernel_rfl
theorem table {W : World} (h : laidMetH Tryd.prog Rows.topologyArcsRow.laid W) : Lib.TabIs Tryd.prog W "internal/strconv.uint64pow10" .u64 Lib.pow10Tab :=
  by
  rw [Go.MakeChecks.laidMetH_plain _ _ _ (by kernel_rfl)] at h
  have hm : ("internal/strconv.uint64pow10", Rows.laid_internal_strconv_uint64pow10) ∈ Rows.topologyArcsRow.laid := by simp [Rows.topologyArcsRow]
  rw [show (Rows.laid_internal_strconv_uint64pow10 : DataW Unit) = Lib.tabData .u64 Lib.pow10Tab by kernel_rfl] at hm
  obtain ⟨g', t', cs, fuel, p, hg', ht', hvar, hd⟩ := Lib.laidMet.reads h hm
  obtain rfl := Option.some.inj (gTab.symm.trans hg')
  obtain rfl := Option.some.inj (gTabType.symm.trans ht')
  unfold Lib.TabIs
  rw [hvar, ← Lib.cells_of_tab Tryd.underlying78 Tryd.underlying71 (by kernel_rfl) (by kernel_rfl) hd]

/-- For every argument and every world that holds the tables. -/
theorem contract (H : Type) (enc : TypeId × Value → H) (W : World) (base : Nat) (args : Array Value) (ds gs : List (DataW H)) (before : List MemPlace)
    (hval : ∀ (j : Nat) t v, Tryd.f7.params[j]? = some t → args[j]? = some v → Value.okWide Tryd.prog W .any base t v)
    (hW : DataW.Whole enc Tryd.prog Tryd.f7.params.toList Rows.topologyArcsSpec.vars false W args.toList ds gs before) (hL : laidMetH Tryd.prog Rows.topologyArcsRow.laid W) :
    Calls Tryd.prog 7 args W fun e W' => ∃ v, e = .returned v ∧ Rows.topologyArcsSpec.post enc Tryd.prog Tryd.f7 false true false false W args v W' := by
  have hW' := hW
  obtain ⟨p, q, hA0, hV, rfl, hfz, hnd⟩ := hW
  have hA : DataW.TrodAll enc Tryd.prog W 0 (fun _ => true) true Tryd.f7.params.toList args.toList ds p := hA0
  rw [Tryd.params7] at hA hval
  obtain ⟨v0, vs0, d0, ds0, p0, q0, hargs, rfl, rfl, h0, r0⟩ := trodAll_cons hA
  obtain ⟨v1, vs1, d1, ds1, p1, q1, rfl, rfl, rfl, h1, r1⟩ := trodAll_cons r0
  obtain ⟨rfl, rfl, rfl⟩ := trodAll_nil r1
  obtain rfl : args = #[v0, v1] := by cases args; simp_all
  obtain ⟨rfl, rfl⟩ := trodVars_none hV
  have k0 := h0
  have lt0 : ∀ x ∈ p0, x.block < W.heap.size := by obtain ⟨m, hm⟩ := k0; exact DataW.trod_lt m _ _ _ hm
  obtain ⟨t0, A0a, A0b, c0a, c0b, rfl, hT0, hn0, ho0, hl0, hb0⟩ := open_topo (hval 0 25 v0 rfl rfl) h0
  have k1 := h1
  have lt1 : ∀ x ∈ p1, x.block < W.heap.size := by obtain ⟨m, hm⟩ := k1; exact DataW.trod_lt m _ _ _ hm
  obtain ⟨x1, rfl, hx1⟩ := open_i64 Tryd.underlying3 (hval 1 3 v1 rfl rfl) h1
  clear hA0
  refine (walk t0 A0a A0b c0a c0b x1 W hT0 hn0 ho0 hl0 hb0 hx1 (Lib.tabBelow_of_tabIs (table hL))).mono fun e W' ⟨he, bel⟩ => ?_
  subst he
  exact ⟨_, rfl, _, _, _, [], _, [], hW', trodAll_mk1 (shut_bool Tryd.underlying4 _), (trodAll_cons_mk (Below.trod laidOut (by kernel_rfl) (of_decide_eq_true (by kernel_rfl)) k0 bel lt0) (trodAll_cons_mk (Below.trod laidOut (by kernel_rfl) (of_decide_eq_true (by kernel_rfl)) k1 bel lt1) trodAll_mk0)), rfl, bel.frame _, fun h => by cases h⟩

/-- The cells of a laid table. -/
def tabCells : DataW Unit → Array Value
  | .agg ds => (ds.map fun | .lit (.int k n) => Value.int k n | _ => undef).toArray
  | _ => #[]
def layTab (c : Array Value) : Obj → Obj
  | .cells _ t frozen => .cells c t frozen
  | o => o
/-- A world for the witness: the settled one, the tables holding what their initialisers lay. -/
noncomputable def laidWorld (os : Os) : World :=
  { World.holding Tryd.prog os ⟨#[], #[], []⟩ with heap := (((World.holding Tryd.prog os ⟨#[], #[], []⟩).heap.modify 0 (layTab (tabCells Rows.laid_internal_strconv_uint64pow10))).modify 1 (layTab (tabCells Rows.laid_math_bits_deBruijn32tab))).modify 2 (layTab (tabCells Rows.laid_math_bits_deBruijn64tab)) }
theorem laid_met (os : Os) : laidMet Tryd.prog Rows.topologyArcsRow.laid ((laidWorld os).forCall (fun _ _ => 0) ⟨#[], #[.agg #[.int .i64 0, .slice none 0 0, .slice none 0 0], .int .i64 0], []⟩).memory :=
  laidMet_of_run' 8 (by kernel_rfl) (by kernel_rfl)
theorem reads (os : Os) {H : Type} (enc : TypeId × Value → H) : ∃ places, DataW.whole enc Tryd.prog ((laidWorld os).forCall (fun _ _ => 0) ⟨#[], #[.agg #[.int .i64 0, .slice none 0 0, .slice none 0 0], .int .i64 0], []⟩).memory Tryd.f7.params.toList Rows.topologyArcsSpec.vars false (#[.agg #[.int .i64 0, .slice none 0 0, .slice none 0 0], .int .i64 0] : Array Value).toList 8 = some ([.agg [.lit (.int .i64 0), .nil, .nil], .lit (.int .i64 0)], [], places) :=
  ⟨[], by kernel_rfl⟩

set_option maxRecDepth 100000 in
theorem lifted (os : Os) (started : os.Started) (H : Type) (enc : TypeId × Value → H) (F : Stop.Interp) :
    ReturnsInHanded {} Tryd.checked os 7 .any ((OpenSpec.ofChange Rows.topologyArcsSpec).preRow enc Tryd.prog Tryd.f7 Rows.topologyArcsRow.domain false Rows.topologyArcsRow.laid) (((OpenSpec.ofChange Rows.topologyArcsSpec).at F).post enc Tryd.prog Tryd.f7 false true false false) := by
  obtain ⟨places, hx⟩ := reads os enc
  refine returnsInHanded_of_row (C := Tryd.checked) (s := OpenSpec.ofChange Rows.topologyArcsSpec) own started (by kernel_rfl) Tryd.func7
    (witness_row_at (enc := enc) (C := Tryd.checked) false (laidWorld os) #[.agg #[.int .i64 0, .slice none 0 0, .slice none 0 0], .int .i64 0] rfl (by kernel_rfl) (by kernel_rfl) (by kernel_rfl)
      (OpenSpec.preRow_of_cond 8 hx (by kernel_rfl) (fun k hk => by cases hk) (by kernel_rfl) (laid_met os))) ?_
  intro W base args ds gs before hval hW _ _ _ hL _ _
  exact contract H enc W base args ds gs before hval hW hL

theorem said : Rows.TopologyArcsSaid :=
  OpenClaim.holds_of_cond 7 Tryd.f7 rfl rfl rfl rfl rfl rfl rfl ⟨rfl, rfl, rfl, rfl, rfl⟩ rfl rfl rfl rfl rfl (by kernel_rfl) Tryd.func7 (by kernel_rfl)
    (of_decide_eq_true (by kernel_rfl)) (by unfold Func.isWrapper; first | (rw [if_pos (by decide +kernel)]; kernel_rfl) | (rw [if_neg (by decide +kernel)]; exact ⟨rfl, rfl⟩))
    (fun os started H enc _ F => by rw [OpenClaim.pre_eq_preRow]; exact lifted os started H enc F)

theorem plain (f : FuncId) (fn : Func) (hf : Tryd.pinned.checked.prog.funcNamed "waypoint/waypointlaw09.TopologyArcs" = some f) (hfn : Tryd.pinned.checked.prog.funcs[f]? = some fn) :
    false = Tryd.pinned.checked.prog.looks [] ∧ ∀ (j : Nat) t, fn.params[j]? = some t → Tryd.pinned.checked.prog.wantsStandIn t = false := by
  obtain rfl : f = 7 := Option.some.inj ((show Tryd.prog.funcNamed "waypoint/waypointlaw09.TopologyArcs" = some 7 by kernel_rfl).symm.trans hf) |>.symm
  obtain rfl : fn = Tryd.f7 := (Option.some.inj (Tryd.func7.symm.trans hfn)).symm
  refine ⟨by kernel_rfl, fun j t ht => ?_⟩
  rw [Tryd.params7] at ht
  have hm : t ∈ [25, 3] := by simpa using Array.mem_of_getElem? ht
  have hall : ([25, 3].all fun u => !Tryd.prog.wantsStandIn u) = true := by kernel_rfl
  exact (show Tryd.prog.wantsStandIn t = false by simpa using List.all_eq_true.1 hall t hm)

/-- The card: the statement. -/
theorem card : Rows.TopologyArcsCardSaid :=
  Claim7.holds_tied_plain_at .later [] _ _ _ _ said (fun _ h => by cases h) (by kernel_rfl) (fun _ h => by cases h) topologyArcs_row_tie rfl ⟨rfl, rfl⟩ (by kernel_rfl) rfl plain (by kernel_rfl)
#print axioms card
end Go.Proofs.YthiegnkjcfdinaaDoor.topologyArcs
