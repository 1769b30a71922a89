/-
  TopologyParse: for every text the law returns true: topology.Parse and the reference's Parse return the same topology and error, and Text returns the text. The card TopologyParseCardSaid; no condition beyond the given row's.
-/
import Derived.Test.YtfbloolloifndaaDoorTopL
import Derived.Test.YtfbloolloifndaaDoorErrs
import Derived.Test.YtfbloolloifndaaDoorOpen
import Derived.Test.YtfbloolloifndaaDoorCards
import Derived.Test.YtfbloolloifndaaDoorTie
import Derived.WalkKit
import Derived.ProofKit
import Derived.OpenShut
import Derived.ChangeOld
import Derived.Deep.DeepHandedRow
import Derived.Lib.LaidTab
import Derived.MakeChecks
import Derived.Deep.DeepLaidRun
import Derived.Deep.DeepWitnessRowRef
import Derived.Lib.LaidU8
namespace Go.Proofs.YtfbloolloifndaaDoor.topologyParse
open Go.ChangeShapes Go.WideShapes Go.ChangeAt Go.RowKit Go.Sort
set_option linter.unusedVariables false

theorem box3 (w : World) (x y z : Value) (T : TypeId) : (w.alloc (.cells #[x, y, z] T)).cell? ⟨w.heap.size, 0, none⟩ = some x ∧ (w.alloc (.cells #[x, y, z] T)).cell? ⟨w.heap.size, 1, none⟩ = some y ∧ (w.alloc (.cells #[x, y, z] T)).cell? ⟨w.heap.size, 2, none⟩ = some z :=
  ⟨(Lib.cell_of_heap (heap_alloc_new w _) (j := 0)).trans rfl, (Lib.cell_of_heap (heap_alloc_new w _) (j := 1)).trans rfl, (Lib.cell_of_heap (heap_alloc_new w _) (j := 2)).trans rfl⟩

set_option maxHeartbeats 4000000 in
set_option maxRecDepth 100000 in
theorem walk (s : List UInt8) (w : World) (hs : s.length ≤ maxLen) (ht : Tab w.heap.size w) (hE : Errs w) (hF : FT w.heap.size w) :
    Calls Tryd.prog 4 #[.string ⟨s.toArray⟩] w fun e w' => e = .returned (.bool true) ∧ Below w.heap.size w w' := by
  have HB := Below.refl w.heap.size w
  have HT0 := Lib.hid ht
  have HE := Lib.hid hE
  have HF := Lib.hid hF
  unfold maxLen at hs
  clear ht hE hF
  by_cases hg : 2000 < s.length
  · go_enter Tryd.func4, Tryd.ntmps4
    go_wp2_with (go_at_call 5; refine (law09_awake _ (tab_up HT0.out HB HB.size)).mono ?_; rintro e w1 ⟨rfl, hb⟩; replace HB := below_next HB hb; clear hb)
    go_ret
    exact ⟨rfl, HB⟩
  · have hsl : s.length ≤ 2000 := by omega
    clear hs
    obtain ⟨u, er, hu⟩ : ∃ u er, topoP s = (u, er) := ⟨_, _, rfl⟩
    have hbd := topoP_bd s (by omega)
    rw [hu] at hbd
    have hm : u.ov.length ≤ 4611686018427387904 := by have := hbd.1; simp only at this; omega
    have hl : u.ls.length ≤ 4611686018427387904 := by have := hbd.2; simp only at this; omega
    have hm2 : u.ov.length ≤ 64 := hbd.1
    clear hbd
    have HcP : Hid (∀ w', Errs w' → FT w'.heap.size w' → Tab w'.heap.size w' → Calls Tryd.prog 8 #[.string ⟨s.toArray⟩] w' (RetTP w' (u, er))) := Lib.hid fun w' h1 h2 h3 => by
      have := topology_ParseT s (by omega) w' h1 h2 h3
      rw [hu] at this
      exact this
    have HcQ : Hid (∀ w', Calls Tryd.prog 12 #[.string ⟨s.toArray⟩] w' (RetTP w' (u, er))) := Lib.hid fun w' => by
      have := ref09_ParseT s (by omega) w'
      rw [← topo_same, hu] at this
      exact this
    have HcS : Hid (∀ w' A1 A2 B1 B2 c1 c2 d1 d2, TAt w' A1 A2 u → TAt w' B1 B2 u → Calls Tryd.prog 11 #[.agg #[.int .i64 u.n, .slice A1 u.ov.length c1, .slice A2 u.ls.length c2], .agg #[.int .i64 u.n, .slice B1 u.ov.length d1, .slice B2 u.ls.length d2]] w' fun e w'' => e = .returned (.bool true) ∧ Below w'.heap.size w' w'') := Lib.hid fun w' A1 A2 B1 B2 c1 c2 d1 d2 h g => by
      have := ref09_Same u u A1 A2 B1 B2 c1 c2 d1 d2 w' h g hm hm hl
      rw [same_refl] at this
      exact this
    rcases topoP_cases s with hc | ⟨t, hc, hx⟩
    · rw [hu] at hc
      injection hc with e1 e2
      subst e2
      clear hu e1
      go_enter Tryd.func4, Tryd.ntmps4
      go_wp2_with (first | (go_at_call 5; refine (law09_awake _ (tab_up HT0.out HB HB.size)).mono ?_; rintro e w1 ⟨rfl, hb⟩; replace HB := below_next HB hb; clear hb) | (go_at_call 8; (with_reducible refine (HcP.out _ (HE.out.up HB) (HF.out.up_below HB) (tab_up HT0.out HB HB.size)).mono ?_); rintro e w3 ⟨B1, B2, d1, d2, rfl, hU, hb⟩; obtain ⟨q0, q1, q2⟩ := box3 w3 (.int .i64 u.n) (.slice B1 u.ov.length d1) (.slice B2 u.ls.length d2) 25; have HU := Lib.hid (hU.below (below_box w3 (.cells #[.int .i64 u.n, .slice B1 u.ov.length d1, .slice B2 u.ls.length d2] 25))); replace hb := below_next hb (below_box w3 (.cells #[.int .i64 u.n, .slice B1 u.ov.length d1, .slice B2 u.ls.length d2] 25)); replace HB := below_next HB hb; clear hb hU; simp only) | (go_at_call 12; (with_reducible refine (HcQ.out _).mono ?_); rintro e w4 ⟨C1, C2, e1, e2, rfl, hX, hb⟩; obtain ⟨r0, r1, r2⟩ := box3 w4 (.int .i64 u.n) (.slice C1 u.ov.length e1) (.slice C2 u.ls.length e2) 25; have HX := Lib.hid (hX.below (below_box w4 (.cells #[.int .i64 u.n, .slice C1 u.ov.length e1, .slice C2 u.ls.length e2] 25))); replace hb := below_next hb (below_box w4 (.cells #[.int .i64 u.n, .slice C1 u.ov.length e1, .slice C2 u.ls.length e2] 25)); replace q0 := cell_up hb q0; replace q1 := cell_up hb q1; replace q2 := cell_up hb q2; replace HU := Lib.hid (HU.out.below hb); replace HB := below_next HB hb; clear hb hX; simp only) | (go_at_call 11; (with_reducible refine (HcS.out _ _ _ _ _ _ _ _ _ HU.out HX.out).mono ?_); rintro e w6 ⟨rfl, hb⟩; replace q0 := cell_up hb q0; replace q1 := cell_up hb q1; replace q2 := cell_up hb q2; replace r0 := cell_up hb r0; replace r1 := cell_up hb r1; replace r2 := cell_up hb r2; replace HU := Lib.hid (HU.out.below hb); replace HX := Lib.hid (HX.out.below hb); replace HB := below_next HB hb; clear hb))
      go_ret
      exact ⟨rfl, HB⟩
    · rw [hu] at hc
      injection hc with e1 e2
      subst e1 e2
      have HcT : Hid (∀ w' A1 A2 c1 c2, TAt w' A1 A2 u → Tab w'.heap.size w' → Calls Tryd.prog 7 #[.agg #[.int .i64 u.n, .slice A1 u.ov.length c1, .slice A2 u.ls.length c2]] w' fun e w'' => e = .returned (.string ⟨s.toArray⟩) ∧ Below w'.heap.size w' w'') := Lib.hid fun w' A1 A2 c1 c2 h g => by
        have := topology_Text u A1 A2 c1 c2 w' h g
        rw [hx] at this
        exact this
      clear hu hx
      go_enter Tryd.func4, Tryd.ntmps4
      go_wp2_with (first | (go_at_call 5; refine (law09_awake _ (tab_up HT0.out HB HB.size)).mono ?_; rintro e w1 ⟨rfl, hb⟩; replace HB := below_next HB hb; clear hb) | (go_at_call 8; (with_reducible refine (HcP.out _ (HE.out.up HB) (HF.out.up_below HB) (tab_up HT0.out HB HB.size)).mono ?_); rintro e w3 ⟨B1, B2, d1, d2, rfl, hU, hb⟩; obtain ⟨q0, q1, q2⟩ := box3 w3 (.int .i64 u.n) (.slice B1 u.ov.length d1) (.slice B2 u.ls.length d2) 25; have HU := Lib.hid (hU.below (below_box w3 (.cells #[.int .i64 u.n, .slice B1 u.ov.length d1, .slice B2 u.ls.length d2] 25))); replace hb := below_next hb (below_box w3 (.cells #[.int .i64 u.n, .slice B1 u.ov.length d1, .slice B2 u.ls.length d2] 25)); replace HB := below_next HB hb; clear hb hU; simp only) | (go_at_call 12; (with_reducible refine (HcQ.out _).mono ?_); rintro e w4 ⟨C1, C2, e1, e2, rfl, hX, hb⟩; obtain ⟨r0, r1, r2⟩ := box3 w4 (.int .i64 u.n) (.slice C1 u.ov.length e1) (.slice C2 u.ls.length e2) 25; have HX := Lib.hid (hX.below (below_box w4 (.cells #[.int .i64 u.n, .slice C1 u.ov.length e1, .slice C2 u.ls.length e2] 25))); replace hb := below_next hb (below_box w4 (.cells #[.int .i64 u.n, .slice C1 u.ov.length e1, .slice C2 u.ls.length e2] 25)); replace q0 := cell_up hb q0; replace q1 := cell_up hb q1; replace q2 := cell_up hb q2; replace HU := Lib.hid (HU.out.below hb); replace HB := below_next HB hb; clear hb hX; simp only) | (go_at_call 11; (with_reducible refine (HcS.out _ _ _ _ _ _ _ _ _ HU.out HX.out).mono ?_); rintro e w6 ⟨rfl, hb⟩; replace q0 := cell_up hb q0; replace q1 := cell_up hb q1; replace q2 := cell_up hb q2; replace r0 := cell_up hb r0; replace r1 := cell_up hb r1; replace r2 := cell_up hb r2; replace HU := Lib.hid (HU.out.below hb); replace HX := Lib.hid (HX.out.below hb); replace HB := below_next HB hb; clear hb) | (go_at_call 7; (with_reducible refine (HcT.out _ _ _ _ _ HU.out (tab_up HT0.out HB HB.size)).mono ?_); rintro e w7 ⟨rfl, hb⟩; replace q0 := cell_up hb q0; replace q1 := cell_up hb q1; replace q2 := cell_up hb q2; replace r0 := cell_up hb r0; replace r1 := cell_up hb r1; replace r2 := cell_up hb r2; replace HU := Lib.hid (HU.out.below hb); replace HX := Lib.hid (HX.out.below hb); replace HB := below_next HB hb; clear hb))
      go_ret
      exact ⟨rfl, HB⟩

theorem own : ownKnob Tryd.prog.godebug = none := by kernel_rfl
theorem laidOut : laidOutB Tryd.prog = true := by kernel_rfl
theorem gTab : Tryd.prog.globalNamed "internal/strconv.uint64pow10" = some 5 := by kernel_rfl
theorem gTabType : (Tryd.prog.globals[(5 : Nat)]?).map (·.type) = some 114 := by kernel_rfl
set_option maxRecDepth 100000 in
theorem table {W : World} (h : laidMetH Tryd.prog Rows.topologyParseRow.laid W) : Lib.TabIs Tryd.prog W "internal/strconv.uint64pow10" .u64 Lib.pow10Tab :=
  by
  rw [Go.MakeChecks.laidMetH_plain _ _ _ (by kernel_rfl)] at h
  have hm : ("internal/strconv.uint64pow10", Rows.laid_internal_strconv_uint64pow10) ∈ Rows.topologyParseRow.laid := by simp [Rows.topologyParseRow]
  rw [show (Rows.laid_internal_strconv_uint64pow10 : DataW Unit) = Lib.tabData .u64 Lib.pow10Tab by kernel_rfl] at hm
  obtain ⟨g', t', cs, fuel, p, hg', ht', hvar, hd⟩ := Lib.laidMet.reads h hm
  obtain rfl := Option.some.inj (gTab.symm.trans hg')
  obtain rfl := Option.some.inj (gTabType.symm.trans ht')
  unfold Lib.TabIs
  rw [hvar, ← Lib.cells_of_tab Tryd.underlying114 Tryd.underlying72 (by kernel_rfl) (by kernel_rfl) hd]

set_option maxRecDepth 100000 in
theorem errs {W : World} (h : laidMetH Tryd.prog Rows.topologyParseRow.laid W) : Errs W := by
  rw [Go.MakeChecks.laidMetH_plain _ _ _ (by kernel_rfl)] at h
  exact errs_of (laidMet.tail (laidMet.tail (laidMet.tail (laidMet.tail h))))

set_option maxRecDepth 100000 in
theorem ft {W : World} (h : laidMetH Tryd.prog Rows.topologyParseRow.laid W) : FT W.heap.size W := by
  rw [Go.MakeChecks.laidMetH_plain _ _ _ (by kernel_rfl)] at h
  have m1 : ("strings.asciiSpace", Rows.laid_strings_asciiSpace) ∈ Rows.topologyParseRow.laid := by simp [Rows.topologyParseRow]
  have m2 : ("unicode.White_Space", Rows.laid_unicode_White_Space) ∈ Rows.topologyParseRow.laid := by simp [Rows.topologyParseRow]
  have m3 : ("unicode/utf8.first", Rows.laid_unicode_utf8_first) ∈ Rows.topologyParseRow.laid := by simp [Rows.topologyParseRow]
  have m4 : ("unicode/utf8.acceptRanges", Rows.laid_unicode_utf8_acceptRanges) ∈ Rows.topologyParseRow.laid := by simp [Rows.topologyParseRow]
  rw [show (Rows.laid_strings_asciiSpace : DataW Unit) = Lib.tabData .u8 Lib.asciiSpaceTab by kernel_rfl] at m1
  rw [show (Rows.laid_unicode_White_Space : DataW Unit) = Lib.whiteData by kernel_rfl] at m2
  rw [show (Rows.laid_unicode_utf8_first : DataW Unit) = Lib.firstData by kernel_rfl] at m3
  rw [show (Rows.laid_unicode_utf8_acceptRanges : DataW Unit) = Lib.acceptData by kernel_rfl] at m4
  have hW : Lib.WhiteTab 1 W := whiteTab_of_reads Tryd.lays199 ⟨by kernel_rfl, by kernel_rfl, by kernel_rfl, by kernel_rfl, by kernel_rfl, by kernel_rfl, by kernel_rfl, by kernel_rfl⟩ (Lib.laidMet.reads h m2)
  have hU : Lib.Utf8Tabs 3 4 W := utf8Tabs_of_reads Tryd.lays260 ⟨by kernel_rfl, by kernel_rfl, by kernel_rfl, by kernel_rfl, by kernel_rfl, by kernel_rfl, by kernel_rfl⟩ (Lib.laidMet.reads h m3) (Lib.laidMet.reads h m4)
  obtain ⟨g', t', cs, fuel, p, hg', ht', hvar, hd⟩ := Lib.laidMet.reads h m1
  obtain rfl := Option.some.inj ((show Tryd.prog.globalNamed "strings.asciiSpace" = some 0 by kernel_rfl).symm.trans hg')
  obtain rfl := Option.some.inj ((show (Tryd.prog.globals[(0 : Nat)]?).map (·.type) = some 74 by kernel_rfl).symm.trans ht')
  have hT : Lib.TabIs Tryd.prog W "strings.asciiSpace" .u8 Lib.asciiSpaceTab := by
    unfold Lib.TabIs
    rw [hvar, ← Lib.cells_of_tab Tryd.underlying74 Tryd.underlying5 (by kernel_rfl) (by kernel_rfl) hd]
  exact ft_of (fun c hc => hT.cell hg' c (by simpa [Lib.asciiSpaceTab] using hc)) hW hU

set_option maxHeartbeats 1000000 in
set_option maxRecDepth 100000 in
/-- For every argument and every world that holds the tables. -/
theorem contract (H : Type) (enc : TypeId × Value → H) (W : World) (base : Nat) (args : Array Value) (ds gs : List (DataW H)) (before : List MemPlace)
    (hval : ∀ (j : Nat) t v, Tryd.f4.params[j]? = some t → args[j]? = some v → Value.okWide Tryd.prog W .any base t v)
    (hW : DataW.Whole enc Tryd.prog Tryd.f4.params.toList Rows.topologyParseSpec.vars false W args.toList ds gs before) (hL : laidMetH Tryd.prog Rows.topologyParseRow.laid W) :
    Calls Tryd.prog 4 args W fun e W' => ∃ v, e = .returned v ∧ Rows.topologyParseSpec.post enc Tryd.prog Tryd.f4 false true false false W args v W' := by
  have hW' := hW
  obtain ⟨p, q, hAll, hV, rfl, hfz, hnd⟩ := hW
  have hA : DataW.TrodAll enc Tryd.prog W 0 (fun _ => true) true Tryd.f4.params.toList args.toList ds p := hAll
  rw [Tryd.params4] at hA hval
  obtain ⟨v0, vs0, d0, ds0, p0, q0, hargs, rfl, rfl, h0, r0⟩ := trodAll_cons hA
  obtain ⟨rfl, rfl, rfl⟩ := trodAll_nil r0
  obtain rfl : args = #[v0] := by cases args; simp_all
  obtain ⟨rfl, rfl⟩ := trodVars_none hV
  have k0 := h0
  have lt0 : ∀ x ∈ p0, x.block < W.heap.size := by obtain ⟨m, hm⟩ := k0; exact DataW.trod_lt m _ _ _ hm
  obtain ⟨l0, rfl, hx0⟩ := open_str (hval 0 9 v0 rfl rfl) h0
  clear hAll
  refine (walk l0 W hx0 (Lib.tabBelow_of_tabIs (table hL)) (errs hL) (ft hL)).mono fun e W' ⟨he, bel⟩ => ?_
  subst he
  exact ⟨_, rfl, _, _, _, [], _, [], hW', trodAll_mk1 (shut_bool Tryd.underlying4 _), (trodAll_cons_mk (Below.trod laidOut (by kernel_rfl) (of_decide_eq_true (by kernel_rfl)) k0 bel lt0) trodAll_mk0), rfl, bel.frame _, fun h => by cases h⟩

/-- The cells of a laid table. -/
def litCells : DataW Unit → List Value
  | .lit (.int k n) => [Value.int k n]
  | _ => []
def aggCells : DataW Unit → List Value
  | .agg ds => ds.flatMap litCells
  | d => litCells d
def tabCells : DataW Unit → Array Value
  | .agg ds => (ds.flatMap aggCells).toArray
  | _ => #[]
def layTab (c : Array Value) : Obj → Obj
  | .cells _ t frozen => .cells c t frozen
  | o => o
/-- A world for the witness: the settled one, the tables holding what their initialisers lay. -/
noncomputable def low : Nat := (World.holding Tryd.prog default ⟨#[], #[], []⟩).heap.size
noncomputable def heldWorld (os : Os) : World := World.holding Tryd.prog os ⟨#[.cells #[.string ⟨#[118, 97, 108, 117, 101, 32, 111, 117, 116, 32, 111, 102, 32, 114, 97, 110, 103, 101]⟩] 130, .cells #[.string ⟨#[105, 110, 118, 97, 108, 105, 100, 32, 115, 121, 110, 116, 97, 120]⟩] 130, .cells #[.slice (some ⟨low + 3, 0, none⟩) 7 7, .slice none 0 0, .int .i64 2] 98, .cells (Lib.whiteT.map fun (n : Nat) => Value.int .u16 (n : Int)).toArray 101], #[], []⟩
noncomputable def laidWorld (os : Os) : World :=
  { heldWorld os with heap := ((((((((((heldWorld os).heap.modify 8 (layTab (tabCells Rows.laid_math_bits_deBruijn32tab))).modify 9 (layTab (tabCells Rows.laid_math_bits_deBruijn64tab))).modify 5 (layTab (tabCells Rows.laid_internal_strconv_uint64pow10))).modify 4 (layTab (tabCells Rows.laid_unicode_utf8_acceptRanges))).modify 7 (layTab #[.iface 128 (.pointer (some ⟨low, 0, none⟩))])).modify 6 (layTab #[.iface 128 (.pointer (some ⟨low + 1, 0, none⟩))])).modify 1 (layTab #[.pointer (some ⟨low + 2, 0, none⟩)])).modify 0 (layTab (tabCells Rows.laid_strings_asciiSpace))).modify 3 (layTab (tabCells Rows.laid_unicode_utf8_first))) }
set_option maxRecDepth 100000 in
theorem laid_met (os : Os) : laidMet Tryd.prog Rows.topologyParseRow.laid ((laidWorld os).forCall (fun _ _ => 0) ⟨#[], #[.string ⟨#[]⟩], []⟩).memory :=
  laidMet_of_run3 8 (by kernel_rfl) (by kernel_rfl) (by kernel_rfl)
set_option maxRecDepth 100000 in
theorem reads (os : Os) {H : Type} (enc : TypeId × Value → H) : ∃ places, DataW.whole enc Tryd.prog ((laidWorld os).forCall (fun _ _ => 0) ⟨#[], #[.string ⟨#[]⟩], []⟩).memory Tryd.f4.params.toList Rows.topologyParseSpec.vars false (#[.string ⟨#[]⟩] : Array Value).toList 8 = some ([.lit (.string [])], [], places) :=
  ⟨[], by kernel_rfl⟩

set_option maxRecDepth 100000 in
theorem lifted (os : Os) (started : os.Started) (H : Type) (enc : TypeId × Value → H) (F : Stop.Interp) :
    ReturnsInHanded {} Tryd.checked os 4 .any ((OpenSpec.ofChange Rows.topologyParseSpec).preRow enc Tryd.prog Tryd.f4 Rows.topologyParseRow.domain false Rows.topologyParseRow.laid) (((OpenSpec.ofChange Rows.topologyParseSpec).at F).post enc Tryd.prog Tryd.f4 false true false false) := by
  obtain ⟨places, hx⟩ := reads os enc
  refine returnsInHanded_of_row (C := Tryd.checked) (s := OpenSpec.ofChange Rows.topologyParseSpec) own started (by kernel_rfl) Tryd.func4
    (witness_row_atRef (enc := enc) (C := Tryd.checked) false (laidWorld os) #[.string ⟨#[]⟩] rfl (by kernel_rfl) (by kernel_rfl) (by kernel_rfl)
      (OpenSpec.preRow_of_cond 8 hx (by kernel_rfl) (fun k hk => by cases hk) (by kernel_rfl) (laid_met os))) ?_
  intro W base args ds gs before hval hW _ _ _ hL _ _
  exact contract H enc W base args ds gs before hval hW hL

set_option maxRecDepth 100000 in
theorem said : Rows.TopologyParseSaid :=
  OpenClaim.holds_of_cond 4 Tryd.f4 rfl rfl rfl rfl rfl rfl rfl ⟨rfl, rfl, rfl, rfl, rfl⟩ rfl rfl rfl rfl rfl (by kernel_rfl) Tryd.func4 (by kernel_rfl)
    (of_decide_eq_true (by kernel_rfl)) (by unfold Func.isWrapper; first | (rw [if_pos (by decide +kernel)]; kernel_rfl) | (rw [if_neg (by decide +kernel)]; exact ⟨rfl, rfl⟩))
    (fun os started H enc _ F => by rw [OpenClaim.pre_eq_preRow]; exact lifted os started H enc F)

set_option maxRecDepth 100000 in
theorem plain (f : FuncId) (fn : Func) (hf : Tryd.pinned.checked.prog.funcNamed "waypoint/waypointlaw09.TopologyParse" = some f) (hfn : Tryd.pinned.checked.prog.funcs[f]? = some fn) :
    true = Tryd.pinned.checked.prog.looks [] ∧ ∀ (j : Nat) t, fn.params[j]? = some t → Tryd.pinned.checked.prog.wantsStandIn t = false := by
  obtain rfl : f = 4 := Option.some.inj ((show Tryd.prog.funcNamed "waypoint/waypointlaw09.TopologyParse" = some 4 by kernel_rfl).symm.trans hf) |>.symm
  obtain rfl : fn = Tryd.f4 := (Option.some.inj (Tryd.func4.symm.trans hfn)).symm
  refine ⟨by kernel_rfl, fun j t ht => ?_⟩
  rw [Tryd.params4] at ht
  have hm : t ∈ [9] := by simpa using Array.mem_of_getElem? ht
  have hall : ([9].all fun u => !Tryd.prog.wantsStandIn u) = true := by kernel_rfl
  exact (show Tryd.prog.wantsStandIn t = false by simpa using List.all_eq_true.1 hall t hm)

/-- The card: the statement. -/
theorem card : Rows.TopologyParseCardSaid :=
  Claim7.holds_tied_plain_at .later [] _ _ _ _ said (fun _ h => by cases h) (by kernel_rfl) (fun _ h => by cases h) topologyParse_row_tie rfl ⟨rfl, rfl⟩ (by kernel_rfl) rfl plain (by kernel_rfl)
#print axioms card
end Go.Proofs.YtfbloolloifndaaDoor.topologyParse
