/-
  TopologyText: for every topology the law returns true: topology.Text agrees with the reference, and Parse returns the topology from its text. The card TopologyTextCardSaid; no condition beyond the given row's.
-/
import Derived.Test.YtfbloolloifndaaDoorTopL
import Derived.Test.YtfbloolloifndaaDoorErrs
import Derived.Test.YtfbloolloifndaaDoorOpen
import Derived.Test.YtfbloolloifndaaDoorCards
import Derived.Test.YtfbloolloifndaaDoorTie
import Derived.WalkKit
import Derived.ProofKit
import Derived.OpenShut
import Derived.ChangeOld
import Derived.Deep.DeepHandedRow
import Derived.Lib.LaidTab
import Derived.MakeChecks
import Derived.Deep.DeepLaidRun
import Derived.Deep.DeepWitnessRowRef
import Derived.Lib.LaidU8
namespace Go.Proofs.YtfbloolloifndaaDoor.topologyText
open Go.ChangeShapes Go.WideShapes Go.ChangeAt Go.RowKit Go.Sort
set_option linter.unusedVariables false

theorem box3 (w : World) (x y z : Value) (T : TypeId) : (w.alloc (.cells #[x, y, z] T)).cell? ⟨w.heap.size, 0, none⟩ = some x ∧ (w.alloc (.cells #[x, y, z] T)).cell? ⟨w.heap.size, 1, none⟩ = some y ∧ (w.alloc (.cells #[x, y, z] T)).cell? ⟨w.heap.size, 2, none⟩ = some z :=
  ⟨(Lib.cell_of_heap (heap_alloc_new w _) (j := 0)).trans rfl, (Lib.cell_of_heap (heap_alloc_new w _) (j := 1)).trans rfl, (Lib.cell_of_heap (heap_alloc_new w _) (j := 2)).trans rfl⟩

set_option maxHeartbeats 4000000 in
set_option maxRecDepth 100000 in
theorem walk (t : Topo) (A1 A2 : Option Addr) (c1 c2 : Nat) (w : World) (hT : TAt w A1 A2 t) (hn : I64 t.n) (ho : t.ov.length ≤ maxLen) (hl : t.ls.length ≤ maxLen) (hb : ∀ l ∈ t.ls, LnkIn l) (ht : Tab w.heap.size w) (hE : Errs w) (hF : FT w.heap.size w) :
    Calls Tryd.prog 3 #[.agg #[.int .i64 t.n, .slice A1 t.ov.length c1, .slice A2 t.ls.length c2]] w fun e w' => e = .returned (.bool true) ∧ Below w.heap.size w w' := by
  clear hn ho hl hb
  have HB := below_box w (.cells #[.int .i64 t.n, .slice A1 t.ov.length c1, .slice A2 t.ls.length c2] 25)
  obtain ⟨p0, p1, p2⟩ := box3 w (.int .i64 t.n) (.slice A1 t.ov.length c1) (.slice A2 t.ls.length c2) 25
  have HT := Lib.hid (hT.below HB)
  have HT0 := Lib.hid ht
  have HE := Lib.hid hE
  have HF := Lib.hid hF
  clear hT ht hE hF
  cases hg : big t with
  | true =>
    go_enter Tryd.func3, Tryd.ntmps3
    go_wp2_with (first | (go_at_call 5; refine (law09_awake _ (tab_up HT0.out HB HB.size)).mono ?_; rintro e w1 ⟨rfl, hb⟩; replace p0 := cell_up hb p0; replace p1 := cell_up hb p1; replace p2 := cell_up hb p2; replace HB := below_next HB hb; clear hb) | (go_at_call 6; refine (law09_large _ _ _ t _ _ _).mono ?_; rintro e w1 ⟨rfl, hb⟩; replace HB := below_next HB hb; clear hb))
    go_ret
    exact ⟨rfl, HB⟩
  | false =>
    have hm : t.ov.length ≤ 4611686018427387904 := by have := big_false hg; omega
    have hl : t.ls.length ≤ 4611686018427387904 := by have := big_false hg; omega
    have hl0 : t.ls.length ≤ 100000 := by have := big_false hg; omega
    have HV1 : Hid (∀ w', TAt w' A1 A2 t → Calls Tryd.prog 9 #[.agg #[.int .i64 t.n, .slice A1 t.ov.length c1, .slice A2 t.ls.length c2]] w' fun e w'' => e = .returned (.bool (valid t)) ∧ Below w'.heap.size w' w'') := Lib.hid fun w' h => ref09_Valid t A1 A2 c1 c2 w' h.ls
    cases hv : valid t with
    | false =>
      rw [hv] at HV1
      have HcT : Hid (∀ w', TAt w' A1 A2 t → Tab w'.heap.size w' → Calls Tryd.prog 7 #[.agg #[.int .i64 t.n, .slice A1 t.ov.length c1, .slice A2 t.ls.length c2]] w' fun e w'' => e = .returned (.string ⟨#[]⟩) ∧ Below w'.heap.size w' w'') := Lib.hid fun w' h g => by
        have := topology_Text t A1 A2 c1 c2 w' h g
        rw [show textV t = [] by unfold textV; rw [hv]; rfl] at this
        exact this
      have HcP : Hid (∀ w', Errs w' → FT w'.heap.size w' → Tab w'.heap.size w' → Calls Tryd.prog 8 #[.string ⟨#[]⟩] w' (RetTP w' (zeroT, 3))) := Lib.hid fun w' h1 h2 h3 => topology_ParseT [] (by simp) w' h1 h2 h3
      clear hv
      go_enter Tryd.func3, Tryd.ntmps3
      go_wp2_with (first | (go_at_call 5; refine (law09_awake _ (tab_up HT0.out HB HB.size)).mono ?_; rintro e w1 ⟨rfl, hb⟩; replace p0 := cell_up hb p0; replace p1 := cell_up hb p1; replace p2 := cell_up hb p2; replace HT := Lib.hid (HT.out.below hb); replace HB := below_next HB hb; clear hb) | (go_at_call 6; refine (law09_large _ _ _ t _ _ _).mono ?_; rintro e w1 ⟨rfl, hb⟩; replace p0 := cell_up hb p0; replace p1 := cell_up hb p1; replace p2 := cell_up hb p2; replace HT := Lib.hid (HT.out.below hb); replace HB := below_next HB hb; clear hb) | (go_at_call 7; (with_reducible refine (HcT.out _ HT.out (tab_up HT0.out HB HB.size)).mono ?_); rintro e w2 ⟨rfl, hb⟩; replace p0 := cell_up hb p0; replace p1 := cell_up hb p1; replace p2 := cell_up hb p2; replace HT := Lib.hid (HT.out.below hb); replace HB := below_next HB hb; clear hb) | (go_at_call 8; (with_reducible refine (HcP.out _ (HE.out.up HB) (HF.out.up_below HB) (tab_up HT0.out HB HB.size)).mono ?_); rintro e w3 ⟨B1, B2, d1, d2, rfl, _, hb⟩; replace p0 := cell_up (below_next hb (below_box w3 (.cells #[.int .i64 0, .slice B1 0 d1, .slice B2 0 d2] 25))) p0; replace p1 := cell_up (below_next hb (below_box w3 (.cells #[.int .i64 0, .slice B1 0 d1, .slice B2 0 d2] 25))) p1; replace p2 := cell_up (below_next hb (below_box w3 (.cells #[.int .i64 0, .slice B1 0 d1, .slice B2 0 d2] 25))) p2; replace HT := Lib.hid (HT.out.below (below_next hb (below_box w3 (.cells #[.int .i64 0, .slice B1 0 d1, .slice B2 0 d2] 25)))); replace HB := below_next HB (below_next hb (below_box w3 (.cells #[.int .i64 0, .slice B1 0 d1, .slice B2 0 d2] 25))); clear hb; simp only [zeroT, List.length_nil]) | (go_at_call 9; (with_reducible refine (HV1.out _ HT.out).mono ?_); rintro e w4 ⟨rfl, hb⟩; replace HB := below_next HB hb; clear hb))
      go_ret
      exact ⟨rfl, HB⟩
    | true =>
      rw [hv] at HV1
      obtain ⟨T, hTd⟩ : ∃ T, T = textOf t := ⟨_, rfl⟩
      obtain ⟨u, hu⟩ : ∃ u, u = normT t := ⟨_, rfl⟩
      have hTl : T.length ≤ 50000 := by rw [hTd]; exact text_len hv
      have HcT : Hid (∀ w', TAt w' A1 A2 t → Tab w'.heap.size w' → Calls Tryd.prog 7 #[.agg #[.int .i64 t.n, .slice A1 t.ov.length c1, .slice A2 t.ls.length c2]] w' fun e w'' => e = .returned (.string ⟨T.toArray⟩) ∧ Below w'.heap.size w' w'') := Lib.hid fun w' h g => by
        have := topology_Text t A1 A2 c1 c2 w' h g
        rw [show textV t = T by unfold textV; rw [hv, hTd]; rfl] at this
        exact this
      have HcR : Hid (∀ w', TAt w' A1 A2 t → Calls Tryd.prog 10 #[.agg #[.int .i64 t.n, .slice A1 t.ov.length c1, .slice A2 t.ls.length c2]] w' fun e w'' => e = .returned (.string ⟨T.toArray⟩) ∧ Below w'.heap.size w' w'') := Lib.hid fun w' h => by
        have := ref09_Text t A1 A2 c1 c2 w' h hl0
        rw [show textV t = T by unfold textV; rw [hv, hTd]; rfl] at this
        exact this
      have HcP : Hid (∀ w', Errs w' → FT w'.heap.size w' → Tab w'.heap.size w' → Calls Tryd.prog 8 #[.string ⟨T.toArray⟩] w' (RetTP w' (u, 0))) := Lib.hid fun w' h1 h2 h3 => by
        have := topology_ParseT T hTl w' h1 h2 h3
        rw [show topoP T = (u, 0) by rw [hTd, hu]; exact topoP_text hv] at this
        exact this
      have HV2 : Hid (∀ w' B1 B2 d1 d2, TAt w' B1 B2 u → Calls Tryd.prog 9 #[.agg #[.int .i64 u.n, .slice B1 u.ov.length d1, .slice B2 u.ls.length d2]] w' fun e w'' => e = .returned (.bool true) ∧ Below w'.heap.size w' w'') := Lib.hid fun w' B1 B2 d1 d2 h => by
        have := ref09_Valid u B1 B2 d1 d2 w' h.ls
        rw [show valid u = true by rw [hu]; exact valid_norm hv] at this
        exact this
      have HcS : Hid (∀ w' B1 B2 d1 d2, TAt w' A1 A2 t → TAt w' B1 B2 u → Calls Tryd.prog 11 #[.agg #[.int .i64 t.n, .slice A1 t.ov.length c1, .slice A2 t.ls.length c2], .agg #[.int .i64 u.n, .slice B1 u.ov.length d1, .slice B2 u.ls.length d2]] w' fun e w'' => e = .returned (.bool true) ∧ Below w'.heap.size w' w'') := Lib.hid fun w' B1 B2 d1 d2 h g => by
        have := ref09_Same t u A1 A2 B1 B2 c1 c2 d1 d2 w' h g hm (by rw [hu]; exact Nat.le_trans (norm_ov_le t) hm) hl
        rw [show same t u = true by rw [hu]; exact same_norm t] at this
        exact this
      clear hv hTd hu
      go_enter Tryd.func3, Tryd.ntmps3
      go_wp2_with (first | (go_at_call 5; refine (law09_awake _ (tab_up HT0.out HB HB.size)).mono ?_; rintro e w1 ⟨rfl, hb⟩; replace p0 := cell_up hb p0; replace p1 := cell_up hb p1; replace p2 := cell_up hb p2; replace HT := Lib.hid (HT.out.below hb); replace HB := below_next HB hb; clear hb) | (go_at_call 6; refine (law09_large _ _ _ t _ _ _).mono ?_; rintro e w1 ⟨rfl, hb⟩; replace p0 := cell_up hb p0; replace p1 := cell_up hb p1; replace p2 := cell_up hb p2; replace HT := Lib.hid (HT.out.below hb); replace HB := below_next HB hb; clear hb) | (go_at_call 7; (with_reducible refine (HcT.out _ HT.out (tab_up HT0.out HB HB.size)).mono ?_); rintro e w2 ⟨rfl, hb⟩; replace p0 := cell_up hb p0; replace p1 := cell_up hb p1; replace p2 := cell_up hb p2; replace HT := Lib.hid (HT.out.below hb); replace HB := below_next HB hb; clear hb) | (go_at_call 8; (with_reducible refine (HcP.out _ (HE.out.up HB) (HF.out.up_below HB) (tab_up HT0.out HB HB.size)).mono ?_); rintro e w3 ⟨B1, B2, d1, d2, rfl, hU, hb⟩; obtain ⟨q0, q1, q2⟩ := box3 w3 (.int .i64 u.n) (.slice B1 u.ov.length d1) (.slice B2 u.ls.length d2) 25; have HU := Lib.hid (hU.below (below_box w3 (.cells #[.int .i64 u.n, .slice B1 u.ov.length d1, .slice B2 u.ls.length d2] 25))); replace hb := below_next hb (below_box w3 (.cells #[.int .i64 u.n, .slice B1 u.ov.length d1, .slice B2 u.ls.length d2] 25)); replace p0 := cell_up hb p0; replace p1 := cell_up hb p1; replace p2 := cell_up hb p2; replace HT := Lib.hid (HT.out.below hb); replace HB := below_next HB hb; clear hb hU; simp only) | (go_at_call 9; (first | (with_reducible refine (HV1.out _ HT.out).mono ?_) | (with_reducible refine (HV2.out _ _ _ _ _ HU.out).mono ?_)); rintro e w4 ⟨rfl, hb⟩; replace p0 := cell_up hb p0; replace p1 := cell_up hb p1; replace p2 := cell_up hb p2; replace q0 := cell_up hb q0; replace q1 := cell_up hb q1; replace q2 := cell_up hb q2; replace HT := Lib.hid (HT.out.below hb); replace HU := Lib.hid (HU.out.below hb); replace HB := below_next HB hb; clear hb) | (go_at_call 10; (with_reducible refine (HcR.out _ HT.out).mono ?_); rintro e w5 ⟨rfl, hb⟩; replace p0 := cell_up hb p0; replace p1 := cell_up hb p1; replace p2 := cell_up hb p2; replace q0 := cell_up hb q0; replace q1 := cell_up hb q1; replace q2 := cell_up hb q2; replace HT := Lib.hid (HT.out.below hb); replace HU := Lib.hid (HU.out.below hb); replace HB := below_next HB hb; clear hb) | (go_at_call 11; (with_reducible refine (HcS.out _ _ _ _ _ HT.out HU.out).mono ?_); rintro e w6 ⟨rfl, hb⟩; replace p0 := cell_up hb p0; replace p1 := cell_up hb p1; replace p2 := cell_up hb p2; replace q0 := cell_up hb q0; replace q1 := cell_up hb q1; replace q2 := cell_up hb q2; replace HT := Lib.hid (HT.out.below hb); replace HU := Lib.hid (HU.out.below hb); replace HB := below_next HB hb; clear hb))
      go_ret
      exact ⟨rfl, HB⟩

theorem own : ownKnob Tryd.prog.godebug = none := by kernel_rfl
theorem laidOut : laidOutB Tryd.prog = true := by kernel_rfl
theorem gTab : Tryd.prog.globalNamed "internal/strconv.uint64pow10" = some 5 := by kernel_rfl
theorem gTabType : (Tryd.prog.globals[(5 : Nat)]?).map (·.type) = some 114 := by kernel_rfl
set_option maxRecDepth 100000 in
theorem table {W : World} (h : laidMetH Tryd.prog Rows.topologyTextRow.laid W) : Lib.TabIs Tryd.prog W "internal/strconv.uint64pow10" .u64 Lib.pow10Tab :=
  by
  rw [Go.MakeChecks.laidMetH_plain _ _ _ (by kernel_rfl)] at h
  have hm : ("internal/strconv.uint64pow10", Rows.laid_internal_strconv_uint64pow10) ∈ Rows.topologyTextRow.laid := by simp [Rows.topologyTextRow]
  rw [show (Rows.laid_internal_strconv_uint64pow10 : DataW Unit) = Lib.tabData .u64 Lib.pow10Tab by kernel_rfl] at hm
  obtain ⟨g', t', cs, fuel, p, hg', ht', hvar, hd⟩ := Lib.laidMet.reads h hm
  obtain rfl := Option.some.inj (gTab.symm.trans hg')
  obtain rfl := Option.some.inj (gTabType.symm.trans ht')
  unfold Lib.TabIs
  rw [hvar, ← Lib.cells_of_tab Tryd.underlying114 Tryd.underlying72 (by kernel_rfl) (by kernel_rfl) hd]

set_option maxRecDepth 100000 in
theorem errs {W : World} (h : laidMetH Tryd.prog Rows.topologyTextRow.laid W) : Errs W := by
  rw [Go.MakeChecks.laidMetH_plain _ _ _ (by kernel_rfl)] at h
  exact errs_of (laidMet.tail (laidMet.tail (laidMet.tail (laidMet.tail h))))

set_option maxRecDepth 100000 in
theorem ft {W : World} (h : laidMetH Tryd.prog Rows.topologyTextRow.laid W) : FT W.heap.size W := by
  rw [Go.MakeChecks.laidMetH_plain _ _ _ (by kernel_rfl)] at h
  have m1 : ("strings.asciiSpace", Rows.laid_strings_asciiSpace) ∈ Rows.topologyTextRow.laid := by simp [Rows.topologyTextRow]
  have m2 : ("unicode.White_Space", Rows.laid_unicode_White_Space) ∈ Rows.topologyTextRow.laid := by simp [Rows.topologyTextRow]
  have m3 : ("unicode/utf8.first", Rows.laid_unicode_utf8_first) ∈ Rows.topologyTextRow.laid := by simp [Rows.topologyTextRow]
  have m4 : ("unicode/utf8.acceptRanges", Rows.laid_unicode_utf8_acceptRanges) ∈ Rows.topologyTextRow.laid := by simp [Rows.topologyTextRow]
  rw [show (Rows.laid_strings_asciiSpace : DataW Unit) = Lib.tabData .u8 Lib.asciiSpaceTab by kernel_rfl] at m1
  rw [show (Rows.laid_unicode_White_Space : DataW Unit) = Lib.whiteData by kernel_rfl] at m2
  rw [show (Rows.laid_unicode_utf8_first : DataW Unit) = Lib.firstData by kernel_rfl] at m3
  rw [show (Rows.laid_unicode_utf8_acceptRanges : DataW Unit) = Lib.acceptData by kernel_rfl] at m4
  have hW : Lib.WhiteTab 1 W := whiteTab_of_reads Tryd.lays199 ⟨by kernel_rfl, by kernel_rfl, by kernel_rfl, by kernel_rfl, by kernel_rfl, by kernel_rfl, by kernel_rfl, by kernel_rfl⟩ (Lib.laidMet.reads h m2)
  have hU : Lib.Utf8Tabs 3 4 W := utf8Tabs_of_reads Tryd.lays260 ⟨by kernel_rfl, by kernel_rfl, by kernel_rfl, by kernel_rfl, by kernel_rfl, by kernel_rfl, by kernel_rfl⟩ (Lib.laidMet.reads h m3) (Lib.laidMet.reads h m4)
  obtain ⟨g', t', cs, fuel, p, hg', ht', hvar, hd⟩ := Lib.laidMet.reads h m1
  obtain rfl := Option.some.inj ((show Tryd.prog.globalNamed "strings.asciiSpace" = some 0 by kernel_rfl).symm.trans hg')
  obtain rfl := Option.some.inj ((show (Tryd.prog.globals[(0 : Nat)]?).map (·.type) = some 74 by kernel_rfl).symm.trans ht')
  have hT : Lib.TabIs Tryd.prog W "strings.asciiSpace" .u8 Lib.asciiSpaceTab := by
    unfold Lib.TabIs
    rw [hvar, ← Lib.cells_of_tab Tryd.underlying74 Tryd.underlying5 (by kernel_rfl) (by kernel_rfl) hd]
  exact ft_of (fun c hc => hT.cell hg' c (by simpa [Lib.asciiSpaceTab] using hc)) hW hU

set_option maxHeartbeats 1000000 in
set_option maxRecDepth 100000 in
/-- For every argument and every world that holds the tables. -/
theorem contract (H : Type) (enc : TypeId × Value → H) (W : World) (base : Nat) (args : Array Value) (ds gs : List (DataW H)) (before : List MemPlace)
    (hval : ∀ (j : Nat) t v, Tryd.f3.params[j]? = some t → args[j]? = some v → Value.okWide Tryd.prog W .any base t v)
    (hW : DataW.Whole enc Tryd.prog Tryd.f3.params.toList Rows.topologyTextSpec.vars false W args.toList ds gs before) (hL : laidMetH Tryd.prog Rows.topologyTextRow.laid W) :
    Calls Tryd.prog 3 args W fun e W' => ∃ v, e = .returned v ∧ Rows.topologyTextSpec.post enc Tryd.prog Tryd.f3 false true false false W args v W' := by
  have hW' := hW
  obtain ⟨p, q, hAll, hV, rfl, hfz, hnd⟩ := hW
  have hA : DataW.TrodAll enc Tryd.prog W 0 (fun _ => true) true Tryd.f3.params.toList args.toList ds p := hAll
  rw [Tryd.params3] at hA hval
  obtain ⟨v0, vs0, d0, ds0, p0, q0, hargs, rfl, rfl, h0, r0⟩ := trodAll_cons hA
  obtain ⟨rfl, rfl, rfl⟩ := trodAll_nil r0
  obtain rfl : args = #[v0] := by cases args; simp_all
  obtain ⟨rfl, rfl⟩ := trodVars_none hV
  have k0 := h0
  have lt0 : ∀ x ∈ p0, x.block < W.heap.size := by obtain ⟨m, hm⟩ := k0; exact DataW.trod_lt m _ _ _ hm
  obtain ⟨t0, A0a, A0b, c0a, c0b, rfl, hT0, hn0, ho0, hl0, hb0⟩ := open_topo (hval 0 25 v0 rfl rfl) h0
  clear hAll
  refine (walk t0 A0a A0b c0a c0b W hT0 hn0 ho0 hl0 hb0 (Lib.tabBelow_of_tabIs (table hL)) (errs hL) (ft hL)).mono fun e W' ⟨he, bel⟩ => ?_
  subst he
  exact ⟨_, rfl, _, _, _, [], _, [], hW', trodAll_mk1 (shut_bool Tryd.underlying4 _), (trodAll_cons_mk (Below.trod laidOut (by kernel_rfl) (of_decide_eq_true (by kernel_rfl)) k0 bel lt0) trodAll_mk0), rfl, bel.frame _, fun h => by cases h⟩

/-- The cells of a laid table. -/
def litCells : DataW Unit → List Value
  | .lit (.int k n) => [Value.int k n]
  | _ => []
def aggCells : DataW Unit → List Value
  | .agg ds => ds.flatMap litCells
  | d => litCells d
def tabCells : DataW Unit → Array Value
  | .agg ds => (ds.flatMap aggCells).toArray
  | _ => #[]
def layTab (c : Array Value) : Obj → Obj
  | .cells _ t frozen => .cells c t frozen
  | o => o
/-- A world for the witness: the settled one, the tables holding what their initialisers lay. -/
noncomputable def low : Nat := (World.holding Tryd.prog default ⟨#[], #[], []⟩).heap.size
noncomputable def heldWorld (os : Os) : World := World.holding Tryd.prog os ⟨#[.cells #[.string ⟨#[118, 97, 108, 117, 101, 32, 111, 117, 116, 32, 111, 102, 32, 114, 97, 110, 103, 101]⟩] 130, .cells #[.string ⟨#[105, 110, 118, 97, 108, 105, 100, 32, 115, 121, 110, 116, 97, 120]⟩] 130, .cells #[.slice (some ⟨low + 3, 0, none⟩) 7 7, .slice none 0 0, .int .i64 2] 98, .cells (Lib.whiteT.map fun (n : Nat) => Value.int .u16 (n : Int)).toArray 101], #[], []⟩
noncomputable def laidWorld (os : Os) : World :=
  { heldWorld os with heap := ((((((((((heldWorld os).heap.modify 8 (layTab (tabCells Rows.laid_math_bits_deBruijn32tab))).modify 9 (layTab (tabCells Rows.laid_math_bits_deBruijn64tab))).modify 5 (layTab (tabCells Rows.laid_internal_strconv_uint64pow10))).modify 4 (layTab (tabCells Rows.laid_unicode_utf8_acceptRanges))).modify 7 (layTab #[.iface 128 (.pointer (some ⟨low, 0, none⟩))])).modify 6 (layTab #[.iface 128 (.pointer (some ⟨low + 1, 0, none⟩))])).modify 1 (layTab #[.pointer (some ⟨low + 2, 0, none⟩)])).modify 0 (layTab (tabCells Rows.laid_strings_asciiSpace))).modify 3 (layTab (tabCells Rows.laid_unicode_utf8_first))) }
set_option maxRecDepth 100000 in
theorem laid_met (os : Os) : laidMet Tryd.prog Rows.topologyTextRow.laid ((laidWorld os).forCall (fun _ _ => 0) ⟨#[], #[.agg #[.int .i64 0, .slice none 0 0, .slice none 0 0]], []⟩).memory :=
  laidMet_of_run3 8 (by kernel_rfl) (by kernel_rfl) (by kernel_rfl)
set_option maxRecDepth 100000 in
theorem reads (os : Os) {H : Type} (enc : TypeId × Value → H) : ∃ places, DataW.whole enc Tryd.prog ((laidWorld os).forCall (fun _ _ => 0) ⟨#[], #[.agg #[.int .i64 0, .slice none 0 0, .slice none 0 0]], []⟩).memory Tryd.f3.params.toList Rows.topologyTextSpec.vars false (#[.agg #[.int .i64 0, .slice none 0 0, .slice none 0 0]] : Array Value).toList 8 = some ([.agg [.lit (.int .i64 0), .nil, .nil]], [], places) :=
  ⟨[], by kernel_rfl⟩

set_option maxRecDepth 100000 in
theorem lifted (os : Os) (started : os.Started) (H : Type) (enc : TypeId × Value → H) (F : Stop.Interp) :
    ReturnsInHanded {} Tryd.checked os 3 .any ((OpenSpec.ofChange Rows.topologyTextSpec).preRow enc Tryd.prog Tryd.f3 Rows.topologyTextRow.domain false Rows.topologyTextRow.laid) (((OpenSpec.ofChange Rows.topologyTextSpec).at F).post enc Tryd.prog Tryd.f3 false true false false) := by
  obtain ⟨places, hx⟩ := reads os enc
  refine returnsInHanded_of_row (C := Tryd.checked) (s := OpenSpec.ofChange Rows.topologyTextSpec) own started (by kernel_rfl) Tryd.func3
    (witness_row_atRef (enc := enc) (C := Tryd.checked) false (laidWorld os) #[.agg #[.int .i64 0, .slice none 0 0, .slice none 0 0]] rfl (by kernel_rfl) (by kernel_rfl) (by kernel_rfl)
      (OpenSpec.preRow_of_cond 8 hx (by kernel_rfl) (fun k hk => by cases hk) (by kernel_rfl) (laid_met os))) ?_
  intro W base args ds gs before hval hW _ _ _ hL _ _
  exact contract H enc W base args ds gs before hval hW hL

set_option maxRecDepth 100000 in
theorem said : Rows.TopologyTextSaid :=
  OpenClaim.holds_of_cond 3 Tryd.f3 rfl rfl rfl rfl rfl rfl rfl ⟨rfl, rfl, rfl, rfl, rfl⟩ rfl rfl rfl rfl rfl (by kernel_rfl) Tryd.func3 (by kernel_rfl)
    (of_decide_eq_true (by kernel_rfl)) (by unfold Func.isWrapper; first | (rw [if_pos (by decide +kernel)]; kernel_rfl) | (rw [if_neg (by decide +kernel)]; exact ⟨rfl, rfl⟩))
    (fun os started H enc _ F => by rw [OpenClaim.pre_eq_preRow]; exact lifted os started H enc F)

set_option maxRecDepth 100000 in
theorem plain (f : FuncId) (fn : Func) (hf : Tryd.pinned.checked.prog.funcNamed "waypoint/waypointlaw09.TopologyText" = some f) (hfn : Tryd.pinned.checked.prog.funcs[f]? = some fn) :
    true = Tryd.pinned.checked.prog.looks [] ∧ ∀ (j : Nat) t, fn.params[j]? = some t → Tryd.pinned.checked.prog.wantsStandIn t = false := by
  obtain rfl : f = 3 := Option.some.inj ((show Tryd.prog.funcNamed "waypoint/waypointlaw09.TopologyText" = some 3 by kernel_rfl).symm.trans hf) |>.symm
  obtain rfl : fn = Tryd.f3 := (Option.some.inj (Tryd.func3.symm.trans hfn)).symm
  refine ⟨by kernel_rfl, fun j t ht => ?_⟩
  rw [Tryd.params3] at ht
  have hm : t ∈ [25] := by simpa using Array.mem_of_getElem? ht
  have hall : ([25].all fun u => !Tryd.prog.wantsStandIn u) = true := by kernel_rfl
  exact (show Tryd.prog.wantsStandIn t = false by simpa using List.all_eq_true.1 hall t hm)

/-- The card: the statement. -/
theorem card : Rows.TopologyTextCardSaid :=
  Claim7.holds_tied_plain_at .later [] _ _ _ _ said (fun _ h => by cases h) (by kernel_rfl) (fun _ h => by cases h) topologyText_row_tie rfl ⟨rfl, rfl⟩ (by kernel_rfl) rfl plain (by kernel_rfl)
#print axioms card
end Go.Proofs.YtfbloolloifndaaDoor.topologyText
