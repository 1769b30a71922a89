/-
  ComponentAll: for every topology the law returns true: component.All and the reference's All agree, and each component is valid. The card ComponentAllCardSaid; no condition beyond the given row's.
-/
import Derived.Test.YtibennndjfhieaaDoorAwake10
import Derived.Test.YtibennndjfhieaaDoorRefAll
import Derived.Test.YtibennndjfhieaaDoorOpen
import Derived.Test.YtibennndjfhieaaDoorOpen
import Derived.Test.YtibennndjfhieaaDoorCards
import Derived.Test.YtibennndjfhieaaDoorTie
import Derived.WalkKit
import Derived.ProofKit
import Derived.OpenShut
import Derived.ChangeOld
import Derived.Deep.DeepHandedRow
import Derived.Lib.LaidTab
import Derived.MakeChecks
import Derived.Lib.LaidU8
import Derived.Deep.RegionHeld3
import Derived.Deep.DrawnRows
import Derived.Laws.StructEq
namespace Go.Proofs.YtibennndjfhieaaDoor.componentAll
open Go.ChangeShapes Go.WideShapes Go.ChangeAt Go.RowKit Go.Sort
set_option linter.unusedVariables false

theorem mem_ncP {c : Int} {p : Int × Int} : ∀ {n : Nat}, p ∈ ncP c n → ∃ j : Nat, j < n ∧ p = (c, (j : Int))
  | 0, h => by simp [ncP] at h
  | n + 1, h => by
    simp only [ncP, List.mem_append, List.mem_singleton] at h
    rcases h with h | h
    · obtain ⟨j, hj, e⟩ := mem_ncP h; exact ⟨j, by omega, e⟩
    · exact ⟨n, by omega, h⟩
theorem mem_grP {t : Topo} {p : Int × Int} : ∀ {n : Nat}, p ∈ grP t n → ∃ j : Nat, 0 < j ∧ j < n ∧ p = (3, (j : Int))
  | 0, h => by simp [grP] at h
  | n + 1, h => by
    unfold grP at h
    by_cases hc : (decide (0 < n) && usedK t t.ls.length n) = true
    · rw [if_pos hc, List.mem_append, List.mem_singleton] at h
      rcases h with h | h
      · obtain ⟨j, h0, hj, e⟩ := mem_grP h; exact ⟨j, h0, by omega, e⟩
      · simp only [Bool.and_eq_true, decide_eq_true_eq] at hc
        exact ⟨n, hc.1, by omega, h⟩
    · rw [if_neg hc] at h
      obtain ⟨j, h0, hj, e⟩ := mem_grP h; exact ⟨j, h0, by omega, e⟩
theorem all_valid {t : Topo} {p : Int × Int} (h : p ∈ (if valid t then allL t else [])) : compV t p.1 p.2 = true := by
  cases hv : valid t with
  | false => rw [hv] at h; simp at h
  | true =>
    rw [hv, if_pos rfl] at h
    simp only [allL, List.mem_append] at h
    rcases h with h | h | h
    · obtain ⟨j, hj, rfl⟩ := mem_ncP h
      rw [compV1 hv]; simp; omega
    · obtain ⟨j, hj, rfl⟩ := mem_ncP h
      rw [compV2 hv]; simp; have := valid_n hv; omega
    · obtain ⟨j, h0, hj, rfl⟩ := mem_grP h
      rw [compV3 hv]; simp; omega
theorem all_len (t : Topo) : (if valid t then allL t else []).length ≤ 1000 := by
  cases hv : valid t with
  | false => simp
  | true =>
    have h1 := valid_ls hv
    have h2 := valid_n hv
    have h3 := grP_len t 65
    simp only [if_true, allL, List.length_append, ncP_len]
    omega
theorem comp_neq (k m : Int) (w : World) : (binOp .neq 31 (.agg #[.int .i64 k, .int .i64 m]) (.agg #[.int .i64 k, .int .i64 m])).run Tryd.prog w = .ok (.bool false) w := by
  rw [run_neq_struct, run_equalIn_struct w 9999 31 _ _ (by kernel_rfl) (by kernel_rfl)]
  simp only [Program.fieldsOf, Tryd.underlying31]
  simp [Op.eqFields, go_sem]

set_option maxHeartbeats 8000000 in
set_option maxRecDepth 100000 in
theorem walk (t : Topo) (A1 A2 : Option Addr) (c1 c2 : Nat) (w : World) (hT : TAt w A1 A2 t) (hn : I64 t.n) (ho : t.ov.length ≤ maxLen) (hl : t.ls.length ≤ maxLen) (hb : ∀ l ∈ t.ls, LnkIn l) (ht : Tab w.heap.size w) :
    Calls Tryd.prog 3 #[.agg #[.int .i64 t.n, .slice A1 t.ov.length c1, .slice A2 t.ls.length c2]] w fun e w' => e = .returned (.bool true) ∧ Below w.heap.size w w' := by
  clear hn ho hl hb
  have hX := TBox.start c1 c2 hT
  have HT0 := Lib.hid ht; clear ht
  have b0 := hX.b0
  have b1 := hX.b1
  have b2 := hX.b2
  have HX := Lib.hid hX; clear hX
  cases hg : big t with
  | true =>
    go_enter Tryd.func3, Tryd.ntmps3
    go_wp2_with (first | (go_at_call 10; refine (law10_awake _ (tab_up HT0.out HX.out.hb HX.out.hb.size)).mono ?_; rintro e w1 ⟨rfl, hb⟩; replace HX := Lib.hid (HX.out.up hb); replace b0 := cell_up hb b0; replace b1 := cell_up hb b1; replace b2 := cell_up hb b2; clear hb) | (go_at_call 11; refine (law10_large _ _ _ t _ _ _).mono ?_; rintro e w1 ⟨rfl, hb⟩; replace HX := Lib.hid (HX.out.up hb); replace b0 := cell_up hb b0; replace b1 := cell_up hb b1; replace b2 := cell_up hb b2; clear hb))
    go_ret
    exact ⟨rfl, HX.out.hb⟩
  | false =>
    obtain ⟨l, hL⟩ : ∃ l, l = (if valid t then allL t else []) := ⟨_, rfl⟩
    have hll : l.length ≤ 1000 := by rw [hL]; exact all_len t
    have HVL : Hid (∀ p ∈ l, compV t p.1 p.2 = true) := Lib.hid (fun p hp => all_valid (by rw [← hL]; exact hp))
    have cA : Hid (∀ w', TAt w' A1 A2 t → Calls Tryd.prog 12 #[.agg #[.int .i64 t.n, .slice A1 t.ov.length c1, .slice A2 t.ls.length c2]] w' (RetPairs w' l)) := Lib.hid fun w' h => by rw [hL]; exact component_All t A1 A2 c1 c2 w' h
    have cB : Hid (∀ w', TAt w' A1 A2 t → Calls Tryd.prog 13 #[.agg #[.int .i64 t.n, .slice A1 t.ov.length c1, .slice A2 t.ls.length c2]] w' (RetPairs w' l)) := Lib.hid fun w' h => by rw [hL]; exact ref10_All t A1 A2 c1 c2 w' h
    clear hL
    go_enter Tryd.func3, Tryd.ntmps3
    go_wp2_with (first | (go_at_call 10; refine (law10_awake _ (tab_up HT0.out HX.out.hb HX.out.hb.size)).mono ?_; rintro e w1 ⟨rfl, hb⟩; replace HX := Lib.hid (HX.out.up hb); replace b0 := cell_up hb b0; replace b1 := cell_up hb b1; replace b2 := cell_up hb b2; clear hb) | (go_at_call 11; refine (law10_large _ _ _ t _ _ _).mono ?_; rintro e w1 ⟨rfl, hb⟩; replace HX := Lib.hid (HX.out.up hb); replace b0 := cell_up hb b0; replace b1 := cell_up hb b1; replace b2 := cell_up hb b2; clear hb))
    clear HT0 hg
    replace HX := Lib.hid (HX.out.up (below_drew1 _))
    go_region_held3 (fun w' => w'.cell? ⟨w.heap.size, 0, none⟩ = some (.int .i64 t.n) ∧ w'.cell? ⟨w.heap.size, 1, none⟩ = some (.slice A1 t.ov.length c1) ∧ w'.cell? ⟨w.heap.size, 2, none⟩ = some (.slice A2 t.ls.length c2) ∧ Hid (TBox w A1 A2 c1 c2 t w')) (exact TBox.keep (by assumption))
      (first
        | (go_at_call 12; refine (cA.out _ ?_).mono ?_; (exact TBox.ta (Hid.out (by assumption))); rintro e wA ⟨Aa, ca, rfl, ra, hb⟩; have HX := Lib.hid (TBox.up (w := w) (A1 := A1) (A2 := A2) (c1 := c1) (c2 := c2) (t := t) (Hid.out (by assumption)) hb); clear hb)
        | (go_at_call 13; refine (cB.out _ ?_).mono ?_; (exact TBox.ta (Hid.out (by assumption))); rintro e wB ⟨Ab, cb, rfl, rb, hb⟩; have ra := ra.below hb; have HX := Lib.hid (TBox.up (w := w) (A1 := A1) (A2 := A2) (c1 := c1) (c2 := c2) (t := t) (Hid.out (by assumption)) hb); clear hb))
    rename_i HXz
    obtain ⟨b0, b1, b2, HX⟩ := HXz
    have HRA := Lib.hid ra
    have HRB := Lib.hid rb
    clear ra rb cA cB
    go_wp2_with fail
    go_loopw [21] (fun i wr => ∃ j : Nat, j ≤ l.length ∧ i = .int .i64 j ∧ Hid (RdP wr Aa l) ∧ Hid (RdP wr Ab l) ∧ Hid (TBox w A1 A2 c1 c2 t wr)) (fun i _ => l.length - (intOf i).toNat)
    case atStart => exact ⟨0, Nat.zero_le _, rfl, HRA, HRB, HX⟩
    case round =>
      clear HRA HRB HX b0 b1 b2
      obtain ⟨j, hj, rfl, HRA, HRB, HX⟩ := hrel
      by_cases hlt : j < l.length
      · obtain ⟨b, o, p, rfl, hd, q0, q1⟩ := HRA.out.at_ hlt
        obtain ⟨b', o', p', rfl, hd', r0, r1⟩ := HRB.out.at_ hlt
        obtain rfl : p = p' := by rw [hd] at hd'; injection hd'
        have hpv := HVL.out p (List.mem_of_mem_drop (i := j) (by rw [hd]; exact List.mem_cons_self))
        clear hd hd'
        obtain ⟨pk, pm⟩ := p
        simp only at q0 q1 r0 r1 hpv
        have hnq := comp_neq pk pm
        have hlt' : (j : Int) < (l.length : Int) := by omega
        have hj0 : (0 : Int) ≤ (j : Int) := by omega
        have b0 := HX.out.b0
        have b1 := HX.out.b1
        have b2 := HX.out.b2
        have cV : ∀ d os, Calls Tryd.prog 14 #[.agg #[.int .i64 t.n, .slice A1 t.ov.length c1, .slice A2 t.ls.length c2], .agg #[.int .i64 pk, .int .i64 pm]] (grow (redrawn wr d) os) fun e w'' => e = .returned (.bool true) ∧ ∃ p : Regrown, w'' = grow (redrawn wr p.d) p.os := fun d os => by
          have h := component_Valid t A1 A2 c1 c2 pk pm (grow (redrawn wr d) os) (HX.out.ta.re d os)
          rw [hpv] at h
          exact Calls.regrown_of h
        have HcV := Lib.hid cV
        have HB := Below.refl wr.heap.size wr
        clear cV hpv
        go_wp2_with fail
        have kq_b0 := cell_regrown b0
        have kq_b1 := cell_regrown b1
        have kq_b2 := cell_regrown b2
        have kq_q0 := cell_regrown q0
        have kq_q1 := cell_regrown q1
        have kq_r0 := cell_regrown r0
        have kq_r1 := cell_regrown r1
        refine wp_region_quiet_below (by kernel_rfl) (by kernel_rfl) ?_
        repeat (go_big_quiet_step (exact HcV.out _ _))
        refine wpQuiet_nil ?_
        intro w2 hb2
        replace hb2 := below_of_regrown hb2
        clear kq_b0 kq_b1 kq_b2 kq_q0 kq_q1 kq_r0 kq_r1
        replace b0 := cell_up hb2 b0
        replace b1 := cell_up hb2 b1
        replace b2 := cell_up hb2 b2
        replace q0 := cell_up hb2 q0
        replace q1 := cell_up hb2 q1
        replace r0 := cell_up hb2 r0
        replace r1 := cell_up hb2 r1
        replace HB := below_next HB hb2
        go_wp2_with fail
        go_roundw
        case rel => exact ⟨j + 1, by omega, by go_num, Lib.hid (HRA.out.below HB), Lib.hid (HRB.out.below HB), Lib.hid (HX.out.up HB)⟩
        case measure => simp [intOf]; omega
      · obtain rfl : j = l.length := by omega
        go_wp2_with fail
        go_ret
        exact ⟨rfl, HX.out.hb⟩

theorem own : ownKnob Tryd.prog.godebug = none := by kernel_rfl
theorem laidOut : laidOutB Tryd.prog = true := by kernel_rfl
theorem gTab : Tryd.prog.globalNamed "internal/strconv.uint64pow10" = some 3 := by kernel_rfl
theorem gTabType : (Tryd.prog.globals[(3 : Nat)]?).map (·.type) = some 102 := by kernel_rfl
set_option maxRecDepth 100000 in
theorem table {W : World} (h : laidMetH Tryd.prog Rows.componentAllRow.laid W) : Lib.TabIs Tryd.prog W "internal/strconv.uint64pow10" .u64 Lib.pow10Tab :=
  by
  rw [Go.MakeChecks.laidMetH_plain _ _ _ (by kernel_rfl)] at h
  have hm : ("internal/strconv.uint64pow10", Rows.laid_internal_strconv_uint64pow10) ∈ Rows.componentAllRow.laid := by simp [Rows.componentAllRow]
  rw [show (Rows.laid_internal_strconv_uint64pow10 : DataW Unit) = Lib.tabData .u64 Lib.pow10Tab by kernel_rfl] at hm
  obtain ⟨g', t', cs, fuel, p, hg', ht', hvar, hd⟩ := Lib.laidMet.reads h hm
  obtain rfl := Option.some.inj (gTab.symm.trans hg')
  obtain rfl := Option.some.inj (gTabType.symm.trans ht')
  unfold Lib.TabIs
  rw [hvar, ← Lib.cells_of_tab Tryd.underlying102 Tryd.underlying77 (by kernel_rfl) (by kernel_rfl) hd]

set_option maxHeartbeats 1000000 in
set_option maxRecDepth 100000 in
/-- For every argument and every world that holds the tables. -/
theorem contract (H : Type) (enc : TypeId × Value → H) (W : World) (base : Nat) (args : Array Value) (ds gs : List (DataW H)) (before : List MemPlace)
    (hval : ∀ (j : Nat) t v, Tryd.f3.params[j]? = some t → args[j]? = some v → Value.okWide Tryd.prog W .any base t v)
    (hW : DataW.Whole enc Tryd.prog Tryd.f3.params.toList Rows.componentAllSpec.vars false W args.toList ds gs before) (hL : laidMetH Tryd.prog Rows.componentAllRow.laid W) :
    Calls Tryd.prog 3 args W fun e W' => ∃ v, e = .returned v ∧ Rows.componentAllSpec.post enc Tryd.prog Tryd.f3 false true false false W args v W' := by
  have hW' := hW
  obtain ⟨p, q, hA0, hV, rfl, hfz, hnd⟩ := hW
  have hA : DataW.TrodAll enc Tryd.prog W 0 (fun _ => true) true Tryd.f3.params.toList args.toList ds p := hA0
  rw [Tryd.params3] at hA hval
  obtain ⟨v0, vs0, d0, ds0, p0, q0, hargs, rfl, rfl, h0, r0⟩ := trodAll_cons hA
  obtain ⟨rfl, rfl, rfl⟩ := trodAll_nil r0
  obtain rfl : args = #[v0] := by cases args; simp_all
  obtain ⟨rfl, rfl⟩ := trodVars_none hV
  have k0 := h0
  have lt0 : ∀ x ∈ p0, x.block < W.heap.size := by obtain ⟨m, hm⟩ := k0; exact DataW.trod_lt m _ _ _ hm
  obtain ⟨t0, A0a, A0b, c0a, c0b, rfl, hT0, hn0, ho0, hl0, hb0⟩ := open_topo (hval 0 25 v0 rfl rfl) h0
  clear hA0
  refine (walk t0 A0a A0b c0a c0b W hT0 hn0 ho0 hl0 hb0 (Lib.tabBelow_of_tabIs (table hL))).mono fun e W' ⟨he, bel⟩ => ?_
  subst he
  exact ⟨_, rfl, _, _, _, [], _, [], hW', trodAll_mk1 (shut_bool Tryd.underlying4 _), (trodAll_cons_mk (Below.trod laidOut (by kernel_rfl) (of_decide_eq_true (by kernel_rfl)) k0 bel lt0) trodAll_mk0), rfl, bel.frame _, fun h => by cases h⟩

/-- The cells of a laid table. -/
def tabCells : DataW Unit → Array Value
  | .agg ds => (ds.map fun | .lit (.int k n) => Value.int k n | _ => undef).toArray
  | _ => #[]
def layTab (c : Array Value) : Obj → Obj
  | .cells _ t frozen => .cells c t frozen
  | o => o
/-- A world for the witness: the settled one, the tables holding what their initialisers lay. -/
noncomputable def laidWorld (os : Os) : World :=
  { World.holding Tryd.prog os ⟨#[], #[], []⟩ with heap := (((World.holding Tryd.prog os ⟨#[], #[], []⟩).heap.modify 3 (layTab (tabCells Rows.laid_internal_strconv_uint64pow10))).modify 4 (layTab (tabCells Rows.laid_math_bits_deBruijn32tab))).modify 5 (layTab (tabCells Rows.laid_math_bits_deBruijn64tab)) }
set_option maxRecDepth 100000 in
theorem laid_met (os : Os) : laidMet Tryd.prog Rows.componentAllRow.laid ((laidWorld os).forCall (fun _ _ => 0) ⟨#[], #[.agg #[.int .i64 0, .slice none 0 0, .slice none 0 0]], []⟩).memory :=
  laidMet_of_run' 8 (by kernel_rfl) (by kernel_rfl)
set_option maxRecDepth 100000 in
theorem reads (os : Os) {H : Type} (enc : TypeId × Value → H) : ∃ places, DataW.whole enc Tryd.prog ((laidWorld os).forCall (fun _ _ => 0) ⟨#[], #[.agg #[.int .i64 0, .slice none 0 0, .slice none 0 0]], []⟩).memory Tryd.f3.params.toList Rows.componentAllSpec.vars false (#[.agg #[.int .i64 0, .slice none 0 0, .slice none 0 0]] : Array Value).toList 8 = some ([.agg [.lit (.int .i64 0), .nil, .nil]], [], places) :=
  ⟨[], by kernel_rfl⟩

set_option maxRecDepth 100000 in
theorem lifted (os : Os) (started : os.Started) (H : Type) (enc : TypeId × Value → H) (F : Stop.Interp) :
    ReturnsInHanded {} Tryd.checked os 3 .any ((OpenSpec.ofChange Rows.componentAllSpec).preRow enc Tryd.prog Tryd.f3 Rows.componentAllRow.domain false Rows.componentAllRow.laid) (((OpenSpec.ofChange Rows.componentAllSpec).at F).post enc Tryd.prog Tryd.f3 false true false false) := by
  obtain ⟨places, hx⟩ := reads os enc
  refine returnsInHanded_of_row (C := Tryd.checked) (s := OpenSpec.ofChange Rows.componentAllSpec) own started (by kernel_rfl) Tryd.func3
    (witness_row_at (enc := enc) (C := Tryd.checked) false (laidWorld os) #[.agg #[.int .i64 0, .slice none 0 0, .slice none 0 0]] rfl (by kernel_rfl) (by kernel_rfl) (by kernel_rfl)
      (OpenSpec.preRow_of_cond 8 hx (by kernel_rfl) (fun k hk => by cases hk) (by kernel_rfl) (laid_met os))) ?_
  intro W base args ds gs before hval hW _ _ _ hL _ _
  exact contract H enc W base args ds gs before hval hW hL

set_option maxRecDepth 100000 in
theorem said : Rows.ComponentAllSaid :=
  OpenClaim.holds_of_cond 3 Tryd.f3 rfl rfl rfl rfl rfl rfl rfl ⟨rfl, rfl, rfl, rfl, rfl⟩ rfl rfl rfl rfl rfl (by kernel_rfl) Tryd.func3 (by kernel_rfl)
    (of_decide_eq_true (by kernel_rfl)) (by unfold Func.isWrapper; first | (rw [if_pos (by decide +kernel)]; kernel_rfl) | (rw [if_neg (by decide +kernel)]; exact ⟨rfl, rfl⟩))
    (fun os started H enc _ F => by rw [OpenClaim.pre_eq_preRow]; exact lifted os started H enc F)

set_option maxRecDepth 100000 in
theorem plain (f : FuncId) (fn : Func) (hf : Tryd.pinned.checked.prog.funcNamed "waypoint/waypointlaw10.ComponentAll" = some f) (hfn : Tryd.pinned.checked.prog.funcs[f]? = some fn) :
    true = Tryd.pinned.checked.prog.looks [] ∧ ∀ (j : Nat) t, fn.params[j]? = some t → Tryd.pinned.checked.prog.wantsStandIn t = false := by
  obtain rfl : f = 3 := Option.some.inj ((show Tryd.prog.funcNamed "waypoint/waypointlaw10.ComponentAll" = some 3 by kernel_rfl).symm.trans hf) |>.symm
  obtain rfl : fn = Tryd.f3 := (Option.some.inj (Tryd.func3.symm.trans hfn)).symm
  refine ⟨by kernel_rfl, fun j t ht => ?_⟩
  rw [Tryd.params3] at ht
  have hm : t ∈ [25] := by simpa using Array.mem_of_getElem? ht
  have hall : ([25].all fun u => !Tryd.prog.wantsStandIn u) = true := by kernel_rfl
  exact (show Tryd.prog.wantsStandIn t = false by simpa using List.all_eq_true.1 hall t hm)

/-- The card: the statement. -/
theorem card : Rows.ComponentAllCardSaid :=
  Claim7.holds_tied_plain_at .later [] _ _ _ _ said (fun _ h => by cases h) (by kernel_rfl) (fun _ h => by cases h) componentAll_row_tie rfl ⟨rfl, rfl⟩ (by kernel_rfl) rfl plain (by kernel_rfl)
#print axioms card
end Go.Proofs.YtibennndjfhieaaDoor.componentAll
