/-
  ConfigValues: for every four numbers of sixteen bits the law returns true: an expression of them has its value. The card ConfigValuesCardSaid; no condition beyond the given row's.
-/
import Derived.Test.YtpofbhaipeiegaaGreatDoorCfgVa
import Derived.Test.YtpofbhaipeiegaaGreatDoorErrs
import Derived.Test.YtpofbhaipeiegaaGreatDoorOpen
import Derived.Test.YtpofbhaipeiegaaGreatDoorCards
import Derived.Test.YtpofbhaipeiegaaGreatDoorTie
import Derived.WalkKit
import Derived.ProofKit
import Derived.OpenShut
import Derived.ChangeOld
import Derived.Deep.DeepHandedRow
import Derived.Lib.LaidTab
import Derived.MakeChecks
import Derived.Lib.LaidU8
namespace Go.Proofs.YtpofbhaipeiegaaGreatDoor.configValues
open Go.ChangeShapes Go.WideShapes Go.ChangeAt Go.RowKit Go.Sort
set_option linter.unusedVariables false

theorem eq_timers (W : World) : Sem.run Tryz.prog (Op.equalIn 10000 35 (Value.agg #[Value.int IntKind.i64 10, Value.int IntKind.i64 35, Value.int IntKind.i64 5, Value.int IntKind.i64 20, Value.int IntKind.i64 9]) (Value.agg #[Value.int IntKind.i64 10, Value.int IntKind.i64 35, Value.int IntKind.i64 5, Value.int IntKind.i64 20, Value.int IntKind.i64 9])) W = .ok true W := by kernel_rfl
set_option maxHeartbeats 8000000 in
set_option maxRecDepth 100000 in
theorem walk (a b c d : Int) (w : World) (ha : in16 a) (hb : in16 b) (hc : in16 c) (hd : in16 d) (ht : Tab w.heap.size w) (hE : Errs w) :
    Calls Tryz.prog 3 #[.agg #[.int .i16 a, .int .i16 b, .int .i16 c, .int .i16 d]] w fun e w' => e = .returned (.bool true) ∧ Below w.heap.size w w' := by
  have HT := Lib.hid ht
  have HE := Lib.hid hE
  have HC : Hid (∀ W, Errs W → Tab W.heap.size W → Calls Tryz.prog 11 #[.string ⟨(valT a b c d).toArray⟩] W (RetTm W 10 35 5 20 9)) := Lib.hid fun W h1 h2 => values_Parse ha hb hc hd W h1 h2
  have HNa : Hid (∀ W, Calls Tryz.prog 9 #[.int .i16 a] W fun e w' => e = .returned (.string ⟨(numT a).toArray⟩) ∧ Below W.heap.size W w') := Lib.hid (law15_word a ha)
  have HNb : Hid (∀ W, Calls Tryz.prog 9 #[.int .i16 b] W fun e w' => e = .returned (.string ⟨(numT b).toArray⟩) ∧ Below W.heap.size W w') := Lib.hid (law15_word b hb)
  have HNc : Hid (∀ W, Calls Tryz.prog 9 #[.int .i16 c] W fun e w' => e = .returned (.string ⟨(numT c).toArray⟩) ∧ Below W.heap.size W w') := Lib.hid (law15_word c hc)
  have HNd : Hid (∀ W, Calls Tryz.prog 9 #[.int .i16 d] W fun e w' => e = .returned (.string ⟨(numT d).toArray⟩) ∧ Below W.heap.size W w') := Lib.hid (law15_word d hd)
  have hw := want_in ha hb hc hd
  have HW : Hid (∀ W, Calls Tryz.prog 10 #[.int .i64 (wantV a b c d)] W fun e w' => e = .returned (.string ⟨(Lib.itoa (wantV a b c d)).toArray⟩) ∧ Below W.heap.size W w') := Lib.hid (ref09_Number _ (by omega) (by omega))
  unfold in16 at ha hb hc hd
  have e1 : -(32768 * 65536 : Nat) ≤ a * (b - c) ∧ a * (b - c) ≤ (32768 * 65536 : Nat) := mul_in (by omega) (by omega)
  have e2 : -(32768 * 32768 : Nat) ≤ d * -a ∧ d * -a ≤ (32768 * 32768 : Nat) := mul_in (by omega) (by omega)
  have hS : valT a b c d = (((((((((([110, 111, 100, 101, 32, 110, 10, 108, 101, 116, 32, 97, 32, 61, 32] ++ numT a) ++ [10, 108, 101, 116, 32, 118, 32, 61, 32, 97, 42, 40]) ++ numT b) ++ [45]) ++ numT c) ++ [41, 32, 43, 32]) ++ numT d) ++ [32, 42, 32, 45, 97, 32, 45, 32]) ++ numT b) ++ [32, 42, 32, 50, 10]) ++ (([116, 105, 109, 101, 114, 32, 104, 111, 108, 100, 32, 61, 32, 118, 32, 45, 32, 40] ++ Lib.itoa (wantV a b c d)) ++ [41, 32, 43, 32, 57, 10]) := by
    simp [valT, v1T, v2T, v3T, v4T]
  rw [hS] at HC
  have la := numT_len (n := a) (by omega)
  have lb := numT_len (n := b) (by omega)
  have lc := numT_len (n := c) (by omega)
  have ld := numT_len (n := d) (by omega)
  have lw := itoa_len (n := wantV a b c d) (by omega)
  clear hS hw
  generalize numT a = Na at *
  generalize numT b = Nb at *
  generalize numT c = Nc at *
  generalize numT d = Nd at *
  generalize Lib.itoa (wantV a b c d) = Nw at *
  have E1 := str_app [110, 111, 100, 101, 32, 110, 10, 108, 101, 116, 32, 97, 32, 61, 32] Na
  obtain ⟨T1, h1⟩ : ∃ T, T = [110, 111, 100, 101, 32, 110, 10, 108, 101, 116, 32, 97, 32, 61, 32] ++ Na := ⟨_, rfl⟩
  have l1 : T1.length ≤ 29 := by rw [h1]; simp; omega
  rw [← h1] at E1 HC
  have E2 := str_app T1 [10, 108, 101, 116, 32, 118, 32, 61, 32, 97, 42, 40]
  obtain ⟨T2, h2⟩ : ∃ T, T = T1 ++ [10, 108, 101, 116, 32, 118, 32, 61, 32, 97, 42, 40] := ⟨_, rfl⟩
  have l2 : T2.length ≤ 41 := by rw [h2]; simp; omega
  rw [← h2] at E2 HC
  have E3 := str_app T2 Nb
  obtain ⟨T3, h3⟩ : ∃ T, T = T2 ++ Nb := ⟨_, rfl⟩
  have l3 : T3.length ≤ 55 := by rw [h3]; simp; omega
  rw [← h3] at E3 HC
  have E4 := str_app T3 [45]
  obtain ⟨T4, h4⟩ : ∃ T, T = T3 ++ [45] := ⟨_, rfl⟩
  have l4 : T4.length ≤ 56 := by rw [h4]; simp; omega
  rw [← h4] at E4 HC
  have E5 := str_app T4 Nc
  obtain ⟨T5, h5⟩ : ∃ T, T = T4 ++ Nc := ⟨_, rfl⟩
  have l5 : T5.length ≤ 70 := by rw [h5]; simp; omega
  rw [← h5] at E5 HC
  have E6 := str_app T5 [41, 32, 43, 32]
  obtain ⟨T6, h6⟩ : ∃ T, T = T5 ++ [41, 32, 43, 32] := ⟨_, rfl⟩
  have l6 : T6.length ≤ 74 := by rw [h6]; simp; omega
  rw [← h6] at E6 HC
  have E7 := str_app T6 Nd
  obtain ⟨T7, h7⟩ : ∃ T, T = T6 ++ Nd := ⟨_, rfl⟩
  have l7 : T7.length ≤ 88 := by rw [h7]; simp; omega
  rw [← h7] at E7 HC
  have E8 := str_app T7 [32, 42, 32, 45, 97, 32, 45, 32]
  obtain ⟨T8, h8⟩ : ∃ T, T = T7 ++ [32, 42, 32, 45, 97, 32, 45, 32] := ⟨_, rfl⟩
  have l8 : T8.length ≤ 96 := by rw [h8]; simp; omega
  rw [← h8] at E8 HC
  have E9 := str_app T8 Nb
  obtain ⟨T9, h9⟩ : ∃ T, T = T8 ++ Nb := ⟨_, rfl⟩
  have l9 : T9.length ≤ 110 := by rw [h9]; simp; omega
  rw [← h9] at E9 HC
  have E10 := str_app T9 [32, 42, 32, 50, 10]
  obtain ⟨T10, h10⟩ : ∃ T, T = T9 ++ [32, 42, 32, 50, 10] := ⟨_, rfl⟩
  have l10 : T10.length ≤ 115 := by rw [h10]; simp; omega
  rw [← h10] at E10 HC
  have E11 := str_app [116, 105, 109, 101, 114, 32, 104, 111, 108, 100, 32, 61, 32, 118, 32, 45, 32, 40] Nw
  obtain ⟨T11, h11⟩ : ∃ T, T = [116, 105, 109, 101, 114, 32, 104, 111, 108, 100, 32, 61, 32, 118, 32, 45, 32, 40] ++ Nw := ⟨_, rfl⟩
  have l11 : T11.length ≤ 32 := by rw [h11]; simp; omega
  rw [← h11] at E11 HC
  have E12 := str_app T11 [41, 32, 43, 32, 57, 10]
  obtain ⟨T12, h12⟩ : ∃ T, T = T11 ++ [41, 32, 43, 32, 57, 10] := ⟨_, rfl⟩
  have l12 : T12.length ≤ 38 := by rw [h12]; simp; omega
  rw [← h12] at E12 HC
  have E13 := str_app T10 T12
  obtain ⟨T13, h13⟩ : ∃ T, T = T10 ++ T12 := ⟨_, rfl⟩
  have l13 : T13.length ≤ 153 := by rw [h13]; simp; omega
  rw [← h13] at E13 HC
  clear h1 h2 h3 h4 h5 h6 h7 h8 h9 h10 h11 h12 h13
  clear ht hE
  replace HW : Hid (∀ W, Calls Tryz.prog 10 #[.int .i64 (a * (b - c) + d * -a - b * 2)] W fun e w' => e = .returned (.string ⟨Nw.toArray⟩) ∧ Below W.heap.size W w') := HW
  have HB := below_box w (.cells #[.int .i16 a, .int .i16 b, .int .i16 c, .int .i16 d] 23)
  go_enter Tryz.func3, Tryz.ntmps3
  go_wp2_with (go_at_call 8; refine (law15_awake _ (HE.out.up HB) (tab_up HT.out HB HB.size)).mono ?_; rintro e w1 ⟨rfl, hb1⟩; have q0 : w1.cell? ⟨w.heap.size, 0, none⟩ = some (.int .i16 a) := cell_up hb1 (by simp); have q1 : w1.cell? ⟨w.heap.size, 1, none⟩ = some (.int .i16 b) := cell_up hb1 (by simp); have q2 : w1.cell? ⟨w.heap.size, 2, none⟩ = some (.int .i16 c) := cell_up hb1 (by simp); have q3 : w1.cell? ⟨w.heap.size, 3, none⟩ = some (.int .i16 d) := cell_up hb1 (by simp); replace HB := below_next HB hb1; clear hb1)
  have kq_q0 := cell_regrown q0
  have kq_q1 := cell_regrown q1
  have kq_q2 := cell_regrown q2
  have kq_q3 := cell_regrown q3
  refine wp_region_quiet_below (by kernel_rfl) (by kernel_rfl) ?_
  repeat (go_big_quiet_step (fail))
  refine wpQuiet_nil ?_
  intro w2 hb2
  replace hb2 := below_of_regrown hb2
  clear kq_q0 kq_q1 kq_q2 kq_q3
  replace q0 := cell_up hb2 q0
  replace q1 := cell_up hb2 q1
  replace q2 := cell_up hb2 q2
  replace q3 := cell_up hb2 q3
  replace HB := below_next HB hb2
  clear hb2
  go_wp2_with fail
  clear e1 e2 ha hb hc hd
  have heq := eq_timers
  have kq_q0 := cell_regrown q0
  have kq_q1 := cell_regrown q1
  have kq_q2 := cell_regrown q2
  have kq_q3 := cell_regrown q3
  refine wp_region_quiet_below (by kernel_rfl) (by kernel_rfl) ?_
  repeat (go_big_quiet_step (first | with_reducible exact Calls.regrown_of (HNa.out _) | with_reducible exact Calls.regrown_of (HNb.out _) | with_reducible exact Calls.regrown_of (HNc.out _) | with_reducible exact Calls.regrown_of (HNd.out _)))
  refine wpQuiet_nil ?_
  intro w3 hb3
  replace hb3 := below_of_regrown hb3
  clear kq_q0 kq_q1 kq_q2 kq_q3
  replace q0 := cell_up hb3 q0
  replace q1 := cell_up hb3 q1
  replace q2 := cell_up hb3 q2
  replace q3 := cell_up hb3 q3
  replace HB := below_next HB hb3
  clear hb3 q0 q1 q2 q3 HNa HNb HNc HNd
  go_wp2_with (first | (go_at_call 10; refine (HW.out _).mono ?_; rintro e w4 ⟨rfl, hb4⟩; replace HB := below_next HB hb4; clear hb4) | (go_at_call 11; refine (HC.out _ (HE.out.up HB) (tab_up HT.out HB HB.size)).mono ?_; rintro e w5 ⟨⟨a1, n1, k1, a2, n2, k2, mm, a3, n3, k3, a4, n4, k4, a5, n5, k5, a6, n6, k6, a7, n7, k7, rfl⟩, hb5⟩; replace HB := below_next HB hb5; clear hb5))
  go_ret
  exact ⟨rfl, below_next HB (below_box _ _)⟩

theorem own : ownKnob Tryz.prog.godebug = none := by kernel_rfl
theorem laidOut : laidOutB Tryz.prog = true := by kernel_rfl
theorem gTab : Tryz.prog.globalNamed "internal/strconv.uint64pow10" = some 3 := by kernel_rfl
theorem gTabType : (Tryz.prog.globals[(3 : Nat)]?).map (·.type) = some 176 := by kernel_rfl
set_option maxRecDepth 100000 in
theorem table {W : World} (h : laidMetH Tryz.prog Rows.configValuesRow.laid W) : Lib.TabIs Tryz.prog W "internal/strconv.uint64pow10" .u64 Lib.pow10Tab :=
  by
  rw [Go.MakeChecks.laidMetH_plain _ _ _ (by kernel_rfl)] at h
  have hm : ("internal/strconv.uint64pow10", Rows.laid_internal_strconv_uint64pow10) ∈ Rows.configValuesRow.laid := by simp [Rows.configValuesRow]
  rw [show (Rows.laid_internal_strconv_uint64pow10 : DataW Unit) = Lib.tabData .u64 Lib.pow10Tab by kernel_rfl] at hm
  obtain ⟨g', t', cs, fuel, p, hg', ht', hvar, hd⟩ := Lib.laidMet.reads h hm
  obtain rfl := Option.some.inj (gTab.symm.trans hg')
  obtain rfl := Option.some.inj (gTabType.symm.trans ht')
  unfold Lib.TabIs
  rw [hvar, ← Lib.cells_of_tab Tryz.underlying176 Tryz.underlying67 (by kernel_rfl) (by kernel_rfl) hd]

set_option maxRecDepth 100000 in
theorem errs {W : World} (h : laidMetH Tryz.prog Rows.configValuesRow.laid W) : Errs W := by
  rw [Go.MakeChecks.laidMetH_plain _ _ _ (by kernel_rfl)] at h
  exact errs_of (laidMet.tail (laidMet.tail (laidMet.tail (laidMet.tail h))))

set_option maxHeartbeats 1000000 in
set_option maxRecDepth 100000 in
/-- For every argument and every world that holds the tables. -/
theorem contract (H : Type) (enc : TypeId × Value → H) (W : World) (base : Nat) (args : Array Value) (ds gs : List (DataW H)) (before : List MemPlace)
    (hval : ∀ (j : Nat) t v, Tryz.f3.params[j]? = some t → args[j]? = some v → Value.okWide Tryz.prog W .any base t v)
    (hW : DataW.Whole enc Tryz.prog Tryz.f3.params.toList Rows.configValuesSpec.vars false W args.toList ds gs before) (hL : laidMetH Tryz.prog Rows.configValuesRow.laid W) :
    Calls Tryz.prog 3 args W fun e W' => ∃ v, e = .returned v ∧ Rows.configValuesSpec.post enc Tryz.prog Tryz.f3 false true false false W args v W' := by
  have hW' := hW
  obtain ⟨p, q, hAll, hV, rfl, hfz, hnd⟩ := hW
  have hA : DataW.TrodAll enc Tryz.prog W 0 (fun _ => true) true Tryz.f3.params.toList args.toList ds p := hAll
  rw [Tryz.params3] at hA hval
  obtain ⟨v0, vs0, d0, ds0, p0, q0, hargs, rfl, rfl, h0, r0⟩ := trodAll_cons hA
  obtain ⟨rfl, rfl, rfl⟩ := trodAll_nil r0
  obtain rfl : args = #[v0] := by cases args; simp_all
  obtain ⟨rfl, rfl⟩ := trodVars_none hV
  have k0 := h0
  have lt0 : ∀ x ∈ p0, x.block < W.heap.size := by obtain ⟨m, hm⟩ := k0; exact DataW.trod_lt m _ _ _ hm
  obtain ⟨fa0, fb0, fc0, fd0, rfl, ha0, hb0, hc0, hd0⟩ := open_four16 (hval 0 23 v0 rfl rfl) h0
  clear hAll
  refine (walk fa0 fb0 fc0 fd0 W ha0 hb0 hc0 hd0 (Lib.tabBelow_of_tabIs (table hL)) (errs hL)).mono fun e W' ⟨he, bel⟩ => ?_
  subst he
  exact ⟨_, rfl, _, _, _, [], _, [], hW', trodAll_mk1 (shut_bool Tryz.underlying4 _), (trodAll_cons_mk (Below.trod laidOut (by kernel_rfl) (of_decide_eq_true (by kernel_rfl)) k0 bel lt0) trodAll_mk0), rfl, bel.frame _, fun h => by cases h⟩

/-- The cells of a laid table. -/
def litCells : DataW Unit → List Value
  | .lit (.int k n) => [Value.int k n]
  | _ => []
def aggCells : DataW Unit → List Value
  | .agg ds => ds.flatMap litCells
  | d => litCells d
def tabCells : DataW Unit → Array Value
  | .agg ds => (ds.flatMap aggCells).toArray
  | _ => #[]
def layTab (c : Array Value) : Obj → Obj
  | .cells _ t frozen => .cells c t frozen
  | o => o
/-- A world for the witness: the settled one, the tables holding what their initialisers lay. -/
noncomputable def low : Nat := (World.holding Tryz.prog default ⟨#[], #[], []⟩).heap.size
noncomputable def heldWorld (os : Os) : World := World.holding Tryz.prog os ⟨#[.cells #[.string ⟨#[118, 97, 108, 117, 101, 32, 111, 117, 116, 32, 111, 102, 32, 114, 97, 110, 103, 101]⟩] 198, .cells #[.string ⟨#[105, 110, 118, 97, 108, 105, 100, 32, 115, 121, 110, 116, 97, 120]⟩] 198], #[], []⟩
noncomputable def laidWorld (os : Os) : World :=
  { heldWorld os with heap := ((((((((heldWorld os).heap.modify 6 (layTab (tabCells Rows.laid_math_bits_deBruijn32tab))).modify 7 (layTab (tabCells Rows.laid_math_bits_deBruijn64tab))).modify 3 (layTab (tabCells Rows.laid_internal_strconv_uint64pow10))).modify 2 (layTab (tabCells Rows.laid_unicode_utf8_acceptRanges))).modify 5 (layTab #[.iface 196 (.pointer (some ⟨low, 0, none⟩))])).modify 4 (layTab #[.iface 196 (.pointer (some ⟨low + 1, 0, none⟩))])).modify 1 (layTab (tabCells Rows.laid_unicode_utf8_first))) }
set_option maxRecDepth 100000 in
theorem laid_met (os : Os) : laidMet Tryz.prog Rows.configValuesRow.laid ((laidWorld os).forCall (fun _ _ => 0) ⟨#[], #[.agg #[.int .i16 0, .int .i16 0, .int .i16 0, .int .i16 0]], []⟩).memory :=
  laidMet_of_run' 8 (by kernel_rfl) (by kernel_rfl)
set_option maxRecDepth 100000 in
theorem reads (os : Os) {H : Type} (enc : TypeId × Value → H) : ∃ places, DataW.whole enc Tryz.prog ((laidWorld os).forCall (fun _ _ => 0) ⟨#[], #[.agg #[.int .i16 0, .int .i16 0, .int .i16 0, .int .i16 0]], []⟩).memory Tryz.f3.params.toList Rows.configValuesSpec.vars false (#[.agg #[.int .i16 0, .int .i16 0, .int .i16 0, .int .i16 0]] : Array Value).toList 8 = some ([.agg [.lit (.int .i16 0), .lit (.int .i16 0), .lit (.int .i16 0), .lit (.int .i16 0)]], [], places) :=
  ⟨[], by kernel_rfl⟩

set_option maxRecDepth 100000 in
theorem lifted (os : Os) (started : os.Started) (H : Type) (enc : TypeId × Value → H) (F : Stop.Interp) :
    ReturnsInHanded {} Tryz.checked os 3 .any ((OpenSpec.ofChange Rows.configValuesSpec).preRow enc Tryz.prog Tryz.f3 Rows.configValuesRow.domain false Rows.configValuesRow.laid) (((OpenSpec.ofChange Rows.configValuesSpec).at F).post enc Tryz.prog Tryz.f3 false true false false) := by
  obtain ⟨places, hx⟩ := reads os enc
  refine returnsInHanded_of_row (C := Tryz.checked) (s := OpenSpec.ofChange Rows.configValuesSpec) own started (by kernel_rfl) Tryz.func3
    (witness_row_at (enc := enc) (C := Tryz.checked) false (laidWorld os) #[.agg #[.int .i16 0, .int .i16 0, .int .i16 0, .int .i16 0]] rfl (by kernel_rfl) (by kernel_rfl) (by kernel_rfl)
      (OpenSpec.preRow_of_cond 8 hx (by kernel_rfl) (fun k hk => by cases hk) (by kernel_rfl) (laid_met os))) ?_
  intro W base args ds gs before hval hW _ _ _ hL _ _
  exact contract H enc W base args ds gs before hval hW hL

set_option maxRecDepth 100000 in
theorem said : Rows.ConfigValuesSaid :=
  OpenClaim.holds_of_cond 3 Tryz.f3 rfl rfl rfl rfl rfl rfl rfl ⟨rfl, rfl, rfl, rfl, rfl⟩ rfl rfl rfl rfl rfl (by kernel_rfl) Tryz.func3 (by kernel_rfl)
    (of_decide_eq_true (by kernel_rfl)) (by unfold Func.isWrapper; first | (rw [if_pos (by decide +kernel)]; kernel_rfl) | (rw [if_neg (by decide +kernel)]; exact ⟨rfl, rfl⟩))
    (fun os started H enc _ F => by rw [OpenClaim.pre_eq_preRow]; exact lifted os started H enc F)

set_option maxRecDepth 100000 in
theorem plain (f : FuncId) (fn : Func) (hf : Tryz.pinned.checked.prog.funcNamed "waypoint/waypointlaw15.ConfigValues" = some f) (hfn : Tryz.pinned.checked.prog.funcs[f]? = some fn) :
    true = Tryz.pinned.checked.prog.looks [] ∧ ∀ (j : Nat) t, fn.params[j]? = some t → Tryz.pinned.checked.prog.wantsStandIn t = false := by
  obtain rfl : f = 3 := Option.some.inj ((show Tryz.prog.funcNamed "waypoint/waypointlaw15.ConfigValues" = some 3 by kernel_rfl).symm.trans hf) |>.symm
  obtain rfl : fn = Tryz.f3 := (Option.some.inj (Tryz.func3.symm.trans hfn)).symm
  refine ⟨by kernel_rfl, fun j t ht => ?_⟩
  rw [Tryz.params3] at ht
  have hm : t ∈ [23] := by simpa using Array.mem_of_getElem? ht
  have hall : ([23].all fun u => !Tryz.prog.wantsStandIn u) = true := by kernel_rfl
  exact (show Tryz.prog.wantsStandIn t = false by simpa using List.all_eq_true.1 hall t hm)

/-- The card: the statement. -/
theorem card : Rows.ConfigValuesCardSaid :=
  Claim7.holds_tied_plain_at .later [] _ _ _ _ said (fun _ h => by cases h) (by kernel_rfl) (fun _ h => by cases h) configValues_row_tie rfl ⟨rfl, rfl⟩ (by kernel_rfl) rfl plain (by kernel_rfl)
#print axioms card
end Go.Proofs.YtpofbhaipeiegaaGreatDoor.configValues
