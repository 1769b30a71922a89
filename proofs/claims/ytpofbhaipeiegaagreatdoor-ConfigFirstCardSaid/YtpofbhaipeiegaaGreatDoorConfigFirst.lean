/-
  ConfigFirst: for every two texts the law returns true: the error of a text is that of its lines up to its line. The card ConfigFirstCardSaid; no condition beyond the given row's.
-/
import Derived.Test.YtpofbhaipeiegaaGreatDoorCfgFi
import Derived.Test.YtpofbhaipeiegaaGreatDoorErrs
import Derived.Test.YtpofbhaipeiegaaGreatDoorOpen
import Derived.Test.YtpofbhaipeiegaaGreatDoorCards
import Derived.Test.YtpofbhaipeiegaaGreatDoorTie
import Derived.WalkKit
import Derived.ProofKit
import Derived.OpenShut
import Derived.ChangeOld
import Derived.Deep.DeepHandedRow
import Derived.Lib.LaidTab
import Derived.MakeChecks
import Derived.Lib.LaidU8
namespace Go.Proofs.YtpofbhaipeiegaaGreatDoor.configFirst
open Go.ChangeShapes Go.WideShapes Go.ChangeAt Go.RowKit Go.Sort
set_option linter.unusedVariables false

set_option maxHeartbeats 8000000 in
set_option maxRecDepth 100000 in
theorem walk (s more : List UInt8) (w : World) (hs : s.length ≤ maxLen) (hm : more.length ≤ maxLen) (ht : Tab w.heap.size w) (hE : Errs w) :
    Calls Tryz.prog 4 #[.string ⟨s.toArray⟩, .string ⟨more.toArray⟩] w fun e w' => e = .returned (.bool true) ∧ Below w.heap.size w w' := by
  clear hs hm
  have HT := Lib.hid ht
  have HE := Lib.hid hE
  have HB := Lib.hid (Below.refl w.heap.size w)
  clear ht hE
  by_cases h7 : 3000 < (s.length : Int)
  · go_enter Tryz.func4, Tryz.ntmps4
    go_wp2_with (go_at_call 8; refine (law15_awake _ (HE.out.up HB.out) (tab_up HT.out HB.out HB.out.size)).mono ?_; rintro e w1 ⟨rfl, hb⟩; replace HB := Lib.hid (below_next HB.out hb); clear hb)
    go_ret
    exact ⟨rfl, HB.out⟩
  by_cases h8 : 3000 < (more.length : Int)
  · go_enter Tryz.func4, Tryz.ntmps4
    go_wp2_with (go_at_call 8; refine (law15_awake _ (HE.out.up HB.out) (tab_up HT.out HB.out HB.out.size)).mono ?_; rintro e w1 ⟨rfl, hb⟩; replace HB := Lib.hid (below_next HB.out hb); clear hb)
    go_ret
    exact ⟨rfl, HB.out⟩
  have hsl : s.length ≤ 3000 := by omega
  have hml : more.length ≤ 3000 := by omega
  have HC : Hid (∀ W, Errs W → Tab W.heap.size W → Calls Tryz.prog 11 #[.string ⟨s.toArray⟩] W (RetFo W (parseC s))) := Lib.hid fun W h1 h2 => (config_ParseS s (by omega) W h1 h2).mono fun _ _ h => h.form
  obtain ⟨res, hres⟩ : ∃ res, res = parseC s := ⟨_, rfl⟩
  rw [← hres] at HC
  have hz : (∃ y, res = .ok y) ∨ (∃ y, res = .error (0, y)) ∨ ∃ n y, res = .error (n + 1, y) := by
    cases res with
    | ok c => exact .inl ⟨_, rfl⟩
    | error p =>
      obtain ⟨n, y⟩ := p
      cases n with
      | zero => exact .inr (.inl ⟨_, rfl⟩)
      | succ n => exact .inr (.inr ⟨_, _, rfl⟩)
  rcases hz with ⟨y, rfl⟩ | ⟨y, rfl⟩ | ⟨n, x, rfl⟩
  · clear hres
    go_enter Tryz.func4, Tryz.ntmps4
    go_wp2_with (first | (go_at_call 8; refine (law15_awake _ (HE.out.up HB.out) (tab_up HT.out HB.out HB.out.size)).mono ?_; rintro e w1 ⟨rfl, hb⟩; replace HB := Lib.hid (below_next HB.out hb); clear hb) | (go_at_call 11; refine (HC.out _ (HE.out.up HB.out) (tab_up HT.out HB.out HB.out.size)).mono ?_; rintro e w2 ⟨⟨a1, n1, k1, a2, n2, k2, mm, a3, n3, k3, a4, n4, k4, a5, n5, k5, a6, n6, k6, a7, n7, k7, t0, t1, t2, t3, t4, rfl⟩, hb⟩; replace HB := Lib.hid (below_next HB.out hb); clear hb))
    go_ret
    exact ⟨rfl, below_next HB.out (below_box _ _)⟩
  · clear hres
    go_enter Tryz.func4, Tryz.ntmps4
    go_wp2_with (first | (go_at_call 8; refine (law15_awake _ (HE.out.up HB.out) (tab_up HT.out HB.out HB.out.size)).mono ?_; rintro e w1 ⟨rfl, hb⟩; replace HB := Lib.hid (below_next HB.out hb); clear hb) | (go_at_call 11; refine (HC.out _ (HE.out.up HB.out) (tab_up HT.out HB.out HB.out.size)).mono ?_; rintro e w2 ⟨⟨a1, n1, k1, a2, n2, k2, mm, a3, n3, k3, a4, n4, k4, a5, n5, k5, a6, n6, k6, a7, n7, k7, t0, t1, t2, t3, t4, rfl⟩, hb⟩; replace HB := Lib.hid (below_next HB.out hb); clear hb))
    go_ret
    exact ⟨rfl, below_next HB.out (below_box _ _)⟩
  · obtain ⟨hn, hfirst⟩ := first_plain (more := more) hres.symm
    have hjl := join_take_len 10 _ s (Nat.le_refl _) (n + 1)
    obtain ⟨ps, hps⟩ : ∃ ps, ps = splitK 10 [] s := ⟨_, rfl⟩
    have hpl : ps.length ≤ 3001 := by have := splitK_len 10 [] s; rw [← hps] at this; omega
    have HSP : Hid (∀ w', Calls Tryz.prog 12 #[.string ⟨s.toArray⟩, .string ⟨#[10]⟩] w' fun e w'' => e = .returned (.slice (some ⟨w'.heap.size, 0, none⟩) ps.length ps.length) ∧ w'' = w'.alloc (.cells (ps.map fun l => Value.string ⟨l.toArray⟩).toArray 9)) := Lib.hid fun w' => by
      rw [hps]; exact strings_Split1 10 s (by omega) w'
    rw [← hps] at hn hjl hfirst
    obtain ⟨J, hJ⟩ : ∃ J, J = Lib.join (ps.take (n + 1)) [10] := ⟨_, rfl⟩
    rw [← hJ] at hjl hfirst
    have HJ : Hid (∀ w' bk, w'.heap[bk]? = some (.cells (ps.map fun l => Value.string ⟨l.toArray⟩).toArray 9 (0, 0)) → Calls Tryz.prog 13 #[.slice (some ⟨bk, 0, none⟩) (n + 1) ps.length, .string ⟨#[10]⟩] w' fun e w'' => e = .returned (.string ⟨J.toArray⟩) ∧ Below w'.heap.size w' w'') := Lib.hid fun w' bk hbk => by
      have hl : ((ps.take (n + 1)).map fun l => (⟨l.toArray⟩ : ByteArray)).length = n + 1 := by rw [List.length_map, List.length_take]; omega
      have hm2 : ((ps.take (n + 1)).map fun l => (⟨l.toArray⟩ : ByteArray)).map (·.data.toList) = ps.take (n + 1) := by rw [List.map_map, show ((fun x : ByteArray => x.data.toList) ∘ fun l : List UInt8 => (⟨l.toArray⟩ : ByteArray)) = id from rfl, List.map_id]
      have := Tryz.strings_Join bk 0 ps.length ((ps.take (n + 1)).map fun l => (⟨l.toArray⟩ : ByteArray)) ⟨#[10]⟩ w' (fun j x hx => by
        rw [Nat.zero_add, Lib.cell_of_heap hbk]
        rw [List.getElem?_map] at hx
        cases h : (ps.take (n + 1))[j]? with
        | none => rw [h] at hx; cases hx
        | some l =>
          rw [h] at hx
          injection hx with hx
          subst hx
          have h2 : ps[j]? = some l := by
            rw [List.getElem?_take] at h
            split at h
            · exact h
            · cases h
          simp [h2]) (lt_of_heap hbk) (by rw [hl]; omega) (by rw [hl]; omega) (by rw [hm2]; show (Lib.join (ps.take (n + 1)) [10]).length ≤ _; rw [← hJ]; omega)
      rw [hl, hm2] at this
      rw [show (⟨#[10]⟩ : ByteArray).data.toList = [10] from rfl, ← hJ] at this
      exact this
    have HC2 : Hid (∀ W, Errs W → Tab W.heap.size W → Calls Tryz.prog 11 #[.string ⟨(J ++ 10 :: more).toArray⟩] W (RetFo W (.error (n + 1, x)))) := Lib.hid fun W h1 h2 => by
      have := (config_ParseS (J ++ 10 :: more) (by simp; omega) W h1 h2).mono fun _ _ h => h.form
      rwa [hfirst] at this
    have E1 : (⟨J.toArray⟩ : ByteArray) ++ ⟨#[10]⟩ = ⟨(J ++ [10]).toArray⟩ := str_app J [10]
    have E2 : (⟨(J ++ [10]).toArray⟩ : ByteArray) ++ ⟨more.toArray⟩ = ⟨(J ++ 10 :: more).toArray⟩ := by rw [str_app]; simp
    obtain ⟨J1, hJ1⟩ : ∃ J1, J1 = J ++ [10] := ⟨_, rfl⟩
    obtain ⟨J2, hJ2⟩ : ∃ J2, J2 = J ++ 10 :: more := ⟨_, rfl⟩
    rw [← hJ1] at E1 E2
    rw [← hJ2] at E2 HC2
    have l1 : J1.length ≤ 3001 := by rw [hJ1]; simp; omega
    obtain ⟨m, hmm⟩ : ∃ m, m = n + 1 := ⟨_, rfl⟩
    rw [← hmm] at HC HC2 HJ hn
    have hm1 : 1 ≤ m := by omega
    have z1 : ((m : Int) == 0) = false := by rw [beq_eq_false_iff_ne]; omega
    have z2 : ¬ (m : Int) < 0 := by omega
    have z3 : ¬ (ps.length : Int) < (m : Int) := by omega
    have z4 : (m : Int) ≤ (ps.length : Int) := by omega
    have z5 : (0 : Int) ≤ (m : Int) := by omega
    clear hfirst hJ hres hJ1 hJ2 hps hmm
    go_enter Tryz.func4, Tryz.ntmps4
    go_wp2_with (first | (go_at_call 8; refine (law15_awake _ (HE.out.up HB.out) (tab_up HT.out HB.out HB.out.size)).mono ?_; rintro e w1 ⟨rfl, hb⟩; replace HB := Lib.hid (below_next HB.out hb); clear hb) | (go_at_call 11; refine (HC.out _ (HE.out.up HB.out) (tab_up HT.out HB.out HB.out.size)).mono ?_; rintro e w2 ⟨⟨a1, n1, k1, a2, n2, k2, mm, a3, n3, k3, a4, n4, k4, a5, n5, k5, a6, n6, k6, a7, n7, k7, t0, t1, t2, t3, t4, rfl⟩, hb⟩; replace HB := Lib.hid (below_next HB.out hb); clear hb HC) | (go_at_call 12; refine (HSP.out _).mono ?_; rintro e w3 ⟨rfl, hw3⟩; have HB3 : Hid (Below w.heap.size w w3) := Lib.hid (by rw [hw3]; exact below_next (below_next HB.out (below_box _ _)) (below_box _ _)); obtain ⟨bk, hbk⟩ : ∃ bk, bk = (w2.alloc (.cells #[.slice a1 n1 k1, .slice a2 n2 k2, .int .i64 mm, .slice a3 n3 k3, .slice a4 n4 k4, .slice a5 n5 k5, .slice a6 n6 k6, .slice a7 n7 k7, .int .i64 t0, .int .i64 t1, .int .i64 t2, .int .i64 t3, .int .i64 t4] 37)).heap.size := ⟨_, rfl⟩; have HWK : Hid (w3.heap[bk]? = some (.cells (ps.map fun l => Value.string ⟨l.toArray⟩).toArray 9 (0, 0))) := Lib.hid (by rw [hw3, hbk]; exact heap_alloc_new _ _); rw [← hbk]; clear hw3 hbk) | (go_at_call 13; refine (HJ.out _ _ HWK.out).mono ?_; rintro e w5 ⟨rfl, hb⟩; replace HB3 := Lib.hid (below_next HB3.out hb); clear hb) | (go_at_call 11; refine (HC2.out _ (HE.out.up HB3.out) (tab_up HT.out HB3.out HB3.out.size)).mono ?_; rintro e w6 ⟨⟨c1, d1, k1, a2, n2, k2, mm, a3, n3, k3, a4, n4, k4, a5, n5, k5, a6, n6, k6, a7, n7, k7, t0, t1, t2, t3, t4, rfl⟩, hb⟩; replace HB3 := Lib.hid (below_next HB3.out hb); clear hb))
    go_ret
    refine ⟨?_, below_next HB3.out (below_box _ _)⟩
    simp

theorem own : ownKnob Tryz.prog.godebug = none := by kernel_rfl
theorem laidOut : laidOutB Tryz.prog = true := by kernel_rfl
theorem gTab : Tryz.prog.globalNamed "internal/strconv.uint64pow10" = some 3 := by kernel_rfl
theorem gTabType : (Tryz.prog.globals[(3 : Nat)]?).map (·.type) = some 176 := by kernel_rfl
set_option maxRecDepth 100000 in
theorem table {W : World} (h : laidMetH Tryz.prog Rows.configFirstRow.laid W) : Lib.TabIs Tryz.prog W "internal/strconv.uint64pow10" .u64 Lib.pow10Tab :=
  by
  rw [Go.MakeChecks.laidMetH_plain _ _ _ (by kernel_rfl)] at h
  have hm : ("internal/strconv.uint64pow10", Rows.laid_internal_strconv_uint64pow10) ∈ Rows.configFirstRow.laid := by simp [Rows.configFirstRow]
  rw [show (Rows.laid_internal_strconv_uint64pow10 : DataW Unit) = Lib.tabData .u64 Lib.pow10Tab by kernel_rfl] at hm
  obtain ⟨g', t', cs, fuel, p, hg', ht', hvar, hd⟩ := Lib.laidMet.reads h hm
  obtain rfl := Option.some.inj (gTab.symm.trans hg')
  obtain rfl := Option.some.inj (gTabType.symm.trans ht')
  unfold Lib.TabIs
  rw [hvar, ← Lib.cells_of_tab Tryz.underlying176 Tryz.underlying67 (by kernel_rfl) (by kernel_rfl) hd]

set_option maxRecDepth 100000 in
theorem errs {W : World} (h : laidMetH Tryz.prog Rows.configFirstRow.laid W) : Errs W := by
  rw [Go.MakeChecks.laidMetH_plain _ _ _ (by kernel_rfl)] at h
  exact errs_of (laidMet.tail (laidMet.tail (laidMet.tail (laidMet.tail h))))

set_option maxHeartbeats 1000000 in
set_option maxRecDepth 100000 in
/-- For every argument and every world that holds the tables. -/
theorem contract (H : Type) (enc : TypeId × Value → H) (W : World) (base : Nat) (args : Array Value) (ds gs : List (DataW H)) (before : List MemPlace)
    (hval : ∀ (j : Nat) t v, Tryz.f4.params[j]? = some t → args[j]? = some v → Value.okWide Tryz.prog W .any base t v)
    (hW : DataW.Whole enc Tryz.prog Tryz.f4.params.toList Rows.configFirstSpec.vars false W args.toList ds gs before) (hL : laidMetH Tryz.prog Rows.configFirstRow.laid W) :
    Calls Tryz.prog 4 args W fun e W' => ∃ v, e = .returned v ∧ Rows.configFirstSpec.post enc Tryz.prog Tryz.f4 false true false false W args v W' := by
  have hW' := hW
  obtain ⟨p, q, hAll, hV, rfl, hfz, hnd⟩ := hW
  have hA : DataW.TrodAll enc Tryz.prog W 0 (fun _ => true) true Tryz.f4.params.toList args.toList ds p := hAll
  rw [Tryz.params4] at hA hval
  obtain ⟨v0, vs0, d0, ds0, p0, q0, hargs, rfl, rfl, h0, r0⟩ := trodAll_cons hA
  obtain ⟨v1, vs1, d1, ds1, p1, q1, rfl, rfl, rfl, h1, r1⟩ := trodAll_cons r0
  obtain ⟨rfl, rfl, rfl⟩ := trodAll_nil r1
  obtain rfl : args = #[v0, v1] := by cases args; simp_all
  obtain ⟨rfl, rfl⟩ := trodVars_none hV
  have k0 := h0
  have lt0 : ∀ x ∈ p0, x.block < W.heap.size := by obtain ⟨m, hm⟩ := k0; exact DataW.trod_lt m _ _ _ hm
  obtain ⟨l0, rfl, hx0⟩ := open_str (hval 0 9 v0 rfl rfl) h0
  have k1 := h1
  have lt1 : ∀ x ∈ p1, x.block < W.heap.size := by obtain ⟨m, hm⟩ := k1; exact DataW.trod_lt m _ _ _ hm
  obtain ⟨l1, rfl, hx1⟩ := open_str (hval 1 9 v1 rfl rfl) h1
  clear hAll
  refine (walk l0 l1 W hx0 hx1 (Lib.tabBelow_of_tabIs (table hL)) (errs hL)).mono fun e W' ⟨he, bel⟩ => ?_
  subst he
  exact ⟨_, rfl, _, _, _, [], _, [], hW', trodAll_mk1 (shut_bool Tryz.underlying4 _), (trodAll_cons_mk (Below.trod laidOut (by kernel_rfl) (of_decide_eq_true (by kernel_rfl)) k0 bel lt0) (trodAll_cons_mk (Below.trod laidOut (by kernel_rfl) (of_decide_eq_true (by kernel_rfl)) k1 bel lt1) trodAll_mk0)), rfl, bel.frame _, fun h => by cases h⟩

/-- The cells of a laid table. -/
def litCells : DataW Unit → List Value
  | .lit (.int k n) => [Value.int k n]
  | _ => []
def aggCells : DataW Unit → List Value
  | .agg ds => ds.flatMap litCells
  | d => litCells d
def tabCells : DataW Unit → Array Value
  | .agg ds => (ds.flatMap aggCells).toArray
  | _ => #[]
def layTab (c : Array Value) : Obj → Obj
  | .cells _ t frozen => .cells c t frozen
  | o => o
/-- A world for the witness: the settled one, the tables holding what their initialisers lay. -/
noncomputable def low : Nat := (World.holding Tryz.prog default ⟨#[], #[], []⟩).heap.size
noncomputable def heldWorld (os : Os) : World := World.holding Tryz.prog os ⟨#[.cells #[.string ⟨#[118, 97, 108, 117, 101, 32, 111, 117, 116, 32, 111, 102, 32, 114, 97, 110, 103, 101]⟩] 198, .cells #[.string ⟨#[105, 110, 118, 97, 108, 105, 100, 32, 115, 121, 110, 116, 97, 120]⟩] 198], #[], []⟩
noncomputable def laidWorld (os : Os) : World :=
  { heldWorld os with heap := ((((((((heldWorld os).heap.modify 6 (layTab (tabCells Rows.laid_math_bits_deBruijn32tab))).modify 7 (layTab (tabCells Rows.laid_math_bits_deBruijn64tab))).modify 3 (layTab (tabCells Rows.laid_internal_strconv_uint64pow10))).modify 2 (layTab (tabCells Rows.laid_unicode_utf8_acceptRanges))).modify 5 (layTab #[.iface 196 (.pointer (some ⟨low, 0, none⟩))])).modify 4 (layTab #[.iface 196 (.pointer (some ⟨low + 1, 0, none⟩))])).modify 1 (layTab (tabCells Rows.laid_unicode_utf8_first))) }
set_option maxRecDepth 100000 in
theorem laid_met (os : Os) : laidMet Tryz.prog Rows.configFirstRow.laid ((laidWorld os).forCall (fun _ _ => 0) ⟨#[], #[.string ⟨#[]⟩, .string ⟨#[]⟩], []⟩).memory :=
  laidMet_of_run' 8 (by kernel_rfl) (by kernel_rfl)
set_option maxRecDepth 100000 in
theorem reads (os : Os) {H : Type} (enc : TypeId × Value → H) : ∃ places, DataW.whole enc Tryz.prog ((laidWorld os).forCall (fun _ _ => 0) ⟨#[], #[.string ⟨#[]⟩, .string ⟨#[]⟩], []⟩).memory Tryz.f4.params.toList Rows.configFirstSpec.vars false (#[.string ⟨#[]⟩, .string ⟨#[]⟩] : Array Value).toList 8 = some ([.lit (.string []), .lit (.string [])], [], places) :=
  ⟨[], by kernel_rfl⟩

set_option maxRecDepth 100000 in
theorem lifted (os : Os) (started : os.Started) (H : Type) (enc : TypeId × Value → H) (F : Stop.Interp) :
    ReturnsInHanded {} Tryz.checked os 4 .any ((OpenSpec.ofChange Rows.configFirstSpec).preRow enc Tryz.prog Tryz.f4 Rows.configFirstRow.domain false Rows.configFirstRow.laid) (((OpenSpec.ofChange Rows.configFirstSpec).at F).post enc Tryz.prog Tryz.f4 false true false false) := by
  obtain ⟨places, hx⟩ := reads os enc
  refine returnsInHanded_of_row (C := Tryz.checked) (s := OpenSpec.ofChange Rows.configFirstSpec) own started (by kernel_rfl) Tryz.func4
    (witness_row_at (enc := enc) (C := Tryz.checked) false (laidWorld os) #[.string ⟨#[]⟩, .string ⟨#[]⟩] rfl (by kernel_rfl) (by kernel_rfl) (by kernel_rfl)
      (OpenSpec.preRow_of_cond 8 hx (by kernel_rfl) (fun k hk => by cases hk) (by kernel_rfl) (laid_met os))) ?_
  intro W base args ds gs before hval hW _ _ _ hL _ _
  exact contract H enc W base args ds gs before hval hW hL

set_option maxRecDepth 100000 in
theorem said : Rows.ConfigFirstSaid :=
  OpenClaim.holds_of_cond 4 Tryz.f4 rfl rfl rfl rfl rfl rfl rfl ⟨rfl, rfl, rfl, rfl, rfl⟩ rfl rfl rfl rfl rfl (by kernel_rfl) Tryz.func4 (by kernel_rfl)
    (of_decide_eq_true (by kernel_rfl)) (by unfold Func.isWrapper; first | (rw [if_pos (by decide +kernel)]; kernel_rfl) | (rw [if_neg (by decide +kernel)]; exact ⟨rfl, rfl⟩))
    (fun os started H enc _ F => by rw [OpenClaim.pre_eq_preRow]; exact lifted os started H enc F)

set_option maxRecDepth 100000 in
theorem plain (f : FuncId) (fn : Func) (hf : Tryz.pinned.checked.prog.funcNamed "waypoint/waypointlaw15.ConfigFirst" = some f) (hfn : Tryz.pinned.checked.prog.funcs[f]? = some fn) :
    true = Tryz.pinned.checked.prog.looks [] ∧ ∀ (j : Nat) t, fn.params[j]? = some t → Tryz.pinned.checked.prog.wantsStandIn t = false := by
  obtain rfl : f = 4 := Option.some.inj ((show Tryz.prog.funcNamed "waypoint/waypointlaw15.ConfigFirst" = some 4 by kernel_rfl).symm.trans hf) |>.symm
  obtain rfl : fn = Tryz.f4 := (Option.some.inj (Tryz.func4.symm.trans hfn)).symm
  refine ⟨by kernel_rfl, fun j t ht => ?_⟩
  rw [Tryz.params4] at ht
  have hm : t ∈ [9] := by simpa using Array.mem_of_getElem? ht
  have hall : ([9].all fun u => !Tryz.prog.wantsStandIn u) = true := by kernel_rfl
  exact (show Tryz.prog.wantsStandIn t = false by simpa using List.all_eq_true.1 hall t hm)

/-- The card: the statement. -/
theorem card : Rows.ConfigFirstCardSaid :=
  Claim7.holds_tied_plain_at .later [] _ _ _ _ said (fun _ h => by cases h) (by kernel_rfl) (fun _ h => by cases h) configFirst_row_tie rfl ⟨rfl, rfl⟩ (by kernel_rfl) rfl plain (by kernel_rfl)
#print axioms card
end Go.Proofs.YtpofbhaipeiegaaGreatDoor.configFirst
