/-
  SegmentEnds: for every topology, list of segments and node the law returns true: End and Ends agree with the reference's. The card SegmentEndsCardSaid; no condition beyond the given row's.
-/
import Derived.Test.YtlfjajdpdnnbnaaDoorAwake18
import Derived.Test.YtlfjajdpdnnbnaaDoorOpenSeg
import Derived.Test.YtlfjajdpdnnbnaaDoorOpen
import Derived.Test.YtlfjajdpdnnbnaaDoorCards
import Derived.Test.YtlfjajdpdnnbnaaDoorTie
import Derived.WalkKit
import Derived.ProofKit
import Derived.OpenShut
import Derived.ChangeOld
import Derived.Deep.DeepHandedRow
import Derived.Lib.LaidTab
import Derived.MakeChecks
import Derived.Lib.LaidU8
namespace Go.Proofs.YtlfjajdpdnnbnaaDoor.segmentEnds
open Go.ChangeShapes Go.WideShapes Go.ChangeAt Go.RowKit Go.Sort
set_option linter.unusedVariables false

set_option maxHeartbeats 8000000 in
set_option maxRecDepth 100000 in
theorem walk (t : Topo) (A1 A2 : Option Addr) (c1 c2 : Nat) (A3 : Option Addr) (c3 : Nat) (l : List (Int × Int)) (f : Int) (w : World) (hT : TAt w A1 A2 t) (hn : I64 t.n) (ho : t.ov.length ≤ maxLen) (hl : t.ls.length ≤ maxLen) (hb : ∀ l ∈ t.ls, LnkIn l)
    (hlc : l.length ≤ c3) (hcm : c3 ≤ maxLen) (hx : ∀ p ∈ l, PairIn p) (hA : RdP w A3 l) (hf : -9223372036854775808 ≤ f ∧ f ≤ 9223372036854775807) (ht : Tab w.heap.size w) :
    Calls Tryd.prog 4 #[.agg #[.int .i64 t.n, .slice A1 t.ov.length c1, .slice A2 t.ls.length c2], .slice A3 l.length c3, .int .i64 f] w fun e w' => e = .returned (.bool true) ∧ Below w.heap.size w w' := by
  clear hn ho hl hb hx hlc hcm hf
  have hX := TBox.start c1 c2 hT
  have HA := Lib.hid hA; clear hA
  have HT0 := Lib.hid ht; clear ht
  have b0 := hX.b0
  have b1 := hX.b1
  have b2 := hX.b2
  have HX := Lib.hid hX; clear hX
  cases hg : big t with
  | true =>
    go_enter Tryd.func4, Tryd.ntmps4
    go_wp2_with (first | (go_at_call 10; refine (law18_awake _ (tab_up HT0.out HX.out.hb HX.out.hb.size)).mono ?_; rintro e w1 ⟨rfl, hb⟩; replace HX := Lib.hid (HX.out.up hb); replace b0 := cell_up hb b0; replace b1 := cell_up hb b1; replace b2 := cell_up hb b2; clear hb) | (go_at_call 11; refine (law18_large _ _ _ t _ _ _).mono ?_; rintro e w1 ⟨rfl, hb⟩; replace HX := Lib.hid (HX.out.up hb); replace b0 := cell_up hb b0; replace b1 := cell_up hb b1; replace b2 := cell_up hb b2; clear hb))
    go_ret
    exact ⟨rfl, HX.out.hb⟩
  | false =>
    cases hm : decide (100 < (l.length : Int)) with
    | true =>
      go_enter Tryd.func4, Tryd.ntmps4
      go_wp2_with (first | (go_at_call 10; refine (law18_awake _ (tab_up HT0.out HX.out.hb HX.out.hb.size)).mono ?_; rintro e w1 ⟨rfl, hb⟩; replace HX := Lib.hid (HX.out.up hb); replace b0 := cell_up hb b0; replace b1 := cell_up hb b1; replace b2 := cell_up hb b2; clear hb) | (go_at_call 11; refine (law18_large _ _ _ t _ _ _).mono ?_; rintro e w1 ⟨rfl, hb⟩; replace HX := Lib.hid (HX.out.up hb); replace b0 := cell_up hb b0; replace b1 := cell_up hb b1; replace b2 := cell_up hb b2; clear hb))
      go_ret
      exact ⟨rfl, HX.out.hb⟩
    | false =>
      have hn : t.ls.length ≤ 100000 := by have := big_false hg; omega
      have hl : l.length ≤ 100 := by have := of_decide_eq_false hm; omega
      obtain ⟨⟨xs, er⟩, hR⟩ : ∃ R, endsV t l f = R := ⟨_, rfl⟩
      have hxs : xs.length ≤ 100000 := by
        have h1 := endsV_len t l f
        rw [hR] at h1
        simp only at h1
        omega
      have hC1 : Hid (∀ w', TAt w' A1 A2 t → RdP w' A3 l → Calls Tryd.prog 14 #[.agg #[.int .i64 t.n, .slice A1 t.ov.length c1, .slice A2 t.ls.length c2], .slice A3 l.length c3, .int .i64 f] w' (RetIE w' (xs, er))) := Lib.hid fun w' h1 h2 => by
        have := segment_Ends t A1 A2 A3 c1 c2 c3 l f w' h1 h2 hn (by omega)
        rwa [hR] at this
      have hC2 : Hid (∀ w', TAt w' A1 A2 t → RdP w' A3 l → Calls Tryd.prog 15 #[.agg #[.int .i64 t.n, .slice A1 t.ov.length c1, .slice A2 t.ls.length c2], .slice A3 l.length c3, .int .i64 f] w' (RetIE w' (xs, er))) := Lib.hid fun w' h1 h2 => by
        have := ref18_Ends t A1 A2 A3 c1 c2 c3 l f w' h1 h2 hn (by omega)
        rwa [hR] at this
      clear hR
      by_cases h0 : l.length = 0
      · have h0' : ((l.length : Int) == 0) = true := by simp [h0]
        have h0'' : (l.length == 0) = true := by simp [h0]
        clear h0
        go_enter Tryd.func4, Tryd.ntmps4
        go_wp2_with (first | (go_at_call 10; refine (law18_awake _ (tab_up HT0.out HX.out.hb HX.out.hb.size)).mono ?_; rintro e w1 ⟨rfl, hb⟩; replace HX := Lib.hid (HX.out.up hb); replace b0 := cell_up hb b0; replace b1 := cell_up hb b1; replace b2 := cell_up hb b2; clear hb) | (go_at_call 11; refine (law18_large _ _ _ t _ _ _).mono ?_; rintro e w1 ⟨rfl, hb⟩; replace HX := Lib.hid (HX.out.up hb); replace b0 := cell_up hb b0; replace b1 := cell_up hb b1; replace b2 := cell_up hb b2; clear hb) | (go_at_call 14; refine (hC1.out _ HX.out.ta (HA.out.below HX.out.hb)).mono ?_; rintro e w1 ⟨Aa, ca, rfl, _, _, ra, hb⟩; replace HX := Lib.hid (HX.out.up hb); replace b0 := cell_up hb b0; replace b1 := cell_up hb b1; replace b2 := cell_up hb b2; have HRA := Lib.hid ra; clear hb ra) | (go_at_call 15; refine (hC2.out _ HX.out.ta (HA.out.below HX.out.hb)).mono ?_; rintro e w1 ⟨Ab, cb, rfl, _, _, rb, hb⟩; replace HX := Lib.hid (HX.out.up hb); replace b0 := cell_up hb b0; replace b1 := cell_up hb b1; replace b2 := cell_up hb b2; replace HRA := Lib.hid (HRA.out.below hb); have HRB := Lib.hid rb; clear hb rb) | (go_at_call 16; refine (sameInts_refl _ _ _ _ _ _ HRA.out HRB.out (by omega)).mono ?_; rintro e w1 ⟨rfl, hb⟩; replace HX := Lib.hid (HX.out.up hb); replace b0 := cell_up hb b0; replace b1 := cell_up hb b1; replace b2 := cell_up hb b2; clear hb))
        go_ret
        exact ⟨rfl, HX.out.hb⟩
      · have h0' : ((l.length : Int) == 0) = false := by rw [beq_eq_false_iff_ne]; omega
        have h0'' : (l.length == 0) = false := by rw [beq_eq_false_iff_ne]; exact h0
        have hpos : 0 < l.length := by omega
        clear h0
        obtain ⟨b, o, p, rfl, _, q0, q1⟩ := HA.out.at_ hpos
        rw [Nat.zero_mul, Nat.add_zero] at q0 q1
        obtain ⟨⟨n, er2⟩, hE⟩ : ∃ R, endR t p.1 p.2 f = R := ⟨_, rfl⟩
        obtain ⟨pk, pm⟩ := p
        simp only at q0 q1 hE
        have hE1 := Lib.hid fun w' h => segment_End t A1 A2 c1 c2 pk pm f w' h hn
        have hE2 := Lib.hid fun w' h => ref18_End t A1 A2 c1 c2 pk pm f w' h hn
        rw [hE] at hE1 hE2
        clear hE
        have Q0 := Lib.hid q0
        have Q1 := Lib.hid q1
        clear q0 q1
        have hpos' : (0 : Int) < (l.length : Int) := by omega
        go_enter Tryd.func4, Tryd.ntmps4
        go_wp2_with (first | (go_at_call 10; refine (law18_awake _ (tab_up HT0.out HX.out.hb HX.out.hb.size)).mono ?_; rintro e w1 ⟨rfl, hb⟩; replace HX := Lib.hid (HX.out.up hb); replace b0 := cell_up hb b0; replace b1 := cell_up hb b1; replace b2 := cell_up hb b2; clear hb) | (go_at_call 11; refine (law18_large _ _ _ t _ _ _).mono ?_; rintro e w1 ⟨rfl, hb⟩; replace HX := Lib.hid (HX.out.up hb); replace b0 := cell_up hb b0; replace b1 := cell_up hb b1; replace b2 := cell_up hb b2; clear hb) | (go_at_call 14; refine (hC1.out _ HX.out.ta (HA.out.below HX.out.hb)).mono ?_; rintro e w1 ⟨Aa, ca, rfl, _, _, ra, hb⟩; replace HX := Lib.hid (HX.out.up hb); replace b0 := cell_up hb b0; replace b1 := cell_up hb b1; replace b2 := cell_up hb b2; have HRA := Lib.hid ra; clear hb ra) | (go_at_call 15; refine (hC2.out _ HX.out.ta (HA.out.below HX.out.hb)).mono ?_; rintro e w1 ⟨Ab, cb, rfl, _, _, rb, hb⟩; replace HX := Lib.hid (HX.out.up hb); replace b0 := cell_up hb b0; replace b1 := cell_up hb b1; replace b2 := cell_up hb b2; replace HRA := Lib.hid (HRA.out.below hb); have HRB := Lib.hid rb; clear hb rb) | (go_at_call 16; refine (sameInts_refl _ _ _ _ _ _ HRA.out HRB.out (by omega)).mono ?_; rintro e w1 ⟨rfl, hb⟩; replace HX := Lib.hid (HX.out.up hb); replace b0 := cell_up hb b0; replace b1 := cell_up hb b1; replace b2 := cell_up hb b2; clear hb))
        have q0 := (HX.out.hb.cell (block_lt_of_cell Q0.out)).trans Q0.out
        have q1 := (HX.out.hb.cell (block_lt_of_cell Q1.out)).trans Q1.out
        have c1' : ∀ d os, Calls Tryd.prog 17 #[.agg #[.int .i64 t.n, .slice A1 t.ov.length c1, .slice A2 t.ls.length c2], .agg #[.int .i64 pk, .int .i64 pm], .int .i64 f] (grow (redrawn w1 d) os) fun e w'' => e = .returned (.tuple #[.int .i64 n, .int .i64 er2]) ∧ ∃ p : Regrown, w'' = grow (redrawn w1 p.d) p.os := fun d os => Calls.regrown_of (hE1.out _ (HX.out.ta.re _ _))
        have HC1 := Lib.hid c1'; clear c1'
        have HB := Below.refl w1.heap.size w1
        have kq_b0 := cell_regrown b0
        have kq_b1 := cell_regrown b1
        have kq_b2 := cell_regrown b2
        have kq_q0 := cell_regrown q0
        have kq_q1 := cell_regrown q1
        refine wp_region_quiet_below (by kernel_rfl) (by kernel_rfl) ?_
        repeat (go_big_quiet_step (exact HC1.out _ _))
        refine wpQuiet_nil ?_
        intro w2 hb2
        replace hb2 := below_of_regrown hb2
        clear kq_b0 kq_b1 kq_b2 kq_q0 kq_q1
        replace b0 := cell_up hb2 b0
        replace b1 := cell_up hb2 b1
        replace b2 := cell_up hb2 b2
        replace q0 := cell_up hb2 q0
        replace q1 := cell_up hb2 q1
        replace HB := below_next HB hb2
        replace HX := Lib.hid (HX.out.up HB)
        clear HC1 HB hb2
        go_wp2_with fail
        have c2' : ∀ d os, Calls Tryd.prog 18 #[.agg #[.int .i64 t.n, .slice A1 t.ov.length c1, .slice A2 t.ls.length c2], .agg #[.int .i64 pk, .int .i64 pm], .int .i64 f] (grow (redrawn w2 d) os) fun e w'' => e = .returned (.tuple #[.int .i64 n, .int .i64 er2]) ∧ ∃ p : Regrown, w'' = grow (redrawn w2 p.d) p.os := fun d os => Calls.regrown_of (hE2.out _ (HX.out.ta.re _ _))
        have HC2 := Lib.hid c2'; clear c2'
        have HB := Below.refl w2.heap.size w2
        have kq_b0 := cell_regrown b0
        have kq_b1 := cell_regrown b1
        have kq_b2 := cell_regrown b2
        have kq_q0 := cell_regrown q0
        have kq_q1 := cell_regrown q1
        refine wp_region_quiet_below (by kernel_rfl) (by kernel_rfl) ?_
        repeat (go_big_quiet_step (exact HC2.out _ _))
        refine wpQuiet_nil ?_
        intro w3 hb3
        replace hb3 := below_of_regrown hb3
        clear kq_b0 kq_b1 kq_b2 kq_q0 kq_q1
        replace b0 := cell_up hb3 b0
        replace b1 := cell_up hb3 b1
        replace b2 := cell_up hb3 b2
        replace q0 := cell_up hb3 q0
        replace q1 := cell_up hb3 q1
        replace HB := below_next HB hb3
        replace HX := Lib.hid (HX.out.up HB)
        clear HC2 HB hb3
        go_wp2_with fail
        go_ret
        exact ⟨rfl, HX.out.hb⟩

theorem own : ownKnob Tryd.prog.godebug = none := by kernel_rfl
theorem laidOut : laidOutB Tryd.prog = true := by kernel_rfl
theorem gTab : Tryd.prog.globalNamed "internal/strconv.uint64pow10" = some 2 := by kernel_rfl
theorem gTabType : (Tryd.prog.globals[(2 : Nat)]?).map (·.type) = some 112 := by kernel_rfl
set_option maxRecDepth 100000 in
theorem table {W : World} (h : laidMetH Tryd.prog Rows.segmentEndsRow.laid W) : Lib.TabIs Tryd.prog W "internal/strconv.uint64pow10" .u64 Lib.pow10Tab :=
  by
  rw [Go.MakeChecks.laidMetH_plain _ _ _ (by kernel_rfl)] at h
  have hm : ("internal/strconv.uint64pow10", Rows.laid_internal_strconv_uint64pow10) ∈ Rows.segmentEndsRow.laid := by simp [Rows.segmentEndsRow]
  rw [show (Rows.laid_internal_strconv_uint64pow10 : DataW Unit) = Lib.tabData .u64 Lib.pow10Tab by kernel_rfl] at hm
  obtain ⟨g', t', cs, fuel, p, hg', ht', hvar, hd⟩ := Lib.laidMet.reads h hm
  obtain rfl := Option.some.inj (gTab.symm.trans hg')
  obtain rfl := Option.some.inj (gTabType.symm.trans ht')
  unfold Lib.TabIs
  rw [hvar, ← Lib.cells_of_tab Tryd.underlying112 Tryd.underlying76 (by kernel_rfl) (by kernel_rfl) hd]

set_option maxHeartbeats 1000000 in
set_option maxRecDepth 100000 in
/-- For every argument and every world that holds the tables. -/
theorem contract (H : Type) (enc : TypeId × Value → H) (W : World) (base : Nat) (args : Array Value) (ds gs : List (DataW H)) (before : List MemPlace)
    (hval : ∀ (j : Nat) t v, Tryd.f4.params[j]? = some t → args[j]? = some v → Value.okWide Tryd.prog W .any base t v)
    (hW : DataW.Whole enc Tryd.prog Tryd.f4.params.toList Rows.segmentEndsSpec.vars false W args.toList ds gs before) (hL : laidMetH Tryd.prog Rows.segmentEndsRow.laid W) :
    Calls Tryd.prog 4 args W fun e W' => ∃ v, e = .returned v ∧ Rows.segmentEndsSpec.post enc Tryd.prog Tryd.f4 false true false false W args v W' := by
  have hW' := hW
  obtain ⟨p, q, hA0, hV, rfl, hfz, hnd⟩ := hW
  have hA : DataW.TrodAll enc Tryd.prog W 0 (fun _ => true) true Tryd.f4.params.toList args.toList ds p := hA0
  rw [Tryd.params4] at hA hval
  obtain ⟨v0, vs0, d0, ds0, p0, q0, hargs, rfl, rfl, h0, r0⟩ := trodAll_cons hA
  obtain ⟨v1, vs1, d1, ds1, p1, q1, rfl, rfl, rfl, h1, r1⟩ := trodAll_cons r0
  obtain ⟨v2, vs2, d2, ds2, p2, q2, rfl, rfl, rfl, h2, r2⟩ := trodAll_cons r1
  obtain ⟨rfl, rfl, rfl⟩ := trodAll_nil r2
  obtain rfl : args = #[v0, v1, v2] := by cases args; simp_all
  obtain ⟨rfl, rfl⟩ := trodVars_none hV
  have k0 := h0
  have lt0 : ∀ x ∈ p0, x.block < W.heap.size := by obtain ⟨m, hm⟩ := k0; exact DataW.trod_lt m _ _ _ hm
  obtain ⟨t0, A0a, A0b, c0a, c0b, rfl, hT0, hn0, ho0, hl0, hb0⟩ := open_topo (hval 0 25 v0 rfl rfl) h0
  have k1 := h1
  have lt1 : ∀ x ∈ p1, x.block < W.heap.size := by obtain ⟨m, hm⟩ := k1; exact DataW.trod_lt m _ _ _ hm
  obtain ⟨A1, c1, l1, rfl, hlc1, hcm1, hx1, hA1⟩ := open_segs (hval 1 31 v1 rfl rfl) h1
  have k2 := h2
  have lt2 : ∀ x ∈ p2, x.block < W.heap.size := by obtain ⟨m, hm⟩ := k2; exact DataW.trod_lt m _ _ _ hm
  obtain ⟨x2, rfl, hx2⟩ := open_i64 Tryd.underlying3 (hval 2 3 v2 rfl rfl) h2
  clear hA0
  refine (walk t0 A0a A0b c0a c0b A1 c1 l1 x2 W hT0 hn0 ho0 hl0 hb0 hlc1 hcm1 hx1 hA1 hx2 (Lib.tabBelow_of_tabIs (table hL))).mono fun e W' ⟨he, bel⟩ => ?_
  subst he
  exact ⟨_, rfl, _, _, _, [], _, [], hW', trodAll_mk1 (shut_bool Tryd.underlying4 _), (trodAll_cons_mk (Below.trod laidOut (by kernel_rfl) (of_decide_eq_true (by kernel_rfl)) k0 bel lt0) (trodAll_cons_mk (Below.trod laidOut (by kernel_rfl) (of_decide_eq_true (by kernel_rfl)) k1 bel lt1) (trodAll_cons_mk (Below.trod laidOut (by kernel_rfl) (of_decide_eq_true (by kernel_rfl)) k2 bel lt2) trodAll_mk0))), rfl, bel.frame _, fun h => by cases h⟩

/-- The cells of a laid table. -/
def tabCells : DataW Unit → Array Value
  | .agg ds => (ds.map fun | .lit (.int k n) => Value.int k n | _ => undef).toArray
  | _ => #[]
def layTab (c : Array Value) : Obj → Obj
  | .cells _ t frozen => .cells c t frozen
  | o => o
/-- A world for the witness: the settled one, the tables holding what their initialisers lay. -/
noncomputable def laidWorld (os : Os) : World :=
  { World.holding Tryd.prog os ⟨#[], #[], []⟩ with heap := (((World.holding Tryd.prog os ⟨#[], #[], []⟩).heap.modify 2 (layTab (tabCells Rows.laid_internal_strconv_uint64pow10))).modify 6 (layTab (tabCells Rows.laid_math_bits_deBruijn32tab))).modify 7 (layTab (tabCells Rows.laid_math_bits_deBruijn64tab)) }
set_option maxRecDepth 100000 in
theorem laid_met (os : Os) : laidMet Tryd.prog Rows.segmentEndsRow.laid ((laidWorld os).forCall (fun _ _ => 0) ⟨#[], #[.agg #[.int .i64 0, .slice none 0 0, .slice none 0 0], .slice none 0 0, .int .i64 0], []⟩).memory :=
  laidMet_of_run' 8 (by kernel_rfl) (by kernel_rfl)
set_option maxRecDepth 100000 in
theorem reads (os : Os) {H : Type} (enc : TypeId × Value → H) : ∃ places, DataW.whole enc Tryd.prog ((laidWorld os).forCall (fun _ _ => 0) ⟨#[], #[.agg #[.int .i64 0, .slice none 0 0, .slice none 0 0], .slice none 0 0, .int .i64 0], []⟩).memory Tryd.f4.params.toList Rows.segmentEndsSpec.vars false (#[.agg #[.int .i64 0, .slice none 0 0, .slice none 0 0], .slice none 0 0, .int .i64 0] : Array Value).toList 8 = some ([.agg [.lit (.int .i64 0), .nil, .nil], .nil, .lit (.int .i64 0)], [], places) :=
  ⟨[], by kernel_rfl⟩

set_option maxRecDepth 100000 in
theorem lifted (os : Os) (started : os.Started) (H : Type) (enc : TypeId × Value → H) (F : Stop.Interp) :
    ReturnsInHanded {} Tryd.checked os 4 .any ((OpenSpec.ofChange Rows.segmentEndsSpec).preRow enc Tryd.prog Tryd.f4 Rows.segmentEndsRow.domain false Rows.segmentEndsRow.laid) (((OpenSpec.ofChange Rows.segmentEndsSpec).at F).post enc Tryd.prog Tryd.f4 false true false false) := by
  obtain ⟨places, hx⟩ := reads os enc
  refine returnsInHanded_of_row (C := Tryd.checked) (s := OpenSpec.ofChange Rows.segmentEndsSpec) own started (by kernel_rfl) Tryd.func4
    (witness_row_at (enc := enc) (C := Tryd.checked) false (laidWorld os) #[.agg #[.int .i64 0, .slice none 0 0, .slice none 0 0], .slice none 0 0, .int .i64 0] rfl (by kernel_rfl) (by kernel_rfl) (by kernel_rfl)
      (OpenSpec.preRow_of_cond 8 hx (by kernel_rfl) (fun k hk => by cases hk) (by kernel_rfl) (laid_met os))) ?_
  intro W base args ds gs before hval hW _ _ _ hL _ _
  exact contract H enc W base args ds gs before hval hW hL

set_option maxRecDepth 100000 in
theorem said : Rows.SegmentEndsSaid :=
  OpenClaim.holds_of_cond 4 Tryd.f4 rfl rfl rfl rfl rfl rfl rfl ⟨rfl, rfl, rfl, rfl, rfl⟩ rfl rfl rfl rfl rfl (by kernel_rfl) Tryd.func4 (by kernel_rfl)
    (of_decide_eq_true (by kernel_rfl)) (by unfold Func.isWrapper; first | (rw [if_pos (by decide +kernel)]; kernel_rfl) | (rw [if_neg (by decide +kernel)]; exact ⟨rfl, rfl⟩))
    (fun os started H enc _ F => by rw [OpenClaim.pre_eq_preRow]; exact lifted os started H enc F)

set_option maxRecDepth 100000 in
theorem plain (f : FuncId) (fn : Func) (hf : Tryd.pinned.checked.prog.funcNamed "waypoint/waypointlaw18.SegmentEnds" = some f) (hfn : Tryd.pinned.checked.prog.funcs[f]? = some fn) :
    true = Tryd.pinned.checked.prog.looks [] ∧ ∀ (j : Nat) t, fn.params[j]? = some t → Tryd.pinned.checked.prog.wantsStandIn t = false := by
  obtain rfl : f = 4 := Option.some.inj ((show Tryd.prog.funcNamed "waypoint/waypointlaw18.SegmentEnds" = some 4 by kernel_rfl).symm.trans hf) |>.symm
  obtain rfl : fn = Tryd.f4 := (Option.some.inj (Tryd.func4.symm.trans hfn)).symm
  refine ⟨by kernel_rfl, fun j t ht => ?_⟩
  rw [Tryd.params4] at ht
  have hm : t ∈ [25, 31, 3] := by simpa using Array.mem_of_getElem? ht
  have hall : ([25, 31, 3].all fun u => !Tryd.prog.wantsStandIn u) = true := by kernel_rfl
  exact (show Tryd.prog.wantsStandIn t = false by simpa using List.all_eq_true.1 hall t hm)

/-- The card: the statement. -/
theorem card : Rows.SegmentEndsCardSaid :=
  Claim7.holds_tied_plain_at .later [] _ _ _ _ said (fun _ h => by cases h) (by kernel_rfl) (fun _ h => by cases h) segmentEnds_row_tie rfl ⟨rfl, rfl⟩ (by kernel_rfl) rfl plain (by kernel_rfl)
#print axioms card
end Go.Proofs.YtlfjajdpdnnbnaaDoor.segmentEnds
