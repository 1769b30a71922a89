/-
  ConfigOwn: for every text the law returns true: what config.Parse returns is valid, and its printed text is a normal form, from which Parse returns the same. The card ConfigOwnCardSaid; no condition beyond the given row's.
-/
import Derived.Test.YtfimacgmciogmaaGreatDoorPkRefSame
import Derived.Test.YtfimacgmciogmaaGreatDoorPkPrnD
import Derived.Test.YtfimacgmciogmaaGreatDoorPkBase
import Derived.Test.YtfimacgmciogmaaGreatDoorCards
import Derived.Test.YtfimacgmciogmaaGreatDoorTie
import Derived.WalkKit
import Derived.ProofKit
import Derived.OpenShut
import Derived.ChangeOld
import Derived.Deep.DeepHandedRow
import Derived.Lib.LaidTab
import Derived.MakeChecks
import Derived.Lib.LaidU8
namespace Go.Proofs.YtfimacgmciogmaaGreatDoor.configOwn
open Go.ChangeShapes Go.WideShapes Go.ChangeAt Go.RowKit Go.Sort
set_option linter.unusedVariables false
set_option linter.unusedSimpArgs false
set_option maxHeartbeats 16000000 in
set_option maxRecDepth 100000 in
theorem walk (s : List UInt8) (w : World) (hs : s.length ≤ maxLen) (ht : Tab w.heap.size w) (hE : Errs w) :
  Calls Tryz.prog 3 #[.string ⟨s.toArray⟩] w fun e w' => e = .returned (.bool true) ∧ Below w.heap.size w w' := by
 have HT := Lib.hid ht
 have HE := Lib.hid hE
 have HB := Lib.hid (Below.refl w.heap.size w)
 clear ht hE hs
 by_cases h7 : 5000 < (s.length : Int)
 ·go_enter Tryz.func3, Tryz.ntmps3
  go_wp2_with (go_at_call 4; refine (law15_awake _ (HE.out.up HB.out) (tab_up HT.out HB.out HB.out.size)).mono ?_; rintro e w1 ⟨rfl, hb⟩; replace HB := Lib.hid (below_next HB.out hb); clear hb)
  go_ret
  exact ⟨rfl, HB.out⟩
 have hsl : s.length ≤ 9999 := by omega
 cases hp : parseC s with
 | error p =>
  obtain ⟨m, x⟩ := p
  have hx := parse_ne0 hp
  have HC := Lib.hid (fun W h1 h2 => own_error hp hsl W h1 h2)
  have hxn : (x != 0) = true := by rw [bne_iff_ne]; exact hx
  have hxe : (x == 0) = false := by rw [beq_eq_false_iff_ne]; exact hx
  clear hx hp hsl
  go_enter Tryz.func3, Tryz.ntmps3
  go_wp2_with (first | (go_at_call 4; refine (law15_awake _ (HE.out.up HB.out) (tab_up HT.out HB.out HB.out.size)).mono ?_; rintro e w1 ⟨rfl, hb⟩; replace HB := Lib.hid (below_next HB.out hb); clear hb) | (go_at_call 5; refine (HC.out _ (HE.out.up HB.out) (tab_up HT.out HB.out HB.out.size)).mono ?_; rintro e w2 ⟨rfl, hb⟩; rw [zeroK]; replace HB := Lib.hid (below_next HB.out hb); clear hb))
  go_ret
  exact ⟨rfl, below_next HB.out (below_box _ _)⟩
 | ok c =>
  have HO := Lib.hid (own_of hp hsl)
  obtain ⟨c1, hc1⟩ : ∃ c1, c1 = ovC c := ⟨_, rfl⟩
  obtain ⟨n, hn⟩ : ∃ n, n = (c.names.length : Int) := ⟨_, rfl⟩
  rw [← hc1, ← hn] at HO
  obtain ⟨t0, ht0⟩ : ∃ t, t = c1.tm.getD 0 0 := ⟨_, rfl⟩
  have HTM0 := Lib.hid ht0
  obtain ⟨t1, ht1⟩ : ∃ t, t = c1.tm.getD 1 0 := ⟨_, rfl⟩
  have HTM1 := Lib.hid ht1
  obtain ⟨t2, ht2⟩ : ∃ t, t = c1.tm.getD 2 0 := ⟨_, rfl⟩
  have HTM2 := Lib.hid ht2
  obtain ⟨t3, ht3⟩ : ∃ t, t = c1.tm.getD 3 0 := ⟨_, rfl⟩
  have HTM3 := Lib.hid ht3
  obtain ⟨t4, ht4⟩ : ∃ t, t = c1.tm.getD 4 0 := ⟨_, rfl⟩
  have HTM4 := Lib.hid ht4
  have HALL : Hid (∀ r : Rws, (#[.slice r.aN c1.names.length r.cN, .slice r.aL c1.lnames.length r.cL, .int .i64 n, .slice r.aO c1.ov.length r.cO, .slice r.aK c1.links.length r.cK, .slice r.aP c1.pfx.length r.cP, .slice r.aQ c1.pols.length r.cQ, .slice r.aD c1.dems.length r.cD, .int .i64 t0, .int .i64 t1, .int .i64 t2, .int .i64 t3, .int .i64 t4] : Array Value) = cfCells n r c1) := Lib.hid fun r => by rw [ht0, ht1, ht2, ht3, ht4]; rfl
  clear hp hsl hc1 hn ht0 ht1 ht2 ht3 ht4
  have HPR : Hid (∀ r W, CAt W r c1 → Tab W.heap.size W → Calls Tryz.prog 6 #[.agg #[.slice r.aN c1.names.length r.cN, .slice r.aL c1.lnames.length r.cL, .int .i64 n, .slice r.aO c1.ov.length r.cO, .slice r.aK c1.links.length r.cK, .slice r.aP c1.pfx.length r.cP, .slice r.aQ c1.pols.length r.cQ, .slice r.aD c1.dems.length r.cD, .int .i64 t0, .int .i64 t1, .int .i64 t2, .int .i64 t3, .int .i64 t4]] W fun e w' => e = .returned (.string ⟨(printC c1).toArray⟩) ∧ Below W.heap.size W w') := Lib.hid fun r W h1 h2 => by rw [HALL.out r]; exact HO.out.pr r W h1 h2
  have HVA : Hid (∀ r W, CAt W r c1 → Calls Tryz.prog 7 #[.agg #[.slice r.aN c1.names.length r.cN, .slice r.aL c1.lnames.length r.cL, .int .i64 n, .slice r.aO c1.ov.length r.cO, .slice r.aK c1.links.length r.cK, .slice r.aP c1.pfx.length r.cP, .slice r.aQ c1.pols.length r.cQ, .slice r.aD c1.dems.length r.cD, .int .i64 t0, .int .i64 t1, .int .i64 t2, .int .i64 t3, .int .i64 t4]] W fun e w' => e = .returned (.bool true) ∧ Below W.heap.size W w') := Lib.hid fun r W h1 => by rw [HALL.out r]; exact HO.out.va r W h1
  have HSA : Hid (∀ r r2 W, CAt W r c1 → CAt W r2 c1 → Calls Tryz.prog 8 #[.agg #[.slice r.aN c1.names.length r.cN, .slice r.aL c1.lnames.length r.cL, .int .i64 n, .slice r.aO c1.ov.length r.cO, .slice r.aK c1.links.length r.cK, .slice r.aP c1.pfx.length r.cP, .slice r.aQ c1.pols.length r.cQ, .slice r.aD c1.dems.length r.cD, .int .i64 t0, .int .i64 t1, .int .i64 t2, .int .i64 t3, .int .i64 t4], .agg #[.slice r2.aN c1.names.length r2.cN, .slice r2.aL c1.lnames.length r2.cL, .int .i64 n, .slice r2.aO c1.ov.length r2.cO, .slice r2.aK c1.links.length r2.cK, .slice r2.aP c1.pfx.length r2.cP, .slice r2.aQ c1.pols.length r2.cQ, .slice r2.aD c1.dems.length r2.cD, .int .i64 t0, .int .i64 t1, .int .i64 t2, .int .i64 t3, .int .i64 t4]] W fun e w' => e = .returned (.bool true) ∧ Below W.heap.size W w') := Lib.hid fun r r2 W h1 h2 => by rw [HALL.out r, HALL.out r2]; exact HO.out.sa r r2 W h1 h2
  go_enter Tryz.func3, Tryz.ntmps3
  go_wp2_with (first | (go_at_call 4; refine (law15_awake _ (HE.out.up HB.out) (tab_up HT.out HB.out HB.out.size)).mono ?_; rintro e w1 ⟨rfl, hb⟩; replace HB := Lib.hid (below_next HB.out hb); clear hb) | (go_at_call 5; (with_reducible refine (HO.out.p1 _ (HE.out.up HB.out) (tab_up HT.out HB.out HB.out.size)).mono ?_); rintro e w2 ⟨r, rfl, hc2, hb⟩; rw [← HALL.out r]; have HK1 : Hid (KC 33 w2 n r c1 (w2.alloc (.cells #[.slice r.aN c1.names.length r.cN, .slice r.aL c1.lnames.length r.cL, .int .i64 n, .slice r.aO c1.ov.length r.cO, .slice r.aK c1.links.length r.cK, .slice r.aP c1.pfx.length r.cP, .slice r.aQ c1.pols.length r.cQ, .slice r.aD c1.dems.length r.cD, .int .i64 t0, .int .i64 t1, .int .i64 t2, .int .i64 t3, .int .i64 t4] 33))) := Lib.hid (by rw [HALL.out r]; exact KC.start _ w2 n r c1 hc2); replace HB := Lib.hid (below_next (below_next HB.out hb) (below_box w2 (.cells #[.slice r.aN c1.names.length r.cN, .slice r.aL c1.lnames.length r.cL, .int .i64 n, .slice r.aO c1.ov.length r.cO, .slice r.aK c1.links.length r.cK, .slice r.aP c1.pfx.length r.cP, .slice r.aQ c1.pols.length r.cQ, .slice r.aD c1.dems.length r.cD, .int .i64 t0, .int .i64 t1, .int .i64 t2, .int .i64 t3, .int .i64 t4] 33))); clear hb hc2; have hlt1 := HK1.out.lt; have hn1 := Nat.ne_of_lt hlt1; have hn2 := Nat.ne_of_gt hlt1; obtain ⟨p0, p1, p2, p3, p4, p5, p6, p7, p8, p9, p10, p11, p12⟩ := HK1.out.all HTM0.out HTM1.out HTM2.out HTM3.out HTM4.out) | (go_at_call 6; (with_reducible refine (HPR.out r _ HK1.out.c1 (tab_up HT.out HB.out HB.out.size)).mono ?_); rintro e w3 ⟨rfl, hb⟩; replace HK1 := Lib.hid (HK1.out.up hb); clear hlt1 hn1 hn2 p0 p1 p2 p3 p4 p5 p6 p7 p8 p9 p10 p11 p12; replace HB := Lib.hid (below_next HB.out hb); clear hb; have hlt1 := HK1.out.lt; have hn1 := Nat.ne_of_lt hlt1; have hn2 := Nat.ne_of_gt hlt1; obtain ⟨p0, p1, p2, p3, p4, p5, p6, p7, p8, p9, p10, p11, p12⟩ := HK1.out.all HTM0.out HTM1.out HTM2.out HTM3.out HTM4.out) | (go_at_call 5; (with_reducible refine (HO.out.p2 _ (HE.out.up HB.out) (tab_up HT.out HB.out HB.out.size)).mono ?_); rintro e w4 ⟨r2, rfl, hc4, hb⟩; rw [← HALL.out r2]; have HK2 : Hid (KC 33 w4 n r2 c1 (w4.alloc (.cells #[.slice r2.aN c1.names.length r2.cN, .slice r2.aL c1.lnames.length r2.cL, .int .i64 n, .slice r2.aO c1.ov.length r2.cO, .slice r2.aK c1.links.length r2.cK, .slice r2.aP c1.pfx.length r2.cP, .slice r2.aQ c1.pols.length r2.cQ, .slice r2.aD c1.dems.length r2.cD, .int .i64 t0, .int .i64 t1, .int .i64 t2, .int .i64 t3, .int .i64 t4] 33))) := Lib.hid (by rw [HALL.out r2]; exact KC.start _ w4 n r2 c1 hc4); clear hlt1 hn1 hn2 p0 p1 p2 p3 p4 p5 p6 p7 p8 p9 p10 p11 p12; replace HK1 := Lib.hid ((HK1.out.up hb).up (below_box w4 (.cells #[.slice r2.aN c1.names.length r2.cN, .slice r2.aL c1.lnames.length r2.cL, .int .i64 n, .slice r2.aO c1.ov.length r2.cO, .slice r2.aK c1.links.length r2.cK, .slice r2.aP c1.pfx.length r2.cP, .slice r2.aQ c1.pols.length r2.cQ, .slice r2.aD c1.dems.length r2.cD, .int .i64 t0, .int .i64 t1, .int .i64 t2, .int .i64 t3, .int .i64 t4] 33))); replace HB := Lib.hid (below_next (below_next HB.out hb) (below_box w4 (.cells #[.slice r2.aN c1.names.length r2.cN, .slice r2.aL c1.lnames.length r2.cL, .int .i64 n, .slice r2.aO c1.ov.length r2.cO, .slice r2.aK c1.links.length r2.cK, .slice r2.aP c1.pfx.length r2.cP, .slice r2.aQ c1.pols.length r2.cQ, .slice r2.aD c1.dems.length r2.cD, .int .i64 t0, .int .i64 t1, .int .i64 t2, .int .i64 t3, .int .i64 t4] 33))); clear hb hc4; have hlt1 := HK1.out.lt; have hn1 := Nat.ne_of_lt hlt1; have hn2 := Nat.ne_of_gt hlt1; obtain ⟨p0, p1, p2, p3, p4, p5, p6, p7, p8, p9, p10, p11, p12⟩ := HK1.out.all HTM0.out HTM1.out HTM2.out HTM3.out HTM4.out; have hlt2 := HK2.out.lt; have hn3 := Nat.ne_of_lt hlt2; have hn4 := Nat.ne_of_gt hlt2; obtain ⟨q0, q1, q2, q3, q4, q5, q6, q7, q8, q9, q10, q11, q12⟩ := HK2.out.all HTM0.out HTM1.out HTM2.out HTM3.out HTM4.out) | (go_at_call 7; (with_reducible refine (HVA.out r _ HK1.out.c1).mono ?_); rintro e w5 ⟨rfl, hb⟩; replace HK1 := Lib.hid (HK1.out.up hb); clear hlt1 hn1 hn2 p0 p1 p2 p3 p4 p5 p6 p7 p8 p9 p10 p11 p12; replace HK2 := Lib.hid (HK2.out.up hb); clear hlt2 hn3 hn4 q0 q1 q2 q3 q4 q5 q6 q7 q8 q9 q10 q11 q12; replace HB := Lib.hid (below_next HB.out hb); clear hb; have hlt1 := HK1.out.lt; have hn1 := Nat.ne_of_lt hlt1; have hn2 := Nat.ne_of_gt hlt1; obtain ⟨p0, p1, p2, p3, p4, p5, p6, p7, p8, p9, p10, p11, p12⟩ := HK1.out.all HTM0.out HTM1.out HTM2.out HTM3.out HTM4.out; have hlt2 := HK2.out.lt; have hn3 := Nat.ne_of_lt hlt2; have hn4 := Nat.ne_of_gt hlt2; obtain ⟨q0, q1, q2, q3, q4, q5, q6, q7, q8, q9, q10, q11, q12⟩ := HK2.out.all HTM0.out HTM1.out HTM2.out HTM3.out HTM4.out) | (go_at_call 8; (with_reducible refine (HSA.out r r2 _ HK1.out.c1 HK2.out.c1).mono ?_); rintro e w6 ⟨rfl, hb⟩; replace HK1 := Lib.hid (HK1.out.up hb); clear hlt1 hn1 hn2 p0 p1 p2 p3 p4 p5 p6 p7 p8 p9 p10 p11 p12; replace HK2 := Lib.hid (HK2.out.up hb); clear hlt2 hn3 hn4 q0 q1 q2 q3 q4 q5 q6 q7 q8 q9 q10 q11 q12; replace HB := Lib.hid (below_next HB.out hb); clear hb; have hlt1 := HK1.out.lt; have hn1 := Nat.ne_of_lt hlt1; have hn2 := Nat.ne_of_gt hlt1; obtain ⟨p0, p1, p2, p3, p4, p5, p6, p7, p8, p9, p10, p11, p12⟩ := HK1.out.all HTM0.out HTM1.out HTM2.out HTM3.out HTM4.out; have hlt2 := HK2.out.lt; have hn3 := Nat.ne_of_lt hlt2; have hn4 := Nat.ne_of_gt hlt2; obtain ⟨q0, q1, q2, q3, q4, q5, q6, q7, q8, q9, q10, q11, q12⟩ := HK2.out.all HTM0.out HTM1.out HTM2.out HTM3.out HTM4.out) | (go_at_call 6; (with_reducible refine (HPR.out r2 _ HK2.out.c1 (tab_up HT.out HB.out HB.out.size)).mono ?_); rintro e w7 ⟨rfl, hb⟩; replace HK1 := Lib.hid (HK1.out.up hb); clear hlt1 hn1 hn2 p0 p1 p2 p3 p4 p5 p6 p7 p8 p9 p10 p11 p12; replace HK2 := Lib.hid (HK2.out.up hb); clear hlt2 hn3 hn4 q0 q1 q2 q3 q4 q5 q6 q7 q8 q9 q10 q11 q12; replace HB := Lib.hid (below_next HB.out hb); clear hb; have hlt1 := HK1.out.lt; have hn1 := Nat.ne_of_lt hlt1; have hn2 := Nat.ne_of_gt hlt1; obtain ⟨p0, p1, p2, p3, p4, p5, p6, p7, p8, p9, p10, p11, p12⟩ := HK1.out.all HTM0.out HTM1.out HTM2.out HTM3.out HTM4.out; have hlt2 := HK2.out.lt; have hn3 := Nat.ne_of_lt hlt2; have hn4 := Nat.ne_of_gt hlt2; obtain ⟨q0, q1, q2, q3, q4, q5, q6, q7, q8, q9, q10, q11, q12⟩ := HK2.out.all HTM0.out HTM1.out HTM2.out HTM3.out HTM4.out))
  go_ret
  exact ⟨by simp, HB.out⟩
theorem own : ownKnob Tryz.prog.godebug = none := by kernel_rfl
theorem laidOut : laidOutB Tryz.prog = true := by kernel_rfl
theorem gTab : Tryz.prog.globalNamed "internal/strconv.uint64pow10" = some 3 := by kernel_rfl
theorem gTabType : (Tryz.prog.globals[(3 : Nat)]?).map (·.type) = some 163 := by kernel_rfl
set_option maxRecDepth 100000 in
theorem table {W : World} (h : laidMetH Tryz.prog Rows.configOwnRow.laid W) : Lib.TabIs Tryz.prog W "internal/strconv.uint64pow10" .u64 Lib.pow10Tab :=
 by
 rw [Go.MakeChecks.laidMetH_plain _ _ _ (by kernel_rfl)] at h
 have hm : ("internal/strconv.uint64pow10", Rows.laid_internal_strconv_uint64pow10) ∈ Rows.configOwnRow.laid := by simp [Rows.configOwnRow]
 rw [show (Rows.laid_internal_strconv_uint64pow10 : DataW Unit) = Lib.tabData .u64 Lib.pow10Tab by kernel_rfl] at hm
 obtain ⟨g', t', cs, fuel, p, hg', ht', hvar, hd⟩ := Lib.laidMet.reads h hm
 obtain rfl := Option.some.inj (gTab.symm.trans hg')
 obtain rfl := Option.some.inj (gTabType.symm.trans ht')
 unfold Lib.TabIs
 rw [hvar, ← Lib.cells_of_tab Tryz.underlying163 Tryz.underlying148 (by kernel_rfl) (by kernel_rfl) hd]
set_option maxRecDepth 100000 in
theorem errs {W : World} (h : laidMetH Tryz.prog Rows.configOwnRow.laid W) : Errs W := by
 rw [Go.MakeChecks.laidMetH_plain _ _ _ (by kernel_rfl)] at h
 exact errs_of (laidMet.tail (laidMet.tail (laidMet.tail (laidMet.tail h))))
set_option maxHeartbeats 1000000 in
set_option maxRecDepth 100000 in
/-- For every argument and every world that holds the tables. -/
theorem contract (H : Type) (enc : TypeId × Value → H) (W : World) (base : Nat) (args : Array Value) (ds gs : List (DataW H)) (before : List MemPlace)
  (hval : ∀ (j : Nat) t v, Tryz.f3.params[j]? = some t → args[j]? = some v → Value.okWide Tryz.prog W .any base t v)
  (hW : DataW.Whole enc Tryz.prog Tryz.f3.params.toList Rows.configOwnSpec.vars false W args.toList ds gs before) (hL : laidMetH Tryz.prog Rows.configOwnRow.laid W) :
  Calls Tryz.prog 3 args W fun e W' => ∃ v, e = .returned v ∧ Rows.configOwnSpec.post enc Tryz.prog Tryz.f3 false true false false W args v W' := by
 have hW' := hW
 obtain ⟨p, q, hAll, hV, rfl, hfz, hnd⟩ := hW
 have hA : DataW.TrodAll enc Tryz.prog W 0 (fun _ => true) true Tryz.f3.params.toList args.toList ds p := hAll
 rw [Tryz.params3] at hA hval
 obtain ⟨v0, vs0, d0, ds0, p0, q0, hargs, rfl, rfl, h0, r0⟩ := trodAll_cons hA
 obtain ⟨rfl, rfl, rfl⟩ := trodAll_nil r0
 obtain rfl : args = #[v0] := by cases args; simp_all
 obtain ⟨rfl, rfl⟩ := trodVars_none hV
 have k0 := h0
 have lt0 : ∀ x ∈ p0, x.block < W.heap.size := by obtain ⟨m, hm⟩ := k0; exact DataW.trod_lt m _ _ _ hm
 obtain ⟨l0, rfl, hx0⟩ := open_str (hval 0 9 v0 rfl rfl) h0
 clear hAll
 refine (walk l0 W hx0 (Lib.tabBelow_of_tabIs (table hL)) (errs hL)).mono fun e W' ⟨he, bel⟩ => ?_
 subst he
 exact ⟨_, rfl, _, _, _, [], _, [], hW', trodAll_mk1 (shut_bool Tryz.underlying4 _), (trodAll_cons_mk (Below.trod laidOut (by kernel_rfl) (of_decide_eq_true (by kernel_rfl)) k0 bel lt0) trodAll_mk0), rfl, bel.frame _, fun h => by cases h⟩
/-- The cells of a laid table. -/
def litCells : DataW Unit → List Value
 | .lit (.int k n) => [Value.int k n]
 | _ => []
def aggCells : DataW Unit → List Value
 | .agg ds => ds.flatMap litCells
 | d => litCells d
def tabCells : DataW Unit → Array Value
 | .agg ds => (ds.flatMap aggCells).toArray
 | _ => #[]
def layTab (c : Array Value) : Obj → Obj
 | .cells _ t frozen => .cells c t frozen
 | o => o
/-- A world for the witness: the settled one, the tables holding what their initialisers lay. -/
noncomputable def low : Nat := (World.holding Tryz.prog default ⟨#[], #[], []⟩).heap.size
noncomputable def heldWorld (os : Os) : World := World.holding Tryz.prog os ⟨#[.cells #[.string ⟨#[118, 97, 108, 117, 101, 32, 111, 117, 116, 32, 111, 102, 32, 114, 97, 110, 103, 101]⟩] 188, .cells #[.string ⟨#[105, 110, 118, 97, 108, 105, 100, 32, 115, 121, 110, 116, 97, 120]⟩] 188], #[], []⟩
noncomputable def laidWorld (os : Os) : World :=
 { heldWorld os with heap := ((((((((heldWorld os).heap.modify 6 (layTab (tabCells Rows.laid_math_bits_deBruijn32tab))).modify 7 (layTab (tabCells Rows.laid_math_bits_deBruijn64tab))).modify 3 (layTab (tabCells Rows.laid_internal_strconv_uint64pow10))).modify 1 (layTab (tabCells Rows.laid_unicode_utf8_acceptRanges))).modify 5 (layTab #[.iface 186 (.pointer (some ⟨low, 0, none⟩))])).modify 4 (layTab #[.iface 186 (.pointer (some ⟨low + 1, 0, none⟩))])).modify 0 (layTab (tabCells Rows.laid_unicode_utf8_first))) }
set_option maxRecDepth 100000 in
theorem laid_met (os : Os) : laidMet Tryz.prog Rows.configOwnRow.laid ((laidWorld os).forCall (fun _ _ => 0) ⟨#[], #[.string ⟨#[]⟩], []⟩).memory :=
 laidMet_of_run' 8 (by kernel_rfl) (by kernel_rfl)
set_option maxRecDepth 100000 in
theorem reads (os : Os) {H : Type} (enc : TypeId × Value → H) : ∃ places, DataW.whole enc Tryz.prog ((laidWorld os).forCall (fun _ _ => 0) ⟨#[], #[.string ⟨#[]⟩], []⟩).memory Tryz.f3.params.toList Rows.configOwnSpec.vars false (#[.string ⟨#[]⟩] : Array Value).toList 8 = some ([.lit (.string [])], [], places) :=
 ⟨[], by kernel_rfl⟩
set_option maxRecDepth 100000 in
theorem lifted (os : Os) (started : os.Started) (H : Type) (enc : TypeId × Value → H) (F : Stop.Interp) :
  ReturnsInHanded {} Tryz.checked os 3 .any ((OpenSpec.ofChange Rows.configOwnSpec).preRow enc Tryz.prog Tryz.f3 Rows.configOwnRow.domain false Rows.configOwnRow.laid) (((OpenSpec.ofChange Rows.configOwnSpec).at F).post enc Tryz.prog Tryz.f3 false true false false) := by
 obtain ⟨places, hx⟩ := reads os enc
 refine returnsInHanded_of_row (C := Tryz.checked) (s := OpenSpec.ofChange Rows.configOwnSpec) own started (by kernel_rfl) Tryz.func3
  (witness_row_at (enc := enc) (C := Tryz.checked) false (laidWorld os) #[.string ⟨#[]⟩] rfl (by kernel_rfl) (by kernel_rfl) (by kernel_rfl)
   (OpenSpec.preRow_of_cond 8 hx (by kernel_rfl) (fun k hk => by cases hk) (by kernel_rfl) (laid_met os))) ?_
 intro W base args ds gs before hval hW _ _ _ hL _ _
 exact contract H enc W base args ds gs before hval hW hL
set_option maxRecDepth 100000 in
theorem said : Rows.ConfigOwnSaid :=
 OpenClaim.holds_of_cond 3 Tryz.f3 rfl rfl rfl rfl rfl rfl rfl ⟨rfl, rfl, rfl, rfl, rfl⟩ rfl rfl rfl rfl rfl (by kernel_rfl) Tryz.func3 (by kernel_rfl)
  (of_decide_eq_true (by kernel_rfl)) (by unfold Func.isWrapper; first | (rw [if_pos (by decide +kernel)]; kernel_rfl) | (rw [if_neg (by decide +kernel)]; exact ⟨rfl, rfl⟩))
  (fun os started H enc _ F => by rw [OpenClaim.pre_eq_preRow]; exact lifted os started H enc F)
set_option maxRecDepth 100000 in
theorem plain (f : FuncId) (fn : Func) (hf : Tryz.pinned.checked.prog.funcNamed "waypoint/waypointlaw15.ConfigOwn" = some f) (hfn : Tryz.pinned.checked.prog.funcs[f]? = some fn) :
  true = Tryz.pinned.checked.prog.looks [] ∧ ∀ (j : Nat) t, fn.params[j]? = some t → Tryz.pinned.checked.prog.wantsStandIn t = false := by
 obtain rfl : f = 3 := Option.some.inj ((show Tryz.prog.funcNamed "waypoint/waypointlaw15.ConfigOwn" = some 3 by kernel_rfl).symm.trans hf) |>.symm
 obtain rfl : fn = Tryz.f3 := (Option.some.inj (Tryz.func3.symm.trans hfn)).symm
 refine ⟨by kernel_rfl, fun j t ht => ?_⟩
 rw [Tryz.params3] at ht
 have hm : t ∈ [9] := by simpa using Array.mem_of_getElem? ht
 have hall : ([9].all fun u => !Tryz.prog.wantsStandIn u) = true := by kernel_rfl
 exact (show Tryz.prog.wantsStandIn t = false by simpa using List.all_eq_true.1 hall t hm)
/-- The card: the statement. -/
theorem card : Rows.ConfigOwnCardSaid :=
 Claim7.holds_tied_plain_at .later [] _ _ _ _ said (fun _ h => by cases h) (by kernel_rfl) (fun _ h => by cases h) configOwn_row_tie rfl ⟨rfl, rfl⟩ (by kernel_rfl) rfl plain (by kernel_rfl)
#print axioms card
end Go.Proofs.YtfimacgmciogmaaGreatDoor.configOwn
