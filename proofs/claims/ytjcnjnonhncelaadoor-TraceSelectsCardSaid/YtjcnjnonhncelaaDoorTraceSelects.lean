/-
  TraceSelects: for every list of events and numbers the law returns true: Of, Between, Last and Count return the specified events. The card TraceSelectsCardSaid; no condition beyond the given row's.
-/
import Derived.Test.YtjcnjnonhncelaaDoorAwake55
import Derived.Test.YtjcnjnonhncelaaDoorAppE
import Derived.Test.YtjcnjnonhncelaaDoorTrS
import Derived.Test.YtjcnjnonhncelaaDoorOpenTr
import Derived.Test.YtjcnjnonhncelaaDoorErrs
import Derived.Test.YtjcnjnonhncelaaDoorOpen
import Derived.Test.YtjcnjnonhncelaaDoorCards
import Derived.Test.YtjcnjnonhncelaaDoorTie
import Derived.WalkKit
import Derived.ProofKit
import Derived.OpenShut
import Derived.ChangeOld
import Derived.Deep.DeepHandedRow
import Derived.Lib.LaidTab
import Derived.MakeChecks
import Derived.Lib.LaidU8
namespace Go.Proofs.YtjcnjnonhncelaaDoor.traceSelects
open Go.ChangeShapes Go.WideShapes Go.ChangeAt Go.RowKit Go.Sort
set_option linter.unusedVariables false

theorem lastL_t {l : List Ev} {q m : Int} {k : Nat} {e : Ev} (h : l[k]? = some e) (hp : lastP q m e = true) : lastL (l.take (k + 1)) q m = some e := by
  unfold lastL; rw [filter_take_t h hp]; simp
theorem lastL_f {l : List Ev} {q m : Int} {k : Nat} {e : Ev} (h : l[k]? = some e) (hp : lastP q m e = false) : lastL (l.take (k + 1)) q m = lastL (l.take k) q m := by
  unfold lastL; rw [filter_take_f h hp]
theorem ev_eql_t (x : Ev) (w : World) : (binOp .eql 40 (.agg #[.int .i64 x.t, .int .i64 x.k, .int .i64 x.n, .int .i64 x.a, .int .i64 x.p, .int .i64 x.r]) (.agg #[.int .i64 x.t, .int .i64 x.k, .int .i64 x.n, .int .i64 x.a, .int .i64 x.p, .int .i64 x.r])).run Tryd.prog w = .ok (.bool true) w := by
  rw [ev_eql]; simp
attribute [-go_sem] run_eql_struct
/-- The box of the last event, in a later world. -/
structure LstB (w0 : World) (b : Nat) (x : Ev) (w : World) : Prop where
  bx : w.heap[b]? = some (.cells #[.int .i64 x.t, .int .i64 x.k, .int .i64 x.n, .int .i64 x.a, .int .i64 x.p, .int .i64 x.r] 40 (0, 0))
  hb : Below b w0 w
theorem heap_lt {w : World} {b : Nat} {o : Obj} (h : w.heap[b]? = some o) : b < w.heap.size := (Array.getElem?_eq_some_iff.1 h).1
set_option maxHeartbeats 8000000 in
set_option maxRecDepth 100000 in
theorem walk (A : Option Addr) (c : Nat) (l : List Ev) (p q : Int) (w : World) (hlc : l.length ≤ c) (hcm : c ≤ maxLen) (hx : ∀ e ∈ l, EvIn e) (hA : RdE w A l) (hp : I64 p) (hq : I64 q) (ht : Tab w.heap.size w) (hE : Errs w) :
    Calls Tryd.prog 7 #[.slice A l.length c, .int .i64 p, .int .i64 q] w fun e w' => e = .returned (.bool true) ∧ Below w.heap.size w w' := by
  clear hx hp hq hlc hcm
  have HT := Lib.hid ht
  have HE := Lib.hid hE
  have HA := Lib.hid hA
  have HB := Lib.hid (Below.refl w.heap.size w)
  clear ht hE hA
  by_cases h6 : 60 < (l.length : Int)
  · go_enter Tryd.func7, Tryd.ntmps7
    go_wp2_with (go_at_call 9; refine (law55_awake _ (HE.out.up HB.out) (tab_up HT.out HB.out HB.out.size)).mono ?_; rintro e w1 ⟨rfl, hb⟩; replace HB := Lib.hid (below_next HB.out hb); clear hb)
    go_ret
    exact ⟨rfl, HB.out⟩
  have hl : l.length ≤ 60 := by omega
  obtain ⟨i0, hi, hz0, hz1, hz2⟩ := info_parts evInfo
  have HOf : Hid (∀ B d W, RdE W B l → Calls Tryd.prog 18 #[.slice B l.length d, .int .i64 p] W (RetE W (ofL l p))) := Lib.hid fun B d W h => trace_Of B d l p W h (by omega)
  have HOr : Hid (∀ B d W, RdE W B l → Calls Tryd.prog 19 #[.slice B l.length d, .int .i64 p] W (RetE W (ofL l p))) := Lib.hid fun B d W h => ref55_Of B d l p W h (by omega)
  have HBf : Hid (∀ B d W, RdE W B l → Calls Tryd.prog 17 #[.slice B l.length d, .int .i64 p, .int .i64 q] W (RetE W (betL l p q))) := Lib.hid fun B d W h => trace_Between B d l p q W h (by omega)
  have HBr : Hid (∀ B d W, RdE W B l → Calls Tryd.prog 20 #[.slice B l.length d, .int .i64 p, .int .i64 q] W (RetE W (betL l p q))) := Lib.hid fun B d W h => ref55_Between B d l p q W h (by omega)
  have HLa : Hid (∀ B d W, RdE W B l → Calls Tryd.prog 21 #[.slice B l.length d, .int .i64 p, .int .i64 q] W (RetLast W (lastL l p q))) := Lib.hid fun B d W h => trace_Last B d l p q W h (by omega)
  have HCo : Hid (∀ B d W, RdE W B l → Calls Tryd.prog 22 #[.slice B l.length d, .int .i64 p] W fun e w' => e = .returned (.int .i64 ((cntL l p : Nat) : Int)) ∧ Below W.heap.size W w') := Lib.hid fun B d W h => trace_Count B d l p W h (by omega)
  have hn1 : (ofL l p).length ≤ 60 := Nat.le_trans (List.length_filter_le _ _) hl
  have hn2 : (betL l p q).length ≤ 60 := Nat.le_trans (List.length_filter_le _ _) hl
  have HSM : Hid (∀ (m : List Ev) B B' d d' W, m.length ≤ 60 → RdE W B m → RdE W B' m → Calls Tryd.prog 16 #[.slice B m.length d, .slice B' m.length d'] W fun e w' => e = .returned (.bool true) ∧ Below W.heap.size W w') := Lib.hid fun m B B' d d' W hm h1 h2 => by
    have := ref55_Same B B' d d' m m W h1 h2 (by omega)
    rwa [sameE_refl] at this
  generalize ofL l p = M1 at *
  generalize betL l p q = M2 at *
  go_enter Tryd.func7, Tryd.ntmps7
  go_wp2_with (first | (go_at_call 9; refine (law55_awake _ (HE.out.up HB.out) (tab_up HT.out HB.out HB.out.size)).mono ?_; rintro e w1 ⟨rfl, hb⟩; replace HB := Lib.hid (below_next HB.out hb); clear hb) | (at_builtin; refine wpList_app_rows _ rfl _ _ 22 rfl _ 40 i0 (.agg #[.int .i64 0, .int .i64 0, .int .i64 0, .int .i64 0, .int .i64 0, .int .i64 0]) 48 Tryd.underlying22 hi hz0 6 (by decide) hz1 hz2 rfl _ _ _ rfl (own_emptyE _ (Nat.le_refl _) _) _ _ _ (evL l) rfl (by rw [evL_len]; omega) (rd_of_rde (HA.out.below (below_next HB.out (below_box _ _)))) (evL_one l) (by unfold maxLen; omega) (by omega) (by simp) ?_))
  intro v' w' hown hg
  have HB2 := Lib.hid ((below_next HB.out (below_box _ (.cells #[] 40))).grown hg (Nat.le_trans HB.out.size (by simp)) (fun k hk => by simp [Value.ownBlock] at hk; subst hk; exact HB.out.size))
  obtain ⟨A', c', rfl, _, _, hrd⟩ := rde_of_own hown
  have HRD := Lib.hid hrd
  clear hown hg hrd HB
  have HB := HB2
  clear HB2
  go_wp2_with (first | (go_at_call 18; (with_reducible refine (HOf.out _ _ _ HRD.out).mono ?_); rintro e wa ⟨A1, c1, rfl, _, _, hr, hb⟩; have HR1 := Lib.hid hr; clear hr; replace HRD := Lib.hid (HRD.out.below hb); replace HB := Lib.hid (below_next HB.out hb); clear hb) | (go_at_call 19; (with_reducible refine (HOr.out _ _ _ (HA.out.below HB.out)).mono ?_); rintro e wb ⟨A2, c2, rfl, _, _, hr, hb⟩; have HR2 := Lib.hid hr; clear hr; replace HRD := Lib.hid (HRD.out.below hb); replace HR1 := Lib.hid (HR1.out.below hb); replace HB := Lib.hid (below_next HB.out hb); clear hb) | (go_at_call 17; (with_reducible refine (HBf.out _ _ _ HRD.out).mono ?_); rintro e wd ⟨A3, c3, rfl, _, _, hr, hb⟩; have HR3 := Lib.hid hr; clear hr; replace HRD := Lib.hid (HRD.out.below hb); replace HB := Lib.hid (below_next HB.out hb); clear hb) | (go_at_call 20; (with_reducible refine (HBr.out _ _ _ (HA.out.below HB.out)).mono ?_); rintro e we ⟨A4, c4, rfl, _, _, hr, hb⟩; have HR4 := Lib.hid hr; clear hr; replace HRD := Lib.hid (HRD.out.below hb); replace HR3 := Lib.hid (HR3.out.below hb); replace HB := Lib.hid (below_next HB.out hb); clear hb) | (go_at_call 16; (with_reducible refine (HSM.out M2 _ _ _ _ _ hn2 HR3.out HR4.out).mono ?_); rintro e wS ⟨rfl, hb⟩; replace HRD := Lib.hid (HRD.out.below hb); replace HB := Lib.hid (below_next HB.out hb); clear hb) | (go_at_call 16; (with_reducible refine (HSM.out M1 _ _ _ _ _ hn1 HR1.out HR2.out).mono ?_); rintro e wT ⟨rfl, hb⟩; replace HRD := Lib.hid (HRD.out.below hb); replace HB := Lib.hid (below_next HB.out hb); clear hb))
  have HA0 := Lib.hid (HA.out.below HB.out)
  go_loopw [8, 10, 11] (fun s f i wr => ∃ k : Nat, k ≤ l.length ∧ i = .int .i64 k ∧ s = .int .i64 ((cntL (l.take k) p : Nat) : Int) ∧ f = .bool (lastL (l.take k) p q).isSome ∧ Hid (LstB wS wS.heap.size (evOr (lastL (l.take k) p q)) wr)) (fun _ _ i _ => l.length - (intOf i).toNat)
  case atStart => exact ⟨0, Nat.zero_le _, rfl, rfl, rfl, Lib.hid ⟨heap_alloc_new _ _, below_box _ _⟩⟩
  case round =>
    obtain ⟨k, hk, rfl, rfl, rfl, HL⟩ := hrel
    have hcl : cntL (l.take k) p ≤ k := filter_len l (kindP p) k
    by_cases hlt : k < l.length
    · obtain ⟨b, o, e, rfl, he, hc⟩ := (HA0.out.below HL.out.hb).at_ hlt
      obtain ⟨q0, q1, q2, q3, q4, q5⟩ := hc
      have HE := Lib.hid he
      clear he
      obtain ⟨z0, z1, z2, z3, z4, z5, zf⟩ := six_facts HL.out.bx
      have g0 := zf 0
      have g1 := zf 1
      have g2 := zf 2
      have g3 := zf 3
      have g4 := zf 4
      have g5 := zf 5
      clear zf
      cases h1 : (e.k == p) with
      | false =>
        have HN : Hid (cntL (l.take (k + 1)) p = cntL (l.take k) p) := Lib.hid (by unfold cntL; rw [filter_take_f HE.out h1])
        have HF : Hid (lastL (l.take (k + 1)) p q = lastL (l.take k) p q) := Lib.hid (lastL_f HE.out (by simp [lastP, h1]))
        generalize cntL (l.take k) p = m at *
        generalize lastL (l.take k) p q = L at *
        go_wp2_with fail
        go_roundw
        case rel => exact ⟨k + 1, by omega, by go_num, by rw [HN.out], by rw [HF.out], Lib.hid (by rw [HF.out]; exact HL.out)⟩
        case measure => simp [intOf]; omega
      | true =>
        have HN : Hid (cntL (l.take (k + 1)) p = cntL (l.take k) p + 1) := Lib.hid (by unfold cntL; rw [filter_take_t HE.out h1]; simp)
        cases h2 : (e.n == q) with
        | false =>
          have HF : Hid (lastL (l.take (k + 1)) p q = lastL (l.take k) p q) := Lib.hid (lastL_f HE.out (by simp [lastP, h1, h2]))
          generalize cntL (l.take k) p = m at *
          generalize lastL (l.take k) p q = L at *
          go_wp2_with fail
          go_roundw
          case rel => exact ⟨k + 1, by omega, by go_num, by rw [HN.out]; go_num, by rw [HF.out], Lib.hid (by rw [HF.out]; exact HL.out)⟩
          case measure => simp [intOf]; omega
        | true =>
          have HF : Hid (lastL (l.take (k + 1)) p q = some e) := Lib.hid (lastL_t HE.out (by simp [lastP, h1, h2]))
          generalize cntL (l.take k) p = m at *
          generalize lastL (l.take k) p q = L at *
          go_wp2_with fail
          go_roundw
          case rel => exact ⟨k + 1, by omega, by go_num, by rw [HN.out]; go_num, by rw [HF.out]; rfl, Lib.hid (by rw [HF.out]; exact ⟨six_set HL.out.bx, six_below (Nat.le_refl _) HL.out.hb⟩)⟩
          case measure => simp [intOf]; omega
    · obtain rfl : k = l.length := by omega
      rw [List.take_length] at HL hcl
      rw [List.take_length]
      generalize cntL l p = m at *
      generalize lastL l p q = L at *
      have hlt9 := heap_lt HL.out.bx
      have HX := Lib.hid HL.out.bx
      replace HRD := Lib.hid (HRD.out.below HL.out.hb)
      replace HB := Lib.hid (below_next HB.out HL.out.hb)
      have ce := ev_eql_t (evOr L)
      go_wp2_with (first | (go_at_call 21; (with_reducible refine (HLa.out _ _ _ HRD.out).mono ?_); rintro e wl ⟨rfl, hb⟩; replace HX := Lib.hid ((hb.block _ hlt9).trans HX.out); have hl9 := Nat.lt_of_lt_of_le hlt9 hb.size; replace HRD := Lib.hid (HRD.out.below hb); replace HRD := Lib.hid (HRD.out.below (below_box _ (.cells #[.int .i64 (evOr L).t, .int .i64 (evOr L).k, .int .i64 (evOr L).n, .int .i64 (evOr L).a, .int .i64 (evOr L).p, .int .i64 (evOr L).r] 40))); replace HB := Lib.hid (below_next (below_next HB.out hb) (below_box _ (.cells #[.int .i64 (evOr L).t, .int .i64 (evOr L).k, .int .i64 (evOr L).n, .int .i64 (evOr L).a, .int .i64 (evOr L).p, .int .i64 (evOr L).r] 40))); clear hb) | (go_at_call 22; (with_reducible refine (HCo.out _ _ _ HRD.out).mono ?_); rintro e wc ⟨rfl, hb⟩; obtain ⟨z0, z1, z2, z3, z4, z5, _⟩ := six_facts ((hb.block _ (by simp; omega)).trans (((below_box wl _).block _ hl9).trans HX.out)); obtain ⟨y0, y1, y2, y3, y4, y5, _⟩ := six_facts ((hb.block _ (by simp)).trans (heap_alloc_new wl _)); replace HRD := Lib.hid (HRD.out.below hb); replace HB := Lib.hid (below_next HB.out hb); clear hb) | (go_at_call 16; (with_reducible refine (HSM.out l _ _ _ _ _ hl HRD.out (HA.out.below HB.out)).mono ?_); rintro e wS ⟨rfl, hb⟩; replace HB := Lib.hid (below_next HB.out hb); clear hb))
      go_ret
      exact ⟨rfl, HB.out⟩

theorem own : ownKnob Tryd.prog.godebug = none := by kernel_rfl
theorem laidOut : laidOutB Tryd.prog = true := by kernel_rfl
theorem gTab : Tryd.prog.globalNamed "internal/strconv.uint64pow10" = some 3 := by kernel_rfl
theorem gTabType : (Tryd.prog.globals[(3 : Nat)]?).map (·.type) = some 169 := by kernel_rfl
set_option maxRecDepth 100000 in
theorem table {W : World} (h : laidMetH Tryd.prog Rows.traceSelectsRow.laid W) : Lib.TabIs Tryd.prog W "internal/strconv.uint64pow10" .u64 Lib.pow10Tab :=
  by
  rw [Go.MakeChecks.laidMetH_plain _ _ _ (by kernel_rfl)] at h
  have hm : ("internal/strconv.uint64pow10", Rows.laid_internal_strconv_uint64pow10) ∈ Rows.traceSelectsRow.laid := by simp [Rows.traceSelectsRow]
  rw [show (Rows.laid_internal_strconv_uint64pow10 : DataW Unit) = Lib.tabData .u64 Lib.pow10Tab by kernel_rfl] at hm
  obtain ⟨g', t', cs, fuel, p, hg', ht', hvar, hd⟩ := Lib.laidMet.reads h hm
  obtain rfl := Option.some.inj (gTab.symm.trans hg')
  obtain rfl := Option.some.inj (gTabType.symm.trans ht')
  unfold Lib.TabIs
  rw [hvar, ← Lib.cells_of_tab Tryd.underlying169 Tryd.underlying130 (by kernel_rfl) (by kernel_rfl) hd]

set_option maxRecDepth 100000 in
theorem errs {W : World} (h : laidMetH Tryd.prog Rows.traceSelectsRow.laid W) : Errs W := by
  rw [Go.MakeChecks.laidMetH_plain _ _ _ (by kernel_rfl)] at h
  exact errs_of (laidMet.tail (laidMet.tail (laidMet.tail (laidMet.tail h))))

set_option maxHeartbeats 1000000 in
set_option maxRecDepth 100000 in
/-- For every argument and every world that holds the tables. -/
theorem contract (H : Type) (enc : TypeId × Value → H) (W : World) (base : Nat) (args : Array Value) (ds gs : List (DataW H)) (before : List MemPlace)
    (hval : ∀ (j : Nat) t v, Tryd.f7.params[j]? = some t → args[j]? = some v → Value.okWide Tryd.prog W .any base t v)
    (hW : DataW.Whole enc Tryd.prog Tryd.f7.params.toList Rows.traceSelectsSpec.vars false W args.toList ds gs before) (hL : laidMetH Tryd.prog Rows.traceSelectsRow.laid W) :
    Calls Tryd.prog 7 args W fun e W' => ∃ v, e = .returned v ∧ Rows.traceSelectsSpec.post enc Tryd.prog Tryd.f7 false true false false W args v W' := by
  have hW' := hW
  obtain ⟨p, q, hAll, hV, rfl, hfz, hnd⟩ := hW
  have hA : DataW.TrodAll enc Tryd.prog W 0 (fun _ => true) true Tryd.f7.params.toList args.toList ds p := hAll
  rw [Tryd.params7] at hA hval
  obtain ⟨v0, vs0, d0, ds0, p0, q0, hargs, rfl, rfl, h0, r0⟩ := trodAll_cons hA
  obtain ⟨v1, vs1, d1, ds1, p1, q1, rfl, rfl, rfl, h1, r1⟩ := trodAll_cons r0
  obtain ⟨v2, vs2, d2, ds2, p2, q2, rfl, rfl, rfl, h2, r2⟩ := trodAll_cons r1
  obtain ⟨rfl, rfl, rfl⟩ := trodAll_nil r2
  obtain rfl : args = #[v0, v1, v2] := by cases args; simp_all
  obtain ⟨rfl, rfl⟩ := trodVars_none hV
  have k0 := h0
  have lt0 : ∀ x ∈ p0, x.block < W.heap.size := by obtain ⟨m, hm⟩ := k0; exact DataW.trod_lt m _ _ _ hm
  obtain ⟨A0, c0, l0, rfl, hlc0, hcm0, hx0, hA0⟩ := open_evs (hval 0 22 v0 rfl rfl) h0
  have k1 := h1
  have lt1 : ∀ x ∈ p1, x.block < W.heap.size := by obtain ⟨m, hm⟩ := k1; exact DataW.trod_lt m _ _ _ hm
  obtain ⟨x1, rfl, hx1⟩ := open_i64 Tryd.underlying3 (hval 1 3 v1 rfl rfl) h1
  have k2 := h2
  have lt2 : ∀ x ∈ p2, x.block < W.heap.size := by obtain ⟨m, hm⟩ := k2; exact DataW.trod_lt m _ _ _ hm
  obtain ⟨x2, rfl, hx2⟩ := open_i64 Tryd.underlying3 (hval 2 3 v2 rfl rfl) h2
  clear hAll
  refine (walk A0 c0 l0 x1 x2 W hlc0 hcm0 hx0 hA0 hx1 hx2 (Lib.tabBelow_of_tabIs (table hL)) (errs hL)).mono fun e W' ⟨he, bel⟩ => ?_
  subst he
  exact ⟨_, rfl, _, _, _, [], _, [], hW', trodAll_mk1 (shut_bool Tryd.underlying4 _), (trodAll_cons_mk (Below.trod laidOut (by kernel_rfl) (of_decide_eq_true (by kernel_rfl)) k0 bel lt0) (trodAll_cons_mk (Below.trod laidOut (by kernel_rfl) (of_decide_eq_true (by kernel_rfl)) k1 bel lt1) (trodAll_cons_mk (Below.trod laidOut (by kernel_rfl) (of_decide_eq_true (by kernel_rfl)) k2 bel lt2) trodAll_mk0))), rfl, bel.frame _, fun h => by cases h⟩

/-- The cells of a laid table. -/
def litCells : DataW Unit → List Value
  | .lit (.int k n) => [Value.int k n]
  | _ => []
def aggCells : DataW Unit → List Value
  | .agg ds => ds.flatMap litCells
  | d => litCells d
def tabCells : DataW Unit → Array Value
  | .agg ds => (ds.flatMap aggCells).toArray
  | _ => #[]
def layTab (c : Array Value) : Obj → Obj
  | .cells _ t frozen => .cells c t frozen
  | o => o
/-- A world for the witness: the settled one, the tables holding what their initialisers lay. -/
noncomputable def low : Nat := (World.holding Tryd.prog default ⟨#[], #[], []⟩).heap.size
noncomputable def heldWorld (os : Os) : World := World.holding Tryd.prog os ⟨#[.cells #[.string ⟨#[118, 97, 108, 117, 101, 32, 111, 117, 116, 32, 111, 102, 32, 114, 97, 110, 103, 101]⟩] 189, .cells #[.string ⟨#[105, 110, 118, 97, 108, 105, 100, 32, 115, 121, 110, 116, 97, 120]⟩] 189], #[], []⟩
noncomputable def laidWorld (os : Os) : World :=
  { heldWorld os with heap := ((((((((heldWorld os).heap.modify 6 (layTab (tabCells Rows.laid_math_bits_deBruijn32tab))).modify 7 (layTab (tabCells Rows.laid_math_bits_deBruijn64tab))).modify 3 (layTab (tabCells Rows.laid_internal_strconv_uint64pow10))).modify 1 (layTab (tabCells Rows.laid_unicode_utf8_acceptRanges))).modify 5 (layTab #[.iface 187 (.pointer (some ⟨low, 0, none⟩))])).modify 4 (layTab #[.iface 187 (.pointer (some ⟨low + 1, 0, none⟩))])).modify 0 (layTab (tabCells Rows.laid_unicode_utf8_first))) }
set_option maxRecDepth 100000 in
theorem laid_met (os : Os) : laidMet Tryd.prog Rows.traceSelectsRow.laid ((laidWorld os).forCall (fun _ _ => 0) ⟨#[], #[.slice none 0 0, .int .i64 0, .int .i64 0], []⟩).memory :=
  laidMet_of_run' 8 (by kernel_rfl) (by kernel_rfl)
set_option maxRecDepth 100000 in
theorem reads (os : Os) {H : Type} (enc : TypeId × Value → H) : ∃ places, DataW.whole enc Tryd.prog ((laidWorld os).forCall (fun _ _ => 0) ⟨#[], #[.slice none 0 0, .int .i64 0, .int .i64 0], []⟩).memory Tryd.f7.params.toList Rows.traceSelectsSpec.vars false (#[.slice none 0 0, .int .i64 0, .int .i64 0] : Array Value).toList 8 = some ([.nil, .lit (.int .i64 0), .lit (.int .i64 0)], [], places) :=
  ⟨[], by kernel_rfl⟩

set_option maxRecDepth 100000 in
theorem lifted (os : Os) (started : os.Started) (H : Type) (enc : TypeId × Value → H) (F : Stop.Interp) :
    ReturnsInHanded {} Tryd.checked os 7 .any ((OpenSpec.ofChange Rows.traceSelectsSpec).preRow enc Tryd.prog Tryd.f7 Rows.traceSelectsRow.domain false Rows.traceSelectsRow.laid) (((OpenSpec.ofChange Rows.traceSelectsSpec).at F).post enc Tryd.prog Tryd.f7 false true false false) := by
  obtain ⟨places, hx⟩ := reads os enc
  refine returnsInHanded_of_row (C := Tryd.checked) (s := OpenSpec.ofChange Rows.traceSelectsSpec) own started (by kernel_rfl) Tryd.func7
    (witness_row_at (enc := enc) (C := Tryd.checked) false (laidWorld os) #[.slice none 0 0, .int .i64 0, .int .i64 0] rfl (by kernel_rfl) (by kernel_rfl) (by kernel_rfl)
      (OpenSpec.preRow_of_cond 8 hx (by kernel_rfl) (fun k hk => by cases hk) (by kernel_rfl) (laid_met os))) ?_
  intro W base args ds gs before hval hW _ _ _ hL _ _
  exact contract H enc W base args ds gs before hval hW hL

set_option maxRecDepth 100000 in
theorem said : Rows.TraceSelectsSaid :=
  OpenClaim.holds_of_cond 7 Tryd.f7 rfl rfl rfl rfl rfl rfl rfl ⟨rfl, rfl, rfl, rfl, rfl⟩ rfl rfl rfl rfl rfl (by kernel_rfl) Tryd.func7 (by kernel_rfl)
    (of_decide_eq_true (by kernel_rfl)) (by unfold Func.isWrapper; first | (rw [if_pos (by decide +kernel)]; kernel_rfl) | (rw [if_neg (by decide +kernel)]; exact ⟨rfl, rfl⟩))
    (fun os started H enc _ F => by rw [OpenClaim.pre_eq_preRow]; exact lifted os started H enc F)

set_option maxRecDepth 100000 in
theorem plain (f : FuncId) (fn : Func) (hf : Tryd.pinned.checked.prog.funcNamed "waypoint/waypointlaw55.TraceSelects" = some f) (hfn : Tryd.pinned.checked.prog.funcs[f]? = some fn) :
    true = Tryd.pinned.checked.prog.looks [] ∧ ∀ (j : Nat) t, fn.params[j]? = some t → Tryd.pinned.checked.prog.wantsStandIn t = false := by
  obtain rfl : f = 7 := Option.some.inj ((show Tryd.prog.funcNamed "waypoint/waypointlaw55.TraceSelects" = some 7 by kernel_rfl).symm.trans hf) |>.symm
  obtain rfl : fn = Tryd.f7 := (Option.some.inj (Tryd.func7.symm.trans hfn)).symm
  refine ⟨by kernel_rfl, fun j t ht => ?_⟩
  rw [Tryd.params7] at ht
  have hm : t ∈ [22, 3] := by simpa using Array.mem_of_getElem? ht
  have hall : ([22, 3].all fun u => !Tryd.prog.wantsStandIn u) = true := by kernel_rfl
  exact (show Tryd.prog.wantsStandIn t = false by simpa using List.all_eq_true.1 hall t hm)

/-- The card: the statement. -/
theorem card : Rows.TraceSelectsCardSaid :=
  Claim7.holds_tied_plain_at .later [] _ _ _ _ said (fun _ h => by cases h) (by kernel_rfl) (fun _ h => by cases h) traceSelects_row_tie rfl ⟨rfl, rfl⟩ (by kernel_rfl) rfl plain (by kernel_rfl)
#print axioms card
end Go.Proofs.YtjcnjnonhncelaaDoor.traceSelects
