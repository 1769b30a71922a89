/-
  waypointref09.Text: what it returns for every topology.
-/
import Derived.Test.YtfbloolloifndaaDoorText
import Derived.Test.YtfbloolloifndaaDoorRef
import Derived.Test.YtfbloolloifndaaDoorNumber
import Derived.Test.YtfbloolloifndaaDoorOut
import Derived.Laws.Concat
namespace Go.Proofs.YtfbloolloifndaaDoor
open Go.RowKit Go.Sort
set_option linter.unusedSimpArgs false
set_option linter.unusedVariables false

theorem catS {P : Program} (x y z : List UInt8) (hz : z = x ++ y) (hx : x.length ≤ 1000000) (hy : y.length ≤ 1000000) : ∀ w' : World, (Op.stringOp .add ⟨x.toArray⟩ ⟨y.toArray⟩).run P w' = .ok (.string ⟨z.toArray⟩) w' := fun w' => by
  subst hz
  exact run_string_add_lists w' x y (by omega) (by omega)
theorem ovK_end {t : Topo} (h : t.ov.length = 0 ∨ (t.ov.length : Int) = t.n) {N : Nat} (hN : t.n = (N : Int)) : ovK t.ov N = ovK t.ov t.ov.length := by
  rcases h with h | h
  · have ho : t.ov = [] := List.eq_nil_of_length_eq_zero h
    rw [ho]
    suffices H : ∀ k, ovK [] k = [] from by rw [H, H]
    intro k
    induction k with
    | zero => rfl
    | succ k ih => rw [ovK_succ, ih]; simp [ovOne]
  · rw [show N = t.ov.length by omega]

theorem lnum_at (l : Lnk) {k : Nat} (hk : k < 7) : ∃ x, (lnkNums l)[k]? = some x := ⟨_, List.getElem?_eq_getElem (by simpa [lnkNums] using hk)⟩
theorem nums7 (l : Lnk) : (lnkNums l).take 7 = lnkNums l := rfl

set_option maxRecDepth 100000 in
set_option maxHeartbeats 4000000 in
theorem ref09_Text (t : Topo) (A1 A2 : Option Addr) (c1 c2 : Nat) (w : World) (hT : TAt w A1 A2 t) (hn : t.ls.length ≤ 100000) :
    Calls Tryd.prog 10 #[.agg #[.int .i64 t.n, .slice A1 t.ov.length c1, .slice A2 t.ls.length c2]] w fun e w' => e = .returned (.string ⟨(textV t).toArray⟩) ∧ Below w.heap.size w w' := by
  have hX := TBox.start c1 c2 hT
  have HX := Lib.hid hX
  have hT0 := Lib.hid hT
  clear hX hT
  have b0 := HX.out.b0
  have b1 := HX.out.b1
  have b2 := HX.out.b2
  have HCV : Hid (∀ W, TAt W A1 A2 t → Calls Tryd.prog 9 #[.agg #[.int .i64 t.n, .slice A1 t.ov.length c1, .slice A2 t.ls.length c2]] W fun e w' => e = .returned (.bool (valid t)) ∧ Below W.heap.size W w') := Lib.hid fun W h => ref09_Valid t A1 A2 c1 c2 W h.ls
  cases hv : valid t with
  | false =>
    have HV : Hid (textV t = []) := Lib.hid (by simp [textV, hv])
    rw [hv] at HCV
    clear hv
    go_enter Tryd.func10, Tryd.ntmps10
    go_wp2_with (go_at_call 9; (with_reducible refine (HCV.out _ HX.out.ta).mono ?_); rintro e w1 ⟨rfl, hb⟩; replace HX := Lib.hid (HX.out.up hb); clear hb b0 b1 b2)
    go_ret
    exact ⟨by rw [HV.out]; rfl, HX.out.hb⟩
  | true =>
    have HV : Hid (textV t = textOf t) := Lib.hid (by simp [textV, hv])
    rw [hv] at HCV
    have HVT := Lib.hid hv
    clear hv
    have hn2 := valid_n HVT.out
    have hls := valid_ls HVT.out
    have hil := Lib.itoa_length_le t.n (by omega) (by omega)
    obtain ⟨P1, hP1⟩ : ∃ P1, P1 = [110, 111, 100, 101, 115, 32] ++ Lib.itoa t.n := ⟨_, rfl⟩
    obtain ⟨L0, hL0⟩ : ∃ L0, L0 = P1 ++ [10] := ⟨_, rfl⟩
    have hl1 : P1.length ≤ 40 := by rw [hP1, List.length_append]; simp only [List.length_cons, List.length_nil]; omega
    have hl0 : L0.length ≤ 41 := by rw [hL0, List.length_append]; simp only [List.length_cons, List.length_nil]; omega
    have ca1 : ∀ w', (Op.stringOp .add ⟨#[110, 111, 100, 101, 115, 32]⟩ ⟨(Lib.itoa t.n).toArray⟩).run Tryd.prog w' = .ok (.string ⟨P1.toArray⟩) w' := catS [110, 111, 100, 101, 115, 32] (Lib.itoa t.n) P1 hP1 (by simp) (by omega)
    have ca2 : ∀ w', (Op.stringOp .add ⟨P1.toArray⟩ ⟨#[10]⟩).run Tryd.prog w' = .ok (.string ⟨L0.toArray⟩) w' := catS P1 [10] L0 hL0 (by omega) (by simp)
    have HL0 : Hid (L0 = lineT sNodes [t.n]) := Lib.hid (by rw [hL0, hP1]; simp [lineT, sNodes, nums])
    clear hP1 hL0
    go_enter Tryd.func10, Tryd.ntmps10
    go_wp2_with (first | (go_at_call 9; (with_reducible refine (HCV.out _ HX.out.ta).mono ?_); rintro e w1 ⟨rfl, hb⟩; replace HX := Lib.hid (HX.out.up hb); clear hb b0 b1 b2; have b0 := HX.out.b0) | (go_at_call 21; refine (ref09_Number _ (by omega) (by omega) _).mono ?_; rintro e w2 ⟨rfl, hb⟩; replace HX := Lib.hid (HX.out.up hb); clear hb b0))
    clear ca1 ca2 hl1
    go_loopw [3, 4] (fun sv iv wr => ∃ (k : Nat) (V : List UInt8), (k : Int) ≤ t.n ∧ sv = .string ⟨V.toArray⟩ ∧ iv = .int .i64 k ∧ V.length ≤ 41 + 40 * k ∧ Hid (V = L0 ++ ovK t.ov k) ∧ Hid (TBox w A1 A2 c1 c2 t wr)) (fun _ iv _ => 64 - (intOf iv).toNat)
    case atStart => exact ⟨0, L0, by omega, rfl, rfl, by omega, Lib.hid (by simp [ovK]), HX⟩
    case round =>
      clear HX
      obtain ⟨k, V, hk, rfl, rfl, hVl, HV2, HX⟩ := hrel
      have b0 := HX.out.b0
      by_cases hlt : (k : Int) < t.n
      · have b1 := HX.out.b1
        have b2 := HX.out.b2
        have HOV : Hid (∀ W, TAt W A1 A2 t → Calls Tryd.prog 22 #[.agg #[.int .i64 t.n, .slice A1 t.ov.length c1, .slice A2 t.ls.length c2], .int .i64 k] W fun e w' => e = .returned (.bool (over t k)) ∧ Below W.heap.size W w') := Lib.hid fun W h => ref09_OverloadedT t A1 A2 c1 c2 k W h HVT.out (by omega) hlt
        have hov : over t k = t.ov.getD k false := by simp [over]
        cases hx : over t k with
        | false =>
          rw [hx] at HOV hov
          have HO : Hid (L0 ++ ovK t.ov (k + 1) = L0 ++ ovK t.ov k) := Lib.hid (by rw [ovK_succ]; unfold ovOne; rw [← hov]; simp)
          clear hx hov
          go_wp2_with (go_at_call 22; (with_reducible refine (HOV.out _ HX.out.ta).mono ?_); rintro e w2 ⟨rfl, hb⟩; replace HX := Lib.hid (HX.out.up hb); clear hb b0 b1 b2)
          go_roundw
          case rel => exact ⟨k + 1, V, by omega, rfl, by go_num, by omega, Lib.hid (by rw [HO.out]; exact HV2.out), HX⟩
          case measure => simp [intOf]; omega
        | true =>
          rw [hx] at HOV hov
          have hik := Lib.itoa_length_le (k : Int) (by omega) (by omega)
          obtain ⟨Q1, hQ1⟩ : ∃ Q1, Q1 = V ++ [111, 118, 101, 114, 108, 111, 97, 100, 32] := ⟨_, rfl⟩
          obtain ⟨Q2, hQ2⟩ : ∃ Q2, Q2 = Q1 ++ Lib.itoa (k : Int) := ⟨_, rfl⟩
          obtain ⟨Q3, hQ3⟩ : ∃ Q3, Q3 = Q2 ++ [10] := ⟨_, rfl⟩
          have e1 : Q1.length = V.length + 9 := by rw [hQ1, List.length_append]; rfl
          have e2 : Q2.length = Q1.length + (Lib.itoa (k : Int)).length := by rw [hQ2, List.length_append]
          have e3 : Q3.length = Q2.length + 1 := by rw [hQ3, List.length_append]; rfl
          have ca1 : ∀ w', (Op.stringOp .add ⟨V.toArray⟩ ⟨#[111, 118, 101, 114, 108, 111, 97, 100, 32]⟩).run Tryd.prog w' = .ok (.string ⟨Q1.toArray⟩) w' := catS V [111, 118, 101, 114, 108, 111, 97, 100, 32] Q1 hQ1 (by omega) (by simp)
          have ca2 : ∀ w', (Op.stringOp .add ⟨Q1.toArray⟩ ⟨(Lib.itoa (k : Int)).toArray⟩).run Tryd.prog w' = .ok (.string ⟨Q2.toArray⟩) w' := catS Q1 (Lib.itoa (k : Int)) Q2 hQ2 (by omega) (by omega)
          have ca3 : ∀ w', (Op.stringOp .add ⟨Q2.toArray⟩ ⟨#[10]⟩).run Tryd.prog w' = .ok (.string ⟨Q3.toArray⟩) w' := catS Q2 [10] Q3 hQ3 (by omega) (by simp)
          have hq : Q3.length ≤ 41 + 40 * (k + 1) := by omega
          have HO : Hid (Q3 = L0 ++ ovK t.ov (k + 1)) := Lib.hid (by rw [hQ3, hQ2, hQ1, HV2.out, ovK_succ]; unfold ovOne; rw [← hov]; simp [lineT, sOverload, nums])
          clear hx hov hQ1 hQ2 hQ3 e1 e2 e3
          go_wp2_with (first | (go_at_call 22; (with_reducible refine (HOV.out _ HX.out.ta).mono ?_); rintro e w2 ⟨rfl, hb⟩; replace HX := Lib.hid (HX.out.up hb); clear hb b0 b1 b2) | (go_at_call 21; refine (ref09_Number _ (by omega) (by omega) _).mono ?_; rintro e w3 ⟨rfl, hb⟩; replace HX := Lib.hid (HX.out.up hb); clear hb))
          go_roundw
          case rel => exact ⟨k + 1, Q3, by omega, rfl, by go_num, hq, HO, HX⟩
          case measure => simp [intOf]; omega
      · have HV3 : Hid (V = L0 ++ ovK t.ov t.ov.length) := Lib.hid (by rw [HV2.out, ovK_end (valid_ov HVT.out) (show t.n = (k : Int) by omega)])
        have hV3 : V.length ≤ 3000 := by omega
        clear HV2 hVl
        go_wp2_with fail
        clear b0
        go_loopw [3, 5] (fun sv iv wr => ∃ (j : Nat) (U : List UInt8), j ≤ t.ls.length ∧ sv = .string ⟨U.toArray⟩ ∧ iv = .int .i64 j ∧ U.length ≤ 3000 + 200 * j ∧ Hid (U = V ++ lkK t.ls j) ∧ Hid (TBox w A1 A2 c1 c2 t wr)) (fun _ iv _ => t.ls.length - (intOf iv).toNat)
        case atStart => exact ⟨0, V, by omega, rfl, rfl, by omega, Lib.hid (by simp [lkK]), HX⟩
        case round =>
          clear HX hlt
          obtain ⟨j, U, hj, rfl, rfl, hUl, HU, HX⟩ := hrel
          have b2 := HX.out.b2
          by_cases hlt : j < t.ls.length
          · obtain ⟨b, o, l, rfl, hl, hc⟩ := HX.out.ta.ls.at_ hlt
            have HK := Lib.hid (lkK_succ hl)
            have HN := Lib.hid (lnkNums_bd hn2.2 (valid_lnk HVT.out hl)); clear hl
            obtain ⟨q0, q1, q2, q3, q4, q5, q6⟩ := hc
            obtain ⟨U0, hU0⟩ : ∃ U0, U0 = U ++ [108, 105, 110, 107] := ⟨_, rfl⟩
            have hu0 : U0.length = U.length + 4 := by rw [hU0, List.length_append]; rfl
            have ca0 : ∀ w', (Op.stringOp .add ⟨U.toArray⟩ ⟨#[108, 105, 110, 107]⟩).run Tryd.prog w' = .ok (.string ⟨U0.toArray⟩) w' := catS U [108, 105, 110, 107] U0 hU0 (by omega) (by simp)
            have HU0 := Lib.hid hU0
            clear hU0
            go_wp2_with fail
            obtain ⟨wo, rfl⟩ : ∃ wo : World, wo = wr := ⟨_, rfl⟩
            have HX2 : Hid (TBox w A1 (some ⟨b, o, none⟩) c1 c2 t _) := Lib.hid (HX.out.up ((below_box wo (.cells #[.int .i64 l.a, .int .i64 l.b, .int .i64 l.c0, .int .i64 l.c1, .int .i64 l.cap, .int .i64 l.dl, .int .i64 l.g] 45)).trans ((below_box _ (.cells #[.int .i64 l.a, .int .i64 l.b, .int .i64 l.c0, .int .i64 l.c1, .int .i64 l.cap, .int .i64 l.dl, .int .i64 l.g] 55)).mono (by simp))))
            go_loopw [3, 8] (fun sv iv wi => ∃ (k : Nat) (X : List UInt8), k ≤ 7 ∧ sv = .string ⟨X.toArray⟩ ∧ iv = .int .i64 k ∧ X.length ≤ U0.length + 22 * k ∧ Hid (X = U0 ++ nums ((lnkNums l).take k)) ∧ Hid (wi.heap[wo.heap.size + 1]? = some (.cells ((lnkNums l).map (Value.int .i64)).toArray 55 (0, 0))) ∧ Hid (TBox w A1 (some ⟨b, o, none⟩) c1 c2 t wi)) (fun _ iv _ => 7 - (intOf iv).toNat)
            case atStart => exact ⟨0, U0, by omega, rfl, rfl, by omega, Lib.hid (by simp [nums]), Lib.hid (new_blk _ _ _ _ (by simp)), HX2⟩
            case round =>
              clear HX HX2 b2 q0 q1 q2 q3 q4 q5 q6 ca0
              obtain ⟨m, X, hm, rfl, rfl, hXl, HXX, HG, HX⟩ := hrel
              by_cases hm7 : m < 7
              · obtain ⟨x, hx⟩ := lnum_at l hm7
                have hxb := HN.out x (List.mem_of_getElem? hx)
                have q0 : wr.cell? ⟨wo.heap.size + 1, m, none⟩ = some (.int .i64 x) := by
                  rw [Lib.cell_of_heap HG.out]
                  simp [hx]
                have hNS := nums_snoc hx
                have hil2 := Lib.itoa_length_le x hxb.1 hxb.2
                obtain ⟨Q1, hQ1⟩ : ∃ Q1, Q1 = X ++ [32] := ⟨_, rfl⟩
                obtain ⟨Q2, hQ2⟩ : ∃ Q2, Q2 = Q1 ++ Lib.itoa x := ⟨_, rfl⟩
                have e1 : Q1.length = X.length + 1 := by rw [hQ1, List.length_append]; rfl
                have e2 : Q2.length = Q1.length + (Lib.itoa x).length := by rw [hQ2, List.length_append]
                have ca1 : ∀ w', (Op.stringOp .add ⟨X.toArray⟩ ⟨#[32]⟩).run Tryd.prog w' = .ok (.string ⟨Q1.toArray⟩) w' := catS X [32] Q1 hQ1 (by omega) (by simp)
                have ca2 : ∀ w', (Op.stringOp .add ⟨Q1.toArray⟩ ⟨(Lib.itoa x).toArray⟩).run Tryd.prog w' = .ok (.string ⟨Q2.toArray⟩) w' := catS Q1 (Lib.itoa x) Q2 hQ2 (by omega) (by omega)
                have hq : Q2.length ≤ U0.length + 22 * (m + 1) := by omega
                have HO : Hid (Q2 = U0 ++ nums ((lnkNums l).take (m + 1))) := Lib.hid (by rw [hQ2, hQ1, HXX.out, hNS]; simp)
                have hm7' : (m : Int) < 7 := by omega
                clear hx hNS hQ1 hQ2 e1 e2
                go_wp2_with (go_at_call 21; refine (ref09_Number _ hxb.1 hxb.2 _).mono ?_; rintro e w3 ⟨rfl, hb⟩; replace HX := Lib.hid (HX.out.up hb); replace HG := Lib.hid ((hb.block _ (lt_of_heap HG.out)).trans HG.out); clear hb q0)
                go_roundw
                case rel => exact ⟨m + 1, Q2, by omega, rfl, by go_num, hq, HO, HG, HX⟩
                case measure => simp [intOf]; omega
              · obtain rfl : m = 7 := by omega
                have HXX2 : Hid (X = U0 ++ nums (lnkNums l)) := Lib.hid (by rw [← nums7]; exact HXX.out)
                obtain ⟨Q1, hQ1⟩ : ∃ Q1, Q1 = X ++ [10] := ⟨_, rfl⟩
                have e1 : Q1.length = X.length + 1 := by rw [hQ1, List.length_append]; rfl
                have ca1 : ∀ w', (Op.stringOp .add ⟨X.toArray⟩ ⟨#[10]⟩).run Tryd.prog w' = .ok (.string ⟨Q1.toArray⟩) w' := catS X [10] Q1 hQ1 (by omega) (by simp)
                have hq : Q1.length ≤ 3000 + 200 * (j + 1) := by omega
                have HO : Hid (Q1 = V ++ lkK t.ls (j + 1)) := Lib.hid (by rw [hQ1, HXX2.out, HU0.out, HU.out, HK.out]; simp [lineT, sLink])
                clear hQ1 e1
                go_wp2_with fail
                go_roundw
                case rel => exact ⟨j + 1, Q1, by omega, rfl, by go_num, hq, HO, HX⟩
                case measure => simp [intOf]; omega
          · obtain rfl : j = t.ls.length := by omega
            have HE : Hid (textV t = U) := Lib.hid (by rw [HV.out, HU.out, HV3.out, HL0.out]; rfl)
            go_wp2_with fail
            go_ret
            exact ⟨by rw [HE.out]; rfl, HX.out.hb⟩

end Go.Proofs.YtfbloolloifndaaDoor
