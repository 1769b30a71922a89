/-
  Contracts of topology.Path and waypointref09.Path: both return 'path t from arcs'.
-/
import Derived.Test.YtfbloolloifndaaDoorTopo
import Derived.Test.YtfbloolloifndaaDoorRef
namespace Go.Proofs.YtfbloolloifndaaDoor
open Go.RowKit Go.Sort

/-- The walk along a list of arcs; 'first': no arc has been taken yet. -/
def pathR (t : Topo) (first : Bool) (to c : Int) : List Int → Int × Int × Int
  | [] => (to, c, 0)
  | a :: rest => if isN (2 * (t.ls.length : Int)) a = true then (if (tail t a != to) = true then (0, 0, 4) else if (!first && over t to) = true then (0, 0, 4) else pathR t false (head t a) (c + cost t a) rest) else (0, 0, 2)
def path (t : Topo) (n : Int) (xs : List Int) : Int × Int × Int :=
  if valid t = true then (if isN t.n n = true then pathR t true n 0 xs else (0, 0, 2)) else (0, 0, 1)

theorem pathR_nil (t : Topo) (f : Bool) (to c : Int) : pathR t f to c [] = (to, c, 0) := rfl
theorem pathR_no {t : Topo} {f : Bool} {to c a : Int} {r : List Int} (h : isN (2 * (t.ls.length : Int)) a = false) : pathR t f to c (a :: r) = (0, 0, 2) := by simp [pathR, h]
theorem pathR_tail {t : Topo} {f : Bool} {to c a : Int} {r : List Int} (h : isN (2 * (t.ls.length : Int)) a = true) (h2 : (tail t a != to) = true) : pathR t f to c (a :: r) = (0, 0, 4) := by simp only [pathR, h, h2, if_true]
theorem pathR_over {t : Topo} {to c a : Int} {r : List Int} (h : isN (2 * (t.ls.length : Int)) a = true) (h2 : (tail t a != to) = false) (h3 : over t to = true) : pathR t false to c (a :: r) = (0, 0, 4) := by simp only [pathR, h, h2, h3, if_true]; rfl
theorem pathR_on {t : Topo} {f : Bool} {to c a : Int} {r : List Int} (h : isN (2 * (t.ls.length : Int)) a = true) (h2 : (tail t a != to) = false) (h3 : (!f && over t to) = false) : pathR t f to c (a :: r) = pathR t false (head t a) (c + cost t a) r := by
  simp only [pathR, h, h2, h3, if_true]; rfl

theorem arc_bd {t : Topo} (hv : valid t = true) {a : Int} (h : isN (2 * (t.ls.length : Int)) a = true) : 0 ≤ head t a ∧ head t a < t.n ∧ 0 ≤ tail t a ∧ tail t a < t.n ∧ 1 ≤ cost t a ∧ cost t a ≤ 65535 ∧ tail t a ≠ head t a := by
  obtain ⟨h0, h1⟩ := isN_true.1 h
  have hl := lnk_bd (valid_lnk hv (lnk_at h0 h1).2)
  simp only [head, tail, cost]
  split <;> omega

theorem tup3 {x y z x' y' z' : Int} (h : (x, y, z) = (x', y', z')) : Ending.returned (.tuple #[.int .i64 x', .int .i64 y', .int .i64 z']) = .returned (.tuple #[.int .i64 x, .int .i64 y, .int .i64 z]) := by
  injection h with h1 h2
  injection h2 with h2 h3
  subst h1 h2 h3
  rfl
def R3 (r : Int × Int × Int) : Value := .tuple #[.int .i64 r.1, .int .i64 r.2.1, .int .i64 r.2.2]
theorem R3_eq {r : Int × Int × Int} {x y z : Int} (h : r = (x, y, z)) : R3 r = .tuple #[.int .i64 x, .int .i64 y, .int .i64 z] := by subst h; rfl

set_option maxHeartbeats 4000000 in
set_option maxRecDepth 100000 in
theorem topology_Path (t : Topo) (A1 A2 A3 : Option Addr) (c1 c2 c3 : Nat) (n : Int) (xs : List Int) (w : World) (hT : TAt w A1 A2 t) (hA : Rd w A3 (xs.map (Value.int .i64))) (hn : t.ls.length ≤ 100000) (hm : xs.length ≤ 100000) :
    Calls Tryd.prog 14 #[.agg #[.int .i64 t.n, .slice A1 t.ov.length c1, .slice A2 t.ls.length c2], .int .i64 n, .slice A3 xs.length c3] w fun e w' => e = .returned (R3 (path t n xs)) ∧ Below w.heap.size w w' := by
  obtain ⟨R, hR⟩ : ∃ R, R = path t n xs := ⟨_, rfl⟩
  rw [← hR]
  have hA0 := hA.below (below_box w (.cells #[.int .i64 t.n, .slice A1 t.ov.length c1, .slice A2 t.ls.length c2] 25))
  have HA := Lib.hid hA; clear hA
  have hb0 := below_box w (.cells #[.int .i64 t.n, .slice A1 t.ov.length c1, .slice A2 t.ls.length c2] 25)
  have HT := hT.below hb0
  have HB := hb0
  have b0 := box0 w (.int .i64 t.n) (.slice A1 t.ov.length c1) (.slice A2 t.ls.length c2) 25
  have b1 := box1 w (.int .i64 t.n) (.slice A1 t.ov.length c1) (.slice A2 t.ls.length c2) 25
  have b2 := box2 w (.int .i64 t.n) (.slice A1 t.ov.length c1) (.slice A2 t.ls.length c2) 25
  clear hb0 hT
  cases hv : valid t with
  | false =>
    have HR := Lib.hid (R3_eq (hR.trans (show path t n xs = (0, 0, 1) by simp [path, hv]))); clear hR
    go_enter Tryd.func14, Tryd.ntmps14
    go_wp2_with (go_at_call 15; refine (topology_Valid t _ _ _ _ _ HT.ls).mono ?_; rintro e w1 ⟨rfl, hb⟩; replace HT := HT.below hb; replace b0 := cell_up hb b0; replace b1 := cell_up hb b1; replace b2 := cell_up hb b2; replace HB := below_next HB hb; clear hb)
    go_ret3
    exact ⟨by rw [HR.out]; rfl, HB⟩
  | true =>
    cases hN : isN t.n n with
    | false =>
      have HR := Lib.hid (R3_eq (hR.trans (show path t n xs = (0, 0, 2) by simp [path, hv, hN]))); clear hR
      go_enter Tryd.func14, Tryd.ntmps14
      go_wp2_with (first | (go_at_call 15; refine (topology_Valid t _ _ _ _ _ HT.ls).mono ?_; rintro e w1 ⟨rfl, hb⟩; replace HT := HT.below hb; replace b0 := cell_up hb b0; replace b1 := cell_up hb b1; replace b2 := cell_up hb b2; replace HB := below_next HB hb; clear hb) | (go_at_call 26; refine (graph_Node _ _ _ _ _).mono ?_; rintro e w1 ⟨rfl, hb⟩; replace HT := HT.below hb; replace b0 := cell_up hb b0; replace b1 := cell_up hb b1; replace b2 := cell_up hb b2; replace HB := below_next HB hb; clear hb))
      go_ret3
      exact ⟨by rw [HR.out]; rfl, HB⟩
    | true =>
      have HR := Lib.hid (hR.trans (show path t n xs = pathR t true n 0 xs by simp [path, hv, hN])); clear hR
      have HV := Lib.hid hv
      obtain ⟨m, hmm⟩ : ∃ m, m = xs.length := ⟨_, rfl⟩
      rw [← hmm] at hm ⊢
      have HM := Lib.hid hmm; clear hmm
      obtain ⟨hn0, hn1⟩ := isN_true.1 hN
      go_enter Tryd.func14, Tryd.ntmps14
      go_wp2_with (first | (go_at_call 15; refine (topology_Valid t _ _ _ _ _ HT.ls).mono ?_; rintro e w1 ⟨rfl, hb⟩; replace HT := HT.below hb; replace b0 := cell_up hb b0; replace b1 := cell_up hb b1; replace b2 := cell_up hb b2; replace HB := below_next HB hb; clear hb) | (go_at_call 26; refine (graph_Node _ _ _ _ _).mono ?_; rintro e w1 ⟨rfl, hb⟩; replace HT := HT.below hb; replace b0 := cell_up hb b0; replace b1 := cell_up hb b1; replace b2 := cell_up hb b2; replace HB := below_next HB hb; clear hb))
      have HTB : TBox w A1 A2 c1 c2 t w1 := ⟨b0, b1, b2, HT, HB⟩
      clear b0 b1 b2 HT HB hA0 hv hN
      go_loopw [6, 7, 21] (fun vt vc vi wr => ∃ (k : Nat) (to c : Int), k ≤ m ∧ vi = .int .i64 k ∧ vt = .int .i64 to ∧ vc = .int .i64 c ∧ 0 ≤ to ∧ to < t.n ∧ 0 ≤ c ∧ c ≤ 65535 * (k : Int) ∧ Hid (R = pathR t (k == 0) to c (xs.drop k)) ∧ TBox w A1 A2 c1 c2 t wr) (fun _ _ i _ => m - (intOf i).toNat)
      case atStart => exact ⟨0, n, 0, Nat.zero_le _, rfl, rfl, rfl, hn0, hn1, by omega, by omega, Lib.hid (by simpa using HR.out), HTB⟩
      case round =>
        clear HTB HR
        obtain ⟨k, to, c, hk, rfl, rfl, rfl, ht0, ht1, hc0, hc1, HR, HTB⟩ := hrel
        by_cases hlt : k < m
        · obtain ⟨a, ha⟩ : ∃ a, xs[k]? = some a := ⟨xs[k]'(by rw [← HM.out]; exact hlt), List.getElem?_eq_getElem _⟩
          have hd : xs.drop k = a :: xs.drop (k + 1) := by
            rw [List.drop_eq_getElem_cons (by rw [← HM.out]; exact hlt)]
            rw [List.getElem?_eq_getElem (by rw [← HM.out]; exact hlt)] at ha
            injection ha with ha; rw [ha]
          obtain ⟨b, o, rfl, q0⟩ := (HA.out.below HTB.hb).at_ (k := k) (u := .int .i64 a) (by simp [ha])
          have HR2 := Lib.hid (HR.out.trans (congrArg _ hd)); clear HR ha hd
          obtain ⟨b0, b1, b2, HT, HB⟩ := HTB
          cases ha : isN (2 * (t.ls.length : Int)) a with
          | false =>
            have HR3 := Lib.hid (R3_eq (HR2.out.trans (pathR_no ha))); clear HR2
            go_wp2_with (go_at_call 27; refine (graph_Arc _ _ _ _ _ _ _ hn).mono ?_; rintro e w1 ⟨rfl, hb⟩; replace HT := HT.below hb; replace b0 := cell_up hb b0; replace b1 := cell_up hb b1; replace b2 := cell_up hb b2; replace HB := below_next HB hb; clear hb)
            go_ret3
            exact ⟨by rw [HR3.out]; rfl, HB⟩
          | true =>
            obtain ⟨ha0, ha1⟩ := isN_true.1 ha
            obtain ⟨hh0, hh1, _, _, hcc0, hcc1, _⟩ := arc_bd HV.out ha
            cases htt : (tail t a != to) with
            | true =>
              have HR3 := Lib.hid (R3_eq (HR2.out.trans (pathR_tail ha htt))); clear HR2
              go_wp2_with (first | (go_at_call 27; refine (graph_Arc _ _ _ _ _ _ _ hn).mono ?_; rintro e w1 ⟨rfl, hb⟩; replace HT := HT.below hb; replace b0 := cell_up hb b0; replace b1 := cell_up hb b1; replace b2 := cell_up hb b2; replace HB := below_next HB hb; clear hb) | (go_at_call 28; refine (graph_Tail _ _ _ _ t _ _ HT.ls ha0 ha1 hn).mono ?_; rintro e w1 ⟨rfl, hb⟩; replace HT := HT.below hb; replace b0 := cell_up hb b0; replace b1 := cell_up hb b1; replace b2 := cell_up hb b2; replace HB := below_next HB hb; clear hb))
              go_ret3
              exact ⟨by rw [HR3.out]; rfl, HB⟩
            | false =>
              have H2 : Hid (t.ov.length = 0 ∨ to < (t.ov.length : Int)) := Lib.hid (by rcases valid_ov HV.out with h | h <;> omega)
              cases hkd : decide (0 < k) with
              | false =>
                have hk0 : (k == 0) = true := by have := of_decide_eq_false hkd; simp; omega
                have HR3 := Lib.hid (HR2.out.trans (pathR_on ha htt (by rw [hk0]; rfl))); clear HR2 hk0
                go_wp2_with (first | (go_at_call 27; refine (graph_Arc _ _ _ _ _ _ _ hn).mono ?_; rintro e w1 ⟨rfl, hb⟩; replace HT := HT.below hb; replace b0 := cell_up hb b0; replace b1 := cell_up hb b1; replace b2 := cell_up hb b2; replace HB := below_next HB hb; clear hb) | (go_at_call 28; refine (graph_Tail _ _ _ _ t _ _ HT.ls ha0 ha1 hn).mono ?_; rintro e w1 ⟨rfl, hb⟩; replace HT := HT.below hb; replace b0 := cell_up hb b0; replace b1 := cell_up hb b1; replace b2 := cell_up hb b2; replace HB := below_next HB hb; clear hb) | (go_at_call 29; refine (graph_Over _ _ _ _ t _ _ HT.ov ht0 H2.out).mono ?_; rintro e w1 ⟨rfl, hb⟩; replace HT := HT.below hb; replace b0 := cell_up hb b0; replace b1 := cell_up hb b1; replace b2 := cell_up hb b2; replace HB := below_next HB hb; clear hb) | (go_at_call 30; refine (graph_Head _ _ _ _ t _ _ HT.ls ha0 ha1 hn).mono ?_; rintro e w1 ⟨rfl, hb⟩; replace HT := HT.below hb; replace b0 := cell_up hb b0; replace b1 := cell_up hb b1; replace b2 := cell_up hb b2; replace HB := below_next HB hb; clear hb) | (go_at_call 31; refine (graph_Cost _ _ _ _ t _ _ HT.ls ha0 ha1 hn).mono ?_; rintro e w1 ⟨rfl, hb⟩; replace HT := HT.below hb; replace b0 := cell_up hb b0; replace b1 := cell_up hb b1; replace b2 := cell_up hb b2; replace HB := below_next HB hb; clear hb))
                go_roundw
                case rel => exact ⟨k + 1, head t a, c + cost t a, by omega, by go_num, rfl, rfl, hh0, hh1, by omega, by omega, HR3, ⟨b0, b1, b2, HT, HB⟩⟩
                case measure => simp [intOf]; omega
              | true =>
                have hk0 : (k == 0) = false := by have := of_decide_eq_true hkd; simp; omega
                cases hov : over t to with
                | true =>
                  have HR3 := Lib.hid (R3_eq (HR2.out.trans (show pathR t (k == 0) to c (a :: xs.drop (k + 1)) = (0, 0, 4) by rw [hk0]; exact pathR_over ha htt hov))); clear HR2 hk0
                  go_wp2_with (first | (go_at_call 27; refine (graph_Arc _ _ _ _ _ _ _ hn).mono ?_; rintro e w1 ⟨rfl, hb⟩; replace HT := HT.below hb; replace b0 := cell_up hb b0; replace b1 := cell_up hb b1; replace b2 := cell_up hb b2; replace HB := below_next HB hb; clear hb) | (go_at_call 28; refine (graph_Tail _ _ _ _ t _ _ HT.ls ha0 ha1 hn).mono ?_; rintro e w1 ⟨rfl, hb⟩; replace HT := HT.below hb; replace b0 := cell_up hb b0; replace b1 := cell_up hb b1; replace b2 := cell_up hb b2; replace HB := below_next HB hb; clear hb) | (go_at_call 29; refine (graph_Over _ _ _ _ t _ _ HT.ov ht0 H2.out).mono ?_; rintro e w1 ⟨rfl, hb⟩; replace HT := HT.below hb; replace b0 := cell_up hb b0; replace b1 := cell_up hb b1; replace b2 := cell_up hb b2; replace HB := below_next HB hb; clear hb) | (go_at_call 30; refine (graph_Head _ _ _ _ t _ _ HT.ls ha0 ha1 hn).mono ?_; rintro e w1 ⟨rfl, hb⟩; replace HT := HT.below hb; replace b0 := cell_up hb b0; replace b1 := cell_up hb b1; replace b2 := cell_up hb b2; replace HB := below_next HB hb; clear hb) | (go_at_call 31; refine (graph_Cost _ _ _ _ t _ _ HT.ls ha0 ha1 hn).mono ?_; rintro e w1 ⟨rfl, hb⟩; replace HT := HT.below hb; replace b0 := cell_up hb b0; replace b1 := cell_up hb b1; replace b2 := cell_up hb b2; replace HB := below_next HB hb; clear hb))
                  go_ret3
                  exact ⟨by rw [HR3.out]; rfl, HB⟩
                | false =>
                  have HR3 := Lib.hid (HR2.out.trans (pathR_on ha htt (by simp [hov]))); clear HR2 hk0
                  go_wp2_with (first | (go_at_call 27; refine (graph_Arc _ _ _ _ _ _ _ hn).mono ?_; rintro e w1 ⟨rfl, hb⟩; replace HT := HT.below hb; replace b0 := cell_up hb b0; replace b1 := cell_up hb b1; replace b2 := cell_up hb b2; replace HB := below_next HB hb; clear hb) | (go_at_call 28; refine (graph_Tail _ _ _ _ t _ _ HT.ls ha0 ha1 hn).mono ?_; rintro e w1 ⟨rfl, hb⟩; replace HT := HT.below hb; replace b0 := cell_up hb b0; replace b1 := cell_up hb b1; replace b2 := cell_up hb b2; replace HB := below_next HB hb; clear hb) | (go_at_call 29; refine (graph_Over _ _ _ _ t _ _ HT.ov ht0 H2.out).mono ?_; rintro e w1 ⟨rfl, hb⟩; replace HT := HT.below hb; replace b0 := cell_up hb b0; replace b1 := cell_up hb b1; replace b2 := cell_up hb b2; replace HB := below_next HB hb; clear hb) | (go_at_call 30; refine (graph_Head _ _ _ _ t _ _ HT.ls ha0 ha1 hn).mono ?_; rintro e w1 ⟨rfl, hb⟩; replace HT := HT.below hb; replace b0 := cell_up hb b0; replace b1 := cell_up hb b1; replace b2 := cell_up hb b2; replace HB := below_next HB hb; clear hb) | (go_at_call 31; refine (graph_Cost _ _ _ _ t _ _ HT.ls ha0 ha1 hn).mono ?_; rintro e w1 ⟨rfl, hb⟩; replace HT := HT.below hb; replace b0 := cell_up hb b0; replace b1 := cell_up hb b1; replace b2 := cell_up hb b2; replace HB := below_next HB hb; clear hb))
                  go_roundw
                  case rel => exact ⟨k + 1, head t a, c + cost t a, by omega, by go_num, rfl, rfl, hh0, hh1, by omega, by omega, HR3, ⟨b0, b1, b2, HT, HB⟩⟩
                  case measure => simp [intOf]; omega
        · obtain rfl : k = m := by omega
          have HR3 := Lib.hid (R3_eq (HR.out.trans (show pathR t (k == 0) to c (xs.drop k) = (to, c, 0) by rw [List.drop_of_length_le (by rw [← HM.out]; exact Nat.le_refl _)]; exact pathR_nil _ _ _ _))); clear HR
          go_wp2_with fail
          go_ret3
          exact ⟨by rw [HR3.out]; rfl, HTB.hb⟩

end Go.Proofs.YtfbloolloifndaaDoor
