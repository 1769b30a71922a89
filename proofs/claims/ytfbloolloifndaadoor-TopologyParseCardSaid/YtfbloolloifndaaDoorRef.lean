/-
  Contracts of the reference's small functions of chapter 9: the same plain functions as the program's.
-/
import Derived.Test.YtfbloolloifndaaDoorValid
namespace Go.Proofs.YtfbloolloifndaaDoor
open Go.RowKit Go.Sort

theorem valid_of_arcs {t : Topo} {a : Int} (h0 : 0 ≤ a) (h1 : a < arcsV t) : valid t = true := by
  cases hv : valid t with
  | true => rfl
  | false => rw [arcsV_false hv] at h1; omega

theorem twin_arc {a : Int} (h0 : 0 ≤ a) {n : Int} (h1 : a < 2 * n) : 0 ≤ a / 2 * 2 + 1 - a % 2 ∧ a / 2 * 2 + 1 - a % 2 < 2 * n := by omega
theorem twin_tail (t : Topo) {a : Int} : tail t (a / 2 * 2 + 1 - a % 2) = head t a := by
  by_cases h : a % 2 = 0
  · rw [show a / 2 * 2 + 1 - a % 2 = a + 1 from by omega]
    have e : (a + 1) / 2 = a / 2 := by omega
    have e2 : ¬ (a + 1) % 2 = 0 := by omega
    simp [tail, head, lnk, e, h, e2]
  · rw [show a / 2 * 2 + 1 - a % 2 = a - 1 from by omega]
    have e : (a - 1) / 2 = a / 2 := by omega
    have e2 : (a - 1) % 2 = 0 := by omega
    simp [tail, head, lnk, e, h, e2]

theorem ref09_Overloaded (t : Topo) (A1 A2 : Option Addr) (c1 c2 : Nat) (n : Int) (w : World) (hT : TAt w A1 A2 t) :
    Calls Tryd.prog 22 #[.agg #[.int .i64 t.n, .slice A1 t.ov.length c1, .slice A2 t.ls.length c2], .int .i64 n] w fun e w' => e = .returned (.bool (overV t n)) ∧ Below w.heap.size w w' := by
  cases hv : valid t with
  | false =>
    have hb0 := below_box w (.cells #[.int .i64 t.n, .slice A1 t.ov.length c1, .slice A2 t.ls.length c2] 25)
    have HT := hT.below hb0
    have HB := hb0
    have b0 := box0 w (.int .i64 t.n) (.slice A1 t.ov.length c1) (.slice A2 t.ls.length c2) 25
    have b1 := box1 w (.int .i64 t.n) (.slice A1 t.ov.length c1) (.slice A2 t.ls.length c2) 25
    have b2 := box2 w (.int .i64 t.n) (.slice A1 t.ov.length c1) (.slice A2 t.ls.length c2) 25
    clear hb0 hT
    have HR : Hid (overV t n = false) := Lib.hid (by simp [overV, hv])
    go_enter Tryd.func22, Tryd.ntmps22
    go_wp2_with (go_at_call 9; refine (ref09_Valid t _ _ _ _ _ HT.ls).mono ?_; rintro e w1 ⟨rfl, hb⟩; replace HT := HT.below hb; replace b0 := cell_up hb b0; replace b1 := cell_up hb b1; replace b2 := cell_up hb b2; replace HB := below_next HB hb; clear hb)
    go_ret
    exact ⟨by rw [HR.out]; rfl, HB⟩
  | true =>
    by_cases h0 : 0 ≤ n
    · by_cases h1 : n < (t.ov.length : Int)
      · have hl : n.toNat < t.ov.length := by omega
        have hu : (t.ov.map Value.bool)[n.toNat]? = some (.bool (over t n)) := by
          simp [over, List.getElem?_eq_getElem hl, List.getD_eq_getElem?_getD]
        have hN : isN t.n n = true := by rw [isN_true]; rcases valid_ov hv with h | h <;> omega
        have HR : Hid (overV t n = over t n) := Lib.hid (by simp [overV, hN, hv])
        have hb0 := below_box w (.cells #[.int .i64 t.n, .slice A1 t.ov.length c1, .slice A2 t.ls.length c2] 25)
        have HT := hT.below hb0
        have HB := hb0
        have b0 := box0 w (.int .i64 t.n) (.slice A1 t.ov.length c1) (.slice A2 t.ls.length c2) 25
        have b1 := box1 w (.int .i64 t.n) (.slice A1 t.ov.length c1) (.slice A2 t.ls.length c2) 25
        have b2 := box2 w (.int .i64 t.n) (.slice A1 t.ov.length c1) (.slice A2 t.ls.length c2) 25
        clear hb0 hT
        obtain ⟨b, o, rfl, hc⟩ := HT.ov.at_ hu
        clear hu hN
        go_enter Tryd.func22, Tryd.ntmps22
        go_wp2_with (go_at_call 9; refine (ref09_Valid t _ _ _ _ _ HT.ls).mono ?_; rintro e w1 ⟨rfl, hb⟩; replace b1 := cell_up hb b1; replace hc := cell_up hb hc; replace HB := below_next HB hb; clear hb)
        go_ret
        exact ⟨by rw [HR.out]; rfl, HB⟩
      · have HR : Hid (overV t n = false) := Lib.hid (by
          have : t.ov[n.toNat]? = none := List.getElem?_eq_none (by omega)
          simp [overV, over, List.getD_eq_getElem?_getD, this])
        have hb0 := below_box w (.cells #[.int .i64 t.n, .slice A1 t.ov.length c1, .slice A2 t.ls.length c2] 25)
        have HT := hT.below hb0
        have HB := hb0
        have b0 := box0 w (.int .i64 t.n) (.slice A1 t.ov.length c1) (.slice A2 t.ls.length c2) 25
        have b1 := box1 w (.int .i64 t.n) (.slice A1 t.ov.length c1) (.slice A2 t.ls.length c2) 25
        have b2 := box2 w (.int .i64 t.n) (.slice A1 t.ov.length c1) (.slice A2 t.ls.length c2) 25
        clear hb0 hT
        go_enter Tryd.func22, Tryd.ntmps22
        go_wp2_with (go_at_call 9; refine (ref09_Valid t _ _ _ _ _ HT.ls).mono ?_; rintro e w1 ⟨rfl, hb⟩; replace HT := HT.below hb; replace b0 := cell_up hb b0; replace b1 := cell_up hb b1; replace b2 := cell_up hb b2; replace HB := below_next HB hb; clear hb)
        go_ret
        exact ⟨by rw [HR.out]; rfl, HB⟩
    · have HR : Hid (overV t n = false) := Lib.hid (by simp [overV, isN_false.2 (fun h => h0 h.1)])
      have hb0 := below_box w (.cells #[.int .i64 t.n, .slice A1 t.ov.length c1, .slice A2 t.ls.length c2] 25)
      have HT := hT.below hb0
      have HB := hb0
      have b0 := box0 w (.int .i64 t.n) (.slice A1 t.ov.length c1) (.slice A2 t.ls.length c2) 25
      have b1 := box1 w (.int .i64 t.n) (.slice A1 t.ov.length c1) (.slice A2 t.ls.length c2) 25
      have b2 := box2 w (.int .i64 t.n) (.slice A1 t.ov.length c1) (.slice A2 t.ls.length c2) 25
      clear hb0 hT
      go_enter Tryd.func22, Tryd.ntmps22
      go_wp2_with (go_at_call 9; refine (ref09_Valid t _ _ _ _ _ HT.ls).mono ?_; rintro e w1 ⟨rfl, hb⟩; replace HT := HT.below hb; replace b0 := cell_up hb b0; replace b1 := cell_up hb b1; replace b2 := cell_up hb b2; replace HB := below_next HB hb; clear hb)
      go_ret
      exact ⟨by rw [HR.out]; rfl, HB⟩

theorem ref09_OverloadedT (t : Topo) (A1 A2 : Option Addr) (c1 c2 : Nat) (n : Int) (w : World) (hT : TAt w A1 A2 t) (hv : valid t = true) (h0 : 0 ≤ n) (h1 : n < t.n) :
    Calls Tryd.prog 22 #[.agg #[.int .i64 t.n, .slice A1 t.ov.length c1, .slice A2 t.ls.length c2], .int .i64 n] w fun e w' => e = .returned (.bool (over t n)) ∧ Below w.heap.size w w' := by
  have h := ref09_Overloaded t A1 A2 c1 c2 n w hT
  rwa [show overV t n = over t n by simp [overV, hv, isN_true.2 ⟨h0, h1⟩]] at h

end Go.Proofs.YtfbloolloifndaaDoor
