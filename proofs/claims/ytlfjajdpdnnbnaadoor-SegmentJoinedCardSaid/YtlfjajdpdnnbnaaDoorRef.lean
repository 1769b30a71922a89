/-
  Contracts of the reference's small functions of chapter 9: the same plain functions as the program's.
-/
import Derived.Test.YtlfjajdpdnnbnaaDoorValid
namespace Go.Proofs.YtlfjajdpdnnbnaaDoor
open Go.RowKit Go.Sort

theorem valid_of_arcs {t : Topo} {a : Int} (h0 : 0 ≤ a) (h1 : a < arcsV t) : valid t = true := by
  cases hv : valid t with
  | true => rfl
  | false => rw [arcsV_false hv] at h1; omega

theorem ref09_Arcs (t : Topo) (A1 A2 : Option Addr) (c1 c2 : Nat) (w : World) (hT : TAt w A1 A2 t) (hn : t.ls.length ≤ 100000) :
    Calls Tryd.prog 31 #[.agg #[.int .i64 t.n, .slice A1 t.ov.length c1, .slice A2 t.ls.length c2]] w fun e w' => e = .returned (.int .i64 (arcsV t)) ∧ Below w.heap.size w w' := by
  have hb0 := below_box w (.cells #[.int .i64 t.n, .slice A1 t.ov.length c1, .slice A2 t.ls.length c2] 25)
  have HT := hT.below hb0
  have HB := hb0
  have b0 := box0 w (.int .i64 t.n) (.slice A1 t.ov.length c1) (.slice A2 t.ls.length c2) 25
  have b1 := box1 w (.int .i64 t.n) (.slice A1 t.ov.length c1) (.slice A2 t.ls.length c2) 25
  have b2 := box2 w (.int .i64 t.n) (.slice A1 t.ov.length c1) (.slice A2 t.ls.length c2) 25
  clear hb0 hT
  cases hv : valid t with
  | false =>
    have HR := Lib.hid (arcsV_false hv)
    go_enter Tryd.func31, Tryd.ntmps31
    go_wp2_with (go_at_call 30; refine (ref09_Valid t _ _ _ _ _ HT.ls).mono ?_; rintro e w1 ⟨rfl, hb⟩; replace HT := HT.below hb; replace b0 := cell_up hb b0; replace b1 := cell_up hb b1; replace b2 := cell_up hb b2; replace HB := below_next HB hb; clear hb)
    go_ret
    exact ⟨by rw [HR.out]; rfl, HB⟩
  | true =>
    have HR := Lib.hid (arcsV_true hv)
    go_enter Tryd.func31, Tryd.ntmps31
    go_wp2_with (go_at_call 30; refine (ref09_Valid t _ _ _ _ _ HT.ls).mono ?_; rintro e w1 ⟨rfl, hb⟩; replace HT := HT.below hb; replace b0 := cell_up hb b0; replace b1 := cell_up hb b1; replace b2 := cell_up hb b2; replace HB := below_next HB hb; clear hb)
    go_ret
    exact ⟨by rw [HR.out]; rfl, HB⟩

theorem ref09_Tail (t : Topo) (A1 A2 : Option Addr) (c1 c2 : Nat) (a : Int) (w : World) (hT : TAt w A1 A2 t) (hn : t.ls.length ≤ 100000) :
    Calls Tryd.prog 35 #[.agg #[.int .i64 t.n, .slice A1 t.ov.length c1, .slice A2 t.ls.length c2], .int .i64 a] w fun e w' => e = .returned (.int .i64 (tailV t a)) ∧ Below w.heap.size w w' := by
  by_cases h0 : 0 ≤ a
  · by_cases h1 : a < arcsV t
    · have hv := valid_of_arcs h0 h1
      have h1' : a < 2 * (t.ls.length : Int) := by rw [arcsV_true hv] at h1; exact h1
      have HR : Hid (tailV t a = tail t a) := Lib.hid (by simp [tailV, isN_true.2 ⟨h0, h1⟩])
      have hb0 := below_box w (.cells #[.int .i64 t.n, .slice A1 t.ov.length c1, .slice A2 t.ls.length c2] 25)
      have HT := hT.below hb0
      have HB := hb0
      have b0 := box0 w (.int .i64 t.n) (.slice A1 t.ov.length c1) (.slice A2 t.ls.length c2) 25
      have b1 := box1 w (.int .i64 t.n) (.slice A1 t.ov.length c1) (.slice A2 t.ls.length c2) 25
      have b2 := box2 w (.int .i64 t.n) (.slice A1 t.ov.length c1) (.slice A2 t.ls.length c2) 25
      clear hb0 hT
      obtain ⟨b, o, rfl, hc⟩ := HT.ls.arc h0 h1'
      obtain ⟨q0, q1, q2, q3, _, _, _⟩ := hc
      have h2 : a / 2 < (t.ls.length : Int) := by omega
      have h3 : (0 : Int) ≤ a / 2 := by omega
      have d0 : decide (arcsV t ≤ a) = false := by simp; omega
      have HF : Hid (tail t a = if a % 2 = 0 then (lnk t a).a else (lnk t a).b) := Lib.hid rfl
      clear hv
      by_cases h : a % 2 = 0
      · have HF2 := Lib.hid (HF.out.trans (if_pos h)); clear HF
        have h' : (a % 2 == 0) = true := by simp [h]
        go_enter Tryd.func35, Tryd.ntmps35
        go_wp2_with (go_at_call 31; refine (ref09_Arcs t _ _ _ _ _ HT hn).mono ?_; rintro e w1 ⟨rfl, hb⟩; replace b2 := cell_up hb b2; replace q0 := cell_up hb q0; replace q1 := cell_up hb q1; replace q2 := cell_up hb q2; replace q3 := cell_up hb q3; replace HB := below_next HB hb; clear hb)
        go_ret
        exact ⟨by rw [HR.out, HF2.out]; rfl, HB⟩
      · have HF2 := Lib.hid (HF.out.trans (if_neg h)); clear HF
        have h' : (a % 2 == 0) = false := by simp [h]
        have h'' : a % 2 = 1 := by omega
        clear h
        go_enter Tryd.func35, Tryd.ntmps35
        go_wp2_with (go_at_call 31; refine (ref09_Arcs t _ _ _ _ _ HT hn).mono ?_; rintro e w1 ⟨rfl, hb⟩; replace b2 := cell_up hb b2; replace q0 := cell_up hb q0; replace q1 := cell_up hb q1; replace q2 := cell_up hb q2; replace q3 := cell_up hb q3; replace HB := below_next HB hb; clear hb)
        go_ret
        exact ⟨by rw [HR.out, HF2.out]; rfl, HB⟩
    · have HR : Hid (tailV t a = -1) := Lib.hid (by simp [tailV, isN_false.2 (fun h => h1 h.2)])
      have d0 : decide (arcsV t ≤ a) = true := by simp; omega
      have hb0 := below_box w (.cells #[.int .i64 t.n, .slice A1 t.ov.length c1, .slice A2 t.ls.length c2] 25)
      have HT := hT.below hb0
      have HB := hb0
      have b0 := box0 w (.int .i64 t.n) (.slice A1 t.ov.length c1) (.slice A2 t.ls.length c2) 25
      have b1 := box1 w (.int .i64 t.n) (.slice A1 t.ov.length c1) (.slice A2 t.ls.length c2) 25
      have b2 := box2 w (.int .i64 t.n) (.slice A1 t.ov.length c1) (.slice A2 t.ls.length c2) 25
      clear hb0 hT
      go_enter Tryd.func35, Tryd.ntmps35
      go_wp2_with (go_at_call 31; refine (ref09_Arcs t _ _ _ _ _ HT hn).mono ?_; rintro e w1 ⟨rfl, hb⟩; replace HT := HT.below hb; replace b0 := cell_up hb b0; replace b1 := cell_up hb b1; replace b2 := cell_up hb b2; replace HB := below_next HB hb; clear hb)
      go_ret
      exact ⟨by rw [HR.out]; rfl, HB⟩
  · have HR : Hid (tailV t a = -1) := Lib.hid (by simp [tailV, isN_false.2 (fun h => h0 h.1)])
    have hb0 := below_box w (.cells #[.int .i64 t.n, .slice A1 t.ov.length c1, .slice A2 t.ls.length c2] 25)
    have HT := hT.below hb0
    have HB := hb0
    have b0 := box0 w (.int .i64 t.n) (.slice A1 t.ov.length c1) (.slice A2 t.ls.length c2) 25
    have b1 := box1 w (.int .i64 t.n) (.slice A1 t.ov.length c1) (.slice A2 t.ls.length c2) 25
    have b2 := box2 w (.int .i64 t.n) (.slice A1 t.ov.length c1) (.slice A2 t.ls.length c2) 25
    clear hb0 hT
    go_enter Tryd.func35, Tryd.ntmps35
    go_wp2_with fail
    go_ret
    exact ⟨by rw [HR.out]; rfl, HB⟩

theorem twin_arc {a : Int} (h0 : 0 ≤ a) {n : Int} (h1 : a < 2 * n) : 0 ≤ a / 2 * 2 + 1 - a % 2 ∧ a / 2 * 2 + 1 - a % 2 < 2 * n := by omega
theorem twin_tail (t : Topo) {a : Int} : tail t (a / 2 * 2 + 1 - a % 2) = head t a := by
  by_cases h : a % 2 = 0
  · rw [show a / 2 * 2 + 1 - a % 2 = a + 1 from by omega]
    have e : (a + 1) / 2 = a / 2 := by omega
    have e2 : ¬ (a + 1) % 2 = 0 := by omega
    simp [tail, head, lnk, e, h, e2]
  · rw [show a / 2 * 2 + 1 - a % 2 = a - 1 from by omega]
    have e : (a - 1) / 2 = a / 2 := by omega
    have e2 : (a - 1) % 2 = 0 := by omega
    simp [tail, head, lnk, e, h, e2]

theorem ref09_Head (t : Topo) (A1 A2 : Option Addr) (c1 c2 : Nat) (a : Int) (w : World) (hT : TAt w A1 A2 t) (hn : t.ls.length ≤ 100000) :
    Calls Tryd.prog 36 #[.agg #[.int .i64 t.n, .slice A1 t.ov.length c1, .slice A2 t.ls.length c2], .int .i64 a] w fun e w' => e = .returned (.int .i64 (headV t a)) ∧ Below w.heap.size w w' := by
  by_cases h0 : 0 ≤ a
  · by_cases h1 : a < arcsV t
    · have hv := valid_of_arcs h0 h1
      have h1' : a < 2 * (t.ls.length : Int) := by rw [arcsV_true hv] at h1; exact h1
      obtain ⟨g0, g1⟩ := twin_arc h0 h1'
      have HR : Hid (headV t a = tailV t (a / 2 * 2 + 1 - a % 2)) := Lib.hid (by simp only [headV, tailV, isN_true.2 ⟨h0, h1'⟩, if_true, arcsV_true hv, isN_true.2 ⟨g0, g1⟩, twin_tail t])
      have d0 : decide (arcsV t ≤ a) = false := by simp; omega
      have hb0 := below_box w (.cells #[.int .i64 t.n, .slice A1 t.ov.length c1, .slice A2 t.ls.length c2] 25)
      have HT := hT.below hb0
      have HB := hb0
      have b0 := box0 w (.int .i64 t.n) (.slice A1 t.ov.length c1) (.slice A2 t.ls.length c2) 25
      have b1 := box1 w (.int .i64 t.n) (.slice A1 t.ov.length c1) (.slice A2 t.ls.length c2) 25
      have b2 := box2 w (.int .i64 t.n) (.slice A1 t.ov.length c1) (.slice A2 t.ls.length c2) 25
      clear hb0 hT
      clear hv
      go_enter Tryd.func36, Tryd.ntmps36
      go_wp2_with (first | (go_at_call 31; refine (ref09_Arcs t _ _ _ _ _ HT hn).mono ?_; rintro e w1 ⟨rfl, hb⟩; replace HT := HT.below hb; replace b0 := cell_up hb b0; replace b1 := cell_up hb b1; replace b2 := cell_up hb b2; replace HB := below_next HB hb; clear hb) | (go_at_call 35; refine (ref09_Tail t _ _ _ _ _ _ HT hn).mono ?_; rintro e w1 ⟨rfl, hb⟩; replace HT := HT.below hb; replace b0 := cell_up hb b0; replace b1 := cell_up hb b1; replace b2 := cell_up hb b2; replace HB := below_next HB hb; clear hb))
      go_ret
      exact ⟨by rw [HR.out]; rfl, HB⟩
    · have HR : Hid (headV t a = -1) := Lib.hid (by simp [headV, isN_false.2 (fun h => h1 h.2)])
      have d0 : decide (arcsV t ≤ a) = true := by simp; omega
      have hb0 := below_box w (.cells #[.int .i64 t.n, .slice A1 t.ov.length c1, .slice A2 t.ls.length c2] 25)
      have HT := hT.below hb0
      have HB := hb0
      have b0 := box0 w (.int .i64 t.n) (.slice A1 t.ov.length c1) (.slice A2 t.ls.length c2) 25
      have b1 := box1 w (.int .i64 t.n) (.slice A1 t.ov.length c1) (.slice A2 t.ls.length c2) 25
      have b2 := box2 w (.int .i64 t.n) (.slice A1 t.ov.length c1) (.slice A2 t.ls.length c2) 25
      clear hb0 hT
      go_enter Tryd.func36, Tryd.ntmps36
      go_wp2_with (go_at_call 31; refine (ref09_Arcs t _ _ _ _ _ HT hn).mono ?_; rintro e w1 ⟨rfl, hb⟩; replace HT := HT.below hb; replace b0 := cell_up hb b0; replace b1 := cell_up hb b1; replace b2 := cell_up hb b2; replace HB := below_next HB hb; clear hb)
      go_ret
      exact ⟨by rw [HR.out]; rfl, HB⟩
  · have HR : Hid (headV t a = -1) := Lib.hid (by simp [headV, isN_false.2 (fun h => h0 h.1)])
    have hb0 := below_box w (.cells #[.int .i64 t.n, .slice A1 t.ov.length c1, .slice A2 t.ls.length c2] 25)
    have HT := hT.below hb0
    have HB := hb0
    have b0 := box0 w (.int .i64 t.n) (.slice A1 t.ov.length c1) (.slice A2 t.ls.length c2) 25
    have b1 := box1 w (.int .i64 t.n) (.slice A1 t.ov.length c1) (.slice A2 t.ls.length c2) 25
    have b2 := box2 w (.int .i64 t.n) (.slice A1 t.ov.length c1) (.slice A2 t.ls.length c2) 25
    clear hb0 hT
    go_enter Tryd.func36, Tryd.ntmps36
    go_wp2_with fail
    go_ret
    exact ⟨by rw [HR.out]; rfl, HB⟩

theorem ref09_ArcsT (t : Topo) (A1 A2 : Option Addr) (c1 c2 : Nat) (w : World) (hT : TAt w A1 A2 t) (hn : t.ls.length ≤ 100000) (hv : valid t = true) :
    Calls Tryd.prog 31 #[.agg #[.int .i64 t.n, .slice A1 t.ov.length c1, .slice A2 t.ls.length c2]] w fun e w' => e = .returned (.int .i64 (2 * (t.ls.length : Int))) ∧ Below w.heap.size w w' := by
  have h := ref09_Arcs t A1 A2 c1 c2 w hT hn
  rwa [arcsV_true hv] at h

theorem ref09_TailT (t : Topo) (A1 A2 : Option Addr) (c1 c2 : Nat) (a : Int) (w : World) (hT : TAt w A1 A2 t) (hn : t.ls.length ≤ 100000) (hv : valid t = true) (ha : isN (2 * (t.ls.length : Int)) a = true) :
    Calls Tryd.prog 35 #[.agg #[.int .i64 t.n, .slice A1 t.ov.length c1, .slice A2 t.ls.length c2], .int .i64 a] w fun e w' => e = .returned (.int .i64 (tail t a)) ∧ Below w.heap.size w w' := by
  have h := ref09_Tail t A1 A2 c1 c2 a w hT hn
  rwa [show tailV t a = tail t a by simp [tailV, arcsV_true hv, ha]] at h

theorem ref09_HeadT (t : Topo) (A1 A2 : Option Addr) (c1 c2 : Nat) (a : Int) (w : World) (hT : TAt w A1 A2 t) (hn : t.ls.length ≤ 100000) (hv : valid t = true) (ha : isN (2 * (t.ls.length : Int)) a = true) :
    Calls Tryd.prog 36 #[.agg #[.int .i64 t.n, .slice A1 t.ov.length c1, .slice A2 t.ls.length c2], .int .i64 a] w fun e w' => e = .returned (.int .i64 (head t a)) ∧ Below w.heap.size w w' := by
  have h := ref09_Head t A1 A2 c1 c2 a w hT hn
  rwa [show headV t a = head t a by simp [headV, arcsV_true hv, ha]] at h

end Go.Proofs.YtlfjajdpdnnbnaaDoor
