/-
  waypointref10.Valid, Of, Arcs: what each returns, for every topology and component.
-/
import Derived.Test.YtibennndjfhieaaDoorArcsC
namespace Go.Proofs.YtibennndjfhieaaDoor
open Go.RowKit Go.Sort

theorem compV1 {t : Topo} {m : Int} (hv : valid t = true) : compV t 1 m = (decide (0 ≤ m) && decide (m < (t.ls.length : Int))) := by simp [compV, hv, compOk1]
theorem compV2 {t : Topo} {m : Int} (hv : valid t = true) : compV t 2 m = (decide (0 ≤ m) && decide (m < t.n)) := by simp [compV, hv, compOk2, isN]
theorem compV3 {t : Topo} {m : Int} (hv : valid t = true) : compV t 3 m = (decide (1 ≤ m) && decide (m ≤ 64)) := by simp [compV, hv, compOk3]

set_option maxHeartbeats 1000000 in
theorem ref10_Valid (t : Topo) (A1 A2 : Option Addr) (c1 c2 : Nat) (k m : Int) (w : World) (hT : TAt w A1 A2 t) :
    Calls Tryd.prog 23 #[.agg #[.int .i64 t.n, .slice A1 t.ov.length c1, .slice A2 t.ls.length c2], .agg #[.int .i64 k, .int .i64 m]] w fun e w' => e = .returned (.bool (compV t k m)) ∧ Below w.heap.size w w' := by
  have hb0 := below_box w (.cells #[.int .i64 t.n, .slice A1 t.ov.length c1, .slice A2 t.ls.length c2] 25)
  have hb1 := below_box (w.alloc (.cells #[.int .i64 t.n, .slice A1 t.ov.length c1, .slice A2 t.ls.length c2] 25)) (.cells #[.int .i64 k, .int .i64 m] 31)
  have HB := below_next hb0 hb1
  have HT := hT.below HB
  have b0 := cell_up hb1 (box0 w (.int .i64 t.n) (.slice A1 t.ov.length c1) (.slice A2 t.ls.length c2) 25)
  have b1 := cell_up hb1 (box1 w (.int .i64 t.n) (.slice A1 t.ov.length c1) (.slice A2 t.ls.length c2) 25)
  have b2 := cell_up hb1 (box2 w (.int .i64 t.n) (.slice A1 t.ov.length c1) (.slice A2 t.ls.length c2) 25)
  have s0 : ((w.alloc (.cells #[.int .i64 t.n, .slice A1 t.ov.length c1, .slice A2 t.ls.length c2] 25)).alloc (.cells #[.int .i64 k, .int .i64 m] 31)).cell? ⟨w.heap.size + 1, 0, none⟩ = some (.int .i64 k) := by simp
  have s1 : ((w.alloc (.cells #[.int .i64 t.n, .slice A1 t.ov.length c1, .slice A2 t.ls.length c2] 25)).alloc (.cells #[.int .i64 k, .int .i64 m] 31)).cell? ⟨w.heap.size + 1, 1, none⟩ = some (.int .i64 m) := by simp
  clear hb0 hb1 hT
  cases hv : valid t with
  | false =>
    have HR : Hid (compV t k m = false) := Lib.hid (by simp [compV, hv])
    go_enter Tryd.func23, Tryd.ntmps23
    go_wp2_with (go_at_call 26; refine (ref09_Valid t _ _ _ _ _ HT.ls).mono ?_; rintro e w1 ⟨rfl, hb⟩; replace HT := HT.below hb; replace b0 := cell_up hb b0; replace b1 := cell_up hb b1; replace b2 := cell_up hb b2; replace s0 := cell_up hb s0; replace s1 := cell_up hb s1; replace HB := below_next HB hb; clear hb)
    go_ret
    exact ⟨by rw [HR.out]; rfl, HB⟩
  | true =>
    cases h1 : (k == 1) with
    | true =>
      obtain rfl : k = 1 := by simpa using h1
      have HR := Lib.hid (compV1 (m := m) hv)
      cases g1 : decide (0 ≤ m) <;> cases g2 : decide (m < (t.ls.length : Int)) <;>
      (go_enter Tryd.func23, Tryd.ntmps23
       go_wp2_with (go_at_call 26; refine (ref09_Valid t _ _ _ _ _ HT.ls).mono ?_; rintro e w1 ⟨rfl, hb⟩; replace HT := HT.below hb; replace b0 := cell_up hb b0; replace b1 := cell_up hb b1; replace b2 := cell_up hb b2; replace s0 := cell_up hb s0; replace s1 := cell_up hb s1; replace HB := below_next HB hb; clear hb)
       first
         | (go_ret; exact ⟨by rw [HR.out, g1, g2]; rfl, HB⟩)
         | (go_quiet (fail); go_wp2_with fail; go_ret; exact ⟨by rw [HR.out, g1, g2]; rfl, below_drw HB _⟩))
    | false =>
      cases h2 : (k == 2) with
      | true =>
        obtain rfl : k = 2 := by simpa using h2
        have HR := Lib.hid (compV2 (m := m) hv)
        cases g1 : decide (0 ≤ m) <;> cases g2 : decide (m < t.n) <;>
        (go_enter Tryd.func23, Tryd.ntmps23
         go_wp2_with (go_at_call 26; refine (ref09_Valid t _ _ _ _ _ HT.ls).mono ?_; rintro e w1 ⟨rfl, hb⟩; replace HT := HT.below hb; replace b0 := cell_up hb b0; replace b1 := cell_up hb b1; replace b2 := cell_up hb b2; replace s0 := cell_up hb s0; replace s1 := cell_up hb s1; replace HB := below_next HB hb; clear hb)
         first
           | (go_ret; exact ⟨by rw [HR.out, g1, g2]; rfl, HB⟩)
           | (go_quiet (fail); go_wp2_with fail; go_ret; exact ⟨by rw [HR.out, g1, g2]; rfl, below_drw HB _⟩))
      | false =>
        cases h3 : (k == 3) with
        | true =>
          obtain rfl : k = 3 := by simpa using h3
          have HR := Lib.hid (compV3 (m := m) hv)
          cases g1 : decide (1 ≤ m) <;> cases g2 : decide (m ≤ 64) <;>
          (go_enter Tryd.func23, Tryd.ntmps23
           go_wp2_with (go_at_call 26; refine (ref09_Valid t _ _ _ _ _ HT.ls).mono ?_; rintro e w1 ⟨rfl, hb⟩; replace HT := HT.below hb; replace b0 := cell_up hb b0; replace b1 := cell_up hb b1; replace b2 := cell_up hb b2; replace s0 := cell_up hb s0; replace s1 := cell_up hb s1; replace HB := below_next HB hb; clear hb)
           first
             | (go_ret; exact ⟨by rw [HR.out, g1, g2]; rfl, HB⟩)
             | (go_quiet (fail); go_wp2_with fail; go_ret; exact ⟨by rw [HR.out, g1, g2]; rfl, below_drw HB _⟩))
        | false =>
          have HR : Hid (compV t k m = false) := Lib.hid (by rw [compV, hv, compOk0 h1 h2 h3]; rfl)
          go_enter Tryd.func23, Tryd.ntmps23
          go_wp2_with (go_at_call 26; refine (ref09_Valid t _ _ _ _ _ HT.ls).mono ?_; rintro e w1 ⟨rfl, hb⟩; replace HT := HT.below hb; replace b0 := cell_up hb b0; replace b1 := cell_up hb b1; replace b2 := cell_up hb b2; replace s0 := cell_up hb s0; replace s1 := cell_up hb s1; replace HB := below_next HB hb; clear hb)
          go_ret
          exact ⟨by rw [HR.out]; rfl, HB⟩

/-- Is an arc one of a component? -/
def partA (t : Topo) (k m a : Int) : Bool := part t k m (a / 2)
theorem partA1 {t : Topo} {m a : Int} : partA t 1 m a = (a / 2 == m) := rfl
theorem partA2 {t : Topo} {m a : Int} : partA t 2 m a = ((lnk t a).a == m || (lnk t a).b == m) := rfl
theorem partA3 {t : Topo} {k m a : Int} (h1 : (k == 1) = false) (h2 : (k == 2) = false) : partA t k m a = ((lnk t a).g == m) := by
  simp only [beq_eq_false_iff_ne] at h1 h2
  simp [partA, part, h1, h2, lnk]

set_option maxRecDepth 100000 in
set_option maxHeartbeats 1000000 in
theorem ref10_Of (t : Topo) (A1 A2 : Option Addr) (c1 c2 : Nat) (k m a : Int) (w : World) (hT : TAt w A1 A2 t) (h0 : 0 ≤ a) (h1 : a < 2 * (t.ls.length : Int)) (hn : t.ls.length ≤ 100000) :
    Calls Tryd.prog 36 #[.agg #[.int .i64 t.n, .slice A1 t.ov.length c1, .slice A2 t.ls.length c2], .agg #[.int .i64 k, .int .i64 m], .int .i64 a] w fun e w' => e = .returned (.bool (partA t k m a)) ∧ Below w.heap.size w w' := by
  have hb0 := below_box w (.cells #[.int .i64 t.n, .slice A1 t.ov.length c1, .slice A2 t.ls.length c2] 25)
  have hb1 := below_box (w.alloc (.cells #[.int .i64 t.n, .slice A1 t.ov.length c1, .slice A2 t.ls.length c2] 25)) (.cells #[.int .i64 k, .int .i64 m] 31)
  have HB := below_next hb0 hb1
  have HT := hT.below HB
  have b0 := cell_up hb1 (box0 w (.int .i64 t.n) (.slice A1 t.ov.length c1) (.slice A2 t.ls.length c2) 25)
  have b1 := cell_up hb1 (box1 w (.int .i64 t.n) (.slice A1 t.ov.length c1) (.slice A2 t.ls.length c2) 25)
  have b2 := cell_up hb1 (box2 w (.int .i64 t.n) (.slice A1 t.ov.length c1) (.slice A2 t.ls.length c2) 25)
  have s0 : ((w.alloc (.cells #[.int .i64 t.n, .slice A1 t.ov.length c1, .slice A2 t.ls.length c2] 25)).alloc (.cells #[.int .i64 k, .int .i64 m] 31)).cell? ⟨w.heap.size + 1, 0, none⟩ = some (.int .i64 k) := by simp
  have s1 : ((w.alloc (.cells #[.int .i64 t.n, .slice A1 t.ov.length c1, .slice A2 t.ls.length c2] 25)).alloc (.cells #[.int .i64 k, .int .i64 m] 31)).cell? ⟨w.heap.size + 1, 1, none⟩ = some (.int .i64 m) := by simp
  clear hb0 hb1 hT
  obtain ⟨b, o, rfl, hc⟩ := HT.ls.arc h0 h1
  have q0 := hc.q0
  have q1 := hc.q1
  have q2 := hc.q2
  have q3 := hc.q3
  have q4 := hc.q4
  have q5 := hc.q5
  have q6 := hc.q6
  have h2 : a / 2 < (t.ls.length : Int) := by omega
  have h3 : (0 : Int) ≤ a / 2 := by omega
  have HBB := Lib.hid (below_next HB (below_box _ (.cells #[.int .i64 (lnk t a).a, .int .i64 (lnk t a).b, .int .i64 (lnk t a).c0, .int .i64 (lnk t a).c1, .int .i64 (lnk t a).cap, .int .i64 (lnk t a).dl, .int .i64 (lnk t a).g] 47)))
  clear HT hc HB
  cases e1 : (k == 1) with
  | true =>
    obtain rfl : k = 1 := by simpa using e1
    have HR := Lib.hid (partA1 (t := t) (m := m) (a := a))
    clear e1
    go_enter Tryd.func36, Tryd.ntmps36
    go_wp2_with fail
    go_ret
    exact ⟨by rw [HR.out]; rfl, HBB.out⟩
  | false =>
    cases e2 : (k == 2) with
    | true =>
      obtain rfl : k = 2 := by simpa using e2
      have HR := Lib.hid (partA2 (t := t) (m := m) (a := a))
      clear e1 e2
      cases g1 : ((lnk t a).a == m) <;> cases g2 : ((lnk t a).b == m) <;>
      (go_enter Tryd.func36, Tryd.ntmps36
       go_wp2_with fail
       first
         | (go_ret; exact ⟨by rw [HR.out, g1, g2]; rfl, HBB.out⟩)
         | (go_quiet (fail); go_wp2_with fail; go_ret; exact ⟨by rw [HR.out, g1, g2]; rfl, below_drw HBB.out _⟩))
    | false =>
      have HR := Lib.hid (partA3 (t := t) (m := m) (a := a) e1 e2)
      go_enter Tryd.func36, Tryd.ntmps36
      go_wp2_with fail
      first
        | (go_ret; exact ⟨by rw [HR.out]; rfl, HBB.out⟩)
        | (go_quiet (fail); go_wp2_with fail; go_ret; exact ⟨by rw [HR.out]; rfl, below_drw HBB.out _⟩)

/-- The boxes of a topology and of a component, in a later world. -/
structure PBox (w : World) (A1 A2 : Option Addr) (c1 c2 : Nat) (t : Topo) (k m : Int) (wr : World) : Prop where
  b0 : wr.cell? ⟨w.heap.size, 0, none⟩ = some (.int .i64 t.n)
  b1 : wr.cell? ⟨w.heap.size, 1, none⟩ = some (.slice A1 t.ov.length c1)
  b2 : wr.cell? ⟨w.heap.size, 2, none⟩ = some (.slice A2 t.ls.length c2)
  s0 : wr.cell? ⟨w.heap.size + 1, 0, none⟩ = some (.int .i64 k)
  s1 : wr.cell? ⟨w.heap.size + 1, 1, none⟩ = some (.int .i64 m)
  hb : Below w.heap.size w wr
theorem PBox.up {w wr w' : World} {A1 A2 : Option Addr} {c1 c2 : Nat} {t : Topo} {k m : Int} (h : PBox w A1 A2 c1 c2 t k m wr) (hb : Below wr.heap.size wr w') : PBox w A1 A2 c1 c2 t k m w' :=
  ⟨cell_up hb h.b0, cell_up hb h.b1, cell_up hb h.b2, cell_up hb h.s0, cell_up hb h.s1, below_next h.hb hb⟩
theorem PBox.keep {w wr w' : World} {A1 A2 : Option Addr} {c1 c2 : Nat} {t : Topo} {k m : Int} (h : PBox w A1 A2 c1 c2 t k m wr) (hb : Below (w.heap.size + 2) wr w') : PBox w A1 A2 c1 c2 t k m w' :=
  ⟨(hb.cell (by simp)).trans h.b0, (hb.cell (by simp)).trans h.b1, (hb.cell (by simp)).trans h.b2, (hb.cell (by simp)).trans h.s0, (hb.cell (by simp)).trans h.s1, h.hb.trans (hb.mono (by omega))⟩

theorem arcs_ups (t : Topo) (k m : Int) : ∀ n : Nat, ups (partA t k m) (2 * n) = arcsOf (linksL t k m n)
  | 0 => rfl
  | n + 1 => by
    have ih := arcs_ups t k m n
    have e1 : partA t k m ((2 * n : Nat) : Int) = part t k m (n : Int) := by unfold partA; congr 1; omega
    have e2 : partA t k m ((2 * n + 1 : Nat) : Int) = part t k m (n : Int) := by unfold partA; congr 1; omega
    rw [show 2 * (n + 1) = 2 * n + 1 + 1 by omega]
    cases h : part t k m (n : Int) with
    | true =>
      rw [ups_hit (by rw [e2, h]), ups_hit (by rw [e1, h]), ih, show linksL t k m (n + 1) = linksL t k m n ++ [(n : Int)] from ups_hit h, arcsOf_snoc]
      simp
    | false => rw [ups_miss (by rw [e2, h]), ups_miss (by rw [e1, h]), ih, show linksL t k m (n + 1) = linksL t k m n from ups_miss h]

set_option maxRecDepth 100000 in
set_option maxHeartbeats 2000000 in
theorem ref10_Arcs (t : Topo) (A1 A2 : Option Addr) (c1 c2 : Nat) (k m : Int) (w : World) (hT : TAt w A1 A2 t) (hn : t.ls.length ≤ 100000) :
    Calls Tryd.prog 19 #[.agg #[.int .i64 t.n, .slice A1 t.ov.length c1, .slice A2 t.ls.length c2], .agg #[.int .i64 k, .int .i64 m]] w (RetIE w (arcsC t k m)) := by
  obtain ⟨i0, hi, hz0, hz1, hz2⟩ := info_parts intInfo
  have HTw := Lib.hid hT
  have hb0 := below_box w (.cells #[.int .i64 t.n, .slice A1 t.ov.length c1, .slice A2 t.ls.length c2] 25)
  have hb1 := below_box (w.alloc (.cells #[.int .i64 t.n, .slice A1 t.ov.length c1, .slice A2 t.ls.length c2] 25)) (.cells #[.int .i64 k, .int .i64 m] 31)
  have HB := below_next hb0 hb1
  have HT := hT.below HB
  have b0 := cell_up hb1 (box0 w (.int .i64 t.n) (.slice A1 t.ov.length c1) (.slice A2 t.ls.length c2) 25)
  have b1 := cell_up hb1 (box1 w (.int .i64 t.n) (.slice A1 t.ov.length c1) (.slice A2 t.ls.length c2) 25)
  have b2 := cell_up hb1 (box2 w (.int .i64 t.n) (.slice A1 t.ov.length c1) (.slice A2 t.ls.length c2) 25)
  have s0 : ((w.alloc (.cells #[.int .i64 t.n, .slice A1 t.ov.length c1, .slice A2 t.ls.length c2] 25)).alloc (.cells #[.int .i64 k, .int .i64 m] 31)).cell? ⟨w.heap.size + 1, 0, none⟩ = some (.int .i64 k) := by simp
  have s1 : ((w.alloc (.cells #[.int .i64 t.n, .slice A1 t.ov.length c1, .slice A2 t.ls.length c2] 25)).alloc (.cells #[.int .i64 k, .int .i64 m] 31)).cell? ⟨w.heap.size + 1, 1, none⟩ = some (.int .i64 m) := by simp
  clear hb0 hb1 hT
  cases hv : compV t k m with
  | false =>
    have HR : Hid (arcsC t k m = ([], 1)) := Lib.hid (by simp [arcsC, hv])
    go_enter Tryd.func19, Tryd.ntmps19
    go_wp2_with (go_at_call 23; refine (ref10_Valid t _ _ _ _ _ _ _ HT).mono ?_; rintro e w1 ⟨rfl, hb⟩; replace HT := HT.below hb; replace b0 := cell_up hb b0; replace b1 := cell_up hb b1; replace b2 := cell_up hb b2; replace s0 := cell_up hb s0; replace s1 := cell_up hb s1; replace HB := below_next HB hb; clear hb)
    go_ret2
    exact retIE_nil HR.out HB
  | true =>
    have HR : Hid (arcsC t k m = (ups (partA t k m) (2 * t.ls.length), 0)) := Lib.hid (by rw [arcs_ups]; simp [arcsC, hv])
    go_enter Tryd.func19, Tryd.ntmps19
    go_wp2_with (go_at_call 23; refine (ref10_Valid t _ _ _ _ _ _ _ HT).mono ?_; rintro e w1 ⟨rfl, hb⟩; replace HT := HT.below hb; replace b0 := cell_up hb b0; replace b1 := cell_up hb b1; replace b2 := cell_up hb b2; replace s0 := cell_up hb s0; replace s1 := cell_up hb s1; replace HB := below_next HB hb; clear hb)
    have HY : Hid (PBox w A1 A2 c1 c2 t k m w1) := Lib.hid ⟨b0, b1, b2, s0, s1, HB⟩
    clear b0 b1 b2 s0 s1 HB HT hv
    go_loopw [6, 7] (fun v i wr => ∃ j : Nat, j ≤ 2 * t.ls.length ∧ i = .int .i64 j ∧ wr.ownsRow (w.heap.size + 2) 3 1 v (ups (partA t k m) j).length ((ups (partA t k m) j).map (Value.int .i64)) ∧ Hid (PBox w A1 A2 c1 c2 t k m wr)) (fun _ i _ => 2 * t.ls.length - (intOf i).toNat)
    case atStart => exact ⟨0, Nat.zero_le _, rfl, World.ownsRow_nil _ _ _ _, HY⟩
    case round =>
      clear HY
      obtain ⟨j, hj, rfl, hown, HY⟩ := hrel
      have b0 := HY.out.b0
      have b1 := HY.out.b1
      have b2 := HY.out.b2
      have s0 := HY.out.s0
      have s1 := HY.out.s1
      have HO := Lib.hid hown
      clear hown
      by_cases hlt : j < 2 * t.ls.length
      · have hlt' : (j : Int) < 2 * (t.ls.length : Int) := by omega
        have hul := ups_le (partA t k m) j
        cases hp : partA t k m j with
        | true =>
          have HP := Lib.hid hp
          go_wp2_with (first | (go_at_call 36; refine (ref10_Of t _ _ _ _ _ _ _ _ (HTw.out.below HY.out.hb) (by omega) hlt' hn).mono ?_; rintro e w2 ⟨rfl, hb⟩; replace HY := Lib.hid (HY.out.up hb); replace HO := Lib.hid (own_up HO.out hb); clear hb b0 b1 b2 s0 s1) | (at_builtin; refine wpList_append_own _ rfl _ _ 38 rfl (w.heap.size + 2) 3 i0 (.int .i64 0) 1 8 Tryd.underlying38 hi hz0 hz1 hz2 rfl (by decide) _ _ _ rfl (HO.out.alloc _) ⟨_, 0, none⟩ 1 1 [.int .i64 j] rfl rfl (cell_one_new _ _ _) ?_ ?_ ?_ ?_ ?_))
          · intro u hu; simp at hu; subst hu; rfl
          · unfold maxLen; omega
          · omega
          · have := block_lt_of_cell HY.out.s0; simp; simp at this; omega
          intro v' w3 hown' hgrow _
          have hsz : w.heap.size + 2 ≤ _ := block_lt_of_cell HY.out.s0
          have R := own_next HO.out hsz hown' hgrow
          rw [← ups_hit HP.out] at R
          have HR2 := Lib.hid R
          clear hown' hgrow R HO
          go_wp2_with fail
          go_roundw
          case rel => exact ⟨j + 1, by omega, by go_num, HR2.out.1, Lib.hid (HY.out.keep HR2.out.2)⟩
          case measure => simp [intOf]; omega
        | false =>
          have HP := Lib.hid hp
          go_wp2_with (go_at_call 36; refine (ref10_Of t _ _ _ _ _ _ _ _ (HTw.out.below HY.out.hb) (by omega) hlt' hn).mono ?_; rintro e w2 ⟨rfl, hb⟩; replace HY := Lib.hid (HY.out.up hb); replace HO := Lib.hid (own_up HO.out hb); clear hb b0 b1 b2 s0 s1)
          go_roundw
          case rel => exact ⟨j + 1, by omega, by go_num, by rw [ups_miss HP.out]; exact HO.out, HY⟩
          case measure => simp [intOf]; omega
      · obtain rfl : j = 2 * t.ls.length := by omega
        go_wp2_with fail
        go_ret2
        exact retIE_of HR.out HO.out HY.out.hb

end Go.Proofs.YtibennndjfhieaaDoor
