/-
  TopologyTwins: for every topology and number the law returns true: the arcs of a link lead in opposite directions, and Out and In list an arc at its own nodes alone. The card TopologyTwinsCardSaid; no condition beyond the given row's.
-/
import Derived.Test.YthiegnkjcfdinaaDoorAwake09
import Derived.Test.YthiegnkjcfdinaaDoorIn
import Derived.Test.YthiegnkjcfdinaaDoorOpen
import Derived.Test.YthiegnkjcfdinaaDoorCards
import Derived.Test.YthiegnkjcfdinaaDoorTie
import Derived.WalkKit
import Derived.ProofKit
import Derived.OpenShut
import Derived.ChangeOld
import Derived.Deep.DeepHandedRow
import Derived.Lib.LaidTab
import Derived.MakeChecks
import Derived.Lib.LaidU8
import Derived.Deep.RegionHeld3
import Derived.Deep.DrawnRows
namespace Go.Proofs.YthiegnkjcfdinaaDoor.topologyTwins
open Go.ChangeShapes Go.WideShapes Go.ChangeAt Go.RowKit Go.Sort
set_option linter.unusedVariables false

theorem hasOut {t : Topo} (hv : valid t = true) {a : Int} (h0 : 0 ≤ a) (h1 : a < 2 * (t.ls.length : Int)) (k : Int) : decide (a ∈ outV t k) = (k == tail t a) := by
  rw [outV, arcsV_two hv, Bool.eq_iff_iff]
  simp only [decide_eq_true_eq, mem_ups, outP, beq_iff_eq]
  constructor
  · rintro ⟨_, _, h⟩; exact h.symm
  · intro h; exact ⟨h0, by omega, h.symm⟩
theorem hasIn {t : Topo} (hv : valid t = true) {a : Int} (h0 : 0 ≤ a) (h1 : a < 2 * (t.ls.length : Int)) (k : Int) : decide (a ∈ inV t k) = (k == head t a) := by
  rw [inV, arcsV_two hv, Bool.eq_iff_iff]
  simp only [decide_eq_true_eq, mem_ups, inP, beq_iff_eq]
  constructor
  · rintro ⟨_, _, h⟩; exact h.symm
  · intro h; exact ⟨h0, by omega, h.symm⟩
theorem ends_apart {t : Topo} (hv : valid t = true) {a : Int} (h0 : 0 ≤ a) (h1 : a < 2 * (t.ls.length : Int)) : tail t a ≠ head t a := by
  have := lnk_bd (valid_lnk hv (lnk_at h0 h1).2)
  unfold tail head
  split <;> omega
theorem tailV_in {t : Topo} (hv : valid t = true) {a : Int} (h0 : 0 ≤ a) (h1 : a < 2 * (t.ls.length : Int)) : tailV t a = tail t a := by
  simp [tailV, arcsV_true hv, isN_true.2 ⟨h0, h1⟩]
theorem headV_in {t : Topo} (hv : valid t = true) {a : Int} (h0 : 0 ≤ a) (h1 : a < 2 * (t.ls.length : Int)) : headV t a = head t a := by
  simp [headV, arcsV_true hv, isN_true.2 ⟨h0, h1⟩]
theorem head_lo {t : Topo} {a : Int} (h : a % 2 = 0) : head t (a + 1) = tail t a := by
  have e : (a + 1) / 2 = a / 2 := by omega
  have e2 : ¬ (a + 1) % 2 = 0 := by omega
  simp [tail, head, lnk, e, h, e2]
theorem head_hi {t : Topo} {a : Int} (h : ¬ a % 2 = 0) : head t (a - 1) = tail t a := by
  have e : (a - 1) / 2 = a / 2 := by omega
  have e2 : (a - 1) % 2 = 0 := by omega
  simp [tail, head, lnk, e, h, e2]
/-- The twin of an arc. -/
theorem twin_all {t : Topo} (hv : valid t = true) {a : Int} (h0 : 0 ≤ a) (h1 : a < 2 * (t.ls.length : Int)) : ∃ b : Int, bits .xor .i64 a 1 = b ∧ tailV t b = head t a ∧ headV t b = tail t a := by
  have hl := valid_ls hv
  have hx := bits_xor_one a h0 (by omega)
  by_cases h : a % 2 = 0
  · rw [if_pos h] at hx
    exact ⟨_, hx, by rw [tailV_in hv (by omega) (by omega), twin_lo h], by rw [headV_in hv (by omega) (by omega), head_lo h]⟩
  · rw [if_neg h] at hx
    exact ⟨_, hx, by rw [tailV_in hv (by omega) (by omega), twin_hi h], by rw [headV_in hv (by omega) (by omega), head_hi h]⟩

set_option maxHeartbeats 8000000 in
set_option maxRecDepth 100000 in
theorem walk (t : Topo) (A1 A2 : Option Addr) (c1 c2 : Nat) (n : Int) (w : World) (hT : TAt w A1 A2 t) (hn : I64 t.n) (ho : t.ov.length ≤ maxLen) (hl : t.ls.length ≤ maxLen) (hb : ∀ l ∈ t.ls, LnkIn l)
    (hx : -9223372036854775808 ≤ n ∧ n ≤ 9223372036854775807) (ht : Tab w.heap.size w) :
    Calls Tryd.prog 6 #[.agg #[.int .i64 t.n, .slice A1 t.ov.length c1, .slice A2 t.ls.length c2], .int .i64 n] w fun e w' => e = .returned (.bool true) ∧ Below w.heap.size w w' := by
  clear hn ho hl hb hx
  have hX := TBox.start c1 c2 hT
  have hb0 := below_box w (.cells #[.int .i64 t.n, .slice A1 t.ov.length c1, .slice A2 t.ls.length c2] 25)
  have HT := hT.below hb0
  have HB := hb0
  have b0 := box0 w (.int .i64 t.n) (.slice A1 t.ov.length c1) (.slice A2 t.ls.length c2) 25
  have b1 := box1 w (.int .i64 t.n) (.slice A1 t.ov.length c1) (.slice A2 t.ls.length c2) 25
  have b2 := box2 w (.int .i64 t.n) (.slice A1 t.ov.length c1) (.slice A2 t.ls.length c2) 25
  clear hb0 hT
  have HT0 := Lib.hid ht; clear ht
  cases hg : big t with
  | true =>
    clear hX
    go_enter Tryd.func6, Tryd.ntmps6
    go_wp2_with (first | (go_at_call 8; refine (law09_awake _ (tab_up HT0.out HB HB.size)).mono ?_; rintro e w1 ⟨rfl, hb⟩; replace HT := HT.below hb; replace b0 := cell_up hb b0; replace b1 := cell_up hb b1; replace b2 := cell_up hb b2; replace HB := below_next HB hb; clear hb) | (go_at_call 9; refine (law09_large _ _ _ t _ _ _).mono ?_; rintro e w1 ⟨rfl, hb⟩; replace HT := HT.below hb; replace b0 := cell_up hb b0; replace b1 := cell_up hb b1; replace b2 := cell_up hb b2; replace HB := below_next HB hb; clear hb))
    go_ret
    exact ⟨rfl, HB⟩
  | false =>
    have hl' : t.ls.length ≤ 100000 := by have := big_false hg; omega
    cases hv : valid t with
    | false =>
      clear hX
      go_enter Tryd.func6, Tryd.ntmps6
      go_wp2_with (first | (go_at_call 8; refine (law09_awake _ (tab_up HT0.out HB HB.size)).mono ?_; rintro e w1 ⟨rfl, hb⟩; replace HT := HT.below hb; replace b0 := cell_up hb b0; replace b1 := cell_up hb b1; replace b2 := cell_up hb b2; replace HB := below_next HB hb; clear hb) | (go_at_call 9; refine (law09_large _ _ _ t _ _ _).mono ?_; rintro e w1 ⟨rfl, hb⟩; replace HT := HT.below hb; replace b0 := cell_up hb b0; replace b1 := cell_up hb b1; replace b2 := cell_up hb b2; replace HB := below_next HB hb; clear hb) | (go_at_call 12; refine (ref09_Valid t _ _ _ _ _ HT.ls).mono ?_; rintro e w1 ⟨rfl, hb⟩; replace HT := HT.below hb; replace b0 := cell_up hb b0; replace b1 := cell_up hb b1; replace b2 := cell_up hb b2; replace HB := below_next HB hb; clear hb))
      go_ret
      exact ⟨rfl, HB⟩
    | true =>
      by_cases h0 : 0 ≤ n
      · by_cases h1 : n < 2 * (t.ls.length : Int)
        · have HX := Lib.hid hX; clear hX
          obtain ⟨q, hq, hq1, hq2⟩ := twin_all hv h0 h1
          obtain ⟨x, hx⟩ : ∃ x, x = tail t n := ⟨_, rfl⟩
          obtain ⟨y, hy⟩ : ∃ y, y = head t n := ⟨_, rfl⟩
          have hxy : (x == y) = false := by have := ends_apart hv h0 h1; rw [hx, hy]; simpa using this
          have C1 : Hid (∀ w', TAt w' A1 A2 t → Calls Tryd.prog 17 #[.agg #[.int .i64 t.n, .slice A1 t.ov.length c1, .slice A2 t.ls.length c2], .int .i64 n] w' fun e w'' => e = .returned (.int .i64 x) ∧ Below w'.heap.size w' w'') := Lib.hid fun w' h => by
            have := topology_Tail t A1 A2 c1 c2 n w' h hl'
            rwa [tailV_in hv h0 h1, ← hx] at this
          have C2 : Hid (∀ w', TAt w' A1 A2 t → Calls Tryd.prog 18 #[.agg #[.int .i64 t.n, .slice A1 t.ov.length c1, .slice A2 t.ls.length c2], .int .i64 n] w' fun e w'' => e = .returned (.int .i64 y) ∧ Below w'.heap.size w' w'') := Lib.hid fun w' h => by
            have := topology_Head t A1 A2 c1 c2 n w' h hl'
            rwa [headV_in hv h0 h1, ← hy] at this
          have C3 : Hid (∀ w', TAt w' A1 A2 t → Calls Tryd.prog 17 #[.agg #[.int .i64 t.n, .slice A1 t.ov.length c1, .slice A2 t.ls.length c2], .int .i64 q] w' fun e w'' => e = .returned (.int .i64 y) ∧ Below w'.heap.size w' w'') := Lib.hid fun w' h => by
            have := topology_Tail t A1 A2 c1 c2 q w' h hl'
            rwa [hq1, ← hy] at this
          have C4 : Hid (∀ w', TAt w' A1 A2 t → Calls Tryd.prog 18 #[.agg #[.int .i64 t.n, .slice A1 t.ov.length c1, .slice A2 t.ls.length c2], .int .i64 q] w' fun e w'' => e = .returned (.int .i64 x) ∧ Below w'.heap.size w' w'') := Lib.hid fun w' h => by
            have := topology_Head t A1 A2 c1 c2 q w' h hl'
            rwa [hq2, ← hx] at this
          have C5 : Hid (∀ (k : Nat) (A : Option Addr) (c : Nat) w', Rd w' A ((outV t k).map (Value.int .i64)) → Calls Tryd.prog 19 #[.slice A (outV t k).length c, .int .i64 n] w' fun e w'' => e = .returned (.bool ((k : Int) == x)) ∧ Below w'.heap.size w' w'') := Lib.hid fun k A c w' h => by
            have := ref09_Has A c (outV t k) n w' h (outV_le t k hl')
            rwa [hasOut hv h0 h1, ← hx] at this
          have C6 : Hid (∀ (k : Nat) (A : Option Addr) (c : Nat) w', Rd w' A ((inV t k).map (Value.int .i64)) → Calls Tryd.prog 19 #[.slice A (inV t k).length c, .int .i64 n] w' fun e w'' => e = .returned (.bool ((k : Int) == y)) ∧ Below w'.heap.size w' w'') := Lib.hid fun k A c w' h => by
            have := ref09_Has A c (inV t k) n w' h (inV_le t k hl')
            rwa [hasIn hv h0 h1, ← hy] at this
          obtain ⟨hn1, hn2⟩ := valid_n hv
          obtain ⟨m, hm⟩ : ∃ m : Nat, t.n = (m : Int) := ⟨t.n.toNat, by omega⟩
          have HM := Lib.hid hm
          have hm64 : m ≤ 64 := by omega
          have HV := Lib.hid hv
          have HTT := Lib.hid HT
          clear hx hy hq1 hq2 hm hn1 hn2 HT
          go_enter Tryd.func6, Tryd.ntmps6
          go_wp2_with (first | (go_at_call 8; refine (law09_awake _ (tab_up HT0.out HB HB.size)).mono ?_; rintro e w1 ⟨rfl, hb⟩; replace HX := Lib.hid (HX.out.up hb); replace b0 := cell_up hb b0; replace b1 := cell_up hb b1; replace b2 := cell_up hb b2; clear hb) | (go_at_call 9; refine (law09_large _ _ _ t _ _ _).mono ?_; rintro e w1 ⟨rfl, hb⟩; replace HX := Lib.hid (HX.out.up hb); replace b0 := cell_up hb b0; replace b1 := cell_up hb b1; replace b2 := cell_up hb b2; clear hb) | (go_at_call 12; refine (ref09_Valid t _ _ _ _ _ HX.out.ta.ls).mono ?_; rintro e w1 ⟨rfl, hb⟩; replace HX := Lib.hid (HX.out.up hb); replace b0 := cell_up hb b0; replace b1 := cell_up hb b1; replace b2 := cell_up hb b2; clear hb))
          clear HB HT0 HTT hg hv
          replace HX := Lib.hid (HX.out.up (below_drew1 _))
          go_region_held3 (fun w' => w'.cell? ⟨w.heap.size, 0, none⟩ = some (.int .i64 t.n) ∧ w'.cell? ⟨w.heap.size, 1, none⟩ = some (.slice A1 t.ov.length c1) ∧ w'.cell? ⟨w.heap.size, 2, none⟩ = some (.slice A2 t.ls.length c2) ∧ Hid (TBox w A1 A2 c1 c2 t w')) (exact TBox.keep (by assumption))
            (first
              | (go_at_call 17; (first | (with_reducible refine (C1.out _ ?_).mono ?_) | (with_reducible refine (C3.out _ ?_).mono ?_)); (exact TBox.ta (Hid.out (by assumption))); rintro e w1 ⟨rfl, hb⟩; have HX := Lib.hid (TBox.up (w := w) (A1 := A1) (A2 := A2) (c1 := c1) (c2 := c2) (t := t) (Hid.out (by assumption)) hb); clear hb)
              | (go_at_call 18; (first | (with_reducible refine (C2.out _ ?_).mono ?_) | (with_reducible refine (C4.out _ ?_).mono ?_)); (exact TBox.ta (Hid.out (by assumption))); rintro e w1 ⟨rfl, hb⟩; have HX := Lib.hid (TBox.up (w := w) (A1 := A1) (A2 := A2) (c1 := c1) (c2 := c2) (t := t) (Hid.out (by assumption)) hb); clear hb))
          rename_i HXz
          obtain ⟨b0, b1, b2, HX⟩ := HXz
          go_wp2_with fail
          go_loopw [57] (fun i wr => ∃ k : Nat, k ≤ m ∧ i = .int .i64 k ∧ Hid (TBox w A1 A2 c1 c2 t wr)) (fun i _ => m - (intOf i).toNat)
          case atStart => exact ⟨0, Nat.zero_le _, rfl, by assumption⟩
          case round =>
            obtain ⟨k, hk, rfl, HX⟩ := hrel
            by_cases hlt : k < m
            · have hlt' : (k : Int) < t.n := by rw [HM.out]; omega
              obtain ⟨B1, hB1⟩ : ∃ B, ((k : Int) == x) = B := ⟨_, rfl⟩
              obtain ⟨B2, hB2⟩ : ∃ B, ((k : Int) == y) = B := ⟨_, rfl⟩
              have hB1' : decide ((k : Int) = x) = B1 := hB1
              have hB2' : decide ((k : Int) = y) = B2 := hB2
              replace C5 := C5.out k
              replace C6 := C6.out k
              rw [hB1] at C5
              rw [hB2] at C6
              have D5 := Lib.hid C5
              have D6 := Lib.hid C6
              clear C5 C6
              go_wp2_with fail
              replace HX := Lib.hid (HX.out.up (below_drew1 _))
              go_region_held3 (fun w' => w'.cell? ⟨w.heap.size, 0, none⟩ = some (.int .i64 t.n) ∧ w'.cell? ⟨w.heap.size, 1, none⟩ = some (.slice A1 t.ov.length c1) ∧ w'.cell? ⟨w.heap.size, 2, none⟩ = some (.slice A2 t.ls.length c2) ∧ Hid (TBox w A1 A2 c1 c2 t w')) (exact TBox.keep (by assumption))
                (first
                  | (go_at_call 17; (with_reducible refine (C1.out _ ?_).mono ?_); (exact TBox.ta (Hid.out (by assumption))); rintro e w1 ⟨rfl, hb⟩; have HX := Lib.hid (TBox.up (w := w) (A1 := A1) (A2 := A2) (c1 := c1) (c2 := c2) (t := t) (Hid.out (by assumption)) hb); clear hb)
                  | (go_at_call 18; (with_reducible refine (C2.out _ ?_).mono ?_); (exact TBox.ta (Hid.out (by assumption))); rintro e w1 ⟨rfl, hb⟩; have HX := Lib.hid (TBox.up (w := w) (A1 := A1) (A2 := A2) (c1 := c1) (c2 := c2) (t := t) (Hid.out (by assumption)) hb); clear hb)
                  | (go_at_call 20; refine (topology_OutV t _ _ _ _ _ _ ?_ hl').mono ?_; (exact TBox.ta (Hid.out (by assumption))); rintro e w1 ⟨Aa, ca, rfl, _, _, ra, hb⟩; have HX := Lib.hid (TBox.up (w := w) (A1 := A1) (A2 := A2) (c1 := c1) (c2 := c2) (t := t) (Hid.out (by assumption)) hb); clear hb)
                  | (go_at_call 21; refine (topology_InV t _ _ _ _ _ _ ?_ hl').mono ?_; (exact TBox.ta (Hid.out (by assumption))); rintro e w1 ⟨Ac, cc, rfl, _, _, rc, hb⟩; have HX := Lib.hid (TBox.up (w := w) (A1 := A1) (A2 := A2) (c1 := c1) (c2 := c2) (t := t) (Hid.out (by assumption)) hb); clear hb)
                  | (go_at_call 19; (first | (with_reducible refine (D6.out _ _ _ rc).mono ?_) | (with_reducible refine (D5.out _ _ _ ra).mono ?_)); rintro e w1 ⟨rfl, hb⟩; have HX := Lib.hid (TBox.up (w := w) (A1 := A1) (A2 := A2) (c1 := c1) (c2 := c2) (t := t) (Hid.out (by assumption)) hb); clear hb))
              rename_i HXz
              obtain ⟨b0, b1, b2, HX⟩ := HXz
              go_wp2_with fail
              go_roundw
              case rel => exact ⟨k + 1, by omega, by go_num, by assumption⟩
              case measure => simp [intOf]; omega
            · have hge : ¬ (k : Int) < t.n := by rw [HM.out]; omega
              go_wp2_with fail
              go_ret
              exact ⟨rfl, HX.out.hb⟩
        · have h1' : (2 * (t.ls.length : Int) ≤ n) := by omega
          clear hX
          go_enter Tryd.func6, Tryd.ntmps6
          go_wp2_with (first | (go_at_call 8; refine (law09_awake _ (tab_up HT0.out HB HB.size)).mono ?_; rintro e w1 ⟨rfl, hb⟩; replace HT := HT.below hb; replace b0 := cell_up hb b0; replace b1 := cell_up hb b1; replace b2 := cell_up hb b2; replace HB := below_next HB hb; clear hb) | (go_at_call 9; refine (law09_large _ _ _ t _ _ _).mono ?_; rintro e w1 ⟨rfl, hb⟩; replace HT := HT.below hb; replace b0 := cell_up hb b0; replace b1 := cell_up hb b1; replace b2 := cell_up hb b2; replace HB := below_next HB hb; clear hb) | (go_at_call 12; refine (ref09_Valid t _ _ _ _ _ HT.ls).mono ?_; rintro e w1 ⟨rfl, hb⟩; replace HT := HT.below hb; replace b0 := cell_up hb b0; replace b1 := cell_up hb b1; replace b2 := cell_up hb b2; replace HB := below_next HB hb; clear hb))
          go_ret
          exact ⟨rfl, HB⟩
      · clear hX
        have h0' : n < 0 := by omega
        go_enter Tryd.func6, Tryd.ntmps6
        go_wp2_with (first | (go_at_call 8; refine (law09_awake _ (tab_up HT0.out HB HB.size)).mono ?_; rintro e w1 ⟨rfl, hb⟩; replace HT := HT.below hb; replace b0 := cell_up hb b0; replace b1 := cell_up hb b1; replace b2 := cell_up hb b2; replace HB := below_next HB hb; clear hb) | (go_at_call 9; refine (law09_large _ _ _ t _ _ _).mono ?_; rintro e w1 ⟨rfl, hb⟩; replace HT := HT.below hb; replace b0 := cell_up hb b0; replace b1 := cell_up hb b1; replace b2 := cell_up hb b2; replace HB := below_next HB hb; clear hb) | (go_at_call 12; refine (ref09_Valid t _ _ _ _ _ HT.ls).mono ?_; rintro e w1 ⟨rfl, hb⟩; replace HT := HT.below hb; replace b0 := cell_up hb b0; replace b1 := cell_up hb b1; replace b2 := cell_up hb b2; replace HB := below_next HB hb; clear hb))
        go_ret
        exact ⟨rfl, HB⟩

theorem own : ownKnob Tryd.prog.godebug = none := by kernel_rfl
theorem laidOut : laidOutB Tryd.prog = true := by kernel_rfl
theorem gTab : Tryd.prog.globalNamed "internal/strconv.uint64pow10" = some 0 := by kernel_rfl
theorem gTabType : (Tryd.prog.globals[(0 : Nat)]?).map (·.type) = some 78 := by kernel_rfl
theorem table {W : World} (h : laidMetH Tryd.prog Rows.topologyTwinsRow.laid W) : Lib.TabIs Tryd.prog W "internal/strconv.uint64pow10" .u64 Lib.pow10Tab :=
  by
  rw [Go.MakeChecks.laidMetH_plain _ _ _ (by kernel_rfl)] at h
  have hm : ("internal/strconv.uint64pow10", Rows.laid_internal_strconv_uint64pow10) ∈ Rows.topologyTwinsRow.laid := by simp [Rows.topologyTwinsRow]
  rw [show (Rows.laid_internal_strconv_uint64pow10 : DataW Unit) = Lib.tabData .u64 Lib.pow10Tab by kernel_rfl] at hm
  obtain ⟨g', t', cs, fuel, p, hg', ht', hvar, hd⟩ := Lib.laidMet.reads h hm
  obtain rfl := Option.some.inj (gTab.symm.trans hg')
  obtain rfl := Option.some.inj (gTabType.symm.trans ht')
  unfold Lib.TabIs
  rw [hvar, ← Lib.cells_of_tab Tryd.underlying78 Tryd.underlying71 (by kernel_rfl) (by kernel_rfl) hd]

/-- For every argument and every world that holds the tables. -/
theorem contract (H : Type) (enc : TypeId × Value → H) (W : World) (base : Nat) (args : Array Value) (ds gs : List (DataW H)) (before : List MemPlace)
    (hval : ∀ (j : Nat) t v, Tryd.f6.params[j]? = some t → args[j]? = some v → Value.okWide Tryd.prog W .any base t v)
    (hW : DataW.Whole enc Tryd.prog Tryd.f6.params.toList Rows.topologyTwinsSpec.vars false W args.toList ds gs before) (hL : laidMetH Tryd.prog Rows.topologyTwinsRow.laid W) :
    Calls Tryd.prog 6 args W fun e W' => ∃ v, e = .returned v ∧ Rows.topologyTwinsSpec.post enc Tryd.prog Tryd.f6 false true false false W args v W' := by
  have hW' := hW
  obtain ⟨p, q, hA0, hV, rfl, hfz, hnd⟩ := hW
  have hA : DataW.TrodAll enc Tryd.prog W 0 (fun _ => true) true Tryd.f6.params.toList args.toList ds p := hA0
  rw [Tryd.params6] at hA hval
  obtain ⟨v0, vs0, d0, ds0, p0, q0, hargs, rfl, rfl, h0, r0⟩ := trodAll_cons hA
  obtain ⟨v1, vs1, d1, ds1, p1, q1, rfl, rfl, rfl, h1, r1⟩ := trodAll_cons r0
  obtain ⟨rfl, rfl, rfl⟩ := trodAll_nil r1
  obtain rfl : args = #[v0, v1] := by cases args; simp_all
  obtain ⟨rfl, rfl⟩ := trodVars_none hV
  have k0 := h0
  have lt0 : ∀ x ∈ p0, x.block < W.heap.size := by obtain ⟨m, hm⟩ := k0; exact DataW.trod_lt m _ _ _ hm
  obtain ⟨t0, A0a, A0b, c0a, c0b, rfl, hT0, hn0, ho0, hl0, hb0⟩ := open_topo (hval 0 25 v0 rfl rfl) h0
  have k1 := h1
  have lt1 : ∀ x ∈ p1, x.block < W.heap.size := by obtain ⟨m, hm⟩ := k1; exact DataW.trod_lt m _ _ _ hm
  obtain ⟨x1, rfl, hx1⟩ := open_i64 Tryd.underlying3 (hval 1 3 v1 rfl rfl) h1
  clear hA0
  refine (walk t0 A0a A0b c0a c0b x1 W hT0 hn0 ho0 hl0 hb0 hx1 (Lib.tabBelow_of_tabIs (table hL))).mono fun e W' ⟨he, bel⟩ => ?_
  subst he
  exact ⟨_, rfl, _, _, _, [], _, [], hW', trodAll_mk1 (shut_bool Tryd.underlying4 _), (trodAll_cons_mk (Below.trod laidOut (by kernel_rfl) (of_decide_eq_true (by kernel_rfl)) k0 bel lt0) (trodAll_cons_mk (Below.trod laidOut (by kernel_rfl) (of_decide_eq_true (by kernel_rfl)) k1 bel lt1) trodAll_mk0)), rfl, bel.frame _, fun h => by cases h⟩

/-- The cells of a laid table. -/
def tabCells : DataW Unit → Array Value
  | .agg ds => (ds.map fun | .lit (.int k n) => Value.int k n | _ => undef).toArray
  | _ => #[]
def layTab (c : Array Value) : Obj → Obj
  | .cells _ t frozen => .cells c t frozen
  | o => o
/-- A world for the witness: the settled one, the tables holding what their initialisers lay. -/
noncomputable def laidWorld (os : Os) : World :=
  { World.holding Tryd.prog os ⟨#[], #[], []⟩ with heap := (((World.holding Tryd.prog os ⟨#[], #[], []⟩).heap.modify 0 (layTab (tabCells Rows.laid_internal_strconv_uint64pow10))).modify 1 (layTab (tabCells Rows.laid_math_bits_deBruijn32tab))).modify 2 (layTab (tabCells Rows.laid_math_bits_deBruijn64tab)) }
theorem laid_met (os : Os) : laidMet Tryd.prog Rows.topologyTwinsRow.laid ((laidWorld os).forCall (fun _ _ => 0) ⟨#[], #[.agg #[.int .i64 0, .slice none 0 0, .slice none 0 0], .int .i64 0], []⟩).memory :=
  laidMet_of_run' 8 (by kernel_rfl) (by kernel_rfl)
theorem reads (os : Os) {H : Type} (enc : TypeId × Value → H) : ∃ places, DataW.whole enc Tryd.prog ((laidWorld os).forCall (fun _ _ => 0) ⟨#[], #[.agg #[.int .i64 0, .slice none 0 0, .slice none 0 0], .int .i64 0], []⟩).memory Tryd.f6.params.toList Rows.topologyTwinsSpec.vars false (#[.agg #[.int .i64 0, .slice none 0 0, .slice none 0 0], .int .i64 0] : Array Value).toList 8 = some ([.agg [.lit (.int .i64 0), .nil, .nil], .lit (.int .i64 0)], [], places) :=
  ⟨[], by kernel_rfl⟩

set_option maxRecDepth 100000 in
theorem lifted (os : Os) (started : os.Started) (H : Type) (enc : TypeId × Value → H) (F : Stop.Interp) :
    ReturnsInHanded {} Tryd.checked os 6 .any ((OpenSpec.ofChange Rows.topologyTwinsSpec).preRow enc Tryd.prog Tryd.f6 Rows.topologyTwinsRow.domain false Rows.topologyTwinsRow.laid) (((OpenSpec.ofChange Rows.topologyTwinsSpec).at F).post enc Tryd.prog Tryd.f6 false true false false) := by
  obtain ⟨places, hx⟩ := reads os enc
  refine returnsInHanded_of_row (C := Tryd.checked) (s := OpenSpec.ofChange Rows.topologyTwinsSpec) own started (by kernel_rfl) Tryd.func6
    (witness_row_at (enc := enc) (C := Tryd.checked) false (laidWorld os) #[.agg #[.int .i64 0, .slice none 0 0, .slice none 0 0], .int .i64 0] rfl (by kernel_rfl) (by kernel_rfl) (by kernel_rfl)
      (OpenSpec.preRow_of_cond 8 hx (by kernel_rfl) (fun k hk => by cases hk) (by kernel_rfl) (laid_met os))) ?_
  intro W base args ds gs before hval hW _ _ _ hL _ _
  exact contract H enc W base args ds gs before hval hW hL

theorem said : Rows.TopologyTwinsSaid :=
  OpenClaim.holds_of_cond 6 Tryd.f6 rfl rfl rfl rfl rfl rfl rfl ⟨rfl, rfl, rfl, rfl, rfl⟩ rfl rfl rfl rfl rfl (by kernel_rfl) Tryd.func6 (by kernel_rfl)
    (of_decide_eq_true (by kernel_rfl)) (by unfold Func.isWrapper; first | (rw [if_pos (by decide +kernel)]; kernel_rfl) | (rw [if_neg (by decide +kernel)]; exact ⟨rfl, rfl⟩))
    (fun os started H enc _ F => by rw [OpenClaim.pre_eq_preRow]; exact lifted os started H enc F)

theorem plain (f : FuncId) (fn : Func) (hf : Tryd.pinned.checked.prog.funcNamed "waypoint/waypointlaw09.TopologyTwins" = some f) (hfn : Tryd.pinned.checked.prog.funcs[f]? = some fn) :
    false = Tryd.pinned.checked.prog.looks [] ∧ ∀ (j : Nat) t, fn.params[j]? = some t → Tryd.pinned.checked.prog.wantsStandIn t = false := by
  obtain rfl : f = 6 := Option.some.inj ((show Tryd.prog.funcNamed "waypoint/waypointlaw09.TopologyTwins" = some 6 by kernel_rfl).symm.trans hf) |>.symm
  obtain rfl : fn = Tryd.f6 := (Option.some.inj (Tryd.func6.symm.trans hfn)).symm
  refine ⟨by kernel_rfl, fun j t ht => ?_⟩
  rw [Tryd.params6] at ht
  have hm : t ∈ [25, 3] := by simpa using Array.mem_of_getElem? ht
  have hall : ([25, 3].all fun u => !Tryd.prog.wantsStandIn u) = true := by kernel_rfl
  exact (show Tryd.prog.wantsStandIn t = false by simpa using List.all_eq_true.1 hall t hm)

/-- The card: the statement. -/
theorem card : Rows.TopologyTwinsCardSaid :=
  Claim7.holds_tied_plain_at .later [] _ _ _ _ said (fun _ h => by cases h) (by kernel_rfl) (fun _ h => by cases h) topologyTwins_row_tie rfl ⟨rfl, rfl⟩ (by kernel_rfl) rfl plain (by kernel_rfl)
#print axioms card
end Go.Proofs.YthiegnkjcfdinaaDoor.topologyTwins
