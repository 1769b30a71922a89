/-
  component.Mask, waypointref10.Union, Mask, SameBools: what each returns.
-/
import Derived.Test.YtibennndjfhieaaDoorUnion
namespace Go.Proofs.YtibennndjfhieaaDoor
open Go.RowKit Go.Sort

theorem RetBE.next {w0 w w' : World} {r : List Bool × Int} {e : Ending} (h : RetBE w r e w') (hb : Below w0.heap.size w0 w) : RetBE w0 r e w' := by
  obtain ⟨A, c, h0, h1, h2⟩ := h
  exact ⟨A, c, h0, h1, below_next hb h2⟩
theorem rdP_one {w : World} {g : Nat} {k m : Int} (s0 : w.cell? ⟨g, 0, none⟩ = some (.int .i64 k)) (s1 : w.cell? ⟨g, 1, none⟩ = some (.int .i64 m)) : RdP w (some ⟨g, 0, none⟩) [(k, m)] := by
  refine .inr ⟨g, 0, rfl, fun j p hp => ?_⟩
  match j, hp with
  | 0, hp => simp at hp; subst hp; exact ⟨s0, s1⟩
  | j + 1, hp => simp at hp
theorem rdP_new {w : World} {g : Nat} {k m : Int} {T : TypeId} (h : w.heap.size = g) : RdP (w.alloc (.cells #[.int .i64 k, .int .i64 m] T)) (some ⟨g, 0, none⟩) [(k, m)] := by
  subst h
  exact rdP_one (by simp) (by simp)

set_option maxHeartbeats 1000000 in
theorem component_Mask (t : Topo) (A1 A2 : Option Addr) (c1 c2 : Nat) (k m : Int) (w : World) (hT : TAt w A1 A2 t) (hn : t.ls.length ≤ 100000) :
    Calls Tryd.prog 20 #[.agg #[.int .i64 t.n, .slice A1 t.ov.length c1, .slice A2 t.ls.length c2], .agg #[.int .i64 k, .int .i64 m]] w (RetBE w (unionV t [(k, m)])) := by
  have hb0 := below_box w (.cells #[.int .i64 t.n, .slice A1 t.ov.length c1, .slice A2 t.ls.length c2] 25)
  have hb1 := below_box (w.alloc (.cells #[.int .i64 t.n, .slice A1 t.ov.length c1, .slice A2 t.ls.length c2] 25)) (.cells #[.int .i64 k, .int .i64 m] 31)
  have HB := below_next hb0 hb1
  have HT := hT.below HB
  have b0 := cell_up hb1 (box0 w (.int .i64 t.n) (.slice A1 t.ov.length c1) (.slice A2 t.ls.length c2) 25)
  have b1 := cell_up hb1 (box1 w (.int .i64 t.n) (.slice A1 t.ov.length c1) (.slice A2 t.ls.length c2) 25)
  have b2 := cell_up hb1 (box2 w (.int .i64 t.n) (.slice A1 t.ov.length c1) (.slice A2 t.ls.length c2) 25)
  have s0 : ((w.alloc (.cells #[.int .i64 t.n, .slice A1 t.ov.length c1, .slice A2 t.ls.length c2] 25)).alloc (.cells #[.int .i64 k, .int .i64 m] 31)).cell? ⟨w.heap.size + 1, 0, none⟩ = some (.int .i64 k) := by simp
  have s1 : ((w.alloc (.cells #[.int .i64 t.n, .slice A1 t.ov.length c1, .slice A2 t.ls.length c2] 25)).alloc (.cells #[.int .i64 k, .int .i64 m] 31)).cell? ⟨w.heap.size + 1, 1, none⟩ = some (.int .i64 m) := by simp
  clear hb0 hb1 hT
  have HT' := Lib.hid HT
  have HB' := Lib.hid HB
  clear HT HB
  go_enter Tryd.func20, Tryd.ntmps20
  go_wp2_with fail
  refine (component_Union t A1 A2 c1 c2 _ 1 [(k, m)] _ (HT'.out.below (below_box _ _)) (rdP_new (by simp)) hn (by simp)).mono ?_
  rintro e w2 ⟨A, c, rfl, hr, hb⟩
  go_wp2_with fail
  go_ret2
  exact ⟨A, c, rfl, hr, below_next (below_next HB'.out (below_box _ _)) hb⟩

theorem bools_at {w : World} {A : Option Addr} {xs : List Bool} {k : Nat} (h : Rd w A (xs.map Value.bool)) (hk : k < xs.length) : ∃ b o x, A = some ⟨b, o, none⟩ ∧ xs[k]? = some x ∧ w.cell? ⟨b, o + k, none⟩ = some (.bool x) := by
  obtain ⟨b, o, hA, hc⟩ := h.at_ (k := k) (u := .bool xs[k]) (by simp [hk])
  exact ⟨b, o, xs[k], hA, List.getElem?_eq_getElem hk, hc⟩
theorem sameBools_refl (A B : Option Addr) (c d : Nat) (xs : List Bool) (w : World) (hA : Rd w A (xs.map Value.bool)) (hB : Rd w B (xs.map Value.bool)) (hm : xs.length ≤ 4611686018427387904) :
    Calls Tryd.prog 17 #[.slice A xs.length c, .slice B xs.length d] w fun e w' => e = .returned (.bool true) ∧ Below w.heap.size w w' := by
  have HA := Lib.hid hA
  have HB := Lib.hid hB
  clear hA hB
  go_enter Tryd.func17, Tryd.ntmps17
  go_wp2_with fail
  go_loopw [5] (fun i wr => ∃ k : Nat, k ≤ xs.length ∧ i = .int .i64 k ∧ Hid (Below w.heap.size w wr)) (fun i _ => xs.length - (intOf i).toNat)
  case atStart => exact ⟨0, Nat.zero_le _, rfl, Lib.hid (Below.refl _ _)⟩
  case round =>
    obtain ⟨k, hk, rfl, HW⟩ := hrel
    by_cases hlt : k < xs.length
    · obtain ⟨b, o, x, rfl, hx, cx⟩ := bools_at (HA.out.below HW.out) hlt
      obtain ⟨b', o', y, rfl, hy, cy⟩ := bools_at (HB.out.below HW.out) hlt
      obtain rfl : x = y := Option.some.inj (hx.symm.trans hy)
      have hlt2 : (k : Int) < (xs.length : Int) := by omega
      clear hx hy
      go_wp2_with fail
      go_quiet (fail)
      go_wp2_with fail
      go_roundw
      case rel => exact ⟨k + 1, by omega, by go_num, Lib.hid (below_drw HW.out _)⟩
      case measure => simp [intOf]; omega
    · obtain rfl : k = xs.length := by omega
      go_wp2_with fail
      go_ret
      exact ⟨rfl, HW.out⟩

/-- The state of waypointref10.Union: the marks f. -/
structure VInv (w : World) (A1 A2 : Option Addr) (c1 c2 : Nat) (t : Topo) (N G : Nat) (f : Nat → Bool) (wr : World) : Prop where
  b0 : wr.cell? ⟨w.heap.size, 0, none⟩ = some (.int .i64 t.n)
  b1 : wr.cell? ⟨w.heap.size, 1, none⟩ = some (.slice A1 t.ov.length c1)
  b2 : wr.cell? ⟨w.heap.size, 2, none⟩ = some (.slice A2 t.ls.length c2)
  mb : wr.heap[G]? = some (.cells (mkB N f) 4 (0, 0))
  hb : Below w.heap.size w wr
theorem VInv.up {w : World} {A1 A2 : Option Addr} {c1 c2 : Nat} {t : Topo} {N G : Nat} {f : Nat → Bool} {wr w' : World} (h : VInv w A1 A2 c1 c2 t N G f wr) (hb : Below wr.heap.size wr w') : VInv w A1 A2 c1 c2 t N G f w' :=
  ⟨cell_up hb h.b0, cell_up hb h.b1, cell_up hb h.b2, (hb.block G (lt_of_heap' h.mb)).trans h.mb, below_next h.hb hb⟩
theorem VInv.set {w : World} {A1 A2 : Option Addr} {c1 c2 : Nat} {t : Topo} {N G : Nat} {f : Nat → Bool} {wr : World} (h : VInv w A1 A2 c1 c2 t N G f wr) (hG : w.heap.size < G) (a : Nat) : VInv w A1 A2 c1 c2 t N G (fun x => f x || x == a) (wr.setCell ⟨G, a, none⟩ (.bool true)) := by
  have hne : ∀ o, (wr.setCell ⟨G, a, none⟩ (.bool true)).cell? ⟨w.heap.size, o, none⟩ = wr.cell? ⟨w.heap.size, o, none⟩ := fun o => World.cell?_setCell_other _ _ _ _ (fun e => by cases e; omega)
  exact ⟨(hne 0).trans h.b0, (hne 1).trans h.b1, (hne 2).trans h.b2, by rw [← mkB_set]; exact heap_setCell_same _ _ _ _ _ _ h.mb, h.hb.setCell (by show w.heap.size ≤ G; omega) _⟩

/-- The marks in the middle of a component, arc by arc. -/
def maskQ (t : Topo) (l : List (Int × Int)) (j : Nat) (k m : Int) (a : Nat) (x : Nat) : Bool := maskF t l j x || (decide (x < a) && partA t k m (x : Int))
theorem maskQ_hit {t : Topo} {l : List (Int × Int)} {j : Nat} {k m : Int} {a : Nat} (h : partA t k m (a : Int) = true) : (fun x => maskQ t l j k m a x || x == a) = maskQ t l j k m (a + 1) := by
  funext x
  unfold maskQ
  by_cases e : x = a
  · subst e
    simp [h]
  · have e1 : (x == a) = false := by simp [e]
    have e2 : decide (x < a + 1) = decide (x < a) := by rw [decide_eq_decide]; omega
    rw [e1, e2, Bool.or_false]
theorem maskQ_miss {t : Topo} {l : List (Int × Int)} {j : Nat} {k m : Int} {a : Nat} (h : partA t k m (a : Int) = false) : maskQ t l j k m a = maskQ t l j k m (a + 1) := by
  funext x
  unfold maskQ
  by_cases e : x = a
  · subst e
    simp [h]
  · have e2 : decide (x < a + 1) = decide (x < a) := by rw [decide_eq_decide]; omega
    rw [e2]
theorem maskQ_start {t : Topo} {l : List (Int × Int)} {j : Nat} {k m : Int} : maskF t l j = maskQ t l j k m 0 := by
  funext x
  simp [maskQ]
theorem maskQ_end {t : Topo} {l : List (Int × Int)} {j : Nat} {k m : Int} {N : Nat} (hp : l[j]? = some (k, m)) : mkB N (maskQ t l j k m N) = mkB N (maskF t l (j + 1)) := by
  apply mkB_congr
  intro a ha
  obtain ⟨hj, e⟩ := List.getElem?_eq_some_iff.1 hp
  unfold maskQ maskF
  rw [List.take_succ_eq_append_getElem hj, List.any_append, e]
  simp [ha]

set_option maxRecDepth 100000 in
set_option maxHeartbeats 4000000 in
theorem ref10_Union (t : Topo) (A1 A2 : Option Addr) (c1 c2 : Nat) (A : Option Addr) (c : Nat) (l : List (Int × Int)) (w : World) (hT : TAt w A1 A2 t) (hl : RdP w A l) (hn : t.ls.length ≤ 100000) (hll : l.length ≤ 100000) :
    Calls Tryd.prog 16 #[.agg #[.int .i64 t.n, .slice A1 t.ov.length c1, .slice A2 t.ls.length c2], .slice A l.length c] w (RetBE w (unionV t l)) := by
  have HTw := Lib.hid hT
  have HL := Lib.hid hl
  clear hl
  have hb0 := below_box w (.cells #[.int .i64 t.n, .slice A1 t.ov.length c1, .slice A2 t.ls.length c2] 25)
  have HT := hT.below hb0
  have HB := hb0
  have b0 := box0 w (.int .i64 t.n) (.slice A1 t.ov.length c1) (.slice A2 t.ls.length c2) 25
  have b1 := box1 w (.int .i64 t.n) (.slice A1 t.ov.length c1) (.slice A2 t.ls.length c2) 25
  have b2 := box2 w (.int .i64 t.n) (.slice A1 t.ov.length c1) (.slice A2 t.ls.length c2) 25
  clear hb0 hT
  cases hv : valid t with
  | false =>
    have HR : Hid (unionV t l = ([], 1)) := Lib.hid (by simp [unionV, hv])
    go_enter Tryd.func16, Tryd.ntmps16
    go_wp2_with (go_at_call 26; refine (ref09_Valid t _ _ _ _ _ HT.ls).mono ?_; rintro e w1 ⟨rfl, hb⟩; replace HT := HT.below hb; replace b0 := cell_up hb b0; replace b1 := cell_up hb b1; replace b2 := cell_up hb b2; replace HB := below_next HB hb; clear hb)
    go_ret2
    exact retBE_nil HR.out HB
  | true =>
    have HV := Lib.hid hv
    have hmk := run_makeB t.ls.length (by omega)
    obtain ⟨N, hN⟩ : ∃ N : Nat, N = 2 * t.ls.length := ⟨_, rfl⟩
    rw [← hN] at hmk
    have HN := Lib.hid hN
    clear hN
    go_enter Tryd.func16, Tryd.ntmps16
    go_wp2_with (go_at_call 26; refine (ref09_Valid t _ _ _ _ _ HT.ls).mono ?_; rintro e w1 ⟨rfl, hb⟩; replace HT := HT.below hb; replace b0 := cell_up hb b0; replace b1 := cell_up hb b1; replace b2 := cell_up hb b2; replace HB := below_next HB hb; clear hb)
    have hwG : w.heap.size < w1.heap.size := block_lt_of_cell b0
    have HI : Hid (VInv w A1 A2 c1 c2 t N w1.heap.size (maskF t l 0) (w1.alloc (.cells (mkB N fun _ => false) 4))) := Lib.hid ⟨cell_up (below_box _ _) b0, cell_up (below_box _ _) b1, cell_up (below_box _ _) b2, heap_alloc_new _ _, below_next HB (below_box _ _)⟩
    obtain ⟨G, hG⟩ : ∃ G, G = w1.heap.size := ⟨_, rfl⟩
    rw [← hG] at HI hwG ⊢
    clear b0 b1 b2 HT HB hmk hv hG
    go_loopw [7] (fun i wr => ∃ j : Nat, j ≤ l.length ∧ i = .int .i64 j ∧ Hid (∀ p ∈ l.take j, compOk t p.1 p.2 = true) ∧ Hid (VInv w A1 A2 c1 c2 t N G (maskF t l j) wr)) (fun i _ => l.length - (intOf i).toNat)
    case atStart => exact ⟨0, Nat.zero_le _, rfl, Lib.hid (fun p hp => by simp at hp), HI⟩
    case round =>
      clear HI
      obtain ⟨j, hj, rfl, HK, HI⟩ := hrel
      by_cases hlt : j < l.length
      · obtain ⟨b, o, ⟨k, m⟩, rfl, hd, q0, q1⟩ := (HL.out.below HI.out.hb).at_ hlt
        have HP : Hid (l[j]? = some (k, m)) := Lib.hid (by
          have := congrArg (fun l => l[0]?) hd
          simpa using this)
        clear hd
        simp only at q0 q1
        have b0 := HI.out.b0
        have b1 := HI.out.b1
        have b2 := HI.out.b2
        have hlt' : (j : Int) < (l.length : Int) := by omega
        have cV : ∀ d os, Calls Tryd.prog 23 #[.agg #[.int .i64 t.n, .slice A1 t.ov.length c1, .slice A2 t.ls.length c2], .agg #[.int .i64 k, .int .i64 m]] (grow (redrawn wr d) os) fun e w'' => e = .returned (.bool (compOk t k m)) ∧ ∃ p : Regrown, w'' = grow (redrawn wr p.d) p.os := fun d os => by
          have h := ref10_Valid t A1 A2 c1 c2 k m (grow (redrawn wr d) os) ((HTw.out.below HI.out.hb).re d os)
          rw [show compV t k m = compOk t k m by simp [compV, HV.out]] at h
          exact Calls.regrown_of h
        have HcV := Lib.hid cV
        have HB := Below.refl wr.heap.size wr
        clear cV
        cases hc : compOk t k m with
        | false =>
          rw [hc] at HcV
          have HR : Hid (unionV t l = ([], 1)) := Lib.hid (unionV_bad (List.mem_of_getElem? HP.out) hc)
          go_wp2_with fail
          have kq_b0 := cell_regrown b0
          have kq_b1 := cell_regrown b1
          have kq_b2 := cell_regrown b2
          have kq_q0 := cell_regrown q0
          have kq_q1 := cell_regrown q1
          refine wp_region_quiet_below (by kernel_rfl) (by kernel_rfl) ?_
          repeat (go_big_quiet_step (exact HcV.out _ _))
          refine wpQuiet_nil ?_
          intro w2 hb2
          replace hb2 := below_of_regrown hb2
          clear kq_b0 kq_b1 kq_b2 kq_q0 kq_q1
          replace b0 := cell_up hb2 b0
          replace b1 := cell_up hb2 b1
          replace b2 := cell_up hb2 b2
          replace q0 := cell_up hb2 q0
          replace q1 := cell_up hb2 q1
          replace HB := below_next HB hb2
          go_wp2_with fail
          go_ret2
          exact retBE_nil HR.out (below_next HI.out.hb HB)
        | true =>
          rw [hc] at HcV
          have HC := Lib.hid hc
          go_wp2_with fail
          have kq_b0 := cell_regrown b0
          have kq_b1 := cell_regrown b1
          have kq_b2 := cell_regrown b2
          have kq_q0 := cell_regrown q0
          have kq_q1 := cell_regrown q1
          refine wp_region_quiet_below (by kernel_rfl) (by kernel_rfl) ?_
          repeat (go_big_quiet_step (exact HcV.out _ _))
          refine wpQuiet_nil ?_
          intro w2 hb2
          replace hb2 := below_of_regrown hb2
          clear kq_b0 kq_b1 kq_b2 kq_q0 kq_q1
          replace b0 := cell_up hb2 b0
          replace b1 := cell_up hb2 b1
          replace b2 := cell_up hb2 b2
          replace q0 := cell_up hb2 q0
          replace q1 := cell_up hb2 q1
          replace HB := below_next HB hb2
          replace HI := Lib.hid (HI.out.up HB)
          clear hb2 HB b0 b1 b2 q0 q1 HcV hc
          rw [maskQ_start (k := k) (m := m)] at HI
          go_wp2_with fail
          go_loopw [8] (fun i wr => ∃ a : Nat, a ≤ N ∧ i = .int .i64 a ∧ Hid (VInv w A1 A2 c1 c2 t N G (maskQ t l j k m a) wr)) (fun i _ => N - (intOf i).toNat)
          case atStart => exact ⟨0, Nat.zero_le _, rfl, HI⟩
          case round =>
            clear HI
            obtain ⟨a, ha, rfl, HI⟩ := hrel
            have hN2 : N ≤ 200000 := by have := HN.out; omega
            by_cases hla : a < N
            · obtain ⟨b', o', ⟨k', m'⟩, eA, hd, q0, q1⟩ := (HL.out.below HI.out.hb).at_ hlt
              cases eA
              obtain ⟨rfl, rfl⟩ : k' = k ∧ m' = m := by
                have h2 : l[j]? = some (k', m') := by
                  have := congrArg (fun l => l[0]?) hd
                  simpa using this
                have := HP.out.symm.trans h2
                simp at this
                exact ⟨this.1.symm, this.2.symm⟩
              clear hd
              simp only at q0 q1
              have b0 := HI.out.b0
              have b1 := HI.out.b1
              have b2 := HI.out.b2
              have hla' : (a : Int) < (N : Int) := by omega
              have HcO : Hid (∀ d os, Calls Tryd.prog 36 #[.agg #[.int .i64 t.n, .slice A1 t.ov.length c1, .slice A2 t.ls.length c2], .agg #[.int .i64 k', .int .i64 m'], .int .i64 a] (grow (redrawn wr d) os) fun e w'' => e = .returned (.bool (partA t k' m' a)) ∧ ∃ p : Regrown, w'' = grow (redrawn wr p.d) p.os) := Lib.hid fun d os =>
                Calls.regrown_of (ref10_Of t A1 A2 c1 c2 k' m' a (grow (redrawn wr d) os) ((HTw.out.below HI.out.hb).re d os) (by omega) (by have := HN.out; omega) hn)
              have HB := Below.refl wr.heap.size wr
              cases hp : partA t k' m' a with
              | true =>
                rw [hp] at HcO
                have HQ := Lib.hid hp
                go_wp2_with fail
                have kq_b0 := cell_regrown b0
                have kq_b1 := cell_regrown b1
                have kq_b2 := cell_regrown b2
                have kq_q0 := cell_regrown q0
                have kq_q1 := cell_regrown q1
                refine wp_region_quiet_below (by kernel_rfl) (by kernel_rfl) ?_
                repeat (go_big_quiet_step (exact HcO.out _ _))
                refine wpQuiet_nil ?_
                intro w2 hb2
                replace hb2 := below_of_regrown hb2
                clear kq_b0 kq_b1 kq_b2 kq_q0 kq_q1
                replace b0 := cell_up hb2 b0
                replace b1 := cell_up hb2 b1
                replace b2 := cell_up hb2 b2
                replace q0 := cell_up hb2 q0
                replace q1 := cell_up hb2 q1
                replace HB := below_next HB hb2
                replace HI := Lib.hid (HI.out.up HB)
                have cm : w2.cell? ⟨G, a, none⟩ = some (.bool (maskQ t l j k' m' a a)) := by rw [Lib.cell_of_heap HI.out.mb]; exact mkB_at _ hla
                have cf : w2.frozen? ⟨G, a, none⟩ = false := Lib.frozen_of_heap HI.out.mb _
                have HI2 := Lib.hid (HI.out.set hwG a)
                rw [maskQ_hit HQ.out] at HI2
                clear hb2 HB b0 b1 b2 q0 q1 HcO hp HI
                go_wp2_with fail
                go_roundw
                case rel => exact ⟨a + 1, by omega, by go_num, HI2⟩
                case measure => simp [intOf]; omega
              | false =>
                rw [hp] at HcO
                have HQ := Lib.hid hp
                go_wp2_with fail
                have kq_b0 := cell_regrown b0
                have kq_b1 := cell_regrown b1
                have kq_b2 := cell_regrown b2
                have kq_q0 := cell_regrown q0
                have kq_q1 := cell_regrown q1
                refine wp_region_quiet_below (by kernel_rfl) (by kernel_rfl) ?_
                repeat (go_big_quiet_step (exact HcO.out _ _))
                refine wpQuiet_nil ?_
                intro w2 hb2
                replace hb2 := below_of_regrown hb2
                clear kq_b0 kq_b1 kq_b2 kq_q0 kq_q1
                replace b0 := cell_up hb2 b0
                replace b1 := cell_up hb2 b1
                replace b2 := cell_up hb2 b2
                replace q0 := cell_up hb2 q0
                replace q1 := cell_up hb2 q1
                replace HB := below_next HB hb2
                replace HI := Lib.hid (HI.out.up HB)
                rw [maskQ_miss HQ.out] at HI
                clear hb2 HB b0 b1 b2 q0 q1 HcO hp
                go_wp2_with fail
                go_roundw
                case rel => exact ⟨a + 1, by omega, by go_num, HI⟩
                case measure => simp [intOf]; omega
            · obtain rfl : a = N := by omega
              have hI2 : VInv w A1 A2 c1 c2 t a G (maskF t l (j + 1)) wr := ⟨HI.out.b0, HI.out.b1, HI.out.b2, by rw [← maskQ_end HP.out]; exact HI.out.mb, HI.out.hb⟩
              have HI2 := Lib.hid hI2
              have HK2 : Hid (∀ p ∈ l.take (j + 1), compOk t p.1 p.2 = true) := Lib.hid (by
                intro p hp
                obtain ⟨hj', he⟩ := List.getElem?_eq_some_iff.1 HP.out
                rw [List.take_succ_eq_append_getElem hj', List.mem_append, List.mem_singleton, he] at hp
                rcases hp with hp | rfl
                · exact HK.out p hp
                · exact HC.out)
              clear HI hI2
              go_wp2_with fail
              go_roundw
              case rel => exact ⟨j + 1, by omega, by go_num, HK2, HI2⟩
              case measure => simp [intOf]; omega
      · obtain rfl : j = l.length := by omega
        go_wp2_with fail
        go_ret2
        have hN := HN.out
        subst hN
        exact retBE_of (unionV_ok HV.out HK.out) HI.out.mb HI.out.hb

set_option maxHeartbeats 1000000 in
theorem ref10_Mask (t : Topo) (A1 A2 : Option Addr) (c1 c2 : Nat) (k m : Int) (w : World) (hT : TAt w A1 A2 t) (hn : t.ls.length ≤ 100000) :
    Calls Tryd.prog 21 #[.agg #[.int .i64 t.n, .slice A1 t.ov.length c1, .slice A2 t.ls.length c2], .agg #[.int .i64 k, .int .i64 m]] w (RetBE w (unionV t [(k, m)])) := by
  have hb0 := below_box w (.cells #[.int .i64 t.n, .slice A1 t.ov.length c1, .slice A2 t.ls.length c2] 25)
  have hb1 := below_box (w.alloc (.cells #[.int .i64 t.n, .slice A1 t.ov.length c1, .slice A2 t.ls.length c2] 25)) (.cells #[.int .i64 k, .int .i64 m] 31)
  have HB := below_next hb0 hb1
  have HT := hT.below HB
  have b0 := cell_up hb1 (box0 w (.int .i64 t.n) (.slice A1 t.ov.length c1) (.slice A2 t.ls.length c2) 25)
  have b1 := cell_up hb1 (box1 w (.int .i64 t.n) (.slice A1 t.ov.length c1) (.slice A2 t.ls.length c2) 25)
  have b2 := cell_up hb1 (box2 w (.int .i64 t.n) (.slice A1 t.ov.length c1) (.slice A2 t.ls.length c2) 25)
  have s0 : ((w.alloc (.cells #[.int .i64 t.n, .slice A1 t.ov.length c1, .slice A2 t.ls.length c2] 25)).alloc (.cells #[.int .i64 k, .int .i64 m] 31)).cell? ⟨w.heap.size + 1, 0, none⟩ = some (.int .i64 k) := by simp
  have s1 : ((w.alloc (.cells #[.int .i64 t.n, .slice A1 t.ov.length c1, .slice A2 t.ls.length c2] 25)).alloc (.cells #[.int .i64 k, .int .i64 m] 31)).cell? ⟨w.heap.size + 1, 1, none⟩ = some (.int .i64 m) := by simp
  clear hb0 hb1 hT
  have HT' := Lib.hid HT
  have HB' := Lib.hid HB
  clear HT HB
  go_enter Tryd.func21, Tryd.ntmps21
  go_wp2_with fail
  refine (ref10_Union t A1 A2 c1 c2 _ 1 [(k, m)] _ (HT'.out.below (below_box _ _)) (rdP_new (by simp)) hn (by simp)).mono ?_
  rintro e w2 ⟨A, c, rfl, hr, hb⟩
  go_wp2_with fail
  go_ret2
  exact ⟨A, c, rfl, hr, below_next (below_next HB'.out (below_box _ _)) hb⟩

end Go.Proofs.YtibennndjfhieaaDoor
