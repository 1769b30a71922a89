/-
  The reference's components: Valid, Of, Union, Mask, Within (printed by gen_rc.py).
-/
import Derived.Test.YtdnjflpmbnjgeaaGreatPkCMask
import Derived.Test.YtdnjflpmbnjgeaaGreatPkRef
namespace Go.Proofs.YtdnjflpmbnjgeaaGreat
section
open Go.RowKit Go.Sort Go.Shelf
set_option maxHeartbeats 1000000 in
theorem ref10_Valid (t : Topo) (A1 A2 : Option Addr) (c1 c2 : Nat) (k m : Int) (w : World) (hT : TAt w A1 A2 t) :
    Calls Tryz.prog 43 #[.agg #[.int .i64 t.n, .slice A1 t.ov.length c1, .slice A2 t.ls.length c2], .agg #[.int .i64 k, .int .i64 m]] w fun e w' => e = .returned (.bool (gZ t k m)) ∧ Below w.heap.size w w' := by
 have hb0 := cQ w (.cells #[.int .i64 t.n, .slice A1 t.ov.length c1, .slice A2 t.ls.length c2] 25)
 have hb1 := cQ (w.alloc (.cells #[.int .i64 t.n, .slice A1 t.ov.length c1, .slice A2 t.ls.length c2] 25)) (.cells #[.int .i64 k, .int .i64 m] 79)
 have HB := bQ hb0 hb1
 have HT := hT.below HB
 have b0 := aQ hb1 (box0 w (.int .i64 t.n) (.slice A1 t.ov.length c1) (.slice A2 t.ls.length c2) 25)
 have b1 := aQ hb1 (box1 w (.int .i64 t.n) (.slice A1 t.ov.length c1) (.slice A2 t.ls.length c2) 25)
 have b2 := aQ hb1 (box2 w (.int .i64 t.n) (.slice A1 t.ov.length c1) (.slice A2 t.ls.length c2) 25)
 have s0 : ((w.alloc (.cells #[.int .i64 t.n, .slice A1 t.ov.length c1, .slice A2 t.ls.length c2] 25)).alloc (.cells #[.int .i64 k, .int .i64 m] 79)).cell? ⟨w.heap.size + 1, 0, none⟩ = some (.int .i64 k) := by simp
 have s1 : ((w.alloc (.cells #[.int .i64 t.n, .slice A1 t.ov.length c1, .slice A2 t.ls.length c2] 25)).alloc (.cells #[.int .i64 k, .int .i64 m] 79)).cell? ⟨w.heap.size + 1, 1, none⟩ = some (.int .i64 m) := by simp
 clear hb0 hb1 hT
 cases hv : valid t with
 | false =>
  have HR : Hid (gZ t k m = false) := hU (by simp [gZ, hv])
  go_enter Tryz.func43, Tryz.ntmps43
  go_wp2_with (go_at_call 73; refine (dZ t _ _ _ _ _ HT.ls).mono ?_; rintro e w1 ⟨rfl, hb⟩; replace HT := HT.below hb; have zU := uU hb b0 (uU hb b1 (uU hb b2 (uU hb s0 (uU hb s1 trivial)))); clear b0 b1 b2 s0 s1; obtain ⟨b0, b1, b2, s0, s1, -⟩ := zU; replace HB := bQ HB hb; clear hb)
  go_ret
  exact ⟨by rw [HR.out]; rfl, HB⟩
 | true =>
  cases h1 : (k == 1) with
  | true =>
   obtain rfl : k = 1 := by simpa using h1
   have HR := hU (compV1 (m := m) hv)
   cases g1 : decide (0 ≤ m) <;> cases g2 : decide (m < (t.ls.length : Int)) <;>
   (go_enter Tryz.func43, Tryz.ntmps43
    go_wp2_with (go_at_call 73; refine (dZ t _ _ _ _ _ HT.ls).mono ?_; rintro e w1 ⟨rfl, hb⟩; replace HT := HT.below hb; have zU := uU hb b0 (uU hb b1 (uU hb b2 (uU hb s0 (uU hb s1 trivial)))); clear b0 b1 b2 s0 s1; obtain ⟨b0, b1, b2, s0, s1, -⟩ := zU; replace HB := bQ HB hb; clear hb)
    first
     | (go_ret; exact ⟨by rw [HR.out, g1, g2]; rfl, HB⟩)
     | (go_quiet (fail); go_wp2_with fail; go_ret; exact ⟨by rw [HR.out, g1, g2]; rfl, rQ HB _⟩))
  | false =>
   cases h2 : (k == 2) with
   | true =>
    obtain rfl : k = 2 := by simpa using h2
    have HR := hU (compV2 (m := m) hv)
    cases g1 : decide (0 ≤ m) <;> cases g2 : decide (m < t.n) <;>
    (go_enter Tryz.func43, Tryz.ntmps43
     go_wp2_with (go_at_call 73; refine (dZ t _ _ _ _ _ HT.ls).mono ?_; rintro e w1 ⟨rfl, hb⟩; replace HT := HT.below hb; have zU := uU hb b0 (uU hb b1 (uU hb b2 (uU hb s0 (uU hb s1 trivial)))); clear b0 b1 b2 s0 s1; obtain ⟨b0, b1, b2, s0, s1, -⟩ := zU; replace HB := bQ HB hb; clear hb)
     first
      | (go_ret; exact ⟨by rw [HR.out, g1, g2]; rfl, HB⟩)
      | (go_quiet (fail); go_wp2_with fail; go_ret; exact ⟨by rw [HR.out, g1, g2]; rfl, rQ HB _⟩))
   | false =>
    cases h3 : (k == 3) with
    | true =>
     obtain rfl : k = 3 := by simpa using h3
     have HR := hU (compV3 (m := m) hv)
     cases g1 : decide (1 ≤ m) <;> cases g2 : decide (m ≤ 64) <;>
     (go_enter Tryz.func43, Tryz.ntmps43
      go_wp2_with (go_at_call 73; refine (dZ t _ _ _ _ _ HT.ls).mono ?_; rintro e w1 ⟨rfl, hb⟩; replace HT := HT.below hb; have zU := uU hb b0 (uU hb b1 (uU hb b2 (uU hb s0 (uU hb s1 trivial)))); clear b0 b1 b2 s0 s1; obtain ⟨b0, b1, b2, s0, s1, -⟩ := zU; replace HB := bQ HB hb; clear hb)
      first
       | (go_ret; exact ⟨by rw [HR.out, g1, g2]; rfl, HB⟩)
       | (go_quiet (fail); go_wp2_with fail; go_ret; exact ⟨by rw [HR.out, g1, g2]; rfl, rQ HB _⟩))
    | false =>
     have HR : Hid (gZ t k m = false) := hU (by rw [gZ, hv, compOk0 h1 h2 h3]; rfl)
     go_enter Tryz.func43, Tryz.ntmps43
     go_wp2_with (go_at_call 73; refine (dZ t _ _ _ _ _ HT.ls).mono ?_; rintro e w1 ⟨rfl, hb⟩; replace HT := HT.below hb; have zU := uU hb b0 (uU hb b1 (uU hb b2 (uU hb s0 (uU hb s1 trivial)))); clear b0 b1 b2 s0 s1; obtain ⟨b0, b1, b2, s0, s1, -⟩ := zU; replace HB := bQ HB hb; clear hb)
     go_ret
     exact ⟨by rw [HR.out]; rfl, HB⟩
set_option maxRecDepth 100000 in
set_option maxHeartbeats 1000000 in
theorem ref10_Of (t : Topo) (A1 A2 : Option Addr) (c1 c2 : Nat) (k m a : Int) (w : World) (hT : TAt w A1 A2 t) (h0 : 0 ≤ a) (h1 : a < 2 * (t.ls.length : Int)) (hn : t.ls.length ≤ 100000) :
    Calls Tryz.prog 107 #[.agg #[.int .i64 t.n, .slice A1 t.ov.length c1, .slice A2 t.ls.length c2], .agg #[.int .i64 k, .int .i64 m], .int .i64 a] w fun e w' => e = .returned (.bool (partA t k m a)) ∧ Below w.heap.size w w' := by
 have hb0 := cQ w (.cells #[.int .i64 t.n, .slice A1 t.ov.length c1, .slice A2 t.ls.length c2] 25)
 have hb1 := cQ (w.alloc (.cells #[.int .i64 t.n, .slice A1 t.ov.length c1, .slice A2 t.ls.length c2] 25)) (.cells #[.int .i64 k, .int .i64 m] 79)
 have HB := bQ hb0 hb1
 have HT := hT.below HB
 have b0 := aQ hb1 (box0 w (.int .i64 t.n) (.slice A1 t.ov.length c1) (.slice A2 t.ls.length c2) 25)
 have b1 := aQ hb1 (box1 w (.int .i64 t.n) (.slice A1 t.ov.length c1) (.slice A2 t.ls.length c2) 25)
 have b2 := aQ hb1 (box2 w (.int .i64 t.n) (.slice A1 t.ov.length c1) (.slice A2 t.ls.length c2) 25)
 have s0 : ((w.alloc (.cells #[.int .i64 t.n, .slice A1 t.ov.length c1, .slice A2 t.ls.length c2] 25)).alloc (.cells #[.int .i64 k, .int .i64 m] 79)).cell? ⟨w.heap.size + 1, 0, none⟩ = some (.int .i64 k) := by simp
 have s1 : ((w.alloc (.cells #[.int .i64 t.n, .slice A1 t.ov.length c1, .slice A2 t.ls.length c2] 25)).alloc (.cells #[.int .i64 k, .int .i64 m] 79)).cell? ⟨w.heap.size + 1, 1, none⟩ = some (.int .i64 m) := by simp
 clear hb0 hb1 hT
 obtain ⟨b, o, rfl, hc⟩ := HT.ls.arc h0 h1
 have q0 := hc.q0
 have q1 := hc.q1
 have q2 := hc.q2
 have q3 := hc.q3
 have q4 := hc.q4
 have q5 := hc.q5
 have q6 := hc.q6
 have h2 : a / 2 < (t.ls.length : Int) := by omega
 have h3 : (0 : Int) ≤ a / 2 := by omega
 have HBB := hU (bQ HB (cQ _ (.cells #[.int .i64 (lnk t a).a, .int .i64 (lnk t a).b, .int .i64 (lnk t a).c0, .int .i64 (lnk t a).c1, .int .i64 (lnk t a).cap, .int .i64 (lnk t a).dl, .int .i64 (lnk t a).g] 41)))
 clear HT hc HB
 cases e1 : (k == 1) with
 | true =>
  obtain rfl : k = 1 := by simpa using e1
  have HR := hU (partA1 (t := t) (m := m) (a := a))
  clear e1
  go_enter Tryz.func107, Tryz.ntmps107
  go_wp2_with fail
  go_ret
  exact ⟨by rw [HR.out]; rfl, HBB.out⟩
 | false =>
  cases e2 : (k == 2) with
  | true =>
   obtain rfl : k = 2 := by simpa using e2
   have HR := hU (partA2 (t := t) (m := m) (a := a))
   clear e1 e2
   cases g1 : ((lnk t a).a == m) <;> cases g2 : ((lnk t a).b == m) <;>
   (go_enter Tryz.func107, Tryz.ntmps107
    go_wp2_with fail
    first
     | (go_ret; exact ⟨by rw [HR.out, g1, g2]; rfl, HBB.out⟩)
     | (go_quiet (fail); go_wp2_with fail; go_ret; exact ⟨by rw [HR.out, g1, g2]; rfl, rQ HBB.out _⟩))
  | false =>
   have HR := hU (partA3 (t := t) (m := m) (a := a) e1 e2)
   go_enter Tryz.func107, Tryz.ntmps107
   go_wp2_with fail
   first
    | (go_ret; exact ⟨by rw [HR.out]; rfl, HBB.out⟩)
    | (go_quiet (fail); go_wp2_with fail; go_ret; exact ⟨by rw [HR.out]; rfl, rQ HBB.out _⟩)
/-- The state of waypointref10.Union: the marks f. -/
structure VInv (w : World) (A1 A2 : Option Addr) (c1 c2 : Nat) (t : Topo) (N G : Nat) (f : Nat → Bool) (wr : World) : Prop where
 b0 : wr.cell? ⟨w.heap.size, 0, none⟩ = some (.int .i64 t.n)
 b1 : wr.cell? ⟨w.heap.size, 1, none⟩ = some (.slice A1 t.ov.length c1)
 b2 : wr.cell? ⟨w.heap.size, 2, none⟩ = some (.slice A2 t.ls.length c2)
 mb : wr.heap[G]? = some (.cells (mkB N f) 4 (0, 0))
 hb : Below w.heap.size w wr
theorem VInv.up {w : World} {A1 A2 : Option Addr} {c1 c2 : Nat} {t : Topo} {N G : Nat} {f : Nat → Bool} {wr w' : World} (h : VInv w A1 A2 c1 c2 t N G f wr) (hb : Below wr.heap.size wr w') : VInv w A1 A2 c1 c2 t N G f w' :=
 ⟨aQ hb h.b0, aQ hb h.b1, aQ hb h.b2, (hb.block G (kZ h.mb)).trans h.mb, bQ h.hb hb⟩
theorem VInv.set {w : World} {A1 A2 : Option Addr} {c1 c2 : Nat} {t : Topo} {N G : Nat} {f : Nat → Bool} {wr : World} (h : VInv w A1 A2 c1 c2 t N G f wr) (hG : w.heap.size < G) (a : Nat) : VInv w A1 A2 c1 c2 t N G (fun x => f x || x == a) (wr.setCell ⟨G, a, none⟩ (.bool true)) := by
 have hne : ∀ o, (wr.setCell ⟨G, a, none⟩ (.bool true)).cell? ⟨w.heap.size, o, none⟩ = wr.cell? ⟨w.heap.size, o, none⟩ := fun o => World.cell?_setCell_other _ _ _ _ (fun e => by cases e; omega)
 exact ⟨(hne 0).trans h.b0, (hne 1).trans h.b1, (hne 2).trans h.b2, by rw [← mkB_set]; exact heap_setCell_same _ _ _ _ _ _ h.mb, h.hb.setCell (by show w.heap.size ≤ G; omega) _⟩
/-- The marks in the middle of a component, arc by arc. -/
def maskQ (t : Topo) (l : List (Int × Int)) (j : Nat) (k m : Int) (a : Nat) (x : Nat) : Bool := maskF t l j x || (decide (x < a) && partA t k m (x : Int))
theorem maskQ_hit {t : Topo} {l : List (Int × Int)} {j : Nat} {k m : Int} {a : Nat} (h : partA t k m (a : Int) = true) : (fun x => maskQ t l j k m a x || x == a) = maskQ t l j k m (a + 1) := by
 funext x
 unfold maskQ
 by_cases e : x = a
 ·subst e
  simp [h]
 ·have e1 : (x == a) = false := by simp [e]
  have e2 : decide (x < a + 1) = decide (x < a) := by rw [decide_eq_decide]; omega
  rw [e1, e2, Bool.or_false]
theorem maskQ_miss {t : Topo} {l : List (Int × Int)} {j : Nat} {k m : Int} {a : Nat} (h : partA t k m (a : Int) = false) : maskQ t l j k m a = maskQ t l j k m (a + 1) := by
 funext x
 unfold maskQ
 by_cases e : x = a
 ·subst e
  simp [h]
 ·have e2 : decide (x < a + 1) = decide (x < a) := by rw [decide_eq_decide]; omega
  rw [e2]
theorem maskQ_start {t : Topo} {l : List (Int × Int)} {j : Nat} {k m : Int} : maskF t l j = maskQ t l j k m 0 := by
 funext x
 simp [maskQ]
theorem maskQ_end {t : Topo} {l : List (Int × Int)} {j : Nat} {k m : Int} {N : Nat} (hp : l[j]? = some (k, m)) : mkB N (maskQ t l j k m N) = mkB N (maskF t l (j + 1)) := by
 apply mkB_congr
 intro a ha
 obtain ⟨hj, e⟩ := List.getElem?_eq_some_iff.1 hp
 unfold maskQ maskF
 rw [List.take_succ_eq_append_getElem hj, List.any_append, e]
 simp [ha]
set_option maxRecDepth 100000 in
set_option maxHeartbeats 4000000 in
theorem ref10_Union (t : Topo) (A1 A2 : Option Addr) (c1 c2 : Nat) (A : Option Addr) (c : Nat) (l : List (Int × Int)) (w : World) (hT : TAt w A1 A2 t) (hl : RdP w A l) (hn : t.ls.length ≤ 100000) (hll : l.length ≤ 100000) :
    Calls Tryz.prog 81 #[.agg #[.int .i64 t.n, .slice A1 t.ov.length c1, .slice A2 t.ls.length c2], .slice A l.length c] w (RetBE w (unionV t l)) := by
 have HTw := hU hT
 have HL := hU hl
 clear hl
 have hb0 := cQ w (.cells #[.int .i64 t.n, .slice A1 t.ov.length c1, .slice A2 t.ls.length c2] 25)
 have HT := hT.below hb0
 have HB := hb0
 have b0 := box0 w (.int .i64 t.n) (.slice A1 t.ov.length c1) (.slice A2 t.ls.length c2) 25
 have b1 := box1 w (.int .i64 t.n) (.slice A1 t.ov.length c1) (.slice A2 t.ls.length c2) 25
 have b2 := box2 w (.int .i64 t.n) (.slice A1 t.ov.length c1) (.slice A2 t.ls.length c2) 25
 clear hb0 hT
 cases hv : valid t with
 | false =>
  have HR : Hid (unionV t l = ([], 1)) := hU (by simp [unionV, hv])
  go_enter Tryz.func81, Tryz.ntmps81
  go_wp2_with (go_at_call 73; refine (dZ t _ _ _ _ _ HT.ls).mono ?_; rintro e w1 ⟨rfl, hb⟩; replace HT := HT.below hb; have zU := uU hb b0 (uU hb b1 (uU hb b2 trivial)); clear b0 b1 b2; obtain ⟨b0, b1, b2, -⟩ := zU; replace HB := bQ HB hb; clear hb)
  go_ret2
  exact retBE_nil HR.out HB
 | true =>
  have HV := hU hv
  have hmk := run_makeB t.ls.length (by omega)
  obtain ⟨N, hN⟩ : ∃ N : Nat, N = 2 * t.ls.length := ⟨_, rfl⟩
  rw [← hN] at hmk
  have HN := hU hN
  clear hN
  go_enter Tryz.func81, Tryz.ntmps81
  go_wp2_with (go_at_call 73; refine (dZ t _ _ _ _ _ HT.ls).mono ?_; rintro e w1 ⟨rfl, hb⟩; replace HT := HT.below hb; have zU := uU hb b0 (uU hb b1 (uU hb b2 trivial)); clear b0 b1 b2; obtain ⟨b0, b1, b2, -⟩ := zU; replace HB := bQ HB hb; clear hb)
  have hwG : w.heap.size < w1.heap.size := block_lt_of_cell b0
  have HI : Hid (VInv w A1 A2 c1 c2 t N w1.heap.size (maskF t l 0) (w1.alloc (.cells (mkB N fun _ => false) 4))) := hU ⟨aQ (cQ _ _) b0, aQ (cQ _ _) b1, aQ (cQ _ _) b2, heap_alloc_new _ _, bQ HB (cQ _ _)⟩
  obtain ⟨G, hG⟩ : ∃ G, G = w1.heap.size := ⟨_, rfl⟩
  rw [← hG] at HI hwG ⊢
  clear b0 b1 b2 HT HB hmk hv hG
  go_loopw [7] (fun i wr => ∃ j : Nat, j ≤ l.length ∧ i = .int .i64 j ∧ Hid (∀ p ∈ l.take j, compOk t p.1 p.2 = true) ∧ Hid (VInv w A1 A2 c1 c2 t N G (maskF t l j) wr)) (fun i _ => l.length - (intOf i).toNat)
  case atStart => exact ⟨0, Nat.zero_le _, rfl, hU (fun p hp => by simp at hp), HI⟩
  case round =>
   clear HI
   obtain ⟨j, hj, rfl, HK, HI⟩ := hrel
   by_cases hlt : j < l.length
   ·obtain ⟨b, o, ⟨k, m⟩, rfl, hd, q0, q1⟩ := (HL.out.below HI.out.hb).at_ hlt
    have HP : Hid (l[j]? = some (k, m)) := hU (by
     have := congrArg (fun l => l[0]?) hd
     simpa using this)
    clear hd
    simp only at q0 q1
    have b0 := HI.out.b0
    have b1 := HI.out.b1
    have b2 := HI.out.b2
    have hlt' : (j : Int) < (l.length : Int) := by omega
    have cV : ∀ d os, Calls Tryz.prog 43 #[.agg #[.int .i64 t.n, .slice A1 t.ov.length c1, .slice A2 t.ls.length c2], .agg #[.int .i64 k, .int .i64 m]] (grow (redrawn wr d) os) fun e w'' => e = .returned (.bool (compOk t k m)) ∧ ∃ p : Regrown, w'' = grow (redrawn wr p.d) p.os := fun d os => by
     have h := ref10_Valid t A1 A2 c1 c2 k m (grow (redrawn wr d) os) ((HTw.out.below HI.out.hb).re d os)
     rw [show gZ t k m = compOk t k m by simp [gZ, HV.out]] at h
     exact Calls.regrown_of h
    have HcV := hU cV
    have HB := Below.refl wr.heap.size wr
    clear cV
    cases hc : compOk t k m with
    | false =>
     rw [hc] at HcV
     have HR : Hid (unionV t l = ([], 1)) := hU (unionV_bad (List.mem_of_getElem? HP.out) hc)
     go_wp2_with fail
     obtain ⟨P1, P2, P3, P4, P5, -⟩ := kU b0 (kU b1 (kU b2 (kU q0 (kU q1 trivial))))
     refine wp_region_quiet_below (by kernel_rfl) (by kernel_rfl) ?_
     repeat (go_big_quiet_step (exact HcV.out _ _))
     refine wpQuiet_nil ?_
     intro w2 hb2
     replace hb2 := eQ hb2
     clear P1 P2 P3 P4 P5
     have zU := uU hb2 b0 (uU hb2 b1 (uU hb2 b2 (uU hb2 q0 (uU hb2 q1 trivial)))); clear b0 b1 b2 q0 q1; obtain ⟨b0, b1, b2, q0, q1, -⟩ := zU
     replace HB := bQ HB hb2
     go_wp2_with fail
     go_ret2
     exact retBE_nil HR.out (bQ HI.out.hb HB)
    | true =>
     rw [hc] at HcV
     have HC := hU hc
     go_wp2_with fail
     obtain ⟨P1, P2, P3, P4, P5, -⟩ := kU b0 (kU b1 (kU b2 (kU q0 (kU q1 trivial))))
     refine wp_region_quiet_below (by kernel_rfl) (by kernel_rfl) ?_
     repeat (go_big_quiet_step (exact HcV.out _ _))
     refine wpQuiet_nil ?_
     intro w2 hb2
     replace hb2 := eQ hb2
     clear P1 P2 P3 P4 P5
     have zU := uU hb2 b0 (uU hb2 b1 (uU hb2 b2 (uU hb2 q0 (uU hb2 q1 trivial)))); clear b0 b1 b2 q0 q1; obtain ⟨b0, b1, b2, q0, q1, -⟩ := zU
     replace HB := bQ HB hb2
     replace HI := hU (HI.out.up HB)
     clear hb2 HB b0 b1 b2 q0 q1 HcV hc
     rw [maskQ_start (k := k) (m := m)] at HI
     go_wp2_with fail
     go_loopw [8] (fun i wr => ∃ a : Nat, a ≤ N ∧ i = .int .i64 a ∧ Hid (VInv w A1 A2 c1 c2 t N G (maskQ t l j k m a) wr)) (fun i _ => N - (intOf i).toNat)
     case atStart => exact ⟨0, Nat.zero_le _, rfl, HI⟩
     case round =>
      clear HI
      obtain ⟨a, ha, rfl, HI⟩ := hrel
      have hN2 : N ≤ 200000 := by have := HN.out; omega
      by_cases hla : a < N
      ·obtain ⟨b', o', ⟨k', m'⟩, eA, hd, q0, q1⟩ := (HL.out.below HI.out.hb).at_ hlt
       cases eA
       obtain ⟨rfl, rfl⟩ : k' = k ∧ m' = m := by
        have h2 : l[j]? = some (k', m') := by
         have := congrArg (fun l => l[0]?) hd
         simpa using this
        have := HP.out.symm.trans h2
        simp at this
        exact ⟨this.1.symm, this.2.symm⟩
       clear hd
       simp only at q0 q1
       have b0 := HI.out.b0
       have b1 := HI.out.b1
       have b2 := HI.out.b2
       have hla' : (a : Int) < (N : Int) := by omega
       have HcO : Hid (∀ d os, Calls Tryz.prog 107 #[.agg #[.int .i64 t.n, .slice A1 t.ov.length c1, .slice A2 t.ls.length c2], .agg #[.int .i64 k', .int .i64 m'], .int .i64 a] (grow (redrawn wr d) os) fun e w'' => e = .returned (.bool (partA t k' m' a)) ∧ ∃ p : Regrown, w'' = grow (redrawn wr p.d) p.os) := hU fun d os =>
        Calls.regrown_of (ref10_Of t A1 A2 c1 c2 k' m' a (grow (redrawn wr d) os) ((HTw.out.below HI.out.hb).re d os) (by omega) (by have := HN.out; omega) hn)
       have HB := Below.refl wr.heap.size wr
       cases hp : partA t k' m' a with
       | true =>
        rw [hp] at HcO
        have HQ := hU hp
        go_wp2_with fail
        obtain ⟨P1, P2, P3, P4, P5, -⟩ := kU b0 (kU b1 (kU b2 (kU q0 (kU q1 trivial))))
        refine wp_region_quiet_below (by kernel_rfl) (by kernel_rfl) ?_
        repeat (go_big_quiet_step (exact HcO.out _ _))
        refine wpQuiet_nil ?_
        intro w2 hb2
        replace hb2 := eQ hb2
        clear P1 P2 P3 P4 P5
        have zU := uU hb2 b0 (uU hb2 b1 (uU hb2 b2 (uU hb2 q0 (uU hb2 q1 trivial)))); clear b0 b1 b2 q0 q1; obtain ⟨b0, b1, b2, q0, q1, -⟩ := zU
        replace HB := bQ HB hb2
        replace HI := hU (HI.out.up HB)
        have cm : w2.cell? ⟨G, a, none⟩ = some (.bool (maskQ t l j k' m' a a)) := by rw [Lib.cell_of_heap HI.out.mb]; exact mkB_at _ hla
        have cf : w2.frozen? ⟨G, a, none⟩ = false := Lib.frozen_of_heap HI.out.mb _
        have HI2 := hU (HI.out.set hwG a)
        rw [maskQ_hit HQ.out] at HI2
        clear hb2 HB b0 b1 b2 q0 q1 HcO hp HI
        go_wp2_with fail
        go_roundw
        case rel => exact ⟨a + 1, by omega, by go_num, HI2⟩
        case measure => simp [intOf]; omega
       | false =>
        rw [hp] at HcO
        have HQ := hU hp
        go_wp2_with fail
        obtain ⟨P1, P2, P3, P4, P5, -⟩ := kU b0 (kU b1 (kU b2 (kU q0 (kU q1 trivial))))
        refine wp_region_quiet_below (by kernel_rfl) (by kernel_rfl) ?_
        repeat (go_big_quiet_step (exact HcO.out _ _))
        refine wpQuiet_nil ?_
        intro w2 hb2
        replace hb2 := eQ hb2
        clear P1 P2 P3 P4 P5
        have zU := uU hb2 b0 (uU hb2 b1 (uU hb2 b2 (uU hb2 q0 (uU hb2 q1 trivial)))); clear b0 b1 b2 q0 q1; obtain ⟨b0, b1, b2, q0, q1, -⟩ := zU
        replace HB := bQ HB hb2
        replace HI := hU (HI.out.up HB)
        rw [maskQ_miss HQ.out] at HI
        clear hb2 HB b0 b1 b2 q0 q1 HcO hp
        go_wp2_with fail
        go_roundw
        case rel => exact ⟨a + 1, by omega, by go_num, HI⟩
        case measure => simp [intOf]; omega
      ·obtain rfl : a = N := by omega
       have hI2 : VInv w A1 A2 c1 c2 t a G (maskF t l (j + 1)) wr := ⟨HI.out.b0, HI.out.b1, HI.out.b2, by rw [← maskQ_end HP.out]; exact HI.out.mb, HI.out.hb⟩
       have HI2 := hU hI2
       have HK2 : Hid (∀ p ∈ l.take (j + 1), compOk t p.1 p.2 = true) := hU (by
        intro p hp
        obtain ⟨hj', he⟩ := List.getElem?_eq_some_iff.1 HP.out
        rw [List.take_succ_eq_append_getElem hj', List.mem_append, List.mem_singleton, he] at hp
        rcases hp with hp | rfl
        ·exact HK.out p hp
        ·exact HC.out)
       clear HI hI2
       go_wp2_with fail
       go_roundw
       case rel => exact ⟨j + 1, by omega, by go_num, HK2, HI2⟩
       case measure => simp [intOf]; omega
   ·obtain rfl : j = l.length := by omega
    go_wp2_with fail
    go_ret2
    have hN := HN.out
    subst hN
    exact retBE_of (unionV_ok HV.out HK.out) HI.out.mb HI.out.hb (Nat.le_of_lt hwG)
set_option maxHeartbeats 1000000 in
theorem ref10_Mask (t : Topo) (A1 A2 : Option Addr) (c1 c2 : Nat) (k m : Int) (w : World) (hT : TAt w A1 A2 t) (hn : t.ls.length ≤ 100000) :
    Calls Tryz.prog 48 #[.agg #[.int .i64 t.n, .slice A1 t.ov.length c1, .slice A2 t.ls.length c2], .agg #[.int .i64 k, .int .i64 m]] w (RetBE w (unionV t [(k, m)])) := by
 have hb0 := cQ w (.cells #[.int .i64 t.n, .slice A1 t.ov.length c1, .slice A2 t.ls.length c2] 25)
 have hb1 := cQ (w.alloc (.cells #[.int .i64 t.n, .slice A1 t.ov.length c1, .slice A2 t.ls.length c2] 25)) (.cells #[.int .i64 k, .int .i64 m] 79)
 have HB := bQ hb0 hb1
 have HT := hT.below HB
 have b0 := aQ hb1 (box0 w (.int .i64 t.n) (.slice A1 t.ov.length c1) (.slice A2 t.ls.length c2) 25)
 have b1 := aQ hb1 (box1 w (.int .i64 t.n) (.slice A1 t.ov.length c1) (.slice A2 t.ls.length c2) 25)
 have b2 := aQ hb1 (box2 w (.int .i64 t.n) (.slice A1 t.ov.length c1) (.slice A2 t.ls.length c2) 25)
 have s0 : ((w.alloc (.cells #[.int .i64 t.n, .slice A1 t.ov.length c1, .slice A2 t.ls.length c2] 25)).alloc (.cells #[.int .i64 k, .int .i64 m] 79)).cell? ⟨w.heap.size + 1, 0, none⟩ = some (.int .i64 k) := by simp
 have s1 : ((w.alloc (.cells #[.int .i64 t.n, .slice A1 t.ov.length c1, .slice A2 t.ls.length c2] 25)).alloc (.cells #[.int .i64 k, .int .i64 m] 79)).cell? ⟨w.heap.size + 1, 1, none⟩ = some (.int .i64 m) := by simp
 clear hb0 hb1 hT
 have HT' := hU HT
 have HB' := hU HB
 clear HT HB
 go_enter Tryz.func48, Tryz.ntmps48
 go_wp2_with fail
 refine (ref10_Union t A1 A2 c1 c2 _ 1 [(k, m)] _ (HT'.out.below (cQ _ _)) (rdP_new (by simp)) hn (by simp)).mono ?_
 rintro e w2 ⟨A, c, rfl, hr, hb, hf⟩
 go_wp2_with fail
 go_ret2
 exact ⟨A, c, rfl, hr, bQ (bQ HB'.out (cQ _ _)) hb, fun p hp => Nat.le_trans (bQ HB'.out (cQ _ _)).size (hf p hp)⟩
/-- The boxes of waypointref10.Within. -/
structure RBox (w : World) (A1 A2 : Option Addr) (c1 c2 : Nat) (t : Topo) (k m k2 m2 : Int) (wr : World) : Prop where
 b0 : wr.cell? ⟨w.heap.size, 0, none⟩ = some (.int .i64 t.n)
 b1 : wr.cell? ⟨w.heap.size, 1, none⟩ = some (.slice A1 t.ov.length c1)
 b2 : wr.cell? ⟨w.heap.size, 2, none⟩ = some (.slice A2 t.ls.length c2)
 s0 : wr.cell? ⟨w.heap.size + 1, 0, none⟩ = some (.int .i64 k)
 s1 : wr.cell? ⟨w.heap.size + 1, 1, none⟩ = some (.int .i64 m)
 r0 : wr.cell? ⟨w.heap.size + 1 + 1, 0, none⟩ = some (.int .i64 k2)
 r1 : wr.cell? ⟨w.heap.size + 1 + 1, 1, none⟩ = some (.int .i64 m2)
 hb : Below w.heap.size w wr
theorem RBox.up {w : World} {A1 A2 : Option Addr} {c1 c2 : Nat} {t : Topo} {k m k2 m2 : Int} {wr w' : World} (h : RBox w A1 A2 c1 c2 t k m k2 m2 wr) (hb : Below wr.heap.size wr w') : RBox w A1 A2 c1 c2 t k m k2 m2 w' :=
 ⟨aQ hb h.b0, aQ hb h.b1, aQ hb h.b2, aQ hb h.s0, aQ hb h.s1, aQ hb h.r0, aQ hb h.r1, bQ h.hb hb⟩
theorem RBox.start (w : World) (A1 A2 : Option Addr) (c1 c2 : Nat) (t : Topo) (k m k2 m2 : Int) : RBox w A1 A2 c1 c2 t k m k2 m2 (((w.alloc (.cells #[.int .i64 t.n, .slice A1 t.ov.length c1, .slice A2 t.ls.length c2] 25)).alloc (.cells #[.int .i64 k, .int .i64 m] 79)).alloc (.cells #[.int .i64 k2, .int .i64 m2] 79)) := by
 have u1 : Below (w.alloc (.cells #[.int .i64 t.n, .slice A1 t.ov.length c1, .slice A2 t.ls.length c2] 25)).heap.size (w.alloc (.cells #[.int .i64 t.n, .slice A1 t.ov.length c1, .slice A2 t.ls.length c2] 25)) (((w.alloc (.cells #[.int .i64 t.n, .slice A1 t.ov.length c1, .slice A2 t.ls.length c2] 25)).alloc (.cells #[.int .i64 k, .int .i64 m] 79)).alloc (.cells #[.int .i64 k2, .int .i64 m2] 79)) := (cQ _ _).alloc (by simp) _
 have u2 : Below ((w.alloc (.cells #[.int .i64 t.n, .slice A1 t.ov.length c1, .slice A2 t.ls.length c2] 25)).alloc (.cells #[.int .i64 k, .int .i64 m] 79)).heap.size ((w.alloc (.cells #[.int .i64 t.n, .slice A1 t.ov.length c1, .slice A2 t.ls.length c2] 25)).alloc (.cells #[.int .i64 k, .int .i64 m] 79)) (((w.alloc (.cells #[.int .i64 t.n, .slice A1 t.ov.length c1, .slice A2 t.ls.length c2] 25)).alloc (.cells #[.int .i64 k, .int .i64 m] 79)).alloc (.cells #[.int .i64 k2, .int .i64 m2] 79)) := cQ _ _
 have e1 : ((w.alloc (.cells #[.int .i64 t.n, .slice A1 t.ov.length c1, .slice A2 t.ls.length c2] 25)).alloc (.cells #[.int .i64 k, .int .i64 m] 79)).cell? ⟨w.heap.size + 1, 0, none⟩ = some (.int .i64 k) := by simp
 have e2 : ((w.alloc (.cells #[.int .i64 t.n, .slice A1 t.ov.length c1, .slice A2 t.ls.length c2] 25)).alloc (.cells #[.int .i64 k, .int .i64 m] 79)).cell? ⟨w.heap.size + 1, 1, none⟩ = some (.int .i64 m) := by simp
 have e3 : (((w.alloc (.cells #[.int .i64 t.n, .slice A1 t.ov.length c1, .slice A2 t.ls.length c2] 25)).alloc (.cells #[.int .i64 k, .int .i64 m] 79)).alloc (.cells #[.int .i64 k2, .int .i64 m2] 79)).cell? ⟨w.heap.size + 1 + 1, 0, none⟩ = some (.int .i64 k2) := new0 _ _ _ _ (by simp)
 have e4 : (((w.alloc (.cells #[.int .i64 t.n, .slice A1 t.ov.length c1, .slice A2 t.ls.length c2] 25)).alloc (.cells #[.int .i64 k, .int .i64 m] 79)).alloc (.cells #[.int .i64 k2, .int .i64 m2] 79)).cell? ⟨w.heap.size + 1 + 1, 1, none⟩ = some (.int .i64 m2) := new1 _ _ _ _ (by simp)
 exact ⟨aQ u1 (box0 ..), aQ u1 (box1 ..), aQ u1 (box2 ..), aQ u2 e1, aQ u2 e2, e3, e4, ((cQ w _).alloc (by simp) _).alloc (by simp; omega) _⟩
theorem withA_yes {t : Topo} {k m k2 m2 : Int} (h : ∀ a, a < 2 * t.ls.length → partA t k m (a : Int) = true → partA t k2 m2 (a : Int) = true) : withP t k m k2 m2 t.ls.length = true := by
 rw [withP_true]
 intro j hj hp
 have e : ((2 * j : Nat) : Int) / 2 = (j : Int) := by omega
 have := h (2 * j) (by omega) (by unfold partA; rw [e]; exact hp)
 unfold partA at this
 rwa [e] at this
theorem withA_no {t : Topo} {k m k2 m2 : Int} {a : Nat} (ha : a < 2 * t.ls.length) (h1 : partA t k m (a : Int) = true) (h2 : partA t k2 m2 (a : Int) = false) : withP t k m k2 m2 t.ls.length = false := by
 rw [← Bool.not_eq_true, withP_true]
 intro hh
 unfold partA at h1 h2
 have e : ((a / 2 : Nat) : Int) = (a : Int) / 2 := by omega
 have := hh (a / 2) (by omega) (by rw [e]; exact h1)
 rw [e, h2] at this
 cases this
set_option maxRecDepth 100000 in
set_option maxHeartbeats 4000000 in
theorem ref10_Within (t : Topo) (A1 A2 : Option Addr) (c1 c2 : Nat) (k m k2 m2 : Int) (w : World) (hT : TAt w A1 A2 t) (hn : t.ls.length ≤ 100000) :
    Calls Tryz.prog 78 #[.agg #[.int .i64 t.n, .slice A1 t.ov.length c1, .slice A2 t.ls.length c2], .agg #[.int .i64 k, .int .i64 m], .agg #[.int .i64 k2, .int .i64 m2]] w fun e w' => e = .returned (.bool (yQ t k m k2 m2)) ∧ Below w.heap.size w w' := by
 have HTw := hU hT
 clear hT
 have H4 := hU (RBox.start w A1 A2 c1 c2 t k m k2 m2)
 have b0 := H4.out.b0
 have b1 := H4.out.b1
 have b2 := H4.out.b2
 have s0 := H4.out.s0
 have s1 := H4.out.s1
 have r0 := H4.out.r0
 have r1 := H4.out.r1
 cases hv : gZ t k m with
 | false =>
  have HR : Hid (yQ t k m k2 m2 = false) := hU (by simp [yQ, hv])
  go_enter Tryz.func78, Tryz.ntmps78
  go_wp2_with (go_at_call 43; refine (ref10_Valid t _ _ _ _ _ _ _ (HTw.out.below H4.out.hb)).mono ?_; rintro e w1 ⟨rfl, hb⟩; replace H4 := hU (H4.out.up hb); clear hb b0 b1 b2 s0 s1 r0 r1; have b0 := H4.out.b0; have b1 := H4.out.b1; have b2 := H4.out.b2; have s0 := H4.out.s0; have s1 := H4.out.s1; have r0 := H4.out.r0; have r1 := H4.out.r1)
  go_ret
  exact ⟨by rw [HR.out]; rfl, H4.out.hb⟩
 | true =>
  cases hc : gZ t k2 m2 with
  | false =>
   have HR : Hid (yQ t k m k2 m2 = false) := hU (by simp [yQ, hc])
   go_enter Tryz.func78, Tryz.ntmps78
   go_wp2_with (go_at_call 43; refine (ref10_Valid t _ _ _ _ _ _ _ (HTw.out.below H4.out.hb)).mono ?_; rintro e w1 ⟨rfl, hb⟩; replace H4 := hU (H4.out.up hb); clear hb b0 b1 b2 s0 s1 r0 r1; have b0 := H4.out.b0; have b1 := H4.out.b1; have b2 := H4.out.b2; have s0 := H4.out.s0; have s1 := H4.out.s1; have r0 := H4.out.r0; have r1 := H4.out.r1)
   go_ret
   exact ⟨by rw [HR.out]; rfl, H4.out.hb⟩
  | true =>
   have HR : Hid (yQ t k m k2 m2 = withP t k m k2 m2 t.ls.length) := hU (by simp [yQ, hv, hc])
   go_enter Tryz.func78, Tryz.ntmps78
   go_wp2_with (go_at_call 43; refine (ref10_Valid t _ _ _ _ _ _ _ (HTw.out.below H4.out.hb)).mono ?_; rintro e w1 ⟨rfl, hb⟩; replace H4 := hU (H4.out.up hb); clear hb b0 b1 b2 s0 s1 r0 r1; have b0 := H4.out.b0; have b1 := H4.out.b1; have b2 := H4.out.b2; have s0 := H4.out.s0; have s1 := H4.out.s1; have r0 := H4.out.r0; have r1 := H4.out.r1)
   clear b0 b1 b2 s0 s1 r0 r1 hv hc
   go_loopw [7] (fun i wr => ∃ a : Nat, a ≤ 2 * t.ls.length ∧ i = .int .i64 a ∧ Hid (∀ x, x < a → partA t k m (x : Int) = true → partA t k2 m2 (x : Int) = true) ∧ Hid (RBox w A1 A2 c1 c2 t k m k2 m2 wr)) (fun i _ => 2 * t.ls.length - (intOf i).toNat)
   case atStart => exact ⟨0, Nat.zero_le _, rfl, hU (fun x hx => absurd hx (Nat.not_lt_zero _)), H4⟩
   case round =>
    clear H4
    obtain ⟨a, ha, rfl, HP, H4⟩ := hrel
    have b0 := H4.out.b0
    have b1 := H4.out.b1
    have b2 := H4.out.b2
    have s0 := H4.out.s0
    have s1 := H4.out.s1
    have r0 := H4.out.r0
    have r1 := H4.out.r1
    by_cases hlt : a < 2 * t.ls.length
    ·have hlt' : (a : Int) < 2 * (t.ls.length : Int) := by omega
     cases hp : partA t k m (a : Int) with
     | false =>
      have HP2 : Hid (∀ x, x < a + 1 → partA t k m (x : Int) = true → partA t k2 m2 (x : Int) = true) := hU fun x hx h => by
       by_cases e : x = a
       ·subst e; rw [hp] at h; cases h
       ·exact HP.out x (by omega) h
      go_wp2_with (go_at_call 107; refine (ref10_Of t _ _ _ _ _ _ _ _ (HTw.out.below H4.out.hb) (by omega) hlt' hn).mono ?_; rintro e w2 ⟨rfl, hb⟩; replace H4 := hU (H4.out.up hb); clear hb b0 b1 b2 s0 s1 r0 r1; have b0 := H4.out.b0; have b1 := H4.out.b1; have b2 := H4.out.b2; have s0 := H4.out.s0; have s1 := H4.out.s1; have r0 := H4.out.r0; have r1 := H4.out.r1)
      go_roundw
      case rel => exact ⟨a + 1, by omega, by go_num, HP2, H4⟩
      case measure => simp [intOf]; omega
     | true =>
      cases hq : partA t k2 m2 (a : Int) with
      | true =>
       have HP2 : Hid (∀ x, x < a + 1 → partA t k m (x : Int) = true → partA t k2 m2 (x : Int) = true) := hU fun x hx h => by
        by_cases e : x = a
        ·subst e; exact hq
        ·exact HP.out x (by omega) h
       go_wp2_with (go_at_call 107; refine (ref10_Of t _ _ _ _ _ _ _ _ (HTw.out.below H4.out.hb) (by omega) hlt' hn).mono ?_; rintro e w2 ⟨rfl, hb⟩; replace H4 := hU (H4.out.up hb); clear hb b0 b1 b2 s0 s1 r0 r1; have b0 := H4.out.b0; have b1 := H4.out.b1; have b2 := H4.out.b2; have s0 := H4.out.s0; have s1 := H4.out.s1; have r0 := H4.out.r0; have r1 := H4.out.r1)
       go_roundw
       case rel => exact ⟨a + 1, by omega, by go_num, HP2, H4⟩
       case measure => simp [intOf]; omega
      | false =>
       have HM := hU (withA_no hlt hp hq)
       go_wp2_with (go_at_call 107; refine (ref10_Of t _ _ _ _ _ _ _ _ (HTw.out.below H4.out.hb) (by omega) hlt' hn).mono ?_; rintro e w2 ⟨rfl, hb⟩; replace H4 := hU (H4.out.up hb); clear hb b0 b1 b2 s0 s1 r0 r1; have b0 := H4.out.b0; have b1 := H4.out.b1; have b2 := H4.out.b2; have s0 := H4.out.s0; have s1 := H4.out.s1; have r0 := H4.out.r0; have r1 := H4.out.r1)
       go_ret
       exact ⟨by rw [HR.out, HM.out]; rfl, H4.out.hb⟩
    ·obtain rfl : a = 2 * t.ls.length := by omega
     go_wp2_with fail
     go_ret
     exact ⟨by rw [HR.out, withA_yes HP.out]; rfl, H4.out.hb⟩
end
end Go.Proofs.YtdnjflpmbnjgeaaGreat
