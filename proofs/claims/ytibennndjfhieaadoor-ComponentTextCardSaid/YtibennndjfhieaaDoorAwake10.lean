/-
  waypointlaw10.awake returns true: the examples of the document, and waypointlaw10.large.
-/
import Derived.Test.YtibennndjfhieaaDoorArcsC
import Derived.Test.YtibennndjfhieaaDoorAll
import Derived.Test.YtibennndjfhieaaDoorCText
namespace Go.Proofs.YtibennndjfhieaaDoor
open Go.RowKit Go.Sort

theorem rd_blk {w : World} {g : Nat} {t : TypeId} (xs : List Value) (h : w.heap[g]? = some (.cells xs.toArray t (0, 0))) : Rd w (some ⟨g, 0, none⟩) xs :=
  .inr ⟨g, 0, rfl, fun j u hu => by rw [Lib.cell_of_heap h]; simpa using hu⟩
def lcells (l : Lnk) : List Value := [.int .i64 l.a, .int .i64 l.b, .int .i64 l.c0, .int .i64 l.c1, .int .i64 l.cap, .int .i64 l.dl, .int .i64 l.g]
theorem rdl_blk {w : World} {g : Nat} {t : TypeId} (ls : List Lnk) (h : w.heap[g]? = some (.cells (ls.flatMap lcells).toArray t (0, 0))) : RdL w (some ⟨g, 0, none⟩) ls := by
  refine .inr ⟨g, 0, rfl, fun k l hl => ?_⟩
  have key : ∀ (ls : List Lnk) (k : Nat) (l : Lnk) (j : Nat), ls[k]? = some l → j < 7 → (ls.flatMap lcells)[k * 7 + j]? = (lcells l)[j]? := by
    intro ls
    induction ls with
    | nil => intro k l j h; simp at h
    | cons x xs ih =>
      intro k l j h hj
      rw [List.flatMap_cons]
      cases k with
      | zero =>
        simp only [List.getElem?_cons_zero, Option.some.injEq] at h
        subst h
        rw [List.getElem?_append_left (by simp [lcells]; omega)]
        simp
      | succ k =>
        rw [List.getElem?_append_right (by simp [lcells]; omega)]
        rw [show (k + 1) * 7 + j - (lcells x).length = k * 7 + j from by simp [lcells]; omega]
        exact ih k l j (by simpa using h) hj
  have at' : ∀ j v, j < 7 → (lcells l)[j]? = some v → w.cell? ⟨g, 0 + k * 7 + j, none⟩ = some v := by
    intro j v hj hv
    rw [Lib.cell_of_heap h, Nat.zero_add]
    rw [← hv, ← key ls k l j hl hj]
    simp
  exact ⟨at' 0 _ (by omega) rfl, at' 1 _ (by omega) rfl, at' 2 _ (by omega) rfl, at' 3 _ (by omega) rfl, at' 4 _ (by omega) rfl, at' 5 _ (by omega) rfl, at' 6 _ (by omega) rfl⟩

/-- Too many elements to be checked. -/
def big (t : Topo) : Bool := decide (200 < t.ov.length) || decide (300 < t.ls.length)
theorem big_false {t : Topo} (h : big t = false) : t.ov.length ≤ 200 ∧ t.ls.length ≤ 300 := by
  simp only [big, Bool.or_eq_false_iff, decide_eq_false_iff_not] at h
  omega

theorem law10_large (v0 : Value) (A1 A2 : Option Addr) (t : Topo) (c1 c2 : Nat) (w : World) :
    Calls Tryd.prog 11 #[.agg #[v0, .slice A1 t.ov.length c1, .slice A2 t.ls.length c2]] w fun e w' => e = .returned (.bool (big t)) ∧ Below w.heap.size w w' := by
  have HB : Hid (big t = (decide (200 < t.ov.length) || decide (300 < t.ls.length))) := Lib.hid rfl
  generalize big t = x at *
  generalize t.ov.length = l1 at *
  generalize t.ls.length = l2 at *
  cases h1 : decide (200 < (l1 : Int)) with
  | true =>
    have e1 : 200 < l1 := by have := of_decide_eq_true h1; omega
    go_enter Tryd.func11, Tryd.ntmps11
    go_wp2
    go_ret
    exact ⟨by rw [HB.out]; simp [e1], below_box w _⟩
  | false =>
    have e1 : ¬ 200 < l1 := by have := of_decide_eq_false h1; omega
    have HE := Lib.hid e1; clear e1
    go_enter Tryd.func11, Tryd.ntmps11
    go_wp2
    go_ret
    refine ⟨?_, below_box w _⟩
    rw [HB.out, decide_eq_false HE.out, Bool.false_or]
    have e2 : decide (300 < (l2 : Int)) = decide (300 < l2) := by rw [decide_eq_decide]; omega
    rw [← e2]
    rfl

def ex10 : Topo := ⟨3, [], [⟨0, 1, 1, 1, 0, 1, 1⟩, ⟨1, 2, 1, 1, 0, 1, 0⟩, ⟨2, 0, 1, 1, 0, 1, 1⟩]⟩
theorem law10_ex1 (a b g : Int) (w : World) :
    Calls Tryd.prog 44 #[.int .i64 a, .int .i64 b, .int .i64 g] w fun e w' => e = .returned (.agg #[.int .i64 a, .int .i64 b, .int .i64 1, .int .i64 1, .int .i64 0, .int .i64 1, .int .i64 g]) ∧ Below w.heap.size w w' := by
  go_enter Tryd.func44, Tryd.ntmps44
  go_wp2
  exact bodyPost_ret (v := .agg #[.int .i64 a, .int .i64 b, .int .i64 1, .int .i64 1, .int .i64 0, .int .i64 1, .int .i64 g]) (by simp [results, Tryd.results44, go_sem]) rfl ⟨rfl, below_box w _⟩

set_option maxHeartbeats 1000000 in
theorem law10_example (w : World) :
    Calls Tryd.prog 31 #[] w fun e w' => ∃ g, e = .returned (.agg #[.int .i64 3, .slice none 0 0, .slice (some ⟨g, 0, none⟩) 3 3]) ∧ TAt w' none (some ⟨g, 0, none⟩) ex10 ∧ Below w.heap.size w w' := by
  have HB := below_box w (.cells #[.int .i64 0, .slice none 0 0, .slice none 0 0] 25)
  have b0 := box0 w (.int .i64 0) (.slice none 0 0) (.slice none 0 0) 25
  have b1 := box1 w (.int .i64 0) (.slice none 0 0) (.slice none 0 0) 25
  have b2 := box2 w (.int .i64 0) (.slice none 0 0) (.slice none 0 0) 25
  have f0 : (w.alloc (.cells #[.int .i64 0, .slice none 0 0, .slice none 0 0] 25)).frozen? ⟨w.heap.size, 0, none⟩ = false := by simp
  have f1 : (w.alloc (.cells #[.int .i64 0, .slice none 0 0, .slice none 0 0] 25)).frozen? ⟨w.heap.size, 1, none⟩ = false := by simp
  have f2 : (w.alloc (.cells #[.int .i64 0, .slice none 0 0, .slice none 0 0] 25)).frozen? ⟨w.heap.size, 2, none⟩ = false := by simp
  go_enter Tryd.func31, Tryd.ntmps31
  go_wp2_with (go_at_call 44; refine (law10_ex1 _ _ _ _).mono ?_; rintro e w1 ⟨rfl, hb⟩; replace f0 := (hb.frozen (p := ⟨w.heap.size, 0, none⟩) (block_lt_of_cell b0)).trans f0; replace f1 := (hb.frozen (p := ⟨w.heap.size, 1, none⟩) (block_lt_of_cell b1)).trans f1; replace f2 := (hb.frozen (p := ⟨w.heap.size, 2, none⟩) (block_lt_of_cell b2)).trans f2; replace b0 := cell_up hb b0; replace b1 := cell_up hb b1; replace b2 := cell_up hb b2; replace HB := below_next HB hb; clear hb; have hz : w.heap.size < w1.heap.size := block_lt_of_cell b0; have hzn : w.heap.size ≠ w1.heap.size := (by omega); have hzm : w1.heap.size ≠ w.heap.size := (by omega))
  have HB3 := ((HB.setCell (p := ⟨w.heap.size, 0, none⟩) (Nat.le_refl _) (.int .i64 3)).setCell (p := ⟨w.heap.size, 1, none⟩) (Nat.le_refl _) (.slice none 0 0)).setCell (p := ⟨w.heap.size, 2, none⟩) (Nat.le_refl _) (.slice (some ⟨w1.heap.size, 0, none⟩) 3 3)
  refine bodyPost_ret (v := .agg #[.int .i64 3, .slice none 0 0, .slice (some ⟨w1.heap.size, 0, none⟩) 3 3]) (by simp [results, Tryd.results31, go_sem, b0, b1, b2, hz]) rfl ⟨w1.heap.size, rfl, ⟨.inl rfl, rdl_blk ex10.ls (new_blk _ _ _ _ (by simp))⟩, ?_⟩
  exact HB3.alloc (by simp; omega) _

theorem arcs_ex (g : Nat) (k m : Int) (w : World) (hT : TAt w none (some ⟨g, 0, none⟩) ex10) (R : List Int × Int) (hR : arcsC ex10 k m = R) :
    Calls Tryd.prog 18 #[.agg #[.int .i64 3, .slice none 0 0, .slice (some ⟨g, 0, none⟩) 3 3], .agg #[.int .i64 k, .int .i64 m]] w (RetIE w R) := by
  have h := component_Arcs ex10 none (some ⟨g, 0, none⟩) 0 3 k m w hT (by decide)
  rw [hR] at h
  exact h
theorem arcs_ex2 : arcsC ex10 2 1 = ([0, 1, 2, 3], 0) := by decide +kernel
theorem arcs_ex3 : arcsC ex10 3 1 = ([0, 1, 4, 5], 0) := by decide +kernel
theorem all_ex : (allL ex10).length = 7 := by decide +kernel
theorem text_ex10 : compT 3 1 = [103, 114, 111, 117, 112, 32, 49] := by decide +kernel

def RetSeven (w : World) (e : Ending) (w' : World) : Prop := ∃ A c, e = .returned (.slice A 7 c) ∧ Below w.heap.size w w'
theorem all_ex10 (g : Nat) (w : World) (hT : TAt w none (some ⟨g, 0, none⟩) ex10) :
    Calls Tryd.prog 12 #[.agg #[.int .i64 3, .slice none 0 0, .slice (some ⟨g, 0, none⟩) 3 3]] w (RetSeven w) := by
  have h := component_All ex10 none (some ⟨g, 0, none⟩) 0 3 w hT
  rw [if_pos (show valid ex10 = true by decide)] at h
  refine h.mono ?_
  rintro e w' ⟨A, c, rfl, _, hb⟩
  exact ⟨A, c, by rw [all_ex], hb⟩
theorem text_ex1 (w : World) (ht : Tab w.heap.size w) :
    Calls Tryd.prog 27 #[.agg #[.int .i64 3, .int .i64 1]] w fun e w' => e = .returned (.string ⟨#[103, 114, 111, 117, 112, 32, 49]⟩) ∧ Below w.heap.size w w' := by
  have h := component_Text 3 1 w ht
  rw [text_ex10] at h
  exact h
theorem same_ex (A : Option Addr) (c g : Nat) (xs : List Int) (w : World) (hA : Rd w A (xs.map (Value.int .i64))) (hB : Rd w (some ⟨g, 0, none⟩) (xs.map (Value.int .i64))) (hx : xs.length = 4) :
    Calls Tryd.prog 22 #[.slice A 4 c, .slice (some ⟨g, 0, none⟩) 4 4] w fun e w' => e = .returned (.bool true) ∧ Below w.heap.size w w' := by
  have h := sameInts_refl A (some ⟨g, 0, none⟩) c 4 xs w hA hB (by omega)
  rwa [hx] at h

set_option maxHeartbeats 4000000 in
set_option maxRecDepth 100000 in
theorem law10_awake (w : World) (ht : Tab w.heap.size w) :
    Calls Tryd.prog 10 #[] w fun e w' => e = .returned (.bool true) ∧ Below w.heap.size w w' := by
  have HTb := Lib.hid ht
  clear ht
  go_enter Tryd.func10, Tryd.ntmps10
  go_wp2_with fail
  refine (law10_example w).mono ?_
  rintro e w1 ⟨g, rfl, hT, hb⟩
  have HT := Lib.hid hT
  have HB := Lib.hid hb
  clear hT hb
  go_wp2_with fail
  have HBx := Lib.hid (below_box w1 (.cells #[.int .i64 3, .slice none 0 0, .slice (some ⟨g, 0, none⟩) 3 3] 25))
  have b0 := box0 w1 (.int .i64 3) (.slice none 0 0) (.slice (some ⟨g, 0, none⟩) 3 3) 25
  have b1 := box1 w1 (.int .i64 3) (.slice none 0 0) (.slice (some ⟨g, 0, none⟩) 3 3) 25
  have b2 := box2 w1 (.int .i64 3) (.slice none 0 0) (.slice (some ⟨g, 0, none⟩) 3 3) 25
  refine (arcs_ex g 2 1 _ (HT.out.below HBx.out) _ arcs_ex2).mono ?_
  rintro e w2 ⟨Aa, ca, rfl, _, _, ra, hb2⟩
  replace HT := Lib.hid ((HT.out.below HBx.out).below hb2)
  replace HB := Lib.hid (below_next (below_next HB.out HBx.out) hb2)
  replace b0 := cell_up hb2 b0
  replace b1 := cell_up hb2 b1
  replace b2 := cell_up hb2 b2
  have HRA := Lib.hid ra
  clear ra hb2 HBx
  go_wp2_with fail
  refine (arcs_ex g 3 1 _ HT.out _ arcs_ex3).mono ?_
  rintro e w3 ⟨Ab, cb, rfl, _, _, rb, hb3⟩
  replace HT := Lib.hid (HT.out.below hb3)
  replace HB := Lib.hid (below_next HB.out hb3)
  replace b0 := cell_up hb3 b0
  replace b1 := cell_up hb3 b1
  replace b2 := cell_up hb3 b2
  replace HRA := Lib.hid (HRA.out.below hb3)
  have HRB := Lib.hid rb
  clear rb hb3
  go_wp2_with fail
  have HBy := Lib.hid (below_box w3 (.cells #[.int .i64 0, .int .i64 1, .int .i64 2, .int .i64 3] 3))
  refine (same_ex Aa ca w3.heap.size [0, 1, 2, 3] _ (HRA.out.below HBy.out) (by exact rd_blk [.int .i64 0, .int .i64 1, .int .i64 2, .int .i64 3] (new_blk _ _ _ _ rfl)) rfl).mono ?_
  rintro e w4 ⟨rfl, hb4⟩
  replace hb4 := below_next HBy.out hb4
  replace HT := Lib.hid (HT.out.below hb4)
  replace HB := Lib.hid (below_next HB.out hb4)
  replace b0 := cell_up hb4 b0
  replace b1 := cell_up hb4 b1
  replace b2 := cell_up hb4 b2
  replace HRB := Lib.hid (HRB.out.below hb4)
  clear hb4 HBy HRA
  go_wp2_with fail
  have HBy := Lib.hid (below_box w4 (.cells #[.int .i64 0, .int .i64 1, .int .i64 4, .int .i64 5] 3))
  refine (same_ex Ab cb w4.heap.size [0, 1, 4, 5] _ (HRB.out.below HBy.out) (by exact rd_blk [.int .i64 0, .int .i64 1, .int .i64 4, .int .i64 5] (new_blk _ _ _ _ rfl)) rfl).mono ?_
  rintro e w5 ⟨rfl, hb5⟩
  replace hb5 := below_next HBy.out hb5
  replace HT := Lib.hid (HT.out.below hb5)
  replace HB := Lib.hid (below_next HB.out hb5)
  replace b0 := cell_up hb5 b0
  replace b1 := cell_up hb5 b1
  replace b2 := cell_up hb5 b2
  clear hb5 HBy HRB
  go_wp2_with fail
  refine (all_ex10 g _ HT.out).mono ?_
  rintro e w6 ⟨A6, c6, rfl, hb6⟩
  replace HB := Lib.hid (below_next HB.out hb6)
  clear hb6 b0 b1 b2
  go_wp2_with fail
  refine (text_ex1 _ (tab_up HTb.out HB.out HB.out.size)).mono ?_
  rintro e w7 ⟨rfl, hb7⟩
  go_wp2_with fail
  go_ret
  exact ⟨rfl, below_next HB.out hb7⟩

end Go.Proofs.YtibennndjfhieaaDoor
