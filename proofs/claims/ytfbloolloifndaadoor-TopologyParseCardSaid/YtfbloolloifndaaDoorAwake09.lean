/-
  waypointlaw09.awake returns true: the examples of the document, and waypointlaw09.large.
-/
import Derived.Test.YtfbloolloifndaaDoorText
import Derived.Test.YtfbloolloifndaaDoorPath
namespace Go.Proofs.YtfbloolloifndaaDoor
open Go.RowKit Go.Sort

def ex09 : Topo := ⟨3, [], [⟨0, 1, 2, 3, 10, 1, 0⟩, ⟨1, 2, 4, 5, 0, 1, 0⟩]⟩
def ex09o : Topo := ⟨3, [false, true, false], [⟨0, 1, 2, 3, 10, 1, 0⟩, ⟨1, 2, 4, 5, 0, 1, 0⟩]⟩

theorem rd_blk {w : World} {g : Nat} {t : TypeId} (xs : List Value) (h : w.heap[g]? = some (.cells xs.toArray t (0, 0))) : Rd w (some ⟨g, 0, none⟩) xs :=
  .inr ⟨g, 0, rfl, fun j u hu => by rw [Lib.cell_of_heap h]; simpa using hu⟩
def lcells (l : Lnk) : List Value := [.int .i64 l.a, .int .i64 l.b, .int .i64 l.c0, .int .i64 l.c1, .int .i64 l.cap, .int .i64 l.dl, .int .i64 l.g]
theorem rdl_blk {w : World} {g : Nat} {t : TypeId} (ls : List Lnk) (h : w.heap[g]? = some (.cells (ls.flatMap lcells).toArray t (0, 0))) : RdL w (some ⟨g, 0, none⟩) ls := by
  refine .inr ⟨g, 0, rfl, fun k l hl => ?_⟩
  have key : ∀ (ls : List Lnk) (k : Nat) (l : Lnk) (j : Nat), ls[k]? = some l → j < 7 → (ls.flatMap lcells)[k * 7 + j]? = (lcells l)[j]? := by
    intro ls
    induction ls with
    | nil => intro k l j h; simp at h
    | cons x xs ih =>
      intro k l j h hj
      rw [List.flatMap_cons]
      cases k with
      | zero =>
        simp only [List.getElem?_cons_zero, Option.some.injEq] at h
        subst h
        rw [List.getElem?_append_left (by simp [lcells]; omega)]
        simp
      | succ k =>
        rw [List.getElem?_append_right (by simp [lcells]; omega)]
        rw [show (k + 1) * 7 + j - (lcells x).length = k * 7 + j from by simp [lcells]; omega]
        exact ih k l j (by simpa using h) hj
  have at' : ∀ j v, j < 7 → (lcells l)[j]? = some v → w.cell? ⟨g, 0 + k * 7 + j, none⟩ = some v := by
    intro j v hj hv
    rw [Lib.cell_of_heap h, Nat.zero_add]
    rw [← hv, ← key ls k l j hl hj]
    simp
  exact ⟨at' 0 _ (by omega) rfl, at' 1 _ (by omega) rfl, at' 2 _ (by omega) rfl, at' 3 _ (by omega) rfl, at' 4 _ (by omega) rfl, at' 5 _ (by omega) rfl, at' 6 _ (by omega) rfl⟩

theorem law09_example (w : World) :
    Calls Tryd.prog 13 #[] w fun e w' => ∃ g, e = .returned (.agg #[.int .i64 3, .slice none 0 0, .slice (some ⟨g, 0, none⟩) 2 2]) ∧ TAt w' none (some ⟨g, 0, none⟩) ex09 ∧ Below w.heap.size w w' := by
  go_enter Tryd.func13, Tryd.ntmps13
  go_wp2
  refine bodyPost_ret (v := .agg #[.int .i64 3, .slice none 0 0, .slice (some ⟨w.heap.size + 1, 0, none⟩) 2 2]) (by simp [results, Tryd.results13, go_sem]) rfl ⟨w.heap.size + 1, rfl, ⟨.inl rfl, rdl_blk ex09.ls (new_blk _ _ _ _ (by simp))⟩, ?_⟩
  exact below_next (below_box w _) (below_box _ _)

/-- Too many elements to be checked. -/
def big (t : Topo) : Bool := decide (200 < t.ov.length) || decide (300 < t.ls.length)
theorem big_false {t : Topo} (h : big t = false) : t.ov.length ≤ 200 ∧ t.ls.length ≤ 300 := by
  simp only [big, Bool.or_eq_false_iff, decide_eq_false_iff_not] at h
  omega

theorem law09_large (v0 : Value) (A1 A2 : Option Addr) (t : Topo) (c1 c2 : Nat) (w : World) :
    Calls Tryd.prog 6 #[.agg #[v0, .slice A1 t.ov.length c1, .slice A2 t.ls.length c2]] w fun e w' => e = .returned (.bool (big t)) ∧ Below w.heap.size w w' := by
  have HB : Hid (big t = (decide (200 < t.ov.length) || decide (300 < t.ls.length))) := Lib.hid rfl
  generalize big t = x at *
  generalize t.ov.length = l1 at *
  generalize t.ls.length = l2 at *
  cases h1 : decide (200 < (l1 : Int)) with
  | true =>
    have e1 : 200 < l1 := by have := of_decide_eq_true h1; omega
    go_enter Tryd.func6, Tryd.ntmps6
    go_wp2
    go_ret
    exact ⟨by rw [HB.out]; simp [e1], below_box w _⟩
  | false =>
    have e1 : ¬ 200 < l1 := by have := of_decide_eq_false h1; omega
    have HE := Lib.hid e1; clear e1
    go_enter Tryd.func6, Tryd.ntmps6
    go_wp2
    go_ret
    refine ⟨?_, below_box w _⟩
    rw [HB.out, decide_eq_false HE.out, Bool.false_or]
    have e2 : decide (300 < (l2 : Int)) = decide (300 < l2) := by rw [decide_eq_decide]; omega
    rw [← e2]
    rfl

theorem path_ex0 (g a : Nat) (w : World) (hT : TAt w none (some ⟨g, 0, none⟩) ex09) (hA : Rd w (some ⟨a, 0, none⟩) [.int .i64 0, .int .i64 2]) :
    Calls Tryd.prog 14 #[.agg #[.int .i64 3, .slice none 0 0, .slice (some ⟨g, 0, none⟩) 2 2], .int .i64 0, .slice (some ⟨a, 0, none⟩) 2 2] w fun e w' => e = .returned (.tuple #[.int .i64 2, .int .i64 6, .int .i64 0]) ∧ Below w.heap.size w w' := by
  have h := topology_Path ex09 none (some ⟨g, 0, none⟩) (some ⟨a, 0, none⟩) 0 2 2 0 [0, 2] w hT hA (by decide) (by decide)
  rw [show path ex09 0 [0, 2] = (2, 6, 0) by decide] at h
  exact h
theorem path_ex1 (g a : Nat) (w : World) (hT : TAt w none (some ⟨g, 0, none⟩) ex09) (hA : Rd w (some ⟨a, 0, none⟩) [.int .i64 3, .int .i64 1]) :
    Calls Tryd.prog 14 #[.agg #[.int .i64 3, .slice none 0 0, .slice (some ⟨g, 0, none⟩) 2 2], .int .i64 2, .slice (some ⟨a, 0, none⟩) 2 2] w fun e w' => e = .returned (.tuple #[.int .i64 0, .int .i64 8, .int .i64 0]) ∧ Below w.heap.size w w' := by
  have h := topology_Path ex09 none (some ⟨g, 0, none⟩) (some ⟨a, 0, none⟩) 0 2 2 2 [3, 1] w hT hA (by decide) (by decide)
  rw [show path ex09 2 [3, 1] = (0, 8, 0) by decide] at h
  exact h
theorem path_ex2 (g a o : Nat) (w : World) (hT : TAt w (some ⟨o, 0, none⟩) (some ⟨g, 0, none⟩) ex09o) (hA : Rd w (some ⟨a, 0, none⟩) [.int .i64 0, .int .i64 2]) :
    Calls Tryd.prog 14 #[.agg #[.int .i64 3, .slice (some ⟨o, 0, none⟩) 3 3, .slice (some ⟨g, 0, none⟩) 2 2], .int .i64 0, .slice (some ⟨a, 0, none⟩) 2 2] w fun e w' => e = .returned (.tuple #[.int .i64 0, .int .i64 0, .int .i64 4]) ∧ Below w.heap.size w w' := by
  have h := topology_Path ex09o (some ⟨o, 0, none⟩) (some ⟨g, 0, none⟩) (some ⟨a, 0, none⟩) 3 2 2 0 [0, 2] w hT hA (by decide) (by decide)
  rw [show path ex09o 0 [0, 2] = (0, 0, 4) by decide] at h
  exact h
def ex09text : List UInt8 := [110, 111, 100, 101, 115, 32, 51, 10, 108, 105, 110, 107, 32, 48, 32, 49, 32, 50, 32, 51, 32, 49, 48, 32, 49, 32, 48, 10, 108, 105, 110, 107, 32, 49, 32, 50, 32, 52, 32, 53, 32, 48, 32, 49, 32, 48, 10]
theorem text_ex (g : Nat) (w : World) (hT : TAt w none (some ⟨g, 0, none⟩) ex09) (ht : Tab w.heap.size w) :
    Calls Tryd.prog 7 #[.agg #[.int .i64 3, .slice none 0 0, .slice (some ⟨g, 0, none⟩) 2 2]] w fun e w' => e = .returned (.string ⟨#[110, 111, 100, 101, 115, 32, 51, 10, 108, 105, 110, 107, 32, 48, 32, 49, 32, 50, 32, 51, 32, 49, 48, 32, 49, 32, 48, 10, 108, 105, 110, 107, 32, 49, 32, 50, 32, 52, 32, 53, 32, 48, 32, 49, 32, 48, 10]⟩) ∧ Below w.heap.size w w' := by
  have h := topology_Text ex09 none (some ⟨g, 0, none⟩) 0 2 w hT ht
  rw [show textV ex09 = ex09text by decide +kernel] at h
  exact h

set_option maxHeartbeats 4000000 in
set_option maxRecDepth 100000 in
theorem law09_awake (w : World) (ht : Tab w.heap.size w) :
    Calls Tryd.prog 5 #[] w fun e w' => e = .returned (.bool true) ∧ Below w.heap.size w w' := by
  go_enter Tryd.func5, Tryd.ntmps5
  go_wp2_with fail
  refine (law09_example w).mono ?_
  rintro e w1 ⟨g, rfl, hT1, hb1⟩
  go_wp2_with fail
  refine (path_ex0 g _ _ (by exact hT1.below (below_next (below_box _ _) (below_box _ _))) (by exact rd_blk [.int .i64 0, .int .i64 2] (new_blk _ _ _ _ (by simp)))).mono ?_
  rintro e w2 ⟨rfl, hb2⟩
  have hB2 : Below (w1.heap.size + 1) (w1.alloc (.cells #[.int .i64 3, .slice none 0 0, .slice (some ⟨g, 0, none⟩) 2 2] 25)) w2 := below_next (B := w1.heap.size + 1) ((Below.refl _ _).alloc (by simp) _) hb2
  have hz2 : w1.heap.size < w2.heap.size := by have := hB2.size; simp at this; omega
  have c0 : w2.cell? ⟨w1.heap.size, 0, none⟩ = some (.int .i64 3) := by rw [hB2.cell (by simp)]; simp
  have c1 : w2.cell? ⟨w1.heap.size, 1, none⟩ = some (.slice none 0 0) := by rw [hB2.cell (by simp)]; simp
  have c2 : w2.cell? ⟨w1.heap.size, 2, none⟩ = some (.slice (some ⟨g, 0, none⟩) 2 2) := by rw [hB2.cell (by simp)]; simp
  have f1 : w2.frozen? ⟨w1.heap.size, 1, none⟩ = false := by rw [hB2.frozen (by simp)]; simp
  have hbw2 : Below w1.heap.size w1 w2 := (below_box _ _).trans (hB2.mono (by omega))
  have HT1 := Lib.hid hT1
  have HW2 := Lib.hid hbw2
  have HW1 := Lib.hid hb1
  clear hb2 hB2 hT1 hb1 hbw2
  go_wp2_with fail
  refine (path_ex1 g _ _ (by exact HT1.out.below (below_next HW2.out (below_box _ _))) (by exact rd_blk [.int .i64 3, .int .i64 1] (new_blk _ _ _ _ (by simp)))).mono ?_
  rintro e w3 ⟨rfl, hb3⟩
  have hbw3 : Below w2.heap.size w2 w3 := below_next (below_box _ _) hb3
  replace c0 := cell_up hbw3 c0
  replace c1 := cell_up hbw3 c1
  replace c2 := cell_up hbw3 c2
  replace f1 := (hbw3.frozen (p := ⟨w1.heap.size, 1, none⟩) hz2).trans f1
  have hz3 : w1.heap.size < w3.heap.size := by have := hbw3.size; omega
  have HW3 := Lib.hid (below_next HW2.out hbw3)
  clear hb3 hbw3 HW2 hz2
  go_wp2_with fail
  have HW4 : Hid (Below w1.heap.size w1 (((w3.setCell ⟨w1.heap.size, 1, none⟩ (.slice (some ⟨w3.heap.size, 0, none⟩) 3 3)).alloc (.cells #[.bool false, .bool true, .bool false] 4)).alloc (.cells #[.int .i64 0, .int .i64 2] 3))) :=
    Lib.hid (((HW3.out.setCell (p := ⟨w1.heap.size, 1, none⟩) (Nat.le_refl _) _).alloc (by simp; omega) _).alloc (by simp; omega) _)
  refine (path_ex2 g _ _ _ (by exact ⟨rd_blk [.bool false, .bool true, .bool false] ((Below.heap_alloc _ _ _ (by simp)).trans (new_blk _ _ _ _ (by simp))), (HT1.out.below HW4.out).ls⟩) (by exact rd_blk [.int .i64 0, .int .i64 2] (new_blk _ _ _ _ (by simp)))).mono ?_
  rintro e w4 ⟨rfl, hb4⟩
  have HW5 := Lib.hid (below_next HW4.out hb4)
  clear hb4 HW4 HW3 HT1 c0 c1 c2 f1
  go_wp2_with fail
  refine (law09_example w4).mono ?_
  rintro e w5 ⟨g5, rfl, hT5, hb5⟩
  go_wp2_with fail
  have HB5 := below_next (below_next HW1.out HW5.out) hb5
  refine (text_ex g5 w5 hT5 (tab_up ht HB5 HB5.size)).mono ?_
  rintro e w6 ⟨rfl, hb6⟩
  go_wp2_with fail
  go_ret
  exact ⟨rfl, below_next HB5 hb6⟩

end Go.Proofs.YtfbloolloifndaaDoor
