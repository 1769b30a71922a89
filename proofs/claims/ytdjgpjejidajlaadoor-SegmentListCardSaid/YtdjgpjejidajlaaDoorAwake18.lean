/-
  waypointlaw18.awake returns true: the examples of the document, and waypointlaw18.large.
-/
import Derived.Test.YtdjgpjejidajlaaDoorTList
namespace Go.Proofs.YtdjgpjejidajlaaDoor
open Go.RowKit Go.Sort

theorem rd_blk {w : World} {g : Nat} {t : TypeId} (xs : List Value) (h : w.heap[g]? = some (.cells xs.toArray t (0, 0))) : Rd w (some ⟨g, 0, none⟩) xs :=
  .inr ⟨g, 0, rfl, fun j u hu => by rw [Lib.cell_of_heap h]; simpa using hu⟩
def lcells (l : Lnk) : List Value := [.int .i64 l.a, .int .i64 l.b, .int .i64 l.c0, .int .i64 l.c1, .int .i64 l.cap, .int .i64 l.dl, .int .i64 l.g]
theorem rdl_blk {w : World} {g : Nat} {t : TypeId} (ls : List Lnk) (h : w.heap[g]? = some (.cells (ls.flatMap lcells).toArray t (0, 0))) : RdL w (some ⟨g, 0, none⟩) ls := by
  refine .inr ⟨g, 0, rfl, fun k l hl => ?_⟩
  have key : ∀ (ls : List Lnk) (k : Nat) (l : Lnk) (j : Nat), ls[k]? = some l → j < 7 → (ls.flatMap lcells)[k * 7 + j]? = (lcells l)[j]? := by
    intro ls
    induction ls with
    | nil => intro k l j h; simp at h
    | cons x xs ih =>
      intro k l j h hj
      rw [List.flatMap_cons]
      cases k with
      | zero =>
        simp only [List.getElem?_cons_zero, Option.some.injEq] at h
        subst h
        rw [List.getElem?_append_left (by simp [lcells]; omega)]
        simp
      | succ k =>
        rw [List.getElem?_append_right (by simp [lcells]; omega)]
        rw [show (k + 1) * 7 + j - (lcells x).length = k * 7 + j from by simp [lcells]; omega]
        exact ih k l j (by simpa using h) hj
  have at' : ∀ j v, j < 7 → (lcells l)[j]? = some v → w.cell? ⟨g, 0 + k * 7 + j, none⟩ = some v := by
    intro j v hj hv
    rw [Lib.cell_of_heap h, Nat.zero_add]
    rw [← hv, ← key ls k l j hl hj]
    simp
  exact ⟨at' 0 _ (by omega) rfl, at' 1 _ (by omega) rfl, at' 2 _ (by omega) rfl, at' 3 _ (by omega) rfl, at' 4 _ (by omega) rfl, at' 5 _ (by omega) rfl, at' 6 _ (by omega) rfl⟩

/-- Too many elements to be checked. -/
def big (t : Topo) : Bool := decide (200 < t.ov.length) || decide (300 < t.ls.length)
theorem big_false {t : Topo} (h : big t = false) : t.ov.length ≤ 200 ∧ t.ls.length ≤ 300 := by
  simp only [big, Bool.or_eq_false_iff, decide_eq_false_iff_not] at h
  omega

def ex18 : Topo := ⟨2, [], [⟨0, 1, 1, 1, 0, 1, 0⟩]⟩
def ex18l : List (Int × Int) := [(1, 3), (2, 7), (3, 2)]
theorem end_ex0 (g : Nat) (w : World) (hT : TAt w none (some ⟨g, 0, none⟩) ex18) :
    Calls Tryd.prog 27 #[.agg #[.int .i64 2, .slice none 0 0, .slice (some ⟨g, 0, none⟩) 1 1], .agg #[.int .i64 2, .int .i64 1], .int .i64 1] w fun e w' => e = .returned (.tuple #[.int .i64 0, .int .i64 0]) ∧ Below w.heap.size w w' := by
  have h := segment_End ex18 none (some ⟨g, 0, none⟩) 0 1 2 1 1 w hT (by decide)
  rw [show endR ex18 2 1 1 = (0, 0) by decide] at h
  exact h
theorem end_ex1 (g : Nat) (w : World) (hT : TAt w none (some ⟨g, 0, none⟩) ex18) :
    Calls Tryd.prog 27 #[.agg #[.int .i64 2, .slice none 0 0, .slice (some ⟨g, 0, none⟩) 1 1], .agg #[.int .i64 2, .int .i64 1], .int .i64 0] w fun e w' => e = .returned (.tuple #[.int .i64 0, .int .i64 4]) ∧ Below w.heap.size w w' := by
  have h := segment_End ex18 none (some ⟨g, 0, none⟩) 0 1 2 1 0 w hT (by decide)
  rw [show endR ex18 2 1 0 = (0, 4) by decide] at h
  exact h
theorem rdp_ex {w : World} {g : Nat} {t : TypeId} (h : w.heap[g]? = some (.cells #[.int .i64 1, .int .i64 3, .int .i64 2, .int .i64 7, .int .i64 3, .int .i64 2] t (0, 0))) : RdP w (some ⟨g, 0, none⟩) ex18l := by
  refine .inr ⟨g, 0, rfl, fun k p hp => ?_⟩
  match k, hp with
  | 0, hp => simp [ex18l] at hp; subst hp; constructor <;> rw [Lib.cell_of_heap h] <;> rfl
  | 1, hp => simp [ex18l] at hp; subst hp; constructor <;> rw [Lib.cell_of_heap h] <;> rfl
  | 2, hp => simp [ex18l] at hp; subst hp; constructor <;> rw [Lib.cell_of_heap h] <;> rfl
  | k + 3, hp => simp [ex18l] at hp
theorem tl_ex (g : Nat) (w : World) (hL : RdP w (some ⟨g, 0, none⟩) ex18l) (ht : Tab w.heap.size w) :
    Calls Tryd.prog 14 #[.slice (some ⟨g, 0, none⟩) 3 3] w fun e w' => e = .returned (.string ⟨#[110, 51, 32, 97, 55, 32, 103, 50]⟩) ∧ Below w.heap.size w w' := by
  have h := segment_TextList (some ⟨g, 0, none⟩) 3 ex18l w hL (by decide) ht
  rw [show tlL ex18l = [110, 51, 32, 97, 55, 32, 103, 50] by decide +kernel] at h
  exact h

set_option maxHeartbeats 4000000 in
set_option maxRecDepth 100000 in
theorem law18_awake (w : World) (ht : Tab w.heap.size w) :
    Calls Tryd.prog 9 #[] w fun e w' => e = .returned (.bool true) ∧ Below w.heap.size w w' := by
  go_enter Tryd.func9, Tryd.ntmps9
  go_wp2_with fail
  obtain ⟨W, hW⟩ : ∃ W, W = ((w.alloc (.cells #[.int .i64 1, .int .i64 3, .int .i64 2, .int .i64 7, .int .i64 3, .int .i64 2] 23)).alloc (.cells #[.int .i64 0, .int .i64 1, .int .i64 1, .int .i64 1, .int .i64 0, .int .i64 1, .int .i64 0] 48)).alloc (.cells #[.int .i64 2, .slice none 0 0, .slice (some ⟨w.heap.size + 1, 0, none⟩) 1 1] 40) := ⟨_, rfl⟩
  have hB0 : Below w.heap.size w W := by rw [hW]; exact (((Below.refl _ w).alloc (Nat.le_refl _) _).alloc (by simp) _).alloc (by simp; omega) _
  have hA : W.heap[w.heap.size]? = some (.cells #[.int .i64 1, .int .i64 3, .int .i64 2, .int .i64 7, .int .i64 3, .int .i64 2] 23 (0, 0)) := by
    rw [hW]; exact (Below.heap_alloc _ _ _ (by simp; omega)).trans ((Below.heap_alloc _ _ _ (by simp)).trans (new_blk _ _ _ _ (by simp)))
  have hG : W.heap[w.heap.size + 1]? = some (.cells #[.int .i64 0, .int .i64 1, .int .i64 1, .int .i64 1, .int .i64 0, .int .i64 1, .int .i64 0] 48 (0, 0)) := by
    rw [hW]; exact (Below.heap_alloc _ _ _ (by simp)).trans (new_blk _ _ _ _ (by simp))
  have c0 : W.cell? ⟨w.heap.size + 2, 0, none⟩ = some (.int .i64 2) := by have h := box0 ((w.alloc (.cells #[.int .i64 1, .int .i64 3, .int .i64 2, .int .i64 7, .int .i64 3, .int .i64 2] 23)).alloc (.cells #[.int .i64 0, .int .i64 1, .int .i64 1, .int .i64 1, .int .i64 0, .int .i64 1, .int .i64 0] 48)) (.int .i64 2) (.slice none 0 0) (.slice (some ⟨w.heap.size + 1, 0, none⟩) 1 1) 40; rw [World.size_alloc, World.size_alloc] at h; rw [hW]; exact h
  have c1 : W.cell? ⟨w.heap.size + 2, 1, none⟩ = some (.slice none 0 0) := by have h := box1 ((w.alloc (.cells #[.int .i64 1, .int .i64 3, .int .i64 2, .int .i64 7, .int .i64 3, .int .i64 2] 23)).alloc (.cells #[.int .i64 0, .int .i64 1, .int .i64 1, .int .i64 1, .int .i64 0, .int .i64 1, .int .i64 0] 48)) (.int .i64 2) (.slice none 0 0) (.slice (some ⟨w.heap.size + 1, 0, none⟩) 1 1) 40; rw [World.size_alloc, World.size_alloc] at h; rw [hW]; exact h
  have c2 : W.cell? ⟨w.heap.size + 2, 2, none⟩ = some (.slice (some ⟨w.heap.size + 1, 0, none⟩) 1 1) := by have h := box2 ((w.alloc (.cells #[.int .i64 1, .int .i64 3, .int .i64 2, .int .i64 7, .int .i64 3, .int .i64 2] 23)).alloc (.cells #[.int .i64 0, .int .i64 1, .int .i64 1, .int .i64 1, .int .i64 0, .int .i64 1, .int .i64 0] 48)) (.int .i64 2) (.slice none 0 0) (.slice (some ⟨w.heap.size + 1, 0, none⟩) 1 1) 40; rw [World.size_alloc, World.size_alloc] at h; rw [hW]; exact h
  have hT : TAt W none (some ⟨w.heap.size + 1, 0, none⟩) ex18 := ⟨.inl rfl, rdl_blk ex18.ls hG⟩
  have hL := rdp_ex hA
  rw [← hW]
  clear hW hA hG
  have HT := Lib.hid hT
  have HL := Lib.hid hL
  have HB := Lib.hid hB0
  have HTb := Lib.hid ht
  clear hT hL hB0 ht
  refine (end_ex0 (w.heap.size + 1) W HT.out).mono ?_
  rintro e w1 ⟨rfl, hb1⟩
  replace c0 := cell_up hb1 c0
  replace c1 := cell_up hb1 c1
  replace c2 := cell_up hb1 c2
  replace HT := Lib.hid (HT.out.below hb1)
  replace HL := Lib.hid (HL.out.below hb1)
  replace HB := Lib.hid (below_next HB.out hb1)
  clear hb1
  go_wp2_with fail
  refine (end_ex1 (w.heap.size + 1) w1 HT.out).mono ?_
  rintro e w2 ⟨rfl, hb2⟩
  replace HL := Lib.hid (HL.out.below hb2)
  replace HB := Lib.hid (below_next HB.out hb2)
  clear hb2 c0 c1 c2 HT
  go_wp2_with fail
  refine (tl_ex w.heap.size w2 HL.out (tab_up HTb.out HB.out HB.out.size)).mono ?_
  rintro e w3 ⟨rfl, hb3⟩
  go_wp2_with fail
  go_ret
  exact ⟨rfl, below_next HB.out hb3⟩

end Go.Proofs.YtdjgpjejidajlaaDoor
