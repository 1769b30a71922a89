/-
  A new queue (printed by gen_heapn.py).
-/
import Derived.Test.YtenhliibmcmnbaaGreatHeapV
import Derived.Test.YtenhliibmcmnbaaGreatIn
namespace Go.Proofs.YtenhliibmcmnbaaGreat
set_option linter.unusedSimpArgs false
set_option linter.unusedVariables false
open Go.RowKit Go.Sort

/-- make([]int, n): the world behind it. -/
def mkI (n : Nat) (w : World) : World := w.alloc (.cells (madeCells #[.int .i64 0] n) 3)
theorem run_mkI (n : Nat) (h : n ≤ 1000000) (w : World) : (Instr.makeSlice 50 (.int .i64 (n : Int)) (.int .i64 (n : Int))).run Tryz.prog w = .ok (.slice (some ⟨w.heap.size, 0, none⟩) n n) (mkI n w) := by
  obtain ⟨i0, hi, hz0, hz1, hz2⟩ := info_parts intInfo
  have hr := run_make (P := Tryz.prog) w 50 3 i0 (.int .i64 0) Tryz.underlying50 hi hz0 .i64 .i64 (n : Int) (n : Int) (by omega) (Int.le_refl _) (by rw [hz2]; omega) (by omega)
  rw [hr, hz1, show ((n : Int)).toNat = n by omega, Nat.mul_one]
  rfl
theorem mkI_below (n : Nat) (w : World) : Below w.heap.size w (mkI n w) := below_box w _
theorem mkI_own (n : Nat) (h : n ≤ 1000000) (w : World) (base : Nat) (hb : base ≤ w.heap.size) : (mkI n w).ownsRow base 3 1 (.slice (some ⟨w.heap.size, 0, none⟩) n n) n ((List.replicate n (0 : Int)).map (Value.int .i64)) := by
  refine ⟨by simp, .inr ⟨w.heap.size, n, _, by simp, hb, heap_alloc_new w _, by simp, by unfold maxLen; omega, by simp [size_madeCells], ?_⟩⟩
  rw [toList_madeCells_one]
  simp
theorem heapR_new {w W : World} {kb pb N : Nat} (o1 : W.ownsRow w.heap.size 3 1 (.slice (some ⟨kb, 0, none⟩) N N) N ((List.replicate N (0 : Int)).map (Value.int .i64))) (o2 : W.ownsRow w.heap.size 3 1 (.slice (some ⟨pb, 0, none⟩) N N) N ((List.replicate N (0 : Int)).map (Value.int .i64))) (s2 : W.heap.size = w.heap.size + 2)
    (hnil : ∀ W : World, W.ownsRow w.heap.size 3 1 (.slice none 0 0) ([] : List Int).length (([] : List Int).map (Value.int .i64))) (n1 : kb ≠ pb) (n2 : kb ≠ w.heap.size + 2) (n3 : pb ≠ w.heap.size + 2) :
    HeapR w.heap.size (w.heap.size + 2) N kb pb (.slice none 0 0) (List.replicate N 0) (List.replicate N 0) [] (W.alloc (.cells #[.slice (some ⟨kb, 0, none⟩) N N, .slice (some ⟨pb, 0, none⟩) N N, .slice none 0 0] 440)) :=
  ⟨s2 ▸ Bl.new W _ _, own_up o1 (below_box W _), own_up o2 (below_box W _), hnil _, n1, n2, n3, by simp [Value.ownBlock], by simp [Value.ownBlock], by simp [Value.ownBlock], by omega⟩
set_option maxRecDepth 100000 in
set_option maxHeartbeats 4000000 in
theorem heap_New0 (N : Nat) (hN : N ≤ 65536) (w : World) :
    Calls Tryz.prog 303 #[.int .i64 N] w fun e w' => ∃ hb kb pb, e = .returned (.tuple #[.pointer (some ⟨hb, 0, none⟩), .int .i64 0]) ∧ HeapR w.heap.size hb N kb pb (.slice none 0 0) (List.replicate N 0) (List.replicate N 0) [] w' ∧ Below w.heap.size w w' := by
  have hmk : ∀ W, (Instr.makeSlice 50 (.int .i64 (N : Int)) (.int .i64 (N : Int))).run Tryz.prog W = .ok (.slice (some ⟨W.heap.size, 0, none⟩) N N) (mkI N W) := fun W => run_mkI N (by omega) W
  have h1 : ¬ ((N : Int) < 0) := by omega
  have h2 : ¬ ((65536 : Int) < (N : Int)) := by omega
  have HN := Lib.hid hN
  go_enter Tryz.func303, Tryz.ntmps303
  go_wp2_with fail
  go_region
  all_goals
    go_wp2_with fail
    go_ret2
    have b1 := mkI_below N w.drew
    have b2 := mkI_below N (mkI N w.drew)
    have s1 : (mkI N w.drew).heap.size = w.heap.size + 1 := by simp [mkI]
    have s2 : (mkI N (mkI N w.drew)).heap.size = w.heap.size + 2 := by simp [mkI]
    have o1 := mkI_own N (by have := HN.out; omega) w.drew w.heap.size (by simp)
    have o2 := mkI_own N (by have := HN.out; omega) (mkI N w.drew) w.heap.size (by simp [mkI])
    have o3 := own_up o1 b2
    have hx : Below w.heap.size w (mkI N (mkI N w.drew)) := (Bdrw (Below.refl _ w)).trans ((b1.mono (by simp)).trans (b2.mono (by rw [s1]; omega)))
    rw [s1] at o2
    simp only [World.size_drew] at o1 o3
    have hnil : ∀ W : World, W.ownsRow w.heap.size 3 1 (.slice none 0 0) ([] : List Int).length (([] : List Int).map (Value.int .i64)) := fun W => World.ownsRow_nil _ _ _ _
    have HA := heapR_new (w := w) o3 o2 s2 hnil
    have HB := heapR_new (w := w) o2 o3 s2 hnil
    have hbx : Below w.heap.size w ((mkI N (mkI N w.drew)).alloc (.cells #[.slice (some ⟨w.heap.size, 0, none⟩) N N, .slice (some ⟨w.heap.size + 1, 0, none⟩) N N, .slice none 0 0] 440)) := hx.alloc (by rw [s2]; omega) _
    have hby : Below w.heap.size w ((mkI N (mkI N w.drew)).alloc (.cells #[.slice (some ⟨w.heap.size + 1, 0, none⟩) N N, .slice (some ⟨w.heap.size, 0, none⟩) N N, .slice none 0 0] 440)) := hx.alloc (by rw [s2]; omega) _
    simp only [s1, s2]
    first
      | exact ⟨w.heap.size + 2, w.heap.size, w.heap.size + 1, rfl, HA (by omega) (by omega) (by omega), hbx⟩
      | exact ⟨w.heap.size + 2, w.heap.size + 1, w.heap.size, rfl, HB (by omega) (by omega) (by omega), hby⟩
end Go.Proofs.YtenhliibmcmnbaaGreat
