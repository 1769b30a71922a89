/-
  segment.kindOf and segment.Text: what each returns.
-/
import Derived.Test.YtdjgpjejidajlaaDoorText
import Derived.Laws.RangeString
import Derived.Laws.Concat
namespace Go.Proofs.YtdjgpjejidajlaaDoor
open Go.RowKit Go.Sort

def kindL (c : Int) : Int := if c = 110 then 1 else if c = 97 then 2 else if c = 103 then 3 else if c = 98 then 4 else 0
def nagb : ByteArray := ⟨#[110, 97, 103, 98]⟩
theorem iter_below (w : World) (s : ByteArray) (pos : Nat) : Below w.heap.size w (w.iter s pos) := (Below.refl _ w).alloc (Nat.le_refl _) _

theorem nagb_next0 (w : World) (ty : TypeId) : (Instr.next (.pointer (some ⟨w.heap.size, 0, none⟩)) true ty).run Tryd.prog (w.iter ⟨#[110, 97, 103, 98]⟩ 0) = .ok (.tuple #[.bool true, .int .i64 0, .int .i32 110]) (w.iter ⟨#[110, 97, 103, 98]⟩ 1) := run_next_ascii (P := Tryd.prog) w ⟨#[110, 97, 103, 98]⟩ 0 ty (by decide) (by decide)
theorem nagb_next1 (w : World) (ty : TypeId) : (Instr.next (.pointer (some ⟨w.heap.size, 0, none⟩)) true ty).run Tryd.prog (w.iter ⟨#[110, 97, 103, 98]⟩ 1) = .ok (.tuple #[.bool true, .int .i64 1, .int .i32 97]) (w.iter ⟨#[110, 97, 103, 98]⟩ 2) := run_next_ascii (P := Tryd.prog) w ⟨#[110, 97, 103, 98]⟩ 1 ty (by decide) (by decide)
theorem nagb_next2 (w : World) (ty : TypeId) : (Instr.next (.pointer (some ⟨w.heap.size, 0, none⟩)) true ty).run Tryd.prog (w.iter ⟨#[110, 97, 103, 98]⟩ 2) = .ok (.tuple #[.bool true, .int .i64 2, .int .i32 103]) (w.iter ⟨#[110, 97, 103, 98]⟩ 3) := run_next_ascii (P := Tryd.prog) w ⟨#[110, 97, 103, 98]⟩ 2 ty (by decide) (by decide)
theorem nagb_next3 (w : World) (ty : TypeId) : (Instr.next (.pointer (some ⟨w.heap.size, 0, none⟩)) true ty).run Tryd.prog (w.iter ⟨#[110, 97, 103, 98]⟩ 3) = .ok (.tuple #[.bool true, .int .i64 3, .int .i32 98]) (w.iter ⟨#[110, 97, 103, 98]⟩ 4) := run_next_ascii (P := Tryd.prog) w ⟨#[110, 97, 103, 98]⟩ 3 ty (by decide) (by decide)
theorem nagb_end (w : World) (ty : TypeId) : (Instr.next (.pointer (some ⟨w.heap.size, 0, none⟩)) true ty).run Tryd.prog (w.iter ⟨#[110, 97, 103, 98]⟩ 4) = .ok (.tuple #[.bool false]) (w.iter ⟨#[110, 97, 103, 98]⟩ 4) := run_next_end (P := Tryd.prog) w ⟨#[110, 97, 103, 98]⟩ 4 ty (by decide)

set_option maxHeartbeats 1000000 in
theorem segment_kindOf (c : Int) (w : World) :
    Calls Tryd.prog 28 #[.int .i32 c] w fun e w' => e = .returned (.int .i64 (kindL c)) ∧ Below w.heap.size w w' := by
  have n0 := nagb_next0 w
  have n1 := nagb_next1 w
  have n2 := nagb_next2 w
  have n3 := nagb_next3 w
  have n4 := nagb_end w
  by_cases h0 : c = 110
  · subst h0
    go_enter Tryd.func28, Tryd.ntmps28
    go_wp2
    go_rounds 1
    go_ret
    exact ⟨rfl, iter_below _ _ _⟩
  have g0 : ((110 : Int) == c) = false := by simp; omega
  by_cases h1 : c = 97
  · subst h1
    go_enter Tryd.func28, Tryd.ntmps28
    go_wp2
    go_rounds 2
    go_ret
    exact ⟨rfl, iter_below _ _ _⟩
  have g1 : ((97 : Int) == c) = false := by simp; omega
  by_cases h2 : c = 103
  · subst h2
    go_enter Tryd.func28, Tryd.ntmps28
    go_wp2
    go_rounds 3
    go_ret
    exact ⟨rfl, iter_below _ _ _⟩
  have g2 : ((103 : Int) == c) = false := by simp; omega
  by_cases h3 : c = 98
  · subst h3
    go_enter Tryd.func28, Tryd.ntmps28
    go_wp2
    go_rounds 4
    go_ret
    exact ⟨rfl, iter_below _ _ _⟩
  have g3 : ((98 : Int) == c) = false := by simp; omega
  have HR : Hid (kindL c = 0) := Lib.hid (by simp [kindL, h0, h1, h2, h3])
  clear h0 h1 h2 h3
  go_enter Tryd.func28, Tryd.ntmps28
  go_wp2
  go_rounds 5
  go_ret
  exact ⟨by rw [HR.out]; rfl, iter_below _ _ _⟩

theorem pair0' (w : World) (x y : Value) (T : TypeId) : (w.alloc (.cells #[x, y] T)).cell? ⟨w.heap.size, 0, none⟩ = some x := by simp
theorem pair1' (w : World) (x y : Value) (T : TypeId) : (w.alloc (.cells #[x, y] T)).cell? ⟨w.heap.size, 1, none⟩ = some y := by simp
/-- An iterator's block, turned. -/
def turn (w : World) (g : Nat) (o : Obj) : World := { w with heap := w.heap.setIfInBounds g o }
theorem turn_size (w : World) (g : Nat) (o : Obj) : (turn w g o).heap.size = w.heap.size := by simp [turn]
theorem turn_block (w : World) (g : Nat) (o : Obj) (k : Nat) (h : k ≠ g) : (turn w g o).heap[k]? = w.heap[k]? := by
  show (w.heap.setIfInBounds g o)[k]? = _
  rw [Array.getElem?_setIfInBounds_ne (Ne.symm h)]
theorem turn_here (w : World) (g : Nat) (o : Obj) (h : g < w.heap.size) : (turn w g o).heap[g]? = some o := by
  show (w.heap.setIfInBounds g o)[g]? = _
  rw [Array.getElem?_setIfInBounds_self_of_lt h]
theorem turn_cell {w : World} {g : Nat} {o : Obj} {a : Addr} {v : Value} (h : w.cell? a = some v) (hne : a.block ≠ g) : (turn w g o).cell? a = some v :=
  (World.cell?_of_block (w := w) (turn_block w g o a.block hne)).trans h
theorem turn_below {B : Nat} {a w : World} (h : Below B a w) (g : Nat) (o : Obj) (hg : B ≤ g) : Below B a (turn w g o) :=
  ⟨h.os, h.tape, h.output, by rw [turn_size]; exact h.size, fun k hk => (turn_block w g o k (by omega)).trans (h.block k hk)⟩
theorem next_at (w : World) (g : Nat) (s : ByteArray) (pos : Nat) (ty : TypeId) (hg : w.heap[g]? = some (.stringIter s pos)) (h : pos < s.size) (ha : (s[pos]'h).toNat < 128) :
    (Instr.next (.pointer (some ⟨g, 0, none⟩)) true ty).run Tryd.prog w = .ok (.tuple #[.bool true, .int .i64 pos, .int .i32 (s[pos]'h).toNat]) (turn w g (.stringIter s (pos + 1))) := by
  simp only [Instr.next, getObj, setObj, Sem.run_bind, Sem.run, hg, Result.andThen, h, if_true, decode_ascii s pos h ha]
  simp [goInt, turn]
theorem next_end (w : World) (g : Nat) (s : ByteArray) (pos : Nat) (ty : TypeId) (hg : w.heap[g]? = some (.stringIter s pos)) (h : ¬ pos < s.size) :
    (Instr.next (.pointer (some ⟨g, 0, none⟩)) true ty).run Tryd.prog w = .ok (.tuple #[.bool false]) w := by
  simp [Instr.next, getObj, Sem.run, hg, h]
theorem nx0 (w : World) (g : Nat) (hg : w.heap[g]? = some (.stringIter ⟨#[110, 97, 103, 98]⟩ 0)) (ty : TypeId) : (Instr.next (.pointer (some ⟨g, 0, none⟩)) true ty).run Tryd.prog w = .ok (.tuple #[.bool true, .int .i64 0, .int .i32 110]) (turn w g (.stringIter ⟨#[110, 97, 103, 98]⟩ 1)) := next_at w g ⟨#[110, 97, 103, 98]⟩ 0 ty hg (by decide) (by decide)
theorem nx1 (w : World) (g : Nat) (hg : w.heap[g]? = some (.stringIter ⟨#[110, 97, 103, 98]⟩ 1)) (ty : TypeId) : (Instr.next (.pointer (some ⟨g, 0, none⟩)) true ty).run Tryd.prog w = .ok (.tuple #[.bool true, .int .i64 1, .int .i32 97]) (turn w g (.stringIter ⟨#[110, 97, 103, 98]⟩ 2)) := next_at w g ⟨#[110, 97, 103, 98]⟩ 1 ty hg (by decide) (by decide)
theorem nx2 (w : World) (g : Nat) (hg : w.heap[g]? = some (.stringIter ⟨#[110, 97, 103, 98]⟩ 2)) (ty : TypeId) : (Instr.next (.pointer (some ⟨g, 0, none⟩)) true ty).run Tryd.prog w = .ok (.tuple #[.bool true, .int .i64 2, .int .i32 103]) (turn w g (.stringIter ⟨#[110, 97, 103, 98]⟩ 3)) := next_at w g ⟨#[110, 97, 103, 98]⟩ 2 ty hg (by decide) (by decide)
theorem nx3 (w : World) (g : Nat) (hg : w.heap[g]? = some (.stringIter ⟨#[110, 97, 103, 98]⟩ 3)) (ty : TypeId) : (Instr.next (.pointer (some ⟨g, 0, none⟩)) true ty).run Tryd.prog w = .ok (.tuple #[.bool true, .int .i64 3, .int .i32 98]) (turn w g (.stringIter ⟨#[110, 97, 103, 98]⟩ 4)) := next_at w g ⟨#[110, 97, 103, 98]⟩ 3 ty hg (by decide) (by decide)
theorem nx4 (w : World) (g : Nat) (hg : w.heap[g]? = some (.stringIter ⟨#[110, 97, 103, 98]⟩ 4)) (ty : TypeId) : (Instr.next (.pointer (some ⟨g, 0, none⟩)) true ty).run Tryd.prog w = .ok (.tuple #[.bool false]) w := next_end w g ⟨#[110, 97, 103, 98]⟩ 4 ty hg (by decide)

/-- The text of a segment. -/
def letL (k : Int) : Option UInt8 := if k = 1 then some 110 else if k = 2 then some 97 else if k = 3 then some 103 else if k = 4 then some 98 else none
def segT (k m : Int) : List UInt8 := if 0 ≤ m ∧ m ≤ 999999999 then (match letL k with | some c => c :: Lib.itoa m | none => []) else []
theorem segT_bad {k m : Int} (h : ¬ (0 ≤ m ∧ m ≤ 999999999)) : segT k m = [] := if_neg h
theorem segT_1 {m : Int} (h0 : 0 ≤ m) (h1 : m ≤ 999999999) : segT 1 m = 110 :: Lib.itoa m := if_pos ⟨h0, h1⟩
theorem segT_2 {m : Int} (h0 : 0 ≤ m) (h1 : m ≤ 999999999) : segT 2 m = 97 :: Lib.itoa m := if_pos ⟨h0, h1⟩
theorem segT_3 {m : Int} (h0 : 0 ≤ m) (h1 : m ≤ 999999999) : segT 3 m = 103 :: Lib.itoa m := if_pos ⟨h0, h1⟩
theorem segT_4 {m : Int} (h0 : 0 ≤ m) (h1 : m ≤ 999999999) : segT 4 m = 98 :: Lib.itoa m := if_pos ⟨h0, h1⟩
theorem cat110 (m : Int) (h0 : 0 ≤ m) (h1 : m ≤ 999999999) (w : World) : (Op.stringOp .add (Utf8.encode 110) ⟨(Lib.itoa m).toArray⟩).run Tryd.prog w = .ok (.string ⟨(110 :: Lib.itoa m).toArray⟩) w := by
  rw [show Utf8.encode 110 = ⟨([110] : List UInt8).toArray⟩ from by kernel_rfl]
  exact run_string_add_lists w [110] _ (by simp) (by have := Lib.itoa_length_le m (by omega) (by omega); omega)
theorem cat97 (m : Int) (h0 : 0 ≤ m) (h1 : m ≤ 999999999) (w : World) : (Op.stringOp .add (Utf8.encode 97) ⟨(Lib.itoa m).toArray⟩).run Tryd.prog w = .ok (.string ⟨(97 :: Lib.itoa m).toArray⟩) w := by
  rw [show Utf8.encode 97 = ⟨([97] : List UInt8).toArray⟩ from by kernel_rfl]
  exact run_string_add_lists w [97] _ (by simp) (by have := Lib.itoa_length_le m (by omega) (by omega); omega)
theorem cat103 (m : Int) (h0 : 0 ≤ m) (h1 : m ≤ 999999999) (w : World) : (Op.stringOp .add (Utf8.encode 103) ⟨(Lib.itoa m).toArray⟩).run Tryd.prog w = .ok (.string ⟨(103 :: Lib.itoa m).toArray⟩) w := by
  rw [show Utf8.encode 103 = ⟨([103] : List UInt8).toArray⟩ from by kernel_rfl]
  exact run_string_add_lists w [103] _ (by simp) (by have := Lib.itoa_length_le m (by omega) (by omega); omega)
theorem cat98 (m : Int) (h0 : 0 ≤ m) (h1 : m ≤ 999999999) (w : World) : (Op.stringOp .add (Utf8.encode 98) ⟨(Lib.itoa m).toArray⟩).run Tryd.prog w = .ok (.string ⟨(98 :: Lib.itoa m).toArray⟩) w := by
  rw [show Utf8.encode 98 = ⟨([98] : List UInt8).toArray⟩ from by kernel_rfl]
  exact run_string_add_lists w [98] _ (by simp) (by have := Lib.itoa_length_le m (by omega) (by omega); omega)
theorem segT_no {k m : Int} (h1 : k ≠ 1) (h2 : k ≠ 2) (h3 : k ≠ 3) (h4 : k ≠ 4) : segT k m = [] := by
  simp [segT, letL, h1, h2, h3, h4]

set_option maxHeartbeats 4000000 in
set_option maxRecDepth 100000 in
theorem segment_Text (k m : Int) (w : World) (ht : Tab w.heap.size w) :
    Calls Tryd.prog 10 #[.agg #[.int .i64 k, .int .i64 m]] w fun e w' => e = .returned (.string ⟨(segT k m).toArray⟩) ∧ Below w.heap.size w w' := by
  have HTb := Lib.hid ht
  clear ht
  have HB := below_box w (.cells #[.int .i64 k, .int .i64 m] 23)
  have s0 := pair0' w (.int .i64 k) (.int .i64 m) 23
  have s1 := pair1' w (.int .i64 k) (.int .i64 m) 23
  by_cases hm0 : m < 0
  · have HR : Hid (segT k m = []) := Lib.hid (segT_bad (by omega))
    go_enter Tryd.func10, Tryd.ntmps10
    go_wp2_with fail
    go_ret
    exact ⟨by rw [HR.out]; rfl, HB⟩
  by_cases hm1 : 999999999 < m
  · have HR : Hid (segT k m = []) := Lib.hid (segT_bad (by omega))
    go_enter Tryd.func10, Tryd.ntmps10
    go_wp2_with fail
    go_ret
    exact ⟨by rw [HR.out]; rfl, HB⟩
  have hm2 : 0 ≤ m := by omega
  have hm3 : m ≤ 999999999 := by omega
  have n0 := nagb_next0 (w.alloc (.cells #[.int .i64 k, .int .i64 m] 23))
  rw [World.size_alloc] at n0
  by_cases h1 : k = 1
  · subst h1
    have HR := Lib.hid (segT_1 (m := m) hm2 hm3)
    go_enter Tryd.func10, Tryd.ntmps10
    go_wp2_with fail
    refine wp_loop_rounds 1 ?_
    rw [rounds_succ]
    go_wp2_with fail
    have HB := below_next HB (iter_below (w.alloc (.cells #[.int .i64 1, .int .i64 m] 23)) ⟨#[110, 97, 103, 98]⟩ 1)
    have s0 := cell_up (iter_below (w.alloc (.cells #[.int .i64 1, .int .i64 m] 23)) ⟨#[110, 97, 103, 98]⟩ 1) s0
    have s1 := cell_up (iter_below (w.alloc (.cells #[.int .i64 1, .int .i64 m] 23)) ⟨#[110, 97, 103, 98]⟩ 1) s1
    have hg : ((w.alloc (.cells #[.int .i64 1, .int .i64 m] 23)).iter ⟨#[110, 97, 103, 98]⟩ 1).heap[w.heap.size + 1]? = some (.stringIter ⟨#[110, 97, 103, 98]⟩ 1) := by have := World.iter_heap (w.alloc (.cells #[.int .i64 1, .int .i64 m] 23)) ⟨#[110, 97, 103, 98]⟩ 1; rwa [World.size_alloc] at this
    clear n0
    obtain ⟨u0, hu0⟩ : ∃ u, u = ((w.alloc (.cells #[.int .i64 1, .int .i64 m] 23)).iter ⟨#[110, 97, 103, 98]⟩ 1) := ⟨_, rfl⟩
    rw [← hu0] at HB s0 s1 hg ⊢
    clear hu0
    have cK : ∀ d os, Calls Tryd.prog 28 #[.int .i32 110] (grow (redrawn u0 d) os) fun e w'' => e = .returned (.int .i64 1) ∧ ∃ p : Regrown, w'' = grow (redrawn u0 p.d) p.os := fun d os => Calls.regrown_of (segment_kindOf 110 _)
    have HK := Lib.hid cK; clear cK
    have HG := Lib.hid hg; clear hg
    have kq_s0 := cell_regrown s0
    have kq_s1 := cell_regrown s1
    refine wp_region_quiet_below (by kernel_rfl) (by kernel_rfl) ?_
    repeat (go_big_quiet_step (exact HK.out _ _))
    refine wpQuiet_nil ?_
    intro v0 hv0
    replace hv0 := below_of_regrown hv0
    clear kq_s0 kq_s1
    replace s0 := cell_up hv0 s0
    replace s1 := cell_up hv0 s1
    replace HB := below_next HB hv0
    clear HK
    have hg := (hv0.block _ (lt_of_heap HG.out)).trans HG.out
    clear hv0 HG
    clear hg
    have HBB := Lib.hid HB; clear HB
    have hcat := cat110 m hm2 hm3
    go_wp2_with (go_at_call 29; refine (strconv_Itoa m (by omega) (by omega) _ _ (tab_up HTb.out HBB.out HBB.out.size)).mono ?_; rintro e wz ⟨rfl, hbz⟩)
    go_ret
    exact ⟨by rw [HR.out]; rfl, below_next HBB.out hbz⟩
  have g1 : ((1 : Int) == k) = false := by simp; omega
  by_cases h2 : k = 2
  · subst h2
    have HR := Lib.hid (segT_2 (m := m) hm2 hm3)
    go_enter Tryd.func10, Tryd.ntmps10
    go_wp2_with fail
    refine wp_loop_rounds 2 ?_
    rw [rounds_succ]
    go_wp2_with fail
    have HB := below_next HB (iter_below (w.alloc (.cells #[.int .i64 2, .int .i64 m] 23)) ⟨#[110, 97, 103, 98]⟩ 1)
    have s0 := cell_up (iter_below (w.alloc (.cells #[.int .i64 2, .int .i64 m] 23)) ⟨#[110, 97, 103, 98]⟩ 1) s0
    have s1 := cell_up (iter_below (w.alloc (.cells #[.int .i64 2, .int .i64 m] 23)) ⟨#[110, 97, 103, 98]⟩ 1) s1
    have hg : ((w.alloc (.cells #[.int .i64 2, .int .i64 m] 23)).iter ⟨#[110, 97, 103, 98]⟩ 1).heap[w.heap.size + 1]? = some (.stringIter ⟨#[110, 97, 103, 98]⟩ 1) := by have := World.iter_heap (w.alloc (.cells #[.int .i64 2, .int .i64 m] 23)) ⟨#[110, 97, 103, 98]⟩ 1; rwa [World.size_alloc] at this
    clear n0
    obtain ⟨u0, hu0⟩ : ∃ u, u = ((w.alloc (.cells #[.int .i64 2, .int .i64 m] 23)).iter ⟨#[110, 97, 103, 98]⟩ 1) := ⟨_, rfl⟩
    rw [← hu0] at HB s0 s1 hg ⊢
    clear hu0
    have cK : ∀ d os, Calls Tryd.prog 28 #[.int .i32 110] (grow (redrawn u0 d) os) fun e w'' => e = .returned (.int .i64 1) ∧ ∃ p : Regrown, w'' = grow (redrawn u0 p.d) p.os := fun d os => Calls.regrown_of (segment_kindOf 110 _)
    have HK := Lib.hid cK; clear cK
    have HG := Lib.hid hg; clear hg
    have kq_s0 := cell_regrown s0
    have kq_s1 := cell_regrown s1
    refine wp_region_quiet_below (by kernel_rfl) (by kernel_rfl) ?_
    repeat (go_big_quiet_step (exact HK.out _ _))
    refine wpQuiet_nil ?_
    intro v0 hv0
    replace hv0 := below_of_regrown hv0
    clear kq_s0 kq_s1
    replace s0 := cell_up hv0 s0
    replace s1 := cell_up hv0 s1
    replace HB := below_next HB hv0
    clear HK
    have hg := (hv0.block _ (lt_of_heap HG.out)).trans HG.out
    clear hv0 HG
    go_wp2_with fail
    have nxt := nx1 v0 (w.heap.size + 1) hg
    rw [rounds_succ]
    go_wp2_with fail
    replace HB := turn_below HB (w.heap.size + 1) (.stringIter ⟨#[110, 97, 103, 98]⟩ 2) (by omega)
    replace s0 := turn_cell (g := w.heap.size + 1) (o := .stringIter ⟨#[110, 97, 103, 98]⟩ 2) s0 (by simp)
    replace s1 := turn_cell (g := w.heap.size + 1) (o := .stringIter ⟨#[110, 97, 103, 98]⟩ 2) s1 (by simp)
    replace hg := turn_here v0 (w.heap.size + 1) (.stringIter ⟨#[110, 97, 103, 98]⟩ 2) (lt_of_heap hg)
    clear nxt
    obtain ⟨u1, hu1⟩ : ∃ u, u = (turn v0 (w.heap.size + 1) (.stringIter ⟨#[110, 97, 103, 98]⟩ 2)) := ⟨_, rfl⟩
    rw [← hu1] at HB s0 s1 hg ⊢
    clear hu1
    have cK : ∀ d os, Calls Tryd.prog 28 #[.int .i32 97] (grow (redrawn u1 d) os) fun e w'' => e = .returned (.int .i64 2) ∧ ∃ p : Regrown, w'' = grow (redrawn u1 p.d) p.os := fun d os => Calls.regrown_of (segment_kindOf 97 _)
    have HK := Lib.hid cK; clear cK
    have HG := Lib.hid hg; clear hg
    have kq_s0 := cell_regrown s0
    have kq_s1 := cell_regrown s1
    refine wp_region_quiet_below (by kernel_rfl) (by kernel_rfl) ?_
    repeat (go_big_quiet_step (exact HK.out _ _))
    refine wpQuiet_nil ?_
    intro v1 hv1
    replace hv1 := below_of_regrown hv1
    clear kq_s0 kq_s1
    replace s0 := cell_up hv1 s0
    replace s1 := cell_up hv1 s1
    replace HB := below_next HB hv1
    clear HK
    have hg := (hv1.block _ (lt_of_heap HG.out)).trans HG.out
    clear hv1 HG
    clear hg
    have HBB := Lib.hid HB; clear HB
    have hcat := cat97 m hm2 hm3
    go_wp2_with (go_at_call 29; refine (strconv_Itoa m (by omega) (by omega) _ _ (tab_up HTb.out HBB.out HBB.out.size)).mono ?_; rintro e wz ⟨rfl, hbz⟩)
    go_ret
    exact ⟨by rw [HR.out]; rfl, below_next HBB.out hbz⟩
  have g2 : ((2 : Int) == k) = false := by simp; omega
  by_cases h3 : k = 3
  · subst h3
    have HR := Lib.hid (segT_3 (m := m) hm2 hm3)
    go_enter Tryd.func10, Tryd.ntmps10
    go_wp2_with fail
    refine wp_loop_rounds 3 ?_
    rw [rounds_succ]
    go_wp2_with fail
    have HB := below_next HB (iter_below (w.alloc (.cells #[.int .i64 3, .int .i64 m] 23)) ⟨#[110, 97, 103, 98]⟩ 1)
    have s0 := cell_up (iter_below (w.alloc (.cells #[.int .i64 3, .int .i64 m] 23)) ⟨#[110, 97, 103, 98]⟩ 1) s0
    have s1 := cell_up (iter_below (w.alloc (.cells #[.int .i64 3, .int .i64 m] 23)) ⟨#[110, 97, 103, 98]⟩ 1) s1
    have hg : ((w.alloc (.cells #[.int .i64 3, .int .i64 m] 23)).iter ⟨#[110, 97, 103, 98]⟩ 1).heap[w.heap.size + 1]? = some (.stringIter ⟨#[110, 97, 103, 98]⟩ 1) := by have := World.iter_heap (w.alloc (.cells #[.int .i64 3, .int .i64 m] 23)) ⟨#[110, 97, 103, 98]⟩ 1; rwa [World.size_alloc] at this
    clear n0
    obtain ⟨u0, hu0⟩ : ∃ u, u = ((w.alloc (.cells #[.int .i64 3, .int .i64 m] 23)).iter ⟨#[110, 97, 103, 98]⟩ 1) := ⟨_, rfl⟩
    rw [← hu0] at HB s0 s1 hg ⊢
    clear hu0
    have cK : ∀ d os, Calls Tryd.prog 28 #[.int .i32 110] (grow (redrawn u0 d) os) fun e w'' => e = .returned (.int .i64 1) ∧ ∃ p : Regrown, w'' = grow (redrawn u0 p.d) p.os := fun d os => Calls.regrown_of (segment_kindOf 110 _)
    have HK := Lib.hid cK; clear cK
    have HG := Lib.hid hg; clear hg
    have kq_s0 := cell_regrown s0
    have kq_s1 := cell_regrown s1
    refine wp_region_quiet_below (by kernel_rfl) (by kernel_rfl) ?_
    repeat (go_big_quiet_step (exact HK.out _ _))
    refine wpQuiet_nil ?_
    intro v0 hv0
    replace hv0 := below_of_regrown hv0
    clear kq_s0 kq_s1
    replace s0 := cell_up hv0 s0
    replace s1 := cell_up hv0 s1
    replace HB := below_next HB hv0
    clear HK
    have hg := (hv0.block _ (lt_of_heap HG.out)).trans HG.out
    clear hv0 HG
    go_wp2_with fail
    have nxt := nx1 v0 (w.heap.size + 1) hg
    rw [rounds_succ]
    go_wp2_with fail
    replace HB := turn_below HB (w.heap.size + 1) (.stringIter ⟨#[110, 97, 103, 98]⟩ 2) (by omega)
    replace s0 := turn_cell (g := w.heap.size + 1) (o := .stringIter ⟨#[110, 97, 103, 98]⟩ 2) s0 (by simp)
    replace s1 := turn_cell (g := w.heap.size + 1) (o := .stringIter ⟨#[110, 97, 103, 98]⟩ 2) s1 (by simp)
    replace hg := turn_here v0 (w.heap.size + 1) (.stringIter ⟨#[110, 97, 103, 98]⟩ 2) (lt_of_heap hg)
    clear nxt
    obtain ⟨u1, hu1⟩ : ∃ u, u = (turn v0 (w.heap.size + 1) (.stringIter ⟨#[110, 97, 103, 98]⟩ 2)) := ⟨_, rfl⟩
    rw [← hu1] at HB s0 s1 hg ⊢
    clear hu1
    have cK : ∀ d os, Calls Tryd.prog 28 #[.int .i32 97] (grow (redrawn u1 d) os) fun e w'' => e = .returned (.int .i64 2) ∧ ∃ p : Regrown, w'' = grow (redrawn u1 p.d) p.os := fun d os => Calls.regrown_of (segment_kindOf 97 _)
    have HK := Lib.hid cK; clear cK
    have HG := Lib.hid hg; clear hg
    have kq_s0 := cell_regrown s0
    have kq_s1 := cell_regrown s1
    refine wp_region_quiet_below (by kernel_rfl) (by kernel_rfl) ?_
    repeat (go_big_quiet_step (exact HK.out _ _))
    refine wpQuiet_nil ?_
    intro v1 hv1
    replace hv1 := below_of_regrown hv1
    clear kq_s0 kq_s1
    replace s0 := cell_up hv1 s0
    replace s1 := cell_up hv1 s1
    replace HB := below_next HB hv1
    clear HK
    have hg := (hv1.block _ (lt_of_heap HG.out)).trans HG.out
    clear hv1 HG
    go_wp2_with fail
    have nxt := nx2 v1 (w.heap.size + 1) hg
    rw [rounds_succ]
    go_wp2_with fail
    replace HB := turn_below HB (w.heap.size + 1) (.stringIter ⟨#[110, 97, 103, 98]⟩ 3) (by omega)
    replace s0 := turn_cell (g := w.heap.size + 1) (o := .stringIter ⟨#[110, 97, 103, 98]⟩ 3) s0 (by simp)
    replace s1 := turn_cell (g := w.heap.size + 1) (o := .stringIter ⟨#[110, 97, 103, 98]⟩ 3) s1 (by simp)
    replace hg := turn_here v1 (w.heap.size + 1) (.stringIter ⟨#[110, 97, 103, 98]⟩ 3) (lt_of_heap hg)
    clear nxt
    obtain ⟨u2, hu2⟩ : ∃ u, u = (turn v1 (w.heap.size + 1) (.stringIter ⟨#[110, 97, 103, 98]⟩ 3)) := ⟨_, rfl⟩
    rw [← hu2] at HB s0 s1 hg ⊢
    clear hu2
    have cK : ∀ d os, Calls Tryd.prog 28 #[.int .i32 103] (grow (redrawn u2 d) os) fun e w'' => e = .returned (.int .i64 3) ∧ ∃ p : Regrown, w'' = grow (redrawn u2 p.d) p.os := fun d os => Calls.regrown_of (segment_kindOf 103 _)
    have HK := Lib.hid cK; clear cK
    have HG := Lib.hid hg; clear hg
    have kq_s0 := cell_regrown s0
    have kq_s1 := cell_regrown s1
    refine wp_region_quiet_below (by kernel_rfl) (by kernel_rfl) ?_
    repeat (go_big_quiet_step (exact HK.out _ _))
    refine wpQuiet_nil ?_
    intro v2 hv2
    replace hv2 := below_of_regrown hv2
    clear kq_s0 kq_s1
    replace s0 := cell_up hv2 s0
    replace s1 := cell_up hv2 s1
    replace HB := below_next HB hv2
    clear HK
    have hg := (hv2.block _ (lt_of_heap HG.out)).trans HG.out
    clear hv2 HG
    clear hg
    have HBB := Lib.hid HB; clear HB
    have hcat := cat103 m hm2 hm3
    go_wp2_with (go_at_call 29; refine (strconv_Itoa m (by omega) (by omega) _ _ (tab_up HTb.out HBB.out HBB.out.size)).mono ?_; rintro e wz ⟨rfl, hbz⟩)
    go_ret
    exact ⟨by rw [HR.out]; rfl, below_next HBB.out hbz⟩
  have g3 : ((3 : Int) == k) = false := by simp; omega
  by_cases h4 : k = 4
  · subst h4
    have HR := Lib.hid (segT_4 (m := m) hm2 hm3)
    go_enter Tryd.func10, Tryd.ntmps10
    go_wp2_with fail
    refine wp_loop_rounds 4 ?_
    rw [rounds_succ]
    go_wp2_with fail
    have HB := below_next HB (iter_below (w.alloc (.cells #[.int .i64 4, .int .i64 m] 23)) ⟨#[110, 97, 103, 98]⟩ 1)
    have s0 := cell_up (iter_below (w.alloc (.cells #[.int .i64 4, .int .i64 m] 23)) ⟨#[110, 97, 103, 98]⟩ 1) s0
    have s1 := cell_up (iter_below (w.alloc (.cells #[.int .i64 4, .int .i64 m] 23)) ⟨#[110, 97, 103, 98]⟩ 1) s1
    have hg : ((w.alloc (.cells #[.int .i64 4, .int .i64 m] 23)).iter ⟨#[110, 97, 103, 98]⟩ 1).heap[w.heap.size + 1]? = some (.stringIter ⟨#[110, 97, 103, 98]⟩ 1) := by have := World.iter_heap (w.alloc (.cells #[.int .i64 4, .int .i64 m] 23)) ⟨#[110, 97, 103, 98]⟩ 1; rwa [World.size_alloc] at this
    clear n0
    obtain ⟨u0, hu0⟩ : ∃ u, u = ((w.alloc (.cells #[.int .i64 4, .int .i64 m] 23)).iter ⟨#[110, 97, 103, 98]⟩ 1) := ⟨_, rfl⟩
    rw [← hu0] at HB s0 s1 hg ⊢
    clear hu0
    have cK : ∀ d os, Calls Tryd.prog 28 #[.int .i32 110] (grow (redrawn u0 d) os) fun e w'' => e = .returned (.int .i64 1) ∧ ∃ p : Regrown, w'' = grow (redrawn u0 p.d) p.os := fun d os => Calls.regrown_of (segment_kindOf 110 _)
    have HK := Lib.hid cK; clear cK
    have HG := Lib.hid hg; clear hg
    have kq_s0 := cell_regrown s0
    have kq_s1 := cell_regrown s1
    refine wp_region_quiet_below (by kernel_rfl) (by kernel_rfl) ?_
    repeat (go_big_quiet_step (exact HK.out _ _))
    refine wpQuiet_nil ?_
    intro v0 hv0
    replace hv0 := below_of_regrown hv0
    clear kq_s0 kq_s1
    replace s0 := cell_up hv0 s0
    replace s1 := cell_up hv0 s1
    replace HB := below_next HB hv0
    clear HK
    have hg := (hv0.block _ (lt_of_heap HG.out)).trans HG.out
    clear hv0 HG
    go_wp2_with fail
    have nxt := nx1 v0 (w.heap.size + 1) hg
    rw [rounds_succ]
    go_wp2_with fail
    replace HB := turn_below HB (w.heap.size + 1) (.stringIter ⟨#[110, 97, 103, 98]⟩ 2) (by omega)
    replace s0 := turn_cell (g := w.heap.size + 1) (o := .stringIter ⟨#[110, 97, 103, 98]⟩ 2) s0 (by simp)
    replace s1 := turn_cell (g := w.heap.size + 1) (o := .stringIter ⟨#[110, 97, 103, 98]⟩ 2) s1 (by simp)
    replace hg := turn_here v0 (w.heap.size + 1) (.stringIter ⟨#[110, 97, 103, 98]⟩ 2) (lt_of_heap hg)
    clear nxt
    obtain ⟨u1, hu1⟩ : ∃ u, u = (turn v0 (w.heap.size + 1) (.stringIter ⟨#[110, 97, 103, 98]⟩ 2)) := ⟨_, rfl⟩
    rw [← hu1] at HB s0 s1 hg ⊢
    clear hu1
    have cK : ∀ d os, Calls Tryd.prog 28 #[.int .i32 97] (grow (redrawn u1 d) os) fun e w'' => e = .returned (.int .i64 2) ∧ ∃ p : Regrown, w'' = grow (redrawn u1 p.d) p.os := fun d os => Calls.regrown_of (segment_kindOf 97 _)
    have HK := Lib.hid cK; clear cK
    have HG := Lib.hid hg; clear hg
    have kq_s0 := cell_regrown s0
    have kq_s1 := cell_regrown s1
    refine wp_region_quiet_below (by kernel_rfl) (by kernel_rfl) ?_
    repeat (go_big_quiet_step (exact HK.out _ _))
    refine wpQuiet_nil ?_
    intro v1 hv1
    replace hv1 := below_of_regrown hv1
    clear kq_s0 kq_s1
    replace s0 := cell_up hv1 s0
    replace s1 := cell_up hv1 s1
    replace HB := below_next HB hv1
    clear HK
    have hg := (hv1.block _ (lt_of_heap HG.out)).trans HG.out
    clear hv1 HG
    go_wp2_with fail
    have nxt := nx2 v1 (w.heap.size + 1) hg
    rw [rounds_succ]
    go_wp2_with fail
    replace HB := turn_below HB (w.heap.size + 1) (.stringIter ⟨#[110, 97, 103, 98]⟩ 3) (by omega)
    replace s0 := turn_cell (g := w.heap.size + 1) (o := .stringIter ⟨#[110, 97, 103, 98]⟩ 3) s0 (by simp)
    replace s1 := turn_cell (g := w.heap.size + 1) (o := .stringIter ⟨#[110, 97, 103, 98]⟩ 3) s1 (by simp)
    replace hg := turn_here v1 (w.heap.size + 1) (.stringIter ⟨#[110, 97, 103, 98]⟩ 3) (lt_of_heap hg)
    clear nxt
    obtain ⟨u2, hu2⟩ : ∃ u, u = (turn v1 (w.heap.size + 1) (.stringIter ⟨#[110, 97, 103, 98]⟩ 3)) := ⟨_, rfl⟩
    rw [← hu2] at HB s0 s1 hg ⊢
    clear hu2
    have cK : ∀ d os, Calls Tryd.prog 28 #[.int .i32 103] (grow (redrawn u2 d) os) fun e w'' => e = .returned (.int .i64 3) ∧ ∃ p : Regrown, w'' = grow (redrawn u2 p.d) p.os := fun d os => Calls.regrown_of (segment_kindOf 103 _)
    have HK := Lib.hid cK; clear cK
    have HG := Lib.hid hg; clear hg
    have kq_s0 := cell_regrown s0
    have kq_s1 := cell_regrown s1
    refine wp_region_quiet_below (by kernel_rfl) (by kernel_rfl) ?_
    repeat (go_big_quiet_step (exact HK.out _ _))
    refine wpQuiet_nil ?_
    intro v2 hv2
    replace hv2 := below_of_regrown hv2
    clear kq_s0 kq_s1
    replace s0 := cell_up hv2 s0
    replace s1 := cell_up hv2 s1
    replace HB := below_next HB hv2
    clear HK
    have hg := (hv2.block _ (lt_of_heap HG.out)).trans HG.out
    clear hv2 HG
    go_wp2_with fail
    have nxt := nx3 v2 (w.heap.size + 1) hg
    rw [rounds_succ]
    go_wp2_with fail
    replace HB := turn_below HB (w.heap.size + 1) (.stringIter ⟨#[110, 97, 103, 98]⟩ 4) (by omega)
    replace s0 := turn_cell (g := w.heap.size + 1) (o := .stringIter ⟨#[110, 97, 103, 98]⟩ 4) s0 (by simp)
    replace s1 := turn_cell (g := w.heap.size + 1) (o := .stringIter ⟨#[110, 97, 103, 98]⟩ 4) s1 (by simp)
    replace hg := turn_here v2 (w.heap.size + 1) (.stringIter ⟨#[110, 97, 103, 98]⟩ 4) (lt_of_heap hg)
    clear nxt
    obtain ⟨u3, hu3⟩ : ∃ u, u = (turn v2 (w.heap.size + 1) (.stringIter ⟨#[110, 97, 103, 98]⟩ 4)) := ⟨_, rfl⟩
    rw [← hu3] at HB s0 s1 hg ⊢
    clear hu3
    have cK : ∀ d os, Calls Tryd.prog 28 #[.int .i32 98] (grow (redrawn u3 d) os) fun e w'' => e = .returned (.int .i64 4) ∧ ∃ p : Regrown, w'' = grow (redrawn u3 p.d) p.os := fun d os => Calls.regrown_of (segment_kindOf 98 _)
    have HK := Lib.hid cK; clear cK
    have HG := Lib.hid hg; clear hg
    have kq_s0 := cell_regrown s0
    have kq_s1 := cell_regrown s1
    refine wp_region_quiet_below (by kernel_rfl) (by kernel_rfl) ?_
    repeat (go_big_quiet_step (exact HK.out _ _))
    refine wpQuiet_nil ?_
    intro v3 hv3
    replace hv3 := below_of_regrown hv3
    clear kq_s0 kq_s1
    replace s0 := cell_up hv3 s0
    replace s1 := cell_up hv3 s1
    replace HB := below_next HB hv3
    clear HK
    have hg := (hv3.block _ (lt_of_heap HG.out)).trans HG.out
    clear hv3 HG
    clear hg
    have HBB := Lib.hid HB; clear HB
    have hcat := cat98 m hm2 hm3
    go_wp2_with (go_at_call 29; refine (strconv_Itoa m (by omega) (by omega) _ _ (tab_up HTb.out HBB.out HBB.out.size)).mono ?_; rintro e wz ⟨rfl, hbz⟩)
    go_ret
    exact ⟨by rw [HR.out]; rfl, below_next HBB.out hbz⟩
  have g4 : ((4 : Int) == k) = false := by simp; omega
  have HR : Hid (segT k m = []) := Lib.hid (segT_no h1 h2 h3 h4)
  clear h1 h2 h3 h4
  go_enter Tryd.func10, Tryd.ntmps10
  go_wp2_with fail
  refine wp_loop_rounds 5 ?_
  rw [rounds_succ]
  go_wp2_with fail
  have HB := below_next HB (iter_below (w.alloc (.cells #[.int .i64 k, .int .i64 m] 23)) ⟨#[110, 97, 103, 98]⟩ 1)
  have s0 := cell_up (iter_below (w.alloc (.cells #[.int .i64 k, .int .i64 m] 23)) ⟨#[110, 97, 103, 98]⟩ 1) s0
  have s1 := cell_up (iter_below (w.alloc (.cells #[.int .i64 k, .int .i64 m] 23)) ⟨#[110, 97, 103, 98]⟩ 1) s1
  have hg : ((w.alloc (.cells #[.int .i64 k, .int .i64 m] 23)).iter ⟨#[110, 97, 103, 98]⟩ 1).heap[w.heap.size + 1]? = some (.stringIter ⟨#[110, 97, 103, 98]⟩ 1) := by have := World.iter_heap (w.alloc (.cells #[.int .i64 k, .int .i64 m] 23)) ⟨#[110, 97, 103, 98]⟩ 1; rwa [World.size_alloc] at this
  clear n0
  obtain ⟨u0, hu0⟩ : ∃ u, u = ((w.alloc (.cells #[.int .i64 k, .int .i64 m] 23)).iter ⟨#[110, 97, 103, 98]⟩ 1) := ⟨_, rfl⟩
  rw [← hu0] at HB s0 s1 hg ⊢
  clear hu0
  have cK : ∀ d os, Calls Tryd.prog 28 #[.int .i32 110] (grow (redrawn u0 d) os) fun e w'' => e = .returned (.int .i64 1) ∧ ∃ p : Regrown, w'' = grow (redrawn u0 p.d) p.os := fun d os => Calls.regrown_of (segment_kindOf 110 _)
  have HK := Lib.hid cK; clear cK
  have HG := Lib.hid hg; clear hg
  have kq_s0 := cell_regrown s0
  have kq_s1 := cell_regrown s1
  refine wp_region_quiet_below (by kernel_rfl) (by kernel_rfl) ?_
  repeat (go_big_quiet_step (exact HK.out _ _))
  refine wpQuiet_nil ?_
  intro v0 hv0
  replace hv0 := below_of_regrown hv0
  clear kq_s0 kq_s1
  replace s0 := cell_up hv0 s0
  replace s1 := cell_up hv0 s1
  replace HB := below_next HB hv0
  clear HK
  have hg := (hv0.block _ (lt_of_heap HG.out)).trans HG.out
  clear hv0 HG
  go_wp2_with fail
  have nxt := nx1 v0 (w.heap.size + 1) hg
  rw [rounds_succ]
  go_wp2_with fail
  replace HB := turn_below HB (w.heap.size + 1) (.stringIter ⟨#[110, 97, 103, 98]⟩ 2) (by omega)
  replace s0 := turn_cell (g := w.heap.size + 1) (o := .stringIter ⟨#[110, 97, 103, 98]⟩ 2) s0 (by simp)
  replace s1 := turn_cell (g := w.heap.size + 1) (o := .stringIter ⟨#[110, 97, 103, 98]⟩ 2) s1 (by simp)
  replace hg := turn_here v0 (w.heap.size + 1) (.stringIter ⟨#[110, 97, 103, 98]⟩ 2) (lt_of_heap hg)
  clear nxt
  obtain ⟨u1, hu1⟩ : ∃ u, u = (turn v0 (w.heap.size + 1) (.stringIter ⟨#[110, 97, 103, 98]⟩ 2)) := ⟨_, rfl⟩
  rw [← hu1] at HB s0 s1 hg ⊢
  clear hu1
  have cK : ∀ d os, Calls Tryd.prog 28 #[.int .i32 97] (grow (redrawn u1 d) os) fun e w'' => e = .returned (.int .i64 2) ∧ ∃ p : Regrown, w'' = grow (redrawn u1 p.d) p.os := fun d os => Calls.regrown_of (segment_kindOf 97 _)
  have HK := Lib.hid cK; clear cK
  have HG := Lib.hid hg; clear hg
  have kq_s0 := cell_regrown s0
  have kq_s1 := cell_regrown s1
  refine wp_region_quiet_below (by kernel_rfl) (by kernel_rfl) ?_
  repeat (go_big_quiet_step (exact HK.out _ _))
  refine wpQuiet_nil ?_
  intro v1 hv1
  replace hv1 := below_of_regrown hv1
  clear kq_s0 kq_s1
  replace s0 := cell_up hv1 s0
  replace s1 := cell_up hv1 s1
  replace HB := below_next HB hv1
  clear HK
  have hg := (hv1.block _ (lt_of_heap HG.out)).trans HG.out
  clear hv1 HG
  go_wp2_with fail
  have nxt := nx2 v1 (w.heap.size + 1) hg
  rw [rounds_succ]
  go_wp2_with fail
  replace HB := turn_below HB (w.heap.size + 1) (.stringIter ⟨#[110, 97, 103, 98]⟩ 3) (by omega)
  replace s0 := turn_cell (g := w.heap.size + 1) (o := .stringIter ⟨#[110, 97, 103, 98]⟩ 3) s0 (by simp)
  replace s1 := turn_cell (g := w.heap.size + 1) (o := .stringIter ⟨#[110, 97, 103, 98]⟩ 3) s1 (by simp)
  replace hg := turn_here v1 (w.heap.size + 1) (.stringIter ⟨#[110, 97, 103, 98]⟩ 3) (lt_of_heap hg)
  clear nxt
  obtain ⟨u2, hu2⟩ : ∃ u, u = (turn v1 (w.heap.size + 1) (.stringIter ⟨#[110, 97, 103, 98]⟩ 3)) := ⟨_, rfl⟩
  rw [← hu2] at HB s0 s1 hg ⊢
  clear hu2
  have cK : ∀ d os, Calls Tryd.prog 28 #[.int .i32 103] (grow (redrawn u2 d) os) fun e w'' => e = .returned (.int .i64 3) ∧ ∃ p : Regrown, w'' = grow (redrawn u2 p.d) p.os := fun d os => Calls.regrown_of (segment_kindOf 103 _)
  have HK := Lib.hid cK; clear cK
  have HG := Lib.hid hg; clear hg
  have kq_s0 := cell_regrown s0
  have kq_s1 := cell_regrown s1
  refine wp_region_quiet_below (by kernel_rfl) (by kernel_rfl) ?_
  repeat (go_big_quiet_step (exact HK.out _ _))
  refine wpQuiet_nil ?_
  intro v2 hv2
  replace hv2 := below_of_regrown hv2
  clear kq_s0 kq_s1
  replace s0 := cell_up hv2 s0
  replace s1 := cell_up hv2 s1
  replace HB := below_next HB hv2
  clear HK
  have hg := (hv2.block _ (lt_of_heap HG.out)).trans HG.out
  clear hv2 HG
  go_wp2_with fail
  have nxt := nx3 v2 (w.heap.size + 1) hg
  rw [rounds_succ]
  go_wp2_with fail
  replace HB := turn_below HB (w.heap.size + 1) (.stringIter ⟨#[110, 97, 103, 98]⟩ 4) (by omega)
  replace s0 := turn_cell (g := w.heap.size + 1) (o := .stringIter ⟨#[110, 97, 103, 98]⟩ 4) s0 (by simp)
  replace s1 := turn_cell (g := w.heap.size + 1) (o := .stringIter ⟨#[110, 97, 103, 98]⟩ 4) s1 (by simp)
  replace hg := turn_here v2 (w.heap.size + 1) (.stringIter ⟨#[110, 97, 103, 98]⟩ 4) (lt_of_heap hg)
  clear nxt
  obtain ⟨u3, hu3⟩ : ∃ u, u = (turn v2 (w.heap.size + 1) (.stringIter ⟨#[110, 97, 103, 98]⟩ 4)) := ⟨_, rfl⟩
  rw [← hu3] at HB s0 s1 hg ⊢
  clear hu3
  have cK : ∀ d os, Calls Tryd.prog 28 #[.int .i32 98] (grow (redrawn u3 d) os) fun e w'' => e = .returned (.int .i64 4) ∧ ∃ p : Regrown, w'' = grow (redrawn u3 p.d) p.os := fun d os => Calls.regrown_of (segment_kindOf 98 _)
  have HK := Lib.hid cK; clear cK
  have HG := Lib.hid hg; clear hg
  have kq_s0 := cell_regrown s0
  have kq_s1 := cell_regrown s1
  refine wp_region_quiet_below (by kernel_rfl) (by kernel_rfl) ?_
  repeat (go_big_quiet_step (exact HK.out _ _))
  refine wpQuiet_nil ?_
  intro v3 hv3
  replace hv3 := below_of_regrown hv3
  clear kq_s0 kq_s1
  replace s0 := cell_up hv3 s0
  replace s1 := cell_up hv3 s1
  replace HB := below_next HB hv3
  clear HK
  have hg := (hv3.block _ (lt_of_heap HG.out)).trans HG.out
  clear hv3 HG
  go_wp2_with fail
  have nxt := nx4 v3 (w.heap.size + 1) hg
  rw [rounds_succ]
  go_wp2_with fail
  go_ret
  exact ⟨by rw [HR.out]; rfl, HB⟩

end Go.Proofs.YtdjgpjejidajlaaDoor
