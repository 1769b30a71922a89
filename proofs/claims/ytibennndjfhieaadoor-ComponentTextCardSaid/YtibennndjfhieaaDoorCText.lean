/-
  component.word and component.Text: what each returns.
-/
import Derived.Test.YtibennndjfhieaaDoorText
import Derived.Laws.Concat
namespace Go.Proofs.YtibennndjfhieaaDoor
open Go.RowKit Go.Sort

def cword (k : Int) : List UInt8 := if k = 1 then [108, 105, 110, 107] else if k = 2 then [110, 111, 100, 101] else if k = 3 then [103, 114, 111, 117, 112] else []
theorem cword_no {k : Int} (h : k < 1 ∨ 3 < k) : cword k = [] := by
  have h1 : ¬ k = 1 := by omega
  have h2 : ¬ k = 2 := by omega
  have h3 : ¬ k = 3 := by omega
  simp [cword, h1, h2, h3]

set_option maxHeartbeats 1000000 in
theorem component_word (k : Int) (w : World) :
    Calls Tryd.prog 38 #[.int .i64 k] w fun e w' => e = .returned (.string ⟨(cword k).toArray⟩) ∧ Below w.heap.size w w' := by
  by_cases h0 : k < 0
  · have HR := Lib.hid (cword_no (k := k) (by omega))
    go_enter Tryd.func38, Tryd.ntmps38
    go_wp2_with fail
    go_ret
    exact ⟨by rw [HR.out]; rfl, below_box w _⟩
  by_cases h4 : 4 ≤ k
  · have HR := Lib.hid (cword_no (k := k) (by omega))
    go_enter Tryd.func38, Tryd.ntmps38
    go_wp2_with fail
    go_ret
    exact ⟨by rw [HR.out]; rfl, below_box w _⟩
  have hk : k = 0 ∨ k = 1 ∨ k = 2 ∨ k = 3 := by omega
  rcases hk with rfl | rfl | rfl | rfl
  all_goals
    go_enter Tryd.func38, Tryd.ntmps38
    go_wp2_with fail
    go_ret
    exact ⟨rfl, below_box w _⟩

/-- The text of a component. -/
def compT (k m : Int) : List UInt8 := if cword k = [] ∨ m < 0 ∨ 999999999 < m then [] else cword k ++ ([32] ++ Lib.itoa m)
theorem cword_len (k : Int) : (cword k).length ≤ 5 := by
  unfold cword
  repeat' split
  all_goals simp

theorem cat_a (x : List UInt8) (hx : x.length ≤ 5) (w : World) : (Op.stringOp .add ⟨x.toArray⟩ ⟨#[32]⟩).run Tryd.prog w = .ok (.string ⟨(x ++ [32]).toArray⟩) w := run_string_add_lists w x [32] (by omega) (by simp)
theorem cat_b (x : List UInt8) (m : Int) (hx : x.length ≤ 5) (h0 : 0 ≤ m) (h1 : m ≤ 999999999) (w : World) : (Op.stringOp .add ⟨(x ++ [32]).toArray⟩ ⟨(Lib.itoa m).toArray⟩).run Tryd.prog w = .ok (.string ⟨(x ++ ([32] ++ Lib.itoa m)).toArray⟩) w := by
  rw [run_string_add_lists w (x ++ [32]) (Lib.itoa m) (by simp; omega) (by have := Lib.itoa_length_le m (by omega) (by omega); omega), List.append_assoc]

set_option maxHeartbeats 1000000 in
theorem component_Text (k m : Int) (w : World) (ht : Tab w.heap.size w) :
    Calls Tryd.prog 27 #[.agg #[.int .i64 k, .int .i64 m]] w fun e w' => e = .returned (.string ⟨(compT k m).toArray⟩) ∧ Below w.heap.size w w' := by
  have HTb := Lib.hid ht
  clear ht
  have HB := below_box w (.cells #[.int .i64 k, .int .i64 m] 31)
  have s0 : (w.alloc (.cells #[.int .i64 k, .int .i64 m] 31)).cell? ⟨w.heap.size, 0, none⟩ = some (.int .i64 k) := by simp
  have s1 : (w.alloc (.cells #[.int .i64 k, .int .i64 m] 31)).cell? ⟨w.heap.size, 1, none⟩ = some (.int .i64 m) := by simp
  obtain ⟨x, hx⟩ : ∃ x, x = cword k := ⟨_, rfl⟩
  have hxl : x.length ≤ 5 := by rw [hx]; exact cword_len k
  have cW : Hid (∀ w', Calls Tryd.prog 38 #[.int .i64 k] w' fun e w'' => e = .returned (.string ⟨x.toArray⟩) ∧ Below w'.heap.size w' w'') := Lib.hid fun w' => by rw [hx]; exact component_word k w'
  have HX := Lib.hid hx
  clear hx
  cases x with
  | nil =>
    have HR : Hid (compT k m = []) := Lib.hid (by simp [compT, ← HX.out])
    go_enter Tryd.func27, Tryd.ntmps27
    go_wp2_with (go_at_call 38; refine (cW.out _).mono ?_; rintro e w1 ⟨rfl, hb⟩; replace s0 := cell_up hb s0; replace s1 := cell_up hb s1; replace HB := below_next HB hb; clear hb)
    go_ret
    exact ⟨by rw [HR.out]; rfl, HB⟩
  | cons c r =>
    by_cases h0 : m < 0
    · have HR : Hid (compT k m = []) := Lib.hid (by simp [compT, h0])
      go_enter Tryd.func27, Tryd.ntmps27
      go_wp2_with (go_at_call 38; refine (cW.out _).mono ?_; rintro e w1 ⟨rfl, hb⟩; replace s0 := cell_up hb s0; replace s1 := cell_up hb s1; replace HB := below_next HB hb; clear hb)
      go_ret
      exact ⟨by rw [HR.out]; rfl, HB⟩
    by_cases h1 : 999999999 < m
    · have HR : Hid (compT k m = []) := Lib.hid (by simp [compT, h1])
      go_enter Tryd.func27, Tryd.ntmps27
      go_wp2_with (go_at_call 38; refine (cW.out _).mono ?_; rintro e w1 ⟨rfl, hb⟩; replace s0 := cell_up hb s0; replace s1 := cell_up hb s1; replace HB := below_next HB hb; clear hb)
      go_ret
      exact ⟨by rw [HR.out]; rfl, HB⟩
    have HR : Hid (compT k m = (c :: r) ++ ([32] ++ Lib.itoa m)) := Lib.hid (by unfold compT; rw [← HX.out, if_neg]; simp; omega)
    obtain ⟨y, hy⟩ : ∃ y, y = c :: r := ⟨_, rfl⟩
    rw [← hy] at HR cW hxl
    have hne : ¬ y = [] := by rw [hy]; simp
    have hye : y.isEmpty = false := by rw [hy]; rfl
    have hyb : (y == []) = false := by rw [hy]; rfl
    clear hy HX
    have ca := cat_a y hxl
    have cb := cat_b y m hxl (by omega) (by omega)
    go_enter Tryd.func27, Tryd.ntmps27
    go_wp2_with (first | (go_at_call 38; refine (cW.out _).mono ?_; rintro e w1 ⟨rfl, hb⟩; replace s0 := cell_up hb s0; replace s1 := cell_up hb s1; replace HB := below_next HB hb; clear hb) | (go_at_call 39; refine (strconv_Itoa m (by omega) (by omega) _ _ (tab_up HTb.out HB HB.size)).mono ?_; rintro e wz ⟨rfl, hbz⟩))
    go_ret
    exact ⟨by rw [HR.out]; rfl, below_next HB hbz⟩

end Go.Proofs.YtibennndjfhieaaDoor
