/-
  slices.Clone at the element types of the program (printed by gen_clone.py).
-/
import Derived.Test.YtenhliibmcmnbaaGreatKp
import Derived.Lib.SliceRun
namespace Go.Proofs.YtenhliibmcmnbaaGreat
set_option linter.unusedSimpArgs false
set_option linter.unusedVariables false
open Go.RowKit Go.Sort

theorem own_empty0 (w : World) {B : Nat} (hB : B ≤ w.heap.size) (E : TypeId) (size : Nat) : (w.alloc (.cells #[] E)).ownsRow B E size (.slice (some ⟨w.heap.size, 0, none⟩) 0 0) 0 [] :=
  ⟨by simp, .inr ⟨w.heap.size, 0, #[], rfl, hB, heap_alloc_new w _, Nat.le_refl _, Nat.zero_le _, by simp, by simp⟩⟩
/-- A copy of a list: a row of the call's own. -/
def RetCl (E : TypeId) (size : Nat) (w : World) (n : Nat) (ys : List Value) (e : Ending) (w' : World) : Prop := ∃ v, e = .returned v ∧ w'.ownsRow w.heap.size E size v n ys ∧ Below w.heap.size w w'
theorem retCl_nil {E : TypeId} {size n : Nat} {w w' : World} {ys : List Value} (hz : n = 0) (hy : ys = []) (hb : Below w.heap.size w w') : RetCl E size w n ys (.returned (.slice none 0 0)) w' := by
  subst hz hy
  exact ⟨_, rfl, World.ownsRow_nil _ _ _ _, hb⟩
theorem rd_none {w : World} {ys : List Value} (h : Rd w none ys) : ys = [] := by
  rcases h with h | ⟨b, o, h, _⟩
  · exact h
  · cases h
theorem cl_zero {n size : Nat} (hs : 0 < size) (h : ([] : List Value).length = n * size) : n = 0 := by
  rcases Nat.eq_zero_or_pos n with e | e
  · exact e
  · have := Nat.mul_pos e hs; simp at h; omega
theorem cl_below {w w1 : World} {o : Obj} {B : Nat} (hB : B = w.heap.size) (hg : (w.alloc o).grownBy w1 (some B)) : Below w.heap.size w w1 := by
  subst hB
  refine (Below.refl _ w).trans ((((below_box w o).mono (Nat.le_refl _)).grown hg (by simp) (fun j hj => by injection hj with hj; omega)))

theorem info_Segment : (Tryz.prog.info? 104).map (fun i => (i.zero, i.size, i.bytes)) = some (some (.agg #[.int .i64 0, .int .i64 0]), 2, 16) := by kernel_rfl
set_option maxRecDepth 100000 in
set_option maxHeartbeats 1000000 in
theorem clone_Segment (A : Option Addr) (n c : Nat) (ys : List Value) (w : World) (hr : Rd w A ys) (hm : ys.length = n * 2) (h1 : ∀ u ∈ ys, u.oneCell' = true) (hn : n ≤ 1000000) :
    Calls Tryz.prog 38 #[.slice A n c] w (RetCl 104 2 w n ys) := by
  obtain ⟨i0, hi, hz0, hz1, hz2⟩ := info_parts info_Segment
  have q22 : ∀ (w : World) (a : Option Addr) (n c n' c' : Nat), (binOp .eql 37 (.slice a n c) (.slice none n' c')).run Tryz.prog w = .ok (.bool a.isNone) w := fun w a n c n' c' => Lib.run_eql_slice_nil w _ _ a n c n' c' Tryz.underlying37
  cases A with
  | none =>
    obtain rfl := rd_none hr
    obtain rfl := cl_zero (by decide) hm
    clear hr hm
    go_enter Tryz.func38, Tryz.ntmps38
    go_wp2
    go_ret
    exact retCl_nil rfl rfl (Below.refl _ _)
  | some ad =>
    have HR := Lib.hid hr
    have HM := Lib.hid hm
    clear hr hm
    go_enter Tryz.func38, Tryz.ntmps38
    go_wp2_with (at_builtin; refine wpList_app_rows _ rfl _ _ 37 rfl w.heap.size 104 i0 (.agg #[.int .i64 0, .int .i64 0]) 16 Tryz.underlying37 hi hz0 2 (by decide) hz1 hz2 rfl _ _ _ rfl (own_empty0 _ (Nat.le_refl _) _ _) _ _ _ ys rfl HM.out (HR.out.below (below_box _ _)) h1 (by unfold maxLen; omega) (by omega) (by simp) ?_)
    intro v' w2 hown hg
    have HO := Lib.hid hown
    have HB := Lib.hid (cl_below rfl hg)
    clear hown hg
    go_wp2_with fail
    go_ret
    exact ⟨v', rfl, HO.out, HB.out⟩
set_option maxRecDepth 100000 in
theorem clone0_Segment (c : Nat) (w : World) : Calls Tryz.prog 38 #[.slice none 0 c] w fun e w' => e = .returned (.slice none 0 0) ∧ w = w' := by
  have q22 : ∀ (w : World) (a : Option Addr) (n c n' c' : Nat), (binOp .eql 37 (.slice a n c) (.slice none n' c')).run Tryz.prog w = .ok (.bool a.isNone) w := fun w a n c n' c' => Lib.run_eql_slice_nil w _ _ a n c n' c' Tryz.underlying37
  go_enter Tryz.func38, Tryz.ntmps38
  go_wp2
  go_ret
  exact ⟨rfl, rfl⟩
theorem info_int : (Tryz.prog.info? 3).map (fun i => (i.zero, i.size, i.bytes)) = some (some (.int .i64 0), 1, 8) := by kernel_rfl
set_option maxRecDepth 100000 in
set_option maxHeartbeats 1000000 in
theorem clone_int (A : Option Addr) (n c : Nat) (ys : List Value) (w : World) (hr : Rd w A ys) (hm : ys.length = n * 1) (h1 : ∀ u ∈ ys, u.oneCell' = true) (hn : n ≤ 1000000) :
    Calls Tryz.prog 51 #[.slice A n c] w (RetCl 3 1 w n ys) := by
  obtain ⟨i0, hi, hz0, hz1, hz2⟩ := info_parts info_int
  have q22 : ∀ (w : World) (a : Option Addr) (n c n' c' : Nat), (binOp .eql 50 (.slice a n c) (.slice none n' c')).run Tryz.prog w = .ok (.bool a.isNone) w := fun w a n c n' c' => Lib.run_eql_slice_nil w _ _ a n c n' c' Tryz.underlying50
  cases A with
  | none =>
    obtain rfl := rd_none hr
    obtain rfl := cl_zero (by decide) hm
    clear hr hm
    go_enter Tryz.func51, Tryz.ntmps51
    go_wp2
    go_ret
    exact retCl_nil rfl rfl (Below.refl _ _)
  | some ad =>
    have HR := Lib.hid hr
    have HM := Lib.hid hm
    clear hr hm
    go_enter Tryz.func51, Tryz.ntmps51
    go_wp2_with (at_builtin; refine wpList_app_rows _ rfl _ _ 50 rfl w.heap.size 3 i0 (.int .i64 0) 8 Tryz.underlying50 hi hz0 1 (by decide) hz1 hz2 rfl _ _ _ rfl (own_empty0 _ (Nat.le_refl _) _ _) _ _ _ ys rfl HM.out (HR.out.below (below_box _ _)) h1 (by unfold maxLen; omega) (by omega) (by simp) ?_)
    intro v' w2 hown hg
    have HO := Lib.hid hown
    have HB := Lib.hid (cl_below rfl hg)
    clear hown hg
    go_wp2_with fail
    go_ret
    exact ⟨v', rfl, HO.out, HB.out⟩
set_option maxRecDepth 100000 in
theorem clone0_int (c : Nat) (w : World) : Calls Tryz.prog 51 #[.slice none 0 c] w fun e w' => e = .returned (.slice none 0 0) ∧ w = w' := by
  have q22 : ∀ (w : World) (a : Option Addr) (n c n' c' : Nat), (binOp .eql 50 (.slice a n c) (.slice none n' c')).run Tryz.prog w = .ok (.bool a.isNone) w := fun w a n c n' c' => Lib.run_eql_slice_nil w _ _ a n c n' c' Tryz.underlying50
  go_enter Tryz.func51, Tryz.ntmps51
  go_wp2
  go_ret
  exact ⟨rfl, rfl⟩
theorem info_Entry : (Tryz.prog.info? 115).map (fun i => (i.zero, i.size, i.bytes)) = some (some (.agg #[.slice none 0 0, .bool false, .slice none 0 0]), 3, 56) := by kernel_rfl
set_option maxRecDepth 100000 in
set_option maxHeartbeats 1000000 in
theorem clone_Entry (A : Option Addr) (n c : Nat) (ys : List Value) (w : World) (hr : Rd w A ys) (hm : ys.length = n * 3) (h1 : ∀ u ∈ ys, u.oneCell' = true) (hn : n ≤ 1000000) :
    Calls Tryz.prog 52 #[.slice A n c] w (RetCl 115 3 w n ys) := by
  obtain ⟨i0, hi, hz0, hz1, hz2⟩ := info_parts info_Entry
  have q22 : ∀ (w : World) (a : Option Addr) (n c n' c' : Nat), (binOp .eql 49 (.slice a n c) (.slice none n' c')).run Tryz.prog w = .ok (.bool a.isNone) w := fun w a n c n' c' => Lib.run_eql_slice_nil w _ _ a n c n' c' Tryz.underlying49
  cases A with
  | none =>
    obtain rfl := rd_none hr
    obtain rfl := cl_zero (by decide) hm
    clear hr hm
    go_enter Tryz.func52, Tryz.ntmps52
    go_wp2
    go_ret
    exact retCl_nil rfl rfl (Below.refl _ _)
  | some ad =>
    have HR := Lib.hid hr
    have HM := Lib.hid hm
    clear hr hm
    go_enter Tryz.func52, Tryz.ntmps52
    go_wp2_with (at_builtin; refine wpList_app_rows _ rfl _ _ 49 rfl w.heap.size 115 i0 (.agg #[.slice none 0 0, .bool false, .slice none 0 0]) 56 Tryz.underlying49 hi hz0 3 (by decide) hz1 hz2 rfl _ _ _ rfl (own_empty0 _ (Nat.le_refl _) _ _) _ _ _ ys rfl HM.out (HR.out.below (below_box _ _)) h1 (by unfold maxLen; omega) (by omega) (by simp) ?_)
    intro v' w2 hown hg
    have HO := Lib.hid hown
    have HB := Lib.hid (cl_below rfl hg)
    clear hown hg
    go_wp2_with fail
    go_ret
    exact ⟨v', rfl, HO.out, HB.out⟩
set_option maxRecDepth 100000 in
theorem clone0_Entry (c : Nat) (w : World) : Calls Tryz.prog 52 #[.slice none 0 c] w fun e w' => e = .returned (.slice none 0 0) ∧ w = w' := by
  have q22 : ∀ (w : World) (a : Option Addr) (n c n' c' : Nat), (binOp .eql 49 (.slice a n c) (.slice none n' c')).run Tryz.prog w = .ok (.bool a.isNone) w := fun w a n c n' c' => Lib.run_eql_slice_nil w _ _ a n c n' c' Tryz.underlying49
  go_enter Tryz.func52, Tryz.ntmps52
  go_wp2
  go_ret
  exact ⟨rfl, rfl⟩
theorem info_Act : (Tryz.prog.info? 127).map (fun i => (i.zero, i.size, i.bytes)) = some (some (.agg #[.int .i64 0, .int .i64 0, .int .i64 0, .int .i64 0, .int .i64 0, .int .i64 0, .slice none 0 0, .int .i64 0, .int .i64 0, .int .i64 0, .int .i64 0, .bool false, .int .i64 0, .int .i64 0]), 14, 128) := by kernel_rfl
set_option maxRecDepth 100000 in
set_option maxHeartbeats 1000000 in
theorem clone_Act (A : Option Addr) (n c : Nat) (ys : List Value) (w : World) (hr : Rd w A ys) (hm : ys.length = n * 14) (h1 : ∀ u ∈ ys, u.oneCell' = true) (hn : n ≤ 1000000) :
    Calls Tryz.prog 59 #[.slice A n c] w (RetCl 127 14 w n ys) := by
  obtain ⟨i0, hi, hz0, hz1, hz2⟩ := info_parts info_Act
  have q22 : ∀ (w : World) (a : Option Addr) (n c n' c' : Nat), (binOp .eql 64 (.slice a n c) (.slice none n' c')).run Tryz.prog w = .ok (.bool a.isNone) w := fun w a n c n' c' => Lib.run_eql_slice_nil w _ _ a n c n' c' Tryz.underlying64
  cases A with
  | none =>
    obtain rfl := rd_none hr
    obtain rfl := cl_zero (by decide) hm
    clear hr hm
    go_enter Tryz.func59, Tryz.ntmps59
    go_wp2
    go_ret
    exact retCl_nil rfl rfl (Below.refl _ _)
  | some ad =>
    have HR := Lib.hid hr
    have HM := Lib.hid hm
    clear hr hm
    go_enter Tryz.func59, Tryz.ntmps59
    go_wp2_with (at_builtin; refine wpList_app_rows _ rfl _ _ 64 rfl w.heap.size 127 i0 (.agg #[.int .i64 0, .int .i64 0, .int .i64 0, .int .i64 0, .int .i64 0, .int .i64 0, .slice none 0 0, .int .i64 0, .int .i64 0, .int .i64 0, .int .i64 0, .bool false, .int .i64 0, .int .i64 0]) 128 Tryz.underlying64 hi hz0 14 (by decide) hz1 hz2 rfl _ _ _ rfl (own_empty0 _ (Nat.le_refl _) _ _) _ _ _ ys rfl HM.out (HR.out.below (below_box _ _)) h1 (by unfold maxLen; omega) (by omega) (by simp) ?_)
    intro v' w2 hown hg
    have HO := Lib.hid hown
    have HB := Lib.hid (cl_below rfl hg)
    clear hown hg
    go_wp2_with fail
    go_ret
    exact ⟨v', rfl, HO.out, HB.out⟩
set_option maxRecDepth 100000 in
theorem clone0_Act (c : Nat) (w : World) : Calls Tryz.prog 59 #[.slice none 0 c] w fun e w' => e = .returned (.slice none 0 0) ∧ w = w' := by
  have q22 : ∀ (w : World) (a : Option Addr) (n c n' c' : Nat), (binOp .eql 64 (.slice a n c) (.slice none n' c')).run Tryz.prog w = .ok (.bool a.isNone) w := fun w a n c n' c' => Lib.run_eql_slice_nil w _ _ a n c n' c' Tryz.underlying64
  go_enter Tryz.func59, Tryz.ntmps59
  go_wp2
  go_ret
  exact ⟨rfl, rfl⟩
theorem info_Trace : (Tryz.prog.info? 146).map (fun i => (i.zero, i.size, i.bytes)) = some (some (.agg #[.int .i64 0, .int .i64 0, .int .i64 0, .int .i64 0, .int .i64 0, .int .i64 0]), 6, 48) := by kernel_rfl
set_option maxRecDepth 100000 in
set_option maxHeartbeats 1000000 in
theorem clone_Trace (A : Option Addr) (n c : Nat) (ys : List Value) (w : World) (hr : Rd w A ys) (hm : ys.length = n * 6) (h1 : ∀ u ∈ ys, u.oneCell' = true) (hn : n ≤ 1000000) :
    Calls Tryz.prog 66 #[.slice A n c] w (RetCl 146 6 w n ys) := by
  obtain ⟨i0, hi, hz0, hz1, hz2⟩ := info_parts info_Trace
  have q22 : ∀ (w : World) (a : Option Addr) (n c n' c' : Nat), (binOp .eql 73 (.slice a n c) (.slice none n' c')).run Tryz.prog w = .ok (.bool a.isNone) w := fun w a n c n' c' => Lib.run_eql_slice_nil w _ _ a n c n' c' Tryz.underlying73
  cases A with
  | none =>
    obtain rfl := rd_none hr
    obtain rfl := cl_zero (by decide) hm
    clear hr hm
    go_enter Tryz.func66, Tryz.ntmps66
    go_wp2
    go_ret
    exact retCl_nil rfl rfl (Below.refl _ _)
  | some ad =>
    have HR := Lib.hid hr
    have HM := Lib.hid hm
    clear hr hm
    go_enter Tryz.func66, Tryz.ntmps66
    go_wp2_with (at_builtin; refine wpList_app_rows _ rfl _ _ 73 rfl w.heap.size 146 i0 (.agg #[.int .i64 0, .int .i64 0, .int .i64 0, .int .i64 0, .int .i64 0, .int .i64 0]) 48 Tryz.underlying73 hi hz0 6 (by decide) hz1 hz2 rfl _ _ _ rfl (own_empty0 _ (Nat.le_refl _) _ _) _ _ _ ys rfl HM.out (HR.out.below (below_box _ _)) h1 (by unfold maxLen; omega) (by omega) (by simp) ?_)
    intro v' w2 hown hg
    have HO := Lib.hid hown
    have HB := Lib.hid (cl_below rfl hg)
    clear hown hg
    go_wp2_with fail
    go_ret
    exact ⟨v', rfl, HO.out, HB.out⟩
set_option maxRecDepth 100000 in
theorem clone0_Trace (c : Nat) (w : World) : Calls Tryz.prog 66 #[.slice none 0 c] w fun e w' => e = .returned (.slice none 0 0) ∧ w = w' := by
  have q22 : ∀ (w : World) (a : Option Addr) (n c n' c' : Nat), (binOp .eql 73 (.slice a n c) (.slice none n' c')).run Tryz.prog w = .ok (.bool a.isNone) w := fun w a n c n' c' => Lib.run_eql_slice_nil w _ _ a n c n' c' Tryz.underlying73
  go_enter Tryz.func66, Tryz.ntmps66
  go_wp2
  go_ret
  exact ⟨rfl, rfl⟩
theorem info_Outage : (Tryz.prog.info? 151).map (fun i => (i.zero, i.size, i.bytes)) = some (some (.agg #[.int .i64 0, .int .i64 0, .int .i64 0, .int .i64 0]), 4, 32) := by kernel_rfl
set_option maxRecDepth 100000 in
set_option maxHeartbeats 1000000 in
theorem clone_Outage (A : Option Addr) (n c : Nat) (ys : List Value) (w : World) (hr : Rd w A ys) (hm : ys.length = n * 4) (h1 : ∀ u ∈ ys, u.oneCell' = true) (hn : n ≤ 1000000) :
    Calls Tryz.prog 69 #[.slice A n c] w (RetCl 151 4 w n ys) := by
  obtain ⟨i0, hi, hz0, hz1, hz2⟩ := info_parts info_Outage
  have q22 : ∀ (w : World) (a : Option Addr) (n c n' c' : Nat), (binOp .eql 79 (.slice a n c) (.slice none n' c')).run Tryz.prog w = .ok (.bool a.isNone) w := fun w a n c n' c' => Lib.run_eql_slice_nil w _ _ a n c n' c' Tryz.underlying79
  cases A with
  | none =>
    obtain rfl := rd_none hr
    obtain rfl := cl_zero (by decide) hm
    clear hr hm
    go_enter Tryz.func69, Tryz.ntmps69
    go_wp2
    go_ret
    exact retCl_nil rfl rfl (Below.refl _ _)
  | some ad =>
    have HR := Lib.hid hr
    have HM := Lib.hid hm
    clear hr hm
    go_enter Tryz.func69, Tryz.ntmps69
    go_wp2_with (at_builtin; refine wpList_app_rows _ rfl _ _ 79 rfl w.heap.size 151 i0 (.agg #[.int .i64 0, .int .i64 0, .int .i64 0, .int .i64 0]) 32 Tryz.underlying79 hi hz0 4 (by decide) hz1 hz2 rfl _ _ _ rfl (own_empty0 _ (Nat.le_refl _) _ _) _ _ _ ys rfl HM.out (HR.out.below (below_box _ _)) h1 (by unfold maxLen; omega) (by omega) (by simp) ?_)
    intro v' w2 hown hg
    have HO := Lib.hid hown
    have HB := Lib.hid (cl_below rfl hg)
    clear hown hg
    go_wp2_with fail
    go_ret
    exact ⟨v', rfl, HO.out, HB.out⟩
set_option maxRecDepth 100000 in
theorem clone0_Outage (c : Nat) (w : World) : Calls Tryz.prog 69 #[.slice none 0 c] w fun e w' => e = .returned (.slice none 0 0) ∧ w = w' := by
  have q22 : ∀ (w : World) (a : Option Addr) (n c n' c' : Nat), (binOp .eql 79 (.slice a n c) (.slice none n' c')).run Tryz.prog w = .ok (.bool a.isNone) w := fun w a n c n' c' => Lib.run_eql_slice_nil w _ _ a n c n' c' Tryz.underlying79
  go_enter Tryz.func69, Tryz.ntmps69
  go_wp2
  go_ret
  exact ⟨rfl, rfl⟩
theorem info_bool : (Tryz.prog.info? 4).map (fun i => (i.zero, i.size, i.bytes)) = some (some (.bool false), 1, 1) := by kernel_rfl
set_option maxRecDepth 100000 in
set_option maxHeartbeats 1000000 in
theorem clone_bool (A : Option Addr) (n c : Nat) (ys : List Value) (w : World) (hr : Rd w A ys) (hm : ys.length = n * 1) (h1 : ∀ u ∈ ys, u.oneCell' = true) (hn : n ≤ 1000000) :
    Calls Tryz.prog 79 #[.slice A n c] w (RetCl 4 1 w n ys) := by
  obtain ⟨i0, hi, hz0, hz1, hz2⟩ := info_parts info_bool
  have q22 : ∀ (w : World) (a : Option Addr) (n c n' c' : Nat), (binOp .eql 22 (.slice a n c) (.slice none n' c')).run Tryz.prog w = .ok (.bool a.isNone) w := fun w a n c n' c' => Lib.run_eql_slice_nil w _ _ a n c n' c' Tryz.underlying22
  cases A with
  | none =>
    obtain rfl := rd_none hr
    obtain rfl := cl_zero (by decide) hm
    clear hr hm
    go_enter Tryz.func79, Tryz.ntmps79
    go_wp2
    go_ret
    exact retCl_nil rfl rfl (Below.refl _ _)
  | some ad =>
    have HR := Lib.hid hr
    have HM := Lib.hid hm
    clear hr hm
    go_enter Tryz.func79, Tryz.ntmps79
    go_wp2_with (at_builtin; refine wpList_app_rows _ rfl _ _ 22 rfl w.heap.size 4 i0 (.bool false) 1 Tryz.underlying22 hi hz0 1 (by decide) hz1 hz2 rfl _ _ _ rfl (own_empty0 _ (Nat.le_refl _) _ _) _ _ _ ys rfl HM.out (HR.out.below (below_box _ _)) h1 (by unfold maxLen; omega) (by omega) (by simp) ?_)
    intro v' w2 hown hg
    have HO := Lib.hid hown
    have HB := Lib.hid (cl_below rfl hg)
    clear hown hg
    go_wp2_with fail
    go_ret
    exact ⟨v', rfl, HO.out, HB.out⟩
set_option maxRecDepth 100000 in
theorem clone0_bool (c : Nat) (w : World) : Calls Tryz.prog 79 #[.slice none 0 c] w fun e w' => e = .returned (.slice none 0 0) ∧ w = w' := by
  have q22 : ∀ (w : World) (a : Option Addr) (n c n' c' : Nat), (binOp .eql 22 (.slice a n c) (.slice none n' c')).run Tryz.prog w = .ok (.bool a.isNone) w := fun w a n c n' c' => Lib.run_eql_slice_nil w _ _ a n c n' c' Tryz.underlying22
  go_enter Tryz.func79, Tryz.ntmps79
  go_wp2
  go_ret
  exact ⟨rfl, rfl⟩
theorem info_Link : (Tryz.prog.info? 118).map (fun i => (i.zero, i.size, i.bytes)) = some (some (.agg #[.int .i64 0, .int .i64 0, .int .i64 0, .int .i64 0, .int .i64 0, .int .i64 0, .int .i64 0]), 7, 56) := by kernel_rfl
set_option maxRecDepth 100000 in
set_option maxHeartbeats 1000000 in
theorem clone_Link (A : Option Addr) (n c : Nat) (ys : List Value) (w : World) (hr : Rd w A ys) (hm : ys.length = n * 7) (h1 : ∀ u ∈ ys, u.oneCell' = true) (hn : n ≤ 1000000) :
    Calls Tryz.prog 80 #[.slice A n c] w (RetCl 118 7 w n ys) := by
  obtain ⟨i0, hi, hz0, hz1, hz2⟩ := info_parts info_Link
  have q22 : ∀ (w : World) (a : Option Addr) (n c n' c' : Nat), (binOp .eql 23 (.slice a n c) (.slice none n' c')).run Tryz.prog w = .ok (.bool a.isNone) w := fun w a n c n' c' => Lib.run_eql_slice_nil w _ _ a n c n' c' Tryz.underlying23
  cases A with
  | none =>
    obtain rfl := rd_none hr
    obtain rfl := cl_zero (by decide) hm
    clear hr hm
    go_enter Tryz.func80, Tryz.ntmps80
    go_wp2
    go_ret
    exact retCl_nil rfl rfl (Below.refl _ _)
  | some ad =>
    have HR := Lib.hid hr
    have HM := Lib.hid hm
    clear hr hm
    go_enter Tryz.func80, Tryz.ntmps80
    go_wp2_with (at_builtin; refine wpList_app_rows _ rfl _ _ 23 rfl w.heap.size 118 i0 (.agg #[.int .i64 0, .int .i64 0, .int .i64 0, .int .i64 0, .int .i64 0, .int .i64 0, .int .i64 0]) 56 Tryz.underlying23 hi hz0 7 (by decide) hz1 hz2 rfl _ _ _ rfl (own_empty0 _ (Nat.le_refl _) _ _) _ _ _ ys rfl HM.out (HR.out.below (below_box _ _)) h1 (by unfold maxLen; omega) (by omega) (by simp) ?_)
    intro v' w2 hown hg
    have HO := Lib.hid hown
    have HB := Lib.hid (cl_below rfl hg)
    clear hown hg
    go_wp2_with fail
    go_ret
    exact ⟨v', rfl, HO.out, HB.out⟩
set_option maxRecDepth 100000 in
theorem clone0_Link (c : Nat) (w : World) : Calls Tryz.prog 80 #[.slice none 0 c] w fun e w' => e = .returned (.slice none 0 0) ∧ w = w' := by
  have q22 : ∀ (w : World) (a : Option Addr) (n c n' c' : Nat), (binOp .eql 23 (.slice a n c) (.slice none n' c')).run Tryz.prog w = .ok (.bool a.isNone) w := fun w a n c n' c' => Lib.run_eql_slice_nil w _ _ a n c n' c' Tryz.underlying23
  go_enter Tryz.func80, Tryz.ntmps80
  go_wp2
  go_ret
  exact ⟨rfl, rfl⟩
theorem info_Fate : (Tryz.prog.info? 220).map (fun i => (i.zero, i.size, i.bytes)) = some (some (.agg #[.int .i64 0, .int .i64 0]), 2, 16) := by kernel_rfl
set_option maxRecDepth 100000 in
set_option maxHeartbeats 1000000 in
theorem clone_Fate (A : Option Addr) (n c : Nat) (ys : List Value) (w : World) (hr : Rd w A ys) (hm : ys.length = n * 2) (h1 : ∀ u ∈ ys, u.oneCell' = true) (hn : n ≤ 1000000) :
    Calls Tryz.prog 124 #[.slice A n c] w (RetCl 220 2 w n ys) := by
  obtain ⟨i0, hi, hz0, hz1, hz2⟩ := info_parts info_Fate
  have q22 : ∀ (w : World) (a : Option Addr) (n c n' c' : Nat), (binOp .eql 121 (.slice a n c) (.slice none n' c')).run Tryz.prog w = .ok (.bool a.isNone) w := fun w a n c n' c' => Lib.run_eql_slice_nil w _ _ a n c n' c' Tryz.underlying121
  cases A with
  | none =>
    obtain rfl := rd_none hr
    obtain rfl := cl_zero (by decide) hm
    clear hr hm
    go_enter Tryz.func124, Tryz.ntmps124
    go_wp2
    go_ret
    exact retCl_nil rfl rfl (Below.refl _ _)
  | some ad =>
    have HR := Lib.hid hr
    have HM := Lib.hid hm
    clear hr hm
    go_enter Tryz.func124, Tryz.ntmps124
    go_wp2_with (at_builtin; refine wpList_app_rows _ rfl _ _ 121 rfl w.heap.size 220 i0 (.agg #[.int .i64 0, .int .i64 0]) 16 Tryz.underlying121 hi hz0 2 (by decide) hz1 hz2 rfl _ _ _ rfl (own_empty0 _ (Nat.le_refl _) _ _) _ _ _ ys rfl HM.out (HR.out.below (below_box _ _)) h1 (by unfold maxLen; omega) (by omega) (by simp) ?_)
    intro v' w2 hown hg
    have HO := Lib.hid hown
    have HB := Lib.hid (cl_below rfl hg)
    clear hown hg
    go_wp2_with fail
    go_ret
    exact ⟨v', rfl, HO.out, HB.out⟩
set_option maxRecDepth 100000 in
theorem clone0_Fate (c : Nat) (w : World) : Calls Tryz.prog 124 #[.slice none 0 c] w fun e w' => e = .returned (.slice none 0 0) ∧ w = w' := by
  have q22 : ∀ (w : World) (a : Option Addr) (n c n' c' : Nat), (binOp .eql 121 (.slice a n c) (.slice none n' c')).run Tryz.prog w = .ok (.bool a.isNone) w := fun w a n c n' c' => Lib.run_eql_slice_nil w _ _ a n c n' c' Tryz.underlying121
  go_enter Tryz.func124, Tryz.ntmps124
  go_wp2
  go_ret
  exact ⟨rfl, rfl⟩
theorem info_Adjacency : (Tryz.prog.info? 251).map (fun i => (i.zero, i.size, i.bytes)) = some (some (.agg #[.int .i64 0, .int .i64 0, .int .i64 0]), 3, 24) := by kernel_rfl
set_option maxRecDepth 100000 in
set_option maxHeartbeats 1000000 in
theorem clone_Adjacency (A : Option Addr) (n c : Nat) (ys : List Value) (w : World) (hr : Rd w A ys) (hm : ys.length = n * 3) (h1 : ∀ u ∈ ys, u.oneCell' = true) (hn : n ≤ 1000000) :
    Calls Tryz.prog 219 #[.slice A n c] w (RetCl 251 3 w n ys) := by
  obtain ⟨i0, hi, hz0, hz1, hz2⟩ := info_parts info_Adjacency
  have q22 : ∀ (w : World) (a : Option Addr) (n c n' c' : Nat), (binOp .eql 177 (.slice a n c) (.slice none n' c')).run Tryz.prog w = .ok (.bool a.isNone) w := fun w a n c n' c' => Lib.run_eql_slice_nil w _ _ a n c n' c' Tryz.underlying177
  cases A with
  | none =>
    obtain rfl := rd_none hr
    obtain rfl := cl_zero (by decide) hm
    clear hr hm
    go_enter Tryz.func219, Tryz.ntmps219
    go_wp2
    go_ret
    exact retCl_nil rfl rfl (Below.refl _ _)
  | some ad =>
    have HR := Lib.hid hr
    have HM := Lib.hid hm
    clear hr hm
    go_enter Tryz.func219, Tryz.ntmps219
    go_wp2_with (at_builtin; refine wpList_app_rows _ rfl _ _ 177 rfl w.heap.size 251 i0 (.agg #[.int .i64 0, .int .i64 0, .int .i64 0]) 24 Tryz.underlying177 hi hz0 3 (by decide) hz1 hz2 rfl _ _ _ rfl (own_empty0 _ (Nat.le_refl _) _ _) _ _ _ ys rfl HM.out (HR.out.below (below_box _ _)) h1 (by unfold maxLen; omega) (by omega) (by simp) ?_)
    intro v' w2 hown hg
    have HO := Lib.hid hown
    have HB := Lib.hid (cl_below rfl hg)
    clear hown hg
    go_wp2_with fail
    go_ret
    exact ⟨v', rfl, HO.out, HB.out⟩
set_option maxRecDepth 100000 in
theorem clone0_Adjacency (c : Nat) (w : World) : Calls Tryz.prog 219 #[.slice none 0 c] w fun e w' => e = .returned (.slice none 0 0) ∧ w = w' := by
  have q22 : ∀ (w : World) (a : Option Addr) (n c n' c' : Nat), (binOp .eql 177 (.slice a n c) (.slice none n' c')).run Tryz.prog w = .ok (.bool a.isNone) w := fun w a n c n' c' => Lib.run_eql_slice_nil w _ _ a n c n' c' Tryz.underlying177
  go_enter Tryz.func219, Tryz.ntmps219
  go_wp2
  go_ret
  exact ⟨rfl, rfl⟩
theorem info_Prefix : (Tryz.prog.info? 329).map (fun i => (i.zero, i.size, i.bytes)) = some (some (.agg #[.int .u32 0, .int .i64 0]), 2, 16) := by kernel_rfl
set_option maxRecDepth 100000 in
set_option maxHeartbeats 1000000 in
theorem clone_Prefix (A : Option Addr) (n c : Nat) (ys : List Value) (w : World) (hr : Rd w A ys) (hm : ys.length = n * 2) (h1 : ∀ u ∈ ys, u.oneCell' = true) (hn : n ≤ 1000000) :
    Calls Tryz.prog 220 #[.slice A n c] w (RetCl 329 2 w n ys) := by
  obtain ⟨i0, hi, hz0, hz1, hz2⟩ := info_parts info_Prefix
  have q22 : ∀ (w : World) (a : Option Addr) (n c n' c' : Nat), (binOp .eql 156 (.slice a n c) (.slice none n' c')).run Tryz.prog w = .ok (.bool a.isNone) w := fun w a n c n' c' => Lib.run_eql_slice_nil w _ _ a n c n' c' Tryz.underlying156
  cases A with
  | none =>
    obtain rfl := rd_none hr
    obtain rfl := cl_zero (by decide) hm
    clear hr hm
    go_enter Tryz.func220, Tryz.ntmps220
    go_wp2
    go_ret
    exact retCl_nil rfl rfl (Below.refl _ _)
  | some ad =>
    have HR := Lib.hid hr
    have HM := Lib.hid hm
    clear hr hm
    go_enter Tryz.func220, Tryz.ntmps220
    go_wp2_with (at_builtin; refine wpList_app_rows _ rfl _ _ 156 rfl w.heap.size 329 i0 (.agg #[.int .u32 0, .int .i64 0]) 16 Tryz.underlying156 hi hz0 2 (by decide) hz1 hz2 rfl _ _ _ rfl (own_empty0 _ (Nat.le_refl _) _ _) _ _ _ ys rfl HM.out (HR.out.below (below_box _ _)) h1 (by unfold maxLen; omega) (by omega) (by simp) ?_)
    intro v' w2 hown hg
    have HO := Lib.hid hown
    have HB := Lib.hid (cl_below rfl hg)
    clear hown hg
    go_wp2_with fail
    go_ret
    exact ⟨v', rfl, HO.out, HB.out⟩
set_option maxRecDepth 100000 in
theorem clone0_Prefix (c : Nat) (w : World) : Calls Tryz.prog 220 #[.slice none 0 c] w fun e w' => e = .returned (.slice none 0 0) ∧ w = w' := by
  have q22 : ∀ (w : World) (a : Option Addr) (n c n' c' : Nat), (binOp .eql 156 (.slice a n c) (.slice none n' c')).run Tryz.prog w = .ok (.bool a.isNone) w := fun w a n c n' c' => Lib.run_eql_slice_nil w _ _ a n c n' c' Tryz.underlying156
  go_enter Tryz.func220, Tryz.ntmps220
  go_wp2
  go_ret
  exact ⟨rfl, rfl⟩

end Go.Proofs.YtenhliibmcmnbaaGreat
