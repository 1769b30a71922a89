/-
  The first advertisement of a node: Current, Install.
-/
import Derived.Test.YtenhliibmcmnbaaGreatRtB
import Derived.Maps.Keyed
namespace Go.Proofs.YtenhliibmcmnbaaGreat
set_option linter.unusedSimpArgs false
set_option linter.unusedVariables false
open Go.RowKit Go.Sort

set_option maxRecDepth 100000 in
set_option maxHeartbeats 1000000 in
theorem origin_Current1 (ob : Nat) (v : Int) (ov : Bool) (w : World) (h : Bl 249 ob #[.bool ov, .slice none 0 0, .slice none 0 0, .int .i64 v, .int .i64 1, .bool true, .int .i64 0] w) :
    Calls Tryz.prog 173 #[.pointer (some ⟨ob, 0, none⟩)] w fun e w' => e = .returned (.tuple #[.agg #[.int .i64 v, .int .i64 1, .int .i64 0, .bool ov, .slice none 0 0, .slice none 0 0], .bool true]) ∧ Below w.heap.size w w' := by
  have hlt := h.lt
  have HB := Lib.hid (h.up (below_box w (.cells #[.int .i64 0, .int .i64 0, .int .i64 0, .bool false, .slice none 0 0, .slice none 0 0] 179)))
  obtain ⟨b0, b1, b2, b3, b4, b5, b6, fb⟩ := h.c7
  obtain ⟨b0, b1, b2, b3, b4, b5, b6, fb⟩ := HB.out.c7
  have HD := Lib.hid (Bl.new w #[.int .i64 0, .int .i64 0, .int .i64 0, .bool false, .slice none 0 0, .slice none 0 0] 179)
  clear h
  go_enter Tryz.func173, Tryz.ntmps173
  go_wp2_with fail
  go_region_with (go_at_call 188; refine (origin_adv0 ob v _ _ _ _ (by first | exact b3 | assumption)).mono ?_; rintro e w1 ⟨rfl, hb⟩; have HD1 := Lib.hid (Bl.via hb HD.out); have HB1 := Lib.hid ((Bdrw (below_box w (.cells #[.int .i64 0, .int .i64 0, .int .i64 0, .bool false, .slice none 0 0, .slice none 0 0] 179))).trans (hb.mono (by simp))); obtain ⟨d0, d1, d2, d3, d4, d5, fd⟩ := HD1.out.c6; clear hb)
  all_goals
    go_wp2_with fail
    exact bodyPost_ret (v := .tuple #[.agg #[.int .i64 v, .int .i64 1, .int .i64 0, .bool ov, .slice none 0 0, .slice none 0 0], .bool true]) (by simp [results, Tryz.results173, go_sem, d0, d1, d2, d3, d4, d5]) rfl ⟨rfl, by (repeat' (first | (with_reducible exact HB1.out) | (with_reducible refine Bset ?_ ?_) | (with_reducible refine Bdrw ?_) | (with_reducible refine Bbox ?_ ?_) | omega | (simp; done) | (simp; omega)))⟩
set_option maxRecDepth 100000 in
theorem lsdb_clone0 (v seq age : Int) (ov : Bool) (w : World) : Calls Tryz.prog 168 #[.agg #[.int .i64 v, .int .i64 seq, .int .i64 age, .bool ov, .slice none 0 0, .slice none 0 0]] w fun e w' => e = .returned (.agg #[.int .i64 v, .int .i64 seq, .int .i64 age, .bool ov, .slice none 0 0, .slice none 0 0]) ∧ Below w.heap.size w w' := by
  go_enter Tryz.func168, Tryz.ntmps168
  go_wp2_with (first | (go_at_call 219; refine (clone0_Adjacency _ _).mono ?_; rintro e w' ⟨rfl, rfl⟩) | (go_at_call 220; refine (clone0_Prefix _ _).mono ?_; rintro e w' ⟨rfl, rfl⟩))
  exact bodyPost_ret (v := .agg #[.int .i64 v, .int .i64 seq, .int .i64 age, .bool ov, .slice none 0 0, .slice none 0 0]) (by simp [results, Tryz.results168, go_sem]) rfl ⟨rfl, below_two _ _ _⟩
theorem key_int : Go.Maps.Keyed Tryz.prog 3 := Go.Maps.int_keyed Tryz.underlying3
/-- What the database holds of a node. -/
def heldV (v : Int) (ov : Bool) : Value := .agg #[.int .i64 v, .int .i64 1, .int .i64 0, .bool ov, .slice none 0 0, .slice none 0 0, .int .i64 60]
def held0 : Value := .agg #[.int .i64 0, .int .i64 0, .int .i64 0, .bool false, .slice none 0 0, .slice none 0 0, .int .i64 0]
theorem zero_held (w : World) : (zeroValue 296).run Tryz.prog w = .ok held0 w := by kernel_rfl
theorem keyI (v : Int) (h : isN 1000000 v = true) : keyOf Tryz.prog 3 (.int .i64 v) = some (.int .i64 v) := by
  obtain ⟨h1, h2⟩ := isN_true.1 h
  have e1 : IntKind.i64.min = -9223372036854775808 := by decide
  have e2 : IntKind.i64.max = 9223372036854775807 := by decide
  exact Go.Maps.keyOf_int_mk Tryz.underlying3 (by simp [Lit.wf, e1, e2]; omega)
theorem look_no (mb : Nat) (L : List (Value × Value)) (v : Int) (c : Bool) (W : World) (h : MapAt Tryz.prog 3 mb L W) (hv : isN 1000000 v = true) (hm : ∀ x ∈ L, x.1 ≠ (.int .i64 v : Value)) :
    (Instr.lookup 240 (.map (some mb)) (.int .i64 v) c).run Tryz.prog W = .ok (if c then .tuple #[held0, .bool false] else held0) W :=
  h.miss key_int Tryz.underlying240 (zero_held W) (keyI v hv) c hm
theorem look_yes (mb : Nat) (v : Int) (x : Value) (c : Bool) (W : World) (h : MapAt Tryz.prog 3 mb [(.int .i64 v, x)] W) (hv : isN 1000000 v = true) :
    (Instr.lookup 240 (.map (some mb)) (.int .i64 v) c).run Tryz.prog W = .ok (if c then .tuple #[x, .bool true] else x) W :=
  h.hit key_int Tryz.underlying240 (keyI v hv) c (by simp)
theorem big_N {v : Int} (h : isN 64 v = true) : isN 1000000 v = true := by rw [isN_true] at h ⊢; omega

end Go.Proofs.YtenhliibmcmnbaaGreat
