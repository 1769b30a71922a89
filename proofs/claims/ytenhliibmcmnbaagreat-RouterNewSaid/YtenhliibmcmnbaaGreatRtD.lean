/-
  The first advertisement of a node is installed and spread.
-/
import Derived.Test.YtenhliibmcmnbaaGreatRtK
namespace Go.Proofs.YtenhliibmcmnbaaGreat
set_option linter.unusedSimpArgs false
set_option linter.unusedVariables false
open Go.RowKit Go.Sort

set_option maxRecDepth 100000 in
set_option maxHeartbeats 2000000 in
theorem lsdb_Install0 (db mb : Nat) (v : Int) (ov : Bool) (w : World) (hv : isN 64 v = true) (h : Bl 242 db #[.map (some mb)] w) (hm : MapAt Tryz.prog 3 mb [] w) :
    Calls Tryz.prog 145 #[.pointer (some ⟨db, 0, none⟩), .agg #[.int .i64 v, .int .i64 1, .int .i64 0, .bool ov, .slice none 0 0, .slice none 0 0]] w fun e w' => e = .returned (.tuple #[.int .i64 1, .int .i64 0]) ∧ MapAt Tryz.prog 3 mb [(.int .i64 v, heldV v ov)] w' ∧ Kp [mb] w w' := by
  have HB := Lib.hid (h.up (below_box w (.cells #[.int .i64 v, .int .i64 1, .int .i64 0, .bool ov, .slice none 0 0, .slice none 0 0] 179)))
  have HM := Lib.hid (hm.up (below_box w (.cells #[.int .i64 v, .int .i64 1, .int .i64 0, .bool ov, .slice none 0 0, .slice none 0 0] 179)))
  have hlt := h.lt
  have HX := Lib.hid (Bl.new w #[.int .i64 v, .int .i64 1, .int .i64 0, .bool ov, .slice none 0 0, .slice none 0 0] 179)
  have HK := Lib.hid ((Kp.refl [mb] w).alloc (.cells #[.int .i64 v, .int .i64 1, .int .i64 0, .bool ov, .slice none 0 0, .slice none 0 0] 179))
  have HV := Lib.hid hv
  clear h hm hv
  obtain ⟨b0, fb⟩ := HB.out.c1
  obtain ⟨x0, x1, x2, x3, x4, x5, fx⟩ := HX.out.c6
  have heq : ∀ (w : World) (a : Option Nat), (binOp .eql 240 (.map a) (.map none)).run Tryz.prog w = .ok (.bool a.isNone) w := fun w a => run_eql_map_nil w _ _ _ a Tryz.underlying240
  go_enter Tryz.func145, Tryz.ntmps145
  go_wp2_with (first | (go_at_call 169; refine (lsa_Valid0 v 1 0 ov _ HV.out rfl rfl).mono ?_; rintro e w2 ⟨rfl, hb⟩; replace HB := Lib.hid (HB.out.up hb); replace HX := Lib.hid (HX.out.up hb); replace HM := Lib.hid (HM.out.up hb); replace HK := Lib.hid (HK.out.next hb); clear hb b0 fb x0 x1 x2 x3 x4 x5 fx; obtain ⟨b0, fb⟩ := HB.out.c1; obtain ⟨x0, x1, x2, x3, x4, x5, fx⟩ := HX.out.c6))
  have hl1 := look_no mb [] v true w2.drew HM.out (big_N HV.out) (by simp)
  have hl2 := look_no mb [] v true (w2.alloc (.cells #[.int .i64 0, .int .i64 0, .int .i64 0, .bool false, .slice none 0 0, .slice none 0 0, .int .i64 0] 296)).drew (HM.out.up (Bdrw (below_box w2 _))) (big_N HV.out) (by simp)
  simp only [held0, if_true] at hl1 hl2
  have s1 := HX.out.lt
  have s2 := HB.out.lt
  have n1 := Nat.ne_of_lt s1
  have n2 := Nat.ne_of_gt s1
  have n3 := Nat.ne_of_lt s2
  have n4 := Nat.ne_of_gt s2
  clear hlt
  go_region
  all_goals
    go_wp2_with fail
    go_region_with (go_at_call 168; refine (lsdb_clone0 v 1 0 ov _).mono ?_; rintro e w3 ⟨rfl, hb⟩; have HM3 := Lib.hid (MapAt.kept HM.out ((hb.block mb (by have := HM.out.lt; simp; omega)).trans (by first | rfl | exact Below.heap_alloc _ _ mb HM.out.lt))); have HK3 := Lib.hid ((HK.out.next (Bdrw (Bdrw (below_box w2 (.cells #[.int .i64 0, .int .i64 0, .int .i64 0, .bool false, .slice none 0 0, .slice none 0 0, .int .i64 0] 296))))).next hb); obtain ⟨w4, hu, hm4, hg4⟩ := HM3.out.store key_int Tryz.underlying240 (keyI v (big_N HV.out)) (heldV v ov) (by simp); unfold heldV at hu; obtain ⟨y0, _⟩ := ((HB.out.up (Bdrw (Bdrw (below_box w2 (.cells #[.int .i64 0, .int .i64 0, .int .i64 0, .bool false, .slice none 0 0, .slice none 0 0, .int .i64 0] 296))))).up hb).c1; obtain ⟨z0, _⟩ := ((HX.out.up (Bdrw (Bdrw (below_box w2 (.cells #[.int .i64 0, .int .i64 0, .int .i64 0, .bool false, .slice none 0 0, .slice none 0 0, .int .i64 0] 296))))).up hb).c6; clear hb)
    all_goals
      go_wp2_with fail
      go_ret2
      exact ⟨rfl, hm4, HK3.out.map hg4 (.inl (by simp))⟩

end Go.Proofs.YtenhliibmcmnbaaGreat
