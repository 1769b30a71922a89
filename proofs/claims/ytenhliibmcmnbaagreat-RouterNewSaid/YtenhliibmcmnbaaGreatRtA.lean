/-
  Small functions of the packages stages, lsdb, flood, origin, lsa, speaker, graph.
-/
import Derived.Test.YtenhliibmcmnbaaGreatKp
namespace Go.Proofs.YtenhliibmcmnbaaGreat
set_option linter.unusedSimpArgs false
set_option linter.unusedVariables false
open Go.RowKit Go.Sort

theorem speaker_within (n lo hi : Int) (w : World) :
    Calls Tryz.prog 70 #[.int .i64 n, .int .i64 lo, .int .i64 hi] w fun e w' => e = .returned (.bool (inR n lo hi)) ∧ w = w' := by
  by_cases h1 : lo ≤ n <;> by_cases h2 : n ≤ hi <;>
  (go_enter Tryz.func70, Tryz.ntmps70
   go_wp2
   go_ret
   simp [h1, h2, inR]) <;> omega
theorem lsa_within (n lo hi : Int) (w : World) :
    Calls Tryz.prog 221 #[.int .i64 n, .int .i64 lo, .int .i64 hi] w fun e w' => e = .returned (.bool (inR n lo hi)) ∧ w = w' := by
  by_cases h1 : lo ≤ n <;> by_cases h2 : n ≤ hi <;>
  (go_enter Tryz.func221, Tryz.ntmps221
   go_wp2
   go_ret
   simp [h1, h2, inR]) <;> omega
theorem stages_Start (w : World) : Calls Tryz.prog 32 #[] w fun e w' => e = .returned (.agg #[.int .i64 3, .int .i64 0]) ∧ Below w.heap.size w w' := by
  go_enter Tryz.func32, Tryz.ntmps32
  go_wp2
  refine bodyPost_ret (v := .agg #[.int .i64 3, .int .i64 0]) (by simp [results, Tryz.results32, go_sem]) rfl ⟨rfl, below_box _ _⟩
theorem lsdb_New (w : World) : Calls Tryz.prog 72 #[] w fun e w' => ∃ mb db, e = .returned (.pointer (some ⟨db, 0, none⟩)) ∧ Bl 242 db #[.map (some mb)] w' ∧ MapAt Tryz.prog 3 mb [] w' ∧ w.heap.size ≤ mb ∧ w.heap.size ≤ db ∧ Below w.heap.size w w' := by
  have hmm := @run_makeMap Tryz.prog
  go_enter Tryz.func72, Tryz.ntmps72
  go_wp2
  go_ret
  exact ⟨w.heap.size, w.heap.size + 1, rfl, by simpa using Bl.new (w.alloc (.map #[] 0)) #[.map (some w.heap.size)] 242, (MapAt.made Tryz.prog 3 w).up (below_box _ _), Nat.le_refl _, Nat.le_succ _, (below_box _ _).trans ((below_box (w.alloc _) _).mono (by simp))⟩
theorem flood_New (n : Int) (w : World) (h : inR n 1 65536 = true) : Calls Tryz.prog 73 #[.int .i64 n] w fun e w' => ∃ mb fb, e = .returned (.tuple #[.pointer (some ⟨fb, 0, none⟩), .int .i64 0]) ∧ Bl 245 fb #[.int .i64 n, .map (some mb)] w' ∧ MapAt Tryz.prog 3 mb [] w' ∧ w.heap.size ≤ mb ∧ w.heap.size ≤ fb ∧ Below w.heap.size w w' := by
  obtain ⟨h1, h2⟩ := inR_true.1 h
  clear h
  have hmm := @run_makeMap Tryz.prog
  go_enter Tryz.func73, Tryz.ntmps73
  go_wp2
  go_ret2
  exact ⟨w.heap.size, w.heap.size + 1, rfl, by simpa using Bl.new (w.alloc (.map #[] 0)) #[.int .i64 n, .map (some w.heap.size)] 245, (MapAt.made Tryz.prog 3 w).up (below_box _ _), Nat.le_refl _, Nat.le_succ _, (below_box _ _).trans ((below_box (w.alloc _) _).mono (by simp))⟩
theorem origin_New (n : Int) (w : World) (h : isN 64 n = true) : Calls Tryz.prog 74 #[.int .i64 n] w fun e w' => ∃ ob, e = .returned (.tuple #[.pointer (some ⟨ob, 0, none⟩), .int .i64 0]) ∧ Bl 249 ob #[.bool false, .slice none 0 0, .slice none 0 0, .int .i64 n, .int .i64 0, .bool false, .int .i64 0] w' ∧ w.heap.size ≤ ob ∧ Below w.heap.size w w' := by
  obtain ⟨h1, h2⟩ := isN_true.1 h
  clear h
  go_enter Tryz.func74, Tryz.ntmps74
  go_wp2
  go_ret2
  exact ⟨w.heap.size, rfl, Bl.new w _ _, Nat.le_refl _, below_box _ _⟩

end Go.Proofs.YtenhliibmcmnbaaGreat
