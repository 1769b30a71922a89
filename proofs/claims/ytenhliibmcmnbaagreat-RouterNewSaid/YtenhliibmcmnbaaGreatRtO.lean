/-
  A fresh router: look, the stages.
-/
import Derived.Test.YtenhliibmcmnbaaGreatRtN
namespace Go.Proofs.YtenhliibmcmnbaaGreat
set_option linter.unusedSimpArgs false
set_option linter.unusedVariables false
open Go.RowKit Go.Sort

set_option maxRecDepth 100000 in
set_option maxHeartbeats 4000000 in
theorem router_look0 (rb sb : Nat) (v : Int) (t : Topo) (w : World) (hv : valid t = true) (hn : isN t.n v = true) (hc : w.cell? ⟨rb, 6, none⟩ = some (.pointer (some ⟨sb, 0, none⟩))) (h : SpkAt t v sb w) :
    Calls Tryz.prog 35 #[.pointer (some ⟨rb, 0, none⟩)] w fun e w' => ∃ B1 B2 d1 d2 D, e = .returned (.agg #[.int .i64 t.n, .slice B1 (viewT t v).ov.length d1, .slice B2 t.ls.length d2, .slice D (2 * t.ls.length) (2 * t.ls.length)]) ∧ Vw t v w.heap.size B1 B2 D w' ∧ Below w.heap.size w w' := by
  have hbx := below_box w (.cells #[.int .i64 0, .slice none 0 0, .slice none 0 0, .slice none 0 0] 97)
  have HY := Lib.hid (Bl.new w #[.int .i64 0, .slice none 0 0, .slice none 0 0, .slice none 0 0] 97)
  have HS := Lib.hid (h.up hbx)
  have HV := Lib.hid hv
  have HN := Lib.hid hn
  have HB := Lib.hid hbx
  have hlt := block_lt_of_cell hc
  have hX1 : w.heap.size < (w.alloc (.cells #[.int .i64 0, .slice none 0 0, .slice none 0 0, .slice none 0 0] 97)).heap.size := by simp
  have HX1 := Lib.hid hX1
  clear h hbx hv hn hX1
  go_enter Tryz.func35, Tryz.ntmps35
  go_upto_region 2 with (go_at_call 81; (with_reducible refine (speaker_View0 sb v t _ HV.out HN.out HS.out).mono ?_); rintro e w3 ⟨B1, B2, d1, d2, D, rfl, hvw, hb⟩; have HVW := Lib.hid hvw; have HY3 := Lib.hid (HY.out.up hb); have HB3 := Lib.hid (HB.out.trans (hb.mono (by simp))); have HW3 : Hid (w.heap.size < w3.heap.size) := Lib.hid (Nat.lt_of_lt_of_le HX1.out hb.size); clear hb hvw hc)
  have n5 : w.heap.size ≠ w3.heap.size := by have := HW3.out; omega
  have n6 : w.heap.size + 1 ≤ (w.alloc (.cells #[.int .i64 0, .slice none 0 0, .slice none 0 0, .slice none 0 0] 97)).heap.size := by simp
  have n7 : w.heap.size ≤ w3.heap.size := by have := HW3.out; omega
  refine wp_named (fun Y => (∃ p, p = w3.heap.size ∧ Bl 25 p #[.int .i64 t.n, .slice B1 (viewT t v).ov.length d1, .slice B2 t.ls.length d2] Y ∧ p ≠ w.heap.size) ∧ Bl 97 w.heap.size #[.int .i64 0, .slice none 0 0, .slice none 0 0, .slice none 0 0] Y ∧ Vw t v (w.heap.size + 1) B1 B2 D Y ∧ Below w.heap.size w Y) ⟨⟨_, rfl, Bl.new w3 _ _, n5.symm⟩, HY3.out.up (below_box _ _), (HVW.out.up (below_box _ _)).mono n6, HB3.out.alloc n7 _⟩ ?_
  rintro Y ⟨⟨p, hp, hb1, hne⟩, hb2, hvw, hbe⟩
  rw [← hp]
  have HVY := Lib.hid hvw
  have HBY := Lib.hid hbe
  obtain ⟨z0, z1, z2, fz⟩ := hb1.c3
  obtain ⟨y0, y1, y2, y3, fy⟩ := hb2.c4
  have hne2 := hne.symm
  clear hb1 hb2 hvw hbe n5 n6 n7 hp
  go_wp2_with fail
  exact bodyPost_ret (v := .agg #[.int .i64 t.n, .slice B1 (viewT t v).ov.length d1, .slice B2 t.ls.length d2, .slice D (2 * t.ls.length) (2 * t.ls.length)]) (by simp [results, Tryz.results35, go_sem, y0, y1, y2, y3]) rfl ⟨B1, B2, d1, d2, D, rfl, Vw.mono ((((HVY.out.set (Nat.lt_succ_self _) 0 _).set (Nat.lt_succ_self _) 1 _).set (Nat.lt_succ_self _) 2 _).set (Nat.lt_succ_self _) 3 _) (Nat.le_succ _), by (repeat' (first | (with_reducible exact HBY.out) | (with_reducible refine Bset ?_ ?_) | (with_reducible refine Bdrw ?_) | (with_reducible refine Bbox ?_ ?_) | omega | (simp; done) | (simp; omega)))⟩
set_option maxHeartbeats 2000000 in
theorem stages_Valid0 (g h : Int) (w : World) : Calls Tryz.prog 31 #[.agg #[.int .i64 3, .int .i64 0], .agg #[.int .i64 g, .int .i64 h]] w fun e w' => e = .returned (.bool (inR g 1 65536 && inR h 1 65536)) ∧ Below w.heap.size w w' := by
  obtain ⟨B1, B2⟩ := two_new w #[.int .i64 3, .int .i64 0] #[.int .i64 g, .int .i64 h] 88 85
  have hB := Lib.hid (below_two w (.cells #[.int .i64 3, .int .i64 0] 88) (.cells #[.int .i64 g, .int .i64 h] 85))
  obtain ⟨a0, a1, af⟩ := B1.c2
  obtain ⟨b0, b1, bf⟩ := B2.c2
  clear B1 B2
  by_cases h1 : g < 1
  · have HR : Hid ((inR g 1 65536 && inR h 1 65536) = false) := Lib.hid (by simp [inR]; omega)
    go_enter Tryz.func31, Tryz.ntmps31
    go_wp2_with fail
    go_ret
    exact ⟨by rw [HR.out]; rfl, hB.out⟩
  by_cases h2 : 65536 < g
  · have HR : Hid ((inR g 1 65536 && inR h 1 65536) = false) := Lib.hid (by simp [inR]; omega)
    go_enter Tryz.func31, Tryz.ntmps31
    go_wp2_with fail
    go_ret
    exact ⟨by rw [HR.out]; rfl, hB.out⟩
  by_cases h3 : h < 1
  · have HR : Hid ((inR g 1 65536 && inR h 1 65536) = false) := Lib.hid (by simp [inR]; omega)
    go_enter Tryz.func31, Tryz.ntmps31
    go_wp2_with fail
    go_ret
    exact ⟨by rw [HR.out]; rfl, hB.out⟩
  by_cases h4 : 65536 < h
  · have HR : Hid ((inR g 1 65536 && inR h 1 65536) = false) := Lib.hid (by simp [inR]; omega)
    go_enter Tryz.func31, Tryz.ntmps31
    go_wp2_with fail
    go_ret
    exact ⟨by rw [HR.out]; rfl, hB.out⟩
  have HR : Hid ((inR g 1 65536 && inR h 1 65536) = true) := Lib.hid (by simp [inR]; omega)
  go_enter Tryz.func31, Tryz.ntmps31
  go_wp2_with fail
  have kq_a0 := cell_regrown a0
  have kq_a1 := cell_regrown a1
  refine wp_region_quiet_below (by kernel_rfl) (by kernel_rfl) ?_
  repeat (go_big_quiet_step (with_reducible exact Calls.regrown_of (stages_Start _)))
  refine wpQuiet_nil ?_
  intro w2 hb2
  replace hb2 := below_of_regrown hb2
  clear kq_a0 kq_a1
  replace a0 := cell_up hb2 a0
  replace a1 := cell_up hb2 a1
  go_wp2_with fail
  go_ret
  exact ⟨by rw [HR.out]; rfl, hB.out.trans (hb2.mono (by simp; omega))⟩
theorem stages_Effective0 (b : Bool) (w : World) : Calls Tryz.prog 45 #[.agg #[.int .i64 3, .int .i64 0], .bool b] w fun e w' => e = .returned (.int .i64 3) ∧ Below w.heap.size w w' := by
  go_enter Tryz.func45, Tryz.ntmps45
  go_wp2_with fail
  go_ret
  exact ⟨rfl, below_box _ _⟩

end Go.Proofs.YtenhliibmcmnbaaGreat
