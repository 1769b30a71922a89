/-
  router.New.
-/
import Derived.Test.YtenhliibmcmnbaaGreatRtO
import Derived.Test.YtenhliibmcmnbaaGreatRtH
namespace Go.Proofs.YtenhliibmcmnbaaGreat
set_option linter.unusedSimpArgs false
set_option linter.unusedVariables false
open Go.RowKit Go.Sort

/-- The boxes of router.New's parameters. -/
structure RBox (w : World) (A1 A2 : Option Addr) (c1 c2 : Nat) (t : Topo) (h1 h2 h3 g s : Int) (wr : World) : Prop where
  b : TBox w A1 A2 c1 c2 t wr
  k : Bl 28 (w.heap.size + 1) #[.int .i64 h1, .int .i64 h2, .int .i64 h3, .int .i64 g, .int .i64 s] wr
theorem RBox.up {w wr w' : World} {A1 A2 : Option Addr} {c1 c2 : Nat} {t : Topo} {h1 h2 h3 g s : Int} (h : RBox w A1 A2 c1 c2 t h1 h2 h3 g s wr) (hb : Below wr.heap.size wr w') : RBox w A1 A2 c1 c2 t h1 h2 h3 g s w' := ⟨h.b.up hb, h.k.up hb⟩
theorem Bl.c5 {T : TypeId} {b : Nat} {x0 x1 x2 x3 x4 : Value} {w : World} (h : Bl T b #[x0, x1, x2, x3, x4] w) : w.cell? ⟨b, 0, none⟩ = some x0 ∧ w.cell? ⟨b, 1, none⟩ = some x1 ∧ w.cell? ⟨b, 2, none⟩ = some x2 ∧ w.cell? ⟨b, 3, none⟩ = some x3 ∧ w.cell? ⟨b, 4, none⟩ = some x4 ∧ ∀ i, w.frozen? ⟨b, i, none⟩ = false :=
  ⟨h.cell 0 rfl, h.cell 1 rfl, h.cell 2 rfl, h.cell 3 rfl, h.cell 4 rfl, h.frz⟩
theorem two_size (w : World) (o p : Obj) : ((w.alloc o).alloc p).heap.size = w.heap.size + 2 := by simp
theorem RBox.start {w : World} {A1 A2 : Option Addr} {t : Topo} (c1 c2 : Nat) (h1 h2 h3 g s : Int) (hT : TAt w A1 A2 t) :
    RBox w A1 A2 c1 c2 t h1 h2 h3 g s ((w.alloc (.cells #[.int .i64 t.n, .slice A1 t.ov.length c1, .slice A2 t.ls.length c2] 25)).alloc (.cells #[.int .i64 h1, .int .i64 h2, .int .i64 h3, .int .i64 g, .int .i64 s] 28)) :=
  ⟨(TBox.start c1 c2 hT).up (below_box _ _), (two_new w _ _ _ _).2⟩
section
variable {w : World} {A1 A2 : Option Addr} {t : Topo}
set_option maxRecDepth 100000 in
set_option maxHeartbeats 2000000 in
theorem router_New_bad1 (c1 c2 : Nat) (v bt h1 h2 h3 g s : Int) (hT : TAt w A1 A2 t) (hx : (inR g 1 65536 && inR s 1 65536) = false) :
    Calls Tryz.prog 6 #[.agg #[.int .i64 t.n, .slice A1 t.ov.length c1, .slice A2 t.ls.length c2], .int .i64 v, .int .i64 bt, .agg #[.int .i64 h1, .int .i64 h2, .int .i64 h3, .int .i64 g, .int .i64 s]] w fun e w' => e = .returned (.tuple #[.pointer none, .int .i64 1]) ∧ Below w.heap.size w w' := by
  have hR := RBox.start c1 c2 h1 h2 h3 g s hT
  obtain ⟨k0, k1, k2, k3, k4, fk⟩ := hR.k.c5
  have HB := Lib.hid hR.b.hb
  have HZ := Lib.hid (two_size w (.cells #[.int .i64 t.n, .slice A1 t.ov.length c1, .slice A2 t.ls.length c2] 25) (.cells #[.int .i64 h1, .int .i64 h2, .int .i64 h3, .int .i64 g, .int .i64 s] 28))
  clear hT hR k0 k1 k2
  go_enter Tryz.func6, Tryz.ntmps6
  go_upto_region 2 with fail
  refine wp_named (fun Y => (∃ p, p = w.heap.size + 2 ∧ Bl 85 p #[.int .i64 g, .int .i64 s] Y) ∧ Below w.heap.size w Y) ⟨⟨_, rfl, HZ.out ▸ Bl.new _ _ _⟩, by (repeat' (first | (with_reducible exact HB.out) | (with_reducible refine Bset ?_ ?_) | (with_reducible refine Bdrw ?_) | (with_reducible refine Bbox ?_ ?_) | omega | (simp; done) | (simp; omega)))⟩ ?_
  rintro Y ⟨⟨p, hp, hb1⟩, hb2⟩
  obtain ⟨z0, z1, fz⟩ := hb1.c2
  have HY := Lib.hid hb2
  rw [← hp]
  clear hb1 hb2 hp fz k3 k4 fk
  have kq_z0 := cell_regrown z0
  have kq_z1 := cell_regrown z1
  refine wp_region_quiet_below (by kernel_rfl) (by kernel_rfl) ?_
  repeat (go_big_quiet_step (first | with_reducible exact Calls.regrown_of (stages_Start _) | with_reducible exact Calls.regrown_of (stages_Valid0 _ _ _)))
  refine wpQuiet_nil ?_
  intro w2 hb2
  replace hb2 := below_of_regrown hb2
  clear kq_z0 kq_z1
  replace z0 := cell_up hb2 z0
  replace z1 := cell_up hb2 z1
  rw [hx]
  go_wp2_with fail
  go_ret2
  exact ⟨rfl, below_next HY.out hb2⟩
set_option maxRecDepth 100000 in
set_option maxHeartbeats 2000000 in
theorem router_New_bad2 (c1 c2 : Nat) (v bt h1 h2 h3 g s k : Int) (hk : k = 1 ∨ k = 2) (hT : TAt w A1 A2 t) (hx : (inR g 1 65536 && inR s 1 65536) = true)
    (hS : ∀ (W : World) (c1 c2 : Nat), TAt W A1 A2 t → Calls Tryz.prog 33 #[.agg #[.int .i64 t.n, .slice A1 t.ov.length c1, .slice A2 t.ls.length c2], .int .i64 v, .int .i64 bt, .agg #[.int .i64 h1, .int .i64 h2, .int .i64 h3]] W fun e w' => e = .returned (.tuple #[.pointer none, .int .i64 k]) ∧ Below W.heap.size W w') :
    Calls Tryz.prog 6 #[.agg #[.int .i64 t.n, .slice A1 t.ov.length c1, .slice A2 t.ls.length c2], .int .i64 v, .int .i64 bt, .agg #[.int .i64 h1, .int .i64 h2, .int .i64 h3, .int .i64 g, .int .i64 s]] w fun e w' => e = .returned (.tuple #[.pointer none, .int .i64 k]) ∧ Below w.heap.size w w' := by
  have hR := RBox.start c1 c2 h1 h2 h3 g s hT
  obtain ⟨k0, k1, k2, k3, k4, fk⟩ := hR.k.c5
  have HR := Lib.hid hR
  have HSP := Lib.hid hS
  have HZ := Lib.hid (two_size w (.cells #[.int .i64 t.n, .slice A1 t.ov.length c1, .slice A2 t.ls.length c2] 25) (.cells #[.int .i64 h1, .int .i64 h2, .int .i64 h3, .int .i64 g, .int .i64 s] 28))
  have hkn : (k != 0) = true := by rcases hk with rfl | rfl <;> rfl
  clear hT hR hS k0 k1 k2 hk
  go_enter Tryz.func6, Tryz.ntmps6
  go_upto_region 2 with fail
  refine wp_named (fun Y => (∃ p, p = w.heap.size + 2 ∧ Bl 85 p #[.int .i64 g, .int .i64 s] Y) ∧ RBox w A1 A2 c1 c2 t h1 h2 h3 g s Y) ⟨⟨_, rfl, HZ.out ▸ Bl.new _ _ _⟩, HR.out.up (below_box _ _)⟩ ?_
  rintro Y ⟨⟨p, hp, hb1⟩, hb2⟩
  obtain ⟨z0, z1, fz⟩ := hb1.c2
  rw [← hp]
  clear hb1 hp fz k3 k4 fk HR
  have HR := Lib.hid hb2
  clear hb2
  have kq_z0 := cell_regrown z0
  have kq_z1 := cell_regrown z1
  refine wp_region_quiet_below (by kernel_rfl) (by kernel_rfl) ?_
  repeat (go_big_quiet_step (first | with_reducible exact Calls.regrown_of (stages_Start _) | with_reducible exact Calls.regrown_of (stages_Valid0 _ _ _)))
  refine wpQuiet_nil ?_
  intro w2 hb2
  replace hb2 := below_of_regrown hb2
  clear kq_z0 kq_z1
  replace z0 := cell_up hb2 z0
  replace z1 := cell_up hb2 z1
  rw [hx]
  replace HR := Lib.hid (HR.out.up hb2)
  obtain ⟨b0, b1, b2⟩ := HR.out.b.cells
  obtain ⟨k0, k1, k2, k3, k4, fk⟩ := HR.out.k.c5
  clear k3 k4 hb2
  go_wp2_with (go_at_call 33; (with_reducible refine (HSP.out _ _ _ HR.out.b.ta).mono ?_); rintro e w3 ⟨rfl, hb⟩; replace HR := Lib.hid (HR.out.up hb); clear hb)
  go_ret2
  exact ⟨rfl, HR.out.b.hb⟩
end
end Go.Proofs.YtenhliibmcmnbaaGreat
