/-
  waypointlaw54.own: the setup as the program takes it (printed by gen_nvp.py).
-/
import Derived.Test.YtenhliibmcmnbaaGreatNvO
import Derived.Test.YtenhliibmcmnbaaGreatPkNvE
namespace Go.Proofs.YtenhliibmcmnbaaGreat
set_option linter.unusedSimpArgs false
set_option linter.unusedVariables false
open Go.RowKit Go.Sort
/-- What own loads. -/
def SOW (t : Topo) (A1 A2 C D : Option Addr) (k1 k2 k3 k4 nc nd : Nat) (h1 h2 h3 g s det room : Int) (b ab : Nat) (W : World) : Prop :=
 W.cell? ⟨b, 0, none⟩ = some (.int .i64 t.n) ∧ W.cell? ⟨b, 1, none⟩ = some (.slice A1 t.ov.length k1) ∧ W.cell? ⟨b, 2, none⟩ = some (.slice A2 t.ls.length k2) ∧ W.cell? ⟨ab, 0, none⟩ = some (.int .i64 h1) ∧ W.cell? ⟨ab, 1, none⟩ = some (.int .i64 h2) ∧ W.cell? ⟨ab, 2, none⟩ = some (.int .i64 h3) ∧ W.cell? ⟨ab, 3, none⟩ = some (.int .i64 g) ∧ W.cell? ⟨ab, 4, none⟩ = some (.int .i64 s) ∧ W.cell? ⟨b, 8, none⟩ = some (.int .i64 det) ∧ W.cell? ⟨b, 9, none⟩ = some (.int .i64 room) ∧ W.cell? ⟨b, 10, none⟩ = some (.slice C nc k3) ∧ W.cell? ⟨b, 11, none⟩ = some (.slice D nd k4)
theorem SOW.up {t : Topo} {A1 A2 C D : Option Addr} {k1 k2 k3 k4 nc nd : Nat} {h1 h2 h3 g s det room : Int} {b ab : Nat} {W W' : World} (hb : Below W.heap.size W W') (h : SOW t A1 A2 C D k1 k2 k3 k4 nc nd h1 h2 h3 g s det room b ab W) : SOW t A1 A2 C D k1 k2 k3 k4 nc nd h1 h2 h3 g s det room b ab W' :=
 ⟨cell_up hb h.1, cell_up hb h.2.1, cell_up hb h.2.2.1, cell_up hb h.2.2.2.1, cell_up hb h.2.2.2.2.1, cell_up hb h.2.2.2.2.2.1, cell_up hb h.2.2.2.2.2.2.1, cell_up hb h.2.2.2.2.2.2.2.1, cell_up hb h.2.2.2.2.2.2.2.2.1, cell_up hb h.2.2.2.2.2.2.2.2.2.1, cell_up hb h.2.2.2.2.2.2.2.2.2.2.1, cell_up hb h.2.2.2.2.2.2.2.2.2.2.2⟩
theorem ft_small {L L' : List FtL} (h : L'.map (·.2.2) = L.map (·.2.2)) (h2 : ∀ x ∈ L, x.2.2.length ≤ 20) : ∀ x ∈ L', x.2.2.length ≤ 1000000 := fun x hx => by
 have hm : x.2.2 ∈ L'.map (·.2.2) := List.mem_map.2 ⟨x, hx, rfl⟩
 rw [h] at hm
 obtain ⟨y, hy, e⟩ := List.mem_map.1 hm
 have := h2 y hy
 rw [← e]
 omega
theorem three_boxes (w : World) (c1 c2 c3 : Array Value) (T1 T2 T3 : TypeId) : Bl T1 w.heap.size c1 (((w.alloc (.cells c1 T1)).alloc (.cells c2 T2)).alloc (.cells c3 T3)) ∧ Bl T2 (w.heap.size + 1) c2 (((w.alloc (.cells c1 T1)).alloc (.cells c2 T2)).alloc (.cells c3 T3)) ∧ Bl T3 (w.heap.size + 2) c3 (((w.alloc (.cells c1 T1)).alloc (.cells c2 T2)).alloc (.cells c3 T3)) ∧ Below w.heap.size w (((w.alloc (.cells c1 T1)).alloc (.cells c2 T2)).alloc (.cells c3 T3)) := by
 obtain ⟨h1, h2⟩ := two_new w c1 c2 T1 T2
 have hb := below_box ((w.alloc (.cells c1 T1)).alloc (.cells c2 T2)) (.cells c3 T3)
 exact ⟨h1.up hb, h2.up hb, by simpa using Bl.new ((w.alloc (.cells c1 T1)).alloc (.cells c2 T2)) c3 T3, below_next (below_two w _ _) hb⟩
/-- What is carried along: the boxes, the copies. -/
structure VO (w : World) (b p2 : Nat) (cx : Array Value) (v1 v2 : Value) (L1 L2 : List FtL) (W : World) : Prop where
 x : Bl 61 b cx W
 r : Bl 66 p2 #[.int .i64 0, .slice none 0 0, .slice none 0 0, .int .i64 0, .int .i64 0, .int .i64 0, .int .i64 0, .int .i64 0, .int .i64 0, .int .i64 0, .slice none 0 0, .slice none 0 0, .slice none 0 0] W
 c : FtOw w.heap.size v1 L1 W
 d : FtOw w.heap.size v2 L2 W
 b : Below w.heap.size w W
theorem VO.up {w W W' : World} {b p2 : Nat} {cx : Array Value} {v1 v2 : Value} {L1 L2 : List FtL} (h : VO w b p2 cx v1 v2 L1 L2 W) (hb : Below W.heap.size W W') : VO w b p2 cx v1 v2 L1 L2 W' :=
 ⟨h.x.up hb, h.r.up hb, h.c.up hb, h.d.up hb, below_next h.b hb⟩
theorem FtOw.set {B : Nat} {v : Value} {L : List FtL} {W : World} {p j : Nat} {u : Value} {cs : Array Value} (h : FtOw B v L W) (hp : Bl 66 p cs W) : FtOw B v L (W.setCell ⟨p, j, none⟩ u) :=
 ⟨own_setCell h.row (own_neT h.row hp (by decide)) u, fun x hx => own_setCell (h.each x hx) (own_neT (h.each x hx) hp (by decide)) u⟩
theorem vset {w W : World} {b p2 p4 j : Nat} {cx cs : Array Value} {v1 v2 u : Value} {L1 L2 : List FtL} (hl : p2 < p4) (hB : w.heap.size ≤ p4) (h : VO w b p2 cx v1 v2 L1 L2 W ∧ Bl 66 p4 cs W) : VO w b p2 cx v1 v2 L1 L2 (W.setCell ⟨p4, j, none⟩ u) ∧ Bl 66 p4 (cs.setIfInBounds j u) (W.setCell ⟨p4, j, none⟩ u) :=
 ⟨⟨h.1.x.other (h.1.x.neT h.2 (by decide)) _, h.1.r.other (Nat.ne_of_lt hl) _, h.1.c.set h.2, h.1.d.set h.2, Bset h.1.b hB⟩, h.2.set j u rfl⟩
theorem vset2 {w W : World} {b p2 p4 j : Nat} {cx cs cs' : Array Value} {v1 v2 u : Value} {L1 L2 : List FtL} (hl : p2 < p4) (hB : w.heap.size ≤ p4) (he : cs.setIfInBounds j u = cs') (h : VO w b p2 cx v1 v2 L1 L2 W ∧ Bl 66 p4 cs W) : VO w b p2 cx v1 v2 L1 L2 (W.setCell ⟨p4, j, none⟩ u) ∧ Bl 66 p4 cs' (W.setCell ⟨p4, j, none⟩ u) := by
 subst he
 exact vset hl hB h
theorem vset13 {w W : World} {b p2 p4 : Nat} {cx : Array Value} {v1 v2 : Value} {z0 z1 z2 z3 z4 z5 z6 z7 z8 z9 z10 z11 z12 : Value} {L1 L2 : List FtL} (hl : p2 < p4) (hB : w.heap.size ≤ p4) (x0 x1 x2 x3 x4 x5 x6 x7 x8 x9 x10 x11 x12 : Value) (h : VO w b p2 cx v1 v2 L1 L2 W ∧ Bl 66 p4 #[z0, z1, z2, z3, z4, z5, z6, z7, z8, z9, z10, z11, z12] W) : VO w b p2 cx v1 v2 L1 L2 (((((((((((((W.setCell ⟨p4, 0, none⟩ x0).setCell ⟨p4, 1, none⟩ x1).setCell ⟨p4, 2, none⟩ x2).setCell ⟨p4, 3, none⟩ x3).setCell ⟨p4, 4, none⟩ x4).setCell ⟨p4, 5, none⟩ x5).setCell ⟨p4, 6, none⟩ x6).setCell ⟨p4, 7, none⟩ x7).setCell ⟨p4, 8, none⟩ x8).setCell ⟨p4, 9, none⟩ x9).setCell ⟨p4, 10, none⟩ x10).setCell ⟨p4, 11, none⟩ x11).setCell ⟨p4, 12, none⟩ x12) ∧ Bl 66 p4 #[x0, x1, x2, x3, x4, x5, x6, x7, x8, x9, x10, x11, x12] (((((((((((((W.setCell ⟨p4, 0, none⟩ x0).setCell ⟨p4, 1, none⟩ x1).setCell ⟨p4, 2, none⟩ x2).setCell ⟨p4, 3, none⟩ x3).setCell ⟨p4, 4, none⟩ x4).setCell ⟨p4, 5, none⟩ x5).setCell ⟨p4, 6, none⟩ x6).setCell ⟨p4, 7, none⟩ x7).setCell ⟨p4, 8, none⟩ x8).setCell ⟨p4, 9, none⟩ x9).setCell ⟨p4, 10, none⟩ x10).setCell ⟨p4, 11, none⟩ x11).setCell ⟨p4, 12, none⟩ x12) :=
 (vset2 (j := 12) (u := x12) (cs := #[x0, x1, x2, x3, x4, x5, x6, x7, x8, x9, x10, x11, z12]) (cs' := #[x0, x1, x2, x3, x4, x5, x6, x7, x8, x9, x10, x11, x12]) hl hB rfl (vset2 (j := 11) (u := x11) (cs := #[x0, x1, x2, x3, x4, x5, x6, x7, x8, x9, x10, z11, z12]) (cs' := #[x0, x1, x2, x3, x4, x5, x6, x7, x8, x9, x10, x11, z12]) hl hB rfl (vset2 (j := 10) (u := x10) (cs := #[x0, x1, x2, x3, x4, x5, x6, x7, x8, x9, z10, z11, z12]) (cs' := #[x0, x1, x2, x3, x4, x5, x6, x7, x8, x9, x10, z11, z12]) hl hB rfl (vset2 (j := 9) (u := x9) (cs := #[x0, x1, x2, x3, x4, x5, x6, x7, x8, z9, z10, z11, z12]) (cs' := #[x0, x1, x2, x3, x4, x5, x6, x7, x8, x9, z10, z11, z12]) hl hB rfl (vset2 (j := 8) (u := x8) (cs := #[x0, x1, x2, x3, x4, x5, x6, x7, z8, z9, z10, z11, z12]) (cs' := #[x0, x1, x2, x3, x4, x5, x6, x7, x8, z9, z10, z11, z12]) hl hB rfl (vset2 (j := 7) (u := x7) (cs := #[x0, x1, x2, x3, x4, x5, x6, z7, z8, z9, z10, z11, z12]) (cs' := #[x0, x1, x2, x3, x4, x5, x6, x7, z8, z9, z10, z11, z12]) hl hB rfl (vset2 (j := 6) (u := x6) (cs := #[x0, x1, x2, x3, x4, x5, z6, z7, z8, z9, z10, z11, z12]) (cs' := #[x0, x1, x2, x3, x4, x5, x6, z7, z8, z9, z10, z11, z12]) hl hB rfl (vset2 (j := 5) (u := x5) (cs := #[x0, x1, x2, x3, x4, z5, z6, z7, z8, z9, z10, z11, z12]) (cs' := #[x0, x1, x2, x3, x4, x5, z6, z7, z8, z9, z10, z11, z12]) hl hB rfl (vset2 (j := 4) (u := x4) (cs := #[x0, x1, x2, x3, z4, z5, z6, z7, z8, z9, z10, z11, z12]) (cs' := #[x0, x1, x2, x3, x4, z5, z6, z7, z8, z9, z10, z11, z12]) hl hB rfl (vset2 (j := 3) (u := x3) (cs := #[x0, x1, x2, z3, z4, z5, z6, z7, z8, z9, z10, z11, z12]) (cs' := #[x0, x1, x2, x3, z4, z5, z6, z7, z8, z9, z10, z11, z12]) hl hB rfl (vset2 (j := 2) (u := x2) (cs := #[x0, x1, z2, z3, z4, z5, z6, z7, z8, z9, z10, z11, z12]) (cs' := #[x0, x1, x2, z3, z4, z5, z6, z7, z8, z9, z10, z11, z12]) hl hB rfl (vset2 (j := 1) (u := x1) (cs := #[x0, z1, z2, z3, z4, z5, z6, z7, z8, z9, z10, z11, z12]) (cs' := #[x0, x1, z2, z3, z4, z5, z6, z7, z8, z9, z10, z11, z12]) hl hB rfl (vset2 (j := 0) (u := x0) (cs := #[z0, z1, z2, z3, z4, z5, z6, z7, z8, z9, z10, z11, z12]) (cs' := #[x0, z1, z2, z3, z4, z5, z6, z7, z8, z9, z10, z11, z12]) hl hB rfl h)))))))))))))
theorem SOW.far {t : Topo} {A1 A2 C D : Option Addr} {k1 k2 k3 k4 nc nd : Nat} {h1 h2 h3 g s det room : Int} {b ab p j : Nat} {u : Value} {W : World} (hb : b ≠ p) (ha : ab ≠ p) (h : SOW t A1 A2 C D k1 k2 k3 k4 nc nd h1 h2 h3 g s det room b ab W) : SOW t A1 A2 C D k1 k2 k3 k4 nc nd h1 h2 h3 g s det room b ab (W.setCell ⟨p, j, none⟩ u) :=
 ⟨cell_far hb h.1, cell_far hb h.2.1, cell_far hb h.2.2.1, cell_far ha h.2.2.2.1, cell_far ha h.2.2.2.2.1, cell_far ha h.2.2.2.2.2.1, cell_far ha h.2.2.2.2.2.2.1, cell_far ha h.2.2.2.2.2.2.2.1, cell_far hb h.2.2.2.2.2.2.2.2.1, cell_far hb h.2.2.2.2.2.2.2.2.2.1, cell_far hb h.2.2.2.2.2.2.2.2.2.2.1, cell_far hb h.2.2.2.2.2.2.2.2.2.2.2⟩
theorem VO.grown {w W W' : World} {b p2 : Nat} {cx : Array Value} {v1 v2 : Value} {L1 L2 : List FtL} {vs : Value} {q : Nat} {xs : List Value} (h : VO w b p2 cx v1 v2 L1 L2 W) (hg : W.grownBy W' vs.ownBlock) (hr : W.ownsRow w.heap.size 127 14 vs q xs) : VO w b p2 cx v1 v2 L1 L2 W' :=
 ⟨h.x.grownX hg (own_neT hr h.x (by decide)), h.r.grownX hg (own_neT hr h.r (by decide)), ⟨own_grown h.c.row hg (own_neR h.c.row hr (by decide)), fun x hx => own_grown (h.c.each x hx) hg (own_neR (h.c.each x hx) hr (by decide))⟩, ⟨own_grown h.d.row hg (own_neR h.d.row hr (by decide)), fun x hx => own_grown (h.d.each x hx) hg (own_neR (h.d.each x hx) hr (by decide))⟩, h.b.grown hg h.b.size (fun k hk => (hr.lt k hk).1)⟩
/-- What stands while the result is stored. -/
def QF (w : World) (p2 : Nat) (v1 v2 : Value) (L1 L2 : List FtL) (vs : Value) (q : Nat) (ys : List Value) (W : World) : Prop :=
 (∃ cs, Bl 66 p2 cs W) ∧ FtOw w.heap.size v1 L1 W ∧ FtOw w.heap.size v2 L2 W ∧ W.ownsRow w.heap.size 127 14 vs q ys ∧ Below w.heap.size w W
theorem qset {w W : World} {p2 : Nat} {v1 v2 : Value} {L1 L2 : List FtL} {vs : Value} {q : Nat} {ys : List Value} (hp : w.heap.size ≤ p2) {j : Nat} {u : Value} (h : QF w p2 v1 v2 L1 L2 vs q ys W) : QF w p2 v1 v2 L1 L2 vs q ys (W.setCell ⟨p2, j, none⟩ u) := by
 obtain ⟨⟨cs, h1⟩, h2, h3, h4, h5⟩ := h
 exact ⟨⟨_, h1.set j u rfl⟩, h2.set h1, h3.set h1, own_setCell h4 (own_neT h4 h1 (by decide)) u, Bset h5 hp⟩
theorem qset13 {w W : World} {p2 : Nat} {v1 v2 : Value} {L1 L2 : List FtL} {vs : Value} {q : Nat} {ys : List Value} (hp : w.heap.size ≤ p2) (x0 x1 x2 x3 x4 x5 x6 x7 x8 x9 x10 x11 x12 : Value) (h : QF w p2 v1 v2 L1 L2 vs q ys W) : QF w p2 v1 v2 L1 L2 vs q ys (((((((((((((W.setCell ⟨p2, 0, none⟩ x0).setCell ⟨p2, 1, none⟩ x1).setCell ⟨p2, 2, none⟩ x2).setCell ⟨p2, 3, none⟩ x3).setCell ⟨p2, 4, none⟩ x4).setCell ⟨p2, 5, none⟩ x5).setCell ⟨p2, 6, none⟩ x6).setCell ⟨p2, 7, none⟩ x7).setCell ⟨p2, 8, none⟩ x8).setCell ⟨p2, 9, none⟩ x9).setCell ⟨p2, 10, none⟩ x10).setCell ⟨p2, 11, none⟩ x11).setCell ⟨p2, 12, none⟩ x12) :=
 (qset hp (qset hp (qset hp (qset hp (qset hp (qset hp (qset hp (qset hp (qset hp (qset hp (qset hp (qset hp (qset hp h)))))))))))))
/-- The cells of an act in a row, and the row itself in a box. -/
def SAC (a : AcN) (b bz n : Nat) (sv : Value) (W : World) : Prop :=
 W.cell? ⟨b, 12, none⟩ = some sv ∧ W.cell? ⟨bz, n, none⟩ = some (.int .i64 a.time) ∧ W.cell? ⟨bz, n + 1, none⟩ = some (.int .i64 a.kind) ∧ W.cell? ⟨bz, n + 2, none⟩ = some (.int .i64 a.id) ∧ W.cell? ⟨bz, n + 3, none⟩ = some (.int .i64 a.src) ∧ W.cell? ⟨bz, n + 4, none⟩ = some (.int .i64 a.dst) ∧ W.cell? ⟨bz, n + 5, none⟩ = some (.int .i64 a.p3) ∧ W.cell? ⟨bz, n + 6, none⟩ = some (.slice a.st a.sn a.sc) ∧ W.cell? ⟨bz, n + 7, none⟩ = some (.int .i64 a.p5) ∧ W.cell? ⟨bz, n + 8, none⟩ = some (.int .i64 a.ck) ∧ W.cell? ⟨bz, n + 9, none⟩ = some (.int .i64 a.cm) ∧ W.cell? ⟨bz, n + 10, none⟩ = some (.int .i64 a.node) ∧ W.cell? ⟨bz, n + 11, none⟩ = some (.bool a.on) ∧ W.cell? ⟨bz, n + 12, none⟩ = some (.int .i64 a.arc) ∧ W.cell? ⟨bz, n + 13, none⟩ = some (.int .i64 a.cost)
theorem acV_oneP (a : AcN) : ∀ u ∈ acV a, u.oneCell' = true := by
 intro u hu
 simp only [acV, List.mem_cons, List.mem_nil_iff, or_false] at hu
 rcases hu with rfl | rfl | rfl | rfl | rfl | rfl | rfl | rfl | rfl | rfl | rfl | rfl | rfl | rfl <;> rfl
theorem SAC.kept {a : AcN} {b bz n : Nat} {sv : Value} {W W' : World} (h : SAC a b bz n sv W) (h1 : W'.heap[b]? = W.heap[b]?) (h2 : W'.heap[bz]? = W.heap[bz]?) : SAC a b bz n sv W' := by
 have e1 : ∀ i, W'.cell? ⟨b, i, none⟩ = W.cell? ⟨b, i, none⟩ := fun i => by simp [World.cell?, h1]
 have e2 : ∀ i, W'.cell? ⟨bz, i, none⟩ = W.cell? ⟨bz, i, none⟩ := fun i => by simp [World.cell?, h2]
 unfold SAC at *
 simp only [e1, e2]
 exact h
theorem SAC.up {a : AcN} {b bz n : Nat} {sv : Value} {W W' : World} (h : SAC a b bz n sv W) (hb : Below W.heap.size W W') : SAC a b bz n sv W' :=
 h.kept (hb.block _ (block_lt_of_cell h.1)) (hb.block _ (block_lt_of_cell h.2.1))
section
variable {w : World}
set_option maxRecDepth 100000 in
set_option maxHeartbeats 8000000 in
theorem law_own (u : SuN) (A1 A2 C D S : Option Addr) (k1 k2 k3 k4 k5 : Nat) (hU : SuAt w A1 A2 C D S u) (hc : u.ctl.length ≤ 600) (hd : u.dat.length ≤ 600) (hc2 : ∀ x ∈ u.ctl, x.2.2.length ≤ 20) (hd2 : ∀ x ∈ u.dat, x.2.2.length ≤ 20) (hs : u.acs.length ≤ 40) :
  Calls Tryz.prog 22 #[.agg (suC u A1 A2 C D S k1 k2 k3 k4 k5)] w fun e w' => ∃ (C' D' S' : Option Addr) (k3' k4' k5' : Nat) (L1 L2 : List FtL), e = .returned (.agg (suC { u with ctl := L1, dat := L2 } A1 A2 C' D' S' k1 k2 k3' k4' k5')) ∧ L1.map (·.2.2) = u.ctl.map (·.2.2) ∧ L2.map (·.2.2) = u.dat.map (·.2.2) ∧ SuAt w' A1 A2 C' D' S' { u with ctl := L1, dat := L2 } ∧ Below w.heap.size w w' := by
 have HU := Lib.hid hU
 have HC2 := Lib.hid hc2
 have HD2 := Lib.hid hd2
 clear hU hc2 hd2
 obtain ⟨t, h1, h2, h3, g, s, det, room, ctl, dat, acs⟩ := u
 unfold suC
 have hcl : ctl.length ≤ 600 := hc
 have hdl : dat.length ≤ 600 := hd
 have hsl : acs.length ≤ 40 := hs
 have H3 := Lib.hid (three_boxes w #[.int .i64 t.n, .slice A1 t.ov.length k1, .slice A2 t.ls.length k2, .int .i64 h1, .int .i64 h2, .int .i64 h3, .int .i64 g, .int .i64 s, .int .i64 det, .int .i64 room, .slice C ctl.length k3, .slice D dat.length k4, .slice S acs.length k5] #[.int .i64 0, .slice none 0 0, .slice none 0 0, .int .i64 0, .int .i64 0, .int .i64 0, .int .i64 0, .int .i64 0, .int .i64 0, .int .i64 0, .slice none 0 0, .slice none 0 0, .slice none 0 0] #[.int .i64 h1, .int .i64 h2, .int .i64 h3, .int .i64 g, .int .i64 s] 61 66 57)
 obtain ⟨b0, b1, b2, b3, b4, b5, b6, b7, b8, b9, b10, b11, b12, fb⟩ := (Bl.new w #[.int .i64 t.n, .slice A1 t.ov.length k1, .slice A2 t.ls.length k2, .int .i64 h1, .int .i64 h2, .int .i64 h3, .int .i64 g, .int .i64 s, .int .i64 det, .int .i64 room, .slice C ctl.length k3, .slice D dat.length k4, .slice S acs.length k5] 61).c13
 go_enter Tryz.func22, Tryz.ntmps22
 go_upto_region 2 with fail
 refine wp_named4 (fun Y => ∃ b p2 ab, b = w.heap.size ∧ p2 = w.heap.size + 1 ∧ ab = w.heap.size + 2 ∧ Bl 61 b #[.int .i64 t.n, .slice A1 t.ov.length k1, .slice A2 t.ls.length k2, .int .i64 h1, .int .i64 h2, .int .i64 h3, .int .i64 g, .int .i64 s, .int .i64 det, .int .i64 room, .slice C ctl.length k3, .slice D dat.length k4, .slice S acs.length k5] Y ∧ Bl 66 p2 #[.int .i64 0, .slice none 0 0, .slice none 0 0, .int .i64 0, .int .i64 0, .int .i64 0, .int .i64 0, .int .i64 0, .int .i64 0, .int .i64 0, .slice none 0 0, .slice none 0 0, .slice none 0 0] Y ∧ Bl 57 ab #[.int .i64 h1, .int .i64 h2, .int .i64 h3, .int .i64 g, .int .i64 s] Y ∧ Below w.heap.size w Y) ⟨_, _, _, rfl, rfl, rfl, H3.out.1, H3.out.2.1, H3.out.2.2.1, H3.out.2.2.2⟩ ?_
 rintro W1 ⟨b, p2, ab, hb, hp2, hab, hY1, hY2, hY3, hY4⟩
 rw [← hab, ← hp2, ← hb]
 clear hb hab H3 b0 b1 b2 b3 b4 b5 b6 b7 b8 b9 b10 b11 b12 fb
 have HX := Lib.hid hY1
 have HRB := Lib.hid hY2
 have HB := Lib.hid hY4
 have HAR := Lib.hid hY3
 obtain ⟨x0, x1, x2, x3, x4, x5, x6, x7, x8, x9, x10, x11, x12, -⟩ := hY1.c13
 obtain ⟨a0, a1, a2, a3, a4, -⟩ := hY3.c5
 have hsm : SOW t A1 A2 C D k1 k2 k3 k4 ctl.length dat.length h1 h2 h3 g s det room b ab W1 := ⟨x0, x1, x2, a0, a1, a2, a3, a4, x8, x9, x10, x11⟩
 have HSM := Lib.hid hsm
 clear hY1 hY2 hY3 hY4 x0 x1 x2 x3 x4 x5 x6 x7 x8 x9 x10 x11 x12 a0 a1 a2 a3 a4 hsm
 have HP2 := Lib.hid hp2
 clear hp2
 go_cut [4] from 8 to 31 (fun x wx => ∃ (p4 : Nat) (C' D' : Option Addr) (c3 c4 : Nat) (L1 L2 : List FtL), x = .pointer (some ⟨p4, 0, none⟩) ∧ Hid (L1.map (·.2.2) = ctl.map (·.2.2) ∧ L2.map (·.2.2) = dat.map (·.2.2)) ∧ Hid (VO w b p2 #[.int .i64 t.n, .slice A1 t.ov.length k1, .slice A2 t.ls.length k2, .int .i64 h1, .int .i64 h2, .int .i64 h3, .int .i64 g, .int .i64 s, .int .i64 det, .int .i64 room, .slice C ctl.length k3, .slice D dat.length k4, .slice S acs.length k5] (.slice C' L1.length c3) (.slice D' L2.length c4) L1 L2 wx) ∧ Hid (Bl 66 p4 #[.int .i64 t.n, .slice A1 t.ov.length k1, .slice A2 t.ls.length k2, .int .i64 h1, .int .i64 h2, .int .i64 h3, .int .i64 g, .int .i64 s, .int .i64 det, .int .i64 room, .slice C' L1.length c3, .slice D' L2.length c4, .slice none 0 0] wx) ∧ Hid (p2 < p4 ∧ w.heap.size ≤ p4))
 case first =>
  refine wp_region_held_drew (S := fun W => W.cell? ⟨b, 0, none⟩ = some (.int .i64 t.n) ∧ W.cell? ⟨b, 1, none⟩ = some (.slice A1 t.ov.length k1) ∧ W.cell? ⟨b, 2, none⟩ = some (.slice A2 t.ls.length k2) ∧ W.cell? ⟨ab, 0, none⟩ = some (.int .i64 h1) ∧ W.cell? ⟨ab, 1, none⟩ = some (.int .i64 h2) ∧ W.cell? ⟨ab, 2, none⟩ = some (.int .i64 h3) ∧ W.cell? ⟨ab, 3, none⟩ = some (.int .i64 g) ∧ W.cell? ⟨ab, 4, none⟩ = some (.int .i64 s) ∧ W.cell? ⟨b, 8, none⟩ = some (.int .i64 det) ∧ W.cell? ⟨b, 9, none⟩ = some (.int .i64 room) ∧ W.cell? ⟨b, 10, none⟩ = some (.slice C ctl.length k3) ∧ W.cell? ⟨b, 11, none⟩ = some (.slice D dat.length k4)) (by kernel_rfl) ?_ (fun hHeld => ?_)
  ·exact HSM.out
  obtain ⟨Vc, hVc⟩ : ∃ V, V = W1.drew := ⟨_, rfl⟩
  rw [← hVc] at hHeld ⊢
  replace HX : Hid (Bl 61 b #[.int .i64 t.n, .slice A1 t.ov.length k1, .slice A2 t.ls.length k2, .int .i64 h1, .int .i64 h2, .int .i64 h3, .int .i64 g, .int .i64 s, .int .i64 det, .int .i64 room, .slice C ctl.length k3, .slice D dat.length k4, .slice S acs.length k5] Vc) := Lib.hid (by rw [hVc]; exact HX.out)
  have HAB : Hid (Bl 57 ab #[.int .i64 h1, .int .i64 h2, .int .i64 h3, .int .i64 g, .int .i64 s] Vc) := Lib.hid (by rw [hVc]; exact HAR.out)
  replace HRB : Hid (Bl 66 p2 #[.int .i64 0, .slice none 0 0, .slice none 0 0, .int .i64 0, .int .i64 0, .int .i64 0, .int .i64 0, .int .i64 0, .int .i64 0, .int .i64 0, .slice none 0 0, .slice none 0 0, .slice none 0 0] Vc) := Lib.hid (by rw [hVc]; exact HRB.out)
  replace HB : Hid (Below w.heap.size w Vc) := Lib.hid (by rw [hVc]; exact Bdrw HB.out)
  clear hVc
  (refine takeL (i := 0) (v := ?_) rfl (by kernel_rfl) (by decide +kernel) (by decide +kernel) (fun _ _ _ h => h) (Or.inl ⟨by rfl, ?_⟩) (by assumption) ?_; rotate_left; (focus (intro w9 hS9; (try dsimp only at hS9); go_simp; (try with_reducible rfl); done)))
  (try simp only [Act.put, List.setIfInBounds_toArray, List.set_cons_zero, List.set_cons_succ])
  (refine takeL (i := 1) (v := ?_) rfl (by kernel_rfl) (by decide +kernel) (by decide +kernel) (fun _ _ _ h => h) (Or.inl ⟨by rfl, ?_⟩) (by assumption) ?_; rotate_left; (focus (intro w9 hS9; (try dsimp only at hS9); go_simp; (try with_reducible rfl); done)))
  (try simp only [Act.put, List.setIfInBounds_toArray, List.set_cons_zero, List.set_cons_succ])
  (refine takeL (i := 2) (v := ?_) rfl (by kernel_rfl) (by decide +kernel) (by decide +kernel) (fun _ _ _ h => h) (Or.inl ⟨by rfl, ?_⟩) (by assumption) ?_; rotate_left; (focus (intro w9 hS9; (try dsimp only at hS9); go_simp; (try with_reducible rfl); done)))
  (try simp only [Act.put, List.setIfInBounds_toArray, List.set_cons_zero, List.set_cons_succ])
  (refine takeL (i := 3) (v := ?_) rfl (by kernel_rfl) (by decide +kernel) (by decide +kernel) (fun _ _ _ h => h) (Or.inl ⟨by rfl, ?_⟩) (by assumption) ?_; rotate_left; (focus (intro w9 hS9; (try dsimp only at hS9); go_simp; (try with_reducible rfl); done)))
  (try simp only [Act.put, List.setIfInBounds_toArray, List.set_cons_zero, List.set_cons_succ])
  (refine takeL (i := 4) (v := ?_) rfl (by kernel_rfl) (by decide +kernel) (by decide +kernel) (fun _ _ _ h => h) (Or.inl ⟨by rfl, ?_⟩) (by assumption) ?_; rotate_left; (focus (intro w9 hS9; (try dsimp only at hS9); go_simp; (try with_reducible rfl); done)))
  (try simp only [Act.put, List.setIfInBounds_toArray, List.set_cons_zero, List.set_cons_succ])
  (refine takeL (i := 5) (v := ?_) rfl (by kernel_rfl) (by decide +kernel) (by decide +kernel) (fun _ _ _ h => h) (Or.inl ⟨by rfl, ?_⟩) (by assumption) ?_; rotate_left; (focus (intro w9 hS9; (try dsimp only at hS9); go_simp; (try with_reducible rfl); done)))
  (try simp only [Act.put, List.setIfInBounds_toArray, List.set_cons_zero, List.set_cons_succ])
  (refine takeL (i := 6) (v := ?_) rfl (by kernel_rfl) (by decide +kernel) (by decide +kernel) (fun _ _ _ h => h) (Or.inl ⟨by rfl, ?_⟩) (by assumption) ?_; rotate_left; (focus (intro w9 hS9; (try dsimp only at hS9); go_simp; (try with_reducible rfl); done)))
  (try simp only [Act.put, List.setIfInBounds_toArray, List.set_cons_zero, List.set_cons_succ])
  (refine takeL (i := 7) (v := ?_) rfl (by kernel_rfl) (by decide +kernel) (by decide +kernel) (fun _ _ _ h => h) (Or.inl ⟨by rfl, ?_⟩) (by assumption) ?_; rotate_left; (focus (intro w9 hS9; (try dsimp only at hS9); go_simp; (try with_reducible rfl); done)))
  (try simp only [Act.put, List.setIfInBounds_toArray, List.set_cons_zero, List.set_cons_succ])
  (refine takeL (i := 8) (v := ?_) rfl (by kernel_rfl) (by decide +kernel) (by decide +kernel) (fun _ _ _ h => h) (Or.inl ⟨by rfl, ?_⟩) (by assumption) ?_; rotate_left; (focus (intro w9 hS9; (try dsimp only at hS9); go_simp; (try with_reducible rfl); done)))
  (try simp only [Act.put, List.setIfInBounds_toArray, List.set_cons_zero, List.set_cons_succ])
  (refine takeL (i := 9) (v := ?_) rfl (by kernel_rfl) (by decide +kernel) (by decide +kernel) (fun _ _ _ h => h) (Or.inl ⟨by rfl, ?_⟩) (by assumption) ?_; rotate_left; (focus (intro w9 hS9; (try dsimp only at hS9); go_simp; (try with_reducible rfl); done)))
  (try simp only [Act.put, List.setIfInBounds_toArray, List.set_cons_zero, List.set_cons_succ])
  (refine takeL (i := 10) (v := ?_) rfl (by kernel_rfl) (by decide +kernel) (by decide +kernel) (fun _ _ _ h => h) (Or.inl ⟨by rfl, ?_⟩) (by assumption) ?_; rotate_left; (focus (intro w9 hS9; (try dsimp only at hS9); go_simp; (try with_reducible rfl); done)))
  (try simp only [Act.put, List.setIfInBounds_toArray, List.set_cons_zero, List.set_cons_succ])
  (refine takeL (i := 11) (v := ?_) rfl (by kernel_rfl) (by decide +kernel) (by decide +kernel) (fun _ _ _ h => h) (Or.inl ⟨by rfl, ?_⟩) (by assumption) ?_; rotate_left; (focus (intro w9 hS9; (try dsimp only at hS9); go_simp; (try with_reducible rfl); done)))
  (try simp only [Act.put, List.setIfInBounds_toArray, List.set_cons_zero, List.set_cons_succ])
  (refine takeL (i := 12) (v := ?_) rfl (by kernel_rfl) (by decide +kernel) (by decide +kernel) (fun _ _ _ h => h) (Or.inl ⟨by rfl, ?_⟩) (by assumption) ?_; rotate_left; (focus (intro w9 hS9; (try dsimp only at hS9); go_simp; (try with_reducible rfl); done)))
  (try simp only [Act.put, List.setIfInBounds_toArray, List.set_cons_zero, List.set_cons_succ])
  (refine takeL (i := 13) (v := ?_) rfl (by kernel_rfl) (by decide +kernel) (by decide +kernel) (fun _ _ _ h => h) (Or.inl ⟨by rfl, ?_⟩) (by assumption) ?_; rotate_left; (focus (intro w9 hS9; (try dsimp only at hS9); go_simp; (try with_reducible rfl); done)))
  (try simp only [Act.put, List.setIfInBounds_toArray, List.set_cons_zero, List.set_cons_succ])
  (refine takeL (i := 14) (v := ?_) rfl (by kernel_rfl) (by decide +kernel) (by decide +kernel) (fun _ _ _ h => h) (Or.inl ⟨by rfl, ?_⟩) (by assumption) ?_; rotate_left; (focus (intro w9 hS9; (try dsimp only at hS9); go_simp; (try with_reducible rfl); done)))
  (try simp only [Act.put, List.setIfInBounds_toArray, List.set_cons_zero, List.set_cons_succ])
  (refine takeL (i := 15) (v := ?_) rfl (by kernel_rfl) (by decide +kernel) (by decide +kernel) (fun _ _ _ h => h) (Or.inl ⟨by rfl, ?_⟩) (by assumption) ?_; rotate_left; (focus (intro w9 hS9; (try dsimp only at hS9); go_simp; (try with_reducible rfl); done)))
  (try simp only [Act.put, List.setIfInBounds_toArray, List.set_cons_zero, List.set_cons_succ])
  (refine takeL (i := 16) (v := ?_) rfl (by kernel_rfl) (by decide +kernel) (by decide +kernel) (fun _ _ _ h => h) (Or.inl ⟨by rfl, ?_⟩) (by assumption) ?_; rotate_left; (focus (intro w9 hS9; (try dsimp only at hS9); go_simp; (try with_reducible rfl); done)))
  (try simp only [Act.put, List.setIfInBounds_toArray, List.set_cons_zero, List.set_cons_succ])
  (refine takeL (i := 17) (v := ?_) rfl (by kernel_rfl) (by decide +kernel) (by decide +kernel) (fun _ _ _ h => h) (Or.inl ⟨by rfl, ?_⟩) (by assumption) ?_; rotate_left; (focus (intro w9 hS9; (try dsimp only at hS9); go_simp; (try with_reducible rfl); done)))
  (try simp only [Act.put, List.setIfInBounds_toArray, List.set_cons_zero, List.set_cons_succ])
  (refine takeL (i := 18) (v := ?_) rfl (by kernel_rfl) (by decide +kernel) (by decide +kernel) (fun _ _ _ h => h) (Or.inl ⟨by rfl, ?_⟩) (by assumption) ?_; rotate_left; (focus (intro w9 hS9; (try dsimp only at hS9); go_simp; (try with_reducible rfl); done)))
  (try simp only [Act.put, List.setIfInBounds_toArray, List.set_cons_zero, List.set_cons_succ])
  (refine takeL (i := 20) (v := ?_) rfl (by kernel_rfl) (by decide +kernel) (by decide +kernel) (fun _ _ _ h => h) (Or.inl ⟨by rfl, ?_⟩) (by assumption) ?_; rotate_left; (focus (intro w9 hS9; (try dsimp only at hS9); go_simp; (try with_reducible rfl); done)))
  (try simp only [Act.put, List.setIfInBounds_toArray, List.set_cons_zero, List.set_cons_succ])
  (refine takeL (i := 21) (v := ?_) rfl (by kernel_rfl) (by decide +kernel) (by decide +kernel) (fun _ _ _ h => h) (Or.inl ⟨by rfl, ?_⟩) (by assumption) ?_; rotate_left; (focus (intro w9 hS9; (try dsimp only at hS9); go_simp; (try with_reducible rfl); done)))
  (try simp only [Act.put, List.setIfInBounds_toArray, List.set_cons_zero, List.set_cons_succ])
  refine wpAnyH_ready (rs := [19, 24]) (by decide +kernel) (by simp) ?_
  refine consL rfl (fun K hK => ?_) ?_
  ·go_simp
   go_at_call 62
   (with_reducible refine (law_fates C k3 ctl (HU.out.c.below HB.out) (by omega) HC2.out).mono ?_)
   rintro e Vn ⟨v1, L1, rfl, hm1, ho1, hbn⟩
   have hob := HB.out.size
   obtain ⟨C1, c3, rfl⟩ := own_slice ho1.row
   (with_reducible refine hK.out _ _ ?_ ?_)
   ·exact SOW.up hbn hHeld
   clear hK K hHeld
   intro hHeld
   (try simp only [Act.put, List.setIfInBounds_toArray, List.set_cons_zero, List.set_cons_succ])
   have HM1 := Lib.hid hm1
   replace HX := Lib.hid (HX.out.up hbn); replace HRB := Lib.hid (HRB.out.up hbn); replace HAB := Lib.hid (HAB.out.up hbn); replace HB := Lib.hid (below_next HB.out hbn); have HO1 := Lib.hid (show FtOw w.heap.size (.slice C1 L1.length c3) L1 Vn from ⟨own_mono ho1.row hob, fun x hx => own_mono (ho1.each x hx) hob⟩)
   clear hm1 ho1 hbn hob
   obtain ⟨Vc, hVc⟩ : ∃ V, V = Vn := ⟨_, rfl⟩; subst hVc
   refine wpAnyH_ready (rs := [22, 24]) (by decide +kernel) (by simp) ?_
   refine consL rfl (fun K hK => ?_) ?_
   ·go_simp
    go_at_call 62
    (with_reducible refine (law_fates D k4 dat (HU.out.d.below HB.out) (by omega) HD2.out).mono ?_)
    rintro e Vn ⟨v2, L2, rfl, hm2, ho2, hbn⟩
    have hob := HB.out.size
    obtain ⟨D1, c4, rfl⟩ := own_slice ho2.row
    (with_reducible refine hK.out _ _ ?_ ?_)
    ·exact SOW.up hbn hHeld
    clear hK K hHeld
    intro hHeld
    (try simp only [Act.put, List.setIfInBounds_toArray, List.set_cons_zero, List.set_cons_succ])
    have HM2 := Lib.hid hm2
    replace HX := Lib.hid (HX.out.up hbn); replace HRB := Lib.hid (HRB.out.up hbn); replace HAB := Lib.hid (HAB.out.up hbn); replace HB := Lib.hid (below_next HB.out hbn); replace HO1 := Lib.hid (HO1.out.up hbn); have HO2 := Lib.hid (show FtOw w.heap.size (.slice D1 L2.length c4) L2 Vn from ⟨own_mono ho2.row hob, fun x hx => own_mono (ho2.each x hx) hob⟩)
    clear hm2 ho2 hbn hob
    obtain ⟨Vc, hVc⟩ : ∃ V, V = Vn := ⟨_, rfl⟩; subst hVc
    (refine takeL (i := 23) (v := ?_) rfl (by kernel_rfl) (by decide +kernel) (by decide +kernel) (fun _ _ _ h => h) (Or.inl ⟨by rfl, ?_⟩) (by assumption) ?_; rotate_left; (focus (intro w9 hS9; (try dsimp only at hS9); go_simp; (try with_reducible rfl); done)))
    (try simp only [Act.put, List.setIfInBounds_toArray, List.set_cons_zero, List.set_cons_succ])
    refine wpAnyH_ready (rs := [24]) (by decide +kernel) (by simp) ?_
    refine consL rfl (fun K hK => ?_) ?_
    ·go_simp
     (with_reducible refine hK.out _ _ ?_ ?_)
     ·exact SOW.up (below_box _ _) hHeld
     clear hK K hHeld
     intro hHeld
     (try simp only [Act.put, List.setIfInBounds_toArray, List.set_cons_zero, List.set_cons_succ])
     obtain ⟨Vn, hVn⟩ : ∃ V, V = Vc.alloc (.cells #[.int .i64 0, .slice none 0 0, .slice none 0 0, .int .i64 0, .int .i64 0, .int .i64 0, .int .i64 0, .int .i64 0, .int .i64 0, .int .i64 0, .slice none 0 0, .slice none 0 0, .slice none 0 0] 66) := ⟨_, rfl⟩
     obtain ⟨p4, hp4⟩ : ∃ k, k = Vc.heap.size := ⟨_, rfl⟩
     rw [← hVn] at hHeld ⊢
     rw [← hp4]
     have hbn : Below Vc.heap.size Vc Vn := (by subst hVn; exact below_box _ _)
     have HLT : Hid (p2 < p4 ∧ w.heap.size ≤ p4) := Lib.hid ⟨by rw [hp4]; exact HRB.out.lt, by rw [hp4]; exact HB.out.size⟩
     replace HX := Lib.hid (HX.out.up hbn); replace HRB := Lib.hid (HRB.out.up hbn); replace HAB := Lib.hid (HAB.out.up hbn); replace HB := Lib.hid (below_next HB.out hbn); replace HO1 := Lib.hid (HO1.out.up hbn); replace HO2 := Lib.hid (HO2.out.up hbn); have HP4 : Hid (Bl 66 p4 #[.int .i64 0, .slice none 0 0, .slice none 0 0, .int .i64 0, .int .i64 0, .int .i64 0, .int .i64 0, .int .i64 0, .int .i64 0, .int .i64 0, .slice none 0 0, .slice none 0 0, .slice none 0 0] Vn) := Lib.hid (by subst hVn hp4; exact Bl.new _ _ _)
     clear hVn hp4 hbn
     obtain ⟨Vc, hVc⟩ : ∃ V, V = Vn := ⟨_, rfl⟩; subst hVc
     refine wpAnyH_ready (rs := [25]) (by decide +kernel) (by simp) ?_
     refine consL rfl (fun K hK => ?_) ?_
     ·obtain ⟨y0, y1, y2, y3, y4, y5, y6, y7, y8, y9, y10, y11, y12, fy⟩ := HP4.out.c13
      have HBP := Lib.hid (HX.out.neT HP4.out (by decide))
      have HAP := Lib.hid (HAB.out.neT HP4.out (by decide))
      go_simp
      (with_reducible refine hK.out _ _ ?_ ?_)
      ·exact (SOW.far HBP.out HAP.out ((SOW.far HBP.out HAP.out ((SOW.far HBP.out HAP.out ((SOW.far HBP.out HAP.out ((SOW.far HBP.out HAP.out ((SOW.far HBP.out HAP.out ((SOW.far HBP.out HAP.out ((SOW.far HBP.out HAP.out ((SOW.far HBP.out HAP.out ((SOW.far HBP.out HAP.out ((SOW.far HBP.out HAP.out ((SOW.far HBP.out HAP.out ((SOW.far HBP.out HAP.out (hHeld))))))))))))))))))))))))))
      clear hK K hHeld
      intro hHeld
      (try simp only [Act.put, List.setIfInBounds_toArray, List.set_cons_zero, List.set_cons_succ])
      refine wpAnyH_done (by decide +kernel) ?_ _
      go_wp2_with fail
      go_meet
      have HFIN := vset13 HLT.out.1 HLT.out.2 (.int .i64 t.n) (.slice A1 t.ov.length k1) (.slice A2 t.ls.length k2) (.int .i64 h1) (.int .i64 h2) (.int .i64 h3) (.int .i64 g) (.int .i64 s) (.int .i64 det) (.int .i64 room) (.slice C1 L1.length c3) (.slice D1 L2.length c4) (.slice none 0 0) (⟨⟨HX.out, HRB.out, HO1.out, HO2.out, HB.out⟩, HP4.out⟩ : VO w b p2 #[.int .i64 t.n, .slice A1 t.ov.length k1, .slice A2 t.ls.length k2, .int .i64 h1, .int .i64 h2, .int .i64 h3, .int .i64 g, .int .i64 s, .int .i64 det, .int .i64 room, .slice C ctl.length k3, .slice D dat.length k4, .slice S acs.length k5] (.slice C1 L1.length c3) (.slice D1 L2.length c4) L1 L2 Vc ∧ Bl 66 p4 #[.int .i64 0, .slice none 0 0, .slice none 0 0, .int .i64 0, .int .i64 0, .int .i64 0, .int .i64 0, .int .i64 0, .int .i64 0, .int .i64 0, .slice none 0 0, .slice none 0 0, .slice none 0 0] Vc)
      case rel => exact ⟨p4, _, _, _, _, L1, L2, rfl, Lib.hid ⟨HM1.out, HM2.out⟩, Lib.hid HFIN.1, Lib.hid HFIN.2, HLT⟩
     exact AllReadyH.nil
    exact AllReadyH.nil
   refine consL rfl (fun K hK => ?_) ?_
   ·go_simp
    (with_reducible refine hK.out _ _ ?_ ?_)
    ·exact SOW.up (below_box _ _) hHeld
    clear hK K hHeld
    intro hHeld
    (try simp only [Act.put, List.setIfInBounds_toArray, List.set_cons_zero, List.set_cons_succ])
    obtain ⟨Vn, hVn⟩ : ∃ V, V = Vc.alloc (.cells #[.int .i64 0, .slice none 0 0, .slice none 0 0, .int .i64 0, .int .i64 0, .int .i64 0, .int .i64 0, .int .i64 0, .int .i64 0, .int .i64 0, .slice none 0 0, .slice none 0 0, .slice none 0 0] 66) := ⟨_, rfl⟩
    obtain ⟨p4, hp4⟩ : ∃ k, k = Vc.heap.size := ⟨_, rfl⟩
    rw [← hVn] at hHeld ⊢
    rw [← hp4]
    have hbn : Below Vc.heap.size Vc Vn := (by subst hVn; exact below_box _ _)
    have HLT : Hid (p2 < p4 ∧ w.heap.size ≤ p4) := Lib.hid ⟨by rw [hp4]; exact HRB.out.lt, by rw [hp4]; exact HB.out.size⟩
    replace HX := Lib.hid (HX.out.up hbn); replace HRB := Lib.hid (HRB.out.up hbn); replace HAB := Lib.hid (HAB.out.up hbn); replace HB := Lib.hid (below_next HB.out hbn); replace HO1 := Lib.hid (HO1.out.up hbn); have HP4 : Hid (Bl 66 p4 #[.int .i64 0, .slice none 0 0, .slice none 0 0, .int .i64 0, .int .i64 0, .int .i64 0, .int .i64 0, .int .i64 0, .int .i64 0, .int .i64 0, .slice none 0 0, .slice none 0 0, .slice none 0 0] Vn) := Lib.hid (by subst hVn hp4; exact Bl.new _ _ _)
    clear hVn hp4 hbn
    obtain ⟨Vc, hVc⟩ : ∃ V, V = Vn := ⟨_, rfl⟩; subst hVc
    refine wpAnyH_ready (rs := [22]) (by decide +kernel) (by simp) ?_
    refine consL rfl (fun K hK => ?_) ?_
    ·go_simp
     go_at_call 62
     (with_reducible refine (law_fates D k4 dat (HU.out.d.below HB.out) (by omega) HD2.out).mono ?_)
     rintro e Vn ⟨v2, L2, rfl, hm2, ho2, hbn⟩
     have hob := HB.out.size
     obtain ⟨D1, c4, rfl⟩ := own_slice ho2.row
     (with_reducible refine hK.out _ _ ?_ ?_)
     ·exact SOW.up hbn hHeld
     clear hK K hHeld
     intro hHeld
     (try simp only [Act.put, List.setIfInBounds_toArray, List.set_cons_zero, List.set_cons_succ])
     have HM2 := Lib.hid hm2
     replace HX := Lib.hid (HX.out.up hbn); replace HRB := Lib.hid (HRB.out.up hbn); replace HAB := Lib.hid (HAB.out.up hbn); replace HB := Lib.hid (below_next HB.out hbn); replace HO1 := Lib.hid (HO1.out.up hbn); replace HP4 := Lib.hid (HP4.out.up hbn); have HO2 := Lib.hid (show FtOw w.heap.size (.slice D1 L2.length c4) L2 Vn from ⟨own_mono ho2.row hob, fun x hx => own_mono (ho2.each x hx) hob⟩)
     clear hm2 ho2 hbn hob
     obtain ⟨Vc, hVc⟩ : ∃ V, V = Vn := ⟨_, rfl⟩; subst hVc
     (refine takeL (i := 23) (v := ?_) rfl (by kernel_rfl) (by decide +kernel) (by decide +kernel) (fun _ _ _ h => h) (Or.inl ⟨by rfl, ?_⟩) (by assumption) ?_; rotate_left; (focus (intro w9 hS9; (try dsimp only at hS9); go_simp; (try with_reducible rfl); done)))
     (try simp only [Act.put, List.setIfInBounds_toArray, List.set_cons_zero, List.set_cons_succ])
     refine wpAnyH_ready (rs := [25]) (by decide +kernel) (by simp) ?_
     refine consL rfl (fun K hK => ?_) ?_
     ·obtain ⟨y0, y1, y2, y3, y4, y5, y6, y7, y8, y9, y10, y11, y12, fy⟩ := HP4.out.c13
      have HBP := Lib.hid (HX.out.neT HP4.out (by decide))
      have HAP := Lib.hid (HAB.out.neT HP4.out (by decide))
      go_simp
      (with_reducible refine hK.out _ _ ?_ ?_)
      ·exact (SOW.far HBP.out HAP.out ((SOW.far HBP.out HAP.out ((SOW.far HBP.out HAP.out ((SOW.far HBP.out HAP.out ((SOW.far HBP.out HAP.out ((SOW.far HBP.out HAP.out ((SOW.far HBP.out HAP.out ((SOW.far HBP.out HAP.out ((SOW.far HBP.out HAP.out ((SOW.far HBP.out HAP.out ((SOW.far HBP.out HAP.out ((SOW.far HBP.out HAP.out ((SOW.far HBP.out HAP.out (hHeld))))))))))))))))))))))))))
      clear hK K hHeld
      intro hHeld
      (try simp only [Act.put, List.setIfInBounds_toArray, List.set_cons_zero, List.set_cons_succ])
      refine wpAnyH_done (by decide +kernel) ?_ _
      go_wp2_with fail
      go_meet
      have HFIN := vset13 HLT.out.1 HLT.out.2 (.int .i64 t.n) (.slice A1 t.ov.length k1) (.slice A2 t.ls.length k2) (.int .i64 h1) (.int .i64 h2) (.int .i64 h3) (.int .i64 g) (.int .i64 s) (.int .i64 det) (.int .i64 room) (.slice C1 L1.length c3) (.slice D1 L2.length c4) (.slice none 0 0) (⟨⟨HX.out, HRB.out, HO1.out, HO2.out, HB.out⟩, HP4.out⟩ : VO w b p2 #[.int .i64 t.n, .slice A1 t.ov.length k1, .slice A2 t.ls.length k2, .int .i64 h1, .int .i64 h2, .int .i64 h3, .int .i64 g, .int .i64 s, .int .i64 det, .int .i64 room, .slice C ctl.length k3, .slice D dat.length k4, .slice S acs.length k5] (.slice C1 L1.length c3) (.slice D1 L2.length c4) L1 L2 Vc ∧ Bl 66 p4 #[.int .i64 0, .slice none 0 0, .slice none 0 0, .int .i64 0, .int .i64 0, .int .i64 0, .int .i64 0, .int .i64 0, .int .i64 0, .int .i64 0, .slice none 0 0, .slice none 0 0, .slice none 0 0] Vc)
      case rel => exact ⟨p4, _, _, _, _, L1, L2, rfl, Lib.hid ⟨HM1.out, HM2.out⟩, Lib.hid HFIN.1, Lib.hid HFIN.2, HLT⟩
     exact AllReadyH.nil
    exact AllReadyH.nil
   exact AllReadyH.nil
  refine consL rfl (fun K hK => ?_) ?_
  ·go_simp
   (with_reducible refine hK.out _ _ ?_ ?_)
   ·exact SOW.up (below_box _ _) hHeld
   clear hK K hHeld
   intro hHeld
   (try simp only [Act.put, List.setIfInBounds_toArray, List.set_cons_zero, List.set_cons_succ])
   obtain ⟨Vn, hVn⟩ : ∃ V, V = Vc.alloc (.cells #[.int .i64 0, .slice none 0 0, .slice none 0 0, .int .i64 0, .int .i64 0, .int .i64 0, .int .i64 0, .int .i64 0, .int .i64 0, .int .i64 0, .slice none 0 0, .slice none 0 0, .slice none 0 0] 66) := ⟨_, rfl⟩
   obtain ⟨p4, hp4⟩ : ∃ k, k = Vc.heap.size := ⟨_, rfl⟩
   rw [← hVn] at hHeld ⊢
   rw [← hp4]
   have hbn : Below Vc.heap.size Vc Vn := (by subst hVn; exact below_box _ _)
   have HLT : Hid (p2 < p4 ∧ w.heap.size ≤ p4) := Lib.hid ⟨by rw [hp4]; exact HRB.out.lt, by rw [hp4]; exact HB.out.size⟩
   replace HX := Lib.hid (HX.out.up hbn); replace HRB := Lib.hid (HRB.out.up hbn); replace HAB := Lib.hid (HAB.out.up hbn); replace HB := Lib.hid (below_next HB.out hbn); have HP4 : Hid (Bl 66 p4 #[.int .i64 0, .slice none 0 0, .slice none 0 0, .int .i64 0, .int .i64 0, .int .i64 0, .int .i64 0, .int .i64 0, .int .i64 0, .int .i64 0, .slice none 0 0, .slice none 0 0, .slice none 0 0] Vn) := Lib.hid (by subst hVn hp4; exact Bl.new _ _ _)
   clear hVn hp4 hbn
   obtain ⟨Vc, hVc⟩ : ∃ V, V = Vn := ⟨_, rfl⟩; subst hVc
   refine wpAnyH_ready (rs := [19]) (by decide +kernel) (by simp) ?_
   refine consL rfl (fun K hK => ?_) ?_
   ·go_simp
    go_at_call 62
    (with_reducible refine (law_fates C k3 ctl (HU.out.c.below HB.out) (by omega) HC2.out).mono ?_)
    rintro e Vn ⟨v1, L1, rfl, hm1, ho1, hbn⟩
    have hob := HB.out.size
    obtain ⟨C1, c3, rfl⟩ := own_slice ho1.row
    (with_reducible refine hK.out _ _ ?_ ?_)
    ·exact SOW.up hbn hHeld
    clear hK K hHeld
    intro hHeld
    (try simp only [Act.put, List.setIfInBounds_toArray, List.set_cons_zero, List.set_cons_succ])
    have HM1 := Lib.hid hm1
    replace HX := Lib.hid (HX.out.up hbn); replace HRB := Lib.hid (HRB.out.up hbn); replace HAB := Lib.hid (HAB.out.up hbn); replace HB := Lib.hid (below_next HB.out hbn); replace HP4 := Lib.hid (HP4.out.up hbn); have HO1 := Lib.hid (show FtOw w.heap.size (.slice C1 L1.length c3) L1 Vn from ⟨own_mono ho1.row hob, fun x hx => own_mono (ho1.each x hx) hob⟩)
    clear hm1 ho1 hbn hob
    obtain ⟨Vc, hVc⟩ : ∃ V, V = Vn := ⟨_, rfl⟩; subst hVc
    refine wpAnyH_ready (rs := [22]) (by decide +kernel) (by simp) ?_
    refine consL rfl (fun K hK => ?_) ?_
    ·go_simp
     go_at_call 62
     (with_reducible refine (law_fates D k4 dat (HU.out.d.below HB.out) (by omega) HD2.out).mono ?_)
     rintro e Vn ⟨v2, L2, rfl, hm2, ho2, hbn⟩
     have hob := HB.out.size
     obtain ⟨D1, c4, rfl⟩ := own_slice ho2.row
     (with_reducible refine hK.out _ _ ?_ ?_)
     ·exact SOW.up hbn hHeld
     clear hK K hHeld
     intro hHeld
     (try simp only [Act.put, List.setIfInBounds_toArray, List.set_cons_zero, List.set_cons_succ])
     have HM2 := Lib.hid hm2
     replace HX := Lib.hid (HX.out.up hbn); replace HRB := Lib.hid (HRB.out.up hbn); replace HAB := Lib.hid (HAB.out.up hbn); replace HB := Lib.hid (below_next HB.out hbn); replace HO1 := Lib.hid (HO1.out.up hbn); replace HP4 := Lib.hid (HP4.out.up hbn); have HO2 := Lib.hid (show FtOw w.heap.size (.slice D1 L2.length c4) L2 Vn from ⟨own_mono ho2.row hob, fun x hx => own_mono (ho2.each x hx) hob⟩)
     clear hm2 ho2 hbn hob
     obtain ⟨Vc, hVc⟩ : ∃ V, V = Vn := ⟨_, rfl⟩; subst hVc
     (refine takeL (i := 23) (v := ?_) rfl (by kernel_rfl) (by decide +kernel) (by decide +kernel) (fun _ _ _ h => h) (Or.inl ⟨by rfl, ?_⟩) (by assumption) ?_; rotate_left; (focus (intro w9 hS9; (try dsimp only at hS9); go_simp; (try with_reducible rfl); done)))
     (try simp only [Act.put, List.setIfInBounds_toArray, List.set_cons_zero, List.set_cons_succ])
     refine wpAnyH_ready (rs := [25]) (by decide +kernel) (by simp) ?_
     refine consL rfl (fun K hK => ?_) ?_
     ·obtain ⟨y0, y1, y2, y3, y4, y5, y6, y7, y8, y9, y10, y11, y12, fy⟩ := HP4.out.c13
      have HBP := Lib.hid (HX.out.neT HP4.out (by decide))
      have HAP := Lib.hid (HAB.out.neT HP4.out (by decide))
      go_simp
      (with_reducible refine hK.out _ _ ?_ ?_)
      ·exact (SOW.far HBP.out HAP.out ((SOW.far HBP.out HAP.out ((SOW.far HBP.out HAP.out ((SOW.far HBP.out HAP.out ((SOW.far HBP.out HAP.out ((SOW.far HBP.out HAP.out ((SOW.far HBP.out HAP.out ((SOW.far HBP.out HAP.out ((SOW.far HBP.out HAP.out ((SOW.far HBP.out HAP.out ((SOW.far HBP.out HAP.out ((SOW.far HBP.out HAP.out ((SOW.far HBP.out HAP.out (hHeld))))))))))))))))))))))))))
      clear hK K hHeld
      intro hHeld
      (try simp only [Act.put, List.setIfInBounds_toArray, List.set_cons_zero, List.set_cons_succ])
      refine wpAnyH_done (by decide +kernel) ?_ _
      go_wp2_with fail
      go_meet
      have HFIN := vset13 HLT.out.1 HLT.out.2 (.int .i64 t.n) (.slice A1 t.ov.length k1) (.slice A2 t.ls.length k2) (.int .i64 h1) (.int .i64 h2) (.int .i64 h3) (.int .i64 g) (.int .i64 s) (.int .i64 det) (.int .i64 room) (.slice C1 L1.length c3) (.slice D1 L2.length c4) (.slice none 0 0) (⟨⟨HX.out, HRB.out, HO1.out, HO2.out, HB.out⟩, HP4.out⟩ : VO w b p2 #[.int .i64 t.n, .slice A1 t.ov.length k1, .slice A2 t.ls.length k2, .int .i64 h1, .int .i64 h2, .int .i64 h3, .int .i64 g, .int .i64 s, .int .i64 det, .int .i64 room, .slice C ctl.length k3, .slice D dat.length k4, .slice S acs.length k5] (.slice C1 L1.length c3) (.slice D1 L2.length c4) L1 L2 Vc ∧ Bl 66 p4 #[.int .i64 0, .slice none 0 0, .slice none 0 0, .int .i64 0, .int .i64 0, .int .i64 0, .int .i64 0, .int .i64 0, .int .i64 0, .int .i64 0, .slice none 0 0, .slice none 0 0, .slice none 0 0] Vc)
      case rel => exact ⟨p4, _, _, _, _, L1, L2, rfl, Lib.hid ⟨HM1.out, HM2.out⟩, Lib.hid HFIN.1, Lib.hid HFIN.2, HLT⟩
     exact AllReadyH.nil
    exact AllReadyH.nil
   exact AllReadyH.nil
  exact AllReadyH.nil
 case rest =>
  obtain ⟨p4, C', D', c3, c4, L1, L2, rfl, HMM, HVO, HP4, HLT⟩ := hcut
  obtain ⟨ai, hai, haz0, haz1, haz2⟩ := info_parts info_Act
  clear HX HRB HB HSM HAR
  have HX0 := HVO.out.x.c13
  obtain ⟨b0, b1, b2, b3, b4, b5, b6, b7, b8, b9, b10, b11, b12, fb⟩ := HX0
  go_wp2_with fail
  refine wp_named4 (fun Y => VO w b p2 #[.int .i64 t.n, .slice A1 t.ov.length k1, .slice A2 t.ls.length k2, .int .i64 h1, .int .i64 h2, .int .i64 h3, .int .i64 g, .int .i64 s, .int .i64 det, .int .i64 room, .slice C ctl.length k3, .slice D dat.length k4, .slice S acs.length k5] (.slice C' L1.length c3) (.slice D' L2.length c4) L1 L2 Y ∧ Bl 66 p4 #[.int .i64 t.n, .slice A1 t.ov.length k1, .slice A2 t.ls.length k2, .int .i64 h1, .int .i64 h2, .int .i64 h3, .int .i64 g, .int .i64 s, .int .i64 det, .int .i64 room, .slice C' L1.length c3, .slice D' L2.length c4, .slice none 0 0] Y) ⟨HVO.out, HP4.out⟩ ?_
  rintro W2 ⟨hY1, hY2⟩
  replace HVO := Lib.hid hY1
  replace HP4 := Lib.hid hY2
  clear hY1 hY2 b0 b1 b2 b3 b4 b5 b6 b7 b8 b9 b10 b11 b12 fb
  go_loopg [5] acs.length (fun gg i wx => ∃ (q : Nat) (vs : Value), q + gg = acs.length ∧ i = .int .i64 q ∧ Hid (VO w b p2 #[.int .i64 t.n, .slice A1 t.ov.length k1, .slice A2 t.ls.length k2, .int .i64 h1, .int .i64 h2, .int .i64 h3, .int .i64 g, .int .i64 s, .int .i64 det, .int .i64 room, .slice C ctl.length k3, .slice D dat.length k4, .slice S acs.length k5] (.slice C' L1.length c3) (.slice D' L2.length c4) L1 L2 wx) ∧ Hid (Bl 66 p4 #[.int .i64 t.n, .slice A1 t.ov.length k1, .slice A2 t.ls.length k2, .int .i64 h1, .int .i64 h2, .int .i64 h3, .int .i64 g, .int .i64 s, .int .i64 det, .int .i64 room, .slice C' L1.length c3, .slice D' L2.length c4, vs] wx) ∧ Hid (wx.ownsRow w.heap.size 127 14 vs q ((acs.take q).flatMap acV)))
  case atStart => exact ⟨0, _, by omega, rfl, HVO, HP4, Lib.hid (World.ownsRow_nil _ _ _ _)⟩
  case round =>
   clear HVO HP4
   obtain ⟨q, vs, hq, rfl, HVO, HP4, HROW⟩ := hrel
   obtain ⟨b0, b1, b2, b3, b4, b5, b6, b7, b8, b9, b10, b11, b12, fb⟩ := HVO.out.x.c13
   by_cases hlt : q < acs.length
   ·have hlt' : (q : Int) < (acs.length : Int) := by omega
    obtain ⟨a, hx⟩ : ∃ a, acs[q]? = some a := ⟨_, List.getElem?_eq_getElem hlt⟩
    obtain ⟨bz, oz, rfl, hcs⟩ := act_at (HU.out.s.below HVO.out.b) hx
    obtain ⟨a0, a1, a2, a3, a4, a5, a6, a7, a8, a9, a10, a11, a12, a13⟩ := ac_cells hcs
    have HXx := Lib.hid hx
    have HCS := Lib.hid hcs
    have p12 := HP4.out.cell 12 rfl
    have hsc : SAC a b bz (oz + q * 14) (.slice (some ⟨bz, oz, none⟩) acs.length k5) wr := ⟨b12, a0, a1, a2, a3, a4, a5, a6, a7, a8, a9, a10, a11, a12, a13⟩
    have HSC := Lib.hid hsc
    have hbzw : bz < w.heap.size := by
     obtain ⟨bz2, oz2, e, hc⟩ := act_at HU.out.s hx
     injection e with e
     injection e with e1 _ _
     have := block_lt_of_cell (hc 0 _ rfl)
     rw [e1]; exact this
    have HBZ := Lib.hid hbzw
    have HBP := Lib.hid (HVO.out.x.neT HP4.out (by decide))
    have HBR := Lib.hid (own_neT HROW.out HP4.out (by decide))
    have HBB := Lib.hid (own_neT HROW.out HVO.out.x (by decide))
    have HLTB := Lib.hid HVO.out.x.lt
    have HP4L := Lib.hid HP4.out.lt
    clear hx hcs hsc a0 a1 a2 a3 a4 a5 a6 a7 a8 a9 a10 a11 a12 a13 hbzw
    go_upto_region 6 with fail
    clear b0 b1 b2 b3 b4 b5 b6 b7 b8 b9 b10 b11 b12 fb
    have hlp := HP4L.out
    have hnp1 : p4 ≠ wr.heap.size := Nat.ne_of_lt HP4L.out
    have hnp2 : wr.heap.size ≠ p4 := fun e => hnp1 e.symm
    refine wp_region_held_drew (S := fun W => W.cell? ⟨b, 12, none⟩ = some (.slice (some ⟨bz, oz, none⟩) acs.length k5) ∧ W.cell? ⟨bz, oz + q * 14, none⟩ = some (.int .i64 a.time) ∧ W.cell? ⟨bz, oz + q * 14 + 1, none⟩ = some (.int .i64 a.kind) ∧ W.cell? ⟨bz, oz + q * 14 + 2, none⟩ = some (.int .i64 a.id) ∧ W.cell? ⟨bz, oz + q * 14 + 3, none⟩ = some (.int .i64 a.src) ∧ W.cell? ⟨bz, oz + q * 14 + 4, none⟩ = some (.int .i64 a.dst) ∧ W.cell? ⟨bz, oz + q * 14 + 5, none⟩ = some (.int .i64 a.p3) ∧ W.cell? ⟨bz, oz + q * 14 + 6, none⟩ = some (.slice a.st a.sn a.sc) ∧ W.cell? ⟨bz, oz + q * 14 + 7, none⟩ = some (.int .i64 a.p5) ∧ W.cell? ⟨bz, oz + q * 14 + 8, none⟩ = some (.int .i64 a.ck) ∧ W.cell? ⟨bz, oz + q * 14 + 9, none⟩ = some (.int .i64 a.cm) ∧ W.cell? ⟨bz, oz + q * 14 + 10, none⟩ = some (.int .i64 a.node) ∧ W.cell? ⟨bz, oz + q * 14 + 11, none⟩ = some (.bool a.on) ∧ W.cell? ⟨bz, oz + q * 14 + 12, none⟩ = some (.int .i64 a.arc) ∧ W.cell? ⟨bz, oz + q * 14 + 13, none⟩ = some (.int .i64 a.cost)) (by kernel_rfl) ?_ (fun hHeld => ?_)
    ·exact HSC.out
    (refine takeL (i := 2) (v := ?_) rfl (by kernel_rfl) (by decide +kernel) (by decide +kernel) (fun _ _ _ h => h) (Or.inl ⟨by rfl, ?_⟩) (by assumption) ?_; rotate_left; (focus (intro w9 hS9; (try dsimp only at hS9); go_simp; (try with_reducible rfl); done)))
    (try simp only [Act.put, List.setIfInBounds_toArray, List.set_cons_zero, List.set_cons_succ])
    (refine takeL (i := 3) (v := ?_) rfl (by kernel_rfl) (by decide +kernel) (by decide +kernel) (fun _ _ _ h => h) (Or.inl ⟨by rfl, ?_⟩) (by assumption) ?_; rotate_left; (focus (intro w9 hS9; (try dsimp only at hS9); go_simp; (try with_reducible rfl); done)))
    (try simp only [Act.put, List.setIfInBounds_toArray, List.set_cons_zero, List.set_cons_succ])
    (refine takeL (i := 4) (v := ?_) rfl (by kernel_rfl) (by decide +kernel) (by decide +kernel) (fun _ _ _ h => h) (Or.inl ⟨by rfl, ?_⟩) (by assumption) ?_; rotate_left; (focus (intro w9 hS9; (try dsimp only at hS9); go_simp; (try with_reducible rfl); done)))
    (try simp only [Act.put, List.setIfInBounds_toArray, List.set_cons_zero, List.set_cons_succ])
    (refine takeL (i := 5) (v := ?_) rfl (by kernel_rfl) (by decide +kernel) (by decide +kernel) (fun _ _ _ h => h) (Or.inl ⟨by rfl, ?_⟩) (by assumption) ?_; rotate_left; (focus (intro w9 hS9; (try dsimp only at hS9); go_simp; (try with_reducible rfl); done)))
    (try simp only [Act.put, List.setIfInBounds_toArray, List.set_cons_zero, List.set_cons_succ])
    (refine takeL (i := 6) (v := ?_) rfl (by kernel_rfl) (by decide +kernel) (by decide +kernel) (fun _ _ _ h => h) (Or.inl ⟨by rfl, ?_⟩) (by assumption) ?_; rotate_left; (focus (intro w9 hS9; (try dsimp only at hS9); go_simp; (try with_reducible rfl); done)))
    (try simp only [Act.put, List.setIfInBounds_toArray, List.set_cons_zero, List.set_cons_succ])
    (refine takeL (i := 0) (v := ?_) rfl (by kernel_rfl) (by decide +kernel) (by decide +kernel) (fun _ _ _ h => h) (Or.inl ⟨by rfl, ?_⟩) (by assumption) ?_; rotate_left; (focus (intro w9 hS9; (try dsimp only at hS9); go_simp; (try with_reducible rfl); done)))
    (try simp only [Act.put, List.setIfInBounds_toArray, List.set_cons_zero, List.set_cons_succ])
    refine wpAnyH_ready (rs := [1, 7]) (by decide +kernel) (by simp) ?_
    refine consL rfl (fun K hK => ?_) ?_
    ·go_simp
     (with_reducible refine hK.out _ _ ?_ ?_)
     ·exact hHeld
     clear hK K hHeld
     intro hHeld
     (try simp only [Act.put, List.setIfInBounds_toArray, List.set_cons_zero, List.set_cons_succ])
     refine wpAnyH_ready (rs := [7]) (by decide +kernel) (by simp) ?_
     refine consL rfl (fun K hK => ?_) ?_
     ·go_simp
      (with_reducible refine hK.out _ _ ?_ ?_)
      ·exact SAC.up hHeld (below_box _ _)
      clear hK K hHeld
      intro hHeld
      (try simp only [Act.put, List.setIfInBounds_toArray, List.set_cons_zero, List.set_cons_succ])
      refine wpAnyH_ready (rs := [8]) (by decide +kernel) (by simp) ?_
      refine consL rfl (fun K hK => ?_) ?_
      ·(refine step_append_lies _ rfl _ _ 64 rfl w.heap.size 127 ai (.agg #[.int .i64 0, .int .i64 0, .int .i64 0, .int .i64 0, .int .i64 0, .int .i64 0, .slice none 0 0, .int .i64 0, .int .i64 0, .int .i64 0, .int .i64 0, .bool false, .int .i64 0, .int .i64 0]) 14 128 Tryz.underlying64 hai haz0 haz1 haz2 rfl (by decide) _ _ _ rfl (HROW.out.alloc _) ⟨wr.heap.size, 0, none⟩ 1 1 [.int .i64 a.time, .int .i64 a.kind, .int .i64 a.id, .int .i64 a.src, .int .i64 a.dst, .int .i64 a.p3, .slice a.st a.sn a.sc, .int .i64 a.p5, .int .i64 a.ck, .int .i64 a.cm, .int .i64 a.node, .bool a.on, .int .i64 a.arc, .int .i64 a.cost] rfl rfl (World.news_of_block (heap_alloc_new wr _)) (acV_oneP a) (by decide) (by unfold maxLen; omega) (by omega) (Nat.le_trans HVO.out.b.size (by simp)) _ rfl ?_; intro ga ca W5 ap1 ap2 ap3 ap4)
       have apg : (wr.alloc (.cells #[.int .i64 a.time, .int .i64 a.kind, .int .i64 a.id, .int .i64 a.src, .int .i64 a.dst, .int .i64 a.p3, .slice a.st a.sn a.sc, .int .i64 a.p5, .int .i64 a.ck, .int .i64 a.cm, .int .i64 a.node, .bool a.on, .int .i64 a.arc, .int .i64 a.cost] 127)).grownBy W5 vs.ownBlock := ⟨ap2.os, ap2.tape, ap2.output, ap2.size, ap2.block⟩
       have hbx := below_box wr (.cells #[.int .i64 a.time, .int .i64 a.kind, .int .i64 a.id, .int .i64 a.src, .int .i64 a.dst, .int .i64 a.p3, .slice a.st a.sn a.sc, .int .i64 a.p5, .int .i64 a.ck, .int .i64 a.cm, .int .i64 a.node, .bool a.on, .int .i64 a.arc, .int .i64 a.cost] 127)
       (with_reducible refine hK.out _ _ ?_ ?_)
       ·exact SAC.kept hHeld (apg.block _ (by have := HLTB.out; simp; omega) (fun e => HBB.out e.symm)) (apg.block _ (by have := HBZ.out; have := HVO.out.b.size; simp; omega) (fun e => by have := (HROW.out.lt _ e.symm).1; have := HBZ.out; omega))
       clear hK K hHeld
       intro hHeld
       (try simp only [Act.put, List.setIfInBounds_toArray, List.set_cons_zero, List.set_cons_succ])
       have hbR := HROW.out
       have b4 := (HP4.out.up hbx).grownX apg (own_neT (own_up HROW.out hbx) (HP4.out.up hbx) (by decide))
       have z12 := b4.cell 12 rfl
       have f12 := b4.frz
       have HB4 := Lib.hid b4
       have hvo : VO w b p2 _ (.slice C' L1.length c3) (.slice D' L2.length c4) L1 L2 W5 := VO.grown (HVO.out.up hbx) apg (own_up HROW.out hbx)
       have HVO5 := Lib.hid hvo
       have HAP := Lib.hid ap1
       have HLT5 := HLT
       (refine takeL (i := 9) (v := ?_) rfl (by kernel_rfl) (by decide +kernel) (by decide +kernel) (fun _ _ _ h => h) (Or.inl ⟨by rfl, ?_⟩) (by assumption) ?_; rotate_left; (focus (intro w9 hS9; (try dsimp only at hS9); go_simp; (try with_reducible rfl); done)))
       (try simp only [Act.put, List.setIfInBounds_toArray, List.set_cons_zero, List.set_cons_succ])
       refine wpAnyH_ready (rs := [10]) (by decide +kernel) (by simp) ?_
       refine consL rfl (fun K hK => ?_) ?_
       ·go_simp
        (with_reducible refine hK.out _ _ ?_ ?_)
        ·exact SAC.kept hHeld (Below.heap_setCell _ _ _ _ HBP.out) (Below.heap_setCell _ _ _ _ (by have := HBZ.out; have := HLT.out.2; intro e; have e2 : bz = p4 := e; omega))
        clear hK K hHeld
        intro hHeld
        (try simp only [Act.put, List.setIfInBounds_toArray, List.set_cons_zero, List.set_cons_succ])
        refine wpAnyH_done (by decide +kernel) ?_ _
        go_wp2_with fail
        go_roundg (gk - 1)
        case measure => omega
        case rel =>
         have hv2 := vset2 (j := 12) (u := .slice (some ⟨ga, 0, none⟩) (q + 1) ca) HLT.out.1 HLT.out.2 rfl ⟨HVO5.out, HB4.out⟩
         refine ⟨q + 1, .slice (some ⟨ga, 0, none⟩) (q + 1) ca, by omega, by go_num, Lib.hid hv2.1, Lib.hid hv2.2, Lib.hid ?_⟩
         rw [List.take_add_one, HXx.out, Option.toList_some, List.flatMap_append, List.flatMap_singleton]
         exact own_setCell HAP.out (own_neT HAP.out HB4.out (by decide)) _
       exact AllReadyH.nil
      exact AllReadyH.nil
     exact AllReadyH.nil
    refine consL rfl (fun K hK => ?_) ?_
    ·go_simp
     (with_reducible refine hK.out _ _ ?_ ?_)
     ·exact SAC.up hHeld (below_box _ _)
     clear hK K hHeld
     intro hHeld
     (try simp only [Act.put, List.setIfInBounds_toArray, List.set_cons_zero, List.set_cons_succ])
     refine wpAnyH_ready (rs := [1]) (by decide +kernel) (by simp) ?_
     refine consL rfl (fun K hK => ?_) ?_
     ·go_simp
      (with_reducible refine hK.out _ _ ?_ ?_)
      ·exact hHeld
      clear hK K hHeld
      intro hHeld
      (try simp only [Act.put, List.setIfInBounds_toArray, List.set_cons_zero, List.set_cons_succ])
      refine wpAnyH_ready (rs := [8]) (by decide +kernel) (by simp) ?_
      refine consL rfl (fun K hK => ?_) ?_
      ·(refine step_append_lies _ rfl _ _ 64 rfl w.heap.size 127 ai (.agg #[.int .i64 0, .int .i64 0, .int .i64 0, .int .i64 0, .int .i64 0, .int .i64 0, .slice none 0 0, .int .i64 0, .int .i64 0, .int .i64 0, .int .i64 0, .bool false, .int .i64 0, .int .i64 0]) 14 128 Tryz.underlying64 hai haz0 haz1 haz2 rfl (by decide) _ _ _ rfl (HROW.out.alloc _) ⟨wr.heap.size, 0, none⟩ 1 1 [.int .i64 a.time, .int .i64 a.kind, .int .i64 a.id, .int .i64 a.src, .int .i64 a.dst, .int .i64 a.p3, .slice a.st a.sn a.sc, .int .i64 a.p5, .int .i64 a.ck, .int .i64 a.cm, .int .i64 a.node, .bool a.on, .int .i64 a.arc, .int .i64 a.cost] rfl rfl (World.news_of_block (heap_alloc_new wr _)) (acV_oneP a) (by decide) (by unfold maxLen; omega) (by omega) (Nat.le_trans HVO.out.b.size (by simp)) _ rfl ?_; intro ga ca W5 ap1 ap2 ap3 ap4)
       have apg : (wr.alloc (.cells #[.int .i64 a.time, .int .i64 a.kind, .int .i64 a.id, .int .i64 a.src, .int .i64 a.dst, .int .i64 a.p3, .slice a.st a.sn a.sc, .int .i64 a.p5, .int .i64 a.ck, .int .i64 a.cm, .int .i64 a.node, .bool a.on, .int .i64 a.arc, .int .i64 a.cost] 127)).grownBy W5 vs.ownBlock := ⟨ap2.os, ap2.tape, ap2.output, ap2.size, ap2.block⟩
       have hbx := below_box wr (.cells #[.int .i64 a.time, .int .i64 a.kind, .int .i64 a.id, .int .i64 a.src, .int .i64 a.dst, .int .i64 a.p3, .slice a.st a.sn a.sc, .int .i64 a.p5, .int .i64 a.ck, .int .i64 a.cm, .int .i64 a.node, .bool a.on, .int .i64 a.arc, .int .i64 a.cost] 127)
       (with_reducible refine hK.out _ _ ?_ ?_)
       ·exact SAC.kept hHeld (apg.block _ (by have := HLTB.out; simp; omega) (fun e => HBB.out e.symm)) (apg.block _ (by have := HBZ.out; have := HVO.out.b.size; simp; omega) (fun e => by have := (HROW.out.lt _ e.symm).1; have := HBZ.out; omega))
       clear hK K hHeld
       intro hHeld
       (try simp only [Act.put, List.setIfInBounds_toArray, List.set_cons_zero, List.set_cons_succ])
       have hbR := HROW.out
       have b4 := (HP4.out.up hbx).grownX apg (own_neT (own_up HROW.out hbx) (HP4.out.up hbx) (by decide))
       have z12 := b4.cell 12 rfl
       have f12 := b4.frz
       have HB4 := Lib.hid b4
       have hvo : VO w b p2 _ (.slice C' L1.length c3) (.slice D' L2.length c4) L1 L2 W5 := VO.grown (HVO.out.up hbx) apg (own_up HROW.out hbx)
       have HVO5 := Lib.hid hvo
       have HAP := Lib.hid ap1
       have HLT5 := HLT
       (refine takeL (i := 9) (v := ?_) rfl (by kernel_rfl) (by decide +kernel) (by decide +kernel) (fun _ _ _ h => h) (Or.inl ⟨by rfl, ?_⟩) (by assumption) ?_; rotate_left; (focus (intro w9 hS9; (try dsimp only at hS9); go_simp; (try with_reducible rfl); done)))
       (try simp only [Act.put, List.setIfInBounds_toArray, List.set_cons_zero, List.set_cons_succ])
       refine wpAnyH_ready (rs := [10]) (by decide +kernel) (by simp) ?_
       refine consL rfl (fun K hK => ?_) ?_
       ·go_simp
        (with_reducible refine hK.out _ _ ?_ ?_)
        ·exact SAC.kept hHeld (Below.heap_setCell _ _ _ _ HBP.out) (Below.heap_setCell _ _ _ _ (by have := HBZ.out; have := HLT.out.2; intro e; have e2 : bz = p4 := e; omega))
        clear hK K hHeld
        intro hHeld
        (try simp only [Act.put, List.setIfInBounds_toArray, List.set_cons_zero, List.set_cons_succ])
        refine wpAnyH_done (by decide +kernel) ?_ _
        go_wp2_with fail
        go_roundg (gk - 1)
        case measure => omega
        case rel =>
         have hv2 := vset2 (j := 12) (u := .slice (some ⟨ga, 0, none⟩) (q + 1) ca) HLT.out.1 HLT.out.2 rfl ⟨HVO5.out, HB4.out⟩
         refine ⟨q + 1, .slice (some ⟨ga, 0, none⟩) (q + 1) ca, by omega, by go_num, Lib.hid hv2.1, Lib.hid hv2.2, Lib.hid ?_⟩
         rw [List.take_add_one, HXx.out, Option.toList_some, List.flatMap_append, List.flatMap_singleton]
         exact own_setCell HAP.out (own_neT HAP.out HB4.out (by decide)) _
       exact AllReadyH.nil
      exact AllReadyH.nil
     exact AllReadyH.nil
    exact AllReadyH.nil
   ·obtain rfl : q = acs.length := by omega
    rw [List.take_length] at HROW
    obtain ⟨S', k5', rfl⟩ := own_slice HROW.out
    have hlf : ¬ ((acs.length : Int) < (acs.length : Int)) := by omega
    obtain ⟨p0, p1, p2', p3, p4', p5, p6, p7, p8, p9, p10, p11, p12, fp⟩ := HP4.out.c13
    obtain ⟨r0, r1, r2, r3, r4, r5, r6, r7, r8, r9, r10, r11, r12, fr⟩ := HVO.out.r.c13
    have hp2w : w.heap.size ≤ p2 := by have := HP2.out; omega
    have hq13 := Lib.hid (qset13 hp2w (.int .i64 t.n) (.slice A1 t.ov.length k1) (.slice A2 t.ls.length k2) (.int .i64 h1) (.int .i64 h2) (.int .i64 h3) (.int .i64 g) (.int .i64 s) (.int .i64 det) (.int .i64 room) (.slice C' L1.length c3) (.slice D' L2.length c4) (.slice S' acs.length k5') ⟨⟨_, HVO.out.r⟩, HVO.out.c, HVO.out.d, HROW.out, HVO.out.b⟩)
    have HCT := Lib.hid (ft_small HMM.out.1 HC2.out)
    have HDT := Lib.hid (ft_small HMM.out.2 HD2.out)
    go_wp2_with fail
    obtain ⟨-, g1, g2, g3, g4⟩ := hq13.out
    obtain ⟨AC, cc, ec, fc⟩ := g1.at_ HCT.out
    obtain ⟨AD, cd, ed, fd⟩ := g2.at_ HDT.out
    injection ec with ec1 _ _
    injection ed with ed1 _ _
    subst ec1 ed1
    obtain ⟨AS, cs', es, _, _, fs'⟩ := rd_of_ownK g3
    injection es with es1 _ _
    subst es1
    exact bodyPost_ret (v := .agg #[.int .i64 t.n, .slice A1 t.ov.length k1, .slice A2 t.ls.length k2, .int .i64 h1, .int .i64 h2, .int .i64 h3, .int .i64 g, .int .i64 s, .int .i64 det, .int .i64 room, .slice C' L1.length c3, .slice D' L2.length c4, .slice S' acs.length k5']) (by simp [results, Tryz.results22, go_sem, r0, r1, r2, r3, r4, r5, r6, r7, r8, r9, r10, r11, r12]) rfl ⟨C', D', S', c3, c4, k5', L1, L2, rfl, HMM.out.1, HMM.out.2, ⟨HU.out.t.below g4, fc, fd, fs'⟩, g4⟩
end
end Go.Proofs.YtenhliibmcmnbaaGreat
