/-
  network.New (printed by gen_nvm.py).
-/
import Derived.Test.YtenhliibmcmnbaaGreatPkNvK
import Derived.Test.YtenhliibmcmnbaaGreatPkNvE
import Derived.Test.YtenhliibmcmnbaaGreatMkG
namespace Go.Proofs.YtenhliibmcmnbaaGreat
set_option linter.unusedSimpArgs false
set_option linter.unusedVariables false
open Go.RowKit Go.Sort

/-- The number of the next block. -/
def nxt (W : World) : Nat := W.heap.size
def mkM (W : World) : World := W.alloc (.map #[] 0)
/-- A block that has been made, if it has. -/
def BQ (on : Bool) (T : TypeId) (k : Nat) (cs : Array Value) (m : Nat) (W : World) : Prop := on = true → Bl T k cs W ∧ m ≤ k
theorem BQ.up {on : Bool} {T : TypeId} {k : Nat} {cs : Array Value} {m : Nat} {W W' : World} (h : BQ on T k cs m W) (hb : Below W.heap.size W W') : BQ on T k cs m W' := fun e => ⟨(h e).1.up hb, (h e).2⟩
def OQ (on : Bool) (B : Nat) (E : TypeId) (size : Nat) (v : Value) (n : Nat) (xs : List Value) (W : World) : Prop := on = true → W.ownsRow B E size v n xs
theorem OQ.up {on : Bool} {B : Nat} {E : TypeId} {size : Nat} {v : Value} {n : Nat} {xs : List Value} {W W' : World} (h : OQ on B E size v n xs W) (hb : Below W.heap.size W W') : OQ on B E size v n xs W' := fun e => own_up (h e) hb
theorem chInfo : (Tryz.prog.info? 122).map (fun i => (i.zero, i.size, i.bytes)) = some (some (Value.pointer none), 1, 8) := by kernel_rfl
/-- The stacks of acts can be read. -/
def StAt (w : World) (l : List AcN) : Prop := ∀ a ∈ l, ∃ ys, Rd w a.st ys ∧ ys.length = a.sn * 2 ∧ ∀ y ∈ ys, y.oneCell' = true
theorem StAt.below {w w' : World} {l : List AcN} (h : StAt w l) (hb : Below w.heap.size w w') : StAt w' l := fun a ha => by
  obtain ⟨ys, h1, h2⟩ := h a ha
  exact ⟨ys, h1.below hb, h2⟩
/-- A script that is being copied: the acts from i on still have the stacks that were given. -/
def SRow (acs : List AcN) (x : Value) (m i : Nat) (W : World) : Prop :=
  ∃ A c, x = .slice A acs.length c ∧ (acs.length = 0 ∨ ∃ g cur, A = some ⟨g, 0, none⟩ ∧ m ≤ g ∧ Bl 127 g cur W ∧ acs.length * 14 ≤ cur.size ∧ ∀ j a, i ≤ j → acs[j]? = some a → cur[j * 14 + 6]? = some (.slice a.st a.sn a.sc))
theorem SRow.up {acs : List AcN} {x : Value} {m i : Nat} {W W' : World} (h : SRow acs x m i W) (hb : Below W.heap.size W W') : SRow acs x m i W' := by
  obtain ⟨A, c, h1, h2⟩ := h
  refine ⟨A, c, h1, h2.imp id ?_⟩
  rintro ⟨g, cur, h3, hm, h4, h5⟩
  exact ⟨g, cur, h3, hm, h4.up hb, h5⟩
theorem acV_one (a : AcN) : ∀ u ∈ acV a, u.oneCell' = true := by
  intro u hu
  simp only [acV, List.mem_cons, List.mem_nil_iff, or_false] at hu
  rcases hu with rfl | rfl | rfl | rfl | rfl | rfl | rfl | rfl | rfl | rfl | rfl | rfl | rfl | rfl <;> rfl
theorem acs_one (l : List AcN) : ∀ u ∈ l.flatMap acV, u.oneCell' = true := fun u hu => by
  obtain ⟨a, _, h⟩ := List.mem_flatMap.1 hu
  exact acV_one a u h
theorem SRow.of {acs : List AcN} {x : Value} {B : Nat} {W : World} (h : W.ownsRow B 127 14 x acs.length (acs.flatMap acV)) : SRow acs x B 0 W := by
  have hrd := rd_of_ownK h
  rcases h with ⟨hl, ⟨rfl, h0⟩ | ⟨g, cap, cur, rfl, hb, hg, hnc, hcm, hs, ht⟩⟩
  · exact ⟨none, 0, by rw [h0], .inl h0⟩
  refine ⟨some ⟨g, 0, none⟩, cap, rfl, .inr ⟨g, cur, rfl, hb, hg, by rw [hs]; exact Nat.mul_le_mul_right 14 hnc, fun j a _ ha => ?_⟩⟩
  obtain ⟨A, c, e, _, _, hr⟩ := hrd
  injection e with e _ _
  subst e
  obtain ⟨bz, oz, e2, hc⟩ := act_at hr ha
  injection e2 with e2
  injection e2 with e3 e4 _
  subst e3 e4
  have h6 := hc 6 (.slice a.st a.sn a.sc) rfl
  rw [Lib.cell_of_heap hg] at h6
  simpa using h6
/-- What the making of a network loads. -/
def SMK (t : Topo) (C1 C2 S : Option Addr) (e1 e2 k5 : Nat) (h1 h2 h3 g s det room : Int) (n5 b tb : Nat) (W : World) : Prop :=
  W.cell? ⟨tb, 0, none⟩ = some (.int .i64 t.n) ∧ W.cell? ⟨tb, 1, none⟩ = some (.slice C1 t.ov.length e1) ∧ W.cell? ⟨tb, 2, none⟩ = some (.slice C2 t.ls.length e2) ∧ W.cell? ⟨b, 3, none⟩ = some (.int .i64 h1) ∧ W.cell? ⟨b, 4, none⟩ = some (.int .i64 h2) ∧ W.cell? ⟨b, 5, none⟩ = some (.int .i64 h3) ∧ W.cell? ⟨b, 6, none⟩ = some (.int .i64 g) ∧ W.cell? ⟨b, 7, none⟩ = some (.int .i64 s) ∧ W.cell? ⟨b, 8, none⟩ = some (.int .i64 det) ∧ W.cell? ⟨b, 9, none⟩ = some (.int .i64 room) ∧ W.cell? ⟨b, 12, none⟩ = some (.slice S n5 k5)
theorem SMK.up {t : Topo} {C1 C2 S : Option Addr} {e1 e2 k5 : Nat} {h1 h2 h3 g s det room : Int} {n5 b tb : Nat} {W W' : World} (hb : Below W.heap.size W W') (h : SMK t C1 C2 S e1 e2 k5 h1 h2 h3 g s det room n5 b tb W) : SMK t C1 C2 S e1 e2 k5 h1 h2 h3 g s det room n5 b tb W' :=
  ⟨cell_up hb h.1, cell_up hb h.2.1, cell_up hb h.2.2.1, cell_up hb h.2.2.2.1, cell_up hb h.2.2.2.2.1, cell_up hb h.2.2.2.2.2.1, cell_up hb h.2.2.2.2.2.2.1, cell_up hb h.2.2.2.2.2.2.2.1, cell_up hb h.2.2.2.2.2.2.2.2.1, cell_up hb h.2.2.2.2.2.2.2.2.2.1, cell_up hb h.2.2.2.2.2.2.2.2.2.2⟩
theorem NB.up {t : Topo} {h1 h2 h3 g s : Int} {N nb rr bb lr : Nat} {C1 C2 : Option Addr} {e1 e2 : Nat} {x8 x9 x10 x11 x12 x14 x18 x19 x20 x22 x24 : Value} {W1 W W' : World} {k : Nat} (h : NB t h1 h2 h3 g s N nb rr bb lr C1 C2 e1 e2 x8 x9 x10 x11 x12 x14 x18 x19 x20 x22 x24 W1 k W) (hb : Below W.heap.size W W') : NB t h1 h2 h3 g s N nb rr bb lr C1 C2 e1 e2 x8 x9 x10 x11 x12 x14 x18 x19 x20 x22 x24 W1 k W' := by
  obtain ⟨a1, ⟨cr, a2, a3⟩, ⟨co, a4, a5⟩, ⟨cl, a6, a7⟩, a8, a9⟩ := h
  exact ⟨a1.up hb, ⟨cr, a2.up hb, a3⟩, ⟨co, a4.up hb, a5⟩, ⟨cl, a6.up hb, a7⟩, below_next a8 hb, a9⟩
theorem NB.set {t : Topo} {h1 h2 h3 g s : Int} {N nb rr bb lr : Nat} {C1 C2 : Option Addr} {e1 e2 : Nat} {x8 x9 x10 x11 x12 x14 x18 x19 x20 x22 x24 : Value} {W1 W : World} {k : Nat} {b j : Nat} {u : Value} {cs : Array Value} (h : NB t h1 h2 h3 g s N nb rr bb lr C1 C2 e1 e2 x8 x9 x10 x11 x12 x14 x18 x19 x20 x22 x24 W1 k W) (hb : Bl 127 b cs W) (hm : W1.heap.size ≤ b) : NB t h1 h2 h3 g s N nb rr bb lr C1 C2 e1 e2 x8 x9 x10 x11 x12 x14 x18 x19 x20 x22 x24 W1 k (W.setCell ⟨b, j, none⟩ u) := by
  obtain ⟨a1, ⟨cr, a2, a3⟩, ⟨co, a4, a5⟩, ⟨cl, a6, a7⟩, a8, a9⟩ := h
  exact ⟨a1.other (a1.neT hb (by decide)) _, ⟨cr, a2.other (a2.neT hb (by decide)) _, a3⟩, ⟨co, a4.other (a4.neT hb (by decide)) _, a5⟩, ⟨cl, a6.other (a6.neT hb (by decide)) _, a7⟩, Bset a8 hm, a9⟩
/-- What is known of a network that has been made. -/
def NetAt (n : Int) (nb : Nat) (W : World) : Prop := ∃ a1 a2 a3 a4 a5 a6 a7 a8 a9 a10 a11 a12 a14 a15 a16 a17 a18 a19 a20 a22 a24 : Value, Bl 138 nb #[.int .i64 n, a1, a2, a3, a4, a5, a6, a7, a8, a9, a10, a11, a12, .int .i64 0, a14, a15, a16, a17, a18, a19, a20, .slice none 0 0, a22, .slice none 0 0, a24] W
/-- A network that is being made: its channels and the times of its links. -/
structure NC (n : Int) (W1 : World) (nb p p2 q : Nat) (W : World) : Prop where
  n : ∃ a1 a2 a3 a4 a5 a6 a7 a8 a9 a10 a11 a12 a14 a15 a16 a17 v18 v19 a20 v22 a24 : Value, Bl 138 nb #[.int .i64 n, a1, a2, a3, a4, a5, a6, a7, a8, a9, a10, a11, a12, .int .i64 0, a14, a15, a16, a17, v18, v19, a20, .slice none 0 0, v22, .slice none 0 0, a24] W ∧ (∃ xs, W.ownsRow W1.heap.size 122 1 v18 p xs) ∧ (∃ xs, W.ownsRow W1.heap.size 122 1 v19 p2 xs) ∧ (∃ xs, W.ownsRow W1.heap.size 3 1 v22 q xs) ∧ (∀ g, v18.ownBlock = some g → v19.ownBlock ≠ some g)
  b : Below W1.heap.size W1 W
  q : W1.heap.size ≤ nb
theorem NC.push18 {n : Int} {W1 : World} {nb p p2 q : Nat} {W w2 : World} {a1 a2 a3 a4 a5 a6 a7 a8 a9 a10 a11 a12 a14 a15 a16 a17 v18 v19 a20 v22 a24 : Value} {x18 x19 x22 : List Value} {o : Obj} {g cap : Nat} {u : List Value} (h1 : Bl 138 nb #[.int .i64 n, a1, a2, a3, a4, a5, a6, a7, a8, a9, a10, a11, a12, .int .i64 0, a14, a15, a16, a17, v18, v19, a20, .slice none 0 0, v22, .slice none 0 0, a24] W) (r18 : W.ownsRow W1.heap.size 122 1 v18 p x18) (r19 : W.ownsRow W1.heap.size 122 1 v19 p2 x19) (r22 : W.ownsRow W1.heap.size 3 1 v22 q x22) (h5 : ∀ g, v18.ownBlock = some g → v19.ownBlock ≠ some g) (h6 : Below W1.heap.size W1 W) (h7 : W1.heap.size ≤ nb)
    (ho : w2.ownsRow W1.heap.size 122 1 (.slice (some ⟨g, 0, none⟩) (p + 1) cap) (p + 1) u) (hg : (W.alloc o).grownBy w2 v18.ownBlock) (hh : v18.ownBlock = some g ∨ g = W.heap.size + 1) : NC n W1 nb (p + 1) p2 q (w2.setCell ⟨nb, 18, none⟩ (.slice (some ⟨g, 0, none⟩) (p + 1) cap)) := by
  have hb := below_box W o
  have b2 : Bl 138 nb #[.int .i64 n, a1, a2, a3, a4, a5, a6, a7, a8, a9, a10, a11, a12, .int .i64 0, a14, a15, a16, a17, v18, v19, a20, .slice none 0 0, v22, .slice none 0 0, a24] w2 := (h1.up hb).grownX hg (own_neT (own_up r18 hb) (h1.up hb) (by decide))
  have s19 := own_grown (own_up r19 hb) hg (fun g e e2 => h5 g e2 e)
  have s22 := own_grown (own_up r22 hb) hg (own_neR (own_up r22 hb) (own_up r18 hb) (by decide))
  have hn : Below W1.heap.size W1 w2 := (below_next h6 hb).grown hg (Nat.le_trans h6.size hb.size) (fun k hk => (r18.lt k hk).1)
  have hne : ∀ g2, v19.ownBlock = some g2 → g2 ≠ g := fun g2 e => by
    rcases hh with h | h
    · rintro rfl
      exact h5 g2 h e
    · obtain ⟨cur, hc⟩ := own_blkX r19 e
      have h8 := lt_blk hc
      omega
  exact ⟨⟨_, _, _, _, _, _, _, _, _, _, _, _, _, _, _, _, _, _, _, _, _, b2.set 18 _ rfl, ⟨_, own_setCell ho (own_neT ho b2 (by decide)) _⟩, ⟨_, own_setCell s19 (own_neT s19 b2 (by decide)) _⟩, ⟨_, own_setCell s22 (own_neT s22 b2 (by decide)) _⟩, fun g2 e e2 => hne g2 e2 (by injection e with e; exact e.symm)⟩, Bset hn h7, h7⟩
theorem NC.push19 {n : Int} {W1 : World} {nb p p2 q : Nat} {W w2 : World} {a1 a2 a3 a4 a5 a6 a7 a8 a9 a10 a11 a12 a14 a15 a16 a17 v18 v19 a20 v22 a24 : Value} {x18 x19 x22 : List Value} {o : Obj} {g cap : Nat} {u : List Value} (h1 : Bl 138 nb #[.int .i64 n, a1, a2, a3, a4, a5, a6, a7, a8, a9, a10, a11, a12, .int .i64 0, a14, a15, a16, a17, v18, v19, a20, .slice none 0 0, v22, .slice none 0 0, a24] W) (r18 : W.ownsRow W1.heap.size 122 1 v18 p x18) (r19 : W.ownsRow W1.heap.size 122 1 v19 p2 x19) (r22 : W.ownsRow W1.heap.size 3 1 v22 q x22) (h5 : ∀ g, v18.ownBlock = some g → v19.ownBlock ≠ some g) (h6 : Below W1.heap.size W1 W) (h7 : W1.heap.size ≤ nb)
    (ho : w2.ownsRow W1.heap.size 122 1 (.slice (some ⟨g, 0, none⟩) (p2 + 1) cap) (p2 + 1) u) (hg : (W.alloc o).grownBy w2 v19.ownBlock) (hh : v19.ownBlock = some g ∨ g = W.heap.size + 1) : NC n W1 nb p (p2 + 1) q (w2.setCell ⟨nb, 19, none⟩ (.slice (some ⟨g, 0, none⟩) (p2 + 1) cap)) := by
  have hb := below_box W o
  have b2 : Bl 138 nb #[.int .i64 n, a1, a2, a3, a4, a5, a6, a7, a8, a9, a10, a11, a12, .int .i64 0, a14, a15, a16, a17, v18, v19, a20, .slice none 0 0, v22, .slice none 0 0, a24] w2 := (h1.up hb).grownX hg (own_neT (own_up r19 hb) (h1.up hb) (by decide))
  have s18 := own_grown (own_up r18 hb) hg (fun g e e2 => h5 g e e2)
  have s22 := own_grown (own_up r22 hb) hg (own_neR (own_up r22 hb) (own_up r19 hb) (by decide))
  have hn : Below W1.heap.size W1 w2 := (below_next h6 hb).grown hg (Nat.le_trans h6.size hb.size) (fun k hk => (r19.lt k hk).1)
  have hne : ∀ g2, v18.ownBlock = some g2 → g2 ≠ g := fun g2 e => by
    rcases hh with h | h
    · rintro rfl
      exact h5 g2 e h
    · obtain ⟨cur, hc⟩ := own_blkX r18 e
      have h8 := lt_blk hc
      omega
  exact ⟨⟨_, _, _, _, _, _, _, _, _, _, _, _, _, _, _, _, _, _, _, _, _, b2.set 19 _ rfl, ⟨_, own_setCell s18 (own_neT s18 b2 (by decide)) _⟩, ⟨_, own_setCell ho (own_neT ho b2 (by decide)) _⟩, ⟨_, own_setCell s22 (own_neT s22 b2 (by decide)) _⟩, fun g2 e e2 => hne g2 e (by injection e2 with e2; exact e2.symm)⟩, Bset hn h7, h7⟩
theorem NC.push22 {n : Int} {W1 : World} {nb p p2 q : Nat} {W w2 : World} {a1 a2 a3 a4 a5 a6 a7 a8 a9 a10 a11 a12 a14 a15 a16 a17 v18 v19 a20 v22 a24 : Value} {x18 x19 x22 : List Value} {o : Obj} {g cap : Nat} {u : List Value} (h1 : Bl 138 nb #[.int .i64 n, a1, a2, a3, a4, a5, a6, a7, a8, a9, a10, a11, a12, .int .i64 0, a14, a15, a16, a17, v18, v19, a20, .slice none 0 0, v22, .slice none 0 0, a24] W) (r18 : W.ownsRow W1.heap.size 122 1 v18 p x18) (r19 : W.ownsRow W1.heap.size 122 1 v19 p2 x19) (r22 : W.ownsRow W1.heap.size 3 1 v22 q x22) (h5 : ∀ g, v18.ownBlock = some g → v19.ownBlock ≠ some g) (h6 : Below W1.heap.size W1 W) (h7 : W1.heap.size ≤ nb)
    (ho : w2.ownsRow W1.heap.size 3 1 (.slice (some ⟨g, 0, none⟩) (q + 1) cap) (q + 1) u) (hg : (W.alloc o).grownBy w2 v22.ownBlock) (hh : v22.ownBlock = some g ∨ g = W.heap.size + 1) : NC n W1 nb p p2 (q + 1) (w2.setCell ⟨nb, 22, none⟩ (.slice (some ⟨g, 0, none⟩) (q + 1) cap)) := by
  have hb := below_box W o
  have b2 : Bl 138 nb #[.int .i64 n, a1, a2, a3, a4, a5, a6, a7, a8, a9, a10, a11, a12, .int .i64 0, a14, a15, a16, a17, v18, v19, a20, .slice none 0 0, v22, .slice none 0 0, a24] w2 := (h1.up hb).grownX hg (own_neT (own_up r22 hb) (h1.up hb) (by decide))
  have s18 := own_grown (own_up r18 hb) hg (own_neR (own_up r18 hb) (own_up r22 hb) (by decide))
  have s19 := own_grown (own_up r19 hb) hg (own_neR (own_up r19 hb) (own_up r22 hb) (by decide))
  have hn : Below W1.heap.size W1 w2 := (below_next h6 hb).grown hg (Nat.le_trans h6.size hb.size) (fun k hk => (r22.lt k hk).1)
  exact ⟨⟨_, _, _, _, _, _, _, _, _, _, _, _, _, _, _, _, _, _, _, _, _, b2.set 22 _ rfl, ⟨_, own_setCell s18 (own_neT s18 b2 (by decide)) _⟩, ⟨_, own_setCell s19 (own_neT s19 b2 (by decide)) _⟩, ⟨_, own_setCell ho (own_neT ho b2 (by decide)) _⟩, h5⟩, Bset hn h7, h7⟩

theorem NC.up {n : Int} {W1 : World} {nb p p2 q : Nat} {W W' : World} (h : NC n W1 nb p p2 q W) (hb : Below W.heap.size W W') : NC n W1 nb p p2 q W' := by
  obtain ⟨⟨a1, a2, a3, a4, a5, a6, a7, a8, a9, a10, a11, a12, a14, a15, a16, a17, v18, v19, a20, v22, a24, h1, ⟨y1, h2⟩, ⟨y2, h3⟩, ⟨y3, h4⟩, h5⟩, h6, h7⟩ := h
  exact ⟨⟨a1, a2, a3, a4, a5, a6, a7, a8, a9, a10, a11, a12, a14, a15, a16, a17, v18, v19, a20, v22, a24, h1.up hb, ⟨y1, own_up h2 hb⟩, ⟨y2, own_up h3 hb⟩, ⟨y3, own_up h4 hb⟩, h5⟩, below_next h6 hb, h7⟩
/-- What a link's channels are made of. -/
def SLK (b lb : Nat) (C D : Option Addr) (k3 k4 nc nd : Nat) (room dl cap : Int) (W : World) : Prop :=
  W.cell? ⟨lb, 5, none⟩ = some (.int .i64 dl) ∧ W.cell? ⟨lb, 4, none⟩ = some (.int .i64 cap) ∧ W.cell? ⟨b, 10, none⟩ = some (.slice C nc k3) ∧ W.cell? ⟨b, 11, none⟩ = some (.slice D nd k4) ∧ W.cell? ⟨b, 9, none⟩ = some (.int .i64 room)
theorem SLK.up {b lb : Nat} {C D : Option Addr} {k3 k4 nc nd : Nat} {room dl cap : Int} {W W' : World} (hb : Below W.heap.size W W') (h : SLK b lb C D k3 k4 nc nd room dl cap W) : SLK b lb C D k3 k4 nc nd room dl cap W' :=
  ⟨cell_up hb h.1, cell_up hb h.2.1, cell_up hb h.2.2.1, cell_up hb h.2.2.2.1, cell_up hb h.2.2.2.2⟩
theorem NB.nc {t : Topo} {h1 h2 h3 g s : Int} {N nb rr bb lr : Nat} {C1 C2 : Option Addr} {e1 e2 : Nat} {x8 x9 x10 x11 x12 x14 x20 x24 : Value} {W1 W : World} {k : Nat} (h : NB t h1 h2 h3 g s N nb rr bb lr C1 C2 e1 e2 x8 x9 x10 x11 x12 x14 (.slice none 0 0) (.slice none 0 0) x20 (.slice none 0 0) x24 W1 k W) : NC t.n W1 nb 0 0 0 W :=
  ⟨⟨_, _, _, _, _, _, _, _, _, _, _, _, _, _, _, _, _, _, _, _, _, h.n, ⟨[], World.ownsRow_nil _ _ _ _⟩, ⟨[], World.ownsRow_nil _ _ _ _⟩, ⟨[], World.ownsRow_nil _ _ _ _⟩, fun g e => by simp [Value.ownBlock] at e⟩, h.b, h.q.1⟩
def nmD : Nat → Nat
  | 0 => 21
  | 1 => 22
  | 2 => 23
  | 3 => 24
  | 4 => 25
  | 5 => 26
  | 6 => 27
  | 7 => 28
  | 8 => 29
  | 9 => 30
  | 10 => 31
  | 11 => 32
  | 12 => 33
  | 13 => 34
  | 14 => 35
  | 15 => 36
  | 16 => 37
  | 17 => 38
  | 18 => 39
  | 19 => 40
  | 20 => 41
  | _ => 0
theorem nmD_lt : ∀ i, i < 21 → nmD i < 42 := by decide +kernel
theorem nmD_inj : ∀ i, i < 21 → ∀ j, j < 21 → nmD i = nmD j → i = j := by decide +kernel
def nmV (t : Topo) (C1 C2 S : Option Addr) (e1 e2 k5 na : Nat) (h1 h2 h3 g s det room : Int) (b tb : Nat) : Nat → Value
  | 0 => .agg #[.int .i64 t.n, .slice C1 t.ov.length e1, .slice C2 t.ls.length e2]
  | 1 => .pointer (some ⟨b, 3, none⟩)
  | 2 => .agg #[.int .i64 h1, .int .i64 h2, .int .i64 h3, .int .i64 g, .int .i64 s]
  | 3 => .pointer (some ⟨b, 8, none⟩)
  | 4 => .int .i64 det
  | 5 => .pointer (some ⟨b, 9, none⟩)
  | 6 => .int .i64 room
  | 7 => .agg #[.int .i64 t.n, .slice C1 t.ov.length e1, .slice C2 t.ls.length e2, .int .i64 h1, .int .i64 h2, .int .i64 h3, .int .i64 g, .int .i64 s, .int .i64 det, .int .i64 room, .slice none 0 0, .slice none 0 0, .slice none 0 0]
  | 8 => .pointer (some ⟨b, 12, none⟩)
  | 9 => .slice S na k5
  | 11 => .pointer (some ⟨tb, 0, none⟩)
  | 12 => .int .i64 t.n
  | 14 => .pointer (some ⟨tb, 0, none⟩)
  | 15 => .int .i64 t.n
  | 17 => .pointer (some ⟨tb, 0, none⟩)
  | 18 => .int .i64 t.n
  | _ => undef
theorem nm_put (x : Nat → Value) (T : Array Value) : putAll nmD x 21 T = (((((((((((((((((((((T.setIfInBounds 21 (x 0)).setIfInBounds 22 (x 1)).setIfInBounds 23 (x 2)).setIfInBounds 24 (x 3)).setIfInBounds 25 (x 4)).setIfInBounds 26 (x 5)).setIfInBounds 27 (x 6)).setIfInBounds 28 (x 7)).setIfInBounds 29 (x 8)).setIfInBounds 30 (x 9)).setIfInBounds 31 (x 10)).setIfInBounds 32 (x 11)).setIfInBounds 33 (x 12)).setIfInBounds 34 (x 13)).setIfInBounds 35 (x 14)).setIfInBounds 36 (x 15)).setIfInBounds 37 (x 16)).setIfInBounds 38 (x 17)).setIfInBounds 39 (x 18)).setIfInBounds 40 (x 19)).setIfInBounds 41 (x 20)) := rfl
structure NmG (t : Topo) (C1 C2 S : Option Addr) (e1 e2 k5 : Nat) (h1 h2 h3 g s det room : Int) (b tb N B : Nat) (acs : List AcN) (i : Nat) (v : Value) (W : World) : Prop where
  g13 : i = 13 → ∃ k, v = .slice (some ⟨k, 0, none⟩) N N ∧ Bl 30 k (madeCells (Value.cells (.pointer none)) (N * 1)) W ∧ B ≤ k
  g16 : i = 16 → ∃ k, v = .slice (some ⟨k, 0, none⟩) N N ∧ Bl 3 k (madeCells (Value.cells (.int .i64 0)) (N * 1)) W ∧ B ≤ k
  g19 : i = 19 → ∃ k, v = .slice (some ⟨k, 0, none⟩) N N ∧ Bl 228 k (madeCells (Value.cells (.agg #[.slice none 0 0, .slice none 0 0, .int .i64 0])) (N * 3)) W ∧ B ≤ k
  g20 : i = 20 → ∃ k, v = .map (some k)
  g10 : i = 10 → ∃ A c, v = .slice A acs.length c ∧ W.ownsRow B 127 14 v acs.length (acs.flatMap acV)
  r : ¬ (i = 10 ∨ i = 13 ∨ i = 16 ∨ i = 19 ∨ i = 20) → v = nmV t C1 C2 S e1 e2 k5 acs.length h1 h2 h3 g s det room b tb i
theorem NmG.up {t : Topo} {C1 C2 S : Option Addr} {e1 e2 k5 : Nat} {h1 h2 h3 g s det room : Int} {b tb N B : Nat} {acs : List AcN} {i : Nat} {v : Value} {W W' : World} (h : NmG t C1 C2 S e1 e2 k5 h1 h2 h3 g s det room b tb N B acs i v W) (hb : Below W.heap.size W W') : NmG t C1 C2 S e1 e2 k5 h1 h2 h3 g s det room b tb N B acs i v W' :=
  ⟨fun e => by obtain ⟨k, h1, h2, h3⟩ := h.g13 e; exact ⟨k, h1, h2.up hb, h3⟩, fun e => by obtain ⟨k, h1, h2, h3⟩ := h.g16 e; exact ⟨k, h1, h2.up hb, h3⟩, fun e => by obtain ⟨k, h1, h2, h3⟩ := h.g19 e; exact ⟨k, h1, h2.up hb, h3⟩, h.g20, fun e => by obtain ⟨A, c, h1, h2⟩ := h.g10 e; exact ⟨A, c, h1, own_up h2 hb⟩, h.r⟩
section
variable {w : World}
set_option maxRecDepth 100000 in
set_option maxHeartbeats 2000000 in
theorem net_New_bad (u : SuN) (A1 A2 C D S : Option Addr) (k1 k2 k3 k4 k5 : Nat) (hU : SuAt w A1 A2 C D S u) (hst : StAt w u.acs) (hl : u.t.ls.length ≤ 1000) (hc : u.ctl.length ≤ 1000) (hd : u.dat.length ≤ 1000) (hs : u.acs.length ≤ 1000) (hk : ∀ a ∈ u.acs, a.sn ≤ 1000) (hok : suOk u = false) :
    Calls Tryz.prog 21 #[.agg (suC u A1 A2 C D S k1 k2 k3 k4 k5)] w fun e w' => e = .returned (.tuple #[.pointer none, .int .i64 1]) ∧ Below w.heap.size w w' := by
  have HU := Lib.hid hU
  have HK := Lib.hid hk
  have HST := Lib.hid hst
  have hvu := net_Valid (w := w.alloc (.cells (suC u A1 A2 C D S k1 k2 k3 k4 k5) 66)) u A1 A2 C D S k1 k2 k3 k4 k5 (hU.below (below_box _ _)) hl hc hd hs hk
  rw [hok] at hvu
  have hok' := hok
  have HVU := Lib.hid hvu
  clear hU hk hst hvu hok
  obtain ⟨t, h1, h2, h3, g, s, det, room, ctl, dat, acs⟩ := u
  unfold suC at *
  have HX := Lib.hid (Bl.new w #[.int .i64 t.n, .slice A1 t.ov.length k1, .slice A2 t.ls.length k2, .int .i64 h1, .int .i64 h2, .int .i64 h3, .int .i64 g, .int .i64 s, .int .i64 det, .int .i64 room, .slice C ctl.length k3, .slice D dat.length k4, .slice S acs.length k5] 66)
  obtain ⟨b0, b1, b2, b3, b4, b5, b6, b7, b8, b9, b10, b11, b12, fb⟩ := HX.out.c13
  go_enter Tryz.func21, Tryz.ntmps21
  go_wp2_with (go_at_call 18; (with_reducible refine HVU.out.mono ?_); rintro e w2 ⟨rfl, hb⟩; have HB := Lib.hid (below_next (below_box w _) hb); clear hb)
  go_ret2
  exact ⟨rfl, HB.out⟩
set_option maxRecDepth 100000 in
set_option maxHeartbeats 40000000 in
theorem net_New_ok (u : SuN) (A1 A2 C D S : Option Addr) (k1 k2 k3 k4 k5 : Nat) (hU : SuAt w A1 A2 C D S u) (hst : StAt w u.acs) (hl : u.t.ls.length ≤ 1000) (hc : u.ctl.length ≤ 1000) (hd : u.dat.length ≤ 1000) (hs : u.acs.length ≤ 1000) (hk : ∀ a ∈ u.acs, a.sn ≤ 1000) (hok : suOk u = true) :
    Calls Tryz.prog 21 #[.agg (suC u A1 A2 C D S k1 k2 k3 k4 k5)] w fun e w' => (∃ nb, e = .returned (.tuple #[.pointer (some ⟨nb, 0, none⟩), .int .i64 0]) ∧ NetAt u.t.n nb w') ∧ Below w.heap.size w w' := by
  have HU := Lib.hid hU
  have HK := Lib.hid hk
  have HST := Lib.hid hst
  have hvu := net_Valid (w := w.alloc (.cells (suC u A1 A2 C D S k1 k2 k3 k4 k5) 66)) u A1 A2 C D S k1 k2 k3 k4 k5 (hU.below (below_box _ _)) hl hc hd hs hk
  rw [hok] at hvu
  have hok' := hok
  have HVU := Lib.hid hvu
  clear hU hk hst hvu hok
  obtain ⟨t, h1, h2, h3, g, s, det, room, ctl, dat, acs⟩ := u
  unfold suC at *
  have HX := Lib.hid (Bl.new w #[.int .i64 t.n, .slice A1 t.ov.length k1, .slice A2 t.ls.length k2, .int .i64 h1, .int .i64 h2, .int .i64 h3, .int .i64 g, .int .i64 s, .int .i64 det, .int .i64 room, .slice C ctl.length k3, .slice D dat.length k4, .slice S acs.length k5] 66)
  obtain ⟨b0, b1, b2, b3, b4, b5, b6, b7, b8, b9, b10, b11, b12, fb⟩ := HX.out.c13
  have hvt : valid t = true := by rw [suOk_fok] at hok'; simp only [Bool.and_eq_true] at hok'; exact hok'.1.1.1.1.1.1.1
  have htm : tmsOk [h1, h2, h3, g, s] = true := by rw [suOk_fok] at hok'; simp only [Bool.and_eq_true] at hok'; exact hok'.1.1.1.1.2
  have hN := valid_n hvt
  obtain ⟨N, hNe⟩ : ∃ N : Nat, t.n = (N : Int) := ⟨t.n.toNat, by omega⟩
  have hov : t.ov.length ≤ 1000 := by rcases valid_ov hvt with h | h <;> omega
  have hls : t.ls.length ≤ 1000 := hl
  have HNE := Lib.hid hNe
  have HN6 := Lib.hid hN
  have HVT := Lib.hid hvt
  have HTM := Lib.hid htm
  clear hok' hvt htm hNe hN
  go_enter Tryz.func21, Tryz.ntmps21
  go_upto_region 4 with first | (go_at_call 18; (with_reducible refine HVU.out.mono ?_); rintro e w2 ⟨rfl, hb⟩; have HB := Lib.hid (below_next (below_box w _) hb); replace HX := Lib.hid (HX.out.up hb); clear hb b0 b1 b2 b3 b4 b5 b6 b7 b8 b9 b10 b11 b12 fb; obtain ⟨b0, b1, b2, b3, b4, b5, b6, b7, b8, b9, b10, b11, b12, fb⟩ := HX.out.c13) | (go_at_call 34; (with_reducible refine (graph_CloneF t _ _ _ _ _ (HU.out.t.below HB.out) hov hls).mono ?_); rintro e w5 ⟨C1, C2, e1, e2, rfl, hcl, hb, -, -⟩; have HC := Lib.hid hcl; replace HX := Lib.hid (HX.out.up hb); replace HB := Lib.hid (below_next HB.out hb); clear hcl hb b0 b1 b2 b3 b4 b5 b6 b7 b8 b9 b10 b11 b12 fb; obtain ⟨b0, b1, b2, b3, b4, b5, b6, b7, b8, b9, b10, b11, b12, fb⟩ := HX.out.c13)
  refine wp_named4 (fun W => ∃ b tb, b = w.heap.size ∧ tb = w5.heap.size ∧ Bl 66 b #[.int .i64 t.n, .slice A1 t.ov.length k1, .slice A2 t.ls.length k2, .int .i64 h1, .int .i64 h2, .int .i64 h3, .int .i64 g, .int .i64 s, .int .i64 det, .int .i64 room, .slice C ctl.length k3, .slice D dat.length k4, .slice S acs.length k5] W ∧ Bl 25 tb #[.int .i64 t.n, .slice C1 t.ov.length e1, .slice C2 t.ls.length e2] W ∧ SuAt W A1 A2 C D S ⟨t, h1, h2, h3, g, s, det, room, ctl, dat, acs⟩ ∧ TAt W C1 C2 t ∧ StAt W acs ∧ Below w.heap.size w W) ⟨_, _, rfl, rfl, HX.out.up (below_box _ _), Bl.new _ _ _, HU.out.below (below_next HB.out (below_box _ _)), HC.out.below (below_box _ _), HST.out.below (below_next HB.out (below_box _ _)), below_next HB.out (below_box _ _)⟩ ?_
  rintro W1 ⟨b, tb, hb, htb, hY1, hY2, hY3, hY4, hY5, hY6⟩
  rw [← hb, ← htb]
  clear hb htb HU HST HX HB HC HVU b0 b1 b2 b3 b4 b5 b6 b7 b8 b9 b10 b11 b12 fb
  have HX := Lib.hid hY1
  have HTB := Lib.hid hY2
  have HU := Lib.hid hY3
  have HC := Lib.hid hY4
  have HST := Lib.hid hY5
  have HBW := Lib.hid hY6
  obtain ⟨x0, x1, x2, x3, x4, x5, x6, x7, x8, x9, x10, x11, x12, -⟩ := hY1.c13
  obtain ⟨t0, t1, t2, -⟩ := hY2.c3
  have hsm : SMK t C1 C2 S e1 e2 k5 h1 h2 h3 g s det room acs.length b tb W1 := ⟨t0, t1, t2, x3, x4, x5, x6, x7, x8, x9, x12⟩
  have HSM := Lib.hid hsm
  clear hY1 hY2 hY3 hY4 hY5 hY6 x0 x1 x2 x3 x4 x5 x6 x7 x8 x9 x10 x11 x12 t0 t1 t2 hsm
  have hmm : ∀ W, (Instr.makeMap 134 none).run Tryz.prog W = .ok (.map (some (nxt W))) (mkM W) := fun W => run_makeMap _ W
  have hmP : ∀ W, (Instr.makeSlice 132 (.int .i64 t.n) (.int .i64 t.n)).run Tryz.prog W = .ok (.slice (some ⟨nxt W, 0, none⟩) N N) (mkP N W) := fun W => run_mkP N t.n HNE.out (by have := HN6.out; have := HNE.out; omega) W
  have hmJ : ∀ W, (Instr.makeSlice 50 (.int .i64 t.n) (.int .i64 t.n)).run Tryz.prog W = .ok (.slice (some ⟨nxt W, 0, none⟩) N N) (mkJ N W) := fun W => run_mkJ N t.n HNE.out (by have := HN6.out; have := HNE.out; omega) W
  have hmO : ∀ W, (Instr.makeSlice 133 (.int .i64 t.n) (.int .i64 t.n)).run Tryz.prog W = .ok (.slice (some ⟨nxt W, 0, none⟩) N N) (mkO N W) := fun W => run_mkO N t.n HNE.out (by have := HN6.out; have := HNE.out; omega) W
  go_cut [5] from 21 to 43 (fun x wx => ∃ nb rr bb lr x14 x20, x = .pointer (some ⟨nb, 0, none⟩) ∧ Hid (NB t h1 h2 h3 g s N nb rr bb lr C1 C2 e1 e2 (.int .i64 det) (.int .i64 room) (.slice none 0 0) (.slice none 0 0) (.slice none 0 0) x14 (.slice none 0 0) (.slice none 0 0) x20 (.slice none 0 0) (.slice none 0 0) W1 0 wx) ∧ Hid (SRow acs x14 W1.heap.size 0 wx))
  case first =>
    have HSD := Lib.hid (SMK.up (show Below W1.heap.size W1 W1.drew from Bdrw (Below.refl _ _)) HSM.out)
    have HUD := Lib.hid (HU.out.s.below (show Below W1.heap.size W1 W1.drew from Bdrw (Below.refl _ _)))
    refine wp_region_mkG 21 nmD (NmG t C1 C2 S e1 e2 k5 h1 h2 h3 g s det room b tb N W1.heap.size acs) (by kernel_rfl) (by kernel_rfl) (fun i j hi hj h => nmD_inj i hi j hj h) (fun i hi => by have := nmD_lt i hi; simp; omega) (fun i v W W' _ h hb => h.up hb) ?_ ?_
    · intro L ac W xq i hi hst hr K hK
      have hsz : W1.heap.size ≤ W.heap.size := hst.below.size
      have hsmW := SMK.up hst.below HSD.out
      obtain ⟨t0, t1, t2, x3, x4, x5, x6, x7, x8, x9, x12⟩ := hsmW
      have HUW := Lib.hid (HUD.out.below hst.below)
      match i, hi, hr, hK with
      | 0, _, hr, hK =>
        have q4 : ac.tmps.getD 4 undef = .pointer (some ⟨tb, 0, none⟩) := (hst.old 4 (by decide +kernel)).trans rfl
        clear hst hr
        refine wpOp_at _ rfl rfl ?_
        go_simp
        exact hK _ _ (Below.refl _ _) ⟨fun e => absurd e (by decide), fun e => absurd e (by decide), fun e => absurd e (by decide), fun e => absurd e (by decide), fun e => absurd e (by decide), fun _ => rfl⟩
      | 1, _, hr, hK =>
        have q1 : ac.tmps.getD 1 undef = .pointer (some ⟨b, 0, none⟩) := (hst.old 1 (by decide +kernel)).trans rfl
        clear hst hr
        refine wpOp_at _ rfl rfl ?_
        go_simp
        exact hK _ _ (Below.refl _ _) ⟨fun e => absurd e (by decide), fun e => absurd e (by decide), fun e => absurd e (by decide), fun e => absurd e (by decide), fun e => absurd e (by decide), fun _ => rfl⟩
      | 2, _, hr, hK =>
        have s22 : ac.tmps.getD 22 undef = .pointer (some ⟨b, 3, none⟩) := (hst.val 1 (by omega) (ready_dep hr (e := ⟨1, .data⟩) rfl (by simp) rfl)).trans ((hst.fact 1 (by omega) (ready_dep hr (e := ⟨1, .data⟩) rfl (by simp) rfl)).r (by decide))
        clear hst hr
        refine wpOp_at _ rfl rfl ?_
        go_simp
        exact hK _ _ (Below.refl _ _) ⟨fun e => absurd e (by decide), fun e => absurd e (by decide), fun e => absurd e (by decide), fun e => absurd e (by decide), fun e => absurd e (by decide), fun _ => rfl⟩
      | 3, _, hr, hK =>
        have q1 : ac.tmps.getD 1 undef = .pointer (some ⟨b, 0, none⟩) := (hst.old 1 (by decide +kernel)).trans rfl
        clear hst hr
        refine wpOp_at _ rfl rfl ?_
        go_simp
        exact hK _ _ (Below.refl _ _) ⟨fun e => absurd e (by decide), fun e => absurd e (by decide), fun e => absurd e (by decide), fun e => absurd e (by decide), fun e => absurd e (by decide), fun _ => rfl⟩
      | 4, _, hr, hK =>
        have s24 : ac.tmps.getD 24 undef = .pointer (some ⟨b, 8, none⟩) := (hst.val 3 (by omega) (ready_dep hr (e := ⟨3, .data⟩) rfl (by simp) rfl)).trans ((hst.fact 3 (by omega) (ready_dep hr (e := ⟨3, .data⟩) rfl (by simp) rfl)).r (by decide))
        clear hst hr
        refine wpOp_at _ rfl rfl ?_
        go_simp
        exact hK _ _ (Below.refl _ _) ⟨fun e => absurd e (by decide), fun e => absurd e (by decide), fun e => absurd e (by decide), fun e => absurd e (by decide), fun e => absurd e (by decide), fun _ => rfl⟩
      | 5, _, hr, hK =>
        have q1 : ac.tmps.getD 1 undef = .pointer (some ⟨b, 0, none⟩) := (hst.old 1 (by decide +kernel)).trans rfl
        clear hst hr
        refine wpOp_at _ rfl rfl ?_
        go_simp
        exact hK _ _ (Below.refl _ _) ⟨fun e => absurd e (by decide), fun e => absurd e (by decide), fun e => absurd e (by decide), fun e => absurd e (by decide), fun e => absurd e (by decide), fun _ => rfl⟩
      | 6, _, hr, hK =>
        have s26 : ac.tmps.getD 26 undef = .pointer (some ⟨b, 9, none⟩) := (hst.val 5 (by omega) (ready_dep hr (e := ⟨5, .data⟩) rfl (by simp) rfl)).trans ((hst.fact 5 (by omega) (ready_dep hr (e := ⟨5, .data⟩) rfl (by simp) rfl)).r (by decide))
        clear hst hr
        refine wpOp_at _ rfl rfl ?_
        go_simp
        exact hK _ _ (Below.refl _ _) ⟨fun e => absurd e (by decide), fun e => absurd e (by decide), fun e => absurd e (by decide), fun e => absurd e (by decide), fun e => absurd e (by decide), fun _ => rfl⟩
      | 7, _, hr, hK =>
        have s21 : ac.tmps.getD 21 undef = .agg #[.int .i64 t.n, .slice C1 t.ov.length e1, .slice C2 t.ls.length e2] := (hst.val 0 (by omega) (ready_dep hr (e := ⟨0, .data⟩) rfl (by simp) rfl)).trans ((hst.fact 0 (by omega) (ready_dep hr (e := ⟨0, .data⟩) rfl (by simp) rfl)).r (by decide))
        have s23 : ac.tmps.getD 23 undef = .agg #[.int .i64 h1, .int .i64 h2, .int .i64 h3, .int .i64 g, .int .i64 s] := (hst.val 2 (by omega) (ready_dep hr (e := ⟨2, .data⟩) rfl (by simp) rfl)).trans ((hst.fact 2 (by omega) (ready_dep hr (e := ⟨2, .data⟩) rfl (by simp) rfl)).r (by decide))
        have s25 : ac.tmps.getD 25 undef = .int .i64 det := (hst.val 4 (by omega) (ready_dep hr (e := ⟨4, .data⟩) rfl (by simp) rfl)).trans ((hst.fact 4 (by omega) (ready_dep hr (e := ⟨4, .data⟩) rfl (by simp) rfl)).r (by decide))
        have s27 : ac.tmps.getD 27 undef = .int .i64 room := (hst.val 6 (by omega) (ready_dep hr (e := ⟨6, .data⟩) rfl (by simp) rfl)).trans ((hst.fact 6 (by omega) (ready_dep hr (e := ⟨6, .data⟩) rfl (by simp) rfl)).r (by decide))
        clear hst hr
        refine wpOp_at _ rfl rfl ?_
        rw [Array.getD_eq_getD_getElem?] at s21 s23 s25 s27
        go_simp
        exact hK _ _ (Below.refl _ _) ⟨fun e => absurd e (by decide), fun e => absurd e (by decide), fun e => absurd e (by decide), fun e => absurd e (by decide), fun e => absurd e (by decide), fun _ => rfl⟩
      | 8, _, hr, hK =>
        have q1 : ac.tmps.getD 1 undef = .pointer (some ⟨b, 0, none⟩) := (hst.old 1 (by decide +kernel)).trans rfl
        clear hst hr
        refine wpOp_at _ rfl rfl ?_
        go_simp
        exact hK _ _ (Below.refl _ _) ⟨fun e => absurd e (by decide), fun e => absurd e (by decide), fun e => absurd e (by decide), fun e => absurd e (by decide), fun e => absurd e (by decide), fun _ => rfl⟩
      | 9, _, hr, hK =>
        have s29 : ac.tmps.getD 29 undef = .pointer (some ⟨b, 12, none⟩) := (hst.val 8 (by omega) (ready_dep hr (e := ⟨8, .data⟩) rfl (by simp) rfl)).trans ((hst.fact 8 (by omega) (ready_dep hr (e := ⟨8, .data⟩) rfl (by simp) rfl)).r (by decide))
        clear hst hr
        refine wpOp_at _ rfl rfl ?_
        go_simp
        exact hK _ _ (Below.refl _ _) ⟨fun e => absurd e (by decide), fun e => absurd e (by decide), fun e => absurd e (by decide), fun e => absurd e (by decide), fun e => absurd e (by decide), fun _ => rfl⟩
      | 10, _, hr, hK =>
        have s30 : ac.tmps.getD 30 undef = .slice S acs.length k5 := (hst.val 9 (by omega) (ready_dep hr (e := ⟨9, .data⟩) rfl (by simp) rfl)).trans ((hst.fact 9 (by omega) (ready_dep hr (e := ⟨9, .data⟩) rfl (by simp) rfl)).r (by decide))
        clear hst hr
        refine wpOp_at _ rfl rfl ?_
        go_simp
        (with_reducible refine (clone_Act _ _ _ (acs.flatMap acV) _ HUW.out (acs_len _) (acs_one _) (by omega)).mono ?_)
        rintro e Vn ⟨v31, rfl, hown, hbC⟩
        obtain ⟨A31, c31, rfl⟩ := own_slice hown
        exact hK _ _ hbC ⟨fun e => absurd e (by decide), fun e => absurd e (by decide), fun e => absurd e (by decide), fun e => absurd e (by decide), fun _ => ⟨_, _, rfl, own_mono hown hsz⟩, fun e => absurd (by omega) e⟩
      | 11, _, hr, hK =>
        have q4 : ac.tmps.getD 4 undef = .pointer (some ⟨tb, 0, none⟩) := (hst.old 4 (by decide +kernel)).trans rfl
        clear hst hr
        refine wpOp_at _ rfl rfl ?_
        go_simp
        exact hK _ _ (Below.refl _ _) ⟨fun e => absurd e (by decide), fun e => absurd e (by decide), fun e => absurd e (by decide), fun e => absurd e (by decide), fun e => absurd e (by decide), fun _ => rfl⟩
      | 12, _, hr, hK =>
        have s32 : ac.tmps.getD 32 undef = .pointer (some ⟨tb, 0, none⟩) := (hst.val 11 (by omega) (ready_dep hr (e := ⟨11, .data⟩) rfl (by simp) rfl)).trans ((hst.fact 11 (by omega) (ready_dep hr (e := ⟨11, .data⟩) rfl (by simp) rfl)).r (by decide))
        clear hst hr
        refine wpOp_at _ rfl rfl ?_
        go_simp
        exact hK _ _ (Below.refl _ _) ⟨fun e => absurd e (by decide), fun e => absurd e (by decide), fun e => absurd e (by decide), fun e => absurd e (by decide), fun e => absurd e (by decide), fun _ => rfl⟩
      | 13, _, hr, hK =>
        have s33 : ac.tmps.getD 33 undef = .int .i64 t.n := (hst.val 12 (by omega) (ready_dep hr (e := ⟨12, .data⟩) rfl (by simp) rfl)).trans ((hst.fact 12 (by omega) (ready_dep hr (e := ⟨12, .data⟩) rfl (by simp) rfl)).r (by decide))
        clear hst hr
        refine wpOp_at _ rfl rfl ?_
        have hmk := hmP W
        go_simp
        exact hK _ _ (below_box W _) ⟨fun _ => ⟨_, rfl, Bl.new W _ _, hsz⟩, fun e => absurd e (by decide), fun e => absurd e (by decide), fun e => absurd e (by decide), fun e => absurd e (by decide), fun e => absurd (by omega) e⟩
      | 14, _, hr, hK =>
        have q4 : ac.tmps.getD 4 undef = .pointer (some ⟨tb, 0, none⟩) := (hst.old 4 (by decide +kernel)).trans rfl
        clear hst hr
        refine wpOp_at _ rfl rfl ?_
        go_simp
        exact hK _ _ (Below.refl _ _) ⟨fun e => absurd e (by decide), fun e => absurd e (by decide), fun e => absurd e (by decide), fun e => absurd e (by decide), fun e => absurd e (by decide), fun _ => rfl⟩
      | 15, _, hr, hK =>
        have s35 : ac.tmps.getD 35 undef = .pointer (some ⟨tb, 0, none⟩) := (hst.val 14 (by omega) (ready_dep hr (e := ⟨14, .data⟩) rfl (by simp) rfl)).trans ((hst.fact 14 (by omega) (ready_dep hr (e := ⟨14, .data⟩) rfl (by simp) rfl)).r (by decide))
        clear hst hr
        refine wpOp_at _ rfl rfl ?_
        go_simp
        exact hK _ _ (Below.refl _ _) ⟨fun e => absurd e (by decide), fun e => absurd e (by decide), fun e => absurd e (by decide), fun e => absurd e (by decide), fun e => absurd e (by decide), fun _ => rfl⟩
      | 16, _, hr, hK =>
        have s36 : ac.tmps.getD 36 undef = .int .i64 t.n := (hst.val 15 (by omega) (ready_dep hr (e := ⟨15, .data⟩) rfl (by simp) rfl)).trans ((hst.fact 15 (by omega) (ready_dep hr (e := ⟨15, .data⟩) rfl (by simp) rfl)).r (by decide))
        clear hst hr
        refine wpOp_at _ rfl rfl ?_
        have hmk := hmJ W
        go_simp
        exact hK _ _ (below_box W _) ⟨fun e => absurd e (by decide), fun _ => ⟨_, rfl, Bl.new W _ _, hsz⟩, fun e => absurd e (by decide), fun e => absurd e (by decide), fun e => absurd e (by decide), fun e => absurd (by omega) e⟩
      | 17, _, hr, hK =>
        have q4 : ac.tmps.getD 4 undef = .pointer (some ⟨tb, 0, none⟩) := (hst.old 4 (by decide +kernel)).trans rfl
        clear hst hr
        refine wpOp_at _ rfl rfl ?_
        go_simp
        exact hK _ _ (Below.refl _ _) ⟨fun e => absurd e (by decide), fun e => absurd e (by decide), fun e => absurd e (by decide), fun e => absurd e (by decide), fun e => absurd e (by decide), fun _ => rfl⟩
      | 18, _, hr, hK =>
        have s38 : ac.tmps.getD 38 undef = .pointer (some ⟨tb, 0, none⟩) := (hst.val 17 (by omega) (ready_dep hr (e := ⟨17, .data⟩) rfl (by simp) rfl)).trans ((hst.fact 17 (by omega) (ready_dep hr (e := ⟨17, .data⟩) rfl (by simp) rfl)).r (by decide))
        clear hst hr
        refine wpOp_at _ rfl rfl ?_
        go_simp
        exact hK _ _ (Below.refl _ _) ⟨fun e => absurd e (by decide), fun e => absurd e (by decide), fun e => absurd e (by decide), fun e => absurd e (by decide), fun e => absurd e (by decide), fun _ => rfl⟩
      | 19, _, hr, hK =>
        have s39 : ac.tmps.getD 39 undef = .int .i64 t.n := (hst.val 18 (by omega) (ready_dep hr (e := ⟨18, .data⟩) rfl (by simp) rfl)).trans ((hst.fact 18 (by omega) (ready_dep hr (e := ⟨18, .data⟩) rfl (by simp) rfl)).r (by decide))
        clear hst hr
        refine wpOp_at _ rfl rfl ?_
        have hmk := hmO W
        go_simp
        exact hK _ _ (below_box W _) ⟨fun e => absurd e (by decide), fun e => absurd e (by decide), fun _ => ⟨_, rfl, Bl.new W _ _, hsz⟩, fun e => absurd e (by decide), fun e => absurd e (by decide), fun e => absurd (by omega) e⟩
      | 20, _, hr, hK =>
        clear hst hr
        refine wpOp_at _ rfl rfl ?_
        have hmk := hmm W
        go_simp
        exact hK _ _ (below_box W _) ⟨fun e => absurd e (by decide), fun e => absurd e (by decide), fun e => absurd e (by decide), fun _ => ⟨_, rfl⟩, fun e => absurd e (by decide), fun e => absurd (by omega) e⟩
      | m + 21, hi, _, _ => exact absurd hi (by omega)
    · intro W xs hbl hf
      have hBW : Below W1.heap.size W1 W := (show Below W1.heap.size W1 W1.drew from Bdrw (Below.refl _ _)).trans hbl
      have w0 : xs 0 = .agg #[.int .i64 t.n, .slice C1 t.ov.length e1, .slice C2 t.ls.length e2] := (hf 0 (by omega)).r (by decide)
      have w1 : xs 1 = .pointer (some ⟨b, 3, none⟩) := (hf 1 (by omega)).r (by decide)
      have w2 : xs 2 = .agg #[.int .i64 h1, .int .i64 h2, .int .i64 h3, .int .i64 g, .int .i64 s] := (hf 2 (by omega)).r (by decide)
      have w3 : xs 3 = .pointer (some ⟨b, 8, none⟩) := (hf 3 (by omega)).r (by decide)
      have w4 : xs 4 = .int .i64 det := (hf 4 (by omega)).r (by decide)
      have w5 : xs 5 = .pointer (some ⟨b, 9, none⟩) := (hf 5 (by omega)).r (by decide)
      have w6 : xs 6 = .int .i64 room := (hf 6 (by omega)).r (by decide)
      have w7 : xs 7 = .agg #[.int .i64 t.n, .slice C1 t.ov.length e1, .slice C2 t.ls.length e2, .int .i64 h1, .int .i64 h2, .int .i64 h3, .int .i64 g, .int .i64 s, .int .i64 det, .int .i64 room, .slice none 0 0, .slice none 0 0, .slice none 0 0] := (hf 7 (by omega)).r (by decide)
      have w8 : xs 8 = .pointer (some ⟨b, 12, none⟩) := (hf 8 (by omega)).r (by decide)
      have w9 : xs 9 = .slice S acs.length k5 := (hf 9 (by omega)).r (by decide)
      have w11 : xs 11 = .pointer (some ⟨tb, 0, none⟩) := (hf 11 (by omega)).r (by decide)
      have w12 : xs 12 = .int .i64 t.n := (hf 12 (by omega)).r (by decide)
      have w14 : xs 14 = .pointer (some ⟨tb, 0, none⟩) := (hf 14 (by omega)).r (by decide)
      have w15 : xs 15 = .int .i64 t.n := (hf 15 (by omega)).r (by decide)
      have w17 : xs 17 = .pointer (some ⟨tb, 0, none⟩) := (hf 17 (by omega)).r (by decide)
      have w18 : xs 18 = .int .i64 t.n := (hf 18 (by omega)).r (by decide)
      obtain ⟨kp, w13, bP, lP⟩ := (hf 13 (by omega)).g13 rfl
      obtain ⟨kj, w16, bJ, lJ⟩ := (hf 16 (by omega)).g16 rfl
      obtain ⟨ko, w19, bO, lO⟩ := (hf 19 (by omega)).g19 rfl
      obtain ⟨km, w20⟩ := (hf 20 (by omega)).g20 rfl
      obtain ⟨A31, c31, w10, hown⟩ := (hf 10 (by omega)).g10 rfl
      rw [w10] at hown
      simp only [nm_put, w0, w1, w2, w3, w4, w5, w6, w7, w8, w9, w10, w11, w12, w13, w14, w15, w16, w17, w18, w19, w20, List.setIfInBounds_toArray, List.set_cons_zero, List.set_cons_succ]
      have HP := Lib.hid bP
      have HJ := Lib.hid bJ
      have HO := Lib.hid bO
      have HCL := Lib.hid hown
      have HB4 := Lib.hid hBW
      clear bP bJ bO hown hBW hf hbl w0 w1 w2 w3 w4 w5 w6 w7 w8 w9 w10 w11 w12 w13 w14 w15 w16 w17 w18 w19 w20
      go_wp2_with fail
      go_meet
      case rel => exact ⟨_, _, _, _, _, _, rfl, Lib.hid ⟨Bl.new _ _ _, ⟨_, HP.out.up (below_box _ _), madeP N⟩, ⟨_, HJ.out.up (below_box _ _), madeJ N⟩, ⟨_, HO.out.up (below_box _ _), size_madeCells _ _⟩, below_next HB4.out (below_box _ _), HB4.out.size, lP, lJ, lO⟩, Lib.hid ((SRow.of HCL.out).up (below_box _ _))⟩
  case rest =>
    obtain ⟨nb, rr, bb, lr, x14, x20, rfl, HNB, HSR⟩ := hcut
    obtain ⟨A14, c14, rfl, hsr⟩ := HSR.out
    clear hsr
    have n14 := HNB.out.n.cell 14 rfl
    have HK2 := HK
    obtain ⟨ci, hci, hcz0, hcz1, hcz2⟩ := info_parts chInfo
    obtain ⟨ii, hii, hiz0, hiz1, hiz2⟩ := info_parts info_J
    have hN64 : N ≤ 64 := by have := HN6.out; have := HNE.out; omega
    go_wp2_with fail
    go_loopg [49] acs.length (fun gg i wx => ∃ q : Nat, q + gg = acs.length ∧ i = .int .i64 q ∧ Hid (NB t h1 h2 h3 g s N nb rr bb lr C1 C2 e1 e2 (.int .i64 det) (.int .i64 room) (.slice none 0 0) (.slice none 0 0) (.slice none 0 0) (.slice A14 acs.length c14) (.slice none 0 0) (.slice none 0 0) x20 (.slice none 0 0) (.slice none 0 0) W1 0 wx) ∧ Hid (SRow acs (.slice A14 acs.length c14) W1.heap.size q wx))
    case atStart => exact ⟨0, by omega, rfl, HNB, HSR⟩
    case round =>
      clear HNB HSR n14
      obtain ⟨q, hq, rfl, HNB, HSR⟩ := hrel
      by_cases hlt : q < acs.length
      · have hlt' : (q : Int) < (acs.length : Int) := by omega
        obtain ⟨a, hx⟩ : ∃ a, acs[q]? = some a := ⟨_, List.getElem?_eq_getElem hlt⟩
        obtain ⟨gb, cur, e14, hmg, hG, hcs, hst⟩ : ∃ g cur, A14 = some ⟨g, 0, none⟩ ∧ W1.heap.size ≤ g ∧ Bl 127 g cur wr ∧ acs.length * 14 ≤ cur.size ∧ ∀ j a, q ≤ j → acs[j]? = some a → cur[j * 14 + 6]? = some (.slice a.st a.sn a.sc) := by
          obtain ⟨A, c, e, h⟩ := HSR.out
          injection e with e _ _
          subst e
          exact h.resolve_left (by omega)
        subst e14
        obtain ⟨ys, hys, hyl, hy1⟩ := HST.out a (List.mem_of_getElem? hx)
        have HSN := Lib.hid (HK.out a (List.mem_of_getElem? hx))
        have HC6 := Lib.hid (hst q a (Nat.le_refl _) hx)
        have HSTC := Lib.hid hst
        have HYS := Lib.hid (hys.below HNB.out.b)
        have HYL := Lib.hid hyl
        have HY1 := Lib.hid hy1
        have HG := Lib.hid hG
        have hng := HNB.out.n.neT hG (by decide)
        have n14 := HNB.out.n.cell 14 rfl
        have c6 := hG.cell _ (hst q a (Nat.le_refl _) hx)
        have gf0 := hG.frz
        have HMG := Lib.hid hmg
        have HCS := Lib.hid hcs
        clear hx hst hys hyl hy1 hG hmg hcs
        go_upto_region 8 with fail
        refine wp_region_held_drew (S := (fun W => W.cell? ⟨nb, 14, none⟩ = some (.slice (some ⟨gb, 0, none⟩) acs.length c14))) (by kernel_rfl) ?_ (fun hHeld => ?_)
        · first | exact cell_up hb hHeld | exact cell_far hng hHeld | exact n14
        (refine takeL (i := 0) (v := ?_) rfl (by kernel_rfl) (by decide +kernel) (by decide +kernel) (fun _ _ _ h => h) (Or.inl ⟨by rfl, ?_⟩) (by assumption) ?_; rotate_left; (focus (intro w9 hS9; (try dsimp only at hS9); go_simp; (try with_reducible rfl); done)))
        (try simp only [Act.put, List.setIfInBounds_toArray, List.set_cons_zero, List.set_cons_succ])
        (refine takeL (i := 1) (v := ?_) rfl (by kernel_rfl) (by decide +kernel) (by decide +kernel) (fun _ _ _ h => h) (Or.inl ⟨by rfl, ?_⟩) (by assumption) ?_; rotate_left; (focus (intro w9 hS9; (try dsimp only at hS9); go_simp; (try with_reducible rfl); done)))
        (try simp only [Act.put, List.setIfInBounds_toArray, List.set_cons_zero, List.set_cons_succ])
        (refine takeL (i := 2) (v := ?_) rfl (by kernel_rfl) (by decide +kernel) (by decide +kernel) (fun _ _ _ h => h) (Or.inl ⟨by rfl, ?_⟩) (by assumption) ?_; rotate_left; (focus (intro w9 hS9; (try dsimp only at hS9); go_simp; (try with_reducible rfl); done)))
        (try simp only [Act.put, List.setIfInBounds_toArray, List.set_cons_zero, List.set_cons_succ])
        (refine takeL (i := 3) (v := ?_) rfl (by kernel_rfl) (by decide +kernel) (by decide +kernel) (fun _ _ _ h => h) (Or.inl ⟨by rfl, ?_⟩) (by assumption) ?_; rotate_left; (focus (intro w9 hS9; (try dsimp only at hS9); go_simp; (try with_reducible rfl); done)))
        (try simp only [Act.put, List.setIfInBounds_toArray, List.set_cons_zero, List.set_cons_succ])
        (refine takeL (i := 4) (v := ?_) rfl (by kernel_rfl) (by decide +kernel) (by decide +kernel) (fun _ _ _ h => h) (Or.inl ⟨by rfl, ?_⟩) (by assumption) ?_; rotate_left; (focus (intro w9 hS9; (try dsimp only at hS9); go_simp; (try with_reducible rfl); done)))
        (try simp only [Act.put, List.setIfInBounds_toArray, List.set_cons_zero, List.set_cons_succ])
        (refine takeL (i := 5) (v := ?_) rfl (by kernel_rfl) (by decide +kernel) (by decide +kernel) (fun _ _ _ h => h) (Or.inl ⟨by rfl, ?_⟩) (by assumption) ?_; rotate_left; (focus (intro w9 hS9; (try dsimp only at hS9); go_simp; (try with_reducible rfl); done)))
        (try simp only [Act.put, List.setIfInBounds_toArray, List.set_cons_zero, List.set_cons_succ])
        (refine takeL (i := 6) (v := ?_) rfl (by kernel_rfl) (by decide +kernel) (by decide +kernel) (fun _ _ _ h => h) (Or.inl ⟨by rfl, ?_⟩) (by assumption) ?_; rotate_left; (focus (intro w9 hS9; (try dsimp only at hS9); go_simp; (try with_reducible rfl); done)))
        (try simp only [Act.put, List.setIfInBounds_toArray, List.set_cons_zero, List.set_cons_succ])
        (refine takeL (i := 7) (v := ?_) rfl (by kernel_rfl) (by decide +kernel) (by decide +kernel) (fun _ _ _ h => h) (Or.inl ⟨by rfl, ?_⟩) (by assumption) ?_; rotate_left; (focus (intro w9 hS9; (try dsimp only at hS9); go_simp; (try with_reducible rfl); done)))
        (try simp only [Act.put, List.setIfInBounds_toArray, List.set_cons_zero, List.set_cons_succ])
        (refine takeL (i := 8) (v := ?_) rfl (by kernel_rfl) (by decide +kernel) (by decide +kernel) (fun _ _ _ h => h) (Or.inl ⟨by rfl, ?_⟩) (by assumption) ?_; rotate_left; (focus (intro w9 hS9; (try dsimp only at hS9); go_simp; (try with_reducible rfl); done)))
        (try simp only [Act.put, List.setIfInBounds_toArray, List.set_cons_zero, List.set_cons_succ])
        (refine takeL (i := 9) (v := ?_) rfl (by kernel_rfl) (by decide +kernel) (by decide +kernel) (fun _ _ _ h => h) (Or.inl ⟨by rfl, ?_⟩) (by assumption) ?_; rotate_left; (focus (intro w9 hS9; (try dsimp only at hS9); go_simp; (try with_reducible rfl); done)))
        (try simp only [Act.put, List.setIfInBounds_toArray, List.set_cons_zero, List.set_cons_succ])
        (refine takeL (i := 10) (v := ?_) rfl (by kernel_rfl) (by decide +kernel) (by decide +kernel) (fun _ _ _ h => h) (Or.inl ⟨by rfl, ?_⟩) (by assumption) ?_; rotate_left; (focus (intro w9 hS9; (try dsimp only at hS9); go_simp; (try with_reducible rfl); done)))
        (try simp only [Act.put, List.setIfInBounds_toArray, List.set_cons_zero, List.set_cons_succ])
        (refine takeL (i := 11) (v := ?_) rfl (by kernel_rfl) (by decide +kernel) (by decide +kernel) (fun _ _ _ h => h) (Or.inl ⟨by rfl, ?_⟩) (by assumption) ?_; rotate_left; (focus (intro w9 hS9; (try dsimp only at hS9); go_simp; (try with_reducible rfl); done)))
        (try simp only [Act.put, List.setIfInBounds_toArray, List.set_cons_zero, List.set_cons_succ])
        (refine takeL (i := 12) (v := ?_) rfl (by kernel_rfl) (by decide +kernel) (by decide +kernel) (fun _ _ _ h => h) (Or.inl ⟨by rfl, ?_⟩) (by assumption) ?_; rotate_left; (focus (intro w9 hS9; (try dsimp only at hS9); go_simp; (try with_reducible rfl); done)))
        (try simp only [Act.put, List.setIfInBounds_toArray, List.set_cons_zero, List.set_cons_succ])
        refine wpAnyH_ready (rs := [13]) (by decide +kernel) (by simp) ?_
        refine consL rfl (fun K hK => ?_) ?_
        · (first | (go_at_call 38; (with_reducible refine (clone_Segment _ _ _ ys _ (HYS.out.below (Bdrw (Below.refl _ _))) HYL.out HY1.out (by have := HSN.out; omega)).mono ?_); rintro e w9 ⟨v9, rfl, hown, hb⟩; obtain ⟨A9, c9, rfl⟩ := own_slice hown; have HG9 := Lib.hid (Bl.via hb HG.out); have HNB9 := Lib.hid ((HNB.out.up (Bdrw (Below.refl _ _))).up hb); have g6 := HG9.out.cell _ HC6.out; have gf := HG9.out.frz) | (go_simp; first | done | (first | (go_at_call 38; (with_reducible refine (clone_Segment _ _ _ ys _ (HYS.out.below (Bdrw (Below.refl _ _))) HYL.out HY1.out (by have := HSN.out; omega)).mono ?_); rintro e w9 ⟨v9, rfl, hown, hb⟩; obtain ⟨A9, c9, rfl⟩ := own_slice hown; have HG9 := Lib.hid (Bl.via hb HG.out); have HNB9 := Lib.hid ((HNB.out.up (Bdrw (Below.refl _ _))).up hb); have g6 := HG9.out.cell _ HC6.out; have gf := HG9.out.frz))) | go_simp)
          (first | (with_reducible refine hK.out _ _ ?_ ?_) | (go_wp2_with fail; refine hK.out _ _ ?_ ?_))
          (focus (first | exact cell_up hb hHeld | exact cell_far hng hHeld | exact n14))
          clear hK K hHeld
          intro hHeld
          (try simp only [Act.put, List.setIfInBounds_toArray, List.set_cons_zero, List.set_cons_succ])
          refine wpAnyH_ready (rs := [14]) (by decide +kernel) (by simp) ?_
          refine consL rfl (fun K hK => ?_) ?_
          · (first | (go_at_call 38; (with_reducible refine (clone_Segment _ _ _ ys _ (HYS.out.below (Bdrw (Below.refl _ _))) HYL.out HY1.out (by have := HSN.out; omega)).mono ?_); rintro e w9 ⟨v9, rfl, hown, hb⟩; obtain ⟨A9, c9, rfl⟩ := own_slice hown; have HG9 := Lib.hid (Bl.via hb HG.out); have HNB9 := Lib.hid ((HNB.out.up (Bdrw (Below.refl _ _))).up hb); have g6 := HG9.out.cell _ HC6.out; have gf := HG9.out.frz) | (go_simp; first | done | (first | (go_at_call 38; (with_reducible refine (clone_Segment _ _ _ ys _ (HYS.out.below (Bdrw (Below.refl _ _))) HYL.out HY1.out (by have := HSN.out; omega)).mono ?_); rintro e w9 ⟨v9, rfl, hown, hb⟩; obtain ⟨A9, c9, rfl⟩ := own_slice hown; have HG9 := Lib.hid (Bl.via hb HG.out); have HNB9 := Lib.hid ((HNB.out.up (Bdrw (Below.refl _ _))).up hb); have g6 := HG9.out.cell _ HC6.out; have gf := HG9.out.frz))) | go_simp)
            (first | (with_reducible refine hK.out _ _ ?_ ?_) | (go_wp2_with fail; refine hK.out _ _ ?_ ?_))
            (focus (first | exact cell_up hb hHeld | exact cell_far hng hHeld | exact n14))
            clear hK K hHeld
            intro hHeld
            (try simp only [Act.put, List.setIfInBounds_toArray, List.set_cons_zero, List.set_cons_succ])
            (refine takeL (i := 15) (v := ?_) rfl (by kernel_rfl) (by decide +kernel) (by decide +kernel) (fun _ _ _ h => h) (Or.inl ⟨by rfl, ?_⟩) (by assumption) ?_; rotate_left; (focus (intro w9 hS9; (try dsimp only at hS9); go_simp; (try with_reducible rfl); done)))
            (try simp only [Act.put, List.setIfInBounds_toArray, List.set_cons_zero, List.set_cons_succ])
            (refine takeL (i := 16) (v := ?_) rfl (by kernel_rfl) (by decide +kernel) (by decide +kernel) (fun _ _ _ h => h) (Or.inl ⟨by rfl, ?_⟩) (by assumption) ?_; rotate_left; (focus (intro w9 hS9; (try dsimp only at hS9); go_simp; (try with_reducible rfl); done)))
            (try simp only [Act.put, List.setIfInBounds_toArray, List.set_cons_zero, List.set_cons_succ])
            (refine takeL (i := 17) (v := ?_) rfl (by kernel_rfl) (by decide +kernel) (by decide +kernel) (fun _ _ _ h => h) (Or.inl ⟨by rfl, ?_⟩) (by assumption) ?_; rotate_left; (focus (intro w9 hS9; (try dsimp only at hS9); go_simp; (try with_reducible rfl); done)))
            (try simp only [Act.put, List.setIfInBounds_toArray, List.set_cons_zero, List.set_cons_succ])
            refine wpAnyH_ready (rs := [18]) (by decide +kernel) (by simp) ?_
            refine consL rfl (fun K hK => ?_) ?_
            · (first | (go_at_call 38; (with_reducible refine (clone_Segment _ _ _ ys _ (HYS.out.below (Bdrw (Below.refl _ _))) HYL.out HY1.out (by have := HSN.out; omega)).mono ?_); rintro e w9 ⟨v9, rfl, hown, hb⟩; obtain ⟨A9, c9, rfl⟩ := own_slice hown; have HG9 := Lib.hid (Bl.via hb HG.out); have HNB9 := Lib.hid ((HNB.out.up (Bdrw (Below.refl _ _))).up hb); have g6 := HG9.out.cell _ HC6.out; have gf := HG9.out.frz) | (go_simp; first | done | (first | (go_at_call 38; (with_reducible refine (clone_Segment _ _ _ ys _ (HYS.out.below (Bdrw (Below.refl _ _))) HYL.out HY1.out (by have := HSN.out; omega)).mono ?_); rintro e w9 ⟨v9, rfl, hown, hb⟩; obtain ⟨A9, c9, rfl⟩ := own_slice hown; have HG9 := Lib.hid (Bl.via hb HG.out); have HNB9 := Lib.hid ((HNB.out.up (Bdrw (Below.refl _ _))).up hb); have g6 := HG9.out.cell _ HC6.out; have gf := HG9.out.frz))) | go_simp)
              (first | (with_reducible refine hK.out _ _ ?_ ?_) | (go_wp2_with fail; refine hK.out _ _ ?_ ?_))
              (focus (first | exact cell_up hb hHeld | exact cell_far hng hHeld | exact n14))
              clear hK K hHeld
              intro hHeld
              (try simp only [Act.put, List.setIfInBounds_toArray, List.set_cons_zero, List.set_cons_succ])
              refine wpAnyH_done (by decide +kernel) ?_ _
              go_wp2_with fail
              go_roundg (gk - 1)
              case measure => omega
              case rel =>
                refine ⟨q + 1, by omega, by go_num, Lib.hid (HNB9.out.set HG9.out HMG.out), Lib.hid ⟨some ⟨gb, 0, none⟩, c14, rfl, .inr ⟨gb, _, rfl, HMG.out, HG9.out.set _ _ rfl, by simpa using HCS.out, fun j a' hj ha => ?_⟩⟩⟩
                rw [Array.getElem?_setIfInBounds, if_neg (by omega)]
                exact HSTC.out j a' (by omega) ha
            exact AllReadyH.nil
          exact AllReadyH.nil
        exact AllReadyH.nil
      · obtain rfl : q = acs.length := by omega
        clear HSR hlt hq HK2
        obtain ⟨t0, t1, t2, -⟩ := (HTB.out.up HNB.out.b).c3
        go_wp2_with fail
        have hNN := HNE.out
        refine wp_named4 (fun Y => NB t h1 h2 h3 g s N nb rr bb lr C1 C2 e1 e2 (.int .i64 det) (.int .i64 room) (.slice none 0 0) (.slice none 0 0) (.slice none 0 0) (.slice A14 acs.length c14) (.slice none 0 0) (.slice none 0 0) x20 (.slice none 0 0) (.slice none 0 0) W1 0 Y) HNB.out ?_
        rintro W2 hY
        replace HNB := Lib.hid hY
        clear hY hNN t0 t1 t2
        go_loopg [73] N (fun gg i wx => ∃ q : Nat, q + gg = N ∧ i = .int .i64 q ∧ Hid (NB t h1 h2 h3 g s N nb rr bb lr C1 C2 e1 e2 (.int .i64 det) (.int .i64 room) (.slice none 0 0) (.slice none 0 0) (.slice none 0 0) (.slice A14 acs.length c14) (.slice none 0 0) (.slice none 0 0) x20 (.slice none 0 0) (.slice none 0 0) W1 q wx))
        case atStart => exact ⟨0, by omega, rfl, HNB⟩
        case round =>
          clear HNB
          obtain ⟨q, hq, rfl, HNB⟩ := hrel
          by_cases hlt : q < N
          · have hlt' : (q : Int) < t.n := by have := HNE.out; omega
            go_wp2_with (go_at_call 60; (with_reducible refine (net_boot0 hlt HNE.out HVT.out HTM.out HC.out HNB.out).mono ?_); rintro e w9 ⟨rfl, hnb⟩; replace HNB := Lib.hid hnb; clear hnb)
            go_roundg (gk - 1)
            case measure => omega
            case rel => exact ⟨q + 1, by omega, by go_num, HNB⟩
          · obtain rfl : q = N := by omega
            have hnlt : ¬ (q : Int) < t.n := by have := HNE.out; omega
            obtain ⟨t0, t1, t2, -⟩ := (HTB.out.up HNB.out.b).c3
            go_wp2_with (go_at_call 56; (with_reducible refine (graph_Arcs _ _ _ _ _ _ (by omega)).mono ?_); rintro e w9 ⟨rfl, hb⟩; replace HNB := Lib.hid (HNB.out.up hb); clear hb)
            refine wp_named4 (fun Y => NC t.n W1 nb 0 0 0 Y) (NB.nc HNB.out) ?_
            rintro W3 hY
            have HNC := Lib.hid hY
            clear hY t0 t1 t2 HNB hnlt hlt
            go_loopg [82] (2 * t.ls.length) (fun gg i wx => ∃ r : Nat, r + gg = 2 * t.ls.length ∧ i = .int .i64 r ∧ Hid (NC t.n W1 nb r r 0 wx))
            case atStart => exact ⟨0, by omega, rfl, HNC⟩
            case round =>
              clear HNC
              obtain ⟨r, hr, rfl, HNC⟩ := hrel
              by_cases hlt : r < 2 * t.ls.length
              · have hlt' : (r : Int) < 2 * (t.ls.length : Int) := by omega
                obtain ⟨bc, oc, lk, e14, -, hcl⟩ := (HC.out.ls.below HNC.out.b).at_ (k := r / 2) (by omega)
                subst e14
                obtain ⟨q0, q1, q2, q3, q4, q5, q6⟩ := hcl
                obtain ⟨t0, t1, t2, -⟩ := (HTB.out.up HNC.out.b).c3
                have g2 : (r : Int) / 2 < (t.ls.length : Int) := by omega
                have g3 : (0 : Int) ≤ (r : Int) / 2 := by omega
                have HX1 := Lib.hid (HX.out.up HNC.out.b)
                have HU1 := Lib.hid (HU.out.below HNC.out.b)
                go_upto_region 20 with fail
                refine wp_named4 (fun Y => (∃ lb, lb = wr.heap.size ∧ SLK b lb C D k3 k4 ctl.length dat.length room lk.dl lk.cap Y) ∧ NC t.n W1 nb r r 0 Y ∧ FtAt Y C ctl ∧ FtAt Y D dat) ⟨⟨_, rfl, (Bl.new _ _ _).cell 5 rfl, (Bl.new _ _ _).cell 4 rfl, (HX1.out.up (below_box _ _)).cell 10 rfl, (HX1.out.up (below_box _ _)).cell 11 rfl, (HX1.out.up (below_box _ _)).cell 9 rfl⟩, HNC.out.up (below_box _ _), HU1.out.c.below (below_box _ _), HU1.out.d.below (below_box _ _)⟩ ?_
                rintro Y ⟨⟨lb, hlb, hY1⟩, hY2, hY3, hY4⟩
                rw [← hlb]
                replace HNC := Lib.hid hY2
                have HSL := Lib.hid hY1
                have HFC := Lib.hid hY3
                have HFD := Lib.hid hY4
                clear hlb hY1 hY2 hY3 hY4 HX1 HU1 q0 q1 q2 q3 q4 q5 q6 t0 t1 t2 g2 g3
                refine wp_region_held_drew (S := (fun W => W.cell? ⟨lb, 5, none⟩ = some (.int .i64 lk.dl) ∧ W.cell? ⟨lb, 4, none⟩ = some (.int .i64 lk.cap) ∧ W.cell? ⟨b, 10, none⟩ = some (.slice C ctl.length k3) ∧ W.cell? ⟨b, 11, none⟩ = some (.slice D dat.length k4) ∧ W.cell? ⟨b, 9, none⟩ = some (.int .i64 room))) (by kernel_rfl) ?_ (fun hHeld => ?_)
                · first | exact hHeld | exact SLK.up hb hHeld | exact HSL.out
                (refine takeL (i := 0) (v := ?_) rfl (by kernel_rfl) (by decide +kernel) (by decide +kernel) (fun _ _ _ h => h) (Or.inl ⟨by rfl, ?_⟩) (by assumption) ?_; rotate_left; (focus (intro w9 hS9; (try dsimp only at hS9); go_simp; (try with_reducible rfl); done)))
                (try simp only [Act.put, List.setIfInBounds_toArray, List.set_cons_zero, List.set_cons_succ])
                (refine takeL (i := 1) (v := ?_) rfl (by kernel_rfl) (by decide +kernel) (by decide +kernel) (fun _ _ _ h => h) (Or.inl ⟨by rfl, ?_⟩) (by assumption) ?_; rotate_left; (focus (intro w9 hS9; (try dsimp only at hS9); go_simp; (try with_reducible rfl); done)))
                (try simp only [Act.put, List.setIfInBounds_toArray, List.set_cons_zero, List.set_cons_succ])
                (refine takeL (i := 2) (v := ?_) rfl (by kernel_rfl) (by decide +kernel) (by decide +kernel) (fun _ _ _ h => h) (Or.inl ⟨by rfl, ?_⟩) (by assumption) ?_; rotate_left; (focus (intro w9 hS9; (try dsimp only at hS9); go_simp; (try with_reducible rfl); done)))
                (try simp only [Act.put, List.setIfInBounds_toArray, List.set_cons_zero, List.set_cons_succ])
                (refine takeL (i := 3) (v := ?_) rfl (by kernel_rfl) (by decide +kernel) (by decide +kernel) (fun _ _ _ h => h) (Or.inl ⟨by rfl, ?_⟩) (by assumption) ?_; rotate_left; (focus (intro w9 hS9; (try dsimp only at hS9); go_simp; (try with_reducible rfl); done)))
                (try simp only [Act.put, List.setIfInBounds_toArray, List.set_cons_zero, List.set_cons_succ])
                (refine takeL (i := 4) (v := ?_) rfl (by kernel_rfl) (by decide +kernel) (by decide +kernel) (fun _ _ _ h => h) (Or.inl ⟨by rfl, ?_⟩) (by assumption) ?_; rotate_left; (focus (intro w9 hS9; (try dsimp only at hS9); go_simp; (try with_reducible rfl); done)))
                (try simp only [Act.put, List.setIfInBounds_toArray, List.set_cons_zero, List.set_cons_succ])
                (refine takeL (i := 5) (v := ?_) rfl (by kernel_rfl) (by decide +kernel) (by decide +kernel) (fun _ _ _ h => h) (Or.inl ⟨by rfl, ?_⟩) (by assumption) ?_; rotate_left; (focus (intro w9 hS9; (try dsimp only at hS9); go_simp; (try with_reducible rfl); done)))
                (try simp only [Act.put, List.setIfInBounds_toArray, List.set_cons_zero, List.set_cons_succ])
                refine wpAnyH_ready (rs := [6]) (by decide +kernel) (by simp) ?_
                refine consL rfl (fun K hK => ?_) ?_
                · (first | (go_at_call 61; (with_reducible refine (net_fates _ _ _ ctl (HFC.out.below (Bdrw (Below.refl _ _))) (by omega)).mono ?_); rintro e w8 ⟨⟨xa, xc, fs, rfl, hrf, hfl⟩, rfl⟩; have HRF := Lib.hid hrf; have HFL := Lib.hid hfl; clear hrf hfl) | (go_at_call 57; (with_reducible refine (channel_New _ _ _ xa xc fs HRF.out HFL.out).mono ?_); rintro e w9 ⟨⟨cc, rfl, -⟩, hb⟩; generalize (if chanOk lk.dl 1048576 65536 fs = true then (0 : Int) else 1) = ecc; replace HNC := Lib.hid ((HNC.out.up (Bdrw (Below.refl _ _))).up hb); replace HFC := Lib.hid ((HFC.out.below (Bdrw (Below.refl _ _))).below hb); replace HFD := Lib.hid ((HFD.out.below (Bdrw (Below.refl _ _))).below hb)) | (go_simp; first | done | (first | (go_at_call 61; (with_reducible refine (net_fates _ _ _ ctl (HFC.out.below (Bdrw (Below.refl _ _))) (by omega)).mono ?_); rintro e w8 ⟨⟨xa, xc, fs, rfl, hrf, hfl⟩, rfl⟩; have HRF := Lib.hid hrf; have HFL := Lib.hid hfl; clear hrf hfl) | (go_at_call 57; (with_reducible refine (channel_New _ _ _ xa xc fs HRF.out HFL.out).mono ?_); rintro e w9 ⟨⟨cc, rfl, -⟩, hb⟩; generalize (if chanOk lk.dl 1048576 65536 fs = true then (0 : Int) else 1) = ecc; replace HNC := Lib.hid ((HNC.out.up (Bdrw (Below.refl _ _))).up hb); replace HFC := Lib.hid ((HFC.out.below (Bdrw (Below.refl _ _))).below hb); replace HFD := Lib.hid ((HFD.out.below (Bdrw (Below.refl _ _))).below hb)))) | go_simp)
                  (first | (with_reducible refine hK.out _ _ ?_ ?_) | (go_wp2_with fail; refine hK.out _ _ ?_ ?_))
                  (focus (first | exact hHeld | exact SLK.up hb hHeld | exact HSL.out))
                  clear hK K hHeld
                  intro hHeld
                  (try simp only [Act.put, List.setIfInBounds_toArray, List.set_cons_zero, List.set_cons_succ])
                  refine wpAnyH_ready (rs := [7]) (by decide +kernel) (by simp) ?_
                  refine consL rfl (fun K hK => ?_) ?_
                  · (first | (go_at_call 61; (with_reducible refine (net_fates _ _ _ ctl (HFC.out.below (Bdrw (Below.refl _ _))) (by omega)).mono ?_); rintro e w8 ⟨⟨xa, xc, fs, rfl, hrf, hfl⟩, rfl⟩; have HRF := Lib.hid hrf; have HFL := Lib.hid hfl; clear hrf hfl) | (go_at_call 57; (with_reducible refine (channel_New _ _ _ xa xc fs HRF.out HFL.out).mono ?_); rintro e w9 ⟨⟨cc, rfl, -⟩, hb⟩; generalize (if chanOk lk.dl 1048576 65536 fs = true then (0 : Int) else 1) = ecc; replace HNC := Lib.hid ((HNC.out.up (Bdrw (Below.refl _ _))).up hb); replace HFC := Lib.hid ((HFC.out.below (Bdrw (Below.refl _ _))).below hb); replace HFD := Lib.hid ((HFD.out.below (Bdrw (Below.refl _ _))).below hb)) | (go_simp; first | done | (first | (go_at_call 61; (with_reducible refine (net_fates _ _ _ ctl (HFC.out.below (Bdrw (Below.refl _ _))) (by omega)).mono ?_); rintro e w8 ⟨⟨xa, xc, fs, rfl, hrf, hfl⟩, rfl⟩; have HRF := Lib.hid hrf; have HFL := Lib.hid hfl; clear hrf hfl) | (go_at_call 57; (with_reducible refine (channel_New _ _ _ xa xc fs HRF.out HFL.out).mono ?_); rintro e w9 ⟨⟨cc, rfl, -⟩, hb⟩; generalize (if chanOk lk.dl 1048576 65536 fs = true then (0 : Int) else 1) = ecc; replace HNC := Lib.hid ((HNC.out.up (Bdrw (Below.refl _ _))).up hb); replace HFC := Lib.hid ((HFC.out.below (Bdrw (Below.refl _ _))).below hb); replace HFD := Lib.hid ((HFD.out.below (Bdrw (Below.refl _ _))).below hb)))) | go_simp)
                    (first | (with_reducible refine hK.out _ _ ?_ ?_) | (go_wp2_with fail; refine hK.out _ _ ?_ ?_))
                    (focus (first | exact hHeld | exact SLK.up hb hHeld | exact HSL.out))
                    clear hK K hHeld
                    intro hHeld
                    (try simp only [Act.put, List.setIfInBounds_toArray, List.set_cons_zero, List.set_cons_succ])
                    (refine takeL (i := 8) (v := ?_) rfl (by kernel_rfl) (by decide +kernel) (by decide +kernel) (fun _ _ _ h => h) (Or.inl ⟨by rfl, ?_⟩) (by assumption) ?_; rotate_left; (focus (intro w9 hS9; (try dsimp only at hS9); go_simp; (try with_reducible rfl); done)))
                    (try simp only [Act.put, List.setIfInBounds_toArray, List.set_cons_zero, List.set_cons_succ])
                    (refine takeL (i := 9) (v := ?_) rfl (by kernel_rfl) (by decide +kernel) (by decide +kernel) (fun _ _ _ h => h) (Or.inl ⟨by rfl, ?_⟩) (by assumption) ?_; rotate_left; (focus (intro w9 hS9; (try dsimp only at hS9); go_simp; (try with_reducible rfl); done)))
                    (try simp only [Act.put, List.setIfInBounds_toArray, List.set_cons_zero, List.set_cons_succ])
                    (refine takeL (i := 10) (v := ?_) rfl (by kernel_rfl) (by decide +kernel) (by decide +kernel) (fun _ _ _ h => h) (Or.inl ⟨by rfl, ?_⟩) (by assumption) ?_; rotate_left; (focus (intro w9 hS9; (try dsimp only at hS9); go_simp; (try with_reducible rfl); done)))
                    (try simp only [Act.put, List.setIfInBounds_toArray, List.set_cons_zero, List.set_cons_succ])
                    (refine takeL (i := 11) (v := ?_) rfl (by kernel_rfl) (by decide +kernel) (by decide +kernel) (fun _ _ _ h => h) (Or.inl ⟨by rfl, ?_⟩) (by assumption) ?_; rotate_left; (focus (intro w9 hS9; (try dsimp only at hS9); go_simp; (try with_reducible rfl); done)))
                    (try simp only [Act.put, List.setIfInBounds_toArray, List.set_cons_zero, List.set_cons_succ])
                    (refine takeL (i := 12) (v := ?_) rfl (by kernel_rfl) (by decide +kernel) (by decide +kernel) (fun _ _ _ h => h) (Or.inl ⟨by rfl, ?_⟩) (by assumption) ?_; rotate_left; (focus (intro w9 hS9; (try dsimp only at hS9); go_simp; (try with_reducible rfl); done)))
                    (try simp only [Act.put, List.setIfInBounds_toArray, List.set_cons_zero, List.set_cons_succ])
                    refine wpAnyH_done (by decide +kernel) ?_ _
                    go_upto_region 21 with fail
                    replace HSL := Lib.hid (show SLK b lb C D k3 k4 ctl.length dat.length room lk.dl lk.cap w9 from hHeld)
                    clear hHeld HRF HFL hb
                    refine wp_region_held_drew (S := (fun W => W.cell? ⟨lb, 5, none⟩ = some (.int .i64 lk.dl) ∧ W.cell? ⟨lb, 4, none⟩ = some (.int .i64 lk.cap) ∧ W.cell? ⟨b, 10, none⟩ = some (.slice C ctl.length k3) ∧ W.cell? ⟨b, 11, none⟩ = some (.slice D dat.length k4) ∧ W.cell? ⟨b, 9, none⟩ = some (.int .i64 room))) (by kernel_rfl) ?_ (fun hHeld => ?_)
                    · first | exact hHeld | exact SLK.up hb hHeld | exact HSL.out
                    (refine takeL (i := 0) (v := ?_) rfl (by kernel_rfl) (by decide +kernel) (by decide +kernel) (fun _ _ _ h => h) (Or.inl ⟨by rfl, ?_⟩) (by assumption) ?_; rotate_left; (focus (intro w9 hS9; (try dsimp only at hS9); go_simp; (try with_reducible rfl); done)))
                    (try simp only [Act.put, List.setIfInBounds_toArray, List.set_cons_zero, List.set_cons_succ])
                    (refine takeL (i := 1) (v := ?_) rfl (by kernel_rfl) (by decide +kernel) (by decide +kernel) (fun _ _ _ h => h) (Or.inl ⟨by rfl, ?_⟩) (by assumption) ?_; rotate_left; (focus (intro w9 hS9; (try dsimp only at hS9); go_simp; (try with_reducible rfl); done)))
                    (try simp only [Act.put, List.setIfInBounds_toArray, List.set_cons_zero, List.set_cons_succ])
                    (refine takeL (i := 2) (v := ?_) rfl (by kernel_rfl) (by decide +kernel) (by decide +kernel) (fun _ _ _ h => h) (Or.inl ⟨by rfl, ?_⟩) (by assumption) ?_; rotate_left; (focus (intro w9 hS9; (try dsimp only at hS9); go_simp; (try with_reducible rfl); done)))
                    (try simp only [Act.put, List.setIfInBounds_toArray, List.set_cons_zero, List.set_cons_succ])
                    (refine takeL (i := 3) (v := ?_) rfl (by kernel_rfl) (by decide +kernel) (by decide +kernel) (fun _ _ _ h => h) (Or.inl ⟨by rfl, ?_⟩) (by assumption) ?_; rotate_left; (focus (intro w9 hS9; (try dsimp only at hS9); go_simp; (try with_reducible rfl); done)))
                    (try simp only [Act.put, List.setIfInBounds_toArray, List.set_cons_zero, List.set_cons_succ])
                    (refine takeL (i := 4) (v := ?_) rfl (by kernel_rfl) (by decide +kernel) (by decide +kernel) (fun _ _ _ h => h) (Or.inl ⟨by rfl, ?_⟩) (by assumption) ?_; rotate_left; (focus (intro w9 hS9; (try dsimp only at hS9); go_simp; (try with_reducible rfl); done)))
                    (try simp only [Act.put, List.setIfInBounds_toArray, List.set_cons_zero, List.set_cons_succ])
                    (refine takeL (i := 5) (v := ?_) rfl (by kernel_rfl) (by decide +kernel) (by decide +kernel) (fun _ _ _ h => h) (Or.inl ⟨by rfl, ?_⟩) (by assumption) ?_; rotate_left; (focus (intro w9 hS9; (try dsimp only at hS9); go_simp; (try with_reducible rfl); done)))
                    (try simp only [Act.put, List.setIfInBounds_toArray, List.set_cons_zero, List.set_cons_succ])
                    (refine takeL (i := 6) (v := ?_) rfl (by kernel_rfl) (by decide +kernel) (by decide +kernel) (fun _ _ _ h => h) (Or.inl ⟨by rfl, ?_⟩) (by assumption) ?_; rotate_left; (focus (intro w9 hS9; (try dsimp only at hS9); go_simp; (try with_reducible rfl); done)))
                    (try simp only [Act.put, List.setIfInBounds_toArray, List.set_cons_zero, List.set_cons_succ])
                    (refine takeL (i := 7) (v := ?_) rfl (by kernel_rfl) (by decide +kernel) (by decide +kernel) (fun _ _ _ h => h) (Or.inl ⟨by rfl, ?_⟩) (by assumption) ?_; rotate_left; (focus (intro w9 hS9; (try dsimp only at hS9); go_simp; (try with_reducible rfl); done)))
                    (try simp only [Act.put, List.setIfInBounds_toArray, List.set_cons_zero, List.set_cons_succ])
                    (refine takeL (i := 8) (v := ?_) rfl (by kernel_rfl) (by decide +kernel) (by decide +kernel) (fun _ _ _ h => h) (Or.inl ⟨by rfl, ?_⟩) (by assumption) ?_; rotate_left; (focus (intro w9 hS9; (try dsimp only at hS9); go_simp; (try with_reducible rfl); done)))
                    (try simp only [Act.put, List.setIfInBounds_toArray, List.set_cons_zero, List.set_cons_succ])
                    (refine takeL (i := 9) (v := ?_) rfl (by kernel_rfl) (by decide +kernel) (by decide +kernel) (fun _ _ _ h => h) (Or.inl ⟨by rfl, ?_⟩) (by assumption) ?_; rotate_left; (focus (intro w9 hS9; (try dsimp only at hS9); go_simp; (try with_reducible rfl); done)))
                    (try simp only [Act.put, List.setIfInBounds_toArray, List.set_cons_zero, List.set_cons_succ])
                    (refine takeL (i := 10) (v := ?_) rfl (by kernel_rfl) (by decide +kernel) (by decide +kernel) (fun _ _ _ h => h) (Or.inl ⟨by rfl, ?_⟩) (by assumption) ?_; rotate_left; (focus (intro w9 hS9; (try dsimp only at hS9); go_simp; (try with_reducible rfl); done)))
                    (try simp only [Act.put, List.setIfInBounds_toArray, List.set_cons_zero, List.set_cons_succ])
                    refine wpAnyH_ready (rs := [11]) (by decide +kernel) (by simp) ?_
                    refine consL rfl (fun K hK => ?_) ?_
                    · (first | (go_at_call 61; (with_reducible refine (net_fates _ _ _ dat (HFD.out.below (Bdrw (Below.refl _ _))) (by omega)).mono ?_); rintro e w8 ⟨⟨xa, xc, fs, rfl, hrf, hfl⟩, rfl⟩; have HRF := Lib.hid hrf; have HFL := Lib.hid hfl; clear hrf hfl) | (go_at_call 57; (with_reducible refine (channel_New _ _ _ xa xc fs HRF.out HFL.out).mono ?_); rintro e w9 ⟨⟨cd, rfl, -⟩, hb⟩; generalize (if chanOk lk.dl (max 1 lk.cap) room fs = true then (0 : Int) else 1) = ecd; replace HNC := Lib.hid ((HNC.out.up (Bdrw (Below.refl _ _))).up hb); replace HFC := Lib.hid ((HFC.out.below (Bdrw (Below.refl _ _))).below hb); replace HFD := Lib.hid ((HFD.out.below (Bdrw (Below.refl _ _))).below hb)) | (go_simp; first | done | (first | (go_at_call 61; (with_reducible refine (net_fates _ _ _ dat (HFD.out.below (Bdrw (Below.refl _ _))) (by omega)).mono ?_); rintro e w8 ⟨⟨xa, xc, fs, rfl, hrf, hfl⟩, rfl⟩; have HRF := Lib.hid hrf; have HFL := Lib.hid hfl; clear hrf hfl) | (go_at_call 57; (with_reducible refine (channel_New _ _ _ xa xc fs HRF.out HFL.out).mono ?_); rintro e w9 ⟨⟨cd, rfl, -⟩, hb⟩; generalize (if chanOk lk.dl (max 1 lk.cap) room fs = true then (0 : Int) else 1) = ecd; replace HNC := Lib.hid ((HNC.out.up (Bdrw (Below.refl _ _))).up hb); replace HFC := Lib.hid ((HFC.out.below (Bdrw (Below.refl _ _))).below hb); replace HFD := Lib.hid ((HFD.out.below (Bdrw (Below.refl _ _))).below hb)))) | go_simp)
                      (first | (with_reducible refine hK.out _ _ ?_ ?_) | (go_wp2_with fail; refine hK.out _ _ ?_ ?_))
                      (focus (first | exact hHeld | exact SLK.up hb hHeld | exact HSL.out))
                      clear hK K hHeld
                      intro hHeld
                      (try simp only [Act.put, List.setIfInBounds_toArray, List.set_cons_zero, List.set_cons_succ])
                      refine wpAnyH_ready (rs := [12]) (by decide +kernel) (by simp) ?_
                      refine consL rfl (fun K hK => ?_) ?_
                      · (first | (go_at_call 61; (with_reducible refine (net_fates _ _ _ dat (HFD.out.below (Bdrw (Below.refl _ _))) (by omega)).mono ?_); rintro e w8 ⟨⟨xa, xc, fs, rfl, hrf, hfl⟩, rfl⟩; have HRF := Lib.hid hrf; have HFL := Lib.hid hfl; clear hrf hfl) | (go_at_call 57; (with_reducible refine (channel_New _ _ _ xa xc fs HRF.out HFL.out).mono ?_); rintro e w9 ⟨⟨cd, rfl, -⟩, hb⟩; generalize (if chanOk lk.dl (max 1 lk.cap) room fs = true then (0 : Int) else 1) = ecd; replace HNC := Lib.hid ((HNC.out.up (Bdrw (Below.refl _ _))).up hb); replace HFC := Lib.hid ((HFC.out.below (Bdrw (Below.refl _ _))).below hb); replace HFD := Lib.hid ((HFD.out.below (Bdrw (Below.refl _ _))).below hb)) | (go_simp; first | done | (first | (go_at_call 61; (with_reducible refine (net_fates _ _ _ dat (HFD.out.below (Bdrw (Below.refl _ _))) (by omega)).mono ?_); rintro e w8 ⟨⟨xa, xc, fs, rfl, hrf, hfl⟩, rfl⟩; have HRF := Lib.hid hrf; have HFL := Lib.hid hfl; clear hrf hfl) | (go_at_call 57; (with_reducible refine (channel_New _ _ _ xa xc fs HRF.out HFL.out).mono ?_); rintro e w9 ⟨⟨cd, rfl, -⟩, hb⟩; generalize (if chanOk lk.dl (max 1 lk.cap) room fs = true then (0 : Int) else 1) = ecd; replace HNC := Lib.hid ((HNC.out.up (Bdrw (Below.refl _ _))).up hb); replace HFC := Lib.hid ((HFC.out.below (Bdrw (Below.refl _ _))).below hb); replace HFD := Lib.hid ((HFD.out.below (Bdrw (Below.refl _ _))).below hb)))) | go_simp)
                        (first | (with_reducible refine hK.out _ _ ?_ ?_) | (go_wp2_with fail; refine hK.out _ _ ?_ ?_))
                        (focus (first | exact hHeld | exact SLK.up hb hHeld | exact HSL.out))
                        clear hK K hHeld
                        intro hHeld
                        (try simp only [Act.put, List.setIfInBounds_toArray, List.set_cons_zero, List.set_cons_succ])
                        (refine takeL (i := 13) (v := ?_) rfl (by kernel_rfl) (by decide +kernel) (by decide +kernel) (fun _ _ _ h => h) (Or.inl ⟨by rfl, ?_⟩) (by assumption) ?_; rotate_left; (focus (intro w9 hS9; (try dsimp only at hS9); go_simp; (try with_reducible rfl); done)))
                        (try simp only [Act.put, List.setIfInBounds_toArray, List.set_cons_zero, List.set_cons_succ])
                        (refine takeL (i := 14) (v := ?_) rfl (by kernel_rfl) (by decide +kernel) (by decide +kernel) (fun _ _ _ h => h) (Or.inl ⟨by rfl, ?_⟩) (by assumption) ?_; rotate_left; (focus (intro w9 hS9; (try dsimp only at hS9); go_simp; (try with_reducible rfl); done)))
                        (try simp only [Act.put, List.setIfInBounds_toArray, List.set_cons_zero, List.set_cons_succ])
                        (refine takeL (i := 15) (v := ?_) rfl (by kernel_rfl) (by decide +kernel) (by decide +kernel) (fun _ _ _ h => h) (Or.inl ⟨by rfl, ?_⟩) (by assumption) ?_; rotate_left; (focus (intro w9 hS9; (try dsimp only at hS9); go_simp; (try with_reducible rfl); done)))
                        (try simp only [Act.put, List.setIfInBounds_toArray, List.set_cons_zero, List.set_cons_succ])
                        (refine takeL (i := 16) (v := ?_) rfl (by kernel_rfl) (by decide +kernel) (by decide +kernel) (fun _ _ _ h => h) (Or.inl ⟨by rfl, ?_⟩) (by assumption) ?_; rotate_left; (focus (intro w9 hS9; (try dsimp only at hS9); go_simp; (try with_reducible rfl); done)))
                        (try simp only [Act.put, List.setIfInBounds_toArray, List.set_cons_zero, List.set_cons_succ])
                        (refine takeL (i := 17) (v := ?_) rfl (by kernel_rfl) (by decide +kernel) (by decide +kernel) (fun _ _ _ h => h) (Or.inl ⟨by rfl, ?_⟩) (by assumption) ?_; rotate_left; (focus (intro w9 hS9; (try dsimp only at hS9); go_simp; (try with_reducible rfl); done)))
                        (try simp only [Act.put, List.setIfInBounds_toArray, List.set_cons_zero, List.set_cons_succ])
                        refine wpAnyH_done (by decide +kernel) ?_ _
                        go_upto_region 22 with fail
                        obtain ⟨⟨a1, a2, a3, a4, a5, a6, a7, a8, a9, a10, a11, a12, a14, a15, a16, a17, v18, v19, a20, v22, a24, n1, ⟨y18, r18⟩, ⟨y19, r19⟩, ⟨y22, r22⟩, n5⟩, n6, n7⟩ := HNC.out
                        have m18 := n1.cell 18 rfl
                        have hws := n6.size
                        have HR18 := Lib.hid r18
                        have HNN1 := Lib.hid n1
                        go_wp2_with (at_builtin; refine wpList_append_lies _ rfl _ _ 135 rfl W1.heap.size 122 ci (.pointer none) 1 8 Tryz.underlying135 hci hcz0 hcz1 hcz2 rfl (by decide) _ _ _ rfl (HR18.out.alloc _) ⟨_, 0, none⟩ 1 1 [.pointer cc] rfl rfl ?_ ?_ ?_ ?_ ?_ ?_ _ rfl ?_)
                        · exact cells_newX _ _ _
                        · intro u hu; simp at hu; subst hu; rfl
                        · decide
                        · unfold maxLen; omega
                        · omega
                        · simp; omega
                        intro ga ca wa oa ha ga2 ga3
                        have hba := below_box w9 (.cells #[.pointer cc] 122)
                        have b18 := (HNN1.out.up hba).grownX ha (own_neT (own_up HR18.out hba) (HNN1.out.up hba) (by decide))
                        have HNC2 := Lib.hid (NC.push18 n1 r18 r19 r22 n5 n6 n7 oa ha ga2)
                        have z18 := b18.cell 18 rfl
                        have f18 := b18.frz
                        clear n1 r18 r19 r22 n5 n6 n7 HR18 HNN1 m18 hws b18 oa ha ga2 ga3 hba
                        go_upto_region 23 with fail
                        refine wp_named4 (fun Y => NC t.n W1 nb (r + 1) r 0 Y) HNC2.out ?_
                        rintro Y9 hY9
                        have HNC9 := Lib.hid hY9
                        clear hY9 HNC2 z18 f18 HNC HSL HFC HFD
                        obtain ⟨⟨a1, a2, a3, a4, a5, a6, a7, a8, a9, a10, a11, a12, a14, a15, a16, a17, v18, v19, a20, v22, a24, n1, ⟨y18, r18⟩, ⟨y19, r19⟩, ⟨y22, r22⟩, n5⟩, n6, n7⟩ := HNC9.out
                        have m19 := n1.cell 19 rfl
                        have hws := n6.size
                        have HR19 := Lib.hid r19
                        have HNN1 := Lib.hid n1
                        go_wp2_with (at_builtin; refine wpList_append_lies _ rfl _ _ 135 rfl W1.heap.size 122 ci (.pointer none) 1 8 Tryz.underlying135 hci hcz0 hcz1 hcz2 rfl (by decide) _ _ _ rfl (HR19.out.alloc _) ⟨_, 0, none⟩ 1 1 [.pointer cd] rfl rfl ?_ ?_ ?_ ?_ ?_ ?_ _ rfl ?_)
                        · exact cells_newX _ _ _
                        · intro u hu; simp at hu; subst hu; rfl
                        · decide
                        · unfold maxLen; omega
                        · omega
                        · simp; omega
                        intro gz cz wz oz hz gz2 gz3
                        have hbz := below_box Y9 (.cells #[.pointer cd] 122)
                        have b19 := (HNN1.out.up hbz).grownX hz (own_neT (own_up HR19.out hbz) (HNN1.out.up hbz) (by decide))
                        have HNC2 := Lib.hid (NC.push19 n1 r18 r19 r22 n5 n6 n7 oz hz gz2)
                        have z19 := b19.cell 19 rfl
                        have f19 := b19.frz
                        clear n1 r18 r19 r22 n5 n6 n7 HR19 HNN1 m19 hws b19 oz hz gz2 gz3 hbz HNC9
                        go_wp2_with fail
                        go_roundg (gk - 1)
                        case measure => omega
                        case rel => exact ⟨r + 1, by omega, by go_num, HNC2⟩
                      exact AllReadyH.nil
                    exact AllReadyH.nil
                  exact AllReadyH.nil
                exact AllReadyH.nil
              · obtain rfl : r = 2 * t.ls.length := by omega
                have hnl2 : ¬ ((2 * t.ls.length : Nat) : Int) < 2 * (t.ls.length : Int) := by omega
                obtain ⟨t0, t1, t2, -⟩ := (HTB.out.up HNC.out.b).c3
                go_wp2_with fail
                refine wp_named4 (fun Y => NC t.n W1 nb (2 * t.ls.length) (2 * t.ls.length) 0 Y) HNC.out ?_
                rintro W4 hY
                replace HNC := Lib.hid hY
                clear hY t0 t1 t2 hnl2 hlt
                go_loopg [142] t.ls.length (fun gg i wx => ∃ z : Nat, z + gg = t.ls.length ∧ i = .int .i64 z ∧ Hid (NC t.n W1 nb (2 * t.ls.length) (2 * t.ls.length) z wx))
                case atStart => exact ⟨0, by omega, rfl, HNC⟩
                case round =>
                  clear HNC
                  obtain ⟨z, hz, rfl, HNC⟩ := hrel
                  obtain ⟨⟨a1, a2, a3, a4, a5, a6, a7, a8, a9, a10, a11, a12, a14, a15, a16, a17, v18, v19, a20, v22, a24, n1, ⟨y18, r18⟩, ⟨y19, r19⟩, ⟨y22, r22⟩, n5⟩, n6, n7⟩ := HNC.out
                  by_cases hlt : z < t.ls.length
                  · have hlt' : (z : Int) < (t.ls.length : Int) := by omega
                    have m22 := n1.cell 22 rfl
                    have hws := n6.size
                    have HR22 := Lib.hid r22
                    have HNN1 := Lib.hid n1
                    go_wp2_with (at_builtin; refine wpList_append_lies _ rfl _ _ 50 rfl W1.heap.size 3 ii (.int .i64 0) 1 8 Tryz.underlying50 hii hiz0 hiz1 hiz2 rfl (by decide) _ _ _ rfl (HR22.out.alloc _) ⟨_, 0, none⟩ 1 1 [.int .i64 (-1)] rfl rfl ?_ ?_ ?_ ?_ ?_ ?_ _ rfl ?_)
                    · exact cells_newX _ _ _
                    · intro u hu; simp at hu; subst hu; rfl
                    · decide
                    · unfold maxLen; omega
                    · omega
                    · simp; omega
                    intro gz cz wz oz hzg gz2 gz3
                    have hbz := below_box wr (.cells #[.int .i64 (-1)] 3)
                    have b22 := (HNN1.out.up hbz).grownX hzg (own_neT (own_up HR22.out hbz) (HNN1.out.up hbz) (by decide))
                    have HNC2 := Lib.hid (NC.push22 n1 r18 r19 r22 n5 n6 n7 oz hzg gz2)
                    have z22 := b22.cell 22 rfl
                    have f22 := b22.frz
                    clear n1 r18 r19 r22 n5 n6 n7 HR22 HNN1 m22 hws b22 oz hzg gz2 gz3 hbz
                    go_wp2_with fail
                    go_roundg (gk - 1)
                    case measure => omega
                    case rel => exact ⟨z + 1, by omega, by go_num, HNC2⟩
                  · obtain rfl : z = t.ls.length := by omega
                    clear r18 r19 r22 n5 n7
                    have HN1 := Lib.hid n1
                    have HN6 := Lib.hid n6
                    clear n1 n6
                    go_wp2_with fail
                    exact bodyPost_ret (v := .tuple #[.pointer (some ⟨nb, 0, none⟩), .int .i64 0]) (by simp [results, Tryz.results21, go_sem]) rfl ⟨⟨nb, rfl, ⟨_, _, _, _, _, _, _, _, _, _, _, _, _, _, _, _, _, _, _, _, _, HN1.out⟩⟩, HBW.out.trans (HN6.out.mono HBW.out.size)⟩
end
end Go.Proofs.YtenhliibmcmnbaaGreat
