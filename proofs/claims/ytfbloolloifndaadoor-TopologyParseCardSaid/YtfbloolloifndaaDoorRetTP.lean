/-
  What a parser of topologies returns, and small lemmas for both of them.
-/
import Derived.Test.YtfbloolloifndaaDoorRTM
namespace Go.Proofs.YtfbloolloifndaaDoor
open Go.RowKit Go.Sort
set_option linter.unusedSimpArgs false
set_option linter.unusedVariables false

def RetTP (w : World) (r : Topo × Int) (e : Ending) (w' : World) : Prop :=
  ∃ A1 A2 c1 c2, e = .returned (.tuple #[.agg #[.int .i64 r.1.n, .slice A1 r.1.ov.length c1, .slice A2 r.1.ls.length c2], .int .i64 r.2]) ∧ TAt w' A1 A2 r.1 ∧ Below w.heap.size w w'
theorem retTP_zero {w w' : World} {k : Int} (hb : Below w.heap.size w w') : RetTP w (zeroT, k) (.returned (.tuple #[.agg #[.int .i64 0, .slice none 0 0, .slice none 0 0], .int .i64 k])) w' :=
  ⟨none, none, 0, 0, rfl, ⟨.inl rfl, .inl rfl⟩, hb⟩
theorem strs_atT {w : World} {A : Option Addr} {ws : List (List UInt8)} {k : Nat} {x : List UInt8} (h : Rd w A (ws.map strW)) (hk : ws[k]? = some x) : ∃ b o, A = some ⟨b, o, none⟩ ∧ w.cell? ⟨b, o + k, none⟩ = some (.string ⟨x.toArray⟩) :=
  h.at_ (u := strW x) (by rw [List.getElem?_map, hk]; rfl)
theorem foldR_at {k : Nat} {l : List (List UInt8)} {x : List UInt8} {t : Topo} (h : l[k]? = some x) : foldR k (l.drop k) t = foldR (k + 1) (l.drop (k + 1)) (stepR k t (splitK 32 [] x)) := by
  obtain ⟨hk, rfl⟩ := List.getElem?_eq_some_iff.1 h
  rw [List.drop_eq_getElem_cons hk]
  rfl
theorem rt_start (w : World) : RT w.heap.size (w.heap.size + 1) zeroT (.slice none 0 0) (.slice none 0 0) (w.alloc (.cells #[.int .i64 0, .slice none 0 0, .slice none 0 0] 25)) :=
  ⟨heap_alloc_new w _, World.ownsRow_nil _ _ _ _, World.ownsRow_nil _ _ _ _, (by intro g h; simp [Value.ownBlock] at h), Nat.lt_succ_self _, by simp⟩

theorem box_set3 {w : World} {g : Nat} {a b c x y z : Value} {T : TypeId} (h : w.heap[g]? = some (.cells #[a, b, c] T (0, 0))) : (((w.setCell ⟨g, 0, none⟩ x).setCell ⟨g, 1, none⟩ y).setCell ⟨g, 2, none⟩ z).heap[g]? = some (.cells #[x, y, z] T (0, 0)) :=
  heap_setCell_same _ _ _ _ _ _ (heap_setCell_same _ _ _ _ _ _ (heap_setCell_same _ _ _ _ _ _ h))
theorem below_set3 {B g : Nat} {w W : World} (h : Below B w W) (hg : B ≤ g) (x y z : Value) : Below B w (((W.setCell ⟨g, 0, none⟩ x).setCell ⟨g, 1, none⟩ y).setCell ⟨g, 2, none⟩ z) := ((h.setCell hg _).setCell hg _).setCell hg _

theorem RT.setR {tb base g : Nat} {t : Topo} {ov ls : Value} {w : World} (h : RT tb base t ov ls w) (hg : g < tb) (j : Nat) (u : Value) : RT tb base t ov ls (w.setCell ⟨g, j, none⟩ u) :=
  ⟨(Below.heap_setCell w ⟨g, j, none⟩ u tb (by simp; omega)).trans h.st, own_setT h.ho (own_tb h.ho (Nat.lt_trans hg h.lt)) _, own_setT h.hl (own_tb h.hl (Nat.lt_trans hg h.lt)) _, h.ne, h.lt, by simpa using h.sz⟩
theorem RT.tat2 {tb base : Nat} {t : Topo} {A1 A2 : Option Addr} {c1 c2 : Nat} {w : World} (h : RT tb base t (.slice A1 t.ov.length c1) (.slice A2 t.ls.length c2) w) : TAt w A1 A2 t := by
  obtain ⟨B1, B2, d1, d2, e1, e2, hT⟩ := h.tat
  injection e1 with e1 _ _
  injection e2 with e2 _ _
  subst e1 e2
  exact hT

theorem below_drw1 (w : World) : Below w.heap.size w w.drew := ⟨rfl, rfl, rfl, Nat.le_refl _, fun _ _ => rfl⟩
theorem lkc_one (l : Lnk) : ∀ u ∈ lkC l, u.oneCell' = true := by
  intro u hu
  simp only [lkC, List.mem_cons, List.not_mem_nil, or_false] at hu
  rcases hu with rfl | rfl | rfl | rfl | rfl | rfl | rfl <;> rfl
theorem w7_mono {w w' : World} {bw ow : Nat} {y1 y2 y3 y4 y5 y6 y7 : List UInt8} (h : ∀ j v, w.cell? ⟨bw, j, none⟩ = some v → w'.cell? ⟨bw, j, none⟩ = some v)
    (hS : w.cell? ⟨bw, ow + 1, none⟩ = some (.string ⟨y1.toArray⟩) ∧ w.cell? ⟨bw, ow + 2, none⟩ = some (.string ⟨y2.toArray⟩) ∧ w.cell? ⟨bw, ow + 3, none⟩ = some (.string ⟨y3.toArray⟩) ∧ w.cell? ⟨bw, ow + 4, none⟩ = some (.string ⟨y4.toArray⟩) ∧ w.cell? ⟨bw, ow + 5, none⟩ = some (.string ⟨y5.toArray⟩) ∧ w.cell? ⟨bw, ow + 6, none⟩ = some (.string ⟨y6.toArray⟩) ∧ w.cell? ⟨bw, ow + 7, none⟩ = some (.string ⟨y7.toArray⟩)) :
    w'.cell? ⟨bw, ow + 1, none⟩ = some (.string ⟨y1.toArray⟩) ∧ w'.cell? ⟨bw, ow + 2, none⟩ = some (.string ⟨y2.toArray⟩) ∧ w'.cell? ⟨bw, ow + 3, none⟩ = some (.string ⟨y3.toArray⟩) ∧ w'.cell? ⟨bw, ow + 4, none⟩ = some (.string ⟨y4.toArray⟩) ∧ w'.cell? ⟨bw, ow + 5, none⟩ = some (.string ⟨y5.toArray⟩) ∧ w'.cell? ⟨bw, ow + 6, none⟩ = some (.string ⟨y6.toArray⟩) ∧ w'.cell? ⟨bw, ow + 7, none⟩ = some (.string ⟨y7.toArray⟩) :=
  ⟨h _ _ hS.1, h _ _ hS.2.1, h _ _ hS.2.2.1, h _ _ hS.2.2.2.1, h _ _ hS.2.2.2.2.1, h _ _ hS.2.2.2.2.2.1, h _ _ hS.2.2.2.2.2.2⟩
theorem w7_alloc {w : World} {bw ow : Nat} {y1 y2 y3 y4 y5 y6 y7 : List UInt8} (o : Obj)
    (hS : w.cell? ⟨bw, ow + 1, none⟩ = some (.string ⟨y1.toArray⟩) ∧ w.cell? ⟨bw, ow + 2, none⟩ = some (.string ⟨y2.toArray⟩) ∧ w.cell? ⟨bw, ow + 3, none⟩ = some (.string ⟨y3.toArray⟩) ∧ w.cell? ⟨bw, ow + 4, none⟩ = some (.string ⟨y4.toArray⟩) ∧ w.cell? ⟨bw, ow + 5, none⟩ = some (.string ⟨y5.toArray⟩) ∧ w.cell? ⟨bw, ow + 6, none⟩ = some (.string ⟨y6.toArray⟩) ∧ w.cell? ⟨bw, ow + 7, none⟩ = some (.string ⟨y7.toArray⟩)) :
    (w.alloc o).cell? ⟨bw, ow + 1, none⟩ = some (.string ⟨y1.toArray⟩) ∧ (w.alloc o).cell? ⟨bw, ow + 2, none⟩ = some (.string ⟨y2.toArray⟩) ∧ (w.alloc o).cell? ⟨bw, ow + 3, none⟩ = some (.string ⟨y3.toArray⟩) ∧ (w.alloc o).cell? ⟨bw, ow + 4, none⟩ = some (.string ⟨y4.toArray⟩) ∧ (w.alloc o).cell? ⟨bw, ow + 5, none⟩ = some (.string ⟨y5.toArray⟩) ∧ (w.alloc o).cell? ⟨bw, ow + 6, none⟩ = some (.string ⟨y6.toArray⟩) ∧ (w.alloc o).cell? ⟨bw, ow + 7, none⟩ = some (.string ⟨y7.toArray⟩) :=
  w7_mono (fun j v h => cell_up (below_box w o) h) hS
theorem w7_grown {w w' : World} {bw ow : Nat} {r : Option Nat} {y1 y2 y3 y4 y5 y6 y7 : List UInt8} (hg : w.grownBy w' r) (hne : r ≠ some bw)
    (hS : w.cell? ⟨bw, ow + 1, none⟩ = some (.string ⟨y1.toArray⟩) ∧ w.cell? ⟨bw, ow + 2, none⟩ = some (.string ⟨y2.toArray⟩) ∧ w.cell? ⟨bw, ow + 3, none⟩ = some (.string ⟨y3.toArray⟩) ∧ w.cell? ⟨bw, ow + 4, none⟩ = some (.string ⟨y4.toArray⟩) ∧ w.cell? ⟨bw, ow + 5, none⟩ = some (.string ⟨y5.toArray⟩) ∧ w.cell? ⟨bw, ow + 6, none⟩ = some (.string ⟨y6.toArray⟩) ∧ w.cell? ⟨bw, ow + 7, none⟩ = some (.string ⟨y7.toArray⟩)) :
    w'.cell? ⟨bw, ow + 1, none⟩ = some (.string ⟨y1.toArray⟩) ∧ w'.cell? ⟨bw, ow + 2, none⟩ = some (.string ⟨y2.toArray⟩) ∧ w'.cell? ⟨bw, ow + 3, none⟩ = some (.string ⟨y3.toArray⟩) ∧ w'.cell? ⟨bw, ow + 4, none⟩ = some (.string ⟨y4.toArray⟩) ∧ w'.cell? ⟨bw, ow + 5, none⟩ = some (.string ⟨y5.toArray⟩) ∧ w'.cell? ⟨bw, ow + 6, none⟩ = some (.string ⟨y6.toArray⟩) ∧ w'.cell? ⟨bw, ow + 7, none⟩ = some (.string ⟨y7.toArray⟩) :=
  w7_mono (fun j v h => (World.cell?_of_block (a := ⟨bw, j, none⟩) (hg.block bw (block_lt_of_cell h) (fun e => hne e.symm))).trans h) hS
theorem w7_set {w : World} {bw ow g j : Nat} {u : Value} {y1 y2 y3 y4 y5 y6 y7 : List UInt8}
    (hS : w.cell? ⟨bw, ow + 1, none⟩ = some (.string ⟨y1.toArray⟩) ∧ w.cell? ⟨bw, ow + 2, none⟩ = some (.string ⟨y2.toArray⟩) ∧ w.cell? ⟨bw, ow + 3, none⟩ = some (.string ⟨y3.toArray⟩) ∧ w.cell? ⟨bw, ow + 4, none⟩ = some (.string ⟨y4.toArray⟩) ∧ w.cell? ⟨bw, ow + 5, none⟩ = some (.string ⟨y5.toArray⟩) ∧ w.cell? ⟨bw, ow + 6, none⟩ = some (.string ⟨y6.toArray⟩) ∧ w.cell? ⟨bw, ow + 7, none⟩ = some (.string ⟨y7.toArray⟩)) (hne : g ≠ bw) :
    (w.setCell ⟨g, j, none⟩ u).cell? ⟨bw, ow + 1, none⟩ = some (.string ⟨y1.toArray⟩) ∧ (w.setCell ⟨g, j, none⟩ u).cell? ⟨bw, ow + 2, none⟩ = some (.string ⟨y2.toArray⟩) ∧ (w.setCell ⟨g, j, none⟩ u).cell? ⟨bw, ow + 3, none⟩ = some (.string ⟨y3.toArray⟩) ∧ (w.setCell ⟨g, j, none⟩ u).cell? ⟨bw, ow + 4, none⟩ = some (.string ⟨y4.toArray⟩) ∧ (w.setCell ⟨g, j, none⟩ u).cell? ⟨bw, ow + 5, none⟩ = some (.string ⟨y5.toArray⟩) ∧ (w.setCell ⟨g, j, none⟩ u).cell? ⟨bw, ow + 6, none⟩ = some (.string ⟨y6.toArray⟩) ∧ (w.setCell ⟨g, j, none⟩ u).cell? ⟨bw, ow + 7, none⟩ = some (.string ⟨y7.toArray⟩) :=
  w7_mono (fun i v h => (World.cell?_setCell_other w _ _ _ (fun e => hne (by injection e))).trans h) hS

end Go.Proofs.YtfbloolloifndaaDoor
