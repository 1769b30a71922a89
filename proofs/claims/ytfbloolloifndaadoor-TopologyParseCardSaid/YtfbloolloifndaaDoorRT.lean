/-
  A topology that is being made: its box, and the two rows that it owns.
-/
import Derived.Test.YtfbloolloifndaaDoorText
import Derived.Test.YtfbloolloifndaaDoorOut
import Derived.OwnWalk
namespace Go.Proofs.YtfbloolloifndaaDoor
open Go.RowKit Go.Sort
set_option linter.unusedSimpArgs false
set_option linter.unusedVariables false

def lkC (l : Lnk) : List Value := [.int .i64 l.a, .int .i64 l.b, .int .i64 l.c0, .int .i64 l.c1, .int .i64 l.cap, .int .i64 l.dl, .int .i64 l.g]
def lkCs (ls : List Lnk) : List Value := ls.flatMap lkC
theorem lkCs_snoc (ls : List Lnk) (l : Lnk) : lkCs (ls ++ [l]) = lkCs ls ++ lkC l := by simp [lkCs]
theorem boolInfo : (Tryd.prog.info? 4).map (fun i => (i.zero, i.size, i.bytes)) = some (some (.bool false), 1, 1) := by kernel_rfl
theorem lnkInfo : (Tryd.prog.info? 45).map (fun i => (i.zero, i.size, i.bytes)) = some (some (.agg #[.int .i64 0, .int .i64 0, .int .i64 0, .int .i64 0, .int .i64 0, .int .i64 0, .int .i64 0]), 7, 56) := by kernel_rfl
structure RT (tb base : Nat) (t : Topo) (ov ls : Value) (w : World) : Prop where
  st : w.heap[tb]? = some (.cells #[.int .i64 t.n, ov, ls] 25 (0, 0))
  ho : w.ownsRow base 4 1 ov t.ov.length (t.ov.map Value.bool)
  hl : w.ownsRow base 45 7 ls t.ls.length (lkCs t.ls)
  ne : ∀ g, ov.ownBlock = some g → ls.ownBlock ≠ some g
  lt : tb < base
  sz : base ≤ w.heap.size
theorem RT.up {tb base : Nat} {t : Topo} {ov ls : Value} {w w' : World} (h : RT tb base t ov ls w) (hb : Below w.heap.size w w') : RT tb base t ov ls w' :=
  ⟨(hb.block _ (lt_of_heap h.st)).trans h.st, own_up h.ho hb, own_up h.hl hb, h.ne, h.lt, Nat.le_trans h.sz hb.size⟩
theorem own_setT {w : World} {B : Nat} {E : TypeId} {size : Nat} {v : Value} {n : Nat} {xs : List Value} {g j : Nat} (h : w.ownsRow B E size v n xs) (hne : v.ownBlock ≠ some g) (u : Value) : (w.setCell ⟨g, j, none⟩ u).ownsRow B E size v n xs := by
  rcases h with ⟨hl, h0 | ⟨g', cap, cur, rfl, hB, hg, rest⟩⟩
  · exact ⟨hl, .inl h0⟩
  · refine ⟨hl, .inr ⟨g', cap, cur, rfl, hB, ?_, rest⟩⟩
    rw [Below.heap_setCell w ⟨g, j, none⟩ u g' (by simpa [Value.ownBlock] using hne)]
    exact hg
theorem own_tb {w : World} {B : Nat} {E : TypeId} {size : Nat} {v : Value} {n : Nat} {xs : List Value} {tb : Nat} (h : w.ownsRow B E size v n xs) (ht : tb < B) : v.ownBlock ≠ some tb := fun e => by
  have := (h.lt tb e).1
  omega
theorem RT.setN {tb base : Nat} {t : Topo} {ov ls : Value} {w : World} (h : RT tb base t ov ls w) (n : Int) : RT tb base { t with n := n } ov ls (w.setCell ⟨tb, 0, none⟩ (.int .i64 n)) :=
  ⟨heap_setCell_same _ _ _ _ _ _ h.st, own_setT h.ho (own_tb h.ho h.lt) _, own_setT h.hl (own_tb h.hl h.lt) _, h.ne, h.lt, by simpa using h.sz⟩
theorem RT.setOv {tb base : Nat} {t : Topo} {ov ls ov' : Value} {bs : List Bool} {w : World} (h : RT tb base t ov ls w) (ho : w.ownsRow base 4 1 ov' bs.length (bs.map Value.bool)) (hn : ∀ g, ov'.ownBlock = some g → ls.ownBlock ≠ some g) : RT tb base { t with ov := bs } ov' ls (w.setCell ⟨tb, 1, none⟩ ov') :=
  ⟨heap_setCell_same _ _ _ _ _ _ h.st, own_setT ho (own_tb ho h.lt) _, own_setT h.hl (own_tb h.hl h.lt) _, hn, h.lt, by simpa using h.sz⟩
theorem RT.setLs {tb base : Nat} {t : Topo} {ov ls ls' : Value} {l : List Lnk} {w : World} (h : RT tb base t ov ls w) (hl : w.ownsRow base 45 7 ls' l.length (lkCs l)) (hn : ∀ g, ov.ownBlock = some g → ls'.ownBlock ≠ some g) : RT tb base { t with ls := l } ov ls' (w.setCell ⟨tb, 2, none⟩ ls') :=
  ⟨heap_setCell_same _ _ _ _ _ _ h.st, own_setT h.ho (own_tb h.ho h.lt) _, own_setT hl (own_tb hl h.lt) _, hn, h.lt, by simpa using h.sz⟩
theorem RT.cells {tb base : Nat} {t : Topo} {ov ls : Value} {w : World} (h : RT tb base t ov ls w) : w.cell? ⟨tb, 0, none⟩ = some (.int .i64 t.n) ∧ w.cell? ⟨tb, 1, none⟩ = some ov ∧ w.cell? ⟨tb, 2, none⟩ = some ls ∧ ∀ i, w.frozen? ⟨tb, i, none⟩ = false :=
  ⟨by rw [Lib.cell_of_heap h.st]; rfl, by rw [Lib.cell_of_heap h.st]; rfl, by rw [Lib.cell_of_heap h.st]; rfl, fun i => Lib.frozen_of_heap h.st i⟩
theorem rdl_of_own {w : World} {base : Nat} {v : Value} {ls : List Lnk} (h : w.ownsRow base 45 7 v ls.length (lkCs ls)) : ∃ A c, v = .slice A ls.length c ∧ ls.length ≤ c ∧ RdL w A ls := by
  have key : ∀ (ls : List Lnk) (k : Nat) (l : Lnk) (j : Nat), ls[k]? = some l → j < 7 → (lkCs ls)[k * 7 + j]? = (lkC l)[j]? := by
    intro ls
    induction ls with
    | nil => intro k l j h; simp at h
    | cons x xs ih =>
      intro k l j h hj
      rw [show lkCs (x :: xs) = lkC x ++ lkCs xs by simp [lkCs]]
      cases k with
      | zero =>
        simp only [List.getElem?_cons_zero, Option.some.injEq] at h
        subst h
        rw [List.getElem?_append_left (by simp [lkC]; omega)]
        simp
      | succ k =>
        rw [List.getElem?_append_right (by simp [lkC]; omega), show (k + 1) * 7 + j - (lkC x).length = k * 7 + j from by simp [lkC]; omega]
        exact ih k l j (by simpa using h) hj
  have hlen : (lkCs ls).length = ls.length * 7 := h.1
  have hh := h
  rcases h with ⟨hl, ⟨rfl, h0⟩ | ⟨g, cap, cur, rfl, hb, hg, hnc, hcm, hs, ht⟩⟩
  · exact ⟨none, 0, by rw [h0], by omega, .inl (List.eq_nil_of_length_eq_zero h0)⟩
  · refine ⟨_, cap, rfl, hnc, .inr ⟨g, 0, rfl, fun k l hk => ?_⟩⟩
    have hkl := (List.getElem?_eq_some_iff.1 hk).1
    have at' : ∀ j v, j < 7 → (lkC l)[j]? = some v → w.cell? ⟨g, 0 + k * 7 + j, none⟩ = some v := by
      intro j v hj hv
      rw [Nat.zero_add, hh.cellAt (k * 7 + j) (by omega), key ls k l j hk hj, hv]
    exact ⟨at' 0 _ (by omega) rfl, at' 1 _ (by omega) rfl, at' 2 _ (by omega) rfl, at' 3 _ (by omega) rfl, at' 4 _ (by omega) rfl, at' 5 _ (by omega) rfl, at' 6 _ (by omega) rfl⟩
theorem RT.tat {tb base : Nat} {t : Topo} {ov ls : Value} {w : World} (h : RT tb base t ov ls w) : ∃ A1 A2 c1 c2, ov = .slice A1 t.ov.length c1 ∧ ls = .slice A2 t.ls.length c2 ∧ TAt w A1 A2 t := by
  obtain ⟨A1, c1, h1, _, _, h2⟩ := rd_of_own h.ho
  obtain ⟨A2, c2, h3, _, h4⟩ := rdl_of_own h.hl
  exact ⟨A1, A2, c1, c2, h1, h3, h2, h4⟩

end Go.Proofs.YtfbloolloifndaaDoor
