/-
  A topology that is being made: a fresh row of marks, a mark that is set.
-/
import Derived.Test.YtfbloolloifndaaDoorRT
import Derived.Test.YtfbloolloifndaaDoorTopoR
import Derived.Laws.OwnMore
import Derived.Laws.MakeOwn
import Derived.Maps.AppendAt
namespace Go.Proofs.YtfbloolloifndaaDoor
open Go.RowKit Go.Sort
set_option linter.unusedSimpArgs false
set_option linter.unusedVariables false

/-- make([]bool, n): the world behind it. -/
def mkW (n : Nat) (w : World) : World := w.alloc (.cells (madeCells #[.bool false] n) 4)
theorem run_mkW (n : Nat) (h : n ≤ 1000000) (w : World) : (Instr.makeSlice 22 (.int .i64 (n : Int)) (.int .i64 (n : Int))).run Tryd.prog w = .ok (.slice (some ⟨w.heap.size, 0, none⟩) n n) (mkW n w) := by
  obtain ⟨i0, hi, hz0, hz1, hz2⟩ := info_parts boolInfo
  have hr := run_make (P := Tryd.prog) w 22 4 i0 (.bool false) Tryd.underlying22 hi hz0 .i64 .i64 (n : Int) (n : Int) (by omega) (Int.le_refl _) (by rw [hz2]; omega) (by omega)
  rw [hr, hz1, show ((n : Int)).toNat = n by omega, Nat.mul_one]
  rfl
theorem mkW_below (n : Nat) (w : World) : Below w.heap.size w (mkW n w) := below_box w _
theorem mkW_own (n : Nat) (h : n ≤ 1000000) (w : World) (base : Nat) (hb : base ≤ w.heap.size) : (mkW n w).ownsRow base 4 1 (.slice (some ⟨w.heap.size, 0, none⟩) n n) (List.replicate n false).length ((List.replicate n false).map Value.bool) := by
  refine ⟨by simp, .inr ⟨w.heap.size, n, _, by simp, hb, heap_alloc_new w _, by simp, by unfold maxLen; omega, by simp [size_madeCells], ?_⟩⟩
  rw [toList_madeCells_one]
  simp
/-- A fresh row of marks is stored. -/
theorem RT.make {tb base : Nat} {t : Topo} {ov ls : Value} {w : World} (h : RT tb base t ov ls w) (n : Nat) (hn : n ≤ 1000000) : RT tb base { t with ov := List.replicate n false } (.slice (some ⟨w.heap.size, 0, none⟩) n n) ls ((mkW n w).setCell ⟨tb, 1, none⟩ (.slice (some ⟨w.heap.size, 0, none⟩) n n)) := by
  refine (h.up (mkW_below n w)).setOv (mkW_own n hn w base h.sz) ?_
  intro g hg hl
  simp only [Value.ownBlock, Option.some.injEq] at hg
  have := (h.hl.lt g hl).2
  omega
/-- A mark is set. -/
theorem RT.mark {tb base : Nat} {t : Topo} {A : Option Addr} {c : Nat} {ls : Value} {w : World} (h : RT tb base t (.slice A t.ov.length c) ls w) {k : Nat} (hk : k < t.ov.length) :
    ∃ g, A = some ⟨g, 0, none⟩ ∧ (∃ b, w.cell? ⟨g, k, none⟩ = some (.bool b)) ∧ w.frozen? ⟨g, k, none⟩ = false ∧ base ≤ g ∧ RT tb base { t with ov := t.ov.set k true } (.slice A t.ov.length c) ls (w.setCell ⟨g, k, none⟩ (.bool true)) := by
  have ho := h.ho
  rcases h.ho with ⟨hl, ⟨h0, h1⟩ | ⟨g, cap, cur, h0, hb, hg, rest⟩⟩
  · omega
  · injection h0 with e1 e2 e3
    subst e1 e3
    have hc : w.cell? ⟨g, k, none⟩ = some (.bool t.ov[k]) := by rw [ho.cellAt k (by omega)]; simp [hk]
    have hs := (ho.stored k (.bool true)).1
    refine ⟨g, rfl, ⟨_, hc⟩, ho.frozenAt k, hb, ⟨?_, ?_, own_setT h.hl (h.ne g rfl) _, h.ne, h.lt, by simpa using h.sz⟩⟩
    · rw [Below.heap_setCell w ⟨g, k, none⟩ _ tb (by have := h.lt; simp; omega)]
      exact h.st
    · rw [List.map_set] 
      simpa using hs

/-- A link is appended: wa is the world of the append, w' the one behind it. -/
theorem RT.app {tb base : Nat} {t : Topo} {ov ls v' : Value} {wa w' : World} (h : RT tb base t ov ls wa) (l : Lnk) (hn : w'.ownsRow base 45 7 v' (t.ls.length + 1) (lkCs t.ls ++ lkC l)) (hg : wa.grownBy w' ls.ownBlock) (hv : v'.ownBlock = ls.ownBlock ∨ v'.ownBlock = some wa.heap.size) :
    RT tb base { t with ls := t.ls ++ [l] } ov v' (w'.setCell ⟨tb, 2, none⟩ v') := by
  have hn' : w'.ownsRow base 45 7 v' (t.ls ++ [l]).length (lkCs (t.ls ++ [l])) := by rw [lkCs_snoc, List.length_append]; exact hn
  have ho : w'.ownsRow base 4 1 ov t.ov.length (t.ov.map Value.bool) := h.ho.kept hg (by
    cases e : ov.ownBlock with
    | none => exact .inl rfl
    | some g => exact .inr (fun e' => h.ne g e e'.symm))
  refine ⟨heap_setCell_same _ _ _ _ _ _ ((hg.block tb (lt_of_heap h.st) (fun e => own_tb h.hl h.lt e.symm)).trans h.st), own_setT ho (own_tb ho h.lt) _, own_setT hn' (own_tb hn' h.lt) _, ?_, h.lt, ?_⟩
  · intro g e e'
    rcases hv with hv | hv
    · exact h.ne g e (hv.symm.trans e')
    · rw [hv] at e'
      injection e' with e'
      have := (h.ho.lt g e).2
      omega
  · have := h.sz; have := hg.size; simp; omega
theorem RT.appB {tb base : Nat} {t : Topo} {ov ls : Value} {wr w1 : World} {o : Obj} {w0 : World} (h : RT tb base t ov ls wr) (hb : Below tb w0 wr) (hg : (wr.alloc o).grownBy w1 ls.ownBlock) : Below tb w0 w1 :=
  hb.trans (((Below.refl tb wr).alloc (by have := h.lt; have := h.sz; omega) o).grown hg (by have := h.lt; have := h.sz; simp; omega) (fun k hk => by have := (h.hl.lt k hk).1; have := h.lt; omega))
theorem lkc_cells (w : World) (l : Lnk) (T : TypeId) : ∀ (j : Nat) (u : Value), (lkC l)[j]? = some u → (w.alloc (.cells #[.int .i64 l.a, .int .i64 l.b, .int .i64 l.c0, .int .i64 l.c1, .int .i64 l.cap, .int .i64 l.dl, .int .i64 l.g] T)).cell? ((⟨w.heap.size, 0, none⟩ : Addr).add j) = some u := by
  intro j u hj
  have hl : j < (lkC l).length := (List.getElem?_eq_some_iff.1 hj).1
  rw [Addr.add_lit, Nat.zero_add, Lib.cell_of_heap (heap_alloc_new w _)]
  simpa [lkC] using hj

end Go.Proofs.YtfbloolloifndaaDoor
