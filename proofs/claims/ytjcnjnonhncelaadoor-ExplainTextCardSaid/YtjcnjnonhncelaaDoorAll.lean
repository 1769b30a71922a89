/-
  component.All: what it returns, for every topology.
-/
import Derived.Test.YtjcnjnonhncelaaDoorComp
import Derived.Laws.Rows
namespace Go.Proofs.YtjcnjnonhncelaaDoor
open Go.RowKit Go.Sort

def ncP (c : Int) : Nat → List (Int × Int)
  | 0 => []
  | j + 1 => ncP c j ++ [(c, (j : Int))]
theorem ncP_len (c : Int) : ∀ j, (ncP c j).length = j
  | 0 => rfl
  | j + 1 => by simp [ncP, ncP_len c j]
/-- Is a group used by one of the first j links? -/
def usedK (t : Topo) (j : Nat) (g : Nat) : Bool := (t.ls.take j).any fun l => l.g == (g : Int)
def grP (t : Topo) : Nat → List (Int × Int)
  | 0 => []
  | j + 1 => if decide (0 < j) && usedK t t.ls.length j then grP t j ++ [(3, (j : Int))] else grP t j
def allL (t : Topo) : List (Int × Int) := ncP 1 t.ls.length ++ (ncP 2 t.n.toNat ++ grP t 65)
def pcells (l : List (Int × Int)) : List Value := l.flatMap fun p => [.int .i64 p.1, .int .i64 p.2]
theorem pcells_snoc (l : List (Int × Int)) (p : Int × Int) : pcells (l ++ [p]) = pcells l ++ [.int .i64 p.1, .int .i64 p.2] := by simp [pcells]
theorem grP_len (t : Topo) : ∀ j, (grP t j).length ≤ j
  | 0 => Nat.le_refl _
  | j + 1 => by
    have := grP_len t j
    unfold grP
    split
    · simp; omega
    · omega
theorem usedK_next {t : Topo} {j : Nat} {l : Lnk} (h : t.ls[j]? = some l) (g : Nat) : usedK t (j + 1) g = (usedK t j g || (l.g == (g : Int))) := by
  obtain ⟨hj, rfl⟩ := List.getElem?_eq_some_iff.1 h
  unfold usedK
  rw [List.take_succ_eq_append_getElem hj, List.any_append]
  simp

/-- The marks of the groups. -/
def marks (t : Topo) (j : Nat) : Array Value := ((List.range 65).map fun g => Value.bool (usedK t j g)).toArray
theorem marks_size (t : Topo) (j : Nat) : (marks t j).size = 65 := by simp [marks]
theorem marks_at (t : Topo) (j : Nat) {g : Nat} (hg : g < 65) : (marks t j)[g]? = some (.bool (usedK t j g)) := by simp [marks, hg]
theorem marks_next {t : Topo} {j : Nat} {l : Lnk} (h : t.ls[j]? = some l) (h0 : 0 ≤ l.g) (h1 : l.g ≤ 64) : (marks t j).setIfInBounds l.g.toNat (.bool true) = marks t (j + 1) := by
  apply Array.ext_getElem?
  intro g
  by_cases hg : g < 65
  · rw [marks_at t (j + 1) hg, usedK_next h]
    by_cases e : l.g.toNat = g
    · subst e
      rw [Array.getElem?_setIfInBounds_self_of_lt (by rw [marks_size]; exact hg)]
      have : (l.g == ((l.g.toNat : Nat) : Int)) = true := by simp; omega
      rw [this, Bool.or_true]
    · rw [Array.getElem?_setIfInBounds_ne e, marks_at t j hg]
      have : (l.g == ((g : Nat) : Int)) = false := by simp; omega
      rw [this, Bool.or_false]
  · rw [Array.getElem?_eq_none (by simp [marks_size]; omega), Array.getElem?_eq_none (by rw [marks_size]; omega)]
theorem compInfo : (Tryd.prog.info? 136).map (fun i => (i.zero, i.size, i.bytes)) = some (some (.agg #[.int .i64 0, .int .i64 0]), 2, 16) := by kernel_rfl

/-- The cells of a slice of pairs. -/
def RdP (w : World) (A : Option Addr) (l : List (Int × Int)) : Prop :=
  l = [] ∨ ∃ b o, A = some ⟨b, o, none⟩ ∧ ∀ (k : Nat) (p : Int × Int), l[k]? = some p → w.cell? ⟨b, o + k * 2, none⟩ = some (.int .i64 p.1) ∧ w.cell? ⟨b, o + k * 2 + 1, none⟩ = some (.int .i64 p.2)
theorem RdP.below {w w' : World} {A : Option Addr} {l : List (Int × Int)} (h : RdP w A l) (hb : Below w.heap.size w w') : RdP w' A l := by
  rcases h with rfl | ⟨b, o, rfl, hc⟩
  · exact .inl rfl
  · exact .inr ⟨b, o, rfl, fun k p hp => ⟨cell_up hb (hc k p hp).1, cell_up hb (hc k p hp).2⟩⟩
theorem RdP.at_ {w : World} {A : Option Addr} {l : List (Int × Int)} {k : Nat} (h : RdP w A l) (hk : k < l.length) : ∃ b o p, A = some ⟨b, o, none⟩ ∧ l.drop k = p :: l.drop (k + 1) ∧ w.cell? ⟨b, o + k * 2, none⟩ = some (.int .i64 p.1) ∧ w.cell? ⟨b, o + k * 2 + 1, none⟩ = some (.int .i64 p.2) := by
  rcases h with rfl | ⟨b, o, rfl, hc⟩
  · simp at hk
  · exact ⟨b, o, l[k], rfl, List.drop_eq_getElem_cons hk, (hc k _ (List.getElem?_eq_getElem hk)).1, (hc k _ (List.getElem?_eq_getElem hk)).2⟩

/-- A call that returns a list of pairs; nothing that was there has changed. -/
def RetPairs (w : World) (l : List (Int × Int)) (e : Ending) (w' : World) : Prop :=
  ∃ A c, e = .returned (.slice A l.length c) ∧ RdP w' A l ∧ Below w.heap.size w w'

theorem lt_of_heap' {w : World} {k : Nat} {o : Obj} (h : w.heap[k]? = some o) : k < w.heap.size := (Array.getElem?_eq_some_iff.1 h).1

theorem boolInfo : (Tryd.prog.info? 4).map (·.size) = some 1 := by kernel_rfl
theorem pcells_len (l : List (Int × Int)) : (pcells l).length = 2 * l.length := by
  induction l with
  | nil => rfl
  | cons p r ih => simp [pcells] at ih ⊢; omega
theorem pcells_at : ∀ (l : List (Int × Int)) (k : Nat) (p : Int × Int), l[k]? = some p → (pcells l)[k * 2]? = some (.int .i64 p.1) ∧ (pcells l)[k * 2 + 1]? = some (.int .i64 p.2)
  | [], k, p, h => by simp at h
  | q :: r, 0, p, h => by simp at h; subst h; exact ⟨rfl, rfl⟩
  | q :: r, k + 1, p, h => by
    have ih := pcells_at r k p (by simpa using h)
    rw [show (k + 1) * 2 = k * 2 + 1 + 1 by omega]
    exact ih
theorem retPairs_of {w w' : World} {base : Nat} {E : TypeId} {v : Value} {n : Nat} {l l' : List (Int × Int)} (hl : l' = l) (h : w'.ownsRow base E 2 v n (pcells l)) (hb : Below w.heap.size w w') : RetPairs w l' (.returned v) w' := by
  subst hl
  have hn : n = l'.length := by have := h.1; rw [pcells_len] at this; omega
  subst hn
  rcases h.2 with ⟨rfl, h0⟩ | ⟨g, cap, cur, rfl, _⟩
  · have : l' = [] := List.eq_nil_of_length_eq_zero h0
    subst this
    exact ⟨none, 0, rfl, .inl rfl, hb⟩
  · refine ⟨some ⟨g, 0, none⟩, cap, rfl, .inr ⟨g, 0, rfl, fun k p hp => ?_⟩, hb⟩
    have hk : k < l'.length := (List.getElem?_eq_some_iff.1 hp).1
    obtain ⟨e1, e2⟩ := pcells_at l' k p hp
    constructor
    · rw [Nat.zero_add, h.cellAt (k * 2) (by omega)]; exact e1
    · rw [Nat.zero_add, h.cellAt (k * 2 + 1) (by omega)]; exact e2
theorem own_setC {w : World} {B : Nat} {E : TypeId} {size : Nat} {v : Value} {n : Nat} {xs : List Value} {g j : Nat} (h : w.ownsRow B E size v n xs) (hne : v.ownBlock ≠ some g) (u : Value) : (w.setCell ⟨g, j, none⟩ u).ownsRow B E size v n xs := by
  rcases h with ⟨hl, h0 | ⟨g', cap, cur, rfl, hB, hg, rest⟩⟩
  · exact ⟨hl, .inl h0⟩
  · refine ⟨hl, .inr ⟨g', cap, cur, rfl, hB, ?_, rest⟩⟩
    rw [Below.heap_setCell w ⟨g, j, none⟩ u g' (by simpa [Value.ownBlock] using hne)]
    exact hg
theorem cell_two_at (w : World) (x y : Value) (t : TypeId) (g : Nat) (hg : w.heap.size = g) : ∀ j u, [x, y][j]? = some u → (w.alloc (.cells #[x, y] t)).cell? ((⟨g, 0, none⟩ : Addr).add j) = some u := by
  subst hg; exact cell_two_new w x y t

end Go.Proofs.YtjcnjnonhncelaaDoor
