/-
  strings.Builder's copyCheck, WriteByte, WriteString over this program (the shelf's own contracts are not laid here: copyCheck's panic is refused by the loader). The walks follow the library's Derived/Shelf/Strings/Builder1, turned to this program; new is 'KeepT': blocks of other element types stay as they were.
-/
import Derived.Test.YtibennndjfhieaaDoorBase
import Derived.Lib.Strings
import Derived.Lib.Slices
import Derived.Lib.Walk
import Derived.Lib.Builder
import Derived.Lib.AppendStr
import Derived.Lib.UnsafeStr
import Derived.Laws.Externs
import Derived.Shelf.Abstract
namespace Go.Proofs.YtibennndjfhieaaDoor
open Go.RowKit Go.Sort Go.Shelf

/-- Every block of cells whose element type is neither T nor e is as it was. -/
def KeepT (T e : TypeId) (w w' : World) : Prop :=
  ∀ (k : Nat) (cs : Array Value) (t : TypeId) (fr : Nat × Nat), w.heap[k]? = some (Obj.cells cs t fr) → t ≠ T → t ≠ e → w'.heap[k]? = some (Obj.cells cs t fr)

theorem KeepT.refl (T e : TypeId) (w : World) : KeepT T e w w := fun _ _ _ _ h _ _ => h
theorem KeepT.trans {T e : TypeId} {a b c : World} (h : KeepT T e a b) (g : KeepT T e b c) : KeepT T e a c := fun k cs t fr hk h1 h2 => g k cs t fr (h k cs t fr hk h1 h2) h1 h2
theorem lt_of_heap {w : World} {k : Nat} {o : Obj} (h : w.heap[k]? = some o) : k < w.heap.size := by
  rcases Nat.lt_or_ge k w.heap.size with h' | h'
  · exact h'
  · rw [Array.getElem?_eq_none h'] at h; cases h
theorem KeepT.of_below {T e : TypeId} {w w' : World} (h : Below w.heap.size w w') : KeepT T e w w' := fun k _ _ _ hk _ _ => (h.block k (lt_of_heap hk)).trans hk
theorem KeepT.setCell {T e : TypeId} {w : World} {b j : Nat} {cs0 : Array Value} {fr0 : Nat × Nat} (hb : w.heap[b]? = some (.cells cs0 T fr0)) (u : Value) : KeepT T e w (w.setCell ⟨b, j, none⟩ u) := by
  intro k cs t fr hk h1 _
  by_cases hkb : k = b
  · subst hkb; rw [hb] at hk; injection hk with hk; injection hk with _ h _; exact absurd h.symm h1
  · rw [Below.heap_setCell _ _ _ _ hkb]; exact hk
theorem KeepT.grown {T e : TypeId} {w w' : World} {v : Value} {n : Nat} {xs : List Value} {B : Nat} (hown : w.ownsRow B e 1 v n xs) (hg : w.grownBy w' v.ownBlock) : KeepT T e w w' := by
  intro k cs t fr hk _ h2
  refine (hg.block k (lt_of_heap hk) ?_).trans hk
  intro e'
  rcases hown.2 with ⟨rfl, _⟩ | ⟨g, cap, cur, rfl, _, hg', _⟩
  · simp [Value.ownBlock] at e'
  · simp only [Value.ownBlock, Option.some.injEq] at e'
    subst e'
    rw [hg'] at hk; injection hk with hk; injection hk with _ h _; exact absurd h.symm h2

theorem byteInfo : (Tryd.prog.info? 5).map (fun i => (i.zero, i.size, i.bytes)) = some (some (.int .u8 0), 1, 1) := by kernel_rfl

end Go.Proofs.YtibennndjfhieaaDoor
