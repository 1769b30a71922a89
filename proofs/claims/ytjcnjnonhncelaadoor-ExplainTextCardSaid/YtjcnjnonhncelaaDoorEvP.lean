/-
  The names in traces and the text of an event, in plain Lean; bounds of valid events.
-/
import Derived.Test.YtjcnjnonhncelaaDoorEvent
import Derived.Lib.ItoaLen
namespace Go.Proofs.YtjcnjnonhncelaaDoor
open Go.RowKit Go.Sort

def strU (l : List UInt8) : Value := .string ⟨l.toArray⟩
/-- A call that returns a new list of strings. -/
def RetStrs (w : World) (l : List (List UInt8)) (e : Ending) (w' : World) : Prop :=
  e = .returned (.slice (some ⟨w.heap.size, 0, none⟩) l.length l.length) ∧ (∀ (i : Nat) (x : List UInt8), l[i]? = some x → w'.cell? ⟨w.heap.size, i, none⟩ = some (.string ⟨x.toArray⟩)) ∧ Below w.heap.size w w'
theorem strs_cell (W : World) (l : List (List UInt8)) (i : Nat) (x : List UInt8) (h : l[i]? = some x) : (W.alloc (.cells (l.map strU).toArray 9)).cell? ⟨W.heap.size, i, none⟩ = some (.string ⟨x.toArray⟩) := by
  rw [Lib.cell_of_heap (heap_alloc_new W _), List.getElem?_toArray, List.getElem?_map, h]
  rfl

def verbsL : List (List UInt8) := [[], [115, 101, 110, 116], [102, 111, 114, 119, 97, 114, 100, 101, 100], [100, 101, 108, 105, 118, 101, 114, 101, 100], [100, 114, 111, 112, 112, 101, 100], [100, 111, 119, 110], [117, 112], [100, 101, 116, 101, 99, 116, 101, 100], [115, 116, 97, 116, 101], [102, 108, 111, 111, 100, 101, 100]]
def reasonsL : List (List UInt8) := [[], [110, 111, 114, 111, 117, 116, 101], [97, 114, 99], [100, 111, 119, 110], [104, 111, 112, 115], [115, 116, 97, 99, 107], [113, 117, 101, 117, 101], [108, 111, 115, 116], [110, 111, 100, 101]]
def componentsL : List (List UInt8) := [[], [108, 105, 110, 107], [110, 111, 100, 101], [103, 114, 111, 117, 112]]
def changesL : List (List UInt8) := [[], [100, 111, 119, 110], [117, 112]]
def statesL : List (List UInt8) := [[111, 108, 100], [114, 101, 112, 97, 105, 114], [116, 114, 97, 110, 115, 105, 116, 105, 111, 110], [102, 105, 110, 97, 108]]
def nmL (l : List (List UInt8)) (i : Int) : List UInt8 := l.getD i.toNat []
theorem nmL_at {l : List (List UInt8)} {i : Int} {x : List UInt8} (h : l[i.toNat]? = some x) : nmL l i = x := by simp [nmL, List.getD_eq_getElem?_getD, h]
def evWs (e : Ev) : List (List UInt8) :=
  if e.k = 1 ∨ e.k = 3 then [nmL verbsL e.k, Lib.itoa e.n, Lib.itoa e.p]
  else if e.k = 2 then [nmL verbsL e.k, Lib.itoa e.n, Lib.itoa e.a, Lib.itoa e.p]
  else if e.k = 4 then [nmL verbsL e.k, Lib.itoa e.n, Lib.itoa e.p, nmL reasonsL e.r] ++ (if onArcB e.r = true then [Lib.itoa e.a] else [])
  else if e.k = 5 ∨ e.k = 6 then [nmL verbsL e.k, nmL componentsL e.a, Lib.itoa e.r]
  else if e.k = 7 then [nmL verbsL e.k, Lib.itoa e.n, Lib.itoa e.a, nmL changesL e.r]
  else if e.k = 8 then [nmL verbsL e.k, Lib.itoa e.n, nmL statesL e.r]
  else [nmL verbsL e.k, Lib.itoa e.n, Lib.itoa e.a]
def wsT (ws : List (List UInt8)) : List UInt8 := ws.flatMap fun x => 32 :: x
/-- The text of an event. -/
def evT (e : Ev) : List UInt8 := Lib.itoa e.t ++ wsT (evWs e)


theorem evOk_bd {e : Ev} (h : evOk e = true) : 0 ≤ e.t ∧ e.t ≤ 1073741824 ∧ 0 ≤ e.n ∧ e.n ≤ 63 ∧ 0 ≤ e.a ∧ e.a ≤ 511 ∧ 0 ≤ e.p ∧ e.p ≤ 1073741824 ∧ 0 ≤ e.r ∧ e.r ≤ 255 := by
  unfold evOk evK at h
  simp only [Bool.and_eq_true] at h
  obtain ⟨ht, h⟩ := h
  have ht := inR_true.1 ht
  repeat' split at h
  all_goals first | (exact absurd h (by decide)) | (simp only [Bool.and_eq_true, Bool.or_eq_true, beq_iff_eq, inR_true] at h; first | omega | (rcases h.2.2.2 with h4 | h4 <;> omega))
theorem evOk_4 {t n a p r : Int} (h : evOk ⟨t, 4, n, a, p, r⟩ = true) : 1 ≤ r ∧ r ≤ 8 := by
  simp [evOk, evK, inR_true] at h; omega
theorem evOk_5 {t n a p r : Int} (h : evOk ⟨t, 5, n, a, p, r⟩ = true) : 1 ≤ a ∧ a ≤ 3 := by
  simp [evOk, evK, inR_true] at h; omega
theorem evOk_6 {t n a p r : Int} (h : evOk ⟨t, 6, n, a, p, r⟩ = true) : 1 ≤ a ∧ a ≤ 3 := by
  simp [evOk, evK, inR_true] at h; omega
theorem evOk_7 {t n a p r : Int} (h : evOk ⟨t, 7, n, a, p, r⟩ = true) : 1 ≤ r ∧ r ≤ 2 := by
  simp [evOk, evK, inR_true] at h; omega
theorem evOk_8 {t n a p r : Int} (h : evOk ⟨t, 8, n, a, p, r⟩ = true) : 0 ≤ r ∧ r ≤ 3 := by
  simp [evOk, evK, inR_true] at h; omega
theorem nm_len (l : List (List UInt8)) (hl : l.all (fun x => decide (x.length ≤ 20)) = true) {i : Nat} {x : List UInt8} (h : l[i]? = some x) : x.length ≤ 20 := by
  have := List.all_eq_true.1 hl x (List.mem_of_getElem? h)
  simpa using this
theorem heap_drawn (w : World) : w.drew.heap = w.heap := rfl
theorem below_drawn (w : World) : Below w.heap.size w w.drew := (Below.refl _ _).drew

end Go.Proofs.YtjcnjnonhncelaaDoor
