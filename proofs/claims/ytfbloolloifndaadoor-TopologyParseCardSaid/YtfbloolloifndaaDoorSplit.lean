/-
  strings.SplitSeq and SplitAfterSeq at a separator of one byte: what the iterator yields.
-/
import Derived.Test.YtfbloolloifndaaDoorIter
import Derived.Test.YtfbloolloifndaaDoorShelf
import Derived.Test.YtfbloolloifndaaDoorNum
import Derived.Test.YtfbloolloifndaaDoorOut
namespace Go.Proofs.YtfbloolloifndaaDoor
open Go.RowKit Go.Shelf
attribute [local go_sem] Oper.semAt_some

/-- The parts of a text that a byte parts; each part but the last keeps kp. -/
def splitK (c : UInt8) (kp : List UInt8) : List UInt8 → List (List UInt8)
  | [] => [[]]
  | x :: r => if x = c then kp :: splitK c kp r else (match splitK c kp r with | [] => [[x]] | p :: ps => (x :: p) :: ps)
theorem splitK_ne (c : UInt8) (kp s : List UInt8) : splitK c kp s ≠ [] := by
  cases s with
  | nil => simp [splitK]
  | cons x r =>
    unfold splitK
    split
    · simp
    · split <;> simp
theorem splitK_miss {c : UInt8} {kp : List UInt8} : ∀ {s : List UInt8}, c ∉ s → splitK c kp s = [s]
  | [], _ => rfl
  | x :: r, h => by
    have h1 : ¬ x = c := fun e => h (by simp [e])
    have h2 : c ∉ r := fun e => h (by simp [e])
    unfold splitK
    rw [if_neg h1, splitK_miss h2]
theorem splitK_cons {c : UInt8} {kp : List UInt8} {x : UInt8} {r : List UInt8} (h : ¬ x = c) : splitK c kp (x :: r) = (match splitK c kp r with | [] => [[x]] | p :: ps => (x :: p) :: ps) := by rw [splitK, if_neg h]
theorem splitK_hit {c : UInt8} {kp y : List UInt8} : ∀ {x : List UInt8}, c ∉ x → splitK c kp (x ++ c :: y) = (x ++ kp) :: splitK c kp y
  | [], _ => by simp [splitK]
  | a :: r, h => by
    have h1 : ¬ a = c := fun e => h (by simp [e])
    have h2 : c ∉ r := fun e => h (by simp [e])
    rw [List.cons_append, splitK_cons h1, splitK_hit h2]
    rfl
theorem splitK_len (c : UInt8) (kp : List UInt8) : ∀ s, (splitK c kp s).length ≤ s.length + 1
  | [] => by simp [splitK]
  | x :: r => by
    have ih := splitK_len c kp r
    unfold splitK
    split
    · simp; omega
    · split
      · simp
      · rename_i p ps h
        rw [h] at ih
        simp at ih ⊢; omega
theorem ext_front (x y : List UInt8) : (⟨(x ++ y).toArray⟩ : ByteArray).extract 0 x.length = ⟨x.toArray⟩ := by
  apply ByteArray.ext
  simp [ByteArray.data_extract]
theorem ext_back (x y : List UInt8) : (⟨(x ++ y).toArray⟩ : ByteArray).extract x.length (x ++ y).length = ⟨y.toArray⟩ := by
  apply ByteArray.ext
  simp [ByteArray.data_extract]


theorem splitK_mem {c : UInt8} {x : List UInt8} : ∀ {s : List UInt8}, x ∈ splitK c [] s → x.length ≤ s.length
  | [], h => by simp [splitK] at h; simp [h]
  | a :: r, h => by
    by_cases e : a = c
    · rw [splitK, if_pos e] at h
      rcases List.mem_cons.1 h with rfl | h
      · simp
      · have := splitK_mem h; simp; omega
    · rw [splitK_cons e] at h
      cases hs : splitK c [] r with
      | nil => exact absurd hs (splitK_ne _ _ _)
      | cons p ps =>
        rw [hs] at h
        simp only at h
        rcases List.mem_cons.1 h with rfl | h
        · have := splitK_mem (x := p) (s := r) (c := c) (by rw [hs]; simp)
          simp; omega
        · have := splitK_mem (x := x) (s := r) (c := c) (by rw [hs]; simp [h])
          simp; omega
/-- Three blocks as they were. -/
def K3 (a b c : Nat) (W W' : World) : Prop := W'.heap[a]? = W.heap[a]? ∧ W'.heap[b]? = W.heap[b]? ∧ W'.heap[c]? = W.heap[c]?
theorem K3.trans {a b c : Nat} {X Y Z : World} (h : K3 a b c X Y) (g : K3 a b c Y Z) : K3 a b c X Z := ⟨g.1.trans h.1, g.2.1.trans h.2.1, g.2.2.trans h.2.2⟩
theorem K3.put {a b c B : Nat} (ha : a < B) (hb : b < B) (hc : c < B) (W : World) (l : Nat) (o' : Obj) (hl : B ≤ l) : K3 a b c W (W.putObj l o') :=
  ⟨World.putObj_heap_other (by omega), World.putObj_heap_other (by omega), World.putObj_heap_other (by omega)⟩
def strLen (w : World) (b : Nat) : Nat := match w.cell? ⟨b, 0, none⟩ with | some (.string x) => x.size | _ => 0
theorem strLen_of {w : World} {b : Nat} {t : TypeId} {l : List UInt8} (h : Boxed w b t (.string ⟨l.toArray⟩)) : strLen w b = l.length := by
  unfold strLen
  rw [h.cell]
  simp [ByteArray.size]
theorem drop_some {α : Type} {ps r : List α} {k : Nat} {x : α} (h : ps.drop k = x :: r) : ps[k]? = some x ∧ ps.drop (k + 1) = r := by
  constructor
  · have := congrArg (fun l => l[0]?) h
    simpa using this
  · rw [← List.drop_drop, h]; rfl
theorem drop_lt {c : UInt8} {kp : List UInt8} {ps : List (List UInt8)} {k : Nat} {y : List UInt8} (h : ps.drop k = splitK c kp y) : k ≤ ps.length := by
  by_cases hk : k ≤ ps.length
  · exact hk
  · rw [List.drop_of_length_le (by omega)] at h; exact absurd h.symm (splitK_ne c kp y)
theorem drop_one {α : Type} {ps : List α} {k : Nat} {x : α} (h : ps.drop k = [x]) : ps[k]? = some x ∧ ps.length = k + 1 := by
  refine ⟨(drop_some h).1, ?_⟩
  have := congrArg List.length h
  simp at this
  omega

end Go.Proofs.YtfbloolloifndaaDoor
