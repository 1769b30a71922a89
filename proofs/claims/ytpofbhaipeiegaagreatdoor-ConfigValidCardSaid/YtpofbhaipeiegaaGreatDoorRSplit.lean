/-
  waypointref09.Split: what it returns.
-/
import Derived.Test.YtpofbhaipeiegaaGreatDoorOut
import Derived.Test.YtpofbhaipeiegaaGreatDoorSplit
import Derived.Maps.AppendAt
namespace Go.Proofs.YtpofbhaipeiegaaGreatDoor
open Go.RowKit Go.Sort

theorem split_app {c : UInt8} {t : List UInt8} (ht : c ∉ t) : ∀ (n : Nat) (s : List UInt8), s.length ≤ n → ∀ out cur, splitK c [] s = out ++ [cur] → splitK c [] (s ++ t) = out ++ [cur ++ t] := by
  intro n
  induction n with
  | zero =>
    intro s hs out cur h
    obtain rfl : s = [] := List.eq_nil_of_length_eq_zero (by omega)
    rw [show splitK c [] [] = [] ++ [[]] from rfl] at h
    obtain ⟨h1, h2⟩ := List.append_inj' h rfl
    injection h2 with h2
    rw [← h1, ← h2, List.nil_append, splitK_miss ht]
    rfl
  | succ n ih =>
    intro s hs out cur h
    by_cases hc : c ∈ s
    · obtain ⟨x, y, rfl, hx⟩ := indexByte_some hc
      rw [splitK_hit hx] at h
      have hy : y.length ≤ n := by simp at hs; omega
      cases out with
      | nil =>
        simp only [List.nil_append] at h
        injection h with _ h
        exact absurd h (splitK_ne _ _ _)
      | cons o r =>
        rw [List.cons_append] at h
        injection h with h1 h2
        rw [List.append_assoc, List.cons_append, splitK_hit hx, ih y hy r cur h2, h1]
        rfl
    · rw [splitK_miss hc, show [s] = [] ++ [s] from rfl] at h
      obtain ⟨h1, h2⟩ := List.append_inj' h rfl
      injection h2 with h2
      rw [← h1, ← h2, splitK_miss (by simp [hc, ht])]
      rfl
theorem split_endc {c : UInt8} (s : List UInt8) : splitK c [] (s ++ [c]) = splitK c [] s ++ [[]] := by
  induction s with
  | nil => simp [splitK]
  | cons x r ih =>
    by_cases h : x = c
    · subst h
      rw [List.cons_append, splitK, if_pos rfl, ih, splitK, if_pos rfl, List.cons_append]
    · rw [List.cons_append, splitK_cons h, splitK_cons h, ih]
      cases hs : splitK c [] r with
      | nil => exact absurd hs (splitK_ne _ _ _)
      | cons p ps => rfl
theorem split_last (c : UInt8) (s : List UInt8) : ∃ out cur, splitK c [] s = out ++ [cur] :=
  ⟨_, _, (List.dropLast_concat_getLast (splitK_ne c [] s)).symm⟩

def strW (l : List UInt8) : Value := .string ⟨l.toArray⟩
theorem strInfo' : (Tryz.prog.info? 9).map (fun i => (i.zero, i.size, i.bytes)) = some (some (.string ⟨#[]⟩), 1, 16) := by kernel_rfl
/-- One append of a value of one cell. -/
theorem own_add' {B : Nat} {E : TypeId} {wr w1 : World} {v : Value} {xs : List Value} {o : Obj} {n : Nat} (hown : wr.ownsRow B E 1 v n xs) (hB : B ≤ wr.heap.size)
    (hg : (wr.alloc o).grownBy w1 v.ownBlock) : Below B wr w1 :=
  ((Below.refl B wr).alloc hB o).grown hg (by simp; omega) (fun k hk => (hown.lt k hk).1)
theorem ext_mid {s q cur : List UInt8} {i : Nat} (h : s.take i = q ++ cur) (hi : i ≤ s.length) : (⟨s.toArray⟩ : ByteArray).extract q.length i = ⟨cur.toArray⟩ := by
  have hs : s = q ++ cur ++ s.drop i := by rw [← h]; exact (List.take_append_drop i s).symm
  have hl : i = (q ++ cur).length := by rw [← h, List.length_take]; omega
  apply ByteArray.ext
  simp only [ByteArray.data_extract]
  rw [hs, hl]
  simp

/-- A call that returns a list of strings and a bool. -/
def RetSB (w : World) (ws : List (List UInt8)) (b : Bool) (e : Ending) (w' : World) : Prop :=
  ∃ A c, e = .returned (.tuple #[.slice A ws.length c, .bool b]) ∧ ws.length ≤ c ∧ c ≤ maxLen ∧ Rd w' A (ws.map strW) ∧ Below w.heap.size w w'

/-- The same, and the list's block is a new one. -/
def RetSBF (w : World) (ws : List (List UInt8)) (b : Bool) (e : Ending) (w' : World) : Prop :=
  ∃ A c, e = .returned (.tuple #[.slice A ws.length c, .bool b]) ∧ ws.length ≤ c ∧ c ≤ maxLen ∧ Rd w' A (ws.map strW) ∧ Below w.heap.size w w' ∧ ∀ a, A = some a → w.heap.size ≤ a.block

end Go.Proofs.YtpofbhaipeiegaaGreatDoor
