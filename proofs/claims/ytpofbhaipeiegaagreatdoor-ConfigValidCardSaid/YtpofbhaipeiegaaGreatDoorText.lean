/-
  Contracts of topology.line and topology.Text: the text of a topology.
-/
import Derived.Test.YtpofbhaipeiegaaGreatDoorBuilder
import Derived.Test.YtpofbhaipeiegaaGreatDoorShelf
import Derived.Test.YtpofbhaipeiegaaGreatDoorValid
import Derived.Lib.ItoaLen
import Derived.Lib.AppendIntMem
namespace Go.Proofs.YtpofbhaipeiegaaGreatDoor
open Go.RowKit Go.Sort Go.Shelf

abbrev Tab (B : Nat) (w : World) : Prop := Lib.TabBelow Tryz.prog B w "internal/strconv.uint64pow10" .u64 Lib.pow10Tab

theorem tab_up {B B' : Nat} {w w' : World} (h : Tab B w) (hb : Below B w w') (hB : B ≤ B') : Tab B' w' := fun w'' h'' => h w'' (hb.trans (h''.mono hB))

theorem strconv_Itoa (n : Int) (h0 : -9223372036854775808 ≤ n) (h1 : n ≤ 9223372036854775807) (B : Nat) (w : World) (ht : Tab B w) :
    Calls Tryz.prog 48 #[.int .i64 n] w fun e w' => e = .returned (.string ⟨(Lib.itoa n).toArray⟩) ∧ Below w.heap.size w w' := by
  refine (Tryz.strconv_Itoa n h0 h1 w ht.here).mono ?_
  rintro e w' ⟨rfl, k, os, rfl⟩
  exact ⟨rfl, Lib.below_grow _ w (Nat.le_refl _) k os⟩

theorem IsBuilder.up {T e : TypeId} {B b : Nat} {bs : List Value} {w w' : World} (h : Lib.IsBuilder T e B b bs w) (hb : Below w.heap.size w w') : Lib.IsBuilder T e B b bs w' := by
  have hg : w.grownBy w' none := ⟨hb.os, hb.tape, hb.output, hb.size, fun i hi _ => hb.block i hi⟩
  rcases h with ⟨hB, v, hv, ho, hn⟩ | ⟨hB, v, hv, ho, hn⟩
  · exact .inl ⟨hB, v, (hb.block b (lt_of_heap hv)).trans hv, ho.kept hg (Classical.em _), hn⟩
  · exact .inr ⟨hB, v, (hb.block b (lt_of_heap hv)).trans hv, ho.kept hg (Classical.em _), hn⟩

theorem bc_str (l : List UInt8) (s : ByteArray) : Lib.byteCells l ++ Lib.strCells s = Lib.byteCells (l ++ s.data.toList) := by rw [Lib.strCells_eq, Lib.byteCells_append]
theorem bc_one (l : List UInt8) (c : UInt8) : Lib.byteCells l ++ [.int .u8 (c.toNat : Int)] = Lib.byteCells (l ++ [c]) := by rw [Lib.byteCells_append]; rfl

/-- The numbers of a line: a space before each. -/
def nums (xs : List Int) : List UInt8 := xs.flatMap fun n => 32 :: Lib.itoa n
theorem nums_snoc {xs : List Int} {k : Nat} {x : Int} (h : xs[k]? = some x) : nums (xs.take (k + 1)) = nums (xs.take k) ++ [32] ++ Lib.itoa x := by
  obtain ⟨hk, rfl⟩ := List.getElem?_eq_some_iff.1 h
  unfold nums
  rw [List.take_succ_eq_append_getElem hk, List.flatMap_append]
  simp
theorem nums_len {xs : List Int} (h : ∀ x ∈ xs, -9223372036854775808 ≤ x ∧ x ≤ 9223372036854775807) : (nums xs).length ≤ 22 * xs.length := by
  induction xs with
  | nil => simp [nums]
  | cons x xs ih =>
    have h1 := Lib.itoa_length_le x (h x (by simp)).1 (h x (by simp)).2
    have h2 := ih (fun y hy => h y (by simp [hy]))
    simp only [nums, List.flatMap_cons, List.length_append, List.length_cons] at h2 ⊢
    omega

def sNodes : List UInt8 := [110, 111, 100, 101, 115]
def sOverload : List UInt8 := [111, 118, 101, 114, 108, 111, 97, 100]
def sLink : List UInt8 := [108, 105, 110, 107]
def lineT (s : List UInt8) (xs : List Int) : List UInt8 := s ++ nums xs ++ [10]
def lnkNums (l : Lnk) : List Int := [l.a, l.b, l.c0, l.c1, l.cap, l.dl, l.g]
def ovOne (ov : List Bool) (i : Nat) : List UInt8 := if ov.getD i false = true then lineT sOverload [(i : Int)] else []
def ovK (ov : List Bool) (k : Nat) : List UInt8 := (List.range k).flatMap (ovOne ov)
def lkK (ls : List Lnk) (k : Nat) : List UInt8 := (ls.take k).flatMap fun l => lineT sLink (lnkNums l)
/-- The text of a topology that is valid. -/
def textOf (t : Topo) : List UInt8 := lineT sNodes [t.n] ++ ovK t.ov t.ov.length ++ lkK t.ls t.ls.length
def textV (t : Topo) : List UInt8 := if valid t = true then textOf t else []

theorem lineT_len {s : List UInt8} {xs : List Int} (h : ∀ x ∈ xs, -9223372036854775808 ≤ x ∧ x ≤ 9223372036854775807) : (lineT s xs).length ≤ s.length + 22 * xs.length + 1 := by
  have := nums_len h
  simp only [lineT, List.length_append, List.length_cons, List.length_nil]
  omega
theorem ovK_succ (ov : List Bool) (k : Nat) : ovK ov (k + 1) = ovK ov k ++ ovOne ov k := by simp [ovK, List.range_succ]
theorem lkK_succ {ls : List Lnk} {k : Nat} {l : Lnk} (h : ls[k]? = some l) : lkK ls (k + 1) = lkK ls k ++ lineT sLink (lnkNums l) := by
  obtain ⟨hk, rfl⟩ := List.getElem?_eq_some_iff.1 h
  unfold lkK
  rw [List.take_succ_eq_append_getElem hk, List.flatMap_append]
  simp
theorem ovOne_len (ov : List Bool) (k : Nat) (hk : k ≤ 1000000) : (ovOne ov k).length ≤ 40 := by
  unfold ovOne
  split
  · have := lineT_len (s := sOverload) (xs := [(k : Int)]) (by intro x hx; simp at hx; subst hx; omega)
    simp [sOverload] at this ⊢; omega
  · simp
theorem ovK_len (ov : List Bool) : ∀ k, k ≤ 1000000 → (ovK ov k).length ≤ 40 * k
  | 0, _ => by simp [ovK]
  | k + 1, h => by
    rw [ovK_succ, List.length_append]
    have := ovK_len ov k (by omega)
    have := ovOne_len ov k (by omega)
    omega
theorem lnkNums_bd {n : Int} {l : Lnk} (hn : n ≤ 64) (h : lnkOk n l = true) : ∀ x ∈ lnkNums l, -9223372036854775808 ≤ x ∧ x ≤ 9223372036854775807 := by
  have := lnk_bd h
  intro x hx
  simp only [lnkNums, List.mem_cons, List.not_mem_nil, or_false] at hx
  omega
theorem lkK_len {t : Topo} (hv : valid t = true) : ∀ k, k ≤ t.ls.length → (lkK t.ls k).length ≤ 160 * k
  | 0, _ => by simp [lkK]
  | k + 1, h => by
    have hl : t.ls[k]? = some t.ls[k] := List.getElem?_eq_getElem (by omega)
    rw [lkK_succ hl, List.length_append]
    have := lkK_len hv k (by omega)
    have := lineT_len (s := sLink) (lnkNums_bd (valid_n hv).2 (valid_lnk hv hl))
    simp [sLink, lnkNums] at this ⊢
    omega

theorem new_blk (w : World) (cs : Array Value) (t : TypeId) (g : Nat) (h : g = w.heap.size) : (w.alloc (.cells cs t)).heap[g]? = some (.cells cs t (0, 0)) := by subst h; exact heap_alloc_new w _
theorem strB (l : List UInt8) : (ByteArray.mk l.toArray).data.toList = l := rfl

end Go.Proofs.YtpofbhaipeiegaaGreatDoor
