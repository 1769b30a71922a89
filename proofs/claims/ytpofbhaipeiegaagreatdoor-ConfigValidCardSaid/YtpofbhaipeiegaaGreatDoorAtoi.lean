/-
  strconv.Atoi at short strings: what it returns. The two cells of a pair.
-/
import Derived.Test.YtpofbhaipeiegaaGreatDoorBase
import Derived.Test.YtpofbhaipeiegaaGreatDoorNum
import Derived.Test.YtpofbhaipeiegaaGreatDoorShelf
import Derived.Lib.AtoiErrMem
namespace Go.Proofs.YtpofbhaipeiegaaGreatDoor
open Go.RowKit Go.Sort

/-- The variables that strconv.Atoi reads where it fails. -/
def Errs (w : World) : Prop := (∃ tp p, w.var? Tryz.prog "strconv.ErrSyntax" = some #[.iface tp p]) ∧ ∃ tp p, w.var? Tryz.prog "strconv.ErrRange" = some #[.iface tp p]
theorem var_up {w w' : World} {name : String} {cs : Array Value} (h : w.var? Tryz.prog name = some cs) (hb : Below w.heap.size w w') : w'.var? Tryz.prog name = some cs := by
  unfold World.var? at h ⊢
  cases hg : Tryz.prog.globalNamed name with
  | none => rw [hg] at h; simp at h
  | some g =>
    rw [hg] at h
    simp only [Option.bind_some] at h ⊢
    cases ho : w.heap[g]? with
    | none => rw [ho] at h; simp at h
    | some o => rw [hb.block g (Array.getElem?_eq_some_iff.1 ho).1, ho]; rw [ho] at h; exact h
theorem Errs.up {w w' : World} (h : Errs w) (hb : Below w.heap.size w w') : Errs w' := by
  obtain ⟨⟨t1, p1, h1⟩, t2, p2, h2⟩ := h
  exact ⟨⟨t1, p1, var_up h1 hb⟩, t2, p2, var_up h2 hb⟩

theorem atoi_ok (l : List UInt8) (v : Int) (h : Lib.atoiAll l = .ok v) (hl : l.length ≤ 1000000) (w : World) :
    Calls Tryz.prog 115 #[.string ⟨l.toArray⟩] w fun e w' => e = .returned (.tuple #[.int .i64 v, .nilIface]) ∧ Below w.heap.size w w' := by
  refine (Tryz.strconv_Atoi_ok ⟨l.toArray⟩ (by simp [ByteArray.size]; omega) v (by simpa using h) w).mono ?_
  rintro e w' ⟨rfl, rfl | ⟨t, rfl⟩⟩
  · exact ⟨rfl, Below.refl _ _⟩
  · exact ⟨rfl, Lib.bytesWorld_below _ _ _⟩
theorem atoi_bad (l : List UInt8) (h : ∀ v, Lib.atoiAll l ≠ .ok v) (hl : l.length ≤ 1000000) (w : World) (hE : Errs w) :
    Calls Tryz.prog 115 #[.string ⟨l.toArray⟩] w fun e w' => ∃ n t p, e = .returned (.tuple #[.int .i64 n, .iface t p]) ∧ Below w.heap.size w w' := by
  obtain ⟨⟨t1, p1, h1⟩, t2, p2, h2⟩ := hE
  cases ha : Lib.atoiAll l with
  | ok v => exact absurd ha (h v)
  | «syntax» =>
    refine (Tryz.strconv_Atoi_syntax_var ⟨l.toArray⟩ (by simp [ByteArray.size]; omega) (by simpa using ha) t1 p1 w h1).mono ?_
    rintro e w' ⟨N, rfl, _, _, hb⟩
    exact ⟨_, _, _, rfl, hb⟩
  | range =>
    refine (Tryz.strconv_Atoi_range_var ⟨l.toArray⟩ (by simp [ByteArray.size]; omega) (by simpa using ha) t2 p2 w h2).mono ?_
    rintro e w' ⟨N, rfl, _, _, hb⟩
    exact ⟨_, _, _, rfl, hb⟩

theorem box_set {W : World} {B : Nat} {a b x y : Value} {T : TypeId} (h : W.heap[B]? = some (.cells #[a, b] T (0, 0))) : ((W.setCell ⟨B, 0, none⟩ x).setCell ⟨B, 1, none⟩ y).heap[B]? = some (.cells #[x, y] T (0, 0)) :=
  heap_setCell_same _ _ _ _ _ _ (heap_setCell_same _ _ _ _ _ _ h)
theorem below_set2 {B : Nat} {w W : World} (h : Below B w W) (x y : Value) : Below B w ((W.setCell ⟨B, 0, none⟩ x).setCell ⟨B, 1, none⟩ y) := (h.setCell (Nat.le_refl _) _).setCell (Nat.le_refl _) _

end Go.Proofs.YtpofbhaipeiegaaGreatDoor
