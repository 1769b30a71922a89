/-
  From 'the arguments read as data' to what the walks ask: segments and lists of segments.
-/
import Derived.Test.YtdjgpjejidajlaaDoorOpen
import Derived.Test.YtdjgpjejidajlaaDoorEnds
namespace Go.Proofs.YtdjgpjejidajlaaDoor
open Go.ChangeShapes Go.WideShapes Go.ChangeAt Go.RowKit Go.Deep Go.Joins Go.OpenShut

section
variable {H : Type} {enc : TypeId × Value → H} {w : World} {base : Nat} {spare : Nat → Bool} {held : Bool}
def pairCells (p : Int × Int) : List Value := [.int .i64 p.1, .int .i64 p.2]
def PairIn (p : Int × Int) : Prop := I64 p.1 ∧ I64 p.2
theorem cellsS : Tryd.prog.cellsOf 23 = 2 := by kernel_rfl
set_option maxRecDepth 100000 in
theorem trod_seg {n : Nat} {cs : List Value} {y : DataW H × List MemPlace} (h : DataW.trod enc Tryd.prog w base spare held n 23 cs = some y) : ∃ p : Int × Int, cs = pairCells p ∧ PairIn p := by
  obtain ⟨ys, m, _, _, hl, hyl, hf⟩ := DataW.trod_struct Tryd.underlying23 h
  rw [cellsS] at hl
  match cs, hl with
  | [v0, v1], _ =>
    have f0 := hf 0 _ rfl
    simp [cells1] at f0
    have f1 := hf 1 _ rfl
    simp [cells1] at f1
    match ys, hyl with
    | [y0, y1], _ =>
      obtain ⟨a, e0, _, wa⟩ := DataW.trod_int Tryd.underlying3 f0
      obtain ⟨b, e1, _, wb⟩ := DataW.trod_int Tryd.underlying3 f1
      simp only [List.cons.injEq, and_true] at e0 e1
      subst e0 e1
      exact ⟨(a, b), rfl, wf64 wa, wf64 wb⟩
set_option maxRecDepth 100000 in
/-- A segment that came in. -/
theorem open_seg {r : Reach} {b0 : Nat} {v : Value} {d : DataW H} {p : List MemPlace} (hv : Value.okWide Tryd.prog w r b0 23 v) (h : DataW.Trod enc Tryd.prog w base spare held 23 v d p) :
    ∃ k m : Int, v = .agg #[.int .i64 k, .int .i64 m] ∧ I64 k ∧ I64 m := by
  obtain ⟨v0, v1, y0, y1, n, rfl, _, _, h0, h1⟩ := open_agg2 Tryd.underlying23 (by kernel_rfl) cellsS hv h
  obtain ⟨a, e0, _, wa⟩ := DataW.trod_int Tryd.underlying3 h0
  obtain ⟨b, e1, _, wb⟩ := DataW.trod_int Tryd.underlying3 h1
  simp only [List.cons.injEq, and_true] at e0 e1
  subst e0 e1
  exact ⟨a, b, rfl, wf64 wa, wf64 wb⟩
set_option maxRecDepth 100000 in
/-- A list of segments that came in. -/
theorem open_segs {r : Reach} {b0 : Nat} {v : Value} {d : DataW H} {p : List MemPlace} (hv : Value.okWide Tryd.prog w r b0 31 v) (h : DataW.Trod enc Tryd.prog w base spare held 31 v d p) :
    ∃ (A : Option Addr) (cap : Nat) (l : List (Int × Int)), v = .slice A l.length cap ∧ l.length ≤ cap ∧ cap ≤ maxLen ∧ (∀ p ∈ l, PairIn p) ∧ RdP w A l := by
  obtain ⟨A, l, c, rfl⟩ := okWide_slice Tryd.underlying31 hv
  obtain ⟨fuel, hf⟩ := h
  obtain ⟨A', cap, zs, hcs, _, hg, hlc, hcm, hc⟩ := open_list (α := Int × Int) pairCells PairIn Tryd.underlying31 cellsS (by omega) (fun n cs y hy => trod_seg hy) hf
  simp only [Value.cells, List.cons.injEq, Value.slice.injEq, and_true] at hcs
  obtain ⟨rfl, rfl, rfl⟩ := hcs
  refine ⟨A, c, zs, rfl, hlc, hcm, hg, ?_⟩
  rcases hc with rfl | ⟨b, o, rfl, hc⟩
  · exact .inl rfl
  · exact .inr ⟨b, o, rfl, fun k p hp => ⟨by simpa using hc k p hp 0 _ rfl, hc k p hp 1 _ rfl⟩⟩
end

end Go.Proofs.YtdjgpjejidajlaaDoor
