/-
  From 'the arguments read as data' to what the walks ask: an array of three components.
-/
import Derived.Test.YtibennndjfhieaaDoorOpenComp
namespace Go.Proofs.YtibennndjfhieaaDoor
open Go.ChangeShapes Go.WideShapes Go.ChangeAt Go.RowKit Go.Deep Go.Joins Go.OpenShut

section
variable {H : Type} {enc : TypeId × Value → H} {w : World} {base : Nat} {spare : Nat → Bool} {held : Bool}
theorem cellsC3 : Tryd.prog.cellsOf 44 = 6 := by kernel_rfl
theorem okWide_arr {P : Program} {r : Reach} {b0 : Nat} {t e : TypeId} {n : Nat} {v : Value} (ht : P.underlying t = some (.array n e)) (h : Value.okWide P w r b0 t v) : ∃ cs, v = .agg cs ∧ cs.size = P.cellsOf t := by
  simp only [Value.okWide, ht] at h
  obtain ⟨cs, h1, h2, _⟩ := h
  exact ⟨cs, h1, h2⟩
set_option maxRecDepth 100000 in
/-- Three components that came in. -/
theorem open_comp3 {r : Reach} {b0 : Nat} {v : Value} {d : DataW H} {p : List MemPlace} (hv : Value.okWide Tryd.prog w r b0 44 v) (h : DataW.Trod enc Tryd.prog w base spare held 44 v d p) :
    ∃ k0 m0 k1 m1 k2 m2 : Int, v = .agg #[.int .i64 k0, .int .i64 m0, .int .i64 k1, .int .i64 m1, .int .i64 k2, .int .i64 m2] := by
  obtain ⟨cs, rfl, hsz⟩ := okWide_arr Tryd.underlying44 hv
  rw [cellsC3] at hsz
  obtain ⟨fuel, hf⟩ := h
  obtain ⟨xs, m, _, _, _, hxl, hx⟩ := DataW.trod_array Tryd.underlying44 hf
  obtain ⟨l⟩ := cs
  match l, hsz with
  | [v0, v1, v2, v3, v4, v5], _ =>
    match xs, hxl with
    | [x0, x1, x2], _ =>
      have f0 := hx 0 (by omega)
      have f1 := hx 1 (by omega)
      have f2 := hx 2 (by omega)
      simp [cellsC, Value.cells] at f0 f1 f2
      obtain ⟨p0, e0, _⟩ := trod_comp f0
      obtain ⟨p1, e1, _⟩ := trod_comp f1
      obtain ⟨p2, e2, _⟩ := trod_comp f2
      simp only [pairCells, List.cons.injEq, and_true] at e0 e1 e2
      obtain ⟨rfl, rfl⟩ := e0
      obtain ⟨rfl, rfl⟩ := e1
      obtain ⟨rfl, rfl⟩ := e2
      exact ⟨_, _, _, _, _, _, rfl⟩
end

end Go.Proofs.YtibennndjfhieaaDoor
