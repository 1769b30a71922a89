/-
  From 'the arguments read as data' to what the walks ask: lists of events.
-/
import Derived.Test.YtjcnjnonhncelaaDoorOpen
import Derived.Test.YtjcnjnonhncelaaDoorEvs
namespace Go.Proofs.YtjcnjnonhncelaaDoor
open Go.ChangeShapes Go.WideShapes Go.ChangeAt Go.RowKit Go.Deep Go.Joins Go.OpenShut

section
variable {H : Type} {enc : TypeId × Value → H} {w : World} {base : Nat} {spare : Nat → Bool} {held : Bool}
def EvIn (e : Ev) : Prop := I64 e.t ∧ I64 e.k ∧ I64 e.n ∧ I64 e.a ∧ I64 e.p ∧ I64 e.r
theorem cellsEv : Tryd.prog.cellsOf 40 = 6 := by kernel_rfl
set_option maxRecDepth 100000 in
theorem trod_ev {n : Nat} {cs : List Value} {y : DataW H × List MemPlace} (h : DataW.trod enc Tryd.prog w base spare held n 40 cs = some y) : ∃ e : Ev, cs = evV e ∧ EvIn e := by
  obtain ⟨ys, m, _, _, hl, hyl, hf⟩ := DataW.trod_struct Tryd.underlying40 h
  rw [cellsEv] at hl
  match cs, hl with
  | [v0, v1, v2, v3, v4, v5], _ =>
    have f0 := hf 0 _ rfl
    simp [cells1] at f0
    have f1 := hf 1 _ rfl
    simp [cells1] at f1
    have f2 := hf 2 _ rfl
    simp [cells1] at f2
    have f3 := hf 3 _ rfl
    simp [cells1] at f3
    have f4 := hf 4 _ rfl
    simp [cells1] at f4
    have f5 := hf 5 _ rfl
    simp [cells1] at f5
    match ys, hyl with
    | [y0, y1, y2, y3, y4, y5], _ =>
      obtain ⟨a0, e0, _, w0⟩ := DataW.trod_int Tryd.underlying3 f0
      obtain ⟨a1, e1, _, w1⟩ := DataW.trod_int Tryd.underlying3 f1
      obtain ⟨a2, e2, _, w2⟩ := DataW.trod_int Tryd.underlying3 f2
      obtain ⟨a3, e3, _, w3⟩ := DataW.trod_int Tryd.underlying3 f3
      obtain ⟨a4, e4, _, w4⟩ := DataW.trod_int Tryd.underlying3 f4
      obtain ⟨a5, e5, _, w5⟩ := DataW.trod_int Tryd.underlying3 f5
      simp only [List.cons.injEq, and_true] at e0 e1 e2 e3 e4 e5
      subst e0 e1 e2 e3 e4 e5
      exact ⟨⟨a0, a1, a2, a3, a4, a5⟩, rfl, wf64 w0, wf64 w1, wf64 w2, wf64 w3, wf64 w4, wf64 w5⟩
set_option maxRecDepth 100000 in
/-- A list of events that came in. -/
theorem open_evs {r : Reach} {b0 : Nat} {v : Value} {d : DataW H} {p : List MemPlace} (hv : Value.okWide Tryd.prog w r b0 22 v) (h : DataW.Trod enc Tryd.prog w base spare held 22 v d p) :
    ∃ (A : Option Addr) (cap : Nat) (l : List Ev), v = .slice A l.length cap ∧ l.length ≤ cap ∧ cap ≤ maxLen ∧ (∀ e ∈ l, EvIn e) ∧ RdE w A l := by
  obtain ⟨A, l, c, rfl⟩ := okWide_slice Tryd.underlying22 hv
  obtain ⟨fuel, hf⟩ := h
  obtain ⟨A', cap, zs, hcs, _, hg, hlc, hcm, hc⟩ := open_list (α := Ev) evV EvIn Tryd.underlying22 cellsEv (by omega) (fun n cs y hy => trod_ev hy) hf
  simp only [Value.cells, List.cons.injEq, Value.slice.injEq, and_true] at hcs
  obtain ⟨rfl, rfl, rfl⟩ := hcs
  refine ⟨A, c, zs, rfl, hlc, hcm, hg, ?_⟩
  rcases hc with rfl | ⟨b, o, rfl, hc⟩
  · exact .inl rfl
  · exact .inr ⟨b, o, rfl, fun k e he => evO_of fun j u hj => hc k e he j u hj⟩
end

end Go.Proofs.YtjcnjnonhncelaaDoor
