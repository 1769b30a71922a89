/-
  RouterNew: for every topology, every node and boot number and all timers, router.New returns the first error that applies.
-/
import Derived.Test.YtenhliibmcmnbaaGreatRows
import Derived.Test.YtenhliibmcmnbaaGreatRtLw
import Derived.Test.YtenhliibmcmnbaaGreatOpen
import Derived.WalkKit
import Derived.ProofKit
import Derived.OpenShut
import Derived.ChangeOld
import Derived.Lib.Hide
namespace Go.Proofs.YtenhliibmcmnbaaGreat.routerNew
open Go.ChangeShapes Go.WideShapes Go.ChangeAt Go.RowKit Go.Deep Go.Joins Go.OpenShut
set_option linter.unusedVariables false

section
variable {H : Type} {enc : TypeId × Value → H} {w : World} {base : Nat} {spare : Nat → Bool} {held : Bool}
theorem cellsTm : Tryz.prog.cellsOf 28 = 5 := by kernel_rfl
theorem cells2i : Tryz.prog.cellsOf 26 = 2 := by kernel_rfl
theorem cells1i : Tryz.prog.cellsOf 3 = 1 := by kernel_rfl
theorem okArrI {P : Program} {r : Reach} {b0 : Nat} {t e : TypeId} {n : Nat} {v : Value} (ht : P.underlying t = some (.array n e)) (h : Value.okWide P w r b0 t v) : ∃ cs, v = .agg cs ∧ cs.size = P.cellsOf t := by
  simp only [Value.okWide, ht] at h
  obtain ⟨cs, h1, h2, _⟩ := h
  exact ⟨cs, h1, h2⟩
theorem array2 {cs : Array Value} (h : cs.size = 2) : ∃ c0 c1, cs = #[c0, c1] := by
  obtain ⟨l⟩ := cs
  match l, h with
  | [a, b], _ => exact ⟨a, b, rfl⟩
theorem array5 {cs : Array Value} (h : cs.size = 5) : ∃ c0 c1 c2 c3 c4, cs = #[c0, c1, c2, c3, c4] := by
  obtain ⟨l⟩ := cs
  match l, h with
  | [a, b, c, d, e], _ => exact ⟨a, b, c, d, e, rfl⟩
set_option maxRecDepth 100000 in
/-- Two numbers that came in. -/
theorem open_two {r : Reach} {b0 : Nat} {v : Value} {d : DataW H} {p : List MemPlace} (hv : Value.okWide Tryz.prog w r b0 26 v) (h : DataW.Trod enc Tryz.prog w base spare held 26 v d p) :
    ∃ a b : Int, v = .agg #[.int .i64 a, .int .i64 b] := by
  obtain ⟨cs, rfl, hsz⟩ := okArrI Tryz.underlying26 hv
  obtain ⟨v0, v1, rfl⟩ := array2 (hsz.trans cells2i)
  obtain ⟨fuel, hf⟩ := h
  obtain ⟨xs, m, _, _, _, hxl, hx⟩ := DataW.trod_array Tryz.underlying26 hf
  have f0 := hx 0 (by omega)
  have f1 := hx 1 (by omega)
  match xs, hxl with
  | [x0, x1], _ =>
    simp [cells1i, Value.cells] at f0 f1
    obtain ⟨a, e0, _, wa⟩ := DataW.trod_int Tryz.underlying3 f0
    obtain ⟨b, e1, _, wb⟩ := DataW.trod_int Tryz.underlying3 f1
    simp only [List.cons.injEq, and_true] at e0 e1
    subst e0 e1
    exact ⟨a, b, rfl⟩
set_option maxRecDepth 100000 in
/-- A router's timers that came in. -/
theorem open_tms {r : Reach} {b0 : Nat} {v : Value} {d : DataW H} {p : List MemPlace} (hv : Value.okWide Tryz.prog w r b0 28 v) (h : DataW.Trod enc Tryz.prog w base spare held 28 v d p) :
    ∃ a b c d e : Int, v = .agg #[.int .i64 a, .int .i64 b, .int .i64 c, .int .i64 d, .int .i64 e] := by
  obtain ⟨cs, rfl, hsz⟩ := okWide_struct Tryz.underlying28 hv
  obtain ⟨v0, v1, v2, v3, v4, rfl⟩ := array5 (hsz.trans cellsTm)
  obtain ⟨fuel, hf⟩ := h
  obtain ⟨ys, m, _, _, _, hyl, hg⟩ := DataW.trod_struct Tryz.underlying28 hf
  have f0 := hg 0 _ rfl
  have f1 := hg 1 _ rfl
  have f2 := hg 2 _ rfl
  have f3 := hg 3 _ rfl
  have f4 := hg 4 _ rfl
  match ys, hyl with
  | [y0, y1, y2, y3, y4], _ =>
    simp [cells1i, Value.cells] at f0 f1 f2 f3 f4
    obtain ⟨a, e0, _, _⟩ := DataW.trod_int Tryz.underlying3 f0
    obtain ⟨b, e1, _, _⟩ := DataW.trod_int Tryz.underlying3 f1
    obtain ⟨c, e2, _, _⟩ := DataW.trod_int Tryz.underlying3 f2
    obtain ⟨d, e3, _, _⟩ := DataW.trod_int Tryz.underlying3 f3
    obtain ⟨e, e4, _, _⟩ := DataW.trod_int Tryz.underlying3 f4
    simp only [List.cons.injEq, and_true] at e0 e1 e2 e3 e4
    subst e0 e1 e2 e3 e4
    exact ⟨a, b, c, d, e, rfl⟩
end

theorem own : ownKnob Tryz.prog.godebug = none := by kernel_rfl
theorem laidOut : laidOutB Tryz.prog = true := by kernel_rfl
set_option maxHeartbeats 1000000 in
set_option maxRecDepth 100000 in
theorem lifted (os : Os) (started : os.Started) (H : Type) (enc : TypeId × Value → H) :
    ReturnsInHanded {} Tryz.checked os 3 .any (Rows.routerNewSpec.pre6 enc Tryz.prog Tryz.f3 Rows.routerNewRow.domain false) (Rows.routerNewSpec.post enc Tryz.prog Tryz.f3 false true false false) := by
  refine returnsInHanded_of_change (C := Tryz.checked) own started (by kernel_rfl) Tryz.func3
    (ChangeSpec.witness6 (enc := enc) (C := Tryz.checked) false ⟨#[], #[.agg #[.int .i64 0, .slice none 0 0, .slice none 0 0], .agg #[.int .i64 0, .int .i64 0], .agg #[.int .i64 0, .int .i64 0, .int .i64 0, .int .i64 0, .int .i64 0]], []⟩ 8 (by kernel_rfl) (by kernel_rfl) (by kernel_rfl) (by kernel_rfl)) ?_
  intro W base args ds gs before hval0 hW hcnd _
  have hval : ∀ (j : Nat) t v, Tryz.f3.params[j]? = some t → args[j]? = some v → Value.okWide Tryz.prog W .any base t v := hval0
  have hW' := hW
  obtain ⟨p, q, hAll, hV, rfl, hfz, hnd⟩ := hW
  have hA : DataW.TrodAll enc Tryz.prog W 0 (fun _ => true) true Tryz.f3.params.toList args.toList ds p := hAll
  rw [Tryz.params3] at hA hval
  obtain ⟨v0, vs0, d0, ds0, p0, q0, hargs, rfl, rfl, h0, r0⟩ := trodAll_cons hA
  obtain ⟨v1, vs1, d1, ds1, p1, q1, rfl, rfl, rfl, h1, r1⟩ := trodAll_cons r0
  obtain ⟨v2, vs2, d2, ds2, p2, q2, rfl, rfl, rfl, h2, r2⟩ := trodAll_cons r1
  obtain ⟨rfl, rfl, rfl⟩ := trodAll_nil r2
  obtain rfl : args = #[v0, v1, v2] := by cases args; simp_all
  obtain ⟨rfl, rfl⟩ := trodVars_none hV
  have k0 := h0
  have k1 := h1
  have k2 := h2
  have lt0 : ∀ x ∈ p0, x.block < W.heap.size := by obtain ⟨m, hm⟩ := k0; exact DataW.trod_lt m _ _ _ hm
  have lt1 : ∀ x ∈ p1, x.block < W.heap.size := by obtain ⟨m, hm⟩ := k1; exact DataW.trod_lt m _ _ _ hm
  have lt2 : ∀ x ∈ p2, x.block < W.heap.size := by obtain ⟨m, hm⟩ := k2; exact DataW.trod_lt m _ _ _ hm
  obtain ⟨t, A1, A2, c1, c2, rfl, hT, _, _, _, _⟩ := open_topo (hval 0 25 v0 rfl rfl) h0
  obtain ⟨v, bt, rfl⟩ := open_two (hval 1 26 v1 rfl rfl) h1
  obtain ⟨a, b, c, g, s, rfl⟩ := open_tms (hval 2 28 v2 rfl rfl) h2
  clear hAll
  refine (law_RouterNew t A1 A2 c1 c2 v bt a b c g s W hT).mono fun e W' ⟨he, bel⟩ => ?_
  subst he
  exact ⟨_, rfl, _, _, _, [], _, [], hW', trodAll_mk1 (shut_bool Tryz.underlying4 _), (trodAll_cons_mk (Below.trod laidOut (by kernel_rfl) (of_decide_eq_true (by kernel_rfl)) k0 bel lt0) (trodAll_cons_mk (Below.trod laidOut (by kernel_rfl) (of_decide_eq_true (by kernel_rfl)) k1 bel lt1) (trodAll_cons_mk (Below.trod laidOut (by kernel_rfl) (of_decide_eq_true (by kernel_rfl)) k2 bel lt2) trodAll_mk0))), rfl, bel.frame _, fun h => by cases h⟩
/- The row's facts that go through the whole program, each by itself: one evaluation of all of them outgrows the lid. -/
theorem fact1 : (Rows.routerNewRow.inPlace == Tryz.pinned.checked.prog.inPlace 3) = true := by kernel_rfl
theorem fact2 : (Rows.routerNewRow.unfollowed == Tryz.pinned.checked.prog.unfollowed 3) = true := by kernel_rfl
theorem fact3 : (Rows.routerNewRow.recurses == Tryz.pinned.checked.prog.recurses 3) = true := by kernel_rfl
theorem fact4 : (Rows.routerNewRow.named == Tryz.pinned.checked.prog.varsNamed 3) = true := by kernel_rfl
theorem facts : joinedFacts Tryz.pinned.checked.prog 3 Tryz.f3 Rows.routerNewSpec Rows.routerNewRow = true := by
  unfold joinedFacts
  rw [fact1, fact2, fact3, fact4]
  kernel_rfl
set_option maxRecDepth 100000 in
theorem over : Rows.routerNewRow.holds Tryz.pinned (OpenSpec.ofChange Rows.routerNewSpec) :=
  OpenClaim.holds_of_wide 3 Tryz.f3 rfl rfl rfl rfl rfl rfl rfl ⟨rfl, rfl, rfl, rfl, rfl⟩ rfl rfl rfl rfl rfl (by kernel_rfl) Tryz.func3 facts
    (of_decide_eq_true (by kernel_rfl)) (by unfold Func.isWrapper; first | (rw [if_pos (by decide +kernel)]; kernel_rfl) | (rw [if_neg (by decide +kernel)]; exact ⟨rfl, rfl⟩))
    (fun os started H enc _ => lifted os started H enc)

/-- The statement. -/
theorem proved : Rows.RouterNewSaid :=
  over
#print axioms proved
end Go.Proofs.YtenhliibmcmnbaaGreat.routerNew
