/-
  VerifyBeginning: for every case and every number, the violations of the kinds 1 to 9 in a beginning of a trace are those of the whole trace with lesser indices.
  Conditions: none.
-/
import Derived.Test.YtdnjflpmbnjgeaaRows
import Derived.Test.YtdnjflpmbnjgeaaPkOpen
import Derived.WalkKit
import Derived.ProofKit
import Derived.OpenShut
import Derived.ChangeOld
import Derived.Lib.Hide
namespace Go.Proofs.Ytdnjflpmbnjgeaa.verifyBeginning
open Go.ChangeShapes Go.WideShapes Go.ChangeAt Go.RowKit Go.Deep Go.Joins Go.OpenShut
set_option linter.unusedVariables false
theorem own : ownKnob Try.prog.godebug = none := by kernel_rfl
theorem laidOut : laidOutB Try.prog = true := by kernel_rfl
set_option maxRecDepth 100000 in
theorem lifted (os : Os) (started : os.Started) (H : Type) (enc : TypeId × Value → H) :
    ReturnsInHanded {} Try.checked os 3 .any (Rows.verifyBeginningSpec.pre6 enc Try.prog Try.f3 Rows.verifyBeginningRow.domain false) (Rows.verifyBeginningSpec.post enc Try.prog Try.f3 false true false false) := by
  refine returnsInHanded_of_change (C := Try.checked) own started (by kernel_rfl) Try.func3
    (ChangeSpec.witness6 (enc := enc) (C := Try.checked) false ⟨#[], #[.agg #[.int .i64 0, .slice none 0 0, .slice none 0 0, .int .i64 0, .int .i64 0, .int .i64 0, .slice none 0 0, .slice none 0 0, .slice none 0 0], .int .u8 0], []⟩ 8 (by kernel_rfl) (by kernel_rfl) (by kernel_rfl) (by kernel_rfl)) ?_
  intro W base args ds gs before hval0 hW hcnd _
  have hval : ∀ (j : Nat) t v, Try.f3.params[j]? = some t → args[j]? = some v → Value.okWide Try.prog W .any base t v := hval0
  have hW' := hW
  obtain ⟨p, q, hAll, hV, rfl, hfz, hnd⟩ := hW
  have hA : DataW.TrodAll enc Try.prog W 0 (fun _ => true) true Try.f3.params.toList args.toList ds p := hAll
  rw [Try.params3] at hA hval
  obtain ⟨v0, vs0, d0, ds0, p0, q0, hargs, rfl, rfl, h0, r0⟩ := trodAll_cons hA
  obtain ⟨v1, vs1, d1, ds1, p1, q1, rfl, rfl, rfl, h1, r1⟩ := trodAll_cons r0
  obtain ⟨rfl, rfl, rfl⟩ := trodAll_nil r1
  obtain rfl : args = #[v0, v1] := by cases args; simp_all
  obtain ⟨rfl, rfl⟩ := trodVars_none hV
  have k0 := h0
  have k1 := h1
  have lt0 : ∀ x ∈ p0, x.block < W.heap.size := by obtain ⟨m, hm⟩ := k0; exact DataW.trod_lt m _ _ _ hm
  have lt1 : ∀ x ∈ p1, x.block < W.heap.size := by obtain ⟨m, hm⟩ := k1; exact DataW.trod_lt m _ _ _ hm
  obtain ⟨F, ps, tr, A1, A2, O, B, C, c1, c2, co, cp, ct, rfl, hT, hO, hP, hE, hct, hcm, hid⟩ := open_case (hval 0 32 v0 rfl rfl) h0
  obtain ⟨m, rfl, hm0, hm1⟩ := open_u8 Try.underlying5 (hval 1 5 v1 rfl rfl) h1
  clear hAll
  refine (law_VerifyBeginning F ps tr m A1 A2 O B C c1 c2 co cp ct hT hO hP hE hct hcm hid ⟨hm0, by omega⟩).mono fun e W' ⟨he, bel⟩ => ?_
  subst he
  exact ⟨_, rfl, _, _, _, [], _, [], hW', trodAll_mk1 (shut_bool Try.underlying4 _), (trodAll_cons_mk (Below.trod laidOut (by kernel_rfl) (of_decide_eq_true (by kernel_rfl)) k0 bel lt0) (trodAll_cons_mk (Below.trod laidOut (by kernel_rfl) (of_decide_eq_true (by kernel_rfl)) k1 bel lt1) trodAll_mk0)), rfl, bel.frame _, fun h => by cases h⟩
/- The row's facts that go through the whole program, each by itself: one evaluation of all of them outgrows the lid. -/
theorem fact1 : (Rows.verifyBeginningRow.inPlace == Try.pinned.checked.prog.inPlace 3) = true := by kernel_rfl
theorem fact2 : (Rows.verifyBeginningRow.unfollowed == Try.pinned.checked.prog.unfollowed 3) = true := by kernel_rfl
theorem fact3 : (Rows.verifyBeginningRow.recurses == Try.pinned.checked.prog.recurses 3) = true := by kernel_rfl
theorem fact4 : (Rows.verifyBeginningRow.named == Try.pinned.checked.prog.varsNamed 3) = true := by kernel_rfl
theorem facts : joinedFacts Try.pinned.checked.prog 3 Try.f3 Rows.verifyBeginningSpec Rows.verifyBeginningRow = true := by
  unfold joinedFacts
  rw [fact1, fact2, fact3, fact4]
  kernel_rfl
set_option maxRecDepth 100000 in
theorem over : Rows.verifyBeginningRow.holds Try.pinned (OpenSpec.ofChange Rows.verifyBeginningSpec) :=
  OpenClaim.holds_of_wide 3 Try.f3 rfl rfl rfl rfl rfl rfl rfl ⟨rfl, rfl, rfl, rfl, rfl⟩ rfl rfl rfl rfl rfl (by kernel_rfl) Try.func3 facts
    (of_decide_eq_true (by kernel_rfl)) (by unfold Func.isWrapper; first | (rw [if_pos (by decide +kernel)]; kernel_rfl) | (rw [if_neg (by decide +kernel)]; exact ⟨rfl, rfl⟩))
    (fun os started H enc _ => lifted os started H enc)
/-- The statement. -/
theorem proved : Rows.VerifyBeginningSaid :=
  over
#print axioms proved
end Go.Proofs.Ytdnjflpmbnjgeaa.verifyBeginning
