/-
  ConsoleNames: for every integer e, console.Name(OK) is the text of OK and console.Name(e) equals the reference's Name(e). No condition.
  THE SHELL OF A PROOF OF 'Rows.ConsoleNamesSaid' ('waypoint/waypointlaw58.ConsoleNames'), WRITTEN BY PROGRAM (proof-skeleton.mjs) off the guide's own print for that function. Not trusted: Lean checks it.
  YOURS ARE THE HOLES MARKED 'HOLE' (each bears 'sorry'). ALL ELSE IS THE GUIDE's TEMPLATE (howto/template/XProofs.lean) at this function's number and types: leave it.
-/
import Derived.Test.YthiegnkjcfdinaaRows
import Derived.WalkKit
import Derived.ProofKit
import Derived.OpenShut
import Derived.Lib.Hide
namespace Go.Proofs.Ythiegnkjcfdinaa.consoleNames
open Go.ChangeShapes Go.WideShapes Go.ChangeAt Go.RowKit
set_option linter.unusedVariables false      -- a walk need not use every 'w<i>' (that an integer argument fits its kind)

theorem own : ownKnob Try.prog.godebug = none := by kernel_rfl

/-- The names of the errors. -/
def names : List ByteArray := [⟨#[111, 107]⟩, ⟨#[97, 114, 103, 117, 109, 101, 110, 116]⟩, ⟨#[114, 97, 110, 103, 101]⟩, ⟨#[115, 121, 110, 116, 97, 120]⟩, ⟨#[102, 111, 114, 109]⟩, ⟨#[115, 117, 109]⟩, ⟨#[108, 105, 109, 105, 116]⟩, ⟨#[115, 116, 97, 116, 101]⟩, ⟨#[110, 111, 110, 101]⟩, ⟨#[100, 117, 112, 108, 105, 99, 97, 116, 101]⟩, ⟨#[100, 105, 118, 105, 100, 101]⟩, ⟨#[117, 110, 114, 101, 97, 99, 104, 97, 98, 108, 101]⟩, ⟨#[99, 97, 112, 97, 99, 105, 116, 121]⟩, ⟨#[105, 110, 102, 101, 97, 115, 105, 98, 108, 101]⟩, ⟨#[117, 110, 98, 111, 117, 110, 100, 101, 100]⟩, ⟨#[115, 116, 97, 108, 101]⟩, ⟨#[108, 111, 111, 112]⟩]
def nm (a : Int) : ByteArray := if 0 ≤ a ∧ a < 17 then names.getD a.toNat ByteArray.empty else ByteArray.empty

theorem cases17 {a : Int} (h0 : 0 ≤ a) (h1 : a < 17) : a = 0 ∨ a = 1 ∨ a = 2 ∨ a = 3 ∨ a = 4 ∨ a = 5 ∨ a = 6 ∨ a = 7 ∨ a = 8 ∨ a = 9 ∨ a = 10 ∨ a = 11 ∨ a = 12 ∨ a = 13 ∨ a = 14 ∨ a = 15 ∨ a = 16 := by omega

set_option maxHeartbeats 4000000 in
theorem name_prog (a : Int) (w : World) : Calls Try.prog 4 #[.int .i64 a] w fun e w' => e = .returned (.string (nm a)) ∧ Grown w w' := by
  by_cases h0 : 0 ≤ a
  · by_cases h1 : a < 17
    · rcases cases17 h0 h1 with rfl | rfl | rfl | rfl | rfl | rfl | rfl | rfl | rfl | rfl | rfl | rfl | rfl | rfl | rfl | rfl | rfl <;>
      (go_enter Try.func4, Try.ntmps4
       go_wp2
       go_ret
       exact ⟨rfl, by repeat (first | exact Grown.refl _ | apply Grown.drew | apply Grown.alloc)⟩)
    · have hn : nm a = ByteArray.empty := by simp [nm, h1]
      have HN := Lib.hid hn; clear hn
      go_enter Try.func4, Try.ntmps4
      go_wp2
      go_ret
      exact ⟨by rw [HN.out]; rfl, by repeat (first | exact Grown.refl _ | apply Grown.drew | apply Grown.alloc)⟩
  · have hn : nm a = ByteArray.empty := by simp [nm, h0]
    have HN := Lib.hid hn; clear hn
    have h0' : a < 0 := by omega
    go_enter Try.func4, Try.ntmps4
    go_wp2
    go_ret
    exact ⟨by rw [HN.out]; rfl, by repeat (first | exact Grown.refl _ | apply Grown.drew | apply Grown.alloc)⟩

set_option maxHeartbeats 4000000 in
theorem name_ref (a : Int) (w : World) : Calls Try.prog 5 #[.int .i64 a] w fun e w' => e = .returned (.string (nm a)) ∧ Grown w w' := by
  by_cases h0 : 0 ≤ a
  · by_cases h1 : a < 17
    · rcases cases17 h0 h1 with rfl | rfl | rfl | rfl | rfl | rfl | rfl | rfl | rfl | rfl | rfl | rfl | rfl | rfl | rfl | rfl | rfl <;>
      (go_enter Try.func5, Try.ntmps5
       go_wp2
       go_ret
       exact ⟨rfl, by repeat (first | exact Grown.refl _ | apply Grown.drew | apply Grown.alloc)⟩)
    · have hn : nm a = ByteArray.empty := by simp [nm, h1]
      have HN := Lib.hid hn; clear hn
      go_enter Try.func5, Try.ntmps5
      go_wp2
      go_ret
      exact ⟨by rw [HN.out]; rfl, by repeat (first | exact Grown.refl _ | apply Grown.drew | apply Grown.alloc)⟩
  · have hn : nm a = ByteArray.empty := by simp [nm, h0]
    have HN := Lib.hid hn; clear hn
    have h0' : a < 0 := by omega
    go_enter Try.func5, Try.ntmps5
    go_wp2
    go_ret
    exact ⟨by rw [HN.out]; rfl, by repeat (first | exact Grown.refl _ | apply Grown.drew | apply Grown.alloc)⟩

theorem grown_trans {a b c : World} (h : Grown a b) (k : Grown b c) : Grown a c :=
  ⟨World.keptBut_trans h.1 k.1, fun x => (k.2.1 x).trans (h.2.1 x), Nat.le_trans h.2.2 k.2.2⟩

theorem walk (a0 : Int) (w0 : (Lit.int .i64 a0).wf = true) (w : World) :
    Calls Try.prog 3 #[.int .i64 a0] w fun e w' => e = .returned (.bool true) ∧ Grown w w' := by
  go_enter Try.func3, Try.ntmps3
  go_wp2_with fail
  refine (name_prog 0 w).mono ?_
  rintro e w1 ⟨rfl, g1⟩
  have hok : nm 0 = ⟨#[111, 107]⟩ := rfl
  rw [hok]
  clear hok
  generalize hx : nm a0 = x
  go_wp2_with fail
  refine (name_prog a0 w1).mono ?_
  rw [hx]
  rintro e w2 ⟨rfl, g2⟩
  go_wp2_with fail
  refine (name_ref a0 w2).mono ?_
  rw [hx]
  rintro e w3 ⟨rfl, g3⟩
  go_wp2_with fail
  go_ret
  exact ⟨by simp, grown_trans g1 (grown_trans g2 g3)⟩

/-! ### THE ROW's STEP: WRITTEN OUT: LEAVE IT -/
set_option maxRecDepth 100000 in
theorem lifted (os : Os) (started : os.Started) (H : Type) (enc : TypeId × Value → H) :
    ReturnsInHanded {} Try.checked os 3 .any (Rows.consoleNamesSpec.pre6 enc Try.prog Try.f3 Rows.consoleNamesRow.domain false) (Rows.consoleNamesSpec.post enc Try.prog Try.f3 false true false false) := by
  refine returnsInHanded_of_change (C := Try.checked) own started (by kernel_rfl) Try.func3
    (ChangeSpec.witness6 (enc := enc) (C := Try.checked) false ⟨#[], #[.int .i64 0], []⟩ 8 (by kernel_rfl) (by kernel_rfl) (by kernel_rfl) (by kernel_rfl)) ?_
  intro W base args ds gs before hval0 hW hcnd _
  have hval : ∀ (j : Nat) t v, Try.f3.params[j]? = some t → args[j]? = some v → Value.okWide Try.prog W .any base t v := hval0
  have hW' := hW
  obtain ⟨p, q, hA0, hV, rfl, hfz, hnd⟩ := hW
  have hA : DataW.TrodAll enc Try.prog W 0 (fun _ => true) true Try.f3.params.toList args.toList ds p := hA0
  rw [Try.params3] at hA hval
  obtain ⟨v0, vs0, d0, ds0, p0, q0, hargs, rfl, rfl, h0, r0⟩ := trodAll_cons hA
  obtain ⟨rfl, rfl, rfl⟩ := trodAll_nil r0
  obtain rfl : args = #[v0] := by cases args; simp_all
  obtain ⟨rfl, rfl⟩ := trodVars_none hV
  obtain ⟨a0, rfl, rfl, rfl, w0⟩ := open_int Try.underlying3 (hval 0 3 v0 rfl rfl) h0
  clear hA0 hval0
  simp only [List.append_nil] at hW'
  refine (walk a0 w0 W).mono fun e W' ⟨he, hg⟩ => ?_
  subst he
  exact ⟨_, rfl, post_of_same (pa := []) (pv := []) hW' (fun _ _ _ => (trodAll_cons_mk (shut_bool Try.underlying4 _) trodAll_mk0)) (fun sp _ => (trodAll_cons_mk (shut_int Try.underlying3 w0) trodAll_mk0)) (fun _ _ => rfl) rfl
    (hg.frame _) hg.2.1 (ok_one (by kernel_rfl) rfl (okWide_bool_mk Try.underlying4 _))⟩

theorem over : Rows.consoleNamesRow.holds Try.pinned (OpenSpec.ofChange Rows.consoleNamesSpec) :=
  OpenClaim.holds_of_wide 3 Try.f3 rfl rfl rfl rfl rfl rfl rfl ⟨rfl, rfl, rfl, rfl, rfl⟩ rfl rfl rfl rfl rfl (by kernel_rfl) Try.func3 (by kernel_rfl)
    (of_decide_eq_true (by kernel_rfl)) (by unfold Func.isWrapper; first | (rw [if_pos (by decide +kernel)]; kernel_rfl) | (rw [if_neg (by decide +kernel)]; exact ⟨rfl, rfl⟩))
    (fun os started H enc _ => lifted os started H enc)

/-- ████ THE STATEMENT ████ -/
theorem proved : Rows.ConsoleNamesSaid :=
  over
#print axioms proved
end Go.Proofs.Ythiegnkjcfdinaa.consoleNames
