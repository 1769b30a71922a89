/-
  config's parser: what holds of the stacks (no program).
-/
import Derived.Test.YtpofbhaipeiegaaGreatDoorCfgI
namespace Go.Proofs.YtpofbhaipeiegaaGreatDoor
set_option linter.unusedSimpArgs false
set_option linter.unusedVariables false
open Go.RowKit Go.Shelf Go.Sort

def opOk (o : List UInt8) : Prop := o = oOpen ∨ 1 ≤ rankS o
/-- What holds of the stacks: all operations are known ones, each has its operands. -/
structure Inv (ops : List (List UInt8)) (vs : List Int) : Prop where
  ok : ∀ o ∈ ops, opOk o
  ar : binS ops + 1 ≤ vs.length
theorem rank_open : rankS oOpen = 0 := rfl
theorem rank_neg : rankS oNeg = 3 := rfl
theorem combine_inv {dry : Bool} {least : Nat} (hl : 1 ≤ least) : ∀ {ops : List (List UInt8)} {vs : List Int} {os : List (List UInt8)} {us : List Int}, Inv ops vs → combineS dry least ops vs = .ok (os, us) → Inv os us ∧ os.length ≤ ops.length ∧ us.length ≤ vs.length ∧ openS os = openS ops ∧ (∀ o t, os = o :: t → rankS o < least)
  | [], vs, os, us, h, e => by
    simp only [combineS] at e
    injection e with e
    injection e with e1 e2
    subst e1 e2
    exact ⟨h, Nat.le_refl _, Nat.le_refl _, rfl, fun o t e => by cases e⟩
  | o :: ops, vs, os, us, h, e => by
    by_cases hr : rankS o < least
    · rw [combineS_stop hr] at e
      injection e with e
      injection e with e1 e2
      subst e1 e2
      exact ⟨h, Nat.le_refl _, Nat.le_refl _, rfl, fun o t e => by injection e with e1 _; rw [← e1]; exact hr⟩
    · have hno : o ≠ oOpen := fun e => by subst e; rw [rank_open] at hr; omega
      have hop : openS ops = openS (o :: ops) := by simp [openS, Ne.symm hno]
      cases vs with
      | nil => exact absurd h.ar (by simp)
      | cons x r =>
      by_cases hn : o = oNeg
      · subst hn
        rw [combineS_neg hr] at e
        have h' : Inv ops (wrap64 (-x) :: r) := ⟨fun o ho => h.ok o (by simp [ho]), by have := h.ar; simp [binS] at this ⊢; omega⟩
        obtain ⟨q1, q2, q3, q4, q5⟩ := combine_inv hl h' e
        exact ⟨q1, by simp; omega, by simpa using q3, q4.trans hop, q5⟩
      · have hb : ¬ (o = oNeg ∨ o = oOpen) := fun e => e.elim hn hno
        cases r with
        | nil => exact absurd h.ar (by simp [binS, hb])
        | cons y r =>
        rw [combineS_bin hr hn] at e
        cases hz : operateS dry o y x with
        | error c => rw [hz] at e; cases e
        | ok z =>
          rw [hz] at e
          have h' : Inv ops (z :: r) := ⟨fun o ho => h.ok o (by simp [ho]), by have := h.ar; simp [binS, hb] at this ⊢; omega⟩
          obtain ⟨q1, q2, q3, q4, q5⟩ := combine_inv hl h' e
          exact ⟨q1, by simp; omega, by simp at q3 ⊢; omega, q4.trans hop, q5⟩
theorem factor_inv {dry : Bool} {sy : SymS} : ∀ {ws ops : List (List UInt8)} {vs : List Int} {os : List (List UInt8)} {us : List Int} {r : List (List UInt8)}, (∀ o ∈ ops, opOk o) → factorS dry sy ws ops vs = .ok ((os, us), r) → (∀ o ∈ os, opOk o) ∧ binS os = binS ops ∧ us.length = vs.length + 1 ∧ r.length + 1 ≤ ws.length ∧ os.length + r.length + 1 ≤ ops.length + ws.length
  | [], _, _, _, _, _, _, e => by cases e
  | w :: t, ops, vs, os, us, r, h, e => by
    simp only [factorS] at e
    split at e
    · obtain ⟨q1, q2, q3, q4, q5⟩ := factor_inv (fun o ho => by
        rcases List.mem_cons.1 ho with rfl | ho
        · exact .inl rfl
        · exact h o ho) e
      exact ⟨q1, by simpa [binS] using q2, q3, by simp; omega, by simp at q5 ⊢; omega⟩
    · split at e
      · obtain ⟨q1, q2, q3, q4, q5⟩ := factor_inv (fun o ho => by
          rcases List.mem_cons.1 ho with rfl | ho
          · exact .inr (by rw [rank_neg]; omega)
          · exact h o ho) e
        exact ⟨q1, by simpa [binS] using q2, q3, by simp; omega, by simp at q5 ⊢; omega⟩
      · split at e
        · injection e with e
          injection e with e1 e2
          injection e1 with e1 e3
          subst e1 e2 e3
          exact ⟨h, rfl, by simp, by simp, by simp; omega⟩
        · cases hu : useS dry sy 3 (w :: t) with
          | error c => rw [hu] at e; cases e
          | ok p =>
            obtain ⟨v, r'⟩ := p
            rw [hu] at e
            injection e with e
            injection e with e1 e2
            injection e1 with e1 e3
            subst e1 e2 e3
            simp only [useS] at hu
            split at hu
            · cases hv : useOf dry 3 (lookS sy w) with
              | error c => rw [hv] at hu; cases hu
              | ok v' =>
                rw [hv] at hu
                injection hu with hu
                injection hu with _ hu
                subst hu
                exact ⟨h, rfl, by simp, by simp, by simp; omega⟩
            · cases hu
/-- What a closing parenthesis finds. -/
theorem open_head {os : List (List UInt8)} {us : List Int} (h : Inv os us) (ho : openS os = true) (hr : ∀ o t, os = o :: t → rankS o < 1) : ∃ t, os = oOpen :: t := by
  cases os with
  | nil => cases ho
  | cons o t =>
    refine ⟨t, ?_⟩
    have := hr o t rfl
    rcases h.ok o (by simp) with e | e
    · rw [e]
    · omega
theorem Inv.tail {t : List (List UInt8)} {us : List Int} (h : Inv (oOpen :: t) us) : Inv t us := ⟨fun o ho => h.ok o (by simp [ho]), by have := h.ar; simpa [binS] using this⟩
theorem closeS_no {dry : Bool} {ws ops : List (List UInt8)} {vs : List Int} (h : openS ops = false ∨ (peekS ws == oClose) = false) : closeS dry ws ops vs = .ok ((ops, vs), ws) := by
  cases ws with
  | nil => rfl
  | cons w r =>
    simp only [closeS]
    rw [if_neg]
    rintro ⟨h1, h2⟩
    rcases h with h | h
    · rw [h1] at h; cases h
    · simp [peekS] at h; exact h h2
theorem closeS_yes {dry : Bool} {r ops : List (List UInt8)} {vs : List Int} (h : openS ops = true) : closeS dry (oClose :: r) ops vs = (match combineS dry 1 ops vs with | .ok (os, vs') => closeS dry r (os.drop 1) vs' | .error e => .error e) := by
  simp only [closeS]
  rw [if_pos ⟨h, trivial⟩]
  cases combineS dry 1 ops vs <;> rfl

end Go.Proofs.YtpofbhaipeiegaaGreatDoor
