/-
  trace.read: what it returns for every line.
-/
import Derived.Test.YtjcnjnonhncelaaDoorReadA
import Derived.Test.YtjcnjnonhncelaaDoorReadB
import Derived.Test.YtjcnjnonhncelaaDoorReadC
namespace Go.Proofs.YtjcnjnonhncelaaDoor
open Go.RowKit Go.Sort

theorem trace_read_all (s : List UInt8) (w : World) (hq : Rq w s) : Calls Tryd.prog 36 #[.string ⟨s.toArray⟩] w (RetRead w (readP s) (evOk (readP s) && decide (evT (readP s) = s))) := by
  obtain ⟨k, hk⟩ : ∃ k, nameP verbsL (wd s 1) = k := ⟨_, rfl⟩
  have hb := nameP_lt verbsL (wd s 1)
  rw [hk] at hb
  have hl : (verbsL.length : Int) = 10 := rfl
  rw [hl] at hb
  obtain ⟨R, hR⟩ : ∃ R, readP s = R := ⟨_, rfl⟩
  rw [hR]
  unfold readP at hR
  rw [hk] at hR
  obtain rfl | rfl | rfl | rfl | rfl | rfl | rfl | rfl | rfl | rfl | rfl : k = -1 ∨ k = 0 ∨ k = 1 ∨ k = 2 ∨ k = 3 ∨ k = 4 ∨ k = 5 ∨ k = 6 ∨ k = 7 ∨ k = 8 ∨ k = 9 := by omega
  all_goals simp at hR
  · subst hR; exact read_m1 s w hq hk _ rfl _ rfl
  · subst hR; exact read_0 s w hq hk _ rfl _ rfl
  · subst hR; exact read_1 s w hq hk _ rfl _ rfl
  · subst hR; exact read_2 s w hq hk _ rfl _ rfl
  · subst hR; exact read_3 s w hq hk _ rfl _ rfl
  · cases ho : onArcB (nameP reasonsL (wd s 4)) with
    | true => rw [ho] at hR; simp at hR; subst hR; exact read_4t s w hq hk ho _ rfl _ rfl
    | false => rw [ho] at hR; simp at hR; subst hR; exact read_4f s w hq hk ho _ rfl _ rfl
  · subst hR; exact read_5 s w hq hk _ rfl _ rfl
  · subst hR; exact read_6 s w hq hk _ rfl _ rfl
  · subst hR; exact read_7 s w hq hk _ rfl _ rfl
  · subst hR; exact read_8 s w hq hk _ rfl _ rfl
  · subst hR; exact read_9 s w hq hk _ rfl _ rfl

/-- The same by the event with that text. -/
theorem trace_read (s : List UInt8) (w : World) (hq : Rq w s) : Calls Tryd.prog 36 #[.string ⟨s.toArray⟩] w fun e w' =>
    ∃ p : Ev, e = .returned (.tuple #[.agg #[.int .i64 p.t, .int .i64 p.k, .int .i64 p.n, .int .i64 p.a, .int .i64 p.p, .int .i64 p.r], .bool (rdE s).isSome]) ∧ (∀ x, rdE s = some x → p = x) ∧ Below w.heap.size w w' := by
  refine (trace_read_all s w hq).mono ?_
  rintro e w' ⟨rfl, hb⟩
  refine ⟨readP s, ?_, ?_, hb⟩
  · congr 6
    unfold rdE
    cases h1 : evOk (readP s) with
    | false => simp
    | true => by_cases h2 : evT (readP s) = s <;> simp [h2]
  · intro x hx
    unfold rdE at hx
    split at hx
    · injection hx
    · cases hx

end Go.Proofs.YtjcnjnonhncelaaDoor
