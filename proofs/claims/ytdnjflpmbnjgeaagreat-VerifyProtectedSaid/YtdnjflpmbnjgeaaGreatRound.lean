/-
  A region that draws its order inside a round of a range over a function: what it reads first, then a forced tail. Nothing of the program is stated here.
-/
import Derived.Test.YtdnjflpmbnjgeaaGreatPkBase
import Derived.OrdersHeld
import Derived.OrdersIn
import Derived.RangeFuncWrites
namespace Go.Proofs.YtdnjflpmbnjgeaaGreat
section
/-- An operation that makes no call and defers nothing. -/
def simpleOp (o : Oper) : Bool :=
 match o.op with
 | .move _ | .assign _ | .load .. | .store .. | .binOp .. | .unOp .. | .fieldAddr .. | .indexAddr .. => true
 | _ => false
theorem run_valued {P : Program} {w w' : World} {s : Sem Value} {x : Next} (h : (do pure (.value (← s)) : Sem Next).run P w = .ok x w') : ∃ v, x = .value v := by
 rw [Sem.run_bind] at h
 cases hs : s.run P w with
 | ok v w1 => rw [hs] at h; simp [Result.andThen, Sem.run_pure] at h; exact ⟨v, h.1.symm⟩
 | halt e w1 => rw [hs] at h; simp [Result.andThen] at h
theorem run_skipped {P : Program} {w w' : World} {s : Sem Unit} {x : Next} (h : (do s; pure .skip : Sem Next).run P w = .ok x w') : x = .skip := by
 rw [Sem.run_bind] at h
 cases hs : s.run P w with
 | ok v w1 => rw [hs] at h; simp [Result.andThen, Sem.run_pure] at h; exact h.1.symm
 | halt e w1 => rw [hs] at h; simp [Result.andThen] at h
theorem simple_run {P : Program} {w w' : World} {ρ : Operand → Value} {o : Oper} {x : Next} (ho : simpleOp o = true) (h : (execOp ρ o).run P w = .ok x w') : (∃ v, x = .value v) ∨ x = .skip := by
 unfold simpleOp at ho
 unfold execOp at h
 cases hop : o.op <;> rw [hop] at ho h <;> first | (cases ho; done) | skip
 all_goals first
  | exact .inl (run_valued h)
  | exact .inr (run_skipped h)
  | (simp [Sem.run_pure] at h; exact .inl ⟨_, h.1.symm⟩)
theorem simple_about {P : Program} {w : World} {ρ : Operand → Value} {o : Oper} (ho : simpleOp o = true) : o.about P w ρ = none := by
 unfold simpleOp at ho
 unfold Oper.about
 cases hop : o.op <;> rw [hop] at ho <;> first | rfl | cases ho
theorem simple_defer {o : Oper} (ho : simpleOp o = true) : ∀ c, o.op ≠ .defer c := by
 intro c h
 unfold simpleOp at ho
 rw [h] at ho
 cases ho
theorem opsIn_of_ops {F : Fence} {n : Nat} {P : Program} {ops : Array Oper} {Q : Exit → Act → World → Prop} (hs : ∀ (i : Nat) (o : Oper), ops[i]? = some o → simpleOp o = true) (hQ : ¬ LetsOut Q) :
    ∀ (l : List Nat) (a : Act) (w : World), wpOps P ops Q l a w → wpOpsIn F n P ops Q l a w
 | [], _, _, h => h
 | i :: rest, a, w, h => by
  have ih := opsIn_of_ops (F := F) (n := n) (P := P) hs hQ rest
  unfold wpOps at h
  unfold wpOpsIn
  cases ho : ops[i]? with
  | none => rw [ho] at h; exact ih _ _ h
  | some o =>
   rw [ho] at h
   have hso := hs i o ho
   simp only at h ⊢
   by_cases hw : Region.wanted o (yielded ops a.tmps) = true
   ·rw [if_pos hw] at h ⊢
    rcases h with h | ⟨_, h⟩
    ·refine ⟨(fun f hf => by rw [simple_about hso] at hf; cases hf), ?_⟩
     rw [Oper.semAt_eq _ _ _ (simple_defer hso)]
     unfold Oper.wp at h
     cases hr : (execOp a.eval o).run P w with
     | ok x w' =>
      rw [hr] at h
      rcases simple_run hso hr with ⟨v, rfl⟩ | rfl
      ·exact ih _ _ h
      ·exact ih _ _ h
     | halt e w' =>
      rw [hr] at h
      cases e <;> first | exact h | exact h.elim
    ·exact absurd h hQ
   ·rw [if_neg hw] at h ⊢
    exact ⟨(fun f hf => by rw [simple_about hso] at hf; cases hf), ih _ _ h⟩
/-- A region that draws, inside a fence of whatever kind, by the law that holds a condition on the world. -/
theorem wpIn_region_held {F : Fence} {k : Nat} {P : Program} {id : Nat} {Q : Exit → Act → World → Prop} {a : Act} {w : World} {l : List Oper} (S : World → Prop) (hm : P.follows .mixedOrders = true) (hs : l.all simpleOp = true) (hQ : ¬ LetsOut Q)
    (h : wpAnyH P .any l.toArray Q S l.length (Array.replicate l.toArray.size false) a w.drew) : (Code.region id l.toArray true).wpIn F k P Q a w := by
 refine wpIn_region_draw fun t => ?_
 simp only [Region.schedule, hm, Bool.true_or, if_true]
 exact opsIn_of_ops (fun (i : Nat) (o : Oper) ho => List.all_eq_true.1 hs o (by simpa using Array.mem_of_getElem? ho)) hQ _ _ _ (wpAny_sound l.toArray.size t _ a _ (wpAny_of_held _ _ _ _ h))
theorem wpOp_ran {P : Program} {ops : Array Oper} {Q : Exit → Act → World → Prop} {i : Nat} {K : Act → World → Prop} {a : Act} {w : World} {o : Oper} (w' : World) (ho : ops[i]? = some o) (hw : Region.wanted o (yielded ops a.tmps) = true) (hr : (execOp a.eval o).run P w = .ok .skip w') (h : K (a.put o.dst undef) w') : wpOp P ops Q i K a w := by
 unfold wpOp
 simp only [ho, hw, if_true]
 exact .inl (by unfold Oper.wp; rw [hr]; exact h)
theorem letsOut_block {id : Nat} {α : Type} {B : Nat} {Kp : World → World → Prop} {I : List α → World → Prop} {Ix : Code → List α → World → Prop} {xs : List α} {W : World} : ¬ LetsOut (Exit.inBlock id (ownPostG B Kp I Ix xs W)) := by
 rintro ⟨a, w, h⟩
 exact h
end
end Go.Proofs.YtdnjflpmbnjgeaaGreat
