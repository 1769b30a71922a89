/-
  component.Arcs: what it returns, for every topology and component.
  What component.Mask and Within need, without a walk.
  A region that draws its order inside a round of a range over a function: what it reads first, then a forced tail. Nothing of the program is stated here.
-/
import Derived.Test.YtdnjflpmbnjgeaaPkPcv
import Derived.Maps.AppendAt
import Derived.Laws.Rows
import Derived.Test.YtdnjflpmbnjgeaaPkBase
import Derived.OrdersHeld
import Derived.OrdersIn
import Derived.RangeFuncWrites
namespace Go.Proofs.Ytdnjflpmbnjgeaa
open Go.RowKit Go.Shelf
attribute [local go_sem] Oper.semAt_some
set_option maxRecDepth 100000 in
set_option maxHeartbeats 2000000 in
/-- No link: no round. -/
theorem links1_nil_in (F : Fence) (n : Nat) (h47 : F.fn 75) (hro : F.round = none) (l Bt Bc c2 : Nat) (A2 : Option Addr) {N : Nat} (J : List (Lk N) → World → Prop) (W : World) (hBt : W.cell? ⟨Bt, 2, none⟩ = some (.slice A2 0 c2)) (h0 : J [] W) :
    CallsIn F n Try.prog 75 #[.func (.yield l) #[] #[], .pointer (some ⟨Bt, 0, none⟩), .pointer (some ⟨Bc, 0, none⟩)] W fun e W' => (∃ v, e = .returned v) ∧ J [] W' := by
  refine callsIn_of_wp Try.func75 rfl h47 ?_ hro
  simp only [Try.ntmps75, List.size_toArray, List.length_cons, List.length_nil, Nat.reduceAdd, Nat.reduceSub, Array.replicate_succ, Array.replicate_zero, List.push_toArray, List.append_toArray, List.nil_append, List.cons_append]
  gi_wp2
  gi_loopw [10] (fun i wr => i = .int .i64 0 ∧ J [] wr) (fun _ _ => 0)
  case atStart => exact ⟨rfl, h0⟩
  case round =>
    obtain ⟨rfl, hJs⟩ := hrel
    gi_wp2
    go_end0
    exact ⟨⟨_, rfl⟩, hJs⟩
/-- The iterator's contract: all links of the component, or a part of them where a round has said 'no more'. -/
theorem links_stops (F : Fence) (n : Nat) (h47 : F.fn 75) (hro : F.round = none) (hn : 1 ≤ n) (Bt Bc n₀ : Nat) (t : Topo) (A2 : Option Addr) (c2 : Nat) (k m : Int) (hk : k = 1 ∨ k = 2 ∨ k = 3) (hlen : t.ls.length ≤ 100000)
    (w0 w : World) (h0 : n₀ = w0.heap.size) (hA : RdL w0 A2 t.ls) (hb : Below n₀ w0 w) (hBt : Bt < w.heap.size) (hBc : Bc < w.heap.size)
    (hcT : w.cell? ⟨Bt, 2, none⟩ = some (.slice A2 t.ls.length c2)) (hc0 : w.cell? ⟨Bc, 0, none⟩ = some (.int .i64 k)) (hc1 : w.cell? ⟨Bc, 1, none⟩ = some (.int .i64 m)) :
    SeqStopsK F n Try.prog 75 #[.pointer (some ⟨Bt, 0, none⟩), .pointer (some ⟨Bc, 0, none⟩)] (fun x : Lk t.ls.length => #[Value.int .i64 x.1]) (Kq n₀ Bc) (fun ys => ys = linksK t k m t.ls.length) (fun pre => ∃ j, j ≤ t.ls.length ∧ pre = linksK t k m j) t.ls.length w := fun l J Jx W hW hJ _ hY hJ0 => by
  subst h0
  have g0 := (hW.cell (p := ⟨Bt, 2, none⟩) hBt).trans hcT
  have g1 := (hW.cell (p := ⟨Bc, 0, none⟩) hBc).trans hc0
  have g2 := (hW.cell (p := ⟨Bc, 1, none⟩) hBc).trans hc1
  have hbW : Below w0.heap.size w0 W := hb.trans (hW.mono hb.size)
  rcases hA with hnil | ⟨b, o, rfl, hcell⟩
  · have hl0 : t.ls.length = 0 := by rw [hnil]; rfl
    rw [hl0] at g0
    refine (links1_nil_in F n h47 hro l Bt Bc c2 A2 J W g0 hJ0).mono fun e W' ⟨he, hj⟩ => ⟨he, .inl ⟨_, ?_, hj⟩⟩
    exact (List.eq_nil_of_length_eq_zero (by have := linksK_le t k m t.ls.length; omega)).symm
  · by_cases hl0 : t.ls.length = 0
    · rw [hl0] at g0
      refine (links1_nil_in F n h47 hro l Bt Bc c2 _ J W g0 hJ0).mono fun e W' ⟨he, hj⟩ => ⟨he, .inl ⟨_, ?_, hj⟩⟩
      exact (List.eq_nil_of_length_eq_zero (by have := linksK_le t k m t.ls.length; omega)).symm
    · have hx : t.ls[0]? = some (t.ls[0]'(by omega)) := List.getElem?_eq_getElem (by omega)
      have hbb : b < w0.heap.size := block_lt_of_cell (hcell 0 _ hx).q0
      exact links1_in F n h47 hro hn l Bt Bc w0.heap.size t b o c2 k m hk hlen hbb J Jx W hJ (Nat.lt_of_lt_of_le hBc hW.size) hbW.size hY g0 g1 g2 (fun j x hj => (hcell j x hj).up hbW) hJ0
/-- links(t, c): the parameters are boxed; the function value captures the boxes. -/
theorem links_in (F : Fence) (n : Nat) (h35 : F.fn 61) (hro : F.round = none) (x y z : Value) (k m : Int) (w : World) :
    CallsIn F n Try.prog 61 #[.agg #[x, y, z], .agg #[.int .i64 k, .int .i64 m]] w fun e w' => e = .returned (.func (.func 75) #[] #[.pointer (some ⟨w.heap.size, 0, none⟩), .pointer (some ⟨w.heap.size + 1, 0, none⟩)]) ∧ w' = (w.alloc (.cells #[x, y, z] 25)).alloc (.cells #[.int .i64 k, .int .i64 m] 77) := by
  refine callsIn_of_wp Try.func61 rfl h35 ?_ hro
  simp only [Try.ntmps61, List.size_toArray, List.length_cons, List.length_nil, Nat.reduceAdd, Nat.reduceSub, Array.replicate_succ, Array.replicate_zero, List.push_toArray, List.append_toArray, List.nil_append, List.cons_append]
  gi_wp2
  go_ret
  exact ⟨rfl, rfl⟩
theorem compV_kind {t : Topo} {k m : Int} (h : compV t k m = true) : k = 1 ∨ k = 2 ∨ k = 3 := by
  simp only [compV, Bool.and_eq_true] at h
  have h2 := h.2
  unfold compOk at h2
  by_cases h1 : k = 1
  · exact .inl h1
  · by_cases h3 : k = 2
    · exact .inr (.inl h3)
    · by_cases h4 : k = 3
      · exact .inr (.inr h4)
      · simp [h1, h3, h4] at h2
theorem compV_valid {t : Topo} {k m : Int} (h : compV t k m = true) : valid t = true := by
  simp only [compV, Bool.and_eq_true] at h
  exact h.1
theorem Kq_b {n₀ Bc : Nat} {w : World} (h1 : n₀ ≤ w.heap.size) (h2 : Bc < w.heap.size) (W : World) (l : Nat) (o o' : Obj) (hl : w.heap.size ≤ l) (h : W.heap[l]? = some o) (g1 : o.isCells = false) (g2 : o.isWalk = false) : Kq n₀ Bc W (W.putObj l o') :=
  ⟨belowK_b h1 W l o o' hl h g1 g2, World.putObj_heap_other (by omega)⟩
end Go.Proofs.Ytdnjflpmbnjgeaa
namespace Go.Proofs.Ytdnjflpmbnjgeaa
open Go.RowKit Go.Sort
/-- The cells of a slice of pairs. -/
def RdP (w : World) (A : Option Addr) (l : List (Int × Int)) : Prop :=
  l = [] ∨ ∃ b o, A = some ⟨b, o, none⟩ ∧ ∀ (k : Nat) (p : Int × Int), l[k]? = some p → w.cell? ⟨b, o + k * 2, none⟩ = some (.int .i64 p.1) ∧ w.cell? ⟨b, o + k * 2 + 1, none⟩ = some (.int .i64 p.2)
theorem RdP.below {w w' : World} {A : Option Addr} {l : List (Int × Int)} (h : RdP w A l) (hb : Below w.heap.size w w') : RdP w' A l := by
  rcases h with rfl | ⟨b, o, rfl, hc⟩
  · exact .inl rfl
  · exact .inr ⟨b, o, rfl, fun k p hp => ⟨cell_up hb (hc k p hp).1, cell_up hb (hc k p hp).2⟩⟩
theorem RdP.at_ {w : World} {A : Option Addr} {l : List (Int × Int)} {k : Nat} (h : RdP w A l) (hk : k < l.length) : ∃ b o p, A = some ⟨b, o, none⟩ ∧ l.drop k = p :: l.drop (k + 1) ∧ w.cell? ⟨b, o + k * 2, none⟩ = some (.int .i64 p.1) ∧ w.cell? ⟨b, o + k * 2 + 1, none⟩ = some (.int .i64 p.2) := by
  rcases h with rfl | ⟨b, o, rfl, hc⟩
  · simp at hk
  · exact ⟨b, o, l[k], rfl, List.drop_eq_getElem_cons hk, (hc k _ (List.getElem?_eq_getElem hk)).1, (hc k _ (List.getElem?_eq_getElem hk)).2⟩
theorem lt_of_heap' {w : World} {k : Nat} {o : Obj} (h : w.heap[k]? = some o) : k < w.heap.size := (Array.getElem?_eq_some_iff.1 h).1
/-- Is an arc one of a component? -/
def partA (t : Topo) (k m a : Int) : Bool := part t k m (a / 2)
end Go.Proofs.Ytdnjflpmbnjgeaa
namespace Go.Proofs.Ytdnjflpmbnjgeaa
/-- An operation that makes no call and defers nothing. -/
def simpleOp (o : Oper) : Bool :=
  match o.op with
  | .move _ | .assign _ | .load .. | .store .. | .binOp .. | .unOp .. | .fieldAddr .. | .indexAddr .. => true
  | _ => false
theorem run_valued {P : Program} {w w' : World} {s : Sem Value} {x : Next} (h : (do pure (.value (← s)) : Sem Next).run P w = .ok x w') : ∃ v, x = .value v := by
  rw [Sem.run_bind] at h
  cases hs : s.run P w with
  | ok v w1 => rw [hs] at h; simp [Result.andThen, Sem.run_pure] at h; exact ⟨v, h.1.symm⟩
  | halt e w1 => rw [hs] at h; simp [Result.andThen] at h
theorem run_skipped {P : Program} {w w' : World} {s : Sem Unit} {x : Next} (h : (do s; pure .skip : Sem Next).run P w = .ok x w') : x = .skip := by
  rw [Sem.run_bind] at h
  cases hs : s.run P w with
  | ok v w1 => rw [hs] at h; simp [Result.andThen, Sem.run_pure] at h; exact h.1.symm
  | halt e w1 => rw [hs] at h; simp [Result.andThen] at h
theorem simple_run {P : Program} {w w' : World} {ρ : Operand → Value} {o : Oper} {x : Next} (ho : simpleOp o = true) (h : (execOp ρ o).run P w = .ok x w') : (∃ v, x = .value v) ∨ x = .skip := by
  unfold simpleOp at ho
  unfold execOp at h
  cases hop : o.op <;> rw [hop] at ho h <;> first | (cases ho; done) | skip
  all_goals first
    | exact .inl (run_valued h)
    | exact .inr (run_skipped h)
    | (simp [Sem.run_pure] at h; exact .inl ⟨_, h.1.symm⟩)
theorem simple_about {P : Program} {w : World} {ρ : Operand → Value} {o : Oper} (ho : simpleOp o = true) : o.about P w ρ = none := by
  unfold simpleOp at ho
  unfold Oper.about
  cases hop : o.op <;> rw [hop] at ho <;> first | rfl | cases ho
theorem simple_defer {o : Oper} (ho : simpleOp o = true) : ∀ c, o.op ≠ .defer c := by
  intro c h
  unfold simpleOp at ho
  rw [h] at ho
  cases ho
theorem opsIn_of_ops {F : Fence} {n : Nat} {P : Program} {ops : Array Oper} {Q : Exit → Act → World → Prop} (hs : ∀ (i : Nat) (o : Oper), ops[i]? = some o → simpleOp o = true) (hQ : ¬ LetsOut Q) :
    ∀ (l : List Nat) (a : Act) (w : World), wpOps P ops Q l a w → wpOpsIn F n P ops Q l a w
  | [], _, _, h => h
  | i :: rest, a, w, h => by
    have ih := opsIn_of_ops (F := F) (n := n) (P := P) hs hQ rest
    unfold wpOps at h
    unfold wpOpsIn
    cases ho : ops[i]? with
    | none => rw [ho] at h; exact ih _ _ h
    | some o =>
      rw [ho] at h
      have hso := hs i o ho
      simp only at h ⊢
      by_cases hw : Region.wanted o (yielded ops a.tmps) = true
      · rw [if_pos hw] at h ⊢
        rcases h with h | ⟨_, h⟩
        · refine ⟨(fun f hf => by rw [simple_about hso] at hf; cases hf), ?_⟩
          rw [Oper.semAt_eq _ _ _ (simple_defer hso)]
          unfold Oper.wp at h
          cases hr : (execOp a.eval o).run P w with
          | ok x w' =>
            rw [hr] at h
            rcases simple_run hso hr with ⟨v, rfl⟩ | rfl
            · exact ih _ _ h
            · exact ih _ _ h
          | halt e w' =>
            rw [hr] at h
            cases e <;> first | exact h | exact h.elim
        · exact absurd h hQ
      · rw [if_neg hw] at h ⊢
        exact ⟨(fun f hf => by rw [simple_about hso] at hf; cases hf), ih _ _ h⟩
/-- A region that draws, inside a fence of whatever kind, by the law that holds a condition on the world. -/
theorem wpIn_region_held {F : Fence} {k : Nat} {P : Program} {id : Nat} {Q : Exit → Act → World → Prop} {a : Act} {w : World} {l : List Oper} (S : World → Prop) (hm : P.follows .mixedOrders = true) (hs : l.all simpleOp = true) (hQ : ¬ LetsOut Q)
    (h : wpAnyH P .any l.toArray Q S l.length (Array.replicate l.toArray.size false) a w.drew) : (Code.region id l.toArray true).wpIn F k P Q a w := by
  refine wpIn_region_draw fun t => ?_
  simp only [Region.schedule, hm, Bool.true_or, if_true]
  exact opsIn_of_ops (fun (i : Nat) (o : Oper) ho => List.all_eq_true.1 hs o (by simpa using Array.mem_of_getElem? ho)) hQ _ _ _ (wpAny_sound l.toArray.size t _ a _ (wpAny_of_held _ _ _ _ h))
theorem wpOp_ran {P : Program} {ops : Array Oper} {Q : Exit → Act → World → Prop} {i : Nat} {K : Act → World → Prop} {a : Act} {w : World} {o : Oper} (w' : World) (ho : ops[i]? = some o) (hw : Region.wanted o (yielded ops a.tmps) = true) (hr : (execOp a.eval o).run P w = .ok .skip w') (h : K (a.put o.dst undef) w') : wpOp P ops Q i K a w := by
  unfold wpOp
  simp only [ho, hw, if_true]
  exact .inl (by unfold Oper.wp; rw [hr]; exact h)
theorem letsOut_block {id : Nat} {α : Type} {B : Nat} {Kp : World → World → Prop} {I : List α → World → Prop} {Ix : Code → List α → World → Prop} {xs : List α} {W : World} : ¬ LetsOut (Exit.inBlock id (ownPostG B Kp I Ix xs W)) := by
  rintro ⟨a, w, h⟩
  exact h
end Go.Proofs.Ytdnjflpmbnjgeaa
