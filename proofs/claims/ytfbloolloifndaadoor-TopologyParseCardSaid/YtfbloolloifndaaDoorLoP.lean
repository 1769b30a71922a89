/-
  What code keeps that writes into several blocks and makes memory; a topology that is being made, through such code.
-/
import Derived.Test.YtfbloolloifndaaDoorIter
import Derived.Test.YtfbloolloifndaaDoorRTM
import Derived.Test.YtfbloolloifndaaDoorScan
namespace Go.Proofs.YtfbloolloifndaaDoor
set_option linter.unusedSimpArgs false
set_option linter.unusedVariables false
open Go.RowKit Go.Shelf Go.Sort

/-- What code keeps that writes into the blocks X and makes memory: all other blocks below base, and whatever holds no cells. -/
structure LoP (base : Nat) (X : List Nat) (W W' : World) : Prop where
  os : W'.os = W.os
  tape : W'.tape = W.tape
  output : W'.output = W.output
  size : W.heap.size ≤ W'.heap.size
  blk : ∀ k, k < base → k ∉ X → W'.heap[k]? = W.heap[k]?
  oth : ∀ (k : Nat) (o : Obj), W.heap[k]? = some o → o.isCells = false → W'.heap[k]? = some o
theorem LoP.refl (base : Nat) (X : List Nat) (W : World) : LoP base X W W := ⟨rfl, rfl, rfl, Nat.le_refl _, fun _ _ _ => rfl, fun _ _ h _ => h⟩
theorem LoP.trans {base : Nat} {X : List Nat} {A B C : World} (h : LoP base X A B) (g : LoP base X B C) : LoP base X A C :=
  ⟨g.os.trans h.os, g.tape.trans h.tape, g.output.trans h.output, Nat.le_trans h.size g.size, fun k hk hn => (g.blk k hk hn).trans (h.blk k hk hn), fun k o hk ho => g.oth k o (h.oth k o hk ho) ho⟩
theorem LoP.of_below {base : Nat} {X : List Nat} {W W' : World} (hb : Below W.heap.size W W') (hs : base ≤ W.heap.size) : LoP base X W W' :=
  ⟨hb.os, hb.tape, hb.output, hb.size, fun k hk _ => hb.block k (by omega), fun k o hk _ => (hb.block k (Array.getElem?_eq_some_iff.1 hk).1).trans hk⟩
theorem LoP.append {base : Nat} {X : List Nat} {W w1 : World} {e : TypeId} {size n : Nat} {v : Value} {xs : List Value} {tmp : Obj} (hrow : W.ownsRow base e size v n xs) (hg : (W.alloc tmp).grownBy w1 v.ownBlock) (hs : base ≤ W.heap.size) : LoP base X W w1 := by
  have hb := below_box W tmp
  refine ⟨hg.os.trans hb.os, hg.tape.trans hb.tape, hg.output.trans hb.output, Nat.le_trans hb.size hg.size, fun k hk _ => ?_, fun k o hk ho => ?_⟩
  · rw [hg.block k (by have := hb.size; omega) (fun e => by have := (hrow.lt k e.symm).1; omega), hb.block k (by omega)]
  · have hlt := (Array.getElem?_eq_some_iff.1 hk).1
    rw [hg.block k (by have := hb.size; omega) (fun e => ?_), hb.block k hlt, hk]
    rcases hrow.2 with ⟨rfl, _⟩ | ⟨g, cap, cur, rfl, _, hgb, _⟩
    · simp [Value.ownBlock] at e
    · obtain rfl : k = g := by simpa [Value.ownBlock] using e
      rw [hgb] at hk; cases hk; cases ho
theorem LoP.set {base b : Nat} {X : List Nat} {W : World} {t : TypeId} {v : Value} (h : Boxed W b t v) (hX : b ∈ X) (u : Value) : LoP base X W (W.setCell ⟨b, 0, none⟩ u) := by
  have hg := grownBy_setCell' W b u
  refine ⟨hg.os, hg.tape, hg.output, hg.size, fun k hk hn => ?_, fun k o hk ho => ?_⟩
  · exact Below.heap_setCell _ _ _ _ (fun e => hn (by have e' : k = b := e; rw [e']; exact hX))
  · rw [Below.heap_setCell _ _ _ _ (fun e => ?_), hk]
    have e' : k = b := e
    rw [e', show W.heap[b]? = _ from h] at hk; cases hk; cases ho
theorem LoP.mono {base : Nat} {X Y : List Nat} {W W' : World} (h : LoP base X W W') (hs : ∀ b ∈ X, b ∈ Y) : LoP base Y W W' := ⟨h.os, h.tape, h.output, h.size, fun k hk hn => h.blk k hk (fun hm => hn (hs k hm)), h.oth⟩
theorem LoP.drew {base : Nat} {X : List Nat} {W W' : World} (h : LoP base X W W') : LoP base X W W'.drew := ⟨h.os, h.tape, h.output, h.size, h.blk, h.oth⟩
theorem LoP.keeps {base B' : Nat} {X : List Nat} {W W' : World} (h : LoP base X W W') : KeepsFrom B' W W' := ⟨h.size, fun k o _ hk ho => h.oth k o hk ho⟩
theorem LoP.box {base b : Nat} {X : List Nat} {W W' : World} {t : TypeId} {v : Value} (h : LoP base X W W') (hb : Boxed W b t v) (h1 : b < base) (h2 : b ∉ X) : Boxed W' b t v := (h.blk b h1 h2).trans hb
theorem LoP.below {base n₀ : Nat} {X : List Nat} {w W W' : World} (h : LoP base X W W') (hb : Below n₀ w W) (h1 : n₀ ≤ base) (h2 : ∀ b ∈ X, n₀ ≤ b) : Below n₀ w W' :=
  ⟨h.os.trans hb.os, h.tape.trans hb.tape, h.output.trans hb.output, Nat.le_trans hb.size h.size, fun k hk => (h.blk k (by omega) (fun hm => by have := h2 k hm; omega)).trans (hb.block k hk)⟩

theorem Firm.ex {β γ : Type} {B Bs : Nat} {J : β × γ → World → Prop} (h : Firm B Bs J) : Firm B Bs fun s W => ∃ g, J (s, g) W := by
  rintro s X Y r ⟨g, hs⟩ hg hr
  exact ⟨g, h (s, g) X Y r hs hg hr⟩
theorem Firm.or {β : Type} {B Bs : Nat} {I J : β → World → Prop} (h : Firm B Bs I) (g : Firm B Bs J) : Firm B Bs fun s W => I s W ∨ J s W := by
  rintro s X Y r (hs | hs) hg hr
  · exact .inl (h s X Y r hs hg hr)
  · exact .inr (g s X Y r hs hg hr)


theorem LoP.of_grown {base b : Nat} {X : List Nat} {W W' : World} {cs : Array Value} {T : TypeId} {fr : Nat × Nat} (hc : W.heap[b]? = some (.cells cs T fr)) (hX : b ∈ X ∨ base ≤ b) (hg : W.grownBy W' (some b)) (hs : base ≤ W.heap.size) : LoP base X W W' := by
  refine ⟨hg.os, hg.tape, hg.output, hg.size, fun k hk hn => hg.block k (by omega) (fun e => ?_), fun k o hk ho => ?_⟩
  · injection e with e
    subst e
    rcases hX with h | h
    · exact hn h
    · omega
  · rw [hg.block k (Array.getElem?_eq_some_iff.1 hk).1 (fun e => ?_), hk]
    injection e with e
    subst e
    rw [hc] at hk; cases hk; cases ho
theorem LoP.setC {base b j : Nat} {X : List Nat} {W : World} {cs : Array Value} {T : TypeId} {fr : Nat × Nat} (hc : W.heap[b]? = some (.cells cs T fr)) (hX : b ∈ X ∨ base ≤ b) (hs : base ≤ W.heap.size) (u : Value) : LoP base X W (W.setCell ⟨b, j, none⟩ u) :=
  LoP.of_grown hc hX ⟨rfl, rfl, rfl, by simp, fun k _ hn => Below.heap_setCell _ _ _ _ (fun e => hn (by rw [e]))⟩ hs
theorem LoP.setRow {base B g j : Nat} {X : List Nat} {W : World} {E : TypeId} {size n : Nat} {v : Value} {xs : List Value} (ho : W.ownsRow B E size v n xs) (hv : v.ownBlock = some g) (hb : base ≤ B) (hs : base ≤ W.heap.size) (u : Value) : LoP base X W (W.setCell ⟨g, j, none⟩ u) := by
  rcases ho.2 with ⟨rfl, _⟩ | ⟨g', cap, cur, rfl, hB, hg, _⟩
  · simp [Value.ownBlock] at hv
  · simp only [Value.ownBlock, Option.some.injEq] at hv
    subst hv
    exact LoP.setC hg (.inr (by omega)) hs u
theorem LoP.put {base D : Nat} {X : List Nat} {w W : World} (h : LoP base X w W) (hD : w.heap.size ≤ D) (hs : base ≤ w.heap.size) (o : Obj) : LoP base X w (W.putObj D o) :=
  ⟨h.os, h.tape, h.output, by have := h.size; simpa using this, fun k hk hn => (World.putObj_heap_other (by omega)).trans (h.blk k hk hn), fun k o' hk ho => (World.putObj_heap_other (by have := (Array.getElem?_eq_some_iff.1 hk).1; omega)).trans (h.oth k o' hk ho)⟩

/-! A topology that is being made. -/
theorem RT.regrown {tb base : Nat} {t : Topo} {ov ls : Value} {w w' : World} (h : RT tb base t ov ls w) (hg : w.grownBy w' (some tb)) {n : Int} (hst : w'.heap[tb]? = some (.cells #[.int .i64 n, ov, ls] 25 (0, 0))) : RT tb base { t with n := n } ov ls w' :=
  ⟨hst, h.ho.kept hg (.inr (own_tb h.ho h.lt)), h.hl.kept hg (.inr (own_tb h.hl h.lt)), h.ne, h.lt, Nat.le_trans h.sz hg.size⟩
theorem RT.other {tb base g : Nat} {t : Topo} {ov ls : Value} {w w' : World} (h : RT tb base t ov ls w) (hg : w.grownBy w' (some g)) (h1 : g ≠ tb) (h2 : ov.ownBlock ≠ some g) (h3 : ls.ownBlock ≠ some g) : RT tb base t ov ls w' :=
  ⟨(hg.block tb (lt_of_heap h.st) (fun e => h1 (by injection e with e; exact e.symm))).trans h.st, h.ho.kept hg (.inr h2), h.hl.kept hg (.inr h3), h.ne, h.lt, Nat.le_trans h.sz hg.size⟩
theorem RT.put {tb base D : Nat} {t : Topo} {ov ls : Value} {w : World} {o : Obj} (h : RT tb base t ov ls w) (hk : w.heap[D]? = some o) (ho : o.isCells = false) (o' : Obj) : RT tb base t ov ls (w.putObj D o') := by
  have hne : ∀ {g : Nat} {cs : Array Value} {T : TypeId} {fr : Nat × Nat}, w.heap[g]? = some (.cells cs T fr) → (w.putObj D o').heap[g]? = some (.cells cs T fr) := fun hg =>
    (World.putObj_heap_other (fun e => by subst e; rw [hg] at hk; cases hk; cases ho)).trans hg
  exact ⟨hne h.st, ownsRow_putObj h.ho o' hk ho, ownsRow_putObj h.hl o' hk ho, h.ne, h.lt, by simpa using h.sz⟩
theorem firmRT {β : Type} {n Bs tb base : Nat} {f : β → Topo} {ov ls : β → Value} (h1 : tb ≠ Bs) (h2 : Bs < base) : Firm n Bs fun (s : β) (W : World) => RT tb base (f s) (ov s) (ls s) W := by
  intro s X Y r h hg hr
  have key : ∀ {g : Nat} {cs : Array Value} {T : TypeId} {fr : Nat × Nat}, X.heap[g]? = some (.cells cs T fr) → g ≠ Bs → g ≠ r := by
    intro g cs T fr hgx hgb e
    rcases hr with rfl | ⟨_, o, ho, hc⟩
    · exact hgb e
    · subst e; rw [hgx] at ho; cases ho; cases hc
  have row : ∀ {E : TypeId} {size : Nat} {v : Value} {n : Nat} {xs : List Value}, X.ownsRow base E size v n xs → v.ownBlock ≠ some r := by
    intro E size v n xs ho e
    rcases ho.2 with ⟨rfl, _⟩ | ⟨g, cap, cur, rfl, hb, hgx, _⟩
    · simp [Value.ownBlock] at e
    · simp only [Value.ownBlock, Option.some.injEq] at e
      exact key hgx (by omega) e
  exact h.other hg (fun e => key h.st h1 e.symm) (row h.ho) (row h.hl)

/-! The errors' variables, the tables. -/
def ET (n0 : Nat) (w : World) : Prop := ∀ w' : World, (∀ k, k < n0 → w'.heap[k]? = w.heap[k]?) → Errs w'
theorem ET.up {n0 : Nat} {w w' : World} (h : ET n0 w) (hk : ∀ k, k < n0 → w'.heap[k]? = w.heap[k]?) : ET n0 w' := fun W hW => h W fun k hkn => (hW k hkn).trans (hk k hkn)
theorem var_upN {w w' : World} {name : String} {cs : Array Value} (h : w.var? Tryd.prog name = some cs) (hb : ∀ k, k < w.heap.size → w'.heap[k]? = w.heap[k]?) : w'.var? Tryd.prog name = some cs := by
  unfold World.var? at h ⊢
  cases hg : Tryd.prog.globalNamed name with
  | none => rw [hg] at h; simp at h
  | some g =>
    rw [hg] at h
    simp only [Option.bind_some] at h ⊢
    cases ho : w.heap[g]? with
    | none => rw [ho] at h; simp at h
    | some o => rw [hb g (Array.getElem?_eq_some_iff.1 ho).1, ho]; rw [ho] at h; exact h
theorem ET.of {w : World} (h : Errs w) : ET w.heap.size w := fun w' hk => by
  obtain ⟨⟨t1, p1, h1⟩, t2, p2, h2⟩ := h
  exact ⟨⟨t1, p1, var_upN h1 hk⟩, t2, p2, var_upN h2 hk⟩

/-! What scan asks of its lists. -/
theorem words_keep {w : World} {B : Nat} {Aw : Option Addr} {cw pb : Nat} {ws : List (List UInt8)} (h : w.ownsRow B 9 1 (.slice Aw ws.length cw) ws.length (ws.map strW)) (hp : (Value.slice Aw ws.length cw).ownBlock ≠ some pb) :
    ∀ w', w.grownBy w' (some pb) → ∀ (k : Nat) x, ws[k]? = some x → ∃ b o, Aw = some ⟨b, o, none⟩ ∧ w'.cell? ⟨b, o + k, none⟩ = some (.string ⟨x.toArray⟩) := by
  intro w' hg k x hx
  obtain ⟨A, c, e, _, _, hr⟩ := rd_of_own (h.kept hg (.inr hp))
  injection e with e1 e2 e3
  subst e1
  exact hr.at_ (u := strW x) (by rw [List.getElem?_map, hx]; rfl)
theorem ptrs_keep {w : World} {qb pb m : Nat} (hq : ∀ k, k < m → w.cell? ⟨qb, k, none⟩ = some (.pointer (some ⟨pb, k, none⟩))) (hne : qb ≠ pb) (hlt : qb < w.heap.size) :
    ∀ w', w.grownBy w' (some pb) → ∀ k, k < m → w'.cell? ⟨qb, k, none⟩ = some (.pointer (some ⟨pb, k, none⟩)) := fun w' hg k hk =>
  (World.cell?_of_block (a := ⟨qb, k, none⟩) (hg.block qb hlt (fun e => hne (by injection e)))).trans (hq k hk)

end Go.Proofs.YtfbloolloifndaaDoor
