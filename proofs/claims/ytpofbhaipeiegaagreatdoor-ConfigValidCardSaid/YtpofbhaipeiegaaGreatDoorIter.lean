/-
  A range over an iterator that keeps its place in one captured cell (strings.SplitSeq and its kin): the iterator's contract, and the law for its caller. Nothing of the program is stated here.
-/
import Derived.Test.YtpofbhaipeiegaaGreatDoorBase
import Derived.RangeFuncNested
import Derived.RangeFuncBound
import Derived.RangeFuncCalls
import Derived.RangeFuncLeaves
import Derived.RangeFuncBox
import Derived.Shelf.Abstract
import Derived.OwnWalkIn
import Derived.TacticsInMore
import Derived.LoopNIn
import Derived.LoopIn
namespace Go.Proofs.YtpofbhaipeiegaaGreatDoor
open Go.RowKit Go.Shelf

/-- What abides a turn of the cell Bs, and new blocks. -/
def Steady {β : Type} (Bs : Nat) (J : β → World → Prop) : Prop := ∀ s X Y, J s X → X.grownBy Y (some Bs) → J s Y
/-- What abides, beside that, a turn of a block from B on that holds no cells. -/
def Firm {β : Type} (B Bs : Nat) (I : β → World → Prop) : Prop :=
  ∀ s X Y r, I s X → X.grownBy Y (some r) → (r = Bs ∨ (B ≤ r ∧ ∃ o : Obj, X.heap[r]? = some o ∧ o.isCells = false)) → I s Y
theorem Firm.steady {β : Type} {B Bs : Nat} {I : β → World → Prop} (h : Firm B Bs I) : Steady Bs I := fun s X Y hs hg => h s X Y Bs hs hg (.inl rfl)
theorem Firm.put {β : Type} {B Bs : Nat} {I : β → World → Prop} (h : Firm B Bs I) {s : β} {X : World} {l : Nat} {o : Obj} (o' : Obj) (hs : I s X) (hB : B ≤ l) (hl : X.heap[l]? = some o) (ho : o.isCells = false) : I s (X.putObj l o') :=
  h s X _ l hs (grownBy_putObj' X l o') (.inr ⟨hB, o, hl, ho⟩)
theorem Firm.and {β : Type} {B Bs : Nat} {I J : β → World → Prop} (h : Firm B Bs I) (g : Firm B Bs J) : Firm B Bs fun s W => I s W ∧ J s W :=
  fun s X Y r hs hg hr => ⟨h s X Y r hs.1 hg hr, g s X Y r hs.2 hg hr⟩
theorem Firm.pure {β : Type} {B Bs : Nat} (p : β → Prop) : Firm B Bs fun s (_ : World) => p s := fun _ _ _ _ hs _ _ => hs
theorem Firm.below {β : Type} {B Bs n₀ : Nat} {w₀ : World} (hn : n₀ ≤ w₀.heap.size) (h1 : n₀ ≤ B) (h2 : n₀ ≤ Bs) : Firm B Bs fun (_ : β) W => Below n₀ w₀ W :=
  fun _ _ _ r hs hg hr => hs.grown hg (Nat.le_trans hn hs.size) (fun k e => by cases e; rcases hr with rfl | ⟨h, _⟩ <;> omega)
theorem Firm.size {β : Type} {B Bs n : Nat} : Firm B Bs fun (_ : β) (W : World) => n ≤ W.heap.size := fun _ _ _ _ hs hg _ => Nat.le_trans hs hg.size
/-- A block of cells, other than Bs. -/
theorem Firm.blk {β : Type} {B Bs b : Nat} {f : β → Array Value} {T : TypeId} {fr : Nat × Nat} (hne : b ≠ Bs) : Firm B Bs fun (s : β) (W : World) => W.heap[b]? = some (.cells (f s) T fr) := by
  intro s X Y r hs hg hr
  refine (hg.block b (Array.getElem?_eq_some_iff.1 hs).1 (fun e => ?_)).trans hs
  obtain rfl : b = r := by simpa using e
  rcases hr with rfl | ⟨_, o, ho, hc⟩
  · exact hne rfl
  · rw [hs] at ho; cases ho; cases hc
/-- A cell and a row of the caller's own: the box of a slice, and what it holds. -/
theorem Firm.row {β : Type} {B Bs base b : Nat} {t e : TypeId} {size : Nat} (cnt : β → Nat) (xs : β → List Value) (hne : b ≠ Bs) (hbs : ∀ (W : World) v s, W.ownsRow base e size v (cnt s) (xs s) → v.ownBlock ≠ some Bs) : Firm B Bs fun (s : β) (W : World) => ∃ v, Boxed W b t v ∧ W.ownsRow base e size v (cnt s) (xs s) := by
  intro s X Y r hs hg hr
  obtain ⟨v, hv, ho⟩ := hs
  have h1 : b ≠ r := by
    rintro rfl
    rcases hr with rfl | ⟨_, o, hoo, hc⟩
    · exact hne rfl
    · rw [show X.heap[b]? = _ from hv] at hoo; cases hoo; cases hc
  refine ⟨v, hv.kept hg (fun e' => h1 (by simpa using e')), ho.kept hg (.inr fun e' => ?_)⟩
  rcases hr with rfl | ⟨_, o, hoo, hc⟩
  · exact hbs _ _ _ ho e'
  · rcases ho.2 with ⟨rfl, _⟩ | ⟨g, cap, cur, rfl, _, hgb, _⟩
    · simp [Value.ownBlock] at e'
    · obtain rfl : g = r := by simpa [Value.ownBlock] using e'
      rw [hgb] at hoo; cases hoo; cases hc

/-- The iterator's contract: the elements ps come one by one; between two rounds nothing but the cell Bs turns. -/
def IterC {α : Type} (F : Fence) (n : Nat) (P : Program) (g : Nat) (lb : Array Value) (enc : α → Value) (Bs : Nat) (Kp : World → World → Prop) (ps : List α) (w : World) : Prop :=
  ∀ (l : Nat) (J Jx : Nat → World → Prop) (W : World), Below w.heap.size w W → Steady Bs J → Steady Bs Jx →
    (∀ k x W1, J k W1 → ps[k]? = some x → YieldAt F (n - 1) P l #[enc x] W1 fun e W' => (e = .returned (.bool true) ∧ J (k + 1) W' ∧ Kp W1 W') ∨ (e = .returned (.bool false) ∧ Jx (k + 1) W')) →
    J 0 W →
    CallsIn F n P g (#[.func (.yield l) #[] #[]] ++ lb) W fun e W' => (∃ v, e = .returned v) ∧ (J ps.length W' ∨ ∃ k, k ≤ ps.length ∧ Jx k W')

/-- How a round may be left. -/
def postC (B : Nat) (Kp : World → World → Prop) (I : Nat → World → Prop) (Ix : Code → Nat → World → Prop) (k : Nat) (W : World) : Exit → Act → World → Prop
  | .normal, _, W' => KeepsFrom B W W' ∧ Kp W W' ∧ I k W'
  | .ret, _, W' => KeepsFrom B W W' ∧ Ix .ret k W'
  | .exit id, _, W' => KeepsFrom B W W' ∧ Ix (.exit id) k W'
  | .goto t, _, W' => KeepsFrom B W W' ∧ Ix (.goto t) k W'
  | .panic _, _, _ => False
  | .outgrown, _, _ => False

set_option maxHeartbeats 1000000 in
theorem rangeC {α : Type} {F : Fence} {n : Nat} {P : Program} {g : Operand} {pr : Array Tmp} {assign body : Code} {Q : Exit → Act → World → Prop} {a : Act} {w : World}
    (hro : F.round = none) (h1 : 1 ≤ n) {gf : Nat} {lb : Array Value} (hg : a.eval g = .func (.func gf) #[] lb) (hFg : F.fn gf) (eg : ∀ args w, (callFunc gf args).run P w = .ok (.enter gf args) w)
    {enc : α → Value} {Bs : Nat} {Kp : World → World → Prop} {ps : List α} (hBs : Bs < w.heap.size) (hseq : IterC F (n - 1) P gf lb enc Bs Kp ps w)
    (hKt : ∀ {A B C : World}, Kp A B → Kp B C → Kp A C) (hKb : ∀ (W : World) (l : Nat) (o' : Obj), w.heap.size ≤ l → l < W.heap.size → Kp W (W.putObj l o')) (hpr : pr.size = 1)
    (I : Nat → World → Prop) (Ix : Code → Nat → World → Prop) (hI : Firm w.heap.size Bs I) (hIx : ∀ c, Firm w.heap.size Bs (Ix c)) (h0 : I 0 w) (a₁ : α → Act)
    (hassign : ∀ (l : Nat) (x : α) (W : World) (K : Act → World → Prop), K (a₁ x) W → assign.wpIn (F.inRound l) (n - 1 - 1) P (Exit.then K (fun _ _ _ => False)) { tmps := (pr.zip #[enc x]).foldl (fun t (p, v) => t.setIfInBounds p v) a.tmps, defers := [] } W)
    (hbody : ∀ (l k : Nat) (x : α) (W : World), I k W → ps[k]? = some x → body.wpIn (F.inRound l) (n - 1 - 1) P (postC w.heap.size Kp I Ix (k + 1) W) (a₁ x) W)
    (hdone : ∀ (D : Nat) (W : World), w.heap.size ≤ D → I ps.length W → W.heap[D]? = some (.deferred (some [])) → Q .normal { a with defers := { target := .collected D, args := #[] } :: a.defers } W)
    (hstop : ∀ (D : Nat) (c : Code) (k : Nat) (W : World), w.heap.size ≤ D → k ≤ ps.length → Ix c k W → W.heap[D]? = some (.deferred (some [])) → c.wpIn F n P Q { a with defers := { target := .collected D, args := #[] } :: a.defers } W) :
    (Code.rangeFunc g pr assign body).wpIn F n P Q a w := by
  refine wpIn_rangeFunc fun fn hfn => ?_
  rw [hro]
  obtain ⟨R, hR⟩ : ∃ R : LoopState → Option Code → Loop, R = fun st pe => { state := st, pending := pe, fn := fn, tmps := a.tmps, params := pr, assign := assign, body := body, defers := w.heap.size } := ⟨_, rfl⟩
  obtain ⟨D, hD⟩ : ∃ D, D = w.heap.size := ⟨_, rfl⟩
  obtain ⟨L, hL⟩ : ∃ L, L = w.heap.size + 1 := ⟨_, rfl⟩
  have hgrow : w.grownBy ((w.alloc (.deferred (some []))).alloc (.loop (R .ready none))) (some Bs) := by
    have g1 := World.grownBy_alloc w (.deferred (some [])) (some Bs)
    have g2 := World.grownBy_alloc (w.alloc (.deferred (some []))) (.loop (R .ready none)) (some Bs)
    exact ⟨g2.os.trans g1.os, g2.tape.trans g1.tape, g2.output.trans g1.output, Nat.le_trans g1.size g2.size, fun k hk hne => (g2.block k (Nat.lt_of_lt_of_le hk g1.size) hne).trans (g1.block k hk hne)⟩
  have hbel : Below w.heap.size w ((w.alloc (.deferred (some []))).alloc (.loop (R .ready none))) := ((Below.refl _ w).alloc (Nat.le_refl _) _).alloc (by simp) _
  have hl1 : ((w.alloc (.deferred (some []))).alloc (.loop (R .ready none))).heap[L]? = some (.loop (R .ready none)) := by
    rw [hL]; have := World.alloc_heap_new (w.alloc (.deferred (some []))) (.loop (R .ready none)); rwa [World.size_alloc] at this
  have hd1 : ((w.alloc (.deferred (some []))).alloc (.loop (R .ready none))).heap[D]? = some (.deferred (some [])) := by
    rw [hD]; exact (Below.heap_alloc _ _ _ (by simp)).trans (World.alloc_heap_new w _)
  have hi1 : I 0 ((w.alloc (.deferred (some []))).alloc (.loop (R .ready none))) := hI.steady 0 _ _ h0 hgrow
  have hrun : (Instr.enterLoop fn a.tmps pr assign body none).run P w = .ok (L, [{ target := .collected D, args := #[] }]) ((w.alloc (.deferred (some []))).alloc (.loop (R .ready none))) := by
    rw [hR, hL, hD]; exact run_enterLoop_outer _ _ _ _ _
  generalize (w.alloc (.deferred (some []))).alloc (.loop (R .ready none)) = W1 at *
  have hLB : L ≠ Bs := by omega
  have hDB : D ≠ Bs := by omega
  have hDL : D ≠ L := by omega
  have kept : ∀ {X Y : World} {b : Nat} {o : Obj}, b ≠ Bs → X.grownBy Y (some Bs) → X.heap[b]? = some o → Y.heap[b]? = some o := fun hb hg hx =>
    (hg.block _ (Array.getElem?_eq_some_iff.1 hx).1 (fun e => hb (by simpa using e))).trans hx
  refine ⟨L, [{ target := .collected D, args := #[] }], W1, { target := .fn (.func gf) lb, args := #[.func (.yield L) #[] #[]] }, W1, gf, #[.func (.yield L) #[] #[]] ++ lb, W1, hrun, ?_, ?_, ?_, fun _ => h1, ?_⟩
  · simp only [resolve, hg]
    simp [go_sem]
  · intro f' hf'
    simp [Target.leads] at hf'
    exact hf' ▸ hFg
  · simp [invoke, go_sem, eg]
  have round : ∀ k x W, (I k W ∧ W.heap[L]? = some (.loop (R .ready none)) ∧ W.heap[D]? = some (.deferred (some []))) → ps[k]? = some x →
      YieldAt F (n - 1 - 1) P L #[enc x] W fun e W' => (e = .returned (.bool true) ∧ (I (k + 1) W' ∧ W'.heap[L]? = some (.loop (R .ready none)) ∧ W'.heap[D]? = some (.deferred (some []))) ∧ Kp W W') ∨
        (e = .returned (.bool false) ∧ ∃ c, Ix c (k + 1) W' ∧ W'.heap[L]? = some (.loop (R .done (some c))) ∧ W'.heap[D]? = some (.deferred (some []))) := by
    rintro k x W ⟨hi, hl, hd⟩ hx
    have hlt : L < W.heap.size := (Array.getElem?_eq_some_iff.1 hl).1
    have hy := run_yield (P := P) (args := #[enc x]) hl (by rw [hR]; simp [hpr])
    rw [hR] at hy
    refine ⟨fn, _, assign, body, hy, roundIn_of_wpIn hfn (hassign _ x W _ ⟨_, run_beginRound hl (by rw [hR]), ?_⟩)⟩
    have k1 : Kp W (W.putObj L (.loop { R .ready none with state := .busy })) := hKb _ _ _ (by omega) hlt
    have i1 : I k (W.putObj L (.loop { R .ready none with state := .busy })) := hI.put _ hi (by omega) hl rfl
    have l1 : (W.putObj L (.loop { R .ready none with state := .busy })).heap[L]? = some (.loop { R .ready none with state := .busy }) := World.putObj_heap_same hlt
    have d1 : (W.putObj L (.loop { R .ready none with state := .busy })).heap[D]? = some (.deferred (some [])) := (World.putObj_heap_other hDL).trans hd
    generalize W.putObj L (.loop { R .ready none with state := .busy }) = W2 at *
    refine wpIn_mono (hbody _ k x W2 i1 hx) ?_
    have last : ∀ (jump : Option Code) (W3 : World), KeepsFrom w.heap.size W2 W3 → ∃ W4, W4 = W3.putObj L (.loop (R (if jump.isNone then .ready else .done) jump)) ∧ (Instr.endRound L jump).run P W3 = .ok (.bool jump.isNone) W4 ∧
        W4.heap[L]? = some (.loop (R (if jump.isNone then .ready else .done) jump)) ∧ W4.heap[D]? = some (.deferred (some [])) ∧ W3.heap[L]? = some (.loop { R .ready none with state := .busy }) := by
      intro jump W3 hk
      have l3 := hk.same L _ (by omega) l1 rfl
      have d3 := hk.same D _ (by omega) d1 rfl
      have hr := run_endRound (P := P) jump l3
      refine ⟨_, rfl, ?_, World.putObj_heap_same (Array.getElem?_eq_some_iff.1 l3).1, (World.putObj_heap_other hDL).trans d3, l3⟩
      rw [hR] at hr ⊢
      exact hr
    intro e a3 W3 hp
    cases e with
    | normal =>
      obtain ⟨hk, hkp, hi3⟩ := hp
      obtain ⟨W4, hW4, hr, hl4, hd4, l3⟩ := last none W3 hk
      refine ⟨_, W4, hr, .inl ⟨rfl, ⟨?_, hl4, hd4⟩, ?_⟩⟩
      · rw [hW4]; exact hI.put _ hi3 (by omega) l3 rfl
      · rw [hW4]; exact hKt (hKt k1 hkp) (hKb _ _ _ (by omega) (Array.getElem?_eq_some_iff.1 l3).1)
    | ret =>
      obtain ⟨hk, hi3⟩ := hp
      obtain ⟨W4, hW4, hr, hl4, hd4, l3⟩ := last (some .ret) W3 hk
      exact ⟨_, W4, hr, .inr ⟨rfl, .ret, hW4 ▸ (hIx _).put _ hi3 (by omega) l3 rfl, hl4, hd4⟩⟩
    | exit id =>
      obtain ⟨hk, hi3⟩ := hp
      obtain ⟨W4, hW4, hr, hl4, hd4, l3⟩ := last (some (.exit id)) W3 hk
      exact ⟨_, W4, hr, .inr ⟨rfl, .exit id, hW4 ▸ (hIx _).put _ hi3 (by omega) l3 rfl, hl4, hd4⟩⟩
    | goto t =>
      obtain ⟨hk, hi3⟩ := hp
      obtain ⟨W4, hW4, hr, hl4, hd4, l3⟩ := last (some (.goto t)) W3 hk
      exact ⟨_, W4, hr, .inr ⟨rfl, .goto t, hW4 ▸ (hIx _).put _ hi3 (by omega) l3 rfl, hl4, hd4⟩⟩
    | panic ch => exact hp.elim
    | outgrown => exact hp.elim
  refine (hseq L (fun k W => I k W ∧ W.heap[L]? = some (.loop (R .ready none)) ∧ W.heap[D]? = some (.deferred (some [])))
    (fun k W => ∃ c, Ix c k W ∧ W.heap[L]? = some (.loop (R .done (some c))) ∧ W.heap[D]? = some (.deferred (some []))) W1 hbel
    (fun s X Y hs hg' => ⟨hI.steady s X Y hs.1 hg', kept hLB hg' hs.2.1, kept hDB hg' hs.2.2⟩)
    (fun s X Y hs hg' => by obtain ⟨c, hc, hl, hd⟩ := hs; exact ⟨c, (hIx c).steady s X Y hc hg', kept hLB hg' hl, kept hDB hg' hd⟩)
    round ⟨hi1, hl1, hd1⟩).mono ?_
  rintro e W2 ⟨⟨v, rfl⟩, (⟨hi, hl, hd⟩ | ⟨k, hk, c, hi, hl, hd⟩)⟩
  · refine ⟨none, _, by have := run_endLoop (P := P) hl (by rw [hR]; simp); rw [hR] at this; exact this, ?_⟩
    exact hdone D _ (by omega) (hI.put _ hi (by omega) hl rfl) ((World.putObj_heap_other hDL).trans hd)
  · refine ⟨some c, _, by have := run_endLoop (P := P) hl (by rw [hR]; simp); rw [hR] at this; exact this, ?_⟩
    exact hstop D c k _ (by omega) hk ((hIx c).put _ hi (by omega) hl rfl) ((World.putObj_heap_other hDL).trans hd)

/-- What a round of a caller's keeps: all blocks below base but B, and whatever holds no cells. -/
structure Lo (base B : Nat) (W W' : World) : Prop where
  os : W'.os = W.os
  tape : W'.tape = W.tape
  output : W'.output = W.output
  size : W.heap.size ≤ W'.heap.size
  blk : ∀ k, k < base → k ≠ B → W'.heap[k]? = W.heap[k]?
  oth : ∀ (k : Nat) (o : Obj), W.heap[k]? = some o → o.isCells = false → W'.heap[k]? = some o
theorem Lo.refl (base B : Nat) (W : World) : Lo base B W W := ⟨rfl, rfl, rfl, Nat.le_refl _, fun _ _ _ => rfl, fun _ _ h _ => h⟩
theorem Lo.trans {base B : Nat} {X Y Z : World} (h : Lo base B X Y) (g : Lo base B Y Z) : Lo base B X Z :=
  ⟨g.os.trans h.os, g.tape.trans h.tape, g.output.trans h.output, Nat.le_trans h.size g.size, fun k hk hn => (g.blk k hk hn).trans (h.blk k hk hn), fun k o hk ho => g.oth k o (h.oth k o hk ho) ho⟩
theorem Lo.of_below {base B : Nat} {W W' : World} (hb : Below W.heap.size W W') (hs : base ≤ W.heap.size) : Lo base B W W' :=
  ⟨hb.os, hb.tape, hb.output, hb.size, fun k hk _ => hb.block k (by omega), fun k o hk _ => (hb.block k (Array.getElem?_eq_some_iff.1 hk).1).trans hk⟩
theorem Lo.append {base B : Nat} {W w1 : World} {e : TypeId} {size n : Nat} {v : Value} {xs : List Value} {tmp : Obj} (hrow : W.ownsRow base e size v n xs) (hg : (W.alloc tmp).grownBy w1 v.ownBlock) (hs : base ≤ W.heap.size) : Lo base B W w1 := by
  have hb := below_box W tmp
  refine ⟨hg.os.trans hb.os, hg.tape.trans hb.tape, hg.output.trans hb.output, Nat.le_trans hb.size hg.size, fun k hk _ => ?_, fun k o hk ho => ?_⟩
  · rw [hg.block k (by have := hb.size; omega) (fun e => by have := (hrow.lt k e.symm).1; omega), hb.block k (by omega)]
  · have hlt := (Array.getElem?_eq_some_iff.1 hk).1
    rw [hg.block k (by have := hb.size; omega) (fun e => ?_), hb.block k hlt, hk]
    rcases hrow.2 with ⟨rfl, _⟩ | ⟨g, cap, cur, rfl, _, hgb, _⟩
    · simp [Value.ownBlock] at e
    · obtain rfl : k = g := by simpa [Value.ownBlock] using e
      rw [hgb] at hk; cases hk; cases ho
theorem Lo.set {base B : Nat} {W : World} {t : TypeId} {v : Value} (h : Boxed W B t v) (u : Value) : Lo base B W (W.setCell ⟨B, 0, none⟩ u) := by
  have hg := grownBy_setCell' W B u
  refine ⟨hg.os, hg.tape, hg.output, hg.size, fun k hk hn => ?_, fun k o hk ho => ?_⟩
  · exact Below.heap_setCell _ _ _ _ hn
  · rw [Below.heap_setCell _ _ _ _ (fun e => ?_), hk]
    have e' : k = B := e
    rw [e', show W.heap[B]? = _ from h] at hk; cases hk; cases ho
theorem Lo.keeps {base B B' : Nat} {W W' : World} (h : Lo base B W W') : KeepsFrom B' W W' := ⟨h.size, fun k o _ hk ho => h.oth k o hk ho⟩
theorem Lo.box {base B b : Nat} {W W' : World} {t : TypeId} {v : Value} (h : Lo base B W W') (hb : Boxed W b t v) (h1 : b < base) (h2 : b ≠ B) : Boxed W' b t v := (h.blk b h1 h2).trans hb
theorem Lo.below {base B n₀ : Nat} {w W W' : World} (h : Lo base B W W') (hb : Below n₀ w W) (h1 : n₀ ≤ base) (h2 : n₀ ≤ B) : Below n₀ w W' :=
  ⟨h.os.trans hb.os, h.tape.trans hb.tape, h.output.trans hb.output, Nat.le_trans hb.size h.size, fun k hk => (h.blk k (by omega) (by omega)).trans (hb.block k hk)⟩
theorem own_set {base B : Nat} {W : World} {e : TypeId} {size n : Nat} {v : Value} {xs : List Value} (h : W.ownsRow base e size v n xs) (hB : B < base) (u : Value) : (W.setCell ⟨B, 0, none⟩ u).ownsRow base e size v n xs :=
  h.kept (grownBy_setCell' W B u) (.inr fun e' => by have := (h.lt B e').1; omega)

end Go.Proofs.YtpofbhaipeiegaaGreatDoor
