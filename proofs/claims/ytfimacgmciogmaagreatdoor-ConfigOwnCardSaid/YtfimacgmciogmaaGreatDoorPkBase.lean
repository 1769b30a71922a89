/-
  What the walks of this seat share: plain data (links, topologies), how they lie in memory, and small laws on worlds. Nothing of the program is stated here.
  A range over an iterator that keeps its place in one captured cell (strings.SplitSeq and its kin): the iterator's contract, and the law for its caller. Nothing of the program is stated here.
  Contracts of package graph's small functions and of the two 'within': what each returns, for every topology in memory.
  Contracts of topology.Valid and waypointref09.Valid: both return 'valid t', for every topology in memory.
  Contracts of the reference's small functions of chapter 9: the same plain functions as the program's.
  Lists of ints that a call makes: graph.Out, waypointref09.Out, In, SameInts, Has, topology.Out; what each returns, for every topology in memory.
  Numerals in plain Lean: the digits of a number, what waypointref09.Value reads out of them, and how strconv.Atoi ends at them. Nothing of the program is stated here.
  strconv.Atoi at short strings: what it returns. The two cells of a pair.
  From 'the arguments read as data' to what the walks ask: integers, lists of integers, bools, links; topologies.
  The variables strconv.ErrRange and ErrSyntax, from a row's list; a string that came in.
  strings.SplitSeq and SplitAfterSeq at a separator of one byte: what the iterator yields.
  waypointref09.Split: what it returns.
-/
import Derived.Test.YtfimacgmciogmaaGreatDoorProg
import Derived.WalkKit
import Derived.WalkLawsBesides
import Derived.Handy
import Derived.Outline
import Derived.Below
import Derived.Lib.Hide
import Derived.BigQuiet
import Derived.Deep.QuietTactic
import Derived.Lib.QuietBelow
import Derived.Laws.OwnMore
import Derived.Maps.AppendAt
import Derived.RangeFuncNested
import Derived.RangeFuncBound
import Derived.RangeFuncCalls
import Derived.RangeFuncLeaves
import Derived.RangeFuncBox
import Derived.Shelf.Abstract
import Derived.OwnWalkIn
import Derived.TacticsInMore
import Derived.LoopNIn
import Derived.LoopIn
import Derived.LoopTactic
import Derived.Lib.AtoiAll
import Derived.Lib.ItoaNum
import Derived.Lib.ItoaLen
import Derived.Lib.Bytealg
import Derived.Test.YtfimacgmciogmaaGreatDoorShelf
import Derived.Lib.AtoiErrMem
import Derived.Deep.Slices
import Derived.OpenShut
import Derived.ProofKit
import Derived.Lib.SmallJoins
import Derived.Stop.LaidErr
import Derived.ChangeMaps5
import Derived.MakeChecks
import Derived.RowKitTokens
namespace Go.Proofs.YtfimacgmciogmaaGreatDoor
open Go.RowKit Go.Sort
theorem below_of_regrown {w w' : World} (h : ∃ p : Regrown, w' = grow (redrawn w p.d) p.os) : Below w.heap.size w w' := by
 obtain ⟨p, rfl⟩ := h
 exact below_regrown w p.d p.os
theorem cell_up {w w' : World} {a : Addr} {v : Value} (hb : Below w.heap.size w w') (h : w.cell? a = some v) : w'.cell? a = some v := by
 rw [hb.cell (block_lt_of_cell h)]; exact h
theorem below_next {a w w' : World} {B : Nat} (h : Below B a w) (h2 : Below w.heap.size w w') (hB : B ≤ a.heap.size := by first | exact Nat.le_refl _ | simp) : Below B a w' :=
 h.trans (h2.mono (Nat.le_trans hB h.size))
theorem below_box (w : World) (o : Obj) : Below w.heap.size w (w.alloc o) := (Below.refl _ w).alloc (Nat.le_refl _) o
theorem box0 (w : World) (x y z : Value) (T : TypeId) : (w.alloc (.cells #[x, y, z] T)).cell? ⟨w.heap.size, 0, none⟩ = some x := by simp
theorem box1 (w : World) (x y z : Value) (T : TypeId) : (w.alloc (.cells #[x, y, z] T)).cell? ⟨w.heap.size, 1, none⟩ = some y := by simp
theorem box2 (w : World) (x y z : Value) (T : TypeId) : (w.alloc (.cells #[x, y, z] T)).cell? ⟨w.heap.size, 2, none⟩ = some z := by simp
/-- The cells of a slice that starts at A: nothing is asked of an empty one. -/
def Rd (w : World) (A : Option Addr) (xs : List Value) : Prop :=
 xs = [] ∨ ∃ b o, A = some ⟨b, o, none⟩ ∧ ∀ j u, xs[j]? = some u → w.cell? ⟨b, o + j, none⟩ = some u
theorem Rd.at_ {w : World} {A : Option Addr} {xs : List Value} {k : Nat} {u : Value} (h : Rd w A xs) (hk : xs[k]? = some u) : ∃ b o, A = some ⟨b, o, none⟩ ∧ w.cell? ⟨b, o + k, none⟩ = some u := by
 rcases h with rfl | ⟨b, o, rfl, hc⟩
 ·simp at hk
 ·exact ⟨b, o, rfl, hc k u hk⟩
theorem Rd.keep {w w' : World} {A : Option Addr} {xs : List Value} (h : Rd w A xs) (hk : ∀ p : Addr, p.block < w.heap.size → w'.cell? p = w.cell? p) : Rd w' A xs := by
 rcases h with rfl | ⟨b, o, rfl, hc⟩
 ·exact .inl rfl
 ·exact .inr ⟨b, o, rfl, fun j u hu => (hk _ (block_lt_of_cell (hc j u hu))).trans (hc j u hu)⟩
theorem Rd.below {w w' : World} {A : Option Addr} {xs : List Value} (h : Rd w A xs) (hb : Below w.heap.size w w') : Rd w' A xs := h.keep fun _ hp => hb.cell hp
structure Lnk where
 a : Int
 b : Int
 c0 : Int
 c1 : Int
 cap : Int
 dl : Int
 g : Int
 deriving DecidableEq, Inhabited
structure Topo where
 n : Int
 ov : List Bool
 ls : List Lnk
 deriving Inhabited
/-- The cells of a link that starts at an address. -/
structure LAt (w : World) (b o : Nat) (l : Lnk) : Prop where
 q0 : w.cell? ⟨b, o, none⟩ = some (.int .i64 l.a)
 q1 : w.cell? ⟨b, o + 1, none⟩ = some (.int .i64 l.b)
 q2 : w.cell? ⟨b, o + 2, none⟩ = some (.int .i64 l.c0)
 q3 : w.cell? ⟨b, o + 3, none⟩ = some (.int .i64 l.c1)
 q4 : w.cell? ⟨b, o + 4, none⟩ = some (.int .i64 l.cap)
 q5 : w.cell? ⟨b, o + 5, none⟩ = some (.int .i64 l.dl)
 q6 : w.cell? ⟨b, o + 6, none⟩ = some (.int .i64 l.g)
/-- The cells of a slice of links. -/
def RdL (w : World) (A : Option Addr) (ls : List Lnk) : Prop :=
 ls = [] ∨ ∃ b o, A = some ⟨b, o, none⟩ ∧ ∀ k l, ls[k]? = some l → LAt w b (o + k * 7) l
theorem LAt.up {w w' : World} {b o : Nat} {l : Lnk} (h : LAt w b o l) (hb : Below w.heap.size w w') : LAt w' b o l :=
 ⟨cell_up hb h.q0, cell_up hb h.q1, cell_up hb h.q2, cell_up hb h.q3, cell_up hb h.q4, cell_up hb h.q5, cell_up hb h.q6⟩
theorem RdL.at_ {w : World} {A : Option Addr} {ls : List Lnk} {k : Nat} (h : RdL w A ls) (hk : k < ls.length) : ∃ b o l, A = some ⟨b, o, none⟩ ∧ ls[k]? = some l ∧ LAt w b (o + k * 7) l := by
 rcases h with rfl | ⟨b, o, rfl, hc⟩
 ·simp at hk
 ·exact ⟨b, o, ls[k], rfl, List.getElem?_eq_getElem hk, hc k ls[k] (List.getElem?_eq_getElem hk)⟩
theorem RdL.below {w w' : World} {A : Option Addr} {ls : List Lnk} (h : RdL w A ls) (hb : Below w.heap.size w w') : RdL w' A ls := by
 rcases h with rfl | ⟨b, o, rfl, hc⟩
 ·exact .inl rfl
 ·exact .inr ⟨b, o, rfl, fun k l hl => (hc k l hl).up hb⟩
/-- How a topology lies in memory: A1, A2 lead to the overload marks and the links. -/
structure TAt (w : World) (A1 A2 : Option Addr) (t : Topo) : Prop where
 ov : Rd w A1 (t.ov.map Value.bool)
 ls : RdL w A2 t.ls
theorem TAt.below {w w' : World} {A1 A2 : Option Addr} {t : Topo} (h : TAt w A1 A2 t) (hb : Below w.heap.size w w') : TAt w' A1 A2 t := ⟨h.ov.below hb, h.ls.below hb⟩
theorem TAt.re {w : World} {A1 A2 : Option Addr} {t : Topo} (h : TAt w A1 A2 t) (d : Nat) (os : Array Obj) : TAt (grow (redrawn w d) os) A1 A2 t := h.below (below_regrown w d os)
/-- The box of a topology parameter (block w.heap.size), in a later world wr; what lay below it is as it was. -/
structure TBox (w : World) (A1 A2 : Option Addr) (c1 c2 : Nat) (t : Topo) (wr : World) : Prop where
 b0 : wr.cell? ⟨w.heap.size, 0, none⟩ = some (.int .i64 t.n)
 b1 : wr.cell? ⟨w.heap.size, 1, none⟩ = some (.slice A1 t.ov.length c1)
 b2 : wr.cell? ⟨w.heap.size, 2, none⟩ = some (.slice A2 t.ls.length c2)
 ta : TAt wr A1 A2 t
 hb : Below w.heap.size w wr
theorem TBox.up {w wr w' : World} {A1 A2 : Option Addr} {c1 c2 : Nat} {t : Topo} (h : TBox w A1 A2 c1 c2 t wr) (hb : Below wr.heap.size wr w') : TBox w A1 A2 c1 c2 t w' :=
 ⟨cell_up hb h.b0, cell_up hb h.b1, cell_up hb h.b2, h.ta.below hb, below_next h.hb hb⟩
def inR (x lo hi : Int) : Bool := decide (lo ≤ x) && decide (x ≤ hi)
def lnkOk (n : Int) (l : Lnk) : Bool := !(l.a == l.b) && inR l.a 0 (n - 1) && inR l.b 0 (n - 1) && inR l.c0 1 65535 && inR l.c1 1 65535 && inR l.cap 0 1048576 && inR l.dl 1 65536 && inR l.g 0 64
def valid (t : Topo) : Bool := inR t.n 1 64 && decide (t.ls.length ≤ 256) && (decide (t.ov.length = 0) || decide ((t.ov.length : Int) = t.n)) && t.ls.all (lnkOk t.n)
theorem valid_bad {t : Topo} {k : Nat} {l : Lnk} (h : t.ls[k]? = some l) (hb : lnkOk t.n l = false) : valid t = false := by
 have : t.ls.all (lnkOk t.n) = false := by
  rw [List.all_eq_false]
  exact ⟨l, List.mem_of_getElem? h, by simp [hb]⟩
 simp [valid, this]
theorem lnkOk_snoc {n : Int} {ls : List Lnk} {k : Nat} {l : Lnk} (h : ls[k]? = some l) (hb : lnkOk n l = true) (hp : ∀ j, j < k → ∃ l, ls[j]? = some l ∧ lnkOk n l = true) :
  ∀ j, j < k + 1 → ∃ l, ls[j]? = some l ∧ lnkOk n l = true := by
 intro j hj
 by_cases e : j = k
 ·subst e; exact ⟨l, h, hb⟩
 ·exact hp j (by omega)
theorem all_of {n : Int} {ls : List Lnk} (hp : ∀ j, j < ls.length → ∃ l, ls[j]? = some l ∧ lnkOk n l = true) : ls.all (lnkOk n) = true := by
 rw [List.all_eq_true]
 intro x hx
 obtain ⟨j, hj, rfl⟩ := List.getElem_of_mem hx
 obtain ⟨l, h1, h2⟩ := hp j hj
 rw [List.getElem?_eq_getElem hj] at h1
 injection h1 with h1
 rw [h1]; exact h2
theorem valid_of {t : Topo} (h1 : 1 ≤ t.n) (h2 : t.n ≤ 64) (h3 : t.ls.length ≤ 256) (h4 : t.ov.length = 0 ∨ (t.ov.length : Int) = t.n) (hp : ∀ j, j < t.ls.length → ∃ l, t.ls[j]? = some l ∧ lnkOk t.n l = true) : valid t = true := by
 simp only [valid, inR, all_of hp, Bool.and_true, Bool.and_eq_true, Bool.or_eq_true, decide_eq_true_eq]
 exact ⟨⟨⟨h1, h2⟩, h3⟩, h4⟩
/-- The arcs: arc a leads over link a / 2. -/
def lnk (t : Topo) (a : Int) : Lnk := t.ls.getD (a / 2).toNat default
def tail (t : Topo) (a : Int) : Int := if a % 2 = 0 then (lnk t a).a else (lnk t a).b
def over (t : Topo) (n : Int) : Bool := t.ov.getD n.toNat false
def isN (n m : Int) : Bool := decide (0 ≤ m) && decide (m < n)
theorem isN_true {n m : Int} : isN n m = true ↔ 0 ≤ m ∧ m < n := by simp [isN]
theorem isN_false {n m : Int} : isN n m = false ↔ ¬ (0 ≤ m ∧ m < n) := by rw [← isN_true]; simp
theorem inR_true {x lo hi : Int} : inR x lo hi = true ↔ lo ≤ x ∧ x ≤ hi := by simp [inR]
theorem inR_false {x lo hi : Int} : inR x lo hi = false ↔ ¬ (lo ≤ x ∧ x ≤ hi) := by rw [← inR_true]; simp
theorem below_boxed {w w' : World} {o : Obj} (h : Below (w.heap.size + 1) (w.alloc o) w') : Below w.heap.size w w' := (below_box w o).trans (h.mono (by omega))
theorem lnk_at {t : Topo} {a : Int} (h0 : 0 ≤ a) (h1 : a < 2 * (t.ls.length : Int)) : (a / 2).toNat < t.ls.length ∧ t.ls[(a / 2).toNat]? = some (lnk t a) := by
 have h : (a / 2).toNat < t.ls.length := by omega
 exact ⟨h, by simp [lnk, List.getD_eq_getElem?_getD, List.getElem?_eq_getElem h]⟩
theorem RdL.arc {w : World} {A : Option Addr} {t : Topo} {a : Int} (h : RdL w A t.ls) (h0 : 0 ≤ a) (h1 : a < 2 * (t.ls.length : Int)) : ∃ b o, A = some ⟨b, o, none⟩ ∧ LAt w b (o + (a / 2).toNat * 7) (lnk t a) := by
 obtain ⟨hk, hl⟩ := lnk_at h0 h1
 obtain ⟨b, o, l, hA, hl', hc⟩ := h.at_ hk
 rw [hl] at hl'
 injection hl' with hl'
 subst hl'
 exact ⟨b, o, hA, hc⟩
end Go.Proofs.YtfimacgmciogmaaGreatDoor
namespace Go.Proofs.YtfimacgmciogmaaGreatDoor
open Go.RowKit Go.Shelf
/-- What abides a turn of the cell Bs, and new blocks. -/
def Steady {β : Type} (Bs : Nat) (J : β → World → Prop) : Prop := ∀ s X Y, J s X → X.grownBy Y (some Bs) → J s Y
/-- What abides, beside that, a turn of a block from B on that holds no cells. -/
def Firm {β : Type} (B Bs : Nat) (I : β → World → Prop) : Prop :=
 ∀ s X Y r, I s X → X.grownBy Y (some r) → (r = Bs ∨ (B ≤ r ∧ ∃ o : Obj, X.heap[r]? = some o ∧ o.isCells = false)) → I s Y
theorem Firm.steady {β : Type} {B Bs : Nat} {I : β → World → Prop} (h : Firm B Bs I) : Steady Bs I := fun s X Y hs hg => h s X Y Bs hs hg (.inl rfl)
theorem Firm.put {β : Type} {B Bs : Nat} {I : β → World → Prop} (h : Firm B Bs I) {s : β} {X : World} {l : Nat} {o : Obj} (o' : Obj) (hs : I s X) (hB : B ≤ l) (hl : X.heap[l]? = some o) (ho : o.isCells = false) : I s (X.putObj l o') :=
 h s X _ l hs (grownBy_putObj' X l o') (.inr ⟨hB, o, hl, ho⟩)
theorem Firm.and {β : Type} {B Bs : Nat} {I J : β → World → Prop} (h : Firm B Bs I) (g : Firm B Bs J) : Firm B Bs fun s W => I s W ∧ J s W :=
 fun s X Y r hs hg hr => ⟨h s X Y r hs.1 hg hr, g s X Y r hs.2 hg hr⟩
theorem Firm.pure {β : Type} {B Bs : Nat} (p : β → Prop) : Firm B Bs fun s (_ : World) => p s := fun _ _ _ _ hs _ _ => hs
theorem Firm.below {β : Type} {B Bs n₀ : Nat} {w₀ : World} (hn : n₀ ≤ w₀.heap.size) (h1 : n₀ ≤ B) (h2 : n₀ ≤ Bs) : Firm B Bs fun (_ : β) W => Below n₀ w₀ W :=
 fun _ _ _ r hs hg hr => hs.grown hg (Nat.le_trans hn hs.size) (fun k e => by cases e; rcases hr with rfl | ⟨h, _⟩ <;> omega)
theorem Firm.size {β : Type} {B Bs n : Nat} : Firm B Bs fun (_ : β) (W : World) => n ≤ W.heap.size := fun _ _ _ _ hs hg _ => Nat.le_trans hs hg.size
/-- A block of cells, other than Bs. -/
theorem Firm.blk {β : Type} {B Bs b : Nat} {f : β → Array Value} {T : TypeId} {fr : Nat × Nat} (hne : b ≠ Bs) : Firm B Bs fun (s : β) (W : World) => W.heap[b]? = some (.cells (f s) T fr) := by
 intro s X Y r hs hg hr
 refine (hg.block b (Array.getElem?_eq_some_iff.1 hs).1 (fun e => ?_)).trans hs
 obtain rfl : b = r := by simpa using e
 rcases hr with rfl | ⟨_, o, ho, hc⟩
 ·exact hne rfl
 ·rw [hs] at ho; cases ho; cases hc
/-- A cell and a row of the caller's own: the box of a slice, and what it holds. -/
theorem Firm.row {β : Type} {B Bs base b : Nat} {t e : TypeId} {size : Nat} (cnt : β → Nat) (xs : β → List Value) (hne : b ≠ Bs) (hbs : ∀ (W : World) v s, W.ownsRow base e size v (cnt s) (xs s) → v.ownBlock ≠ some Bs) : Firm B Bs fun (s : β) (W : World) => ∃ v, Boxed W b t v ∧ W.ownsRow base e size v (cnt s) (xs s) := by
 intro s X Y r hs hg hr
 obtain ⟨v, hv, ho⟩ := hs
 have h1 : b ≠ r := by
  rintro rfl
  rcases hr with rfl | ⟨_, o, hoo, hc⟩
  ·exact hne rfl
  ·rw [show X.heap[b]? = _ from hv] at hoo; cases hoo; cases hc
 refine ⟨v, hv.kept hg (fun e' => h1 (by simpa using e')), ho.kept hg (.inr fun e' => ?_)⟩
 rcases hr with rfl | ⟨_, o, hoo, hc⟩
 ·exact hbs _ _ _ ho e'
 ·rcases ho.2 with ⟨rfl, _⟩ | ⟨g, cap, cur, rfl, _, hgb, _⟩
  ·simp [Value.ownBlock] at e'
  ·obtain rfl : g = r := by simpa [Value.ownBlock] using e'
   rw [hgb] at hoo; cases hoo; cases hc
/-- The iterator's contract: the elements ps come one by one; between two rounds nothing but the cell Bs turns. -/
def IterC {α : Type} (F : Fence) (n : Nat) (P : Program) (g : Nat) (lb : Array Value) (enc : α → Value) (Bs : Nat) (Kp : World → World → Prop) (ps : List α) (w : World) : Prop :=
 ∀ (l : Nat) (J Jx : Nat → World → Prop) (W : World), Below w.heap.size w W → Steady Bs J → Steady Bs Jx →
  (∀ k x W1, J k W1 → ps[k]? = some x → YieldAt F (n - 1) P l #[enc x] W1 fun e W' => (e = .returned (.bool true) ∧ J (k + 1) W' ∧ Kp W1 W') ∨ (e = .returned (.bool false) ∧ Jx (k + 1) W')) →
  J 0 W →
  CallsIn F n P g (#[.func (.yield l) #[] #[]] ++ lb) W fun e W' => (∃ v, e = .returned v) ∧ (J ps.length W' ∨ ∃ k, k ≤ ps.length ∧ Jx k W')
/-- How a round may be left. -/
def postC (B : Nat) (Kp : World → World → Prop) (I : Nat → World → Prop) (Ix : Code → Nat → World → Prop) (k : Nat) (W : World) : Exit → Act → World → Prop
 | .normal, _, W' => KeepsFrom B W W' ∧ Kp W W' ∧ I k W'
 | .ret, _, W' => KeepsFrom B W W' ∧ Ix .ret k W'
 | .exit id, _, W' => KeepsFrom B W W' ∧ Ix (.exit id) k W'
 | .goto t, _, W' => KeepsFrom B W W' ∧ Ix (.goto t) k W'
 | .panic _, _, _ => False
 | .outgrown, _, _ => False
set_option maxHeartbeats 1000000 in
theorem rangeC {α : Type} {F : Fence} {n : Nat} {P : Program} {g : Operand} {pr : Array Tmp} {assign body : Code} {Q : Exit → Act → World → Prop} {a : Act} {w : World}
  (hro : F.round = none) (h1 : 1 ≤ n) {gf : Nat} {lb : Array Value} (hg : a.eval g = .func (.func gf) #[] lb) (hFg : F.fn gf) (eg : ∀ args w, (callFunc gf args).run P w = .ok (.enter gf args) w)
  {enc : α → Value} {Bs : Nat} {Kp : World → World → Prop} {ps : List α} (hBs : Bs < w.heap.size) (hseq : IterC F (n - 1) P gf lb enc Bs Kp ps w)
  (hKt : ∀ {A B C : World}, Kp A B → Kp B C → Kp A C) (hKb : ∀ (W : World) (l : Nat) (o' : Obj), w.heap.size ≤ l → l < W.heap.size → Kp W (W.putObj l o')) (hpr : pr.size = 1)
  (I : Nat → World → Prop) (Ix : Code → Nat → World → Prop) (hI : Firm w.heap.size Bs I) (hIx : ∀ c, Firm w.heap.size Bs (Ix c)) (h0 : I 0 w) (a₁ : α → Act)
  (hassign : ∀ (l : Nat) (x : α) (W : World) (K : Act → World → Prop), K (a₁ x) W → assign.wpIn (F.inRound l) (n - 1 - 1) P (Exit.then K (fun _ _ _ => False)) { tmps := (pr.zip #[enc x]).foldl (fun t (p, v) => t.setIfInBounds p v) a.tmps, defers := [] } W)
  (hbody : ∀ (l k : Nat) (x : α) (W : World), I k W → ps[k]? = some x → body.wpIn (F.inRound l) (n - 1 - 1) P (postC w.heap.size Kp I Ix (k + 1) W) (a₁ x) W)
  (hdone : ∀ (D : Nat) (W : World), w.heap.size ≤ D → I ps.length W → W.heap[D]? = some (.deferred (some [])) → Q .normal { a with defers := { target := .collected D, args := #[] } :: a.defers } W)
  (hstop : ∀ (D : Nat) (c : Code) (k : Nat) (W : World), w.heap.size ≤ D → k ≤ ps.length → Ix c k W → W.heap[D]? = some (.deferred (some [])) → c.wpIn F n P Q { a with defers := { target := .collected D, args := #[] } :: a.defers } W) :
  (Code.rangeFunc g pr assign body).wpIn F n P Q a w := by
 refine wpIn_rangeFunc fun fn hfn => ?_
 rw [hro]
 obtain ⟨R, hR⟩ : ∃ R : LoopState → Option Code → Loop, R = fun st pe => { state := st, pending := pe, fn := fn, tmps := a.tmps, params := pr, assign := assign, body := body, defers := w.heap.size } := ⟨_, rfl⟩
 obtain ⟨D, hD⟩ : ∃ D, D = w.heap.size := ⟨_, rfl⟩
 obtain ⟨L, hL⟩ : ∃ L, L = w.heap.size + 1 := ⟨_, rfl⟩
 have hgrow : w.grownBy ((w.alloc (.deferred (some []))).alloc (.loop (R .ready none))) (some Bs) := by
  have g1 := World.grownBy_alloc w (.deferred (some [])) (some Bs)
  have g2 := World.grownBy_alloc (w.alloc (.deferred (some []))) (.loop (R .ready none)) (some Bs)
  exact ⟨g2.os.trans g1.os, g2.tape.trans g1.tape, g2.output.trans g1.output, Nat.le_trans g1.size g2.size, fun k hk hne => (g2.block k (Nat.lt_of_lt_of_le hk g1.size) hne).trans (g1.block k hk hne)⟩
 have hbel : Below w.heap.size w ((w.alloc (.deferred (some []))).alloc (.loop (R .ready none))) := ((Below.refl _ w).alloc (Nat.le_refl _) _).alloc (by simp) _
 have hl1 : ((w.alloc (.deferred (some []))).alloc (.loop (R .ready none))).heap[L]? = some (.loop (R .ready none)) := by
  rw [hL]; have := World.alloc_heap_new (w.alloc (.deferred (some []))) (.loop (R .ready none)); rwa [World.size_alloc] at this
 have hd1 : ((w.alloc (.deferred (some []))).alloc (.loop (R .ready none))).heap[D]? = some (.deferred (some [])) := by
  rw [hD]; exact (Below.heap_alloc _ _ _ (by simp)).trans (World.alloc_heap_new w _)
 have hi1 : I 0 ((w.alloc (.deferred (some []))).alloc (.loop (R .ready none))) := hI.steady 0 _ _ h0 hgrow
 have hrun : (Instr.enterLoop fn a.tmps pr assign body none).run P w = .ok (L, [{ target := .collected D, args := #[] }]) ((w.alloc (.deferred (some []))).alloc (.loop (R .ready none))) := by
  rw [hR, hL, hD]; exact run_enterLoop_outer _ _ _ _ _
 generalize (w.alloc (.deferred (some []))).alloc (.loop (R .ready none)) = W1 at *
 have hLB : L ≠ Bs := by omega
 have hDB : D ≠ Bs := by omega
 have hDL : D ≠ L := by omega
 have kept : ∀ {X Y : World} {b : Nat} {o : Obj}, b ≠ Bs → X.grownBy Y (some Bs) → X.heap[b]? = some o → Y.heap[b]? = some o := fun hb hg hx =>
  (hg.block _ (Array.getElem?_eq_some_iff.1 hx).1 (fun e => hb (by simpa using e))).trans hx
 refine ⟨L, [{ target := .collected D, args := #[] }], W1, { target := .fn (.func gf) lb, args := #[.func (.yield L) #[] #[]] }, W1, gf, #[.func (.yield L) #[] #[]] ++ lb, W1, hrun, ?_, ?_, ?_, fun _ => h1, ?_⟩
 ·simp only [resolve, hg]
  simp [go_sem]
 ·intro f' hf'
  simp [Target.leads] at hf'
  exact hf' ▸ hFg
 ·simp [invoke, go_sem, eg]
 have round : ∀ k x W, (I k W ∧ W.heap[L]? = some (.loop (R .ready none)) ∧ W.heap[D]? = some (.deferred (some []))) → ps[k]? = some x →
   YieldAt F (n - 1 - 1) P L #[enc x] W fun e W' => (e = .returned (.bool true) ∧ (I (k + 1) W' ∧ W'.heap[L]? = some (.loop (R .ready none)) ∧ W'.heap[D]? = some (.deferred (some []))) ∧ Kp W W') ∨
    (e = .returned (.bool false) ∧ ∃ c, Ix c (k + 1) W' ∧ W'.heap[L]? = some (.loop (R .done (some c))) ∧ W'.heap[D]? = some (.deferred (some []))) := by
  rintro k x W ⟨hi, hl, hd⟩ hx
  have hlt : L < W.heap.size := (Array.getElem?_eq_some_iff.1 hl).1
  have hy := run_yield (P := P) (args := #[enc x]) hl (by rw [hR]; simp [hpr])
  rw [hR] at hy
  refine ⟨fn, _, assign, body, hy, roundIn_of_wpIn hfn (hassign _ x W _ ⟨_, run_beginRound hl (by rw [hR]), ?_⟩)⟩
  have k1 : Kp W (W.putObj L (.loop { R .ready none with state := .busy })) := hKb _ _ _ (by omega) hlt
  have i1 : I k (W.putObj L (.loop { R .ready none with state := .busy })) := hI.put _ hi (by omega) hl rfl
  have l1 : (W.putObj L (.loop { R .ready none with state := .busy })).heap[L]? = some (.loop { R .ready none with state := .busy }) := World.putObj_heap_same hlt
  have d1 : (W.putObj L (.loop { R .ready none with state := .busy })).heap[D]? = some (.deferred (some [])) := (World.putObj_heap_other hDL).trans hd
  generalize W.putObj L (.loop { R .ready none with state := .busy }) = W2 at *
  refine wpIn_mono (hbody _ k x W2 i1 hx) ?_
  have last : ∀ (jump : Option Code) (W3 : World), KeepsFrom w.heap.size W2 W3 → ∃ W4, W4 = W3.putObj L (.loop (R (if jump.isNone then .ready else .done) jump)) ∧ (Instr.endRound L jump).run P W3 = .ok (.bool jump.isNone) W4 ∧
    W4.heap[L]? = some (.loop (R (if jump.isNone then .ready else .done) jump)) ∧ W4.heap[D]? = some (.deferred (some [])) ∧ W3.heap[L]? = some (.loop { R .ready none with state := .busy }) := by
   intro jump W3 hk
   have l3 := hk.same L _ (by omega) l1 rfl
   have d3 := hk.same D _ (by omega) d1 rfl
   have hr := run_endRound (P := P) jump l3
   refine ⟨_, rfl, ?_, World.putObj_heap_same (Array.getElem?_eq_some_iff.1 l3).1, (World.putObj_heap_other hDL).trans d3, l3⟩
   rw [hR] at hr ⊢
   exact hr
  intro e a3 W3 hp
  cases e with
  | normal =>
   obtain ⟨hk, hkp, hi3⟩ := hp
   obtain ⟨W4, hW4, hr, hl4, hd4, l3⟩ := last none W3 hk
   refine ⟨_, W4, hr, .inl ⟨rfl, ⟨?_, hl4, hd4⟩, ?_⟩⟩
   ·rw [hW4]; exact hI.put _ hi3 (by omega) l3 rfl
   ·rw [hW4]; exact hKt (hKt k1 hkp) (hKb _ _ _ (by omega) (Array.getElem?_eq_some_iff.1 l3).1)
  | ret =>
   obtain ⟨hk, hi3⟩ := hp
   obtain ⟨W4, hW4, hr, hl4, hd4, l3⟩ := last (some .ret) W3 hk
   exact ⟨_, W4, hr, .inr ⟨rfl, .ret, hW4 ▸ (hIx _).put _ hi3 (by omega) l3 rfl, hl4, hd4⟩⟩
  | exit id =>
   obtain ⟨hk, hi3⟩ := hp
   obtain ⟨W4, hW4, hr, hl4, hd4, l3⟩ := last (some (.exit id)) W3 hk
   exact ⟨_, W4, hr, .inr ⟨rfl, .exit id, hW4 ▸ (hIx _).put _ hi3 (by omega) l3 rfl, hl4, hd4⟩⟩
  | goto t =>
   obtain ⟨hk, hi3⟩ := hp
   obtain ⟨W4, hW4, hr, hl4, hd4, l3⟩ := last (some (.goto t)) W3 hk
   exact ⟨_, W4, hr, .inr ⟨rfl, .goto t, hW4 ▸ (hIx _).put _ hi3 (by omega) l3 rfl, hl4, hd4⟩⟩
  | panic ch => exact hp.elim
  | outgrown => exact hp.elim
 refine (hseq L (fun k W => I k W ∧ W.heap[L]? = some (.loop (R .ready none)) ∧ W.heap[D]? = some (.deferred (some [])))
  (fun k W => ∃ c, Ix c k W ∧ W.heap[L]? = some (.loop (R .done (some c))) ∧ W.heap[D]? = some (.deferred (some []))) W1 hbel
  (fun s X Y hs hg' => ⟨hI.steady s X Y hs.1 hg', kept hLB hg' hs.2.1, kept hDB hg' hs.2.2⟩)
  (fun s X Y hs hg' => by obtain ⟨c, hc, hl, hd⟩ := hs; exact ⟨c, (hIx c).steady s X Y hc hg', kept hLB hg' hl, kept hDB hg' hd⟩)
  round ⟨hi1, hl1, hd1⟩).mono ?_
 rintro e W2 ⟨⟨v, rfl⟩, (⟨hi, hl, hd⟩ | ⟨k, hk, c, hi, hl, hd⟩)⟩
 ·refine ⟨none, _, by have := run_endLoop (P := P) hl (by rw [hR]; simp); rw [hR] at this; exact this, ?_⟩
  exact hdone D _ (by omega) (hI.put _ hi (by omega) hl rfl) ((World.putObj_heap_other hDL).trans hd)
 ·refine ⟨some c, _, by have := run_endLoop (P := P) hl (by rw [hR]; simp); rw [hR] at this; exact this, ?_⟩
  exact hstop D c k _ (by omega) hk ((hIx c).put _ hi (by omega) hl rfl) ((World.putObj_heap_other hDL).trans hd)
/-- What a round of a caller's keeps: all blocks below base but B, and whatever holds no cells. -/
structure Lo (base B : Nat) (W W' : World) : Prop where
 os : W'.os = W.os
 tape : W'.tape = W.tape
 output : W'.output = W.output
 size : W.heap.size ≤ W'.heap.size
 blk : ∀ k, k < base → k ≠ B → W'.heap[k]? = W.heap[k]?
 oth : ∀ (k : Nat) (o : Obj), W.heap[k]? = some o → o.isCells = false → W'.heap[k]? = some o
theorem Lo.refl (base B : Nat) (W : World) : Lo base B W W := ⟨rfl, rfl, rfl, Nat.le_refl _, fun _ _ _ => rfl, fun _ _ h _ => h⟩
theorem Lo.trans {base B : Nat} {X Y Z : World} (h : Lo base B X Y) (g : Lo base B Y Z) : Lo base B X Z :=
 ⟨g.os.trans h.os, g.tape.trans h.tape, g.output.trans h.output, Nat.le_trans h.size g.size, fun k hk hn => (g.blk k hk hn).trans (h.blk k hk hn), fun k o hk ho => g.oth k o (h.oth k o hk ho) ho⟩
theorem Lo.of_below {base B : Nat} {W W' : World} (hb : Below W.heap.size W W') (hs : base ≤ W.heap.size) : Lo base B W W' :=
 ⟨hb.os, hb.tape, hb.output, hb.size, fun k hk _ => hb.block k (by omega), fun k o hk _ => (hb.block k (Array.getElem?_eq_some_iff.1 hk).1).trans hk⟩
theorem Lo.append {base B : Nat} {W w1 : World} {e : TypeId} {size n : Nat} {v : Value} {xs : List Value} {tmp : Obj} (hrow : W.ownsRow base e size v n xs) (hg : (W.alloc tmp).grownBy w1 v.ownBlock) (hs : base ≤ W.heap.size) : Lo base B W w1 := by
 have hb := below_box W tmp
 refine ⟨hg.os.trans hb.os, hg.tape.trans hb.tape, hg.output.trans hb.output, Nat.le_trans hb.size hg.size, fun k hk _ => ?_, fun k o hk ho => ?_⟩
 ·rw [hg.block k (by have := hb.size; omega) (fun e => by have := (hrow.lt k e.symm).1; omega), hb.block k (by omega)]
 ·have hlt := (Array.getElem?_eq_some_iff.1 hk).1
  rw [hg.block k (by have := hb.size; omega) (fun e => ?_), hb.block k hlt, hk]
  rcases hrow.2 with ⟨rfl, _⟩ | ⟨g, cap, cur, rfl, _, hgb, _⟩
  ·simp [Value.ownBlock] at e
  ·obtain rfl : k = g := by simpa [Value.ownBlock] using e
   rw [hgb] at hk; cases hk; cases ho
theorem Lo.set {base B : Nat} {W : World} {t : TypeId} {v : Value} (h : Boxed W B t v) (u : Value) : Lo base B W (W.setCell ⟨B, 0, none⟩ u) := by
 have hg := grownBy_setCell' W B u
 refine ⟨hg.os, hg.tape, hg.output, hg.size, fun k hk hn => ?_, fun k o hk ho => ?_⟩
 ·exact Below.heap_setCell _ _ _ _ hn
 ·rw [Below.heap_setCell _ _ _ _ (fun e => ?_), hk]
  have e' : k = B := e
  rw [e', show W.heap[B]? = _ from h] at hk; cases hk; cases ho
theorem Lo.keeps {base B B' : Nat} {W W' : World} (h : Lo base B W W') : KeepsFrom B' W W' := ⟨h.size, fun k o _ hk ho => h.oth k o hk ho⟩
theorem Lo.box {base B b : Nat} {W W' : World} {t : TypeId} {v : Value} (h : Lo base B W W') (hb : Boxed W b t v) (h1 : b < base) (h2 : b ≠ B) : Boxed W' b t v := (h.blk b h1 h2).trans hb
theorem Lo.below {base B n₀ : Nat} {w W W' : World} (h : Lo base B W W') (hb : Below n₀ w W) (h1 : n₀ ≤ base) (h2 : n₀ ≤ B) : Below n₀ w W' :=
 ⟨h.os.trans hb.os, h.tape.trans hb.tape, h.output.trans hb.output, Nat.le_trans hb.size h.size, fun k hk => (h.blk k (by omega) (by omega)).trans (hb.block k hk)⟩
end Go.Proofs.YtfimacgmciogmaaGreatDoor
namespace Go.Proofs.YtfimacgmciogmaaGreatDoor
open Go.RowKit Go.Sort
theorem topology_within (n lo hi : Int) (w : World) :
  Calls Tryz.prog 47 #[.int .i64 n, .int .i64 lo, .int .i64 hi] w fun e w' => e = .returned (.bool (inR n lo hi)) ∧ w = w' := by
 by_cases h1 : lo ≤ n <;> by_cases h2 : n ≤ hi <;>
 (go_enter Tryz.func47, Tryz.ntmps47
  go_wp2
  go_ret
  simp [h1, h2, inR]) <;> omega
theorem graph_Node (n m : Int) (v1 v2 : Value) (w : World) :
  Calls Tryz.prog 48 #[.agg #[.int .i64 n, v1, v2], .int .i64 m] w fun e w' => e = .returned (.bool (isN n m)) ∧ Below w.heap.size w w' := by
 go_enter Tryz.func48, Tryz.ntmps48
 go_wp2 <;> (go_ret; refine ⟨by simp [isN] <;> omega, by go_grown⟩)
end Go.Proofs.YtfimacgmciogmaaGreatDoor
namespace Go.Proofs.YtfimacgmciogmaaGreatDoor
open Go.RowKit Go.Sort
theorem bad1 {t : Topo} (h : ¬ (1 ≤ t.n ∧ t.n ≤ 64)) : valid t = false := by
 have : inR t.n 1 64 = false := by simp only [inR, Bool.and_eq_false_iff, decide_eq_false_iff_not]; omega
 simp [valid, this]
theorem bad2 {t : Topo} (h : ¬ t.ls.length ≤ 256) : valid t = false := by simp [valid, h]
theorem bad3 {t : Topo} (h : ¬ t.ov.length = 0) (h2 : ¬ (t.ov.length : Int) = t.n) : valid t = false := by
 have e : (decide (t.ov.length = 0) || decide ((t.ov.length : Int) = t.n)) = false := by simp only [Bool.or_eq_false_iff, decide_eq_false_iff_not]; exact ⟨h, h2⟩
 simp only [valid, e, Bool.and_false, Bool.false_and]
theorem bad_k {t : Topo} {n : Int} {V : Bool} {k : Nat} {l : Lnk} (HN : Hid (n = t.n)) (HV : Hid (V = valid t)) (HE : Hid (t.ls[k]? = some l)) (h : lnkOk n l = false) : V = false := by
 rw [HV.out]
 exact valid_bad HE.out (by rw [← HN.out]; exact h)
theorem bad_a {n : Int} {l : Lnk} (h : isN n l.a = false) : lnkOk n l = false := by
 have : inR l.a 0 (n - 1) = false := by rw [inR_false]; rw [isN_false] at h; omega
 simp [lnkOk, this]
theorem bad_b {n : Int} {l : Lnk} (h : isN n l.b = false) : lnkOk n l = false := by
 have : inR l.b 0 (n - 1) = false := by rw [inR_false]; rw [isN_false] at h; omega
 simp [lnkOk, this]
theorem not_of_b {x : Bool} (h : (!x) = true) : x = false := by simpa using h
theorem of_not_b {x : Bool} (h : (!x) = false) : x = true := by simpa using h
theorem lc0 {n : Int} {l : Lnk} (h : ¬ inR l.c0 1 65535 = true) : lnkOk n l = false := by simp [lnkOk, h]
theorem lc1 {n : Int} {l : Lnk} (h : (!inR l.c1 1 65535) = true) : lnkOk n l = false := by simp [lnkOk, not_of_b h]
theorem lc2 {n : Int} {l : Lnk} (h : ¬ inR l.cap 0 1048576 = true) : lnkOk n l = false := by simp [lnkOk, h]
theorem lc3 {n : Int} {l : Lnk} (h : ¬ inR l.dl 1 65536 = true) : lnkOk n l = false := by simp [lnkOk, h]
theorem lc4 {n : Int} {l : Lnk} (h : (!inR l.g 0 64) = true) : lnkOk n l = false := by simp [lnkOk, not_of_b h]
theorem good_l {n : Int} {l : Lnk} (e1 : (l.a == l.b) = false) (e2 : isN n l.a = true) (e3 : isN n l.b = true) (h0 : inR l.c0 1 65535 = true) (h1 : inR l.c1 1 65535 = true) (h2 : inR l.cap 0 1048576 = true) (h3 : inR l.dl 1 65536 = true) (h4 : inR l.g 0 64 = true) : lnkOk n l = true := by
 have ha : inR l.a 0 (n - 1) = true := by rw [inR_true]; rw [isN_true] at e2; omega
 have hb : inR l.b 0 (n - 1) = true := by rw [inR_true]; rw [isN_true] at e3; omega
 simp [lnkOk, e1, ha, hb, h0, h1, h2, h3, h4]
set_option maxHeartbeats 4000000 in
set_option maxRecDepth 100000 in
theorem topology_Valid_loop (t : Topo) (A1 A2 : Option Addr) (c1 c2 : Nat) (w : World) (hA2 : RdL w A2 t.ls)
  (hn1 : 1 ≤ t.n) (hn2 : t.n ≤ 64) (hl : t.ls.length ≤ 256) (ho : t.ov.length = 0 ∨ (t.ov.length : Int) = t.n) :
  Calls Tryz.prog 20 #[.agg #[.int .i64 t.n, .slice A1 t.ov.length c1, .slice A2 t.ls.length c2]] w fun e w' => e = .returned (.bool (valid t)) ∧ Below w.heap.size w w' := by
 obtain ⟨l2, hl2⟩ : ∃ l2, l2 = t.ls.length := ⟨_, rfl⟩
 obtain ⟨l1, hl1⟩ : ∃ l1, l1 = t.ov.length := ⟨_, rfl⟩
 obtain ⟨n, hn⟩ : ∃ n, n = t.n := ⟨_, rfl⟩
 obtain ⟨V, hV⟩ : ∃ V, V = valid t := ⟨_, rfl⟩
 rw [← hl2, ← hV, ← hl1, ← hn]
 rw [← hn] at hn1 hn2
 rw [← hl1, ← hn] at ho
 rw [← hl2] at hl
 have HO := Lib.hid ho
 have HA := Lib.hid hA2; clear hA2
 have HL := Lib.hid hl2; clear hl2
 have HN := Lib.hid hn; clear hn
 have HO1 := Lib.hid hl1; clear hl1
 have HV := Lib.hid hV; clear hV
 have d1 : decide (256 < (l2 : Int)) = false := by simp; omega
 have i1 : inR n 1 64 = true := by simp [inR, hn1, hn2]
 have d0 : (((l1 : Int) != 0) = false) ∨ (((l1 : Int) != 0) = true ∧ ((l1 : Int) != n) = false) := by
  rcases ho with rfl | h
  ·exact .inl (by simp)
  ·exact .inr ⟨by simp; omega, by simp [h]⟩
 clear ho
 rcases d0 with d2 | ⟨d2, d3⟩
 all_goals
  go_enter Tryz.func20, Tryz.ntmps20
  go_wp2_with (go_at_call 47; refine (topology_within _ _ _ _).mono ?_; rintro e w' ⟨rfl, rfl⟩)
  go_loopw [30] (fun i wr => ∃ k : Nat, k ≤ l2 ∧ i = .int .i64 k ∧ Hid (∀ j, j < k → ∃ l, t.ls[j]? = some l ∧ lnkOk n l = true) ∧ Below (w.heap.size + 1) (w.alloc (.cells #[.int .i64 n, .slice A1 l1 c1, .slice A2 l2 c2] 27)) wr) (fun i _ => l2 - (intOf i).toNat)
  case atStart => exact ⟨0, Nat.zero_le _, rfl, fun j hj => absurd hj (by omega), Below.refl _ _⟩
  case round =>
   obtain ⟨k, hk, rfl, hok, hb⟩ := hrel
   have b0 : wr.cell? ⟨w.heap.size, 0, none⟩ = some (.int .i64 n) := by rw [hb.cell (by simp)]; simp
   have b1 : wr.cell? ⟨w.heap.size, 1, none⟩ = some (.slice A1 l1 c1) := by rw [hb.cell (by simp)]; simp
   have b2 : wr.cell? ⟨w.heap.size, 2, none⟩ = some (.slice A2 l2 c2) := by rw [hb.cell (by simp)]; simp
   have HR := Lib.hid (HA.out.below ((below_box w _).trans (hb.mono (by omega))))
   have HB := Lib.hid hb; clear hb
   by_cases hlt : k < l2
   ·obtain ⟨b, o, l, rfl, hl', hc⟩ := HR.out.at_ (k := k) (by rw [← HL.out]; exact hlt)
    obtain ⟨q0, q1, q2, q3, q4, q5, q6⟩ := hc
    have HE := Lib.hid hl'; clear hl'
    cases e1 : (l.a == l.b) with
    | true =>
     go_wp2_with fail
     have kq_b0 := cell_regrown b0
     have kq_b1 := cell_regrown b1
     have kq_b2 := cell_regrown b2
     have kq_q0 := cell_regrown q0
     have kq_q1 := cell_regrown q1
     refine wp_region_quiet_below (by kernel_rfl) (by kernel_rfl) ?_
     repeat (go_big_quiet_step (fail))
     refine wpQuiet_nil ?_
     intro w2 hb2
     replace hb2 := below_of_regrown hb2
     clear kq_b0 kq_b1 kq_b2 kq_q0 kq_q1
     replace b0 := cell_up hb2 b0
     replace b1 := cell_up hb2 b1
     replace b2 := cell_up hb2 b2
     replace q0 := cell_up hb2 q0
     replace q1 := cell_up hb2 q1
     go_wp2_with fail
     go_ret
     exact ⟨by rw [bad_k HN HV HE (by simp [lnkOk, e1])]; rfl, below_next (below_boxed HB.out) hb2⟩
    | false =>
     cases e2 : isN n l.a with
     | false =>
      go_wp2_with fail
      have kq_b0 := cell_regrown b0
      have kq_b1 := cell_regrown b1
      have kq_b2 := cell_regrown b2
      have kq_q0 := cell_regrown q0
      have kq_q1 := cell_regrown q1
      refine wp_region_quiet_below (by kernel_rfl) (by kernel_rfl) ?_
      repeat (go_big_quiet_step (exact Calls.regrown_of (graph_Node _ _ _ _ _)))
      refine wpQuiet_nil ?_
      intro w2 hb2
      replace hb2 := below_of_regrown hb2
      clear kq_b0 kq_b1 kq_b2 kq_q0 kq_q1
      replace b0 := cell_up hb2 b0
      replace b1 := cell_up hb2 b1
      replace b2 := cell_up hb2 b2
      replace q0 := cell_up hb2 q0
      replace q1 := cell_up hb2 q1
      go_wp2_with fail
      go_ret
      exact ⟨by rw [bad_k HN HV HE (bad_a e2)]; rfl, below_next (below_boxed HB.out) hb2⟩
     | true =>
      cases e3 : isN n l.b with
      | false =>
       go_wp2_with fail
       have kq_b0 := cell_regrown b0
       have kq_b1 := cell_regrown b1
       have kq_b2 := cell_regrown b2
       have kq_q0 := cell_regrown q0
       have kq_q1 := cell_regrown q1
       refine wp_region_quiet_below (by kernel_rfl) (by kernel_rfl) ?_
       repeat (go_big_quiet_step (exact Calls.regrown_of (graph_Node _ _ _ _ _)))
       refine wpQuiet_nil ?_
       intro w2 hb2
       replace hb2 := below_of_regrown hb2
       clear kq_b0 kq_b1 kq_b2 kq_q0 kq_q1
       replace b0 := cell_up hb2 b0
       replace b1 := cell_up hb2 b1
       replace b2 := cell_up hb2 b2
       replace q0 := cell_up hb2 q0
       replace q1 := cell_up hb2 q1
       go_wp2_with fail
       go_ret
       exact ⟨by rw [bad_k HN HV HE (bad_b e3)]; rfl, below_next (below_boxed HB.out) hb2⟩
      | true =>
       go_wp2_with fail
       have kq_b0 := cell_regrown b0
       have kq_b1 := cell_regrown b1
       have kq_b2 := cell_regrown b2
       have kq_q0 := cell_regrown q0
       have kq_q1 := cell_regrown q1
       have kq_q2 := cell_regrown q2
       have kq_q3 := cell_regrown q3
       have kq_q4 := cell_regrown q4
       have kq_q5 := cell_regrown q5
       have kq_q6 := cell_regrown q6
       refine wp_region_quiet_below (by kernel_rfl) (by kernel_rfl) ?_
       repeat (go_big_quiet_step (exact Calls.regrown_of (graph_Node _ _ _ _ _)))
       refine wpQuiet_nil ?_
       intro w2 hb2
       replace hb2 := below_of_regrown hb2
       clear kq_b0 kq_b1 kq_b2 kq_q0 kq_q1 kq_q2 kq_q3 kq_q4 kq_q5 kq_q6
       replace b0 := cell_up hb2 b0
       replace b1 := cell_up hb2 b1
       replace b2 := cell_up hb2 b2
       replace q0 := cell_up hb2 q0
       replace q1 := cell_up hb2 q1
       replace q2 := cell_up hb2 q2
       replace q3 := cell_up hb2 q3
       replace q4 := cell_up hb2 q4
       replace q5 := cell_up hb2 q5
       replace q6 := cell_up hb2 q6
       go_wp2_with (go_at_call 47; refine (topology_within _ _ _ _).mono ?_; rintro e w' ⟨rfl, rfl⟩)
       all_goals first
        | (go_ret; refine ⟨?_, below_next (below_boxed HB.out) hb2⟩; rw [bad_k HN HV HE ?_]; rfl; first | (refine lc0 ?_; assumption) | (refine lc1 ?_; assumption) | (refine lc2 ?_; assumption) | (refine lc3 ?_; assumption) | (refine lc4 ?_; assumption))
        | (refine ⟨⟨k + 1, by omega, by go_num, lnkOk_snoc HE.out (good_l e1 e2 e3 ?_ (of_not_b ?_) ?_ ?_ (of_not_b ?_)) hok.out, below_next HB.out hb2⟩, by simp [intOf]; omega⟩ <;> assumption)
   ·go_wp2_with fail
    go_ret
    obtain rfl : k = l2 := by omega
    exact ⟨by rw [HV.out, valid_of (by rw [← HN.out]; exact hn1) (by rw [← HN.out]; exact hn2) (by rw [← HL.out]; exact hl) (by rw [← HO1.out, ← HN.out]; exact HO.out) (by rw [← HL.out, ← HN.out]; exact hok.out)]; rfl, below_boxed HB.out⟩
theorem topology_Valid (t : Topo) (A1 A2 : Option Addr) (c1 c2 : Nat) (w : World) (hA2 : RdL w A2 t.ls) :
  Calls Tryz.prog 20 #[.agg #[.int .i64 t.n, .slice A1 t.ov.length c1, .slice A2 t.ls.length c2]] w fun e w' => e = .returned (.bool (valid t)) ∧ Below w.heap.size w w' := by
 by_cases hn : 1 ≤ t.n ∧ t.n ≤ 64
 ·by_cases hl : t.ls.length ≤ 256
  ·by_cases ho : t.ov.length = 0
   ·exact topology_Valid_loop t A1 A2 c1 c2 w hA2 hn.1 hn.2 hl (.inl ho)
   ·by_cases ho2 : (t.ov.length : Int) = t.n
    ·exact topology_Valid_loop t A1 A2 c1 c2 w hA2 hn.1 hn.2 hl (.inr ho2)
    ·rw [bad3 ho ho2]
     generalize t.ov.length = l1 at *
     generalize t.ls.length = l2 at *
     generalize t.n = n at *
     have i1 : inR n 1 64 = true := by rw [inR_true]; exact hn
     have d1 : decide (256 < (l2 : Int)) = false := by simp; omega
     have d2 : ((l1 : Int) != 0) = true := by simp; omega
     have d3 : ((l1 : Int) != n) = true := by simp [ho2]
     clear hn hA2 ho ho2
     go_enter Tryz.func20, Tryz.ntmps20
     go_wp2_with (go_at_call 47; refine (topology_within _ _ _ _).mono ?_; rintro e w' ⟨rfl, rfl⟩)
     go_ret
     exact ⟨rfl, below_box w _⟩
  ·rw [bad2 hl]
   generalize t.ov.length = l1 at *
   generalize t.ls.length = l2 at *
   generalize t.n = n at *
   have i1 : inR n 1 64 = true := by rw [inR_true]; exact hn
   have d1 : decide (256 < (l2 : Int)) = true := by simp; omega
   clear hn hA2
   go_enter Tryz.func20, Tryz.ntmps20
   go_wp2_with (go_at_call 47; refine (topology_within _ _ _ _).mono ?_; rintro e w' ⟨rfl, rfl⟩)
   go_ret
   exact ⟨rfl, below_box w _⟩
 ·rw [bad1 hn]
  generalize t.ov.length = l1 at *
  generalize t.ls.length = l2 at *
  generalize t.n = n at *
  have i1 : inR n 1 64 = false := by rw [inR_false]; exact hn
  clear hn hA2
  go_enter Tryz.func20, Tryz.ntmps20
  go_wp2_with (go_at_call 47; refine (topology_within _ _ _ _).mono ?_; rintro e w' ⟨rfl, rfl⟩)
  go_ret
  exact ⟨rfl, below_box w _⟩
end Go.Proofs.YtfimacgmciogmaaGreatDoor
namespace Go.Proofs.YtfimacgmciogmaaGreatDoor
open Go.RowKit Go.Sort
end Go.Proofs.YtfimacgmciogmaaGreatDoor
namespace Go.Proofs.YtfimacgmciogmaaGreatDoor
open Go.RowKit Go.Sort
/-- A call that returns a list of ints; nothing that was there has changed. -/
def RetInts (w : World) (xs : List Int) (e : Ending) (w' : World) : Prop :=
 ∃ A c, e = .returned (.slice A xs.length c) ∧ xs.length ≤ c ∧ c ≤ maxLen ∧ Rd w' A (xs.map (Value.int .i64)) ∧ Below w.heap.size w w'
theorem rd_of_own {w : World} {base : Nat} {E : TypeId} {v : Value} {n : Nat} {xs : List Value} (h : w.ownsRow base E 1 v n xs) : ∃ A c, v = .slice A n c ∧ n ≤ c ∧ c ≤ maxLen ∧ Rd w A xs := by
 rcases h with ⟨hl, ⟨rfl, rfl⟩ | ⟨g, cap, cur, rfl, hb, hg, hnc, hcm, hs, ht⟩⟩
 ·exact ⟨none, 0, rfl, Nat.le_refl _, Nat.zero_le _, .inl (List.eq_nil_of_length_eq_zero (by simpa using hl))⟩
 ·refine ⟨some ⟨g, 0, none⟩, cap, rfl, hnc, hcm, .inr ⟨g, 0, rfl, fun j u hu => ?_⟩⟩
  have h0 : w.ownsRow base E 1 (.slice (some ⟨g, 0, none⟩) n cap) n xs := ⟨hl, .inr ⟨g, cap, cur, rfl, hb, hg, hnc, hcm, hs, ht⟩⟩
  have hj : j < n * 1 := by rw [← hl]; exact (List.getElem?_eq_some_iff.1 hu).1
  rw [Nat.zero_add, h0.cellAt j hj]; exact hu
theorem RetInts.next {w0 w w' : World} {xs : List Int} {e : Ending} (h : RetInts w xs e w') (hb : Below w0.heap.size w0 w) : RetInts w0 xs e w' := by
 obtain ⟨A, c, h0, h1, h2, h3, h4⟩ := h
 exact ⟨A, c, h0, h1, h2, h3, below_next hb h4⟩
theorem TBox.start {w : World} {A1 A2 : Option Addr} {t : Topo} (c1 c2 : Nat) (hT : TAt w A1 A2 t) :
  TBox w A1 A2 c1 c2 t (w.alloc (.cells #[.int .i64 t.n, .slice A1 t.ov.length c1, .slice A2 t.ls.length c2] 27)) :=
 ⟨box0 .., box1 .., box2 .., hT.below (below_box ..), below_box ..⟩
theorem intInfo : (Tryz.prog.info? 3).map (fun i => (i.zero, i.size, i.bytes)) = some (some (.int .i64 0), 1, 8) := by kernel_rfl
theorem own_up {w w' : World} {base : Nat} {E : TypeId} {size : Nat} {v : Value} {n : Nat} {xs : List Value} (h : w.ownsRow base E size v n xs) (hb : Below w.heap.size w w') : w'.ownsRow base E size v n xs := by
 rcases h with ⟨hl, h0 | ⟨g, cap, cur, hv, hB, hg, rest⟩⟩
 ·exact ⟨hl, .inl h0⟩
 ·exact ⟨hl, .inr ⟨g, cap, cur, hv, hB, (hb.block g (Array.getElem?_eq_some_iff.1 hg).1).trans hg, rest⟩⟩
theorem below_drw {B : Nat} {a w : World} (h : Below B a w) (n : Nat) : Below B a (w.drewN n) := h.trans ⟨rfl, rfl, rfl, Nat.le_refl _, fun _ _ => rfl⟩
end Go.Proofs.YtfimacgmciogmaaGreatDoor
namespace Go.Proofs.YtfimacgmciogmaaGreatDoor
theorem digit_toNat {d : Nat} (h : d < 10) : (UInt8.ofNat (48 + d)).toNat = 48 + d := by
 simp [UInt8.toNat_ofNat']; omega
theorem dec_small {u : Nat} (h : u < 10) : Lib.decDigits u = [UInt8.ofNat (48 + u)] := by rw [Lib.decDigits, dif_pos h]
theorem dec_big {u : Nat} (h : ¬ u < 10) : Lib.decDigits u = Lib.decDigits (u / 10) ++ [UInt8.ofNat (48 + u % 10)] := by rw [Lib.decDigits, dif_neg h]
theorem dec_ne (u : Nat) : Lib.decDigits u ≠ [] := by
 by_cases h : u < 10
 ·rw [dec_small h]; simp
 ·rw [dec_big h]; simp
theorem dec_digits : ∀ (u : Nat) (b : UInt8), b ∈ Lib.decDigits u → 48 ≤ b.toNat ∧ b.toNat ≤ 57 := by
 intro u
 induction u using Nat.strongRecOn with
 | _ u ih =>
  intro b hb
  by_cases h : u < 10
  ·rw [dec_small h, List.mem_singleton] at hb
   rw [hb, digit_toNat h]; omega
  ·rw [dec_big h, List.mem_append, List.mem_singleton] at hb
   rcases hb with hb | hb
   ·exact ih (u / 10) (by omega) b hb
   ·rw [hb, digit_toNat (by omega)]; omega
theorem dec_len : ∀ (k u : Nat), u < 10 ^ (k + 1) → (Lib.decDigits u).length ≤ k + 1
 | 0, u, h => by rw [dec_small (by simpa using h)]; simp
 | k + 1, u, h => by
  by_cases h' : u < 10
  ·rw [dec_small h']; simp
  ·rw [dec_big h', List.length_append]
   have : u / 10 < 10 ^ (k + 1) := by rw [Nat.div_lt_iff_lt_mul (by omega)]; rwa [Nat.pow_succ] at h
   have := dec_len k (u / 10) this
   simp; omega
theorem parse_append (x : List UInt8) : ∀ (acc : Nat) (y : List UInt8), Lib.parseUint10 acc (x ++ y) = (match Lib.parseUint10 acc x with | .ok v => Lib.parseUint10 v y | .«syntax» => .«syntax» | .range => .range) := by
 induction x with
 | nil => intro acc y; simp [Lib.parseUint10]
 | cons c r ih =>
  intro acc y
  simp only [List.cons_append, Lib.parseUint10]
  split
  ·split
   ·rfl
   ·split
    ·rfl
    ·exact ih _ y
  ·rfl
theorem parse_dec : ∀ u : Nat, u < 1000000000000000000 → Lib.parseUint10 0 (Lib.decDigits u) = .ok u := by
 intro u
 induction u using Nat.strongRecOn with
 | _ u ih =>
  intro hu
  by_cases h : u < 10
  ·rw [dec_small h]
   simp only [Lib.parseUint10, digit_toNat h]
   rw [if_pos (by omega), if_neg (by omega), if_neg (by omega)]
   congr 1
   omega
  ·rw [dec_big h, parse_append, ih (u / 10) (by omega) (by omega)]
   simp only [Lib.parseUint10, digit_toNat (show u % 10 < 10 by omega)]
   rw [if_pos (by omega), if_neg (by omega), if_neg (by omega)]
   congr 1
   omega
theorem atoi_dec {u : Nat} (h : u < 1000000000000000000) : Lib.atoiAll (Lib.decDigits u) = .ok (u : Int) := by
 have hp := parse_dec u h
 have hd := dec_digits u
 cases hx : Lib.decDigits u with
 | nil => exact absurd hx (dec_ne u)
 | cons c r =>
  rw [hx] at hp hd
  have hc := hd c (by simp)
  have h1 : ¬ (c.toNat = 43 ∨ c.toNat = 45) := by omega
  have h2 : ¬ c.toNat = 45 := by omega
  simp only [Lib.atoiAll, if_neg h1, Lib.parseMag, hp]
  simp [h2]
  omega
/-- What stands before the first space, and behind it. -/
theorem indexByte_none {l : List UInt8} {c : UInt8} (h : c ∉ l) : Lib.indexByte l c = -1 := by
 induction l with
 | nil => rfl
 | cons b r ih =>
  simp only [List.mem_cons, not_or] at h
  have : (b == c) = false := by simp; exact fun e => h.1 e.symm
  simp [Lib.indexByte, this, ih h.2]
theorem indexByte_at {x y : List UInt8} {c : UInt8} (h : c ∉ x) : Lib.indexByte (x ++ c :: y) c = (x.length : Int) := by
 induction x with
 | nil => simp [Lib.indexByte]
 | cons b r ih =>
  simp only [List.mem_cons, not_or] at h
  have hb : (b == c) = false := by simp; exact fun e => h.1 e.symm
  rw [List.cons_append, Lib.indexByte, hb, ih h.2]
  have : ((r.length : Int) == -1) = false := by rw [beq_eq_false_iff_ne]; omega
  simp [this]
theorem indexByte_some {l : List UInt8} {c : UInt8} (h : c ∈ l) : ∃ x y, l = x ++ c :: y ∧ c ∉ x := by
 induction l with
 | nil => cases h
 | cons b r ih =>
  by_cases e : b = c
  ·exact ⟨[], r, by rw [e]; rfl, by simp⟩
  ·obtain ⟨x, y, rfl, hx⟩ := ih (by simpa [Ne.symm e] using h)
   exact ⟨b :: x, y, rfl, by simp [hx, Ne.symm e]⟩
end Go.Proofs.YtfimacgmciogmaaGreatDoor
namespace Go.Proofs.YtfimacgmciogmaaGreatDoor
open Go.RowKit Go.Sort
/-- The variables that strconv.Atoi reads where it fails. -/
def Errs (w : World) : Prop := (∃ tp p, w.var? Tryz.prog "strconv.ErrSyntax" = some #[.iface tp p]) ∧ ∃ tp p, w.var? Tryz.prog "strconv.ErrRange" = some #[.iface tp p]
theorem var_up {w w' : World} {name : String} {cs : Array Value} (h : w.var? Tryz.prog name = some cs) (hb : Below w.heap.size w w') : w'.var? Tryz.prog name = some cs := by
 unfold World.var? at h ⊢
 cases hg : Tryz.prog.globalNamed name with
 | none => rw [hg] at h; simp at h
 | some g =>
  rw [hg] at h
  simp only [Option.bind_some] at h ⊢
  cases ho : w.heap[g]? with
  | none => rw [ho] at h; simp at h
  | some o => rw [hb.block g (Array.getElem?_eq_some_iff.1 ho).1, ho]; rw [ho] at h; exact h
theorem Errs.up {w w' : World} (h : Errs w) (hb : Below w.heap.size w w') : Errs w' := by
 obtain ⟨⟨t1, p1, h1⟩, t2, p2, h2⟩ := h
 exact ⟨⟨t1, p1, var_up h1 hb⟩, t2, p2, var_up h2 hb⟩
theorem atoi_ok (l : List UInt8) (v : Int) (h : Lib.atoiAll l = .ok v) (hl : l.length ≤ 1000000) (w : World) :
  Calls Tryz.prog 83 #[.string ⟨l.toArray⟩] w fun e w' => e = .returned (.tuple #[.int .i64 v, .nilIface]) ∧ Below w.heap.size w w' := by
 refine (Tryz.strconv_Atoi_ok ⟨l.toArray⟩ (by simp [ByteArray.size]; omega) v (by simpa using h) w).mono ?_
 rintro e w' ⟨rfl, rfl | ⟨t, rfl⟩⟩
 ·exact ⟨rfl, Below.refl _ _⟩
 ·exact ⟨rfl, Lib.bytesWorld_below _ _ _⟩
theorem atoi_bad (l : List UInt8) (h : ∀ v, Lib.atoiAll l ≠ .ok v) (hl : l.length ≤ 1000000) (w : World) (hE : Errs w) :
  Calls Tryz.prog 83 #[.string ⟨l.toArray⟩] w fun e w' => ∃ n t p, e = .returned (.tuple #[.int .i64 n, .iface t p]) ∧ Below w.heap.size w w' := by
 obtain ⟨⟨t1, p1, h1⟩, t2, p2, h2⟩ := hE
 cases ha : Lib.atoiAll l with
 | ok v => exact absurd ha (h v)
 | «syntax» =>
  refine (Tryz.strconv_Atoi_syntax_var ⟨l.toArray⟩ (by simp [ByteArray.size]; omega) (by simpa using ha) t1 p1 w h1).mono ?_
  rintro e w' ⟨N, rfl, _, _, hb⟩
  exact ⟨_, _, _, rfl, hb⟩
 | range =>
  refine (Tryz.strconv_Atoi_range_var ⟨l.toArray⟩ (by simp [ByteArray.size]; omega) (by simpa using ha) t2 p2 w h2).mono ?_
  rintro e w' ⟨N, rfl, _, _, hb⟩
  exact ⟨_, _, _, rfl, hb⟩
theorem box_set {W : World} {B : Nat} {a b x y : Value} {T : TypeId} (h : W.heap[B]? = some (.cells #[a, b] T (0, 0))) : ((W.setCell ⟨B, 0, none⟩ x).setCell ⟨B, 1, none⟩ y).heap[B]? = some (.cells #[x, y] T (0, 0)) :=
 heap_setCell_same _ _ _ _ _ _ (heap_setCell_same _ _ _ _ _ _ h)
theorem below_set2 {B : Nat} {w W : World} (h : Below B w W) (x y : Value) : Below B w ((W.setCell ⟨B, 0, none⟩ x).setCell ⟨B, 1, none⟩ y) := (h.setCell (Nat.le_refl _) _).setCell (Nat.le_refl _) _
end Go.Proofs.YtfimacgmciogmaaGreatDoor
namespace Go.Proofs.YtfimacgmciogmaaGreatDoor
open Go.ChangeShapes Go.WideShapes Go.ChangeAt Go.RowKit Go.Deep Go.Joins Go.OpenShut
section
variable {H : Type} {enc : TypeId × Value → H} {P : Program} {w : World} {base : Nat} {spare : Nat → Bool} {held : Bool}
end
def I64 (n : Int) : Prop := -9223372036854775808 ≤ n ∧ n ≤ 9223372036854775807
structure LnkIn (l : Lnk) : Prop where
 a : I64 l.a
 b : I64 l.b
 c0 : I64 l.c0
 c1 : I64 l.c1
 cap : I64 l.cap
 dl : I64 l.dl
 g : I64 l.g
section
variable {H : Type} {enc : TypeId × Value → H} {w : World} {base : Nat} {spare : Nat → Bool} {held : Bool}
end
end Go.Proofs.YtfimacgmciogmaaGreatDoor
namespace Go.Proofs.YtfimacgmciogmaaGreatDoor
open Go.RowKit Go.ChangeShapes Go.WideShapes Go.ChangeAt Go.Joins Go.OpenShut
theorem starES : "*" ++ "errors.errorString" = "*errors.errorString" := by decide
theorem rowES (u : TypeId) (h : Tryz.prog.typeName? 3 u = some "*errors.errorString") : u = 186 :=
 typeName_ptr_named (nm := "errors.errorString") (by rw [starES]; kernel_rfl) (by kernel_rfl) (by decide) u (by rw [starES]; exact h)
theorem gER : Tryz.prog.globalNamed "strconv.ErrRange" = some 5 := by kernel_rfl
theorem gES : Tryz.prog.globalNamed "strconv.ErrSyntax" = some 4 := by kernel_rfl
theorem gERt : (Tryz.prog.globals[(5 : Nat)]?).map (·.type) = some 101 := by kernel_rfl
theorem gESt : (Tryz.prog.globals[(4 : Nat)]?).map (·.type) = some 101 := by kernel_rfl
theorem errs_of {ta tb : List UInt8} {r : List (String × DataW Unit)} {W : World} (h : laidMet Tryz.prog (("strconv.ErrRange", .iface "*errors.errorString" (.ptr (.agg [.lit (.string ta)]))) :: ("strconv.ErrSyntax", .iface "*errors.errorString" (.ptr (.agg [.lit (.string tb)]))) :: r) W) : Errs W := by
 obtain ⟨a1, s1, hv1, _⟩ := laid_sentinel h gER gERt Tryz.underlying101 rowES Tryz.underlying186 Tryz.underlying188 rfl rfl Tryz.underlying9 (by kernel_rfl) (by kernel_rfl)
 obtain ⟨a2, s2, hv2, _⟩ := laid_sentinel h.tail gES gESt Tryz.underlying101 rowES Tryz.underlying186 Tryz.underlying188 rfl rfl Tryz.underlying9 (by kernel_rfl) (by kernel_rfl)
 exact ⟨⟨_, _, hv2⟩, _, _, hv1⟩
section
variable {H : Type} {enc : TypeId × Value → H} {w : World} {base : Nat} {spare : Nat → Bool} {held : Bool}
set_option maxRecDepth 100000 in
theorem open_str {r : Reach} {b0 : Nat} {v : Value} {d : DataW H} {ps : List MemPlace} (hval : Value.okWide Tryz.prog w r b0 9 v) (hd : DataW.Trod enc Tryz.prog w base spare held 9 v d ps) :
  ∃ l : List UInt8, v = .string ⟨l.toArray⟩ ∧ l.length ≤ maxLen := by
 obtain ⟨s, rfl, _, _, hs⟩ := Go.ChangeMaps.open_string Tryz.underlying9 hval hd
 refine ⟨s.data.toList, by simp, ?_⟩
 rw [Array.length_toList]
 exact hs
end
end Go.Proofs.YtfimacgmciogmaaGreatDoor
namespace Go.Proofs.YtfimacgmciogmaaGreatDoor
open Go.RowKit Go.Shelf
attribute [local go_sem] Oper.semAt_some
/-- The parts of a text that a byte parts; each part but the last keeps kp. -/
def splitK (c : UInt8) (kp : List UInt8) : List UInt8 → List (List UInt8)
 | [] => [[]]
 | x :: r => if x = c then kp :: splitK c kp r else (match splitK c kp r with | [] => [[x]] | p :: ps => (x :: p) :: ps)
theorem splitK_ne (c : UInt8) (kp s : List UInt8) : splitK c kp s ≠ [] := by
 cases s with
 | nil => simp [splitK]
 | cons x r =>
  unfold splitK
  split
  ·simp
  ·split <;> simp
theorem splitK_miss {c : UInt8} {kp : List UInt8} : ∀ {s : List UInt8}, c ∉ s → splitK c kp s = [s]
 | [], _ => rfl
 | x :: r, h => by
  have h1 : ¬ x = c := fun e => h (by simp [e])
  have h2 : c ∉ r := fun e => h (by simp [e])
  unfold splitK
  rw [if_neg h1, splitK_miss h2]
theorem splitK_cons {c : UInt8} {kp : List UInt8} {x : UInt8} {r : List UInt8} (h : ¬ x = c) : splitK c kp (x :: r) = (match splitK c kp r with | [] => [[x]] | p :: ps => (x :: p) :: ps) := by rw [splitK, if_neg h]
theorem splitK_hit {c : UInt8} {kp y : List UInt8} : ∀ {x : List UInt8}, c ∉ x → splitK c kp (x ++ c :: y) = (x ++ kp) :: splitK c kp y
 | [], _ => by simp [splitK]
 | a :: r, h => by
  have h1 : ¬ a = c := fun e => h (by simp [e])
  have h2 : c ∉ r := fun e => h (by simp [e])
  rw [List.cons_append, splitK_cons h1, splitK_hit h2]
  rfl
theorem splitK_len (c : UInt8) (kp : List UInt8) : ∀ s, (splitK c kp s).length ≤ s.length + 1
 | [] => by simp [splitK]
 | x :: r => by
  have ih := splitK_len c kp r
  unfold splitK
  split
  ·simp; omega
  ·split
   ·simp
   ·rename_i p ps h
    rw [h] at ih
    simp at ih ⊢; omega
theorem ext_front (x y : List UInt8) : (⟨(x ++ y).toArray⟩ : ByteArray).extract 0 x.length = ⟨x.toArray⟩ := by
 apply ByteArray.ext
 simp [ByteArray.data_extract]
theorem ext_back (x y : List UInt8) : (⟨(x ++ y).toArray⟩ : ByteArray).extract x.length (x ++ y).length = ⟨y.toArray⟩ := by
 apply ByteArray.ext
 simp [ByteArray.data_extract]
theorem splitK_mem {c : UInt8} {x : List UInt8} : ∀ {s : List UInt8}, x ∈ splitK c [] s → x.length ≤ s.length
 | [], h => by simp [splitK] at h; simp [h]
 | a :: r, h => by
  by_cases e : a = c
  ·rw [splitK, if_pos e] at h
   rcases List.mem_cons.1 h with rfl | h
   ·simp
   ·have := splitK_mem h; simp; omega
  ·rw [splitK_cons e] at h
   cases hs : splitK c [] r with
   | nil => exact absurd hs (splitK_ne _ _ _)
   | cons p ps =>
    rw [hs] at h
    simp only at h
    rcases List.mem_cons.1 h with rfl | h
    ·have := splitK_mem (x := p) (s := r) (c := c) (by rw [hs]; simp)
     simp; omega
    ·have := splitK_mem (x := x) (s := r) (c := c) (by rw [hs]; simp [h])
     simp; omega
/-- Three blocks as they were. -/
def K3 (a b c : Nat) (W W' : World) : Prop := W'.heap[a]? = W.heap[a]? ∧ W'.heap[b]? = W.heap[b]? ∧ W'.heap[c]? = W.heap[c]?
theorem K3.trans {a b c : Nat} {X Y Z : World} (h : K3 a b c X Y) (g : K3 a b c Y Z) : K3 a b c X Z := ⟨g.1.trans h.1, g.2.1.trans h.2.1, g.2.2.trans h.2.2⟩
theorem K3.put {a b c B : Nat} (ha : a < B) (hb : b < B) (hc : c < B) (W : World) (l : Nat) (o' : Obj) (hl : B ≤ l) : K3 a b c W (W.putObj l o') :=
 ⟨World.putObj_heap_other (by omega), World.putObj_heap_other (by omega), World.putObj_heap_other (by omega)⟩
def strLen (w : World) (b : Nat) : Nat := match w.cell? ⟨b, 0, none⟩ with | some (.string x) => x.size | _ => 0
theorem strLen_of {w : World} {b : Nat} {t : TypeId} {l : List UInt8} (h : Boxed w b t (.string ⟨l.toArray⟩)) : strLen w b = l.length := by
 unfold strLen
 rw [h.cell]
 simp [ByteArray.size]
theorem drop_some {α : Type} {ps r : List α} {k : Nat} {x : α} (h : ps.drop k = x :: r) : ps[k]? = some x ∧ ps.drop (k + 1) = r := by
 constructor
 ·have := congrArg (fun l => l[0]?) h
  simpa using this
 ·rw [← List.drop_drop, h]; rfl
theorem drop_lt {c : UInt8} {kp : List UInt8} {ps : List (List UInt8)} {k : Nat} {y : List UInt8} (h : ps.drop k = splitK c kp y) : k ≤ ps.length := by
 by_cases hk : k ≤ ps.length
 ·exact hk
 ·rw [List.drop_of_length_le (by omega)] at h; exact absurd h.symm (splitK_ne c kp y)
theorem drop_one {α : Type} {ps : List α} {k : Nat} {x : α} (h : ps.drop k = [x]) : ps[k]? = some x ∧ ps.length = k + 1 := by
 refine ⟨(drop_some h).1, ?_⟩
 have := congrArg List.length h
 simp at this
 omega
set_option maxRecDepth 100000 in
set_option maxHeartbeats 4000000 in
theorem split1_in (n : Nat) (hn : 1 ≤ n) (c : UInt8) (kp s : List UInt8) (hkp : kp = [] ∨ kp = [c]) (hs : s.length ≤ 1000000) (Bp Bs Bk : Nat) (w : World) (hps : Bp ≠ Bs) (hks : Bk ≠ Bs)
  (hp : Boxed w Bp 9 (.string ⟨#[c]⟩)) (hb : Boxed w Bs 9 (.string ⟨s.toArray⟩)) (hk : Boxed w Bk 3 (.int .i64 kp.length)) :
  IterC Fence.wide n Tryz.prog 53 #[.pointer (some ⟨Bp, 0, none⟩), .pointer (some ⟨Bs, 0, none⟩), .pointer (some ⟨Bk, 0, none⟩)] (fun l : List UInt8 => .string ⟨l.toArray⟩) Bs (K3 Bp Bs Bk) (splitK c kp s) w := by
 intro l J Jx W hW hJ hJx hY h0
 replace hp : Boxed W Bp _ _ := (hW.block _ hp.lt).trans hp
 replace hb : Boxed W Bs _ _ := (hW.block _ hb.lt).trans hb
 replace hk : Boxed W Bk _ _ := (hW.block _ hk.lt).trans hk
 refine callsIn_of_wp Tryz.func53 rfl trivial ?_ rfl
 simp only [Tryz.ntmps53, List.size_toArray, List.length_cons, List.length_nil, Nat.reduceAdd, Nat.reduceSub, Array.replicate_succ, Array.replicate_zero, List.push_toArray, List.append_toArray, List.nil_append, List.cons_append]
 have HJ := Lib.hid hJ
 have HJx := Lib.hid hJx
 have HY := Lib.hid hY
 have H0 := Lib.hid h0
 have q0 := hp.cell
 have HP := Lib.hid hp
 have HB := Lib.hid hb
 have HK := Lib.hid hk
 clear hJ hJx hY h0 hp hb hk
 gi_wp2
 gi_loopw [7] (fun i wr => Hid (∃ (k : Nat) (r : List UInt8), (splitK c kp s).drop k = splitK c kp r ∧ r.length ≤ 1000000 ∧ J k wr ∧ Boxed wr Bp 9 (.string ⟨#[c]⟩) ∧ Boxed wr Bs 9 (.string ⟨r.toArray⟩) ∧ Boxed wr Bk 3 (.int .i64 kp.length))) (fun i wr => strLen wr Bs)
 case atStart => exact Lib.hid ⟨0, s, rfl, hs, H0.out, HP.out, HB.out, HK.out⟩
 case round =>
  obtain ⟨k, r, hd, hr, hj, hp, hb, hk⟩ := hrel.out
  clear hrel
  have q0 := hp.cell
  have q1 := hb.cell
  have q2 := hk.cell
  have qf := hb.frozen
  have HJk := Lib.hid hj
  have HP := Lib.hid hp
  have HB := Lib.hid hb
  have HK := Lib.hid hk
  clear hj hp hb hk
  by_cases hc : c ∈ r
  ·obtain ⟨x, y, hxy, hx⟩ := indexByte_some hc
   have hi : Lib.indexByte r c = (x.length : Int) := by rw [hxy]; exact indexByte_at hx
   have HI : Hid (∀ w', Calls Tryz.prog 55 #[.string ⟨r.toArray⟩, .string ⟨#[c]⟩] w' fun e w'' => e = .returned (.int .i64 (x.length : Int)) ∧ w'' = w') := Lib.hid fun w' => by
    have h := Tryz.strings_Index_one ⟨r.toArray⟩ c w'
    rw [show (⟨r.toArray⟩ : ByteArray).data.toList = r by simp, hi] at h
    exact h
   have hxl : x.length + 1 + y.length = r.length := by rw [hxy]; simp; omega
   have hkl : kp.length ≤ 1 := by rcases hkp with rfl | rfl <;> simp
   have hkl' : (kp.length : Int) ≤ 1 := by omega
   have hm : (x.length : Int) + (kp.length : Int) ≤ (r.length : Int) := by omega
   have hm2 : (x.length : Int) + 1 ≤ (r.length : Int) := by omega
   have E1 : (⟨r.toArray⟩ : ByteArray).extract 0 (x.length + kp.length) = ⟨(x ++ kp).toArray⟩ := by
    rcases hkp with rfl | rfl
    ·rw [hxy]; simpa using ext_front x (c :: y)
    ·rw [hxy]; simpa using ext_front (x ++ [c]) y
   have E2 : (⟨r.toArray⟩ : ByteArray).extract (x.length + 1) r.length = ⟨y.toArray⟩ := by
    rw [hxy]; simpa using ext_back (x ++ [c]) y
   have hd' : (splitK c kp s).drop k = (x ++ kp) :: splitK c kp y := by rw [hd, hxy, splitK_hit hx]
   obtain ⟨hps', hd2⟩ := drop_some hd'
   obtain ⟨fn, tmps, assign, body, hy, hR⟩ := HY.out k (x ++ kp) wr HJk.out hps'
   rw [← E1] at hy
   have HE2 := Lib.hid E2
   have HD2 := Lib.hid hd2
   have hyl : y.length ≤ 1000000 := by omega
   have hrl : y.length < r.length := by omega
   clear E1 E2 hd hd' hps' hd2 hi hxy hx hc hxl
   gi_wp2_with (refine ⟨trivial, ?_⟩; gi_at_call 55; refine (callsIn_wide.2 (HI.out _)).mono ?_; rintro e w1 ⟨rfl, rfl⟩)
   refine hR.mono ?_
   rintro e W3 (⟨rfl, hJ3, hk3⟩ | ⟨rfl, hJx3⟩)
   ·have HJ3 := Lib.hid hJ3
    have b0 : Boxed W3 Bp 9 (.string ⟨#[c]⟩) := hk3.1.trans HP.out
    have b1 : Boxed W3 Bs 9 (.string ⟨r.toArray⟩) := hk3.2.1.trans HB.out
    have b2 : Boxed W3 Bk 3 (.int .i64 kp.length) := hk3.2.2.trans HK.out
    have c0 := b0.cell
    have c1 := b1.cell
    have cf := b1.frozen
    have B0 := Lib.hid b0
    have B1 := Lib.hid b1
    have B2 := Lib.hid b2
    clear hJ3 hk3 hR hy b0 b1 b2
    gi_wp2
    rw [HE2.out]
    have bs := B1.out.set (.string ⟨y.toArray⟩)
    go_roundw
    case rel => exact Lib.hid ⟨k + 1, y, HD2.out, hyl, HJ.out _ _ _ HJ3.out (grownBy_setCell' _ _ _), B0.out.other hps _, bs, B2.out.other hks _⟩
    case measure => rw [strLen_of bs, strLen_of HB.out]; exact hrl
   ·have HX := Lib.hid (And.intro hJx3 (drop_lt HD2.out))
    clear hJx3
    gi_wp2
    refine bodyPost_ret (results_none rfl _ _ _) rfl ?_
    exact ⟨⟨_, rfl⟩, .inr ⟨k + 1, HX.out.2, HX.out.1⟩⟩
  ·have hi : Lib.indexByte r c = -1 := indexByte_none hc
   have HI : Hid (∀ w', Calls Tryz.prog 55 #[.string ⟨r.toArray⟩, .string ⟨#[c]⟩] w' fun e w'' => e = .returned (.int .i64 (-1)) ∧ w'' = w') := Lib.hid fun w' => by
    have h := Tryz.strings_Index_one ⟨r.toArray⟩ c w'
    rw [show (⟨r.toArray⟩ : ByteArray).data.toList = r by simp, hi] at h
    exact h
   have hd' : (splitK c kp s).drop k = [r] := by rw [hd, splitK_miss hc]
   obtain ⟨hps', hlen⟩ := drop_one hd'
   obtain ⟨fn, tmps, assign, body, hy, hR⟩ := HY.out k r wr HJk.out hps'
   have HL := Lib.hid hlen
   clear hd hd' hps' hlen hi hc
   gi_wp2_with (refine ⟨trivial, ?_⟩; gi_at_call 55; refine (callsIn_wide.2 (HI.out _)).mono ?_; rintro e w1 ⟨rfl, rfl⟩)
   refine hR.mono ?_
   rintro e W3 (⟨rfl, hJ3, hk3⟩ | ⟨rfl, hJx3⟩)
   ·have HJ3 := Lib.hid hJ3
    clear hJ3 hk3 hR hy
    gi_wp2
    go_end0
    exact ⟨⟨_, rfl⟩, .inl (by rw [HL.out]; exact HJ3.out)⟩
   ·have HX := Lib.hid hJx3
    clear hJx3
    gi_wp2
    go_end0
    exact ⟨⟨_, rfl⟩, .inr ⟨k + 1, by rw [HL.out]; exact Nat.le_refl _, HX.out⟩⟩
/-- strings.splitSeq: the boxes, and the function value over them. -/
theorem splitSeq_in (n : Nat) (s : List UInt8) (c : UInt8) (k : Int) (w : World) :
  CallsIn Fence.wide n Tryz.prog 29 #[.string ⟨s.toArray⟩, .string ⟨#[c]⟩, .int .i64 k] w fun e w' => e = .returned (.func (.func 53) #[] #[.pointer (some ⟨w.heap.size + 1, 0, none⟩), .pointer (some ⟨w.heap.size, 0, none⟩), .pointer (some ⟨w.heap.size + 1 + 1, 0, none⟩)]) ∧
   w' = ((w.alloc (.cells #[.string ⟨s.toArray⟩] 9)).alloc (.cells #[.string ⟨#[c]⟩] 9)).alloc (.cells #[.int .i64 k] 3) := by
 refine callsIn_of_wp Tryz.func29 rfl trivial ?_ rfl
 simp only [Tryz.ntmps29, List.size_toArray, List.length_cons, List.length_nil, Nat.reduceAdd, Nat.reduceSub, Array.replicate_succ, Array.replicate_zero, List.push_toArray, List.append_toArray, List.nil_append, List.cons_append]
 gi_wp2
 go_ret
 exact ⟨rfl, rfl⟩
theorem SplitSeq_in (n : Nat) (hn : 1 ≤ n) (s : List UInt8) (c : UInt8) (w : World) :
  CallsIn Fence.wide n Tryz.prog 10 #[.string ⟨s.toArray⟩, .string ⟨#[c]⟩] w fun e w' => e = .returned (.func (.func 53) #[] #[.pointer (some ⟨w.heap.size + 1, 0, none⟩), .pointer (some ⟨w.heap.size, 0, none⟩), .pointer (some ⟨w.heap.size + 1 + 1, 0, none⟩)]) ∧
   w' = ((w.alloc (.cells #[.string ⟨s.toArray⟩] 9)).alloc (.cells #[.string ⟨#[c]⟩] 9)).alloc (.cells #[.int .i64 0] 3) := by
 refine callsIn_of_wp Tryz.func10 rfl trivial ?_ rfl
 simp only [Tryz.ntmps10, List.size_toArray, List.length_cons, List.length_nil, Nat.reduceAdd, Nat.reduceSub, Array.replicate_succ, Array.replicate_zero, List.push_toArray, List.append_toArray, List.nil_append, List.cons_append]
 gi_wp2_with (refine ⟨trivial, ?_⟩; gi_at_call 29; refine (splitSeq_in _ _ _ _ _).mono ?_; rintro e w1 ⟨rfl, rfl⟩)
 go_ret
 exact ⟨rfl, rfl⟩
end Go.Proofs.YtfimacgmciogmaaGreatDoor
namespace Go.Proofs.YtfimacgmciogmaaGreatDoor
open Go.RowKit Go.Sort
def strW (l : List UInt8) : Value := .string ⟨l.toArray⟩
theorem strInfo' : (Tryz.prog.info? 9).map (fun i => (i.zero, i.size, i.bytes)) = some (some (.string ⟨#[]⟩), 1, 16) := by kernel_rfl
/-- One append of a value of one cell. -/
theorem own_add' {B : Nat} {E : TypeId} {wr w1 : World} {v : Value} {xs : List Value} {o : Obj} {n : Nat} (hown : wr.ownsRow B E 1 v n xs) (hB : B ≤ wr.heap.size)
  (hg : (wr.alloc o).grownBy w1 v.ownBlock) : Below B wr w1 :=
 ((Below.refl B wr).alloc hB o).grown hg (by simp; omega) (fun k hk => (hown.lt k hk).1)
theorem ext_mid {s q cur : List UInt8} {i : Nat} (h : s.take i = q ++ cur) (hi : i ≤ s.length) : (⟨s.toArray⟩ : ByteArray).extract q.length i = ⟨cur.toArray⟩ := by
 have hs : s = q ++ cur ++ s.drop i := by rw [← h]; exact (List.take_append_drop i s).symm
 have hl : i = (q ++ cur).length := by rw [← h, List.length_take]; omega
 apply ByteArray.ext
 simp only [ByteArray.data_extract]
 rw [hs, hl]
 simp
end Go.Proofs.YtfimacgmciogmaaGreatDoor
