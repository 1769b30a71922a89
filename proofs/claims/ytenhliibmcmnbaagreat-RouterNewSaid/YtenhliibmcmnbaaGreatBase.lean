/-
  What the walks of this seat share: plain data (links, topologies), how they lie in memory, and small laws on worlds. Nothing of the program is stated here.
-/
import Derived.Test.YtenhliibmcmnbaaGreatProg
import Derived.WalkKit
import Derived.WalkLawsBesides
import Derived.Handy
import Derived.Outline
import Derived.Below
import Derived.Lib.Hide
import Derived.BigQuiet
import Derived.Deep.QuietTactic
import Derived.Lib.QuietBelow
import Derived.Laws.OwnMore
import Derived.Maps.AppendAt
namespace Go.Proofs.YtenhliibmcmnbaaGreat
open Go.RowKit Go.Sort

theorem below_of_regrown {w w' : World} (h : ∃ p : Regrown, w' = grow (redrawn w p.d) p.os) : Below w.heap.size w w' := by
  obtain ⟨p, rfl⟩ := h
  exact below_regrown w p.d p.os

theorem cell_up {w w' : World} {a : Addr} {v : Value} (hb : Below w.heap.size w w') (h : w.cell? a = some v) : w'.cell? a = some v := by
  rw [hb.cell (block_lt_of_cell h)]; exact h

theorem below_next {a w w' : World} {B : Nat} (h : Below B a w) (h2 : Below w.heap.size w w') (hB : B ≤ a.heap.size := by first | exact Nat.le_refl _ | simp) : Below B a w' :=
  h.trans (h2.mono (Nat.le_trans hB h.size))

theorem below_box (w : World) (o : Obj) : Below w.heap.size w (w.alloc o) := (Below.refl _ w).alloc (Nat.le_refl _) o

theorem box0 (w : World) (x y z : Value) (T : TypeId) : (w.alloc (.cells #[x, y, z] T)).cell? ⟨w.heap.size, 0, none⟩ = some x := by simp
theorem box1 (w : World) (x y z : Value) (T : TypeId) : (w.alloc (.cells #[x, y, z] T)).cell? ⟨w.heap.size, 1, none⟩ = some y := by simp
theorem box2 (w : World) (x y z : Value) (T : TypeId) : (w.alloc (.cells #[x, y, z] T)).cell? ⟨w.heap.size, 2, none⟩ = some z := by simp

/-- The cells of a slice that starts at A: nothing is asked of an empty one. -/
def Rd (w : World) (A : Option Addr) (xs : List Value) : Prop :=
  xs = [] ∨ ∃ b o, A = some ⟨b, o, none⟩ ∧ ∀ j u, xs[j]? = some u → w.cell? ⟨b, o + j, none⟩ = some u

theorem Rd.at_ {w : World} {A : Option Addr} {xs : List Value} {k : Nat} {u : Value} (h : Rd w A xs) (hk : xs[k]? = some u) : ∃ b o, A = some ⟨b, o, none⟩ ∧ w.cell? ⟨b, o + k, none⟩ = some u := by
  rcases h with rfl | ⟨b, o, rfl, hc⟩
  · simp at hk
  · exact ⟨b, o, rfl, hc k u hk⟩
theorem Rd.keep {w w' : World} {A : Option Addr} {xs : List Value} (h : Rd w A xs) (hk : ∀ p : Addr, p.block < w.heap.size → w'.cell? p = w.cell? p) : Rd w' A xs := by
  rcases h with rfl | ⟨b, o, rfl, hc⟩
  · exact .inl rfl
  · exact .inr ⟨b, o, rfl, fun j u hu => (hk _ (block_lt_of_cell (hc j u hu))).trans (hc j u hu)⟩
theorem Rd.below {w w' : World} {A : Option Addr} {xs : List Value} (h : Rd w A xs) (hb : Below w.heap.size w w') : Rd w' A xs := h.keep fun _ hp => hb.cell hp

structure Lnk where
  a : Int
  b : Int
  c0 : Int
  c1 : Int
  cap : Int
  dl : Int
  g : Int
  deriving DecidableEq, Inhabited

structure Topo where
  n : Int
  ov : List Bool
  ls : List Lnk
  deriving Inhabited

/-- The cells of a link that starts at an address. -/
structure LAt (w : World) (b o : Nat) (l : Lnk) : Prop where
  q0 : w.cell? ⟨b, o, none⟩ = some (.int .i64 l.a)
  q1 : w.cell? ⟨b, o + 1, none⟩ = some (.int .i64 l.b)
  q2 : w.cell? ⟨b, o + 2, none⟩ = some (.int .i64 l.c0)
  q3 : w.cell? ⟨b, o + 3, none⟩ = some (.int .i64 l.c1)
  q4 : w.cell? ⟨b, o + 4, none⟩ = some (.int .i64 l.cap)
  q5 : w.cell? ⟨b, o + 5, none⟩ = some (.int .i64 l.dl)
  q6 : w.cell? ⟨b, o + 6, none⟩ = some (.int .i64 l.g)

/-- The cells of a slice of links. -/
def RdL (w : World) (A : Option Addr) (ls : List Lnk) : Prop :=
  ls = [] ∨ ∃ b o, A = some ⟨b, o, none⟩ ∧ ∀ k l, ls[k]? = some l → LAt w b (o + k * 7) l

theorem LAt.up {w w' : World} {b o : Nat} {l : Lnk} (h : LAt w b o l) (hb : Below w.heap.size w w') : LAt w' b o l :=
  ⟨cell_up hb h.q0, cell_up hb h.q1, cell_up hb h.q2, cell_up hb h.q3, cell_up hb h.q4, cell_up hb h.q5, cell_up hb h.q6⟩
theorem RdL.at_ {w : World} {A : Option Addr} {ls : List Lnk} {k : Nat} (h : RdL w A ls) (hk : k < ls.length) : ∃ b o l, A = some ⟨b, o, none⟩ ∧ ls[k]? = some l ∧ LAt w b (o + k * 7) l := by
  rcases h with rfl | ⟨b, o, rfl, hc⟩
  · simp at hk
  · exact ⟨b, o, ls[k], rfl, List.getElem?_eq_getElem hk, hc k ls[k] (List.getElem?_eq_getElem hk)⟩
theorem RdL.below {w w' : World} {A : Option Addr} {ls : List Lnk} (h : RdL w A ls) (hb : Below w.heap.size w w') : RdL w' A ls := by
  rcases h with rfl | ⟨b, o, rfl, hc⟩
  · exact .inl rfl
  · exact .inr ⟨b, o, rfl, fun k l hl => (hc k l hl).up hb⟩

/-- How a topology lies in memory: A1, A2 lead to the overload marks and the links. -/
structure TAt (w : World) (A1 A2 : Option Addr) (t : Topo) : Prop where
  ov : Rd w A1 (t.ov.map Value.bool)
  ls : RdL w A2 t.ls

theorem TAt.below {w w' : World} {A1 A2 : Option Addr} {t : Topo} (h : TAt w A1 A2 t) (hb : Below w.heap.size w w') : TAt w' A1 A2 t := ⟨h.ov.below hb, h.ls.below hb⟩
theorem TAt.re {w : World} {A1 A2 : Option Addr} {t : Topo} (h : TAt w A1 A2 t) (d : Nat) (os : Array Obj) : TAt (grow (redrawn w d) os) A1 A2 t := h.below (below_regrown w d os)

/-- The box of a topology parameter (block w.heap.size), in a later world wr; what lay below it is as it was. -/
structure TBox (w : World) (A1 A2 : Option Addr) (c1 c2 : Nat) (t : Topo) (wr : World) : Prop where
  b0 : wr.cell? ⟨w.heap.size, 0, none⟩ = some (.int .i64 t.n)
  b1 : wr.cell? ⟨w.heap.size, 1, none⟩ = some (.slice A1 t.ov.length c1)
  b2 : wr.cell? ⟨w.heap.size, 2, none⟩ = some (.slice A2 t.ls.length c2)
  ta : TAt wr A1 A2 t
  hb : Below w.heap.size w wr
theorem TBox.up {w wr w' : World} {A1 A2 : Option Addr} {c1 c2 : Nat} {t : Topo} (h : TBox w A1 A2 c1 c2 t wr) (hb : Below wr.heap.size wr w') : TBox w A1 A2 c1 c2 t w' :=
  ⟨cell_up hb h.b0, cell_up hb h.b1, cell_up hb h.b2, h.ta.below hb, below_next h.hb hb⟩

def inR (x lo hi : Int) : Bool := decide (lo ≤ x) && decide (x ≤ hi)
def lnkOk (n : Int) (l : Lnk) : Bool := !(l.a == l.b) && inR l.a 0 (n - 1) && inR l.b 0 (n - 1) && inR l.c0 1 65535 && inR l.c1 1 65535 && inR l.cap 0 1048576 && inR l.dl 1 65536 && inR l.g 0 64
def valid (t : Topo) : Bool := inR t.n 1 64 && decide (t.ls.length ≤ 256) && (decide (t.ov.length = 0) || decide ((t.ov.length : Int) = t.n)) && t.ls.all (lnkOk t.n)

theorem valid_bad {t : Topo} {k : Nat} {l : Lnk} (h : t.ls[k]? = some l) (hb : lnkOk t.n l = false) : valid t = false := by
  have : t.ls.all (lnkOk t.n) = false := by
    rw [List.all_eq_false]
    exact ⟨l, List.mem_of_getElem? h, by simp [hb]⟩
  simp [valid, this]
theorem lnkOk_snoc {n : Int} {ls : List Lnk} {k : Nat} {l : Lnk} (h : ls[k]? = some l) (hb : lnkOk n l = true) (hp : ∀ j, j < k → ∃ l, ls[j]? = some l ∧ lnkOk n l = true) :
    ∀ j, j < k + 1 → ∃ l, ls[j]? = some l ∧ lnkOk n l = true := by
  intro j hj
  by_cases e : j = k
  · subst e; exact ⟨l, h, hb⟩
  · exact hp j (by omega)
theorem all_of {n : Int} {ls : List Lnk} (hp : ∀ j, j < ls.length → ∃ l, ls[j]? = some l ∧ lnkOk n l = true) : ls.all (lnkOk n) = true := by
  rw [List.all_eq_true]
  intro x hx
  obtain ⟨j, hj, rfl⟩ := List.getElem_of_mem hx
  obtain ⟨l, h1, h2⟩ := hp j hj
  rw [List.getElem?_eq_getElem hj] at h1
  injection h1 with h1
  rw [h1]; exact h2
theorem valid_of {t : Topo} (h1 : 1 ≤ t.n) (h2 : t.n ≤ 64) (h3 : t.ls.length ≤ 256) (h4 : t.ov.length = 0 ∨ (t.ov.length : Int) = t.n) (hp : ∀ j, j < t.ls.length → ∃ l, t.ls[j]? = some l ∧ lnkOk t.n l = true) : valid t = true := by
  simp only [valid, inR, all_of hp, Bool.and_true, Bool.and_eq_true, Bool.or_eq_true, decide_eq_true_eq]
  exact ⟨⟨⟨h1, h2⟩, h3⟩, h4⟩
theorem valid_n {t : Topo} (h : valid t = true) : 1 ≤ t.n ∧ t.n ≤ 64 := by
  simp only [valid, inR, Bool.and_eq_true, decide_eq_true_eq] at h
  exact h.1.1.1
theorem valid_ls {t : Topo} (h : valid t = true) : t.ls.length ≤ 256 := by
  simp only [valid, inR, Bool.and_eq_true, decide_eq_true_eq] at h
  exact h.1.1.2
theorem valid_ov {t : Topo} (h : valid t = true) : t.ov.length = 0 ∨ (t.ov.length : Int) = t.n := by
  simp only [valid, inR, Bool.and_eq_true, Bool.or_eq_true, decide_eq_true_eq] at h
  exact h.1.2
theorem valid_lnk {t : Topo} (h : valid t = true) {k : Nat} {l : Lnk} (hl : t.ls[k]? = some l) : lnkOk t.n l = true := by
  simp only [valid, Bool.and_eq_true, List.all_eq_true] at h
  exact h.2 l (List.mem_of_getElem? hl)
theorem lnk_bd {n : Int} {l : Lnk} (h : lnkOk n l = true) : l.a ≠ l.b ∧ 0 ≤ l.a ∧ l.a < n ∧ 0 ≤ l.b ∧ l.b < n ∧ 1 ≤ l.c0 ∧ l.c0 ≤ 65535 ∧ 1 ≤ l.c1 ∧ l.c1 ≤ 65535 ∧ 0 ≤ l.cap ∧ l.cap ≤ 1048576 ∧ 1 ≤ l.dl ∧ l.dl ≤ 65536 ∧ 0 ≤ l.g ∧ l.g ≤ 64 := by
  simp only [lnkOk, inR, Bool.and_eq_true, Bool.not_eq_true', decide_eq_true_eq, beq_eq_false_iff_ne] at h
  omega

/-- The arcs: arc a leads over link a / 2. -/
def lnk (t : Topo) (a : Int) : Lnk := t.ls.getD (a / 2).toNat default
def tail (t : Topo) (a : Int) : Int := if a % 2 = 0 then (lnk t a).a else (lnk t a).b
def head (t : Topo) (a : Int) : Int := if a % 2 = 0 then (lnk t a).b else (lnk t a).a
def cost (t : Topo) (a : Int) : Int := if a % 2 = 0 then (lnk t a).c0 else (lnk t a).c1
def over (t : Topo) (n : Int) : Bool := t.ov.getD n.toNat false
def isN (n m : Int) : Bool := decide (0 ≤ m) && decide (m < n)
theorem isN_true {n m : Int} : isN n m = true ↔ 0 ≤ m ∧ m < n := by simp [isN]
theorem isN_false {n m : Int} : isN n m = false ↔ ¬ (0 ≤ m ∧ m < n) := by rw [← isN_true]; simp
theorem inR_true {x lo hi : Int} : inR x lo hi = true ↔ lo ≤ x ∧ x ≤ hi := by simp [inR]
theorem inR_false {x lo hi : Int} : inR x lo hi = false ↔ ¬ (lo ≤ x ∧ x ≤ hi) := by rw [← inR_true]; simp
theorem below_boxed {w w' : World} {o : Obj} (h : Below (w.heap.size + 1) (w.alloc o) w') : Below w.heap.size w w' := (below_box w o).trans (h.mono (by omega))

theorem lnk_at {t : Topo} {a : Int} (h0 : 0 ≤ a) (h1 : a < 2 * (t.ls.length : Int)) : (a / 2).toNat < t.ls.length ∧ t.ls[(a / 2).toNat]? = some (lnk t a) := by
  have h : (a / 2).toNat < t.ls.length := by omega
  exact ⟨h, by simp [lnk, List.getD_eq_getElem?_getD, List.getElem?_eq_getElem h]⟩
theorem RdL.arc {w : World} {A : Option Addr} {t : Topo} {a : Int} (h : RdL w A t.ls) (h0 : 0 ≤ a) (h1 : a < 2 * (t.ls.length : Int)) : ∃ b o, A = some ⟨b, o, none⟩ ∧ LAt w b (o + (a / 2).toNat * 7) (lnk t a) := by
  obtain ⟨hk, hl⟩ := lnk_at h0 h1
  obtain ⟨b, o, l, hA, hl', hc⟩ := h.at_ hk
  rw [hl] at hl'
  injection hl' with hl'
  subst hl'
  exact ⟨b, o, hA, hc⟩

def arcsV (t : Topo) : Int := if valid t = true then 2 * (t.ls.length : Int) else 0
def tailV (t : Topo) (a : Int) : Int := if isN (arcsV t) a = true then tail t a else -1
def headV (t : Topo) (a : Int) : Int := if isN (arcsV t) a = true then head t a else -1
def costV (t : Topo) (a : Int) : Int := if isN (arcsV t) a = true then cost t a else -1
def overV (t : Topo) (n : Int) : Bool := valid t && isN t.n n && over t n
theorem arcsV_true {t : Topo} (h : valid t = true) : arcsV t = 2 * (t.ls.length : Int) := by simp [arcsV, h]
theorem arcsV_false {t : Topo} (h : valid t = false) : arcsV t = 0 := by simp [arcsV, h]
theorem isN_zero (a : Int) : isN 0 a = false := by rw [isN_false]; omega

end Go.Proofs.YtenhliibmcmnbaaGreat
