/-
  What the walks of this seat share: plain data (links, topologies), how they lie in memory, and small laws on worlds. Nothing of the program is stated here.
  An indexed queue in plain Lean: keys, places, the list of the held items. No order is asked for: only which items are held.
  Contracts of package graph's small functions and of the two 'within': what each returns, for every topology in memory.
-/
import Derived.Test.YtdnjflpmbnjgeaaGreatProg
import Derived.WalkKit
import Derived.WalkLawsBesides
import Derived.Handy
import Derived.Outline
import Derived.Below
import Derived.Lib.Hide
import Derived.BigQuiet
import Derived.Deep.QuietTactic
import Derived.Lib.QuietBelow
import Derived.Laws.OwnMore
import Derived.Maps.AppendAt
namespace Go.Proofs.YtdnjflpmbnjgeaaGreat
section
open Go.RowKit Go.Sort
theorem eQ {w w' : World} (h : ∃ p : Regrown, w' = grow (redrawn w p.d) p.os) : Below w.heap.size w w' := by
 obtain ⟨p, rfl⟩ := h
 exact below_regrown w p.d p.os
theorem aQ {w w' : World} {a : Addr} {v : Value} (hb : Below w.heap.size w w') (h : w.cell? a = some v) : w'.cell? a = some v := by
 rw [hb.cell (block_lt_of_cell h)]; exact h
theorem bQ {a w w' : World} {B : Nat} (h : Below B a w) (h2 : Below w.heap.size w w') (hB : B ≤ a.heap.size := by first | exact Nat.le_refl _ | simp) : Below B a w' :=
 h.trans (h2.mono (Nat.le_trans hB h.size))
theorem cQ (w : World) (o : Obj) : Below w.heap.size w (w.alloc o) := (Below.refl _ w).alloc (Nat.le_refl _) o
theorem box0 (w : World) (x y z : Value) (T : TypeId) : (w.alloc (.cells #[x, y, z] T)).cell? ⟨w.heap.size, 0, none⟩ = some x := by simp
theorem box1 (w : World) (x y z : Value) (T : TypeId) : (w.alloc (.cells #[x, y, z] T)).cell? ⟨w.heap.size, 1, none⟩ = some y := by simp
theorem box2 (w : World) (x y z : Value) (T : TypeId) : (w.alloc (.cells #[x, y, z] T)).cell? ⟨w.heap.size, 2, none⟩ = some z := by simp
/-- The cells of a slice that starts at A: nothing is asked of an empty one. -/
def Rd (w : World) (A : Option Addr) (xs : List Value) : Prop :=
 xs = [] ∨ ∃ b o, A = some ⟨b, o, none⟩ ∧ ∀ j u, xs[j]? = some u → w.cell? ⟨b, o + j, none⟩ = some u
theorem Rd.at_ {w : World} {A : Option Addr} {xs : List Value} {k : Nat} {u : Value} (h : Rd w A xs) (hk : xs[k]? = some u) : ∃ b o, A = some ⟨b, o, none⟩ ∧ w.cell? ⟨b, o + k, none⟩ = some u := by
 rcases h with rfl | ⟨b, o, rfl, hc⟩
 ·simp at hk
 ·exact ⟨b, o, rfl, hc k u hk⟩
theorem Rd.keep {w w' : World} {A : Option Addr} {xs : List Value} (h : Rd w A xs) (hk : ∀ p : Addr, p.block < w.heap.size → w'.cell? p = w.cell? p) : Rd w' A xs := by
 rcases h with rfl | ⟨b, o, rfl, hc⟩
 ·exact .inl rfl
 ·exact .inr ⟨b, o, rfl, fun j u hu => (hk _ (block_lt_of_cell (hc j u hu))).trans (hc j u hu)⟩
theorem Rd.below {w w' : World} {A : Option Addr} {xs : List Value} (h : Rd w A xs) (hb : Below w.heap.size w w') : Rd w' A xs := h.keep fun _ hp => hb.cell hp
structure Lnk where
 a : Int
 b : Int
 c0 : Int
 c1 : Int
 cap : Int
 dl : Int
 g : Int
 deriving DecidableEq, Inhabited
structure Topo where
 n : Int
 ov : List Bool
 ls : List Lnk
 deriving Inhabited
/-- The cells of a link that starts at an address. -/
structure LAt (w : World) (b o : Nat) (l : Lnk) : Prop where
 q0 : w.cell? ⟨b, o, none⟩ = some (.int .i64 l.a)
 q1 : w.cell? ⟨b, o + 1, none⟩ = some (.int .i64 l.b)
 q2 : w.cell? ⟨b, o + 2, none⟩ = some (.int .i64 l.c0)
 q3 : w.cell? ⟨b, o + 3, none⟩ = some (.int .i64 l.c1)
 q4 : w.cell? ⟨b, o + 4, none⟩ = some (.int .i64 l.cap)
 q5 : w.cell? ⟨b, o + 5, none⟩ = some (.int .i64 l.dl)
 q6 : w.cell? ⟨b, o + 6, none⟩ = some (.int .i64 l.g)
/-- The cells of a slice of links. -/
def RdL (w : World) (A : Option Addr) (ls : List Lnk) : Prop :=
 ls = [] ∨ ∃ b o, A = some ⟨b, o, none⟩ ∧ ∀ k l, ls[k]? = some l → LAt w b (o + k * 7) l
theorem LAt.up {w w' : World} {b o : Nat} {l : Lnk} (h : LAt w b o l) (hb : Below w.heap.size w w') : LAt w' b o l :=
 ⟨aQ hb h.q0, aQ hb h.q1, aQ hb h.q2, aQ hb h.q3, aQ hb h.q4, aQ hb h.q5, aQ hb h.q6⟩
theorem RdL.at_ {w : World} {A : Option Addr} {ls : List Lnk} {k : Nat} (h : RdL w A ls) (hk : k < ls.length) : ∃ b o l, A = some ⟨b, o, none⟩ ∧ ls[k]? = some l ∧ LAt w b (o + k * 7) l := by
 rcases h with rfl | ⟨b, o, rfl, hc⟩
 ·simp at hk
 ·exact ⟨b, o, ls[k], rfl, List.getElem?_eq_getElem hk, hc k ls[k] (List.getElem?_eq_getElem hk)⟩
theorem RdL.below {w w' : World} {A : Option Addr} {ls : List Lnk} (h : RdL w A ls) (hb : Below w.heap.size w w') : RdL w' A ls := by
 rcases h with rfl | ⟨b, o, rfl, hc⟩
 ·exact .inl rfl
 ·exact .inr ⟨b, o, rfl, fun k l hl => (hc k l hl).up hb⟩
/-- How a topology lies in memory: A1, A2 lead to the overload marks and the links. -/
structure TAt (w : World) (A1 A2 : Option Addr) (t : Topo) : Prop where
 ov : Rd w A1 (t.ov.map Value.bool)
 ls : RdL w A2 t.ls
theorem TAt.below {w w' : World} {A1 A2 : Option Addr} {t : Topo} (h : TAt w A1 A2 t) (hb : Below w.heap.size w w') : TAt w' A1 A2 t := ⟨h.ov.below hb, h.ls.below hb⟩
theorem TAt.re {w : World} {A1 A2 : Option Addr} {t : Topo} (h : TAt w A1 A2 t) (d : Nat) (os : Array Obj) : TAt (grow (redrawn w d) os) A1 A2 t := h.below (below_regrown w d os)
/-- The box of a topology parameter (block w.heap.size), in a later world wr; what lay below it is as it was. -/
structure TBox (w : World) (A1 A2 : Option Addr) (c1 c2 : Nat) (t : Topo) (wr : World) : Prop where
 b0 : wr.cell? ⟨w.heap.size, 0, none⟩ = some (.int .i64 t.n)
 b1 : wr.cell? ⟨w.heap.size, 1, none⟩ = some (.slice A1 t.ov.length c1)
 b2 : wr.cell? ⟨w.heap.size, 2, none⟩ = some (.slice A2 t.ls.length c2)
 ta : TAt wr A1 A2 t
 hb : Below w.heap.size w wr
theorem TBox.up {w wr w' : World} {A1 A2 : Option Addr} {c1 c2 : Nat} {t : Topo} (h : TBox w A1 A2 c1 c2 t wr) (hb : Below wr.heap.size wr w') : TBox w A1 A2 c1 c2 t w' :=
 ⟨aQ hb h.b0, aQ hb h.b1, aQ hb h.b2, h.ta.below hb, bQ h.hb hb⟩
def inR (x lo hi : Int) : Bool := decide (lo ≤ x) && decide (x ≤ hi)
def lnkOk (n : Int) (l : Lnk) : Bool := !(l.a == l.b) && inR l.a 0 (n - 1) && inR l.b 0 (n - 1) && inR l.c0 1 65535 && inR l.c1 1 65535 && inR l.cap 0 1048576 && inR l.dl 1 65536 && inR l.g 0 64
def valid (t : Topo) : Bool := inR t.n 1 64 && decide (t.ls.length ≤ 256) && (decide (t.ov.length = 0) || decide ((t.ov.length : Int) = t.n)) && t.ls.all (lnkOk t.n)
theorem valid_bad {t : Topo} {k : Nat} {l : Lnk} (h : t.ls[k]? = some l) (hb : lnkOk t.n l = false) : valid t = false := by
 have : t.ls.all (lnkOk t.n) = false := by
  rw [List.all_eq_false]
  exact ⟨l, List.mem_of_getElem? h, by simp [hb]⟩
 simp [valid, this]
theorem lnkOk_snoc {n : Int} {ls : List Lnk} {k : Nat} {l : Lnk} (h : ls[k]? = some l) (hb : lnkOk n l = true) (hp : ∀ j, j < k → ∃ l, ls[j]? = some l ∧ lnkOk n l = true) :
    ∀ j, j < k + 1 → ∃ l, ls[j]? = some l ∧ lnkOk n l = true := by
 intro j hj
 by_cases e : j = k
 ·subst e; exact ⟨l, h, hb⟩
 ·exact hp j (by omega)
theorem all_of {n : Int} {ls : List Lnk} (hp : ∀ j, j < ls.length → ∃ l, ls[j]? = some l ∧ lnkOk n l = true) : ls.all (lnkOk n) = true := by
 rw [List.all_eq_true]
 intro x hx
 obtain ⟨j, hj, rfl⟩ := List.getElem_of_mem hx
 obtain ⟨l, h1, h2⟩ := hp j hj
 rw [List.getElem?_eq_getElem hj] at h1
 injection h1 with h1
 rw [h1]; exact h2
theorem valid_of {t : Topo} (h1 : 1 ≤ t.n) (h2 : t.n ≤ 64) (h3 : t.ls.length ≤ 256) (h4 : t.ov.length = 0 ∨ (t.ov.length : Int) = t.n) (hp : ∀ j, j < t.ls.length → ∃ l, t.ls[j]? = some l ∧ lnkOk t.n l = true) : valid t = true := by
 simp only [valid, inR, all_of hp, Bool.and_true, Bool.and_eq_true, Bool.or_eq_true, decide_eq_true_eq]
 exact ⟨⟨⟨h1, h2⟩, h3⟩, h4⟩
theorem iZ {t : Topo} (h : valid t = true) : 1 ≤ t.n ∧ t.n ≤ 64 := by
 simp only [valid, inR, Bool.and_eq_true, decide_eq_true_eq] at h
 exact h.1.1.1
theorem zQ {t : Topo} (h : valid t = true) : t.ls.length ≤ 256 := by
 simp only [valid, inR, Bool.and_eq_true, decide_eq_true_eq] at h
 exact h.1.1.2
theorem valid_ov {t : Topo} (h : valid t = true) : t.ov.length = 0 ∨ (t.ov.length : Int) = t.n := by
 simp only [valid, inR, Bool.and_eq_true, Bool.or_eq_true, decide_eq_true_eq] at h
 exact h.1.2
theorem valid_lnk {t : Topo} (h : valid t = true) {k : Nat} {l : Lnk} (hl : t.ls[k]? = some l) : lnkOk t.n l = true := by
 simp only [valid, Bool.and_eq_true, List.all_eq_true] at h
 exact h.2 l (List.mem_of_getElem? hl)
theorem lnk_bd {n : Int} {l : Lnk} (h : lnkOk n l = true) : l.a ≠ l.b ∧ 0 ≤ l.a ∧ l.a < n ∧ 0 ≤ l.b ∧ l.b < n ∧ 1 ≤ l.c0 ∧ l.c0 ≤ 65535 ∧ 1 ≤ l.c1 ∧ l.c1 ≤ 65535 ∧ 0 ≤ l.cap ∧ l.cap ≤ 1048576 ∧ 1 ≤ l.dl ∧ l.dl ≤ 65536 ∧ 0 ≤ l.g ∧ l.g ≤ 64 := by
 simp only [lnkOk, inR, Bool.and_eq_true, Bool.not_eq_true', decide_eq_true_eq, beq_eq_false_iff_ne] at h
 omega
/-- The arcs: arc a leads over link a / 2. -/
def lnk (t : Topo) (a : Int) : Lnk := t.ls.getD (a / 2).toNat default
def tail (t : Topo) (a : Int) : Int := if a % 2 = 0 then (lnk t a).a else (lnk t a).b
def fZ (t : Topo) (a : Int) : Int := if a % 2 = 0 then (lnk t a).b else (lnk t a).a
def cost (t : Topo) (a : Int) : Int := if a % 2 = 0 then (lnk t a).c0 else (lnk t a).c1
def over (t : Topo) (n : Int) : Bool := t.ov.getD n.toNat false
def isN (n m : Int) : Bool := decide (0 ≤ m) && decide (m < n)
theorem isN_true {n m : Int} : isN n m = true ↔ 0 ≤ m ∧ m < n := by simp [isN]
theorem isN_false {n m : Int} : isN n m = false ↔ ¬ (0 ≤ m ∧ m < n) := by rw [← isN_true]; simp
theorem inR_true {x lo hi : Int} : inR x lo hi = true ↔ lo ≤ x ∧ x ≤ hi := by simp [inR]
theorem inR_false {x lo hi : Int} : inR x lo hi = false ↔ ¬ (lo ≤ x ∧ x ≤ hi) := by rw [← inR_true]; simp
theorem below_boxed {w w' : World} {o : Obj} (h : Below (w.heap.size + 1) (w.alloc o) w') : Below w.heap.size w w' := (cQ w o).trans (h.mono (by omega))
theorem lnk_at {t : Topo} {a : Int} (h0 : 0 ≤ a) (h1 : a < 2 * (t.ls.length : Int)) : (a / 2).toNat < t.ls.length ∧ t.ls[(a / 2).toNat]? = some (lnk t a) := by
 have h : (a / 2).toNat < t.ls.length := by omega
 exact ⟨h, by simp [lnk, List.getD_eq_getElem?_getD, List.getElem?_eq_getElem h]⟩
theorem RdL.arc {w : World} {A : Option Addr} {t : Topo} {a : Int} (h : RdL w A t.ls) (h0 : 0 ≤ a) (h1 : a < 2 * (t.ls.length : Int)) : ∃ b o, A = some ⟨b, o, none⟩ ∧ LAt w b (o + (a / 2).toNat * 7) (lnk t a) := by
 obtain ⟨hk, hl⟩ := lnk_at h0 h1
 obtain ⟨b, o, l, hA, hl', hc⟩ := h.at_ hk
 rw [hl] at hl'
 injection hl' with hl'
 subst hl'
 exact ⟨b, o, hA, hc⟩
def arcsV (t : Topo) : Int := if valid t = true then 2 * (t.ls.length : Int) else 0
def tailV (t : Topo) (a : Int) : Int := if isN (arcsV t) a = true then tail t a else -1
def headV (t : Topo) (a : Int) : Int := if isN (arcsV t) a = true then fZ t a else -1
def costV (t : Topo) (a : Int) : Int := if isN (arcsV t) a = true then cost t a else -1
def overV (t : Topo) (n : Int) : Bool := valid t && isN t.n n && over t n
theorem arcsV_true {t : Topo} (h : valid t = true) : arcsV t = 2 * (t.ls.length : Int) := by simp [arcsV, h]
theorem arcsV_false {t : Topo} (h : valid t = false) : arcsV t = 0 := by simp [arcsV, h]
theorem hU {p : Prop} (h : p) : Hid p := h
theorem kU {w : World} {a : Addr} {v : Value} {p : Prop} (h : w.cell? a = some v) (t : p) : (∀ (d : Nat) (os : Array Obj), (grow (redrawn w d) os).cell? a = some v) ∧ p := ⟨cell_regrown h, t⟩
theorem uU {w w' : World} {a : Addr} {v : Value} {p : Prop} (hb : Below w.heap.size w w') (h : w.cell? a = some v) (t : p) : w'.cell? a = some v ∧ p := ⟨aQ hb h, t⟩
end
section
theorem pigeon : ∀ (N : Nat) (l : List Int), l.Nodup → (∀ x ∈ l, 0 ≤ x ∧ x < (N : Int)) → l.length ≤ N
 | 0, l, _, h => by
  cases l with
  | nil => exact Nat.le_refl _
  | cons x l => have := h x (by simp); omega
 | N + 1, l, hn, h => by
  by_cases hm : (N : Int) ∈ l
  ·have h1 := pigeon N (l.erase (N : Int)) (hn.erase _) (fun x hx => by
    have h2 := (hn.mem_erase_iff).1 hx
    have := h x h2.2
    have h3 : x ≠ (N : Int) := h2.1
    omega)
   rw [List.length_erase_of_mem hm] at h1
   omega
  ·have h1 := pigeon N l hn (fun x hx => by
    have := h x hx
    have h3 : x ≠ (N : Int) := fun e => hm (e ▸ hx)
    omega)
   omega
/-- keys, places and order belong together. -/
structure HP (N : Nat) (ks ps os : List Int) : Prop where
 kl : ks.length = N
 pl : ps.length = N
 a : ∀ (p : Nat) (i : Int), os[p]? = some i → 0 ≤ i ∧ i < (N : Int) ∧ ps[i.toNat]? = some ((p : Int) + 1)
 b : ∀ j : Nat, j < N → ps[j]? = some 0 ∨ ∃ p : Nat, ps[j]? = some ((p : Int) + 1) ∧ os[p]? = some (j : Int)
theorem HP.nodup {N : Nat} {ks ps os : List Int} (h : HP N ks ps os) : os.Nodup := by
 refine List.nodup_iff_pairwise_ne.2 (List.pairwise_iff_getElem.2 fun i j hi hj hij e => ?_)
 have a1 := (h.a j _ (List.getElem?_eq_getElem hj)).2.2
 have a2 := (h.a i _ (List.getElem?_eq_getElem hi)).2.2
 rw [e, a1] at a2
 injection a2 with a2
 omega
theorem HP.le {N : Nat} {ks ps os : List Int} (h : HP N ks ps os) : os.length ≤ N :=
 pigeon N os h.nodup (fun x hx => by
  obtain ⟨p, hp, rfl⟩ := List.getElem_of_mem hx
  have := h.a p _ (List.getElem?_eq_getElem hp)
  exact ⟨this.1, this.2.1⟩)
theorem HP.start (N : Nat) : HP N (List.replicate N 0) (List.replicate N 0) [] :=
 ⟨by simp, by simp, by simp, fun j hj => .inl (by simp [hj])⟩
/-- An item is held. -/
def held (ps : List Int) (i : Int) : Bool := !(ps.getD i.toNat 0 == 0)
theorem HP.held_iff {N : Nat} {ks ps os : List Int} (h : HP N ks ps os) {i : Int} (h0 : 0 ≤ i) (h1 : i < (N : Int)) : held ps i = true ↔ i ∈ os := by
 have hl : i.toNat < N := by omega
 have hi : ((i.toNat : Nat) : Int) = i := by omega
 unfold held
 rcases h.b i.toNat hl with e | ⟨p, e, hp⟩
 ·rw [List.getD_eq_getElem?_getD, e]
  simp only [Option.getD_some, BEq.rfl, Bool.not_true, Bool.false_eq_true, false_iff]
  intro hm
  obtain ⟨p, hp, hpe⟩ := List.getElem_of_mem hm
  have := (h.a p i (by rw [List.getElem?_eq_getElem hp, hpe])).2.2
  rw [e] at this
  injection this with this
  omega
 ·rw [List.getD_eq_getElem?_getD, e]
  have : i ∈ os := by rw [← hi]; exact List.mem_of_getElem? hp
  simp only [Option.getD_some, this, iff_true]
  have : ((p : Int) + 1 == 0) = false := by simp; omega
  rw [this]; rfl
/-- Two items change places. -/
def swO (os : List Int) (p q : Nat) : List Int := (os.set p (os.getD q 0)).set q (os.getD p 0)
def swP (ps os : List Int) (p q : Nat) : List Int := (ps.set (os.getD q 0).toNat ((p : Int) + 1)).set (os.getD p 0).toNat ((q : Int) + 1)
theorem swO_len (os : List Int) (p q : Nat) : (swO os p q).length = os.length := by simp [swO]
theorem swO_get {os : List Int} {p q : Nat} (hp : p < os.length) (hq : q < os.length) (j : Nat) : (swO os p q)[j]? = if j = q then some (os.getD p 0) else if j = p then some (os.getD q 0) else os[j]? := by
 unfold swO
 rw [List.getElem?_set]
 by_cases e : q = j
 ·subst e; simp [hq]
 ·rw [if_neg e, if_neg (fun h => e h.symm), List.getElem?_set]
  by_cases e2 : p = j
  ·subst e2; simp [hp]
  ·rw [if_neg e2, if_neg (fun h => e2 h.symm)]
theorem getD_some {os : List Int} {p : Nat} (hp : p < os.length) : os[p]? = some (os.getD p 0) := by
 simp [List.getD_eq_getElem?_getD, List.getElem?_eq_getElem hp]
theorem swO_perm {os : List Int} {p q : Nat} (hp : p < os.length) (hq : q < os.length) : (swO os p q).Perm os := by
 have h := List.set_set_perm hp hq
 unfold swO
 rw [List.getD_eq_getElem?_getD, List.getD_eq_getElem?_getD, List.getElem?_eq_getElem hp, List.getElem?_eq_getElem hq]
 exact h
theorem HP.swap {N : Nat} {ks ps os : List Int} (h : HP N ks ps os) {p q : Nat} (hp : p < os.length) (hq : q < os.length) : HP N ks (swP ps os p q) (swO os p q) := by
 have ap := h.a p _ (getD_some hp)
 have aq := h.a q _ (getD_some hq)
 have inj : ∀ (i j : Nat) (x y : Int), os[i]? = some x → os[j]? = some y → x.toNat = y.toNat → i = j := fun i j x y hx hy e => by
  have h1 := h.a i x hx
  have h2 := h.a j y hy
  rw [e, h2.2.2] at h1
  have := h1.2.2
  injection this with this
  omega
 have pg : ∀ j : Nat, (swP ps os p q)[j]? = if j = (os.getD p 0).toNat then (if j < N then some ((q : Int) + 1) else none) else if j = (os.getD q 0).toNat then (if j < N then some ((p : Int) + 1) else none) else ps[j]? := fun j => by
  unfold swP
  rw [List.getElem?_set]
  by_cases e : (os.getD p 0).toNat = j
  ·subst e; rw [if_pos rfl, if_pos rfl]; simp [h.pl]
  ·rw [if_neg e, if_neg (fun h => e h.symm), List.getElem?_set]
   by_cases e2 : (os.getD q 0).toNat = j
   ·subst e2; rw [if_pos rfl, if_pos rfl]; simp [h.pl]
   ·rw [if_neg e2, if_neg (fun h => e2 h.symm)]
 refine ⟨h.kl, by simp [swP, h.pl], ?_, ?_⟩
 ·intro j i hj
  rw [swO_get hp hq] at hj
  by_cases e : j = q
  ·subst e
   rw [if_pos rfl] at hj
   injection hj with hj
   subst hj
   refine ⟨ap.1, ap.2.1, ?_⟩
   rw [pg, if_pos rfl, if_pos (by omega)]
  ·rw [if_neg e] at hj
   by_cases e2 : j = p
   ·subst e2
    rw [if_pos rfl] at hj
    injection hj with hj
    subst hj
    refine ⟨aq.1, aq.2.1, ?_⟩
    rw [pg, if_neg (fun h' => e (inj _ _ _ _ (getD_some hp) (getD_some hq) h'.symm)), if_pos rfl, if_pos (by omega)]
   ·rw [if_neg e2] at hj
    have := h.a j i hj
    refine ⟨this.1, this.2.1, ?_⟩
    rw [pg, if_neg (fun h' => e2 (inj _ _ _ _ hj (getD_some hp) h')), if_neg (fun h' => e (inj _ _ _ _ hj (getD_some hq) h'))]
    exact this.2.2
 ·intro j hj
  rw [pg]
  by_cases e : j = (os.getD p 0).toNat
  ·rw [if_pos e, if_pos hj]
   refine .inr ⟨q, rfl, ?_⟩
   rw [swO_get hp hq, if_pos rfl, e]
   congr 1
   omega
  ·rw [if_neg e]
   by_cases e2 : j = (os.getD q 0).toNat
   ·rw [if_pos e2, if_pos hj]
    refine .inr ⟨p, rfl, ?_⟩
    have hpq : p ≠ q := fun h' => e (by rw [e2, h'])
    rw [swO_get hp hq, if_neg hpq, if_pos rfl, e2]
    congr 1
    omega
   ·rw [if_neg e2]
    rcases h.b j hj with h' | ⟨r, h1, h2⟩
    ·exact .inl h'
    ·refine .inr ⟨r, h1, ?_⟩
     rw [swO_get hp hq, if_neg, if_neg]
     ·exact h2
     ·rintro rfl
      rw [getD_some hp] at h2
      injection h2 with h2
      exact e (by omega)
     ·rintro rfl
      rw [getD_some hq] at h2
      injection h2 with h2
      exact e2 (by omega)
/-- An item is put in at the end. -/
theorem HP.push {N : Nat} {ks ps os : List Int} (h : HP N ks ps os) {i key : Int} (h0 : 0 ≤ i) (h1 : i < (N : Int)) (hn : ps[i.toNat]? = some 0) : HP N (ks.set i.toNat key) (ps.set i.toNat (((os.length + 1 : Nat) : Int))) (os ++ [i]) := by
 have hi : ((i.toNat : Nat) : Int) = i := by omega
 have hne : ∀ (p : Nat) (x : Int), os[p]? = some x → x.toNat ≠ i.toNat := fun p x hx e => by
  have := (h.a p x hx).2.2
  rw [e, hn] at this
  injection this with this
  omega
 refine ⟨by simp [h.kl], by simp [h.pl], ?_, ?_⟩
 ·intro p x hx
  by_cases hp : p < os.length
  ·rw [List.getElem?_append_left hp] at hx
   have := h.a p x hx
   refine ⟨this.1, this.2.1, ?_⟩
   rw [List.getElem?_set_ne (fun e => hne p x hx e.symm)]
   exact this.2.2
  ·rw [List.getElem?_append_right (by omega)] at hx
   have hp0 : p - os.length = 0 := by
    rcases Nat.eq_zero_or_pos (p - os.length) with e | e
    ·exact e
    ·rw [List.getElem?_eq_none (by simp; omega)] at hx; cases hx
   rw [hp0] at hx
   simp only [List.getElem?_cons_zero, Option.some.injEq] at hx
   subst hx
   refine ⟨h0, h1, ?_⟩
   rw [List.getElem?_set_self (by rw [h.pl]; omega)]
   congr 1
   omega
 ·intro j hj
  by_cases e : i.toNat = j
  ·refine .inr ⟨os.length, ?_, ?_⟩
   ·rw [e, List.getElem?_set_self (by rw [h.pl]; omega)]; rfl
   ·rw [List.getElem?_append_right (Nat.le_refl _)]; simp; omega
  ·rw [List.getElem?_set_ne e]
   rcases h.b j hj with h' | ⟨r, h2, h3⟩
   ·exact .inl h'
   ·exact .inr ⟨r, h2, by rw [List.getElem?_append_left (List.getElem?_eq_some_iff.1 h3).1]; exact h3⟩
theorem HP.key {N : Nat} {ks ps os : List Int} (h : HP N ks ps os) (i : Nat) (key : Int) : HP N (ks.set i key) ps os := ⟨by simp [h.kl], h.pl, h.a, h.b⟩
/-- The last item is taken out. -/
theorem HP.drop {N : Nat} {ks ps os : List Int} {i : Int} (h : HP N ks ps (os ++ [i])) : HP N (ks.set i.toNat 0) (ps.set i.toNat 0) os := by
 have hl : (os ++ [i])[os.length]? = some i := by rw [List.getElem?_append_right (Nat.le_refl _)]; simp
 have hi := h.a _ _ hl
 refine ⟨by simp [h.kl], by simp [h.pl], ?_, ?_⟩
 ·intro p x hx
  have hp : p < os.length := (List.getElem?_eq_some_iff.1 hx).1
  have := h.a p x (by rw [List.getElem?_append_left hp]; exact hx)
  refine ⟨this.1, this.2.1, ?_⟩
  rw [List.getElem?_set_ne]
  ·exact this.2.2
  ·intro e
   have h2 := this.2.2
   rw [← e, hi.2.2] at h2
   injection h2 with h2
   omega
 ·intro j hj
  by_cases e : i.toNat = j
  ·refine .inl ?_
   rw [e, List.getElem?_set_self (by rw [h.pl]; omega)]
  ·rw [List.getElem?_set_ne e]
   rcases h.b j hj with h' | ⟨r, h2, h3⟩
   ·exact .inl h'
   ·refine .inr ⟨r, h2, ?_⟩
    by_cases hr : r < os.length
    ·rw [List.getElem?_append_left hr] at h3; exact h3
    ·exfalso
     have : r = os.length := by
      have := (List.getElem?_eq_some_iff.1 h3).1
      simp at this
      omega
     subst this
     rw [hl] at h3
     injection h3 with h3
     omega
end
section
open Go.RowKit Go.Sort
theorem topology_within (n lo hi : Int) (w : World) :
    Calls Tryz.prog 61 #[.int .i64 n, .int .i64 lo, .int .i64 hi] w fun e w' => e = .returned (.bool (inR n lo hi)) ∧ w = w' := by
 by_cases h1 : lo ≤ n <;> by_cases h2 : n ≤ hi <;>
 (go_enter Tryz.func61, Tryz.ntmps61
  go_wp2
  go_ret
  simp [h1, h2, inR]) <;> omega
theorem ref09_within (n lo hi : Int) (w : World) :
    Calls Tryz.prog 103 #[.int .i64 n, .int .i64 lo, .int .i64 hi] w fun e w' => e = .returned (.bool (inR n lo hi)) ∧ w = w' := by
 by_cases h1 : lo ≤ n <;> by_cases h2 : n ≤ hi <;>
 (go_enter Tryz.func103, Tryz.ntmps103
  go_wp2
  go_ret
  simp [h1, h2, inR]) <;> omega
theorem cZ (n m : Int) (v1 v2 : Value) (w : World) :
    Calls Tryz.prog 32 #[.agg #[.int .i64 n, v1, v2], .int .i64 m] w fun e w' => e = .returned (.bool (isN n m)) ∧ Below w.heap.size w w' := by
 go_enter Tryz.func32, Tryz.ntmps32
 go_wp2 <;> (go_ret; refine ⟨by simp [isN] <;> omega, by go_grown⟩)
theorem graph_Arcs (v0 v1 : Value) (A2 : Option Addr) (n c2 : Nat) (w : World) (hn : n ≤ 100000) :
    Calls Tryz.prog 52 #[.agg #[v0, v1, .slice A2 n c2]] w fun e w' => e = .returned (.int .i64 (2 * (n : Int))) ∧ Below w.heap.size w w' := by
 go_enter Tryz.func52, Tryz.ntmps52
 go_wp2
 go_ret
 exact ⟨rfl, by go_grown⟩
theorem graph_Arc (v0 v1 : Value) (A2 : Option Addr) (n c2 : Nat) (a : Int) (w : World) (hn : n ≤ 100000) :
    Calls Tryz.prog 64 #[.agg #[v0, v1, .slice A2 n c2], .int .i64 a] w fun e w' => e = .returned (.bool (isN (2 * (n : Int)) a)) ∧ Below w.heap.size w w' := by
 by_cases h0 : 0 ≤ a
 ·go_enter Tryz.func64, Tryz.ntmps64
  go_wp2_with (go_at_call 52; refine (graph_Arcs _ _ _ _ _ _ hn).mono ?_; rintro e w1 ⟨rfl, hb1⟩)
  go_ret
  exact ⟨by simp [h0, isN], bQ (cQ w _) hb1⟩
 ·go_enter Tryz.func64, Tryz.ntmps64
  go_wp2_with fail
  go_ret
  exact ⟨by simp [isN]; omega, cQ w _⟩
theorem graph_Tail (v0 v1 : Value) (A2 : Option Addr) (c2 : Nat) (t : Topo) (a : Int) (w : World) (hA : RdL w A2 t.ls) (h0 : 0 ≤ a) (h1 : a < 2 * (t.ls.length : Int)) (hn : t.ls.length ≤ 100000) :
    Calls Tryz.prog 55 #[.agg #[v0, v1, .slice A2 t.ls.length c2], .int .i64 a] w fun e w' => e = .returned (.int .i64 (tail t a)) ∧ Below w.heap.size w w' := by
 obtain ⟨b, o, rfl, hc⟩ := hA.arc h0 h1
 have q0 := aQ (cQ w (.cells #[v0, v1, .slice (some ⟨b, o, none⟩) t.ls.length c2] 25)) hc.q0
 have q1 := aQ (cQ w (.cells #[v0, v1, .slice (some ⟨b, o, none⟩) t.ls.length c2] 25)) hc.q1
 have h2 : a / 2 < (t.ls.length : Int) := by omega
 have h3 : (0 : Int) ≤ a / 2 := by omega
 have HF : Hid (tail t a = if a % 2 = 0 then (lnk t a).a else (lnk t a).b) := hU rfl
 clear hA hc
 by_cases h : a % 2 = 0
 ·have h' : (a % 2 == 0) = true := by simp [h]
  have HF2 := hU (HF.out.trans (if_pos h)); clear HF h
  go_enter Tryz.func55, Tryz.ntmps55
  go_wp2
  go_ret
  exact ⟨by rw [HF2.out]; rfl, cQ w _⟩
 ·have h' : (a % 2 == 0) = false := by simp [h]
  have HF2 := hU (HF.out.trans (if_neg h)); clear HF h
  go_enter Tryz.func55, Tryz.ntmps55
  go_wp2
  go_ret
  exact ⟨by rw [HF2.out]; rfl, cQ w _⟩
theorem bits_xor_one (a : Int) (h0 : 0 ≤ a) (h1 : a < 1000000) : bits .xor .i64 a 1 = if a % 2 = 0 then a + 1 else a - 1 := by
 obtain ⟨k, rfl⟩ := Int.eq_ofNat_of_zero_le h0
 have hx : k ^^^ 1 < 2 ^ 63 := Nat.xor_lt_two_pow (by omega) (by omega)
 have e1 : (BitVec.ofInt 64 (k : Int)).toNat = k := by rw [BitVec.ofInt_natCast, BitVec.toNat_ofNat]; exact Nat.mod_eq_of_lt (by omega)
 show IntKind.i64.wrap ((BitVec.ofInt 64 (k : Int) ^^^ BitVec.ofInt 64 1).toNat : Int) = _
 rw [BitVec.toNat_xor, e1]
 have e2 : (BitVec.ofInt 64 (1 : Int)).toNat = 1 := by decide
 rw [e2, IntKind.wrap_i64]
 have e3 : k ^^^ 1 = if k % 2 = 0 then k + 1 else k - 1 := by
  have := Nat.xor_div_two (a := k) (b := 1)
  have h2 := Nat.xor_mod_two_eq_one (a := k) (b := 1)
  have h3 : k / 2 ^^^ 1 / 2 = k / 2 := by simp
  rw [h3] at this
  split <;> omega
 rw [e3]
 split <;> split <;> omega
theorem twin_lo {t : Topo} {a : Int} (h : a % 2 = 0) : tail t (a + 1) = fZ t a := by
 have e : (a + 1) / 2 = a / 2 := by omega
 have e2 : ¬ (a + 1) % 2 = 0 := by omega
 simp [tail, fZ, lnk, e, h, e2]
theorem twin_hi {t : Topo} {a : Int} (h : ¬ a % 2 = 0) : tail t (a - 1) = fZ t a := by
 have e : (a - 1) / 2 = a / 2 := by omega
 have e2 : (a - 1) % 2 = 0 := by omega
 simp [tail, fZ, lnk, e, h, e2]
theorem graph_Head (v0 v1 : Value) (A2 : Option Addr) (c2 : Nat) (t : Topo) (a : Int) (w : World) (hA : RdL w A2 t.ls) (h0 : 0 ≤ a) (h1 : a < 2 * (t.ls.length : Int)) (hn : t.ls.length ≤ 100000) :
    Calls Tryz.prog 59 #[.agg #[v0, v1, .slice A2 t.ls.length c2], .int .i64 a] w fun e w' => e = .returned (.int .i64 (fZ t a)) ∧ Below w.heap.size w w' := by
 have hx := bits_xor_one a h0 (by omega)
 have hb := cQ w (.cells #[v0, v1, .slice A2 t.ls.length c2] 25)
 by_cases h : a % 2 = 0
 ·rw [if_pos h] at hx
  rw [← twin_lo h]
  have h2 : a + 1 < 2 * (t.ls.length : Int) := by omega
  clear h
  go_enter Tryz.func59, Tryz.ntmps59
  go_wp2_with (go_at_call 55; refine (graph_Tail _ _ _ _ t (a + 1) _ (hA.below hb) (by omega) (by omega) hn).mono ?_; rintro e w1 ⟨rfl, hb1⟩)
  go_ret
  exact ⟨rfl, bQ hb hb1⟩
 ·rw [if_neg h] at hx
  rw [← twin_hi h]
  have h2 : 1 ≤ a := by omega
  clear h
  go_enter Tryz.func59, Tryz.ntmps59
  go_wp2_with (go_at_call 55; refine (graph_Tail _ _ _ _ t (a - 1) _ (hA.below hb) (by omega) (by omega) hn).mono ?_; rintro e w1 ⟨rfl, hb1⟩)
  go_ret
  exact ⟨rfl, bQ hb hb1⟩
theorem graph_Cost (v0 v1 : Value) (A2 : Option Addr) (c2 : Nat) (t : Topo) (a : Int) (w : World) (hA : RdL w A2 t.ls) (h0 : 0 ≤ a) (h1 : a < 2 * (t.ls.length : Int)) (hn : t.ls.length ≤ 100000) :
    Calls Tryz.prog 117 #[.agg #[v0, v1, .slice A2 t.ls.length c2], .int .i64 a] w fun e w' => e = .returned (.int .i64 (cost t a)) ∧ Below w.heap.size w w' := by
 obtain ⟨b, o, rfl, hc⟩ := hA.arc h0 h1
 have q2 := aQ (cQ w (.cells #[v0, v1, .slice (some ⟨b, o, none⟩) t.ls.length c2] 25)) hc.q2
 have q3 := aQ (cQ w (.cells #[v0, v1, .slice (some ⟨b, o, none⟩) t.ls.length c2] 25)) hc.q3
 have h2 : a / 2 < (t.ls.length : Int) := by omega
 have h3 : (0 : Int) ≤ a / 2 := by omega
 have HF : Hid (cost t a = if a % 2 = 0 then (lnk t a).c0 else (lnk t a).c1) := hU rfl
 clear hA hc
 by_cases h : a % 2 = 0
 ·have HF2 := hU (HF.out.trans (if_pos h)); clear HF
  go_enter Tryz.func117, Tryz.ntmps117
  go_wp2
  go_ret
  exact ⟨by rw [HF2.out]; rfl, cQ w _⟩
 ·have h' : a % 2 = 1 := by omega
  have HF2 := hU (HF.out.trans (if_neg h)); clear HF h
  go_enter Tryz.func117, Tryz.ntmps117
  go_wp2
  go_ret
  exact ⟨by rw [HF2.out]; rfl, cQ w _⟩
theorem graph_Over (v0 v2 : Value) (A1 : Option Addr) (c1 : Nat) (t : Topo) (n : Int) (w : World) (hA : Rd w A1 (t.ov.map Value.bool)) (h0 : 0 ≤ n) (h1 : t.ov.length = 0 ∨ n < (t.ov.length : Int)) :
    Calls Tryz.prog 115 #[.agg #[v0, .slice A1 t.ov.length c1, v2], .int .i64 n] w fun e w' => e = .returned (.bool (over t n)) ∧ Below w.heap.size w w' := by
 by_cases he : t.ov.length = 0
 ·have HF : Hid (over t n = false) := hU (by simp [over, List.eq_nil_of_length_eq_zero he])
  rw [he]
  clear hA h1 he
  go_enter Tryz.func115, Tryz.ntmps115
  go_wp2
  go_ret
  exact ⟨by rw [HF.out]; rfl, cQ w _⟩
 ·have hn : n < (t.ov.length : Int) := by omega
  have hl : n.toNat < t.ov.length := by omega
  have hu : (t.ov.map Value.bool)[n.toNat]? = some (.bool (over t n)) := by
   simp [over, List.getElem?_eq_getElem hl, List.getD_eq_getElem?_getD]
  obtain ⟨b, o, rfl, hc⟩ := hA.at_ hu
  have q0 := aQ (cQ w (.cells #[v0, .slice (some ⟨b, o, none⟩) t.ov.length c1, v2] 25)) hc
  have hp : decide ((0 : Int) < (t.ov.length : Int)) = true := by simp; omega
  generalize over t n = x at *
  generalize t.ov.length = m at *
  clear hA hc hu h1 he
  go_enter Tryz.func115, Tryz.ntmps115
  go_wp2
  go_ret
  exact ⟨rfl, cQ w _⟩
end
end Go.Proofs.YtdnjflpmbnjgeaaGreat
