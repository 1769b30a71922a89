/-
  What the walks of this seat share: plain data (links, topologies), how they lie in memory, and small laws on worlds. Nothing of the program is stated here.
  Contracts of package graph's small functions and of the two 'within': what each returns, for every topology in memory.
  Contracts of topology.Valid and waypointref09.Valid: both return 'valid t', for every topology in memory.
  Contracts of the reference's small functions of chapter 9: the same plain functions as the program's.
  Lists of ints that a call makes: graph.Out, waypointref09.Out, In, SameInts, Has, topology.Out; what each returns, for every topology in memory.
  'append(dst, src...)': dst a row of one's own, src any list that reads as data.
-/
import Derived.Test.YtenhliibmcmnbaaGreatProg
import Derived.WalkKit
import Derived.WalkLawsBesides
import Derived.Handy
import Derived.Outline
import Derived.Below
import Derived.Lib.Hide
import Derived.BigQuiet
import Derived.Deep.QuietTactic
import Derived.Lib.QuietBelow
import Derived.Laws.OwnMore
import Derived.Maps.AppendAt
import Derived.LoopTactic
namespace Go.Proofs.YtenhliibmcmnbaaGreat
open Go.RowKit Go.Sort
theorem below_of_regrown {w w' : World} (h : ∃ p : Regrown, w' = grow (redrawn w p.d) p.os) : Below w.heap.size w w' := by
 obtain ⟨p, rfl⟩ := h
 exact below_regrown w p.d p.os
theorem cell_up {w w' : World} {a : Addr} {v : Value} (hb : Below w.heap.size w w') (h : w.cell? a = some v) : w'.cell? a = some v := by
 rw [hb.cell (block_lt_of_cell h)]; exact h
theorem below_next {a w w' : World} {B : Nat} (h : Below B a w) (h2 : Below w.heap.size w w') (hB : B ≤ a.heap.size := by first | exact Nat.le_refl _ | simp) : Below B a w' :=
 h.trans (h2.mono (Nat.le_trans hB h.size))
theorem below_box (w : World) (o : Obj) : Below w.heap.size w (w.alloc o) := (Below.refl _ w).alloc (Nat.le_refl _) o
theorem box0 (w : World) (x y z : Value) (T : TypeId) : (w.alloc (.cells #[x, y, z] T)).cell? ⟨w.heap.size, 0, none⟩ = some x := by simp
theorem box1 (w : World) (x y z : Value) (T : TypeId) : (w.alloc (.cells #[x, y, z] T)).cell? ⟨w.heap.size, 1, none⟩ = some y := by simp
theorem box2 (w : World) (x y z : Value) (T : TypeId) : (w.alloc (.cells #[x, y, z] T)).cell? ⟨w.heap.size, 2, none⟩ = some z := by simp
/-- The cells of a slice that starts at A: nothing is asked of an empty one. -/
def Rd (w : World) (A : Option Addr) (xs : List Value) : Prop :=
 xs = [] ∨ ∃ b o, A = some ⟨b, o, none⟩ ∧ ∀ j u, xs[j]? = some u → w.cell? ⟨b, o + j, none⟩ = some u
theorem Rd.at_ {w : World} {A : Option Addr} {xs : List Value} {k : Nat} {u : Value} (h : Rd w A xs) (hk : xs[k]? = some u) : ∃ b o, A = some ⟨b, o, none⟩ ∧ w.cell? ⟨b, o + k, none⟩ = some u := by
 rcases h with rfl | ⟨b, o, rfl, hc⟩
 ·simp at hk
 ·exact ⟨b, o, rfl, hc k u hk⟩
theorem Rd.keep {w w' : World} {A : Option Addr} {xs : List Value} (h : Rd w A xs) (hk : ∀ p : Addr, p.block < w.heap.size → w'.cell? p = w.cell? p) : Rd w' A xs := by
 rcases h with rfl | ⟨b, o, rfl, hc⟩
 ·exact .inl rfl
 ·exact .inr ⟨b, o, rfl, fun j u hu => (hk _ (block_lt_of_cell (hc j u hu))).trans (hc j u hu)⟩
theorem Rd.below {w w' : World} {A : Option Addr} {xs : List Value} (h : Rd w A xs) (hb : Below w.heap.size w w') : Rd w' A xs := h.keep fun _ hp => hb.cell hp
structure Lnk where
 a : Int
 b : Int
 c0 : Int
 c1 : Int
 cap : Int
 dl : Int
 g : Int
 deriving DecidableEq, Inhabited
structure Topo where
 n : Int
 ov : List Bool
 ls : List Lnk
 deriving Inhabited
/-- The cells of a link that starts at an address. -/
structure LAt (w : World) (b o : Nat) (l : Lnk) : Prop where
 q0 : w.cell? ⟨b, o, none⟩ = some (.int .i64 l.a)
 q1 : w.cell? ⟨b, o + 1, none⟩ = some (.int .i64 l.b)
 q2 : w.cell? ⟨b, o + 2, none⟩ = some (.int .i64 l.c0)
 q3 : w.cell? ⟨b, o + 3, none⟩ = some (.int .i64 l.c1)
 q4 : w.cell? ⟨b, o + 4, none⟩ = some (.int .i64 l.cap)
 q5 : w.cell? ⟨b, o + 5, none⟩ = some (.int .i64 l.dl)
 q6 : w.cell? ⟨b, o + 6, none⟩ = some (.int .i64 l.g)
/-- The cells of a slice of links. -/
def RdL (w : World) (A : Option Addr) (ls : List Lnk) : Prop :=
 ls = [] ∨ ∃ b o, A = some ⟨b, o, none⟩ ∧ ∀ k l, ls[k]? = some l → LAt w b (o + k * 7) l
theorem LAt.up {w w' : World} {b o : Nat} {l : Lnk} (h : LAt w b o l) (hb : Below w.heap.size w w') : LAt w' b o l :=
 ⟨cell_up hb h.q0, cell_up hb h.q1, cell_up hb h.q2, cell_up hb h.q3, cell_up hb h.q4, cell_up hb h.q5, cell_up hb h.q6⟩
theorem RdL.at_ {w : World} {A : Option Addr} {ls : List Lnk} {k : Nat} (h : RdL w A ls) (hk : k < ls.length) : ∃ b o l, A = some ⟨b, o, none⟩ ∧ ls[k]? = some l ∧ LAt w b (o + k * 7) l := by
 rcases h with rfl | ⟨b, o, rfl, hc⟩
 ·simp at hk
 ·exact ⟨b, o, ls[k], rfl, List.getElem?_eq_getElem hk, hc k ls[k] (List.getElem?_eq_getElem hk)⟩
theorem RdL.below {w w' : World} {A : Option Addr} {ls : List Lnk} (h : RdL w A ls) (hb : Below w.heap.size w w') : RdL w' A ls := by
 rcases h with rfl | ⟨b, o, rfl, hc⟩
 ·exact .inl rfl
 ·exact .inr ⟨b, o, rfl, fun k l hl => (hc k l hl).up hb⟩
/-- How a topology lies in memory: A1, A2 lead to the overload marks and the links. -/
structure TAt (w : World) (A1 A2 : Option Addr) (t : Topo) : Prop where
 ov : Rd w A1 (t.ov.map Value.bool)
 ls : RdL w A2 t.ls
theorem TAt.below {w w' : World} {A1 A2 : Option Addr} {t : Topo} (h : TAt w A1 A2 t) (hb : Below w.heap.size w w') : TAt w' A1 A2 t := ⟨h.ov.below hb, h.ls.below hb⟩
/-- The box of a topology parameter (block w.heap.size), in a later world wr; what lay below it is as it was. -/
structure TBox (w : World) (A1 A2 : Option Addr) (c1 c2 : Nat) (t : Topo) (wr : World) : Prop where
 b0 : wr.cell? ⟨w.heap.size, 0, none⟩ = some (.int .i64 t.n)
 b1 : wr.cell? ⟨w.heap.size, 1, none⟩ = some (.slice A1 t.ov.length c1)
 b2 : wr.cell? ⟨w.heap.size, 2, none⟩ = some (.slice A2 t.ls.length c2)
 ta : TAt wr A1 A2 t
 hb : Below w.heap.size w wr
theorem TBox.up {w wr w' : World} {A1 A2 : Option Addr} {c1 c2 : Nat} {t : Topo} (h : TBox w A1 A2 c1 c2 t wr) (hb : Below wr.heap.size wr w') : TBox w A1 A2 c1 c2 t w' :=
 ⟨cell_up hb h.b0, cell_up hb h.b1, cell_up hb h.b2, h.ta.below hb, below_next h.hb hb⟩
def inR (x lo hi : Int) : Bool := decide (lo ≤ x) && decide (x ≤ hi)
def lnkOk (n : Int) (l : Lnk) : Bool := !(l.a == l.b) && inR l.a 0 (n - 1) && inR l.b 0 (n - 1) && inR l.c0 1 65535 && inR l.c1 1 65535 && inR l.cap 0 1048576 && inR l.dl 1 65536 && inR l.g 0 64
def valid (t : Topo) : Bool := inR t.n 1 64 && decide (t.ls.length ≤ 256) && (decide (t.ov.length = 0) || decide ((t.ov.length : Int) = t.n)) && t.ls.all (lnkOk t.n)
theorem valid_bad {t : Topo} {k : Nat} {l : Lnk} (h : t.ls[k]? = some l) (hb : lnkOk t.n l = false) : valid t = false := by
 have : t.ls.all (lnkOk t.n) = false := by
  rw [List.all_eq_false]
  exact ⟨l, List.mem_of_getElem? h, by simp [hb]⟩
 simp [valid, this]
theorem lnkOk_snoc {n : Int} {ls : List Lnk} {k : Nat} {l : Lnk} (h : ls[k]? = some l) (hb : lnkOk n l = true) (hp : ∀ j, j < k → ∃ l, ls[j]? = some l ∧ lnkOk n l = true) :
  ∀ j, j < k + 1 → ∃ l, ls[j]? = some l ∧ lnkOk n l = true := by
 intro j hj
 by_cases e : j = k
 ·subst e; exact ⟨l, h, hb⟩
 ·exact hp j (by omega)
theorem all_of {n : Int} {ls : List Lnk} (hp : ∀ j, j < ls.length → ∃ l, ls[j]? = some l ∧ lnkOk n l = true) : ls.all (lnkOk n) = true := by
 rw [List.all_eq_true]
 intro x hx
 obtain ⟨j, hj, rfl⟩ := List.getElem_of_mem hx
 obtain ⟨l, h1, h2⟩ := hp j hj
 rw [List.getElem?_eq_getElem hj] at h1
 injection h1 with h1
 rw [h1]; exact h2
theorem valid_of {t : Topo} (h1 : 1 ≤ t.n) (h2 : t.n ≤ 64) (h3 : t.ls.length ≤ 256) (h4 : t.ov.length = 0 ∨ (t.ov.length : Int) = t.n) (hp : ∀ j, j < t.ls.length → ∃ l, t.ls[j]? = some l ∧ lnkOk t.n l = true) : valid t = true := by
 simp only [valid, inR, all_of hp, Bool.and_true, Bool.and_eq_true, Bool.or_eq_true, decide_eq_true_eq]
 exact ⟨⟨⟨h1, h2⟩, h3⟩, h4⟩
theorem valid_n {t : Topo} (h : valid t = true) : 1 ≤ t.n ∧ t.n ≤ 64 := by
 simp only [valid, inR, Bool.and_eq_true, decide_eq_true_eq] at h
 exact h.1.1.1
theorem valid_ls {t : Topo} (h : valid t = true) : t.ls.length ≤ 256 := by
 simp only [valid, inR, Bool.and_eq_true, decide_eq_true_eq] at h
 exact h.1.1.2
theorem valid_ov {t : Topo} (h : valid t = true) : t.ov.length = 0 ∨ (t.ov.length : Int) = t.n := by
 simp only [valid, inR, Bool.and_eq_true, Bool.or_eq_true, decide_eq_true_eq] at h
 exact h.1.2
theorem valid_lnk {t : Topo} (h : valid t = true) {k : Nat} {l : Lnk} (hl : t.ls[k]? = some l) : lnkOk t.n l = true := by
 simp only [valid, Bool.and_eq_true, List.all_eq_true] at h
 exact h.2 l (List.mem_of_getElem? hl)
theorem lnk_bd {n : Int} {l : Lnk} (h : lnkOk n l = true) : l.a ≠ l.b ∧ 0 ≤ l.a ∧ l.a < n ∧ 0 ≤ l.b ∧ l.b < n ∧ 1 ≤ l.c0 ∧ l.c0 ≤ 65535 ∧ 1 ≤ l.c1 ∧ l.c1 ≤ 65535 ∧ 0 ≤ l.cap ∧ l.cap ≤ 1048576 ∧ 1 ≤ l.dl ∧ l.dl ≤ 65536 ∧ 0 ≤ l.g ∧ l.g ≤ 64 := by
 simp only [lnkOk, inR, Bool.and_eq_true, Bool.not_eq_true', decide_eq_true_eq, beq_eq_false_iff_ne] at h
 omega
/-- The arcs: arc a leads over link a / 2. -/
def lnk (t : Topo) (a : Int) : Lnk := t.ls.getD (a / 2).toNat default
def tail (t : Topo) (a : Int) : Int := if a % 2 = 0 then (lnk t a).a else (lnk t a).b
def head (t : Topo) (a : Int) : Int := if a % 2 = 0 then (lnk t a).b else (lnk t a).a
def cost (t : Topo) (a : Int) : Int := if a % 2 = 0 then (lnk t a).c0 else (lnk t a).c1
def over (t : Topo) (n : Int) : Bool := t.ov.getD n.toNat false
def isN (n m : Int) : Bool := decide (0 ≤ m) && decide (m < n)
theorem isN_true {n m : Int} : isN n m = true ↔ 0 ≤ m ∧ m < n := by simp [isN]
theorem isN_false {n m : Int} : isN n m = false ↔ ¬ (0 ≤ m ∧ m < n) := by rw [← isN_true]; simp
theorem inR_true {x lo hi : Int} : inR x lo hi = true ↔ lo ≤ x ∧ x ≤ hi := by simp [inR]
theorem inR_false {x lo hi : Int} : inR x lo hi = false ↔ ¬ (lo ≤ x ∧ x ≤ hi) := by rw [← inR_true]; simp
theorem below_boxed {w w' : World} {o : Obj} (h : Below (w.heap.size + 1) (w.alloc o) w') : Below w.heap.size w w' := (below_box w o).trans (h.mono (by omega))
theorem lnk_at {t : Topo} {a : Int} (h0 : 0 ≤ a) (h1 : a < 2 * (t.ls.length : Int)) : (a / 2).toNat < t.ls.length ∧ t.ls[(a / 2).toNat]? = some (lnk t a) := by
 have h : (a / 2).toNat < t.ls.length := by omega
 exact ⟨h, by simp [lnk, List.getD_eq_getElem?_getD, List.getElem?_eq_getElem h]⟩
theorem RdL.arc {w : World} {A : Option Addr} {t : Topo} {a : Int} (h : RdL w A t.ls) (h0 : 0 ≤ a) (h1 : a < 2 * (t.ls.length : Int)) : ∃ b o, A = some ⟨b, o, none⟩ ∧ LAt w b (o + (a / 2).toNat * 7) (lnk t a) := by
 obtain ⟨hk, hl⟩ := lnk_at h0 h1
 obtain ⟨b, o, l, hA, hl', hc⟩ := h.at_ hk
 rw [hl] at hl'
 injection hl' with hl'
 subst hl'
 exact ⟨b, o, hA, hc⟩
end Go.Proofs.YtenhliibmcmnbaaGreat
namespace Go.Proofs.YtenhliibmcmnbaaGreat
open Go.RowKit Go.Sort
theorem topology_within (n lo hi : Int) (w : World) :
  Calls Tryz.prog 122 #[.int .i64 n, .int .i64 lo, .int .i64 hi] w fun e w' => e = .returned (.bool (inR n lo hi)) ∧ w = w' := by
 by_cases h1 : lo ≤ n <;> by_cases h2 : n ≤ hi <;>
 (go_enter Tryz.func122, Tryz.ntmps122
  go_wp2
  go_ret
  simp [h1, h2, inR]) <;> omega
theorem ref09_within (n lo hi : Int) (w : World) :
  Calls Tryz.prog 53 #[.int .i64 n, .int .i64 lo, .int .i64 hi] w fun e w' => e = .returned (.bool (inR n lo hi)) ∧ w = w' := by
 by_cases h1 : lo ≤ n <;> by_cases h2 : n ≤ hi <;>
 (go_enter Tryz.func53, Tryz.ntmps53
  go_wp2
  go_ret
  simp [h1, h2, inR]) <;> omega
theorem graph_Node (n m : Int) (v1 v2 : Value) (w : World) :
  Calls Tryz.prog 67 #[.agg #[.int .i64 n, v1, v2], .int .i64 m] w fun e w' => e = .returned (.bool (isN n m)) ∧ Below w.heap.size w w' := by
 go_enter Tryz.func67, Tryz.ntmps67
 go_wp2 <;> (go_ret; refine ⟨by simp [isN] <;> omega, by go_grown⟩)
theorem graph_Arcs (v0 v1 : Value) (A2 : Option Addr) (n c2 : Nat) (w : World) (hn : n ≤ 100000) :
  Calls Tryz.prog 56 #[.agg #[v0, v1, .slice A2 n c2]] w fun e w' => e = .returned (.int .i64 (2 * (n : Int))) ∧ Below w.heap.size w w' := by
 go_enter Tryz.func56, Tryz.ntmps56
 go_wp2
 go_ret
 exact ⟨rfl, by go_grown⟩
theorem graph_Arc (v0 v1 : Value) (A2 : Option Addr) (n c2 : Nat) (a : Int) (w : World) (hn : n ≤ 100000) :
  Calls Tryz.prog 93 #[.agg #[v0, v1, .slice A2 n c2], .int .i64 a] w fun e w' => e = .returned (.bool (isN (2 * (n : Int)) a)) ∧ Below w.heap.size w w' := by
 by_cases h0 : 0 ≤ a
 ·go_enter Tryz.func93, Tryz.ntmps93
  go_wp2_with (go_at_call 56; refine (graph_Arcs _ _ _ _ _ _ hn).mono ?_; rintro e w1 ⟨rfl, hb1⟩)
  go_ret
  exact ⟨by simp [h0, isN], below_next (below_box w _) hb1⟩
 ·go_enter Tryz.func93, Tryz.ntmps93
  go_wp2_with fail
  go_ret
  exact ⟨by simp [isN]; omega, below_box w _⟩
theorem graph_Tail (v0 v1 : Value) (A2 : Option Addr) (c2 : Nat) (t : Topo) (a : Int) (w : World) (hA : RdL w A2 t.ls) (h0 : 0 ≤ a) (h1 : a < 2 * (t.ls.length : Int)) (hn : t.ls.length ≤ 100000) :
  Calls Tryz.prog 94 #[.agg #[v0, v1, .slice A2 t.ls.length c2], .int .i64 a] w fun e w' => e = .returned (.int .i64 (tail t a)) ∧ Below w.heap.size w w' := by
 obtain ⟨b, o, rfl, hc⟩ := hA.arc h0 h1
 have q0 := cell_up (below_box w (.cells #[v0, v1, .slice (some ⟨b, o, none⟩) t.ls.length c2] 25)) hc.q0
 have q1 := cell_up (below_box w (.cells #[v0, v1, .slice (some ⟨b, o, none⟩) t.ls.length c2] 25)) hc.q1
 have h2 : a / 2 < (t.ls.length : Int) := by omega
 have h3 : (0 : Int) ≤ a / 2 := by omega
 have HF : Hid (tail t a = if a % 2 = 0 then (lnk t a).a else (lnk t a).b) := Lib.hid rfl
 clear hA hc
 by_cases h : a % 2 = 0
 ·have h' : (a % 2 == 0) = true := by simp [h]
  have HF2 := Lib.hid (HF.out.trans (if_pos h)); clear HF h
  go_enter Tryz.func94, Tryz.ntmps94
  go_wp2
  go_ret
  exact ⟨by rw [HF2.out]; rfl, below_box w _⟩
 ·have h' : (a % 2 == 0) = false := by simp [h]
  have HF2 := Lib.hid (HF.out.trans (if_neg h)); clear HF h
  go_enter Tryz.func94, Tryz.ntmps94
  go_wp2
  go_ret
  exact ⟨by rw [HF2.out]; rfl, below_box w _⟩
theorem bits_xor_one (a : Int) (h0 : 0 ≤ a) (h1 : a < 1000000) : bits .xor .i64 a 1 = if a % 2 = 0 then a + 1 else a - 1 := by
 obtain ⟨k, rfl⟩ := Int.eq_ofNat_of_zero_le h0
 have hx : k ^^^ 1 < 2 ^ 63 := Nat.xor_lt_two_pow (by omega) (by omega)
 have e1 : (BitVec.ofInt 64 (k : Int)).toNat = k := by rw [BitVec.ofInt_natCast, BitVec.toNat_ofNat]; exact Nat.mod_eq_of_lt (by omega)
 show IntKind.i64.wrap ((BitVec.ofInt 64 (k : Int) ^^^ BitVec.ofInt 64 1).toNat : Int) = _
 rw [BitVec.toNat_xor, e1]
 have e2 : (BitVec.ofInt 64 (1 : Int)).toNat = 1 := by decide
 rw [e2, IntKind.wrap_i64]
 have e3 : k ^^^ 1 = if k % 2 = 0 then k + 1 else k - 1 := by
  have := Nat.xor_div_two (a := k) (b := 1)
  have h2 := Nat.xor_mod_two_eq_one (a := k) (b := 1)
  have h3 : k / 2 ^^^ 1 / 2 = k / 2 := by simp
  rw [h3] at this
  split <;> omega
 rw [e3]
 split <;> split <;> omega
theorem twin_lo {t : Topo} {a : Int} (h : a % 2 = 0) : tail t (a + 1) = head t a := by
 have e : (a + 1) / 2 = a / 2 := by omega
 have e2 : ¬ (a + 1) % 2 = 0 := by omega
 simp [tail, head, lnk, e, h, e2]
theorem twin_hi {t : Topo} {a : Int} (h : ¬ a % 2 = 0) : tail t (a - 1) = head t a := by
 have e : (a - 1) / 2 = a / 2 := by omega
 have e2 : (a - 1) % 2 = 0 := by omega
 simp [tail, head, lnk, e, h, e2]
theorem graph_Head (v0 v1 : Value) (A2 : Option Addr) (c2 : Nat) (t : Topo) (a : Int) (w : World) (hA : RdL w A2 t.ls) (h0 : 0 ≤ a) (h1 : a < 2 * (t.ls.length : Int)) (hn : t.ls.length ≤ 100000) :
  Calls Tryz.prog 76 #[.agg #[v0, v1, .slice A2 t.ls.length c2], .int .i64 a] w fun e w' => e = .returned (.int .i64 (head t a)) ∧ Below w.heap.size w w' := by
 have hx := bits_xor_one a h0 (by omega)
 have hb := below_box w (.cells #[v0, v1, .slice A2 t.ls.length c2] 25)
 by_cases h : a % 2 = 0
 ·rw [if_pos h] at hx
  rw [← twin_lo h]
  have h2 : a + 1 < 2 * (t.ls.length : Int) := by omega
  clear h
  go_enter Tryz.func76, Tryz.ntmps76
  go_wp2_with (go_at_call 94; refine (graph_Tail _ _ _ _ t (a + 1) _ (hA.below hb) (by omega) (by omega) hn).mono ?_; rintro e w1 ⟨rfl, hb1⟩)
  go_ret
  exact ⟨rfl, below_next hb hb1⟩
 ·rw [if_neg h] at hx
  rw [← twin_hi h]
  have h2 : 1 ≤ a := by omega
  clear h
  go_enter Tryz.func76, Tryz.ntmps76
  go_wp2_with (go_at_call 94; refine (graph_Tail _ _ _ _ t (a - 1) _ (hA.below hb) (by omega) (by omega) hn).mono ?_; rintro e w1 ⟨rfl, hb1⟩)
  go_ret
  exact ⟨rfl, below_next hb hb1⟩
theorem graph_Cost (v0 v1 : Value) (A2 : Option Addr) (c2 : Nat) (t : Topo) (a : Int) (w : World) (hA : RdL w A2 t.ls) (h0 : 0 ≤ a) (h1 : a < 2 * (t.ls.length : Int)) (hn : t.ls.length ≤ 100000) :
  Calls Tryz.prog 77 #[.agg #[v0, v1, .slice A2 t.ls.length c2], .int .i64 a] w fun e w' => e = .returned (.int .i64 (cost t a)) ∧ Below w.heap.size w w' := by
 obtain ⟨b, o, rfl, hc⟩ := hA.arc h0 h1
 have q2 := cell_up (below_box w (.cells #[v0, v1, .slice (some ⟨b, o, none⟩) t.ls.length c2] 25)) hc.q2
 have q3 := cell_up (below_box w (.cells #[v0, v1, .slice (some ⟨b, o, none⟩) t.ls.length c2] 25)) hc.q3
 have h2 : a / 2 < (t.ls.length : Int) := by omega
 have h3 : (0 : Int) ≤ a / 2 := by omega
 have HF : Hid (cost t a = if a % 2 = 0 then (lnk t a).c0 else (lnk t a).c1) := Lib.hid rfl
 clear hA hc
 by_cases h : a % 2 = 0
 ·have HF2 := Lib.hid (HF.out.trans (if_pos h)); clear HF
  go_enter Tryz.func77, Tryz.ntmps77
  go_wp2
  go_ret
  exact ⟨by rw [HF2.out]; rfl, below_box w _⟩
 ·have h' : a % 2 = 1 := by omega
  have HF2 := Lib.hid (HF.out.trans (if_neg h)); clear HF h
  go_enter Tryz.func77, Tryz.ntmps77
  go_wp2
  go_ret
  exact ⟨by rw [HF2.out]; rfl, below_box w _⟩
theorem graph_Over (v0 v2 : Value) (A1 : Option Addr) (c1 : Nat) (t : Topo) (n : Int) (w : World) (hA : Rd w A1 (t.ov.map Value.bool)) (h0 : 0 ≤ n) (h1 : t.ov.length = 0 ∨ n < (t.ov.length : Int)) :
  Calls Tryz.prog 71 #[.agg #[v0, .slice A1 t.ov.length c1, v2], .int .i64 n] w fun e w' => e = .returned (.bool (over t n)) ∧ Below w.heap.size w w' := by
 by_cases he : t.ov.length = 0
 ·have HF : Hid (over t n = false) := Lib.hid (by simp [over, List.eq_nil_of_length_eq_zero he])
  rw [he]
  clear hA h1 he
  go_enter Tryz.func71, Tryz.ntmps71
  go_wp2
  go_ret
  exact ⟨by rw [HF.out]; rfl, below_box w _⟩
 ·have hn : n < (t.ov.length : Int) := by omega
  have hl : n.toNat < t.ov.length := by omega
  have hu : (t.ov.map Value.bool)[n.toNat]? = some (.bool (over t n)) := by
   simp [over, List.getElem?_eq_getElem hl, List.getD_eq_getElem?_getD]
  obtain ⟨b, o, rfl, hc⟩ := hA.at_ hu
  have q0 := cell_up (below_box w (.cells #[v0, .slice (some ⟨b, o, none⟩) t.ov.length c1, v2] 25)) hc
  have hp : decide ((0 : Int) < (t.ov.length : Int)) = true := by simp; omega
  generalize over t n = x at *
  generalize t.ov.length = m at *
  clear hA hc hu h1 he
  go_enter Tryz.func71, Tryz.ntmps71
  go_wp2
  go_ret
  exact ⟨rfl, below_box w _⟩
end Go.Proofs.YtenhliibmcmnbaaGreat
namespace Go.Proofs.YtenhliibmcmnbaaGreat
open Go.RowKit Go.Sort
theorem bad1 {t : Topo} (h : ¬ (1 ≤ t.n ∧ t.n ≤ 64)) : valid t = false := by
 have : inR t.n 1 64 = false := by simp only [inR, Bool.and_eq_false_iff, decide_eq_false_iff_not]; omega
 simp [valid, this]
theorem bad2 {t : Topo} (h : ¬ t.ls.length ≤ 256) : valid t = false := by simp [valid, h]
theorem bad3 {t : Topo} (h : ¬ t.ov.length = 0) (h2 : ¬ (t.ov.length : Int) = t.n) : valid t = false := by
 have e : (decide (t.ov.length = 0) || decide ((t.ov.length : Int) = t.n)) = false := by simp only [Bool.or_eq_false_iff, decide_eq_false_iff_not]; exact ⟨h, h2⟩
 simp only [valid, e, Bool.and_false, Bool.false_and]
theorem bad_k {t : Topo} {n : Int} {V : Bool} {k : Nat} {l : Lnk} (HN : Hid (n = t.n)) (HV : Hid (V = valid t)) (HE : Hid (t.ls[k]? = some l)) (h : lnkOk n l = false) : V = false := by
 rw [HV.out]
 exact valid_bad HE.out (by rw [← HN.out]; exact h)
theorem bad_a {n : Int} {l : Lnk} (h : isN n l.a = false) : lnkOk n l = false := by
 have : inR l.a 0 (n - 1) = false := by rw [inR_false]; rw [isN_false] at h; omega
 simp [lnkOk, this]
theorem bad_b {n : Int} {l : Lnk} (h : isN n l.b = false) : lnkOk n l = false := by
 have : inR l.b 0 (n - 1) = false := by rw [inR_false]; rw [isN_false] at h; omega
 simp [lnkOk, this]
theorem not_of_b {x : Bool} (h : (!x) = true) : x = false := by simpa using h
theorem of_not_b {x : Bool} (h : (!x) = false) : x = true := by simpa using h
theorem lc0 {n : Int} {l : Lnk} (h : ¬ inR l.c0 1 65535 = true) : lnkOk n l = false := by simp [lnkOk, h]
theorem lc1 {n : Int} {l : Lnk} (h : (!inR l.c1 1 65535) = true) : lnkOk n l = false := by simp [lnkOk, not_of_b h]
theorem lc2 {n : Int} {l : Lnk} (h : ¬ inR l.cap 0 1048576 = true) : lnkOk n l = false := by simp [lnkOk, h]
theorem lc3 {n : Int} {l : Lnk} (h : ¬ inR l.dl 1 65536 = true) : lnkOk n l = false := by simp [lnkOk, h]
theorem lc4 {n : Int} {l : Lnk} (h : (!inR l.g 0 64) = true) : lnkOk n l = false := by simp [lnkOk, not_of_b h]
theorem good_l {n : Int} {l : Lnk} (e1 : (l.a == l.b) = false) (e2 : isN n l.a = true) (e3 : isN n l.b = true) (h0 : inR l.c0 1 65535 = true) (h1 : inR l.c1 1 65535 = true) (h2 : inR l.cap 0 1048576 = true) (h3 : inR l.dl 1 65536 = true) (h4 : inR l.g 0 64 = true) : lnkOk n l = true := by
 have ha : inR l.a 0 (n - 1) = true := by rw [inR_true]; rw [isN_true] at e2; omega
 have hb : inR l.b 0 (n - 1) = true := by rw [inR_true]; rw [isN_true] at e3; omega
 simp [lnkOk, e1, ha, hb, h0, h1, h2, h3, h4]
set_option maxHeartbeats 4000000 in
set_option maxRecDepth 100000 in
theorem topology_Valid_loop (t : Topo) (A1 A2 : Option Addr) (c1 c2 : Nat) (w : World) (hA2 : RdL w A2 t.ls)
  (hn1 : 1 ≤ t.n) (hn2 : t.n ≤ 64) (hl : t.ls.length ≤ 256) (ho : t.ov.length = 0 ∨ (t.ov.length : Int) = t.n) :
  Calls Tryz.prog 54 #[.agg #[.int .i64 t.n, .slice A1 t.ov.length c1, .slice A2 t.ls.length c2]] w fun e w' => e = .returned (.bool (valid t)) ∧ Below w.heap.size w w' := by
 obtain ⟨l2, hl2⟩ : ∃ l2, l2 = t.ls.length := ⟨_, rfl⟩
 obtain ⟨l1, hl1⟩ : ∃ l1, l1 = t.ov.length := ⟨_, rfl⟩
 obtain ⟨n, hn⟩ : ∃ n, n = t.n := ⟨_, rfl⟩
 obtain ⟨V, hV⟩ : ∃ V, V = valid t := ⟨_, rfl⟩
 rw [← hl2, ← hV, ← hl1, ← hn]
 rw [← hn] at hn1 hn2
 rw [← hl1, ← hn] at ho
 rw [← hl2] at hl
 have HO := Lib.hid ho
 have HA := Lib.hid hA2; clear hA2
 have HL := Lib.hid hl2; clear hl2
 have HN := Lib.hid hn; clear hn
 have HO1 := Lib.hid hl1; clear hl1
 have HV := Lib.hid hV; clear hV
 have d1 : decide (256 < (l2 : Int)) = false := by simp; omega
 have i1 : inR n 1 64 = true := by simp [inR, hn1, hn2]
 have d0 : (((l1 : Int) != 0) = false) ∨ (((l1 : Int) != 0) = true ∧ ((l1 : Int) != n) = false) := by
  rcases ho with rfl | h
  ·exact .inl (by simp)
  ·exact .inr ⟨by simp; omega, by simp [h]⟩
 clear ho
 rcases d0 with d2 | ⟨d2, d3⟩
 all_goals
  go_enter Tryz.func54, Tryz.ntmps54
  go_wp2_with (go_at_call 122; refine (topology_within _ _ _ _).mono ?_; rintro e w' ⟨rfl, rfl⟩)
  go_loopw [30] (fun i wr => ∃ k : Nat, k ≤ l2 ∧ i = .int .i64 k ∧ Hid (∀ j, j < k → ∃ l, t.ls[j]? = some l ∧ lnkOk n l = true) ∧ Below (w.heap.size + 1) (w.alloc (.cells #[.int .i64 n, .slice A1 l1 c1, .slice A2 l2 c2] 25)) wr) (fun i _ => l2 - (intOf i).toNat)
  case atStart => exact ⟨0, Nat.zero_le _, rfl, fun j hj => absurd hj (by omega), Below.refl _ _⟩
  case round =>
   obtain ⟨k, hk, rfl, hok, hb⟩ := hrel
   have b0 : wr.cell? ⟨w.heap.size, 0, none⟩ = some (.int .i64 n) := by rw [hb.cell (by simp)]; simp
   have b1 : wr.cell? ⟨w.heap.size, 1, none⟩ = some (.slice A1 l1 c1) := by rw [hb.cell (by simp)]; simp
   have b2 : wr.cell? ⟨w.heap.size, 2, none⟩ = some (.slice A2 l2 c2) := by rw [hb.cell (by simp)]; simp
   have HR := Lib.hid (HA.out.below ((below_box w _).trans (hb.mono (by omega))))
   have HB := Lib.hid hb; clear hb
   by_cases hlt : k < l2
   ·obtain ⟨b, o, l, rfl, hl', hc⟩ := HR.out.at_ (k := k) (by rw [← HL.out]; exact hlt)
    obtain ⟨q0, q1, q2, q3, q4, q5, q6⟩ := hc
    have HE := Lib.hid hl'; clear hl'
    cases e1 : (l.a == l.b) with
    | true =>
     go_wp2_with fail
     have kq_b0 := cell_regrown b0
     have kq_b1 := cell_regrown b1
     have kq_b2 := cell_regrown b2
     have kq_q0 := cell_regrown q0
     have kq_q1 := cell_regrown q1
     refine wp_region_quiet_below (by kernel_rfl) (by kernel_rfl) ?_
     repeat (go_big_quiet_step (fail))
     refine wpQuiet_nil ?_
     intro w2 hb2
     replace hb2 := below_of_regrown hb2
     clear kq_b0 kq_b1 kq_b2 kq_q0 kq_q1
     replace b0 := cell_up hb2 b0
     replace b1 := cell_up hb2 b1
     replace b2 := cell_up hb2 b2
     replace q0 := cell_up hb2 q0
     replace q1 := cell_up hb2 q1
     go_wp2_with fail
     go_ret
     exact ⟨by rw [bad_k HN HV HE (by simp [lnkOk, e1])]; rfl, below_next (below_boxed HB.out) hb2⟩
    | false =>
     cases e2 : isN n l.a with
     | false =>
      go_wp2_with fail
      have kq_b0 := cell_regrown b0
      have kq_b1 := cell_regrown b1
      have kq_b2 := cell_regrown b2
      have kq_q0 := cell_regrown q0
      have kq_q1 := cell_regrown q1
      refine wp_region_quiet_below (by kernel_rfl) (by kernel_rfl) ?_
      repeat (go_big_quiet_step (exact Calls.regrown_of (graph_Node _ _ _ _ _)))
      refine wpQuiet_nil ?_
      intro w2 hb2
      replace hb2 := below_of_regrown hb2
      clear kq_b0 kq_b1 kq_b2 kq_q0 kq_q1
      replace b0 := cell_up hb2 b0
      replace b1 := cell_up hb2 b1
      replace b2 := cell_up hb2 b2
      replace q0 := cell_up hb2 q0
      replace q1 := cell_up hb2 q1
      go_wp2_with fail
      go_ret
      exact ⟨by rw [bad_k HN HV HE (bad_a e2)]; rfl, below_next (below_boxed HB.out) hb2⟩
     | true =>
      cases e3 : isN n l.b with
      | false =>
       go_wp2_with fail
       have kq_b0 := cell_regrown b0
       have kq_b1 := cell_regrown b1
       have kq_b2 := cell_regrown b2
       have kq_q0 := cell_regrown q0
       have kq_q1 := cell_regrown q1
       refine wp_region_quiet_below (by kernel_rfl) (by kernel_rfl) ?_
       repeat (go_big_quiet_step (exact Calls.regrown_of (graph_Node _ _ _ _ _)))
       refine wpQuiet_nil ?_
       intro w2 hb2
       replace hb2 := below_of_regrown hb2
       clear kq_b0 kq_b1 kq_b2 kq_q0 kq_q1
       replace b0 := cell_up hb2 b0
       replace b1 := cell_up hb2 b1
       replace b2 := cell_up hb2 b2
       replace q0 := cell_up hb2 q0
       replace q1 := cell_up hb2 q1
       go_wp2_with fail
       go_ret
       exact ⟨by rw [bad_k HN HV HE (bad_b e3)]; rfl, below_next (below_boxed HB.out) hb2⟩
      | true =>
       go_wp2_with fail
       have kq_b0 := cell_regrown b0
       have kq_b1 := cell_regrown b1
       have kq_b2 := cell_regrown b2
       have kq_q0 := cell_regrown q0
       have kq_q1 := cell_regrown q1
       have kq_q2 := cell_regrown q2
       have kq_q3 := cell_regrown q3
       have kq_q4 := cell_regrown q4
       have kq_q5 := cell_regrown q5
       have kq_q6 := cell_regrown q6
       refine wp_region_quiet_below (by kernel_rfl) (by kernel_rfl) ?_
       repeat (go_big_quiet_step (exact Calls.regrown_of (graph_Node _ _ _ _ _)))
       refine wpQuiet_nil ?_
       intro w2 hb2
       replace hb2 := below_of_regrown hb2
       clear kq_b0 kq_b1 kq_b2 kq_q0 kq_q1 kq_q2 kq_q3 kq_q4 kq_q5 kq_q6
       replace b0 := cell_up hb2 b0
       replace b1 := cell_up hb2 b1
       replace b2 := cell_up hb2 b2
       replace q0 := cell_up hb2 q0
       replace q1 := cell_up hb2 q1
       replace q2 := cell_up hb2 q2
       replace q3 := cell_up hb2 q3
       replace q4 := cell_up hb2 q4
       replace q5 := cell_up hb2 q5
       replace q6 := cell_up hb2 q6
       go_wp2_with (go_at_call 122; refine (topology_within _ _ _ _).mono ?_; rintro e w' ⟨rfl, rfl⟩)
       all_goals first
        | (go_ret; refine ⟨?_, below_next (below_boxed HB.out) hb2⟩; rw [bad_k HN HV HE ?_]; rfl; first | (refine lc0 ?_; assumption) | (refine lc1 ?_; assumption) | (refine lc2 ?_; assumption) | (refine lc3 ?_; assumption) | (refine lc4 ?_; assumption))
        | (refine ⟨⟨k + 1, by omega, by go_num, lnkOk_snoc HE.out (good_l e1 e2 e3 ?_ (of_not_b ?_) ?_ ?_ (of_not_b ?_)) hok.out, below_next HB.out hb2⟩, by simp [intOf]; omega⟩ <;> assumption)
   ·go_wp2_with fail
    go_ret
    obtain rfl : k = l2 := by omega
    exact ⟨by rw [HV.out, valid_of (by rw [← HN.out]; exact hn1) (by rw [← HN.out]; exact hn2) (by rw [← HL.out]; exact hl) (by rw [← HO1.out, ← HN.out]; exact HO.out) (by rw [← HL.out, ← HN.out]; exact hok.out)]; rfl, below_boxed HB.out⟩
theorem topology_Valid (t : Topo) (A1 A2 : Option Addr) (c1 c2 : Nat) (w : World) (hA2 : RdL w A2 t.ls) :
  Calls Tryz.prog 54 #[.agg #[.int .i64 t.n, .slice A1 t.ov.length c1, .slice A2 t.ls.length c2]] w fun e w' => e = .returned (.bool (valid t)) ∧ Below w.heap.size w w' := by
 by_cases hn : 1 ≤ t.n ∧ t.n ≤ 64
 ·by_cases hl : t.ls.length ≤ 256
  ·by_cases ho : t.ov.length = 0
   ·exact topology_Valid_loop t A1 A2 c1 c2 w hA2 hn.1 hn.2 hl (.inl ho)
   ·by_cases ho2 : (t.ov.length : Int) = t.n
    ·exact topology_Valid_loop t A1 A2 c1 c2 w hA2 hn.1 hn.2 hl (.inr ho2)
    ·rw [bad3 ho ho2]
     generalize t.ov.length = l1 at *
     generalize t.ls.length = l2 at *
     generalize t.n = n at *
     have i1 : inR n 1 64 = true := by rw [inR_true]; exact hn
     have d1 : decide (256 < (l2 : Int)) = false := by simp; omega
     have d2 : ((l1 : Int) != 0) = true := by simp; omega
     have d3 : ((l1 : Int) != n) = true := by simp [ho2]
     clear hn hA2 ho ho2
     go_enter Tryz.func54, Tryz.ntmps54
     go_wp2_with (go_at_call 122; refine (topology_within _ _ _ _).mono ?_; rintro e w' ⟨rfl, rfl⟩)
     go_ret
     exact ⟨rfl, below_box w _⟩
  ·rw [bad2 hl]
   generalize t.ov.length = l1 at *
   generalize t.ls.length = l2 at *
   generalize t.n = n at *
   have i1 : inR n 1 64 = true := by rw [inR_true]; exact hn
   have d1 : decide (256 < (l2 : Int)) = true := by simp; omega
   clear hn hA2
   go_enter Tryz.func54, Tryz.ntmps54
   go_wp2_with (go_at_call 122; refine (topology_within _ _ _ _).mono ?_; rintro e w' ⟨rfl, rfl⟩)
   go_ret
   exact ⟨rfl, below_box w _⟩
 ·rw [bad1 hn]
  generalize t.ov.length = l1 at *
  generalize t.ls.length = l2 at *
  generalize t.n = n at *
  have i1 : inR n 1 64 = false := by rw [inR_false]; exact hn
  clear hn hA2
  go_enter Tryz.func54, Tryz.ntmps54
  go_wp2_with (go_at_call 122; refine (topology_within _ _ _ _).mono ?_; rintro e w' ⟨rfl, rfl⟩)
  go_ret
  exact ⟨rfl, below_box w _⟩
theorem lr0 {n : Int} {l : Lnk} (h : ¬ inR l.a 0 (n - 1) = true) : lnkOk n l = false := by simp [lnkOk, h]
theorem lr1 {n : Int} {l : Lnk} (h : ¬ inR l.b 0 (n - 1) = true) : lnkOk n l = false := by simp [lnkOk, h]
theorem lr2 {n : Int} {l : Lnk} (h : (l.a == l.b) = true) : lnkOk n l = false := by simp [lnkOk, h]
theorem good_r {n : Int} {l : Lnk} (e1 : (l.a == l.b) = false) (e2 : inR l.a 0 (n - 1) = true) (e3 : inR l.b 0 (n - 1) = true) (h0 : inR l.c0 1 65535 = true) (h1 : inR l.c1 1 65535 = true) (h2 : inR l.cap 0 1048576 = true) (h3 : inR l.dl 1 65536 = true) (h4 : inR l.g 0 64 = true) : lnkOk n l = true := by
 simp [lnkOk, e1, e2, e3, h0, h1, h2, h3, h4]
set_option maxHeartbeats 4000000 in
set_option maxRecDepth 100000 in
theorem ref09_Valid_loop (t : Topo) (A1 A2 : Option Addr) (c1 c2 : Nat) (w : World) (hA2 : RdL w A2 t.ls)
  (hn1 : 1 ≤ t.n) (hn2 : t.n ≤ 64) (hl : t.ls.length ≤ 256) (ho : t.ov.length = 0 ∨ (t.ov.length : Int) = t.n) :
  Calls Tryz.prog 16 #[.agg #[.int .i64 t.n, .slice A1 t.ov.length c1, .slice A2 t.ls.length c2]] w fun e w' => e = .returned (.bool (valid t)) ∧ Below w.heap.size w w' := by
 obtain ⟨l2, hl2⟩ : ∃ l2, l2 = t.ls.length := ⟨_, rfl⟩
 obtain ⟨l1, hl1⟩ : ∃ l1, l1 = t.ov.length := ⟨_, rfl⟩
 obtain ⟨n, hn⟩ : ∃ n, n = t.n := ⟨_, rfl⟩
 obtain ⟨V, hV⟩ : ∃ V, V = valid t := ⟨_, rfl⟩
 rw [← hl2, ← hV, ← hl1, ← hn]
 rw [← hn] at hn1 hn2
 rw [← hl1, ← hn] at ho
 rw [← hl2] at hl
 have HO := Lib.hid ho
 have HA := Lib.hid hA2; clear hA2
 have HL := Lib.hid hl2; clear hl2
 have HN := Lib.hid hn; clear hn
 have HO1 := Lib.hid hl1; clear hl1
 have HV := Lib.hid hV; clear hV
 have d1 : decide (256 < (l2 : Int)) = false := by simp; omega
 have i1 : inR n 1 64 = true := by simp [inR, hn1, hn2]
 have d0 : (((l1 : Int) != 0) = false) ∨ (((l1 : Int) != 0) = true ∧ ((l1 : Int) != n) = false) := by
  rcases ho with rfl | h
  ·exact .inl (by simp)
  ·exact .inr ⟨by simp; omega, by simp [h]⟩
 clear ho
 rcases d0 with d2 | ⟨d2, d3⟩
 all_goals
  go_enter Tryz.func16, Tryz.ntmps16
  go_wp2_with (go_at_call 53; refine (ref09_within _ _ _ _).mono ?_; rintro e w' ⟨rfl, rfl⟩)
  go_loopw [3] (fun i wr => ∃ k : Nat, k ≤ l2 ∧ i = .int .i64 k ∧ Hid (∀ j, j < k → ∃ l, t.ls[j]? = some l ∧ lnkOk n l = true) ∧ Below (w.heap.size + 1) (w.alloc (.cells #[.int .i64 n, .slice A1 l1 c1, .slice A2 l2 c2] 25)) wr) (fun i _ => l2 - (intOf i).toNat)
  case atStart => exact ⟨0, Nat.zero_le _, rfl, fun j hj => absurd hj (by omega), Below.refl _ _⟩
  case round =>
   obtain ⟨k, hk, rfl, hok, hb⟩ := hrel
   have b0 : wr.cell? ⟨w.heap.size, 0, none⟩ = some (.int .i64 n) := by rw [hb.cell (by simp)]; simp
   have b1 : wr.cell? ⟨w.heap.size, 1, none⟩ = some (.slice A1 l1 c1) := by rw [hb.cell (by simp)]; simp
   have b2 : wr.cell? ⟨w.heap.size, 2, none⟩ = some (.slice A2 l2 c2) := by rw [hb.cell (by simp)]; simp
   have HR := Lib.hid (HA.out.below ((below_box w _).trans (hb.mono (by omega))))
   have HB := Lib.hid hb; clear hb
   by_cases hlt : k < l2
   ·obtain ⟨b, o, l, rfl, hl', hc⟩ := HR.out.at_ (k := k) (by rw [← HL.out]; exact hlt)
    obtain ⟨q0, q1, q2, q3, q4, q5, q6⟩ := hc
    have HE := Lib.hid hl'; clear hl'
    have b0' := cell_up (below_box wr (.cells #[.int .i64 l.a, .int .i64 l.b, .int .i64 l.c0, .int .i64 l.c1, .int .i64 l.cap, .int .i64 l.dl, .int .i64 l.g] 118)) b0
    cases e1 : (l.a == l.b) with
    | true =>
     go_wp2_with (go_at_call 53; refine (ref09_within _ _ _ _).mono ?_; rintro e w' ⟨rfl, rfl⟩)
     all_goals (go_ret; refine ⟨?_, below_next (below_boxed HB.out) (below_box wr _)⟩; rw [bad_k HN HV HE (lr2 e1)]; rfl)
    | false =>
     go_wp2_with (go_at_call 53; refine (ref09_within _ _ _ _).mono ?_; rintro e w' ⟨rfl, rfl⟩)
     all_goals first
      | (go_ret; refine ⟨?_, below_next (below_boxed HB.out) (below_box wr _)⟩; rw [bad_k HN HV HE ?_]; rfl; first | (refine lr0 ?_; assumption) | (refine lr1 ?_; assumption) | (refine lc0 ?_; assumption) | (refine lc1 ?_; assumption) | (refine lc2 ?_; assumption) | (refine lc3 ?_; assumption) | (refine lc4 ?_; assumption))
      | (refine ⟨⟨k + 1, by omega, by go_num, lnkOk_snoc HE.out (good_r e1 ?_ ?_ ?_ (of_not_b ?_) ?_ ?_ (of_not_b ?_)) hok.out, below_next HB.out (below_box wr _)⟩, by simp [intOf]; omega⟩ <;> assumption)
   ·go_wp2_with fail
    go_ret
    obtain rfl : k = l2 := by omega
    exact ⟨by rw [HV.out, valid_of (by rw [← HN.out]; exact hn1) (by rw [← HN.out]; exact hn2) (by rw [← HL.out]; exact hl) (by rw [← HO1.out, ← HN.out]; exact HO.out) (by rw [← HL.out, ← HN.out]; exact hok.out)]; rfl, below_boxed HB.out⟩
theorem ref09_Valid (t : Topo) (A1 A2 : Option Addr) (c1 c2 : Nat) (w : World) (hA2 : RdL w A2 t.ls) :
  Calls Tryz.prog 16 #[.agg #[.int .i64 t.n, .slice A1 t.ov.length c1, .slice A2 t.ls.length c2]] w fun e w' => e = .returned (.bool (valid t)) ∧ Below w.heap.size w w' := by
 by_cases hn : 1 ≤ t.n ∧ t.n ≤ 64
 ·by_cases hl : t.ls.length ≤ 256
  ·by_cases ho : t.ov.length = 0
   ·exact ref09_Valid_loop t A1 A2 c1 c2 w hA2 hn.1 hn.2 hl (.inl ho)
   ·by_cases ho2 : (t.ov.length : Int) = t.n
    ·exact ref09_Valid_loop t A1 A2 c1 c2 w hA2 hn.1 hn.2 hl (.inr ho2)
    ·rw [bad3 ho ho2]
     generalize t.ov.length = l1 at *
     generalize t.ls.length = l2 at *
     generalize t.n = n at *
     have i1 : inR n 1 64 = true := by rw [inR_true]; exact hn
     have d1 : decide (256 < (l2 : Int)) = false := by simp; omega
     have d2 : ((l1 : Int) != 0) = true := by simp; omega
     have d3 : ((l1 : Int) != n) = true := by simp [ho2]
     clear hn hA2 ho ho2
     go_enter Tryz.func16, Tryz.ntmps16
     go_wp2_with (go_at_call 53; refine (ref09_within _ _ _ _).mono ?_; rintro e w' ⟨rfl, rfl⟩)
     go_ret
     exact ⟨rfl, below_box w _⟩
  ·rw [bad2 hl]
   generalize t.ov.length = l1 at *
   generalize t.ls.length = l2 at *
   generalize t.n = n at *
   have i1 : inR n 1 64 = true := by rw [inR_true]; exact hn
   have d1 : decide (256 < (l2 : Int)) = true := by simp; omega
   cases d2 : ((l1 : Int) != 0) <;> cases d3 : ((l1 : Int) != n)
   all_goals
    clear hn hA2
    go_enter Tryz.func16, Tryz.ntmps16
    go_wp2_with (go_at_call 53; refine (ref09_within _ _ _ _).mono ?_; rintro e w' ⟨rfl, rfl⟩)
    go_ret
    exact ⟨rfl, below_box w _⟩
 ·rw [bad1 hn]
  generalize t.ov.length = l1 at *
  generalize t.ls.length = l2 at *
  generalize t.n = n at *
  have i1 : inR n 1 64 = false := by rw [inR_false]; exact hn
  clear hn hA2
  go_enter Tryz.func16, Tryz.ntmps16
  go_wp2_with (go_at_call 53; refine (ref09_within _ _ _ _).mono ?_; rintro e w' ⟨rfl, rfl⟩)
  go_ret
  exact ⟨rfl, below_box w _⟩
end Go.Proofs.YtenhliibmcmnbaaGreat
namespace Go.Proofs.YtenhliibmcmnbaaGreat
open Go.RowKit Go.Sort
end Go.Proofs.YtenhliibmcmnbaaGreat
namespace Go.Proofs.YtenhliibmcmnbaaGreat
open Go.RowKit Go.Sort
/-- A call that returns a list of ints; nothing that was there has changed. -/
def RetInts (w : World) (xs : List Int) (e : Ending) (w' : World) : Prop :=
 ∃ A c, e = .returned (.slice A xs.length c) ∧ xs.length ≤ c ∧ c ≤ maxLen ∧ Rd w' A (xs.map (Value.int .i64)) ∧ Below w.heap.size w w'
theorem rd_of_own {w : World} {base : Nat} {E : TypeId} {v : Value} {n : Nat} {xs : List Value} (h : w.ownsRow base E 1 v n xs) : ∃ A c, v = .slice A n c ∧ n ≤ c ∧ c ≤ maxLen ∧ Rd w A xs := by
 rcases h with ⟨hl, ⟨rfl, rfl⟩ | ⟨g, cap, cur, rfl, hb, hg, hnc, hcm, hs, ht⟩⟩
 ·exact ⟨none, 0, rfl, Nat.le_refl _, Nat.zero_le _, .inl (List.eq_nil_of_length_eq_zero (by simpa using hl))⟩
 ·refine ⟨some ⟨g, 0, none⟩, cap, rfl, hnc, hcm, .inr ⟨g, 0, rfl, fun j u hu => ?_⟩⟩
  have h0 : w.ownsRow base E 1 (.slice (some ⟨g, 0, none⟩) n cap) n xs := ⟨hl, .inr ⟨g, cap, cur, rfl, hb, hg, hnc, hcm, hs, ht⟩⟩
  have hj : j < n * 1 := by rw [← hl]; exact (List.getElem?_eq_some_iff.1 hu).1
  rw [Nat.zero_add, h0.cellAt j hj]; exact hu
theorem retInts_of {w w' : World} {base : Nat} {E : TypeId} {v : Value} {xs : List Int} (h : w'.ownsRow base E 1 v xs.length (xs.map (Value.int .i64))) (hb : Below w.heap.size w w') : RetInts w xs (.returned v) w' := by
 obtain ⟨A, c, rfl, h1, h2, h3⟩ := rd_of_own h
 exact ⟨A, c, rfl, h1, h2, h3, hb⟩
theorem RetInts.next {w0 w w' : World} {xs : List Int} {e : Ending} (h : RetInts w xs e w') (hb : Below w0.heap.size w0 w) : RetInts w0 xs e w' := by
 obtain ⟨A, c, h0, h1, h2, h3, h4⟩ := h
 exact ⟨A, c, h0, h1, h2, h3, below_next hb h4⟩
/-- The numbers below k that pass. -/
def ups (p : Int → Bool) : Nat → List Int
 | 0 => []
 | k + 1 => if p k = true then ups p k ++ [(k : Int)] else ups p k
theorem ups_le (p : Int → Bool) : ∀ k, (ups p k).length ≤ k
 | 0 => Nat.le_refl _
 | k + 1 => by
  have := ups_le p k
  unfold ups
  split
  ·simp; omega
  ·omega
theorem ups_hit {p : Int → Bool} {k : Nat} (h : p k = true) : ups p (k + 1) = ups p k ++ [(k : Int)] := by simp [ups, h]
theorem ups_miss {p : Int → Bool} {k : Nat} (h : p k = false) : ups p (k + 1) = ups p k := by simp [ups, h]
theorem mem_ups {p : Int → Bool} {x : Int} : ∀ {k : Nat}, x ∈ ups p k ↔ 0 ≤ x ∧ x < (k : Int) ∧ p x = true
 | 0 => by simp [ups]; intro h1 h2; omega
 | k + 1 => by
  have ih := @mem_ups p x k
  unfold ups
  by_cases h : p k = true
  ·rw [if_pos h, List.mem_append, ih, List.mem_singleton]
   constructor
   ·rintro (⟨h1, h2, h3⟩ | rfl)
    ·exact ⟨h1, by omega, h3⟩
    ·exact ⟨by omega, by omega, h⟩
   ·rintro ⟨h1, h2, h3⟩
    by_cases e : x = (k : Int)
    ·exact .inr e
    ·exact .inl ⟨h1, by omega, h3⟩
  ·rw [if_neg h, ih]
   constructor
   ·rintro ⟨h1, h2, h3⟩; exact ⟨h1, by omega, h3⟩
   ·rintro ⟨h1, h2, h3⟩
    refine ⟨h1, ?_, h3⟩
    by_cases e : x = (k : Int)
    ·subst e; exact absurd h3 h
    ·omega
def outP (t : Topo) (n : Int) (a : Int) : Bool := tail t a == n
theorem TBox.start {w : World} {A1 A2 : Option Addr} {t : Topo} (c1 c2 : Nat) (hT : TAt w A1 A2 t) :
  TBox w A1 A2 c1 c2 t (w.alloc (.cells #[.int .i64 t.n, .slice A1 t.ov.length c1, .slice A2 t.ls.length c2] 25)) :=
 ⟨box0 .., box1 .., box2 .., hT.below (below_box ..), below_box ..⟩
theorem intInfo : (Tryz.prog.info? 3).map (fun i => (i.zero, i.size, i.bytes)) = some (some (.int .i64 0), 1, 8) := by kernel_rfl
/-- Below a bound that may lie above the box's block. -/
theorem keep_box {w wr w' : World} {A1 A2 : Option Addr} {c1 c2 : Nat} {t : Topo} (h : TBox w A1 A2 c1 c2 t wr) (hb : Below (w.heap.size + 1) wr w') (hT : TAt w A1 A2 t) : TBox w A1 A2 c1 c2 t w' := by
 have hb' : Below w.heap.size w w' := h.hb.trans (hb.mono (by omega))
 exact ⟨(hb.cell (by simp)).trans h.b0, (hb.cell (by simp)).trans h.b1, (hb.cell (by simp)).trans h.b2, hT.below hb', hb'⟩
theorem own_up {w w' : World} {base : Nat} {E : TypeId} {size : Nat} {v : Value} {n : Nat} {xs : List Value} (h : w.ownsRow base E size v n xs) (hb : Below w.heap.size w w') : w'.ownsRow base E size v n xs := by
 rcases h with ⟨hl, h0 | ⟨g, cap, cur, hv, hB, hg, rest⟩⟩
 ·exact ⟨hl, .inl h0⟩
 ·exact ⟨hl, .inr ⟨g, cap, cur, hv, hB, (hb.block g (Array.getElem?_eq_some_iff.1 hg).1).trans hg, rest⟩⟩
/-- One append of a number. -/
theorem own_next {B : Nat} {E : TypeId} {wr w1 : World} {v v' : Value} {xs : List Int} {o : Obj} {x : Int} (hown : wr.ownsRow B E 1 v xs.length (xs.map (Value.int .i64))) (hB : B ≤ wr.heap.size)
  (h1 : w1.ownsRow B E 1 v' (xs.length + 1) (xs.map (Value.int .i64) ++ [.int .i64 x])) (hg : (wr.alloc o).grownBy w1 v.ownBlock) :
  w1.ownsRow B E 1 v' (xs ++ [x]).length ((xs ++ [x]).map (Value.int .i64)) ∧ Below B wr w1 := by
 refine ⟨by simpa using h1, ?_⟩
 exact ((Below.refl B wr).alloc hB o).grown hg (by simp; omega) (fun k hk => (hown.lt k hk).1)
theorem below_drw {B : Nat} {a w : World} (h : Below B a w) (n : Nat) : Below B a (w.drewN n) := h.trans ⟨rfl, rfl, rfl, Nat.le_refl _, fun _ _ => rfl⟩
theorem ints_at {w : World} {A : Option Addr} {xs : List Int} {k : Nat} (h : Rd w A (xs.map (Value.int .i64))) (hk : k < xs.length) : ∃ b o x, A = some ⟨b, o, none⟩ ∧ xs[k]? = some x ∧ w.cell? ⟨b, o + k, none⟩ = some (.int .i64 x) := by
 obtain ⟨b, o, hA, hc⟩ := h.at_ (k := k) (u := .int .i64 xs[k]) (by simp [List.getElem?_eq_getElem hk])
 exact ⟨b, o, xs[k], hA, List.getElem?_eq_getElem hk, hc⟩
end Go.Proofs.YtenhliibmcmnbaaGreat
namespace Go.Proofs.YtenhliibmcmnbaaGreat
open Go.RowKit Go.Sort
set_option linter.unusedSimpArgs false
set_option linter.unusedVariables false
/-- 'append(dst, src...)': dst a row of one's own, src any list that reads as data (nil, empty or not). -/
theorem run_app_rows {P : Program} (w : World) (base : Nat) (t ty e : TypeId) (i : TypeInfo) (z : Value) (bytes : Nat) (ht : P.underlying t = some (.slice e)) (hi : P.info? e = some i) (hz : i.zero = some z) (size : Nat) (hsz : 0 < size) (hsize : i.size = size) (hby : i.bytes = bytes) (hzs : z.cells.size = size)
  (v : Value) (n : Nat) (xs : List Value) (hown : w.ownsRow base e size v n xs) (A : Option Addr) (m c : Nat) (ys : List Value) (hm : ys.length = m * size) (hr : Rd w A ys) (h1 : ∀ u ∈ ys, u.oneCell' = true)
  (h63 : n + m ≤ maxLen) (hbytes : (n + m) * bytes ≤ 140737488355328) (hbase : base ≤ w.heap.size) :
  ∃ v' w', (Builtin.append_ #[t, t] ty #[v, .slice A m c]).run P w = .ok v' w' ∧ w'.ownsRow base e size v' (n + m) (xs ++ ys) ∧ w.grownBy w' v.ownBlock := by
 cases A with
 | none =>
  have hy : ys = [] := by
   rcases hr with h | ⟨b, o, h, _⟩
   ·exact h
   ·cases h
  subst hy
  have hm0 : m = 0 := by
   rcases Nat.eq_zero_or_pos m with h | h
   ·exact h
   ·have := Nat.mul_pos h hsz; simp at hm; omega
  subst hm0
  refine ⟨v, w, ?_, by simpa using hown, ⟨rfl, rfl, rfl, Nat.le_refl _, fun _ _ _ => rfl⟩⟩
  rcases hown.2 with ⟨rfl, rfl⟩ | ⟨g, cap, cur, rfl, _, _, hnc, _⟩
  ·simp [Builtin.append_, run_underlying ht, sizeOf, typeInfo, hi, Builtin.lenOf, Builtin.firstCells]
  ·simp [Builtin.append_, run_underlying ht, sizeOf, typeInfo, hi, Builtin.lenOf, Builtin.firstCells, hnc, storeCells]
 | some ad =>
  have hc : ∀ j u, ys[j]? = some u → w.cell? (ad.add j) = some u := by
   intro j u hu
   rcases hr with rfl | ⟨b, o, h, hcell⟩
   ·simp at hu
   ·injection h with h
    subst h
    have := hcell j u hu
    rw [← this]
    congr 1
    unfold Addr.add
    split <;> simp_all
  obtain ⟨v', w', hrun, h2, h3, _⟩ := run_append_own (P := P) w base t ty e i z size bytes ht hi hz hsize hby hzs hsz v n xs hown ad m c ys hm hc h1 h63 hbytes hbase
  exact ⟨v', w', hrun, h2, h3⟩
/-- The same at an operation that is wanted, guarded or not. -/
theorem wpList_app_rows {P : Program} (w : World) {ops : Array Oper} {rest : List Oper} {o : Oper} {a : Act} {Q : Exit → Act → World → Prop} (hw : Region.wanted o (yielded ops a.tmps) = true) (s x : Operand) (t : TypeId)
  (ho : o.op = .call { callee := .builtin .append, args := #[s, x], argTypes := #[t, t] })
  (base : Nat) (e : TypeId) (i : TypeInfo) (z : Value) (bytes : Nat) (ht : P.underlying t = some (.slice e)) (hi : P.info? e = some i) (hz : i.zero = some z) (size : Nat) (hsz : 0 < size) (hsize : i.size = size) (hby : i.bytes = bytes) (hzs : z.cells.size = size)
  (v : Value) (n : Nat) (xs : List Value) (hs : a.eval s = v) (hown : w.ownsRow base e size v n xs) (A : Option Addr) (m c : Nat) (ys : List Value) (hx : a.eval x = .slice A m c) (hm : ys.length = m * size) (hr : Rd w A ys) (h1 : ∀ u ∈ ys, u.oneCell' = true)
  (h63 : n + m ≤ maxLen) (hbytes : (n + m) * bytes ≤ 140737488355328) (hbase : base ≤ w.heap.size)
  (h : ∀ v' w', w'.ownsRow base e size v' (n + m) (xs ++ ys) → w.grownBy w' v.ownBlock → wpList P ops Q rest (a.put o.dst v') w') : wpList P ops Q (o :: rest) a w := by
 obtain ⟨v', w', hrun, h2, h3⟩ := run_app_rows (P := P) w base t o.type e i z bytes ht hi hz size hsz hsize hby hzs v n xs hown A m c ys hm hr h1 h63 hbytes hbase
 refine wpList_step fun K hK => ?_
 rw [if_pos hw]
 unfold Oper.wp execOp
 simp only [ho, resolve, invoke, builtin, Sem.run_bind, Sem.run_pure, Result.andThen_ok, List.map_toArray, List.map_cons, List.map_nil, hs, hx, hrun]
 exact hK _ _ (h v' w' h2 h3)
end Go.Proofs.YtenhliibmcmnbaaGreat
