/-
  router.New: the router of a fresh node.
  An indexed queue in plain Lean: keys, places, the list of the held items. No order is asked for: only which items are held.
  An indexed queue in memory: before, swap.
  An indexed queue in memory: swap (printed by gen_heap.py).
  An indexed queue in memory: settle.
  An indexed queue in memory: take (printed by gen_heapu.py).
  An indexed queue in memory: Set, Key, Pop (printed by gen_heapv.py).
  A new queue (printed by gen_heapn.py).
  A search over a graph with a queue, in plain Lean: what holds between two steps. No order of the queue is asked for.
  graph.Down, graph.Fits; a search runs to its end (printed by gen_spf.py).
  spf.check, spf.Dist.
  dag.dists; dag.Next where all arcs are down.
  graph.Out once more: the row that it returns is of its own memory.
  table.Routes where all arcs are down.
  A fresh router: detected, State.
  A fresh router: finalEntries, regular (printed by gen_rtu.py).
  A fresh router: regular, current (printed by gen_rtv.py).
  A fresh router: Table (printed by gen_rtw.py).
-/
import Derived.Test.YtenhliibmcmnbaaGreatPkRtL
import Derived.Test.YtenhliibmcmnbaaGreatPkBase
import Derived.Test.YtenhliibmcmnbaaGreatPkNvA
import Derived.Test.YtenhliibmcmnbaaGreatPkNvE
import Derived.Deep.CutRange
import Derived.Deep.DeepCutAuto
import Derived.Deep.AppendLies
import Derived.Deep.LoopGhost
import Derived.Laws.EntriesVeiled
import Derived.Test.YtenhliibmcmnbaaGreatPkKp
namespace Go.Proofs.YtenhliibmcmnbaaGreat
set_option linter.unusedSimpArgs false
set_option linter.unusedVariables false
open Go.RowKit Go.Sort
/-- A router that has just been made. -/
def RouAt (t : Topo) (v : Int) (rb : Nat) (w : World) : Prop :=
 ∃ (sb : Nat) (C1 C2 B1 B2 D : Option Addr) (e1 e2 d1 d2 : Nat) (g s : Int), Bl 99 rb #[.int .i64 t.n, .slice C1 t.ov.length e1, .slice C2 t.ls.length e2, .int .i64 v, .int .i64 g, .int .i64 s, .pointer (some ⟨sb, 0, none⟩), .int .i64 3, .int .i64 0, .int .i64 t.n, .slice B1 (viewT t v).ov.length d1, .slice B2 t.ls.length d2, .slice D (2 * t.ls.length) (2 * t.ls.length), .int .i64 t.n, .slice B1 (viewT t v).ov.length d1, .slice B2 t.ls.length d2, .slice D (2 * t.ls.length) (2 * t.ls.length), .int .i64 0, .slice none 0 0, .slice none 0 0, .bool false] w ∧
  TAt w C1 C2 t ∧ Vw t v (rb + 1) B1 B2 D w ∧ SpkAt t v sb w
theorem RouAt.up {t : Topo} {v : Int} {rb : Nat} {w w' : World} (h : RouAt t v rb w) (hb : Below w.heap.size w w') : RouAt t v rb w' := by
 obtain ⟨sb, C1, C2, B1, B2, D, e1, e2, d1, d2, g, s, h1, h2, h3, h4⟩ := h
 exact ⟨sb, C1, C2, B1, B2, D, e1, e2, d1, d2, g, s, h1.up hb, h2.below hb, h3.up hb, h4.up hb⟩
section
variable {w : World} {A1 A2 : Option Addr} {t : Topo}
theorem q5_up {b p : Nat} {x0 x1 x2 x3 x4 : Value} {w w' : World} (hb : Below w.heap.size w w') (h : w.cell? ⟨b, 0, none⟩ = some x0 ∧ w.cell? ⟨b, 1, none⟩ = some x1 ∧ w.cell? ⟨b, 2, none⟩ = some x2 ∧ w.cell? ⟨p, 0, none⟩ = some x3 ∧ w.cell? ⟨p, 1, none⟩ = some x4) :
  w'.cell? ⟨b, 0, none⟩ = some x0 ∧ w'.cell? ⟨b, 1, none⟩ = some x1 ∧ w'.cell? ⟨b, 2, none⟩ = some x2 ∧ w'.cell? ⟨p, 0, none⟩ = some x3 ∧ w'.cell? ⟨p, 1, none⟩ = some x4 := ⟨cell_up hb h.1, cell_up hb h.2.1, cell_up hb h.2.2.1, cell_up hb h.2.2.2.1, cell_up hb h.2.2.2.2⟩
set_option maxRecDepth 100000 in
set_option maxHeartbeats 4000000 in
theorem router_New_ok (c1 c2 : Nat) (v bt h1 h2 h3 g s : Int) (hT : TAt w A1 A2 t) (hv : valid t = true) (hn : isN t.n v = true) (hx : (inR g 1 65536 && inR s 1 65536) = true)
  (hS : ∀ (W : World) (c1 c2 : Nat), TAt W A1 A2 t → Calls Tryz.prog 33 #[.agg #[.int .i64 t.n, .slice A1 t.ov.length c1, .slice A2 t.ls.length c2], .int .i64 v, .int .i64 bt, .agg #[.int .i64 h1, .int .i64 h2, .int .i64 h3]] W fun e w' => (∃ sb, e = .returned (.tuple #[.pointer (some ⟨sb, 0, none⟩), .int .i64 0]) ∧ SpkAt t v sb w') ∧ Below W.heap.size W w') :
  Calls Tryz.prog 6 #[.agg #[.int .i64 t.n, .slice A1 t.ov.length c1, .slice A2 t.ls.length c2], .int .i64 v, .int .i64 bt, .agg #[.int .i64 h1, .int .i64 h2, .int .i64 h3, .int .i64 g, .int .i64 s]] w fun e w' => (∃ rb, e = .returned (.tuple #[.pointer (some ⟨rb, 0, none⟩), .int .i64 0]) ∧ RouAt t v rb w' ∧ w.heap.size ≤ rb) ∧ Below w.heap.size w w' := by
 have hR := RBox.start c1 c2 h1 h2 h3 g s hT
 obtain ⟨k0, k1, k2, k3, k4, fk⟩ := hR.k.c5
 have HR := Lib.hid hR
 have HSP := Lib.hid hS
 have HV := Lib.hid hv
 have HN := Lib.hid hn
 have HZ := Lib.hid (two_size w (.cells #[.int .i64 t.n, .slice A1 t.ov.length c1, .slice A2 t.ls.length c2] 25) (.cells #[.int .i64 h1, .int .i64 h2, .int .i64 h3, .int .i64 g, .int .i64 s] 28))
 clear hT hR hS hv hn k0 k1 k2
 go_enter Tryz.func6, Tryz.ntmps6
 go_upto_region 2 with fail
 refine wp_named (fun Y => (∃ p, p = w.heap.size + 2 ∧ Bl 85 p #[.int .i64 g, .int .i64 s] Y) ∧ RBox w A1 A2 c1 c2 t h1 h2 h3 g s Y) ⟨⟨_, rfl, HZ.out ▸ Bl.new _ _ _⟩, HR.out.up (below_box _ _)⟩ ?_
 rintro Y ⟨⟨p, hp, hb1⟩, hb2⟩
 have HPB := Lib.hid hb1
 obtain ⟨z0, z1, fz⟩ := hb1.c2
 rw [← hp]
 clear hb1 hp fz k3 k4 fk HR HZ
 have HR := Lib.hid hb2
 clear hb2
 have kq_z0 := cell_regrown z0
 have kq_z1 := cell_regrown z1
 refine wp_region_quiet_below (by kernel_rfl) (by kernel_rfl) ?_
 repeat (go_big_quiet_step (first | with_reducible exact Calls.regrown_of (stages_Start _) | with_reducible exact Calls.regrown_of (stages_Valid0 _ _ _)))
 refine wpQuiet_nil ?_
 intro w2 hb2
 replace hb2 := below_of_regrown hb2
 clear kq_z0 kq_z1
 replace z0 := cell_up hb2 z0
 replace z1 := cell_up hb2 z1
 rw [hx]
 replace HR := Lib.hid (HR.out.up hb2)
 replace HPB := Lib.hid (HPB.out.up hb2)
 obtain ⟨b0, b1, b2⟩ := HR.out.b.cells
 obtain ⟨k0, k1, k2, k3, k4, fk⟩ := HR.out.k.c5
 clear k3 k4 hb2 z0 z1
 go_upto_region 7 with (go_at_call 33; (with_reducible refine (HSP.out _ _ _ HR.out.b.ta).mono ?_); rintro e w3 ⟨⟨sb, rfl, hspk⟩, hb⟩; replace HR := Lib.hid (HR.out.up hb); replace HPB := Lib.hid (HPB.out.up hb); have HSK := Lib.hid hspk; clear hb hspk b0 b1 b2 k0 k1 k2 fk)
 obtain ⟨b0, b1, b2⟩ := HR.out.b.cells
 obtain ⟨z0, z1, fz⟩ := HPB.out.c2
 have HNV := Lib.hid (valid_ls HV.out)
 have hov : t.ov.length ≤ 1000 := by have := valid_n HV.out; rcases valid_ov HV.out with h | h <;> omega
 have hls : t.ls.length ≤ 1000 := by have := HNV.out; omega
 go_region_held3 (fun w' => w'.cell? ⟨w.heap.size, 0, none⟩ = some (.int .i64 t.n) ∧ w'.cell? ⟨w.heap.size, 1, none⟩ = some (.slice A1 t.ov.length c1) ∧ w'.cell? ⟨w.heap.size, 2, none⟩ = some (.slice A2 t.ls.length c2) ∧ w'.cell? ⟨p, 0, none⟩ = some (.int .i64 g) ∧ w'.cell? ⟨p, 1, none⟩ = some (.int .i64 s))
  (first | with_reducible exact q5_up HQ.out (by assumption) | with_reducible exact q5_up (below_box _ _) (by assumption) | exact q5_up (Bdrw (Below.refl _ _)) ⟨b0, b1, b2, z0, z1⟩)
  (first | (go_at_call 34; (with_reducible refine (graph_CloneF t _ _ _ _ _ (HR.out.b.ta.below (Bdrw (Below.refl _ _))) hov hls).mono ?_); rintro e w5 ⟨C1, C2, e1, e2, rfl, hc, hb, _, _⟩; have HQ := Lib.hid hb; have HC := Lib.hid hc; have HK := Lib.hid (below_next (Bdrw (Below.refl _ _)) hb (Nat.le_refl _)); clear hc hb) | (go_at_call 34; (with_reducible refine (graph_CloneF t _ _ _ _ _ (HR.out.b.ta.below HK.out) hov hls).mono ?_); rintro e w5 ⟨C1, C2, e1, e2, rfl, hc, hb, _, _⟩; have HQ := Lib.hid hb; have HC := Lib.hid hc; replace HK := Lib.hid (below_next HK.out hb (Nat.le_refl _)); clear hc hb) | (go_at_call 32; (with_reducible refine (stages_Start _).mono ?_); rintro e w5 ⟨rfl, hb⟩; have HQ := Lib.hid hb; (first | (replace HC := Lib.hid (HC.out.below hb); replace HK := Lib.hid (below_next HK.out hb (Nat.le_refl _)); clear hb) | (have HK := Lib.hid (below_next (Bdrw (Below.refl _ _)) hb (Nat.le_refl _)); clear hb))))
 all_goals
  go_upto_region 8 with fail
  refine wp_named (fun Y => (∃ rb, rb = w5.heap.size ∧ Bl 99 rb #[.int .i64 t.n, .slice C1 t.ov.length e1, .slice C2 t.ls.length e2, .int .i64 v, .int .i64 g, .int .i64 s, .pointer (some ⟨sb, 0, none⟩), .int .i64 3, .int .i64 0, .int .i64 0, .slice none 0 0, .slice none 0 0, .slice none 0 0, .int .i64 0, .slice none 0 0, .slice none 0 0, .slice none 0 0, .int .i64 0, .slice none 0 0, .slice none 0 0, .bool false] Y ∧ rb < Y.heap.size) ∧ Below w5.heap.size w5 Y) ⟨⟨_, rfl, Bl.new w5 _ _, by simp⟩, below_box w5 _⟩ ?_
  rintro Y ⟨⟨rb, hrb, hY, hlt⟩, hbY⟩
  rw [← hrb]
  have HRB := Lib.hid hrb
  have HY := Lib.hid hY
  have HBY := Lib.hid hbY
  have HLT := Lib.hid hlt
  have HSY := Lib.hid ((HSK.out.up HK.out).up hbY)
  have HC5 := Lib.hid HC.out
  have HWY := Lib.hid (below_next (HR.out.b.hb.trans (HK.out.mono HR.out.b.hb.size)) hbY)
  obtain ⟨r0, r1, r2, r3, r4, r5, r6, r7, r8, r9, r10, r11, r12, r13, r14, r15, r16, r17, r18, r19, r20, fr⟩ := hY.c21
  clear hrb hY hbY hlt r0 r1 r2 r3 r4 r5 r7 r8 r9 r10 r11 r12 r13 r14 r15 r16 r17 r18 r19 r20 fr b0 b1 b2 z0 z1 fz HC HPB
  go_upto_region 9 with (go_at_call 35; (with_reducible refine (router_look0 rb sb v t _ HV.out HN.out r6 HSY.out).mono ?_); rintro e w7 ⟨B1, B2, d1, d2, D, rfl, hvw, hb⟩; have HVW := Lib.hid hvw; have HY7 := Lib.hid (HY.out.up hb); have HB7 := Lib.hid (below_next HBY.out hb); clear r6 hvw hb; obtain ⟨r0, r1, r2, r3, r4, r5, r6, r7, r8, r9, r10, r11, r12, r13, r14, r15, r16, r17, r18, r19, r20, fr⟩ := HY7.out.c21)
  have hl7 : rb < w7.heap.size := HY7.out.lt
  go_wp2_with fail
  go_ret2
  have hn : rb < rb + 1 := Nat.lt_succ_self rb
  have hz := (((((((HY7.out.set 9 (.int .i64 t.n) rfl).set 10 (.slice B1 (viewT t v).ov.length d1) rfl).set 11 (.slice B2 t.ls.length d2) rfl).set 12 (.slice D (2 * t.ls.length) (2 * t.ls.length)) rfl).set 13 (.int .i64 t.n) rfl).set 14 (.slice B1 (viewT t v).ov.length d1) rfl).set 15 (.slice B2 t.ls.length d2) rfl).set 16 (.slice D (2 * t.ls.length) (2 * t.ls.length)) rfl
  have hv8 := ((((((((HVW.out.mono (show rb + 1 ≤ _ from HLT.out)).set hn 9 (.int .i64 t.n)).set hn 10 (.slice B1 (viewT t v).ov.length d1)).set hn 11 (.slice B2 t.ls.length d2)).set hn 12 (.slice D (2 * t.ls.length) (2 * t.ls.length))).set hn 13 (.int .i64 t.n)).set hn 14 (.slice B1 (viewT t v).ov.length d1)).set hn 15 (.slice B2 t.ls.length d2)).set hn 16 (.slice D (2 * t.ls.length) (2 * t.ls.length))
  have hrb : w5.heap.size ≤ rb := Nat.le_of_eq HRB.out.symm
  have hb8 := Bset (j := 16) (v := .slice D (2 * t.ls.length) (2 * t.ls.length)) (Bset (j := 15) (v := .slice B2 t.ls.length d2) (Bset (j := 14) (v := .slice B1 (viewT t v).ov.length d1) (Bset (j := 13) (v := .int .i64 t.n) (Bset (j := 12) (v := .slice D (2 * t.ls.length) (2 * t.ls.length)) (Bset (j := 11) (v := .slice B2 t.ls.length d2) (Bset (j := 10) (v := .slice B1 (viewT t v).ov.length d1) (Bset (j := 9) (v := .int .i64 t.n) HB7.out hrb) hrb) hrb) hrb) hrb) hrb) hrb) hrb
  exact ⟨⟨rb, rfl, ⟨sb, C1, C2, B1, B2, D, e1, e2, d1, d2, g, s, hz, HC5.out.below hb8, hv8, (HSK.out.up HK.out).up hb8⟩, Nat.le_trans (HR.out.b.hb.trans (HK.out.mono HR.out.b.hb.size)).size hrb⟩, (HR.out.b.hb.trans (HK.out.mono HR.out.b.hb.size)).trans (hb8.mono (HR.out.b.hb.trans (HK.out.mono HR.out.b.hb.size)).size)⟩
end
end Go.Proofs.YtenhliibmcmnbaaGreat
namespace Go.Proofs.YtenhliibmcmnbaaGreat
/-- keys, places and order belong together. -/
structure HP (N : Nat) (ks ps os : List Int) : Prop where
 kl : ks.length = N
 pl : ps.length = N
 a : ∀ (p : Nat) (i : Int), os[p]? = some i → 0 ≤ i ∧ i < (N : Int) ∧ ps[i.toNat]? = some ((p : Int) + 1)
 b : ∀ j : Nat, j < N → ps[j]? = some 0 ∨ ∃ p : Nat, ps[j]? = some ((p : Int) + 1) ∧ os[p]? = some (j : Int)
theorem HP.start (N : Nat) : HP N (List.replicate N 0) (List.replicate N 0) [] :=
 ⟨by simp, by simp, by simp, fun j hj => .inl (by simp [hj])⟩
/-- An item is held. -/
def held (ps : List Int) (i : Int) : Bool := !(ps.getD i.toNat 0 == 0)
/-- Two items change places. -/
def swO (os : List Int) (p q : Nat) : List Int := (os.set p (os.getD q 0)).set q (os.getD p 0)
def swP (ps os : List Int) (p q : Nat) : List Int := (ps.set (os.getD q 0).toNat ((p : Int) + 1)).set (os.getD p 0).toNat ((q : Int) + 1)
theorem swO_get {os : List Int} {p q : Nat} (hp : p < os.length) (hq : q < os.length) (j : Nat) : (swO os p q)[j]? = if j = q then some (os.getD p 0) else if j = p then some (os.getD q 0) else os[j]? := by
 unfold swO
 rw [List.getElem?_set]
 by_cases e : q = j
 ·subst e; simp [hq]
 ·rw [if_neg e, if_neg (fun h => e h.symm), List.getElem?_set]
  by_cases e2 : p = j
  ·subst e2; simp [hp]
  ·rw [if_neg e2, if_neg (fun h => e2 h.symm)]
theorem getD_some {os : List Int} {p : Nat} (hp : p < os.length) : os[p]? = some (os.getD p 0) := by
 simp [List.getD_eq_getElem?_getD, List.getElem?_eq_getElem hp]
theorem swO_perm {os : List Int} {p q : Nat} (hp : p < os.length) (hq : q < os.length) : (swO os p q).Perm os := by
 have h := List.set_set_perm hp hq
 unfold swO
 rw [List.getD_eq_getElem?_getD, List.getD_eq_getElem?_getD, List.getElem?_eq_getElem hp, List.getElem?_eq_getElem hq]
 exact h
theorem HP.swap {N : Nat} {ks ps os : List Int} (h : HP N ks ps os) {p q : Nat} (hp : p < os.length) (hq : q < os.length) : HP N ks (swP ps os p q) (swO os p q) := by
 have ap := h.a p _ (getD_some hp)
 have aq := h.a q _ (getD_some hq)
 have inj : ∀ (i j : Nat) (x y : Int), os[i]? = some x → os[j]? = some y → x.toNat = y.toNat → i = j := fun i j x y hx hy e => by
  have h1 := h.a i x hx
  have h2 := h.a j y hy
  rw [e, h2.2.2] at h1
  have := h1.2.2
  injection this with this
  omega
 have pg : ∀ j : Nat, (swP ps os p q)[j]? = if j = (os.getD p 0).toNat then (if j < N then some ((q : Int) + 1) else none) else if j = (os.getD q 0).toNat then (if j < N then some ((p : Int) + 1) else none) else ps[j]? := fun j => by
  unfold swP
  rw [List.getElem?_set]
  by_cases e : (os.getD p 0).toNat = j
  ·subst e; rw [if_pos rfl, if_pos rfl]; simp [h.pl]
  ·rw [if_neg e, if_neg (fun h => e h.symm), List.getElem?_set]
   by_cases e2 : (os.getD q 0).toNat = j
   ·subst e2; rw [if_pos rfl, if_pos rfl]; simp [h.pl]
   ·rw [if_neg e2, if_neg (fun h => e2 h.symm)]
 refine ⟨h.kl, by simp [swP, h.pl], ?_, ?_⟩
 ·intro j i hj
  rw [swO_get hp hq] at hj
  by_cases e : j = q
  ·subst e
   rw [if_pos rfl] at hj
   injection hj with hj
   subst hj
   refine ⟨ap.1, ap.2.1, ?_⟩
   rw [pg, if_pos rfl, if_pos (by omega)]
  ·rw [if_neg e] at hj
   by_cases e2 : j = p
   ·subst e2
    rw [if_pos rfl] at hj
    injection hj with hj
    subst hj
    refine ⟨aq.1, aq.2.1, ?_⟩
    rw [pg, if_neg (fun h' => e (inj _ _ _ _ (getD_some hp) (getD_some hq) h'.symm)), if_pos rfl, if_pos (by omega)]
   ·rw [if_neg e2] at hj
    have := h.a j i hj
    refine ⟨this.1, this.2.1, ?_⟩
    rw [pg, if_neg (fun h' => e2 (inj _ _ _ _ hj (getD_some hp) h')), if_neg (fun h' => e (inj _ _ _ _ hj (getD_some hq) h'))]
    exact this.2.2
 ·intro j hj
  rw [pg]
  by_cases e : j = (os.getD p 0).toNat
  ·rw [if_pos e, if_pos hj]
   refine .inr ⟨q, rfl, ?_⟩
   rw [swO_get hp hq, if_pos rfl, e]
   congr 1
   omega
  ·rw [if_neg e]
   by_cases e2 : j = (os.getD q 0).toNat
   ·rw [if_pos e2, if_pos hj]
    refine .inr ⟨p, rfl, ?_⟩
    have hpq : p ≠ q := fun h' => e (by rw [e2, h'])
    rw [swO_get hp hq, if_neg hpq, if_pos rfl, e2]
    congr 1
    omega
   ·rw [if_neg e2]
    rcases h.b j hj with h' | ⟨r, h1, h2⟩
    ·exact .inl h'
    ·refine .inr ⟨r, h1, ?_⟩
     rw [swO_get hp hq, if_neg, if_neg]
     ·exact h2
     ·rintro rfl
      rw [getD_some hp] at h2
      injection h2 with h2
      exact e (by omega)
     ·rintro rfl
      rw [getD_some hq] at h2
      injection h2 with h2
      exact e2 (by omega)
/-- An item is put in at the end. -/
theorem HP.push {N : Nat} {ks ps os : List Int} (h : HP N ks ps os) {i key : Int} (h0 : 0 ≤ i) (h1 : i < (N : Int)) (hn : ps[i.toNat]? = some 0) : HP N (ks.set i.toNat key) (ps.set i.toNat (((os.length + 1 : Nat) : Int))) (os ++ [i]) := by
 have hi : ((i.toNat : Nat) : Int) = i := by omega
 have hne : ∀ (p : Nat) (x : Int), os[p]? = some x → x.toNat ≠ i.toNat := fun p x hx e => by
  have := (h.a p x hx).2.2
  rw [e, hn] at this
  injection this with this
  omega
 refine ⟨by simp [h.kl], by simp [h.pl], ?_, ?_⟩
 ·intro p x hx
  by_cases hp : p < os.length
  ·rw [List.getElem?_append_left hp] at hx
   have := h.a p x hx
   refine ⟨this.1, this.2.1, ?_⟩
   rw [List.getElem?_set_ne (fun e => hne p x hx e.symm)]
   exact this.2.2
  ·rw [List.getElem?_append_right (by omega)] at hx
   have hp0 : p - os.length = 0 := by
    rcases Nat.eq_zero_or_pos (p - os.length) with e | e
    ·exact e
    ·rw [List.getElem?_eq_none (by simp; omega)] at hx; cases hx
   rw [hp0] at hx
   simp only [List.getElem?_cons_zero, Option.some.injEq] at hx
   subst hx
   refine ⟨h0, h1, ?_⟩
   rw [List.getElem?_set_self (by rw [h.pl]; omega)]
   congr 1
   omega
 ·intro j hj
  by_cases e : i.toNat = j
  ·refine .inr ⟨os.length, ?_, ?_⟩
   ·rw [e, List.getElem?_set_self (by rw [h.pl]; omega)]; rfl
   ·rw [List.getElem?_append_right (Nat.le_refl _)]; simp; omega
  ·rw [List.getElem?_set_ne e]
   rcases h.b j hj with h' | ⟨r, h2, h3⟩
   ·exact .inl h'
   ·exact .inr ⟨r, h2, by rw [List.getElem?_append_left (List.getElem?_eq_some_iff.1 h3).1]; exact h3⟩
theorem HP.key {N : Nat} {ks ps os : List Int} (h : HP N ks ps os) (i : Nat) (key : Int) : HP N (ks.set i key) ps os := ⟨by simp [h.kl], h.pl, h.a, h.b⟩
end Go.Proofs.YtenhliibmcmnbaaGreat
namespace Go.Proofs.YtenhliibmcmnbaaGreat
set_option linter.unusedSimpArgs false
set_option linter.unusedVariables false
open Go.RowKit Go.Sort
/-- A queue at block hb: keys in kb, places in pb, the held items in the row v. -/
structure HeapR (B hb N kb pb : Nat) (v : Value) (ks ps os : List Int) (w : World) : Prop where
 h : Bl 440 hb #[.slice (some ⟨kb, 0, none⟩) N N, .slice (some ⟨pb, 0, none⟩) N N, v] w
 k : w.ownsRow B 3 1 (.slice (some ⟨kb, 0, none⟩) N N) N (ks.map (Value.int .i64))
 p : w.ownsRow B 3 1 (.slice (some ⟨pb, 0, none⟩) N N) N (ps.map (Value.int .i64))
 o : w.ownsRow B 3 1 v os.length (os.map (Value.int .i64))
 ne : kb ≠ pb ∧ kb ≠ hb ∧ pb ≠ hb ∧ v.ownBlock ≠ some kb ∧ v.ownBlock ≠ some pb ∧ v.ownBlock ≠ some hb ∧ B ≤ hb
theorem HeapR.up {B hb N kb pb : Nat} {v : Value} {ks ps os : List Int} {w w' : World} (h : HeapR B hb N kb pb v ks ps os w) (hb' : Below w.heap.size w w') : HeapR B hb N kb pb v ks ps os w' :=
 ⟨h.h.up hb', own_up h.k hb', own_up h.p hb', own_up h.o hb', h.ne⟩
theorem HeapR.kB {B hb N kb pb : Nat} {v : Value} {ks ps os : List Int} {w : World} (h : HeapR B hb N kb pb v ks ps os w) : B ≤ kb := (h.k.lt kb rfl).1
theorem HeapR.pB {B hb N kb pb : Nat} {v : Value} {ks ps os : List Int} {w : World} (h : HeapR B hb N kb pb v ks ps os w) : B ≤ pb := (h.p.lt pb rfl).1
/-- A store below the queue's blocks. -/
theorem HeapR.far {B hb N kb pb b : Nat} {v : Value} {ks ps os : List Int} {w : World} (h : HeapR B hb N kb pb v ks ps os w) (hf : b < B) (j : Nat) (u : Value) : HeapR B hb N kb pb v ks ps os (w.setCell ⟨b, j, none⟩ u) := by
 have h1 := h.kB
 have h2 := h.pB
 have h3 := h.ne.2.2.2.2.2.2
 exact ⟨h.h.other (by omega) _, own_setCell h.k (by simp [Value.ownBlock]; omega) _, own_setCell h.p (by simp [Value.ownBlock]; omega) _, own_setCell h.o (fun e => by have := (h.o.lt b e).1; omega) _, h.ne⟩
theorem own_put {w : World} {base g n c k : Nat} {E : TypeId} {xs : List Int} (ho : w.ownsRow base E 1 (.slice (some ⟨g, 0, none⟩) n c) n (xs.map (Value.int .i64))) (x : Int) :
  (w.setCell ⟨g, k, none⟩ (.int .i64 x)).ownsRow base E 1 (.slice (some ⟨g, 0, none⟩) n c) n ((xs.set k x).map (Value.int .i64)) := by
 rw [List.map_set]
 simpa using (ho.stored k (.int .i64 x)).1
section
variable {B hb N kb pb : Nat} {v : Value} {ks ps os : List Int} {w : World}
end
end Go.Proofs.YtenhliibmcmnbaaGreat
namespace Go.Proofs.YtenhliibmcmnbaaGreat
set_option linter.unusedSimpArgs false
set_option linter.unusedVariables false
open Go.RowKit Go.Sort
section
variable {B hb N kb pb : Nat} {v : Value} {ks ps os : List Int} {w : World}
/-- A store into the row of places. -/
theorem HeapR.setP {k : Nat} (h : HeapR B hb N kb pb v ks ps os w) (x : Int) : HeapR B hb N kb pb v ks (ps.set k x) os (w.setCell ⟨pb, k, none⟩ (.int .i64 x)) := by
 obtain ⟨n1, n2, n3, n4, n5, n6, n7⟩ := h.ne
 exact ⟨h.h.other n3.symm _, own_setCell h.k (by simp [Value.ownBlock]; omega) _, own_put h.p x, own_setCell h.o n5 _, n1, n2, n3, n4, n5, n6, n7⟩
end
end Go.Proofs.YtenhliibmcmnbaaGreat
namespace Go.Proofs.YtenhliibmcmnbaaGreat
set_option linter.unusedSimpArgs false
set_option linter.unusedVariables false
open Go.RowKit Go.Sort
section
variable {B hb N kb pb : Nat} {v : Value} {ks ps os : List Int} {w : World}
/-- What settle and its kin keep. -/
structure HK (B hb N kb pb : Nat) (v : Value) (ks os : List Int) (w : World) (ps' os' : List Int) (w' : World) : Prop where
 p : HP N ks ps' os'
 r : HeapR B hb N kb pb v ks ps' os' w'
 m : os'.Perm os
 b : Below B w w'
theorem HK.len {ps' os' : List Int} {w' : World} (h : HK B hb N kb pb v ks os w ps' os' w') : os'.length = os.length := h.m.length_eq
theorem HK.up {ps' os' : List Int} {w1 w2 : World} (h : HK B hb N kb pb v ks os w ps' os' w1) (hb' : Below w1.heap.size w1 w2) : HK B hb N kb pb v ks os w ps' os' w2 :=
 ⟨h.p, h.r.up hb', h.m, h.b.trans (hb'.mono (Nat.le_trans h.r.ne.2.2.2.2.2.2 (Nat.le_of_lt h.r.h.lt)))⟩
theorem HK.swap {ps' os' : List Int} {w1 w2 : World} {p q : Nat} (h : HK B hb N kb pb v ks os w ps' os' w1) (hp : p < os.length) (hq : q < os.length) (hr : HeapR B hb N kb pb v ks (swP ps' os' p q) (swO os' p q) w2) (hb' : Below B w1 w2) : HK B hb N kb pb v ks os w (swP ps' os' p q) (swO os' p q) w2 :=
 ⟨h.p.swap (by rw [h.len]; exact hp) (by rw [h.len]; exact hq), hr, (swO_perm (by rw [h.len]; exact hp) (by rw [h.len]; exact hq)).trans h.m, h.b.trans hb'⟩
end
end Go.Proofs.YtenhliibmcmnbaaGreat
namespace Go.Proofs.YtenhliibmcmnbaaGreat
set_option linter.unusedSimpArgs false
set_option linter.unusedVariables false
open Go.RowKit Go.Sort
section
variable {B hb N kb pb : Nat} {v : Value} {ks ps os : List Int} {w : World}
/-- What taking out the item i leaves. -/
structure HT (B hb N kb pb : Nat) (v : Value) (ks os : List Int) (i : Int) (w : World) (ps' os' : List Int) (v' : Value) (w' : World) : Prop where
 p : HP N (ks.set i.toNat 0) ps' os'
 r : HeapR B hb N kb pb v' (ks.set i.toNat 0) ps' os' w'
 m : (i :: os').Perm os
 b : Below B w w'
end
end Go.Proofs.YtenhliibmcmnbaaGreat
namespace Go.Proofs.YtenhliibmcmnbaaGreat
set_option linter.unusedSimpArgs false
set_option linter.unusedVariables false
open Go.RowKit Go.Sort
section
variable {B hb N kb pb : Nat} {v : Value} {ks ps os : List Int} {w : World}
end
end Go.Proofs.YtenhliibmcmnbaaGreat
namespace Go.Proofs.YtenhliibmcmnbaaGreat
set_option linter.unusedSimpArgs false
set_option linter.unusedVariables false
open Go.RowKit Go.Sort
end Go.Proofs.YtenhliibmcmnbaaGreat
namespace Go.Proofs.YtenhliibmcmnbaaGreat
/-- What a search runs over: the arcs of a node, the node that an arc leads to, which arcs are up, their costs, which nodes are not passed. -/
structure SG where
 N : Nat
 r : Int
 arcs : Int → List Int
 en : Int → Int
 up : Int → Bool
 cost : Int → Int
 ov : Int → Bool
structure SG.Ok (G : SG) : Prop where
 n64 : G.N ≤ 64
 r0 : 0 ≤ G.r
 r1 : G.r < (G.N : Int)
 en : ∀ n, 0 ≤ n → n < (G.N : Int) → ∀ a ∈ G.arcs n, 0 ≤ G.en a ∧ G.en a < (G.N : Int) ∧ 1 ≤ G.cost a ∧ G.cost a ≤ 65535
/-- The distance of a node, -1 if there is none. -/
def dD (dist : List Int) (i : Int) : Int := dist.getD i.toNat (-1)
/-- A node from which the search goes on. -/
def SG.pass (G : SG) (m : Int) : Prop := m = G.r ∨ G.ov m = false
def SG.tight (G : SG) (dist : List Int) (i x : Int) : Prop :=
 (i = G.r ∧ x = 0) ∨ ∃ m a, 0 ≤ m ∧ m < (G.N : Int) ∧ 0 ≤ dD dist m ∧ G.pass m ∧ a ∈ G.arcs m ∧ G.up a = true ∧ G.en a = i ∧ x = dD dist m + G.cost a
def cnt (dist : List Int) : Nat := dist.countP fun x => decide (0 ≤ x)
theorem cnt_le (dist : List Int) : cnt dist ≤ dist.length := List.countP_le_length
theorem kD_set {ks : List Int} {i j x : Int} (hi : 0 ≤ i) (hj : 0 ≤ j) (hl : i < (ks.length : Int)) : (ks.set i.toNat x).getD j.toNat 0 = if i = j then x else ks.getD j.toNat 0 := by
 rw [List.getD_eq_getElem?_getD, List.getElem?_set]
 by_cases e : i = j
 ·subst e; rw [if_pos rfl, if_pos rfl, if_pos (by omega)]; rfl
 ·rw [if_neg e, if_neg (by omega), List.getD_eq_getElem?_getD]
/-- What holds between two steps: of the node 'pend' the arcs 'todo' have not been followed yet. -/
structure SI (G : SG) (dist ks os : List Int) (pend : Int) (todo : List Int) : Prop where
 len : dist.length = G.N
 kl : ks.length = G.N
 lo : ∀ i, 0 ≤ i → i < (G.N : Int) → -1 ≤ dD dist i
 hm : ∀ i ∈ os, 0 ≤ i ∧ i < (G.N : Int) ∧ dD dist i = -1
 td : ∀ i, 0 ≤ i → i < (G.N : Int) → 0 ≤ dD dist i → G.tight dist i (dD dist i)
 tk : ∀ i ∈ os, G.tight dist i (ks.getD i.toNat 0)
 cl : ∀ m, 0 ≤ m → m < (G.N : Int) → 0 ≤ dD dist m → G.pass m → ∀ a ∈ G.arcs m, G.up a = true → (m = pend ∧ a ∈ todo) ∨ 0 ≤ dD dist (G.en a) ∨ G.en a ∈ os
 bd : ∀ i, 0 ≤ i → i < (G.N : Int) → dD dist i ≤ 65535 * (cnt dist : Int)
 bk : ∀ i ∈ os, 0 ≤ ks.getD i.toNat 0 ∧ ks.getD i.toNat 0 ≤ 65535 * (cnt dist : Int)
 rt : dD dist G.r = 0 ∨ (os = [G.r] ∧ ks.getD G.r.toNat 0 = 0)
theorem dD_none {N : Nat} {i : Int} : dD (List.replicate N (-1)) i = -1 := by
 unfold dD
 rw [List.getD_eq_getElem?_getD]
 by_cases h : i.toNat < N
 ·simp [h]
 ·rw [List.getElem?_eq_none (by simp; omega)]; rfl
theorem cnt_none (N : Nat) : cnt (List.replicate N (-1)) = 0 := by
 unfold cnt
 rw [List.countP_eq_zero]
 intro x hx
 rw [List.eq_of_mem_replicate hx]
 decide
theorem SI.start (G : SG) (hG : G.Ok) : SI G (List.replicate G.N (-1)) ((List.replicate G.N 0).set G.r.toNat 0) [G.r] (-1) [] := by
 have h0 := hG.r0
 have h1 := hG.r1
 have hk : ((List.replicate G.N (0 : Int)).set G.r.toNat 0).getD G.r.toNat 0 = 0 := by
  rw [kD_set h0 h0 (by simp; omega), if_pos rfl]
 refine ⟨by simp, by simp, fun i _ _ => by rw [dD_none]; exact Int.le_refl _, fun i hi => ?_, fun i _ _ h => by rw [dD_none] at h; omega, fun i hi => ?_, fun m _ _ h => by rw [dD_none] at h; omega, fun i _ _ => by rw [dD_none]; omega, fun i hi => ?_, .inr ⟨rfl, hk⟩⟩
 ·rw [List.mem_singleton.1 hi]; exact ⟨h0, h1, dD_none⟩
 ·rw [List.mem_singleton.1 hi]; exact .inl ⟨rfl, hk⟩
 ·rw [List.mem_singleton.1 hi, hk, cnt_none]; omega
/-- An arc that needs nothing. -/
theorem SI.skip {G : SG} {dist ks os : List Int} {pend a : Int} {todo : List Int} (h : SI G dist ks os pend (a :: todo)) (hs : G.up a = true → 0 ≤ dD dist (G.en a) ∨ G.en a ∈ os) : SI G dist ks os pend todo :=
 ⟨h.len, h.kl, h.lo, h.hm, h.td, h.tk, fun m h0 h1 h2 h3 b hb hu => by
  rcases h.cl m h0 h1 h2 h3 b hb hu with ⟨e, h4⟩ | h4
  ·rcases List.mem_cons.1 h4 with rfl | h5
   ·exact .inr (hs hu)
   ·exact .inl ⟨e, h5⟩
  ·exact .inr h4, h.bd, h.bk, h.rt⟩
/-- An arc by which a node gets a key. -/
theorem SI.put {G : SG} (hG : G.Ok) {dist ks os os' : List Int} {pend a : Int} {todo : List Int} (h : SI G dist ks os pend (a :: todo)) (ha : a ∈ G.arcs pend) (p0 : 0 ≤ pend) (p1 : pend < (G.N : Int)) (pd : 0 ≤ dD dist pend) (pp : G.pass pend) (hu : G.up a = true) (hd : dD dist (G.en a) < 0)
  (hc : dD dist pend + 65535 ≤ 65535 * (cnt dist : Int)) (hp : os'.Perm (if G.en a ∈ os then os else os ++ [G.en a])) : SI G dist (ks.set (G.en a).toNat (dD dist pend + G.cost a)) os' pend todo := by
 obtain ⟨e0, e1, c0, c1⟩ := hG.en pend p0 p1 a ha
 have hel : G.en a < (ks.length : Int) := by rw [h.kl]; exact e1
 have hk : ∀ j, 0 ≤ j → (ks.set (G.en a).toNat (dD dist pend + G.cost a)).getD j.toNat 0 = if G.en a = j then dD dist pend + G.cost a else ks.getD j.toNat 0 := fun j hj => kD_set e0 hj hel
 have hmem : ∀ j, j ∈ os' ↔ j = G.en a ∨ j ∈ os := fun j => by
  rw [hp.mem_iff]
  by_cases e : G.en a ∈ os
  ·rw [if_pos e]
   exact ⟨.inr, fun h => h.elim (fun h => h ▸ e) id⟩
  ·rw [if_neg e, List.mem_append, List.mem_singleton]
   exact ⟨Or.symm, Or.symm⟩
 have hdr : dD dist G.r = 0 := by
  rcases h.rt with h' | ⟨h1, h2⟩
  ·exact h'
  ·exfalso
   have hq := h.td pend p0 p1 pd
   have : ∀ n : Nat, ∀ i, 0 ≤ i → i < (G.N : Int) → 0 ≤ dD dist i → dD dist i ≤ (n : Int) → False := by
    intro n
    induction n with
    | zero =>
     intro i i0 i1 i2 i3
     rcases h.td i i0 i1 i2 with ⟨e, _⟩ | ⟨m, b, m0, m1, m2, _, hb, _, _, m3⟩
     ·have := (h.hm G.r (by rw [h1]; simp)).2.2
      rw [e] at i2; omega
     ·have := (hG.en m m0 m1 b hb).2.2.1
      omega
    | succ n ih =>
     intro i i0 i1 i2 i3
     rcases h.td i i0 i1 i2 with ⟨e, _⟩ | ⟨m, b, m0, m1, m2, _, hb, _, _, m3⟩
     ·have := (h.hm G.r (by rw [h1]; simp)).2.2
      rw [e] at i2; omega
     ·have := (hG.en m m0 m1 b hb).2.2.1
      exact ih m m0 m1 m2 (by omega)
   exact this (dD dist pend).toNat pend p0 p1 pd (by omega)
 refine ⟨h.len, by simp [h.kl], h.lo, fun j hj => ?_, h.td, fun j hj => ?_, fun m h0 h1 h2 h3 b hb hub => ?_, h.bd, fun j hj => ?_, .inl hdr⟩
 ·rcases (hmem j).1 hj with rfl | hj
  ·exact ⟨e0, e1, by have := h.lo _ e0 e1; omega⟩
  ·exact h.hm j hj
 ·rcases (hmem j).1 hj with rfl | hj
  ·rw [hk _ e0, if_pos rfl]
   exact .inr ⟨pend, a, p0, p1, pd, pp, ha, hu, rfl, rfl⟩
  ·rw [hk j (h.hm j hj).1]
   by_cases e : G.en a = j
   ·rw [if_pos e]; exact .inr ⟨pend, a, p0, p1, pd, pp, ha, hu, e, rfl⟩
   ·rw [if_neg e]; exact h.tk j hj
 ·rcases h.cl m h0 h1 h2 h3 b hb hub with ⟨e, h4⟩ | h4 | h4
  ·rcases List.mem_cons.1 h4 with rfl | h5
   ·exact .inr (.inr ((hmem _).2 (.inl rfl)))
   ·exact .inl ⟨e, h5⟩
  ·exact .inr (.inl h4)
  ·exact .inr (.inr ((hmem _).2 (.inr h4)))
 ·rcases (hmem j).1 hj with rfl | hj
  ·rw [hk _ e0, if_pos rfl]; omega
  ·rw [hk j (h.hm j hj).1]
   split
   ·omega
   ·exact h.bk j hj
/-- What a search gives. -/
structure SR (G : SG) (dist : List Int) : Prop where
 len : dist.length = G.N
 lo : ∀ i, 0 ≤ i → i < (G.N : Int) → -1 ≤ dD dist i
 hi : ∀ i, 0 ≤ i → i < (G.N : Int) → dD dist i ≤ 65535 * 64
 rt : dD dist G.r = 0
 td : ∀ i, 0 ≤ i → i < (G.N : Int) → 0 ≤ dD dist i → G.tight dist i (dD dist i)
 cl : ∀ m, 0 ≤ m → m < (G.N : Int) → 0 ≤ dD dist m → G.pass m → ∀ a ∈ G.arcs m, G.up a = true → 0 ≤ dD dist (G.en a)
theorem SI.done {G : SG} (hG : G.Ok) {dist ks : List Int} {pend : Int} (h : SI G dist ks [] pend []) : SR G dist := by
 refine ⟨h.len, h.lo, fun i h0 h1 => ?_, ?_, h.td, fun m h0 h1 h2 h3 a ha hu => ?_⟩
 ·have := h.bd i h0 h1
  have := cnt_le dist
  have := h.len
  have := hG.n64
  omega
 ·rcases h.rt with h | ⟨h, _⟩
  ·exact h
  ·cases h
 ·rcases h.cl m h0 h1 h2 h3 a ha hu with ⟨_, h4⟩ | h4 | h4
  ·cases h4
  ·exact h4
  ·cases h4
end Go.Proofs.YtenhliibmcmnbaaGreat
namespace Go.Proofs.YtenhliibmcmnbaaGreat
set_option linter.unusedSimpArgs false
set_option linter.unusedVariables false
open Go.RowKit Go.Sort
/-- What a search keeps of its own: its struct, its row of distances. -/
structure RX (w : World) (cs : Array Value) (N : Nat) (dist : List Int) (W : World) : Prop where
 x : Bl 415 w.heap.size cs W
 d : W.ownsRow (w.heap.size + 1) 3 1 (.slice (some ⟨w.heap.size + 1, 0, none⟩) N N) N (dist.map (Value.int .i64))
 b : Below w.heap.size w W
theorem RX.up {w W W' : World} {cs : Array Value} {N : Nat} {dist : List Int} (h : RX w cs N dist W) (hb : Below W.heap.size W W') : RX w cs N dist W' := ⟨h.x.up hb, own_up h.d hb, below_next h.b hb⟩
theorem RX.put {w W : World} {cs : Array Value} {N : Nat} {dist : List Int} (h : RX w cs N dist W) (k : Nat) (x : Int) : RX w cs N (dist.set k x) (W.setCell ⟨w.heap.size + 1, k, none⟩ (.int .i64 x)) :=
 ⟨h.x.other (by omega) _, own_put h.d x, Bset h.b (by omega)⟩
theorem RX.lt {w W : World} {cs : Array Value} {N : Nat} {dist : List Int} (h : RX w cs N dist W) : w.heap.size + 2 ≤ W.heap.size := (h.d.lt _ rfl).2
theorem RX.heap {w W W' : World} {cs : Array Value} {N B : Nat} {dist : List Int} (h : RX w cs N dist W) (hb : Below B W W') (hB : w.heap.size + 2 ≤ B) : RX w cs N dist W' := by
 refine ⟨(hb.block _ (by omega)).trans h.x, ?_, h.b.trans (hb.mono (by omega))⟩
 rcases h.d with ⟨hl, ⟨h0, h1⟩ | ⟨g, cap, cur, hv, hB', hg, rest⟩⟩
 ·exact ⟨hl, .inl ⟨h0, h1⟩⟩
 ·have hge : g = w.heap.size + 1 := by injection hv with e; injection e with e; injection e with e; exact e.symm
  subst hge
  exact ⟨hl, .inr ⟨_, cap, cur, hv, hB', (hb.block _ (by omega)).trans hg, rest⟩⟩
section
variable {w : World} {A1 A2 D : Option Addr} {t : Topo} {dn : List Bool} {c1 c2 dc : Nat} {r : Int} {cF cE : Value}
end
end Go.Proofs.YtenhliibmcmnbaaGreat
namespace Go.Proofs.YtenhliibmcmnbaaGreat
set_option linter.unusedSimpArgs false
set_option linter.unusedVariables false
open Go.RowKit Go.Sort
section
variable {w : World} {A1 A2 D : Option Addr} {t : Topo} {dn : List Bool}
end
end Go.Proofs.YtenhliibmcmnbaaGreat
namespace Go.Proofs.YtenhliibmcmnbaaGreat
set_option linter.unusedSimpArgs false
set_option linter.unusedVariables false
open Go.RowKit Go.Sort
section
variable {w : World} {A1 A2 D : Option Addr} {t : Topo} {dn : List Bool}
end
end Go.Proofs.YtenhliibmcmnbaaGreat
namespace Go.Proofs.YtenhliibmcmnbaaGreat
set_option linter.unusedSimpArgs false
set_option linter.unusedVariables false
open Go.RowKit Go.Sort
/-- A call that returns a list of ints in memory of its own. -/
def RetIO (w : World) (xs : List Int) (e : Ending) (w' : World) : Prop :=
 ∃ v, e = .returned v ∧ w'.ownsRow (w.heap.size + 1) 3 1 v xs.length (xs.map (Value.int .i64)) ∧ Below w.heap.size w w'
set_option maxRecDepth 100000 in
set_option maxHeartbeats 1000000 in
theorem graph_OutO (t : Topo) (A1 A2 : Option Addr) (c1 c2 : Nat) (n : Int) (w : World) (hT : TAt w A1 A2 t) (hn : t.ls.length ≤ 100000) :
  Calls Tryz.prog 75 #[.agg #[.int .i64 t.n, .slice A1 t.ov.length c1, .slice A2 t.ls.length c2], .int .i64 n] w (RetIO w (ups (outP t n) (2 * t.ls.length))) := by
 obtain ⟨i0, hi, hz0, hz1, hz2⟩ := info_parts intInfo
 have hX := TBox.start c1 c2 hT
 have HT0 := Lib.hid hT
 have b0 := hX.b0
 have b1 := hX.b1
 have b2 := hX.b2
 have HX := Lib.hid hX
 clear hX hT
 go_enter Tryz.func75, Tryz.ntmps75
 go_wp2_with (go_at_call 56; refine (graph_Arcs _ _ _ _ _ _ hn).mono ?_; rintro e w1 ⟨rfl, hb1⟩)
 replace HX := Lib.hid (HX.out.up hb1)
 clear b0 b1 b2 hb1
 go_loopw [5, 9] (fun v i wr => ∃ k : Nat, k ≤ 2 * t.ls.length ∧ i = .int .i64 k ∧ wr.ownsRow (w.heap.size + 1) 3 1 v (ups (outP t n) k).length ((ups (outP t n) k).map (Value.int .i64)) ∧ Hid (TBox w A1 A2 c1 c2 t wr)) (fun _ i _ => 2 * t.ls.length - (intOf i).toNat)
 case atStart => exact ⟨0, Nat.zero_le _, rfl, World.ownsRow_nil _ _ _ _, HX⟩
 case round =>
  clear HX
  obtain ⟨k, hk, rfl, hown, HX⟩ := hrel
  have b0 := HX.out.b0
  have b1 := HX.out.b1
  have b2 := HX.out.b2
  have HO := Lib.hid hown
  clear hown
  by_cases hlt : k < 2 * t.ls.length
  ·have hlt' : (k : Int) < 2 * (t.ls.length : Int) := by omega
   have hul := ups_le (outP t n) k
   cases hp : (tail t k == n) with
   | true =>
    have HP : Hid (outP t n k = true) := Lib.hid hp
    go_wp2_with (first | (go_at_call 94; refine (graph_Tail _ _ _ _ t _ _ HX.out.ta.ls (by omega) hlt' hn).mono ?_; rintro e w1 ⟨rfl, hb1⟩; replace HX := Lib.hid (HX.out.up hb1); replace HO := Lib.hid (own_up HO.out hb1); clear hb1 b0 b1 b2) | (at_builtin; refine wpList_append_own _ rfl _ _ 50 rfl (w.heap.size + 1) 3 i0 (.int .i64 0) 1 8 Tryz.underlying50 hi hz0 hz1 hz2 rfl (by decide) _ _ _ rfl (HO.out.alloc _) ⟨_, 0, none⟩ 1 1 [.int .i64 k] rfl rfl (cell_one_new _ _ _) ?c2 ?c3 ?c4 ?c5 ?_))
    case c2 => intro u hu; simp at hu; subst hu; rfl
    case c3 => unfold maxLen; omega
    case c4 => omega
    case c5 => have := block_lt_of_cell HX.out.b0; simp; simp at this; omega
    intro v' w2 hown' hgrow _
    have hsz : w.heap.size + 1 ≤ _ := block_lt_of_cell HX.out.b0
    have R := own_next HO.out hsz hown' hgrow
    rw [← ups_hit HP.out] at R
    have HR := Lib.hid R
    clear hown' hgrow R HO
    go_wp2_with fail
    go_roundw
    case rel => exact ⟨k + 1, by omega, by go_num, HR.out.1, Lib.hid (keep_box HX.out HR.out.2 HT0.out)⟩
    case measure => simp [intOf]; omega
   | false =>
    have HP : Hid (outP t n k = false) := Lib.hid hp
    go_wp2_with (go_at_call 94; refine (graph_Tail _ _ _ _ t _ _ HX.out.ta.ls (by omega) hlt' hn).mono ?_; rintro e w1 ⟨rfl, hb1⟩; replace HX := Lib.hid (HX.out.up hb1); replace HO := Lib.hid (own_up HO.out hb1); clear hb1 b0 b1 b2)
    go_roundw
    case rel => exact ⟨k + 1, by omega, by go_num, by rw [ups_miss HP.out]; exact HO.out, HX⟩
    case measure => simp [intOf]; omega
  ·obtain rfl : k = 2 * t.ls.length := by omega
   go_wp2_with fail
   go_ret
   exact ⟨_, rfl, HO.out, HX.out.hb⟩
end Go.Proofs.YtenhliibmcmnbaaGreat
namespace Go.Proofs.YtenhliibmcmnbaaGreat
set_option linter.unusedSimpArgs false
set_option linter.unusedVariables false
open Go.RowKit Go.Sort
theorem own_base {W : World} {B B' : Nat} {E : TypeId} {size : Nat} {v : Value} {k : Nat} {xs : List Value} (h : W.ownsRow B E size v k xs) (hb : B' ≤ B) : W.ownsRow B' E size v k xs := by
 rcases h with ⟨hl, h0 | ⟨g, cap, cur, hv, hB, rest⟩⟩
 ·exact ⟨hl, .inl h0⟩
 ·exact ⟨hl, .inr ⟨g, cap, cur, hv, Nat.le_trans hb hB, rest⟩⟩
section
variable {w : World} {A1 A2 D : Option Addr} {t : Topo}
end
end Go.Proofs.YtenhliibmcmnbaaGreat
namespace Go.Proofs.YtenhliibmcmnbaaGreat
set_option linter.unusedSimpArgs false
set_option linter.unusedVariables false
open Go.RowKit Go.Sort
/-- The parts of a fresh router that its table needs. -/
structure RouR (t : Topo) (v : Int) (rb sb : Nat) (C1 C2 B1 B2 D : Option Addr) (e1 e2 d1 d2 : Nat) (g s : Int) (w : World) : Prop where
 r : Bl 99 rb #[.int .i64 t.n, .slice C1 t.ov.length e1, .slice C2 t.ls.length e2, .int .i64 v, .int .i64 g, .int .i64 s, .pointer (some ⟨sb, 0, none⟩), .int .i64 3, .int .i64 0, .int .i64 t.n, .slice B1 (viewT t v).ov.length d1, .slice B2 t.ls.length d2, .slice D (2 * t.ls.length) (2 * t.ls.length), .int .i64 t.n, .slice B1 (viewT t v).ov.length d1, .slice B2 t.ls.length d2, .slice D (2 * t.ls.length) (2 * t.ls.length), .int .i64 0, .slice none 0 0, .slice none 0 0, .bool false] w
 ct : TAt w C1 C2 t
 cv : TAt w B1 B2 (viewT t v)
 cd : Rd w D ((List.replicate (2 * t.ls.length) true).map Value.bool)
theorem RouR.up {t : Topo} {v : Int} {rb sb : Nat} {C1 C2 B1 B2 D : Option Addr} {e1 e2 d1 d2 : Nat} {g s : Int} {w w' : World} (h : RouR t v rb sb C1 C2 B1 B2 D e1 e2 d1 d2 g s w) (hb : Below w.heap.size w w') : RouR t v rb sb C1 C2 B1 B2 D e1 e2 d1 d2 g s w' :=
 ⟨h.r.up hb, h.ct.below hb, h.cv.below hb, h.cd.below hb⟩
section
variable {t : Topo} {v : Int} {rb sb : Nat} {C1 C2 B1 B2 D : Option Addr} {e1 e2 d1 d2 : Nat} {g s : Int} {w : World}
theorem p4_up {b : Nat} {x0 x1 x2 x3 : Value} {w w' : World} (hb : Below w.heap.size w w') (h : w.cell? ⟨b, 0, none⟩ = some x0 ∧ w.cell? ⟨b, 1, none⟩ = some x1 ∧ w.cell? ⟨b, 2, none⟩ = some x2 ∧ w.cell? ⟨b, 3, none⟩ = some x3) :
  w'.cell? ⟨b, 0, none⟩ = some x0 ∧ w'.cell? ⟨b, 1, none⟩ = some x1 ∧ w'.cell? ⟨b, 2, none⟩ = some x2 ∧ w'.cell? ⟨b, 3, none⟩ = some x3 := ⟨cell_up hb h.1, cell_up hb h.2.1, cell_up hb h.2.2.1, cell_up hb h.2.2.2⟩
set_option maxRecDepth 100000 in
set_option maxHeartbeats 4000000 in
theorem router_detected0 (hv : valid t = true) (h : RouR t v rb sb C1 C2 B1 B2 D e1 e2 d1 d2 g s w) :
  Calls Tryz.prog 46 #[.pointer (some ⟨rb, 0, none⟩)] w fun e w' => ∃ (vd : Value) (xs : List Int), e = .returned vd ∧ w'.ownsRow w.heap.size 3 1 vd xs.length (xs.map (Value.int .i64)) ∧ xs.length ≤ 512 ∧ Below w.heap.size w w' := by
 obtain ⟨i0, hi, hz0, hz1, hz2⟩ := info_parts intInfo
 have hL := valid_ls hv
 have HR := Lib.hid h
 have HB := Lib.hid (Below.refl w.heap.size w)
 obtain ⟨r0, r1, r2, r3, r4, r5, r6, r7, r8, r9, r10, r11, r12, r13, r14, r15, r16, r17, r18, r19, r20, fr⟩ := h.r.c21
 clear r4 r5 r6 r7 r8 r9 r10 r11 r12 r13 r14 r15 r16 r17 r18 r19 r20 fr h hv
 go_enter Tryz.func46, Tryz.ntmps46
 go_upto_region 2 with fail
 go_region_held3 (fun w' => w'.cell? ⟨rb, 0, none⟩ = some (.int .i64 t.n) ∧ w'.cell? ⟨rb, 1, none⟩ = some (.slice C1 t.ov.length e1) ∧ w'.cell? ⟨rb, 2, none⟩ = some (.slice C2 t.ls.length e2) ∧ w'.cell? ⟨rb, 3, none⟩ = some (.int .i64 v))
  (first | with_reducible exact p4_up HQ.out (by assumption) | exact p4_up (Bdrw (Below.refl _ _)) ⟨r0, r1, r2, r3⟩)
  (first | (go_at_call 75; (with_reducible refine (graph_OutO t _ _ _ _ _ _ (HR.out.ct.below (Bdrw (Below.refl _ _))) (by omega)).mono ?_); rintro e w3 ⟨vo, rfl, hvo, hb⟩; have HQ := Lib.hid hb; have HVR := Lib.hid hvo; obtain ⟨Ao, co, rfl, _, _, _⟩ := rd_of_own hvo; replace HR := Lib.hid ((HR.out.up (Bdrw (Below.refl _ _))).up hb); replace HB := Lib.hid ((Bdrw HB.out).trans hb); clear hb hvo))
 generalize hl : ups (outP t v) (2 * t.ls.length) = l at HVR ⊢
 have HLB : Hid (∀ a ∈ l, 0 ≤ a ∧ a < 2 * (t.ls.length : Int)) := Lib.hid (fun a ha => by rw [← hl] at ha; have := mem_ups.1 ha; omega)
 have hll : l.length ≤ 512 := by rw [← hl]; exact Nat.le_trans (ups_le _ _) (by omega)
 have HRDO := Lib.hid (rd_of_own HVR.out)
 clear hl
 go_wp2_with fail
 clear r0 r1 r2 r3
 go_loopg [3, 16] l.length (fun gg vs i wx => ∃ (q : Nat) (xs : List Int) (v2 : Value), v2 = vs ∧ q + gg = l.length ∧ i = .int .i64 q ∧ xs.length ≤ q ∧ Hid (Below w3.heap.size w3 wx) ∧ Hid (wx.ownsRow w3.heap.size 3 1 v2 xs.length (xs.map (Value.int .i64))))
 case atStart => exact ⟨0, [], _, rfl, by omega, rfl, Nat.le_refl _, Lib.hid (Below.refl _ _), Lib.hid (World.ownsRow_nil _ _ _ _)⟩
 case round =>
  obtain ⟨q, xs, v2, rfl, hqg, rfl, hxs, HW, HV2⟩ := hrel
  by_cases hlt : q < l.length
  ·have hlt' : (q : Int) < (l.length : Int) := by omega
   obtain ⟨A', c', e1, _, _, hrd⟩ := HRDO.out
   injection e1 with e1 _ e3
   subst e1 e3
   obtain ⟨bz, oz, a, rfl, haz, caz⟩ := ints_at (hrd.below HW.out) hlt
   obtain ⟨a0, a1⟩ := HLB.out a (List.mem_of_getElem? haz)
   have HRW := Lib.hid (HR.out.up HW.out)
   have r12 := HRW.out.r.c21.2.2.2.2.2.2.2.2.2.2.2.2.1
   have hdl : ((List.replicate (2 * t.ls.length) true).map Value.bool)[a.toNat]? = some (.bool true) := by
    rw [List.getElem?_map, List.getElem?_replicate, if_pos (by omega)]; rfl
   obtain ⟨bd, od, rfl, cda⟩ := HRW.out.cd.at_ hdl
   have hai : a < ((2 * t.ls.length : Nat) : Int) := by omega
   clear haz hdl hrd
   go_upto_region 6 with fail
   have HVA := Lib.hid (HV2.out)
   clear r12 cda caz
   have HWA := Lib.hid (HW.out.alloc HW.out.size (.cells #[.int .i64 a] 3))
   go_wp2_with (at_builtin; refine wpList_append_lies _ rfl _ _ 50 rfl w3.heap.size 3 i0 (.int .i64 0) 1 8 Tryz.underlying50 hi hz0 hz1 hz2 rfl (by decide) _ _ _ rfl (HV2.out.alloc _) ⟨_, 0, none⟩ 1 1 [.int .i64 a] rfl rfl (cell_one_new _ _ _) ?c2 (by decide) ?c3 ?c4 ?c5 _ rfl ?_)
   case c2 => first | rfl | (intro u hu; simp at hu; subst hu; rfl)
   case c3 => unfold maxLen; omega
   case c4 => omega
   case c5 => have := HW.out.size; simp; omega
   intro gb cap W5 ap1 ap2 ap3 ap4
   have hvb : ∀ b, v2.ownBlock = some b → w3.heap.size ≤ b := fun b e => (HV2.out.lt b e).1
   have HB5 := Lib.hid (HWA.out.grown ap2 (by have := HW.out.size; simp; omega) (fun b e => hvb b e))
   have HO5 := Lib.hid ap1
   clear ap1 ap2 ap3 ap4 hvb
   go_wp2_with fail
   go_roundg (gk - 1)
   case measure => omega
   case rel => exact ⟨q + 1, xs ++ [a], _, rfl, by omega, by go_num, by simp; omega, HB5, Lib.hid (by rw [List.map_append, List.length_append]; exact HO5.out)⟩
  ·obtain rfl : q = l.length := by omega
   have hlf : ¬ ((l.length : Int) < (l.length : Int)) := by omega
   go_wp2_with fail
   go_ret
   exact ⟨v2, rfl, xs, own_base HV2.out HB.out.size, by omega, HB.out.trans (HW.out.mono HB.out.size)⟩
set_option maxRecDepth 100000 in
set_option maxHeartbeats 4000000 in
theorem router_State0 (hv : valid t = true) (h : RouR t v rb sb C1 C2 B1 B2 D e1 e2 d1 d2 g s w) :
  Calls Tryz.prog 12 #[.pointer (some ⟨rb, 0, none⟩)] w fun e w' => e = .returned (.int .i64 3) ∧ Below w.heap.size w w' := by
 have HV := Lib.hid hv
 have HR := Lib.hid h
 have HB := Lib.hid (Below.refl w.heap.size w)
 obtain ⟨r0, r1, r2, r3, r4, r5, r6, r7, r8, r9, r10, r11, r12, r13, r14, r15, r16, r17, r18, r19, r20, fr⟩ := h.r.c21
 clear r0 r1 r2 r3 r4 r5 r6 r9 r10 r11 r12 r13 r14 r15 r16 r17 r18 r19 r20 fr h hv
 go_enter Tryz.func12, Tryz.ntmps12
 go_upto_region 3 with fail
 go_region_held3 (fun w' => w'.cell? ⟨rb, 7, none⟩ = some (.int .i64 3) ∧ w'.cell? ⟨rb, 8, none⟩ = some (.int .i64 0))
  (first | with_reducible exact ⟨cell_up HQ.out r7, cell_up HQ.out r8⟩ | exact ⟨cell_up (Bdrw (Below.refl _ _)) r7, cell_up (Bdrw (Below.refl _ _)) r8⟩)
  (first | (go_at_call 46; (with_reducible refine (router_detected0 HV.out (HR.out.up (Bdrw (Below.refl _ _)))).mono ?_); rintro e w3 ⟨vd, xs, rfl, hvd, hxl, hb⟩; have HQ := Lib.hid ((Bdrw (Below.refl w.heap.size w)).trans hb); obtain ⟨Ao, co, rfl, _, _, _⟩ := rd_of_own hvd; clear hb hvd) | (go_at_call 45; refine (stages_Effective0 _ _).mono ?_; rintro e w4 ⟨rfl, hb⟩; replace HQ := Lib.hid (HQ.out.trans (hb.mono HQ.out.size)); clear hb))
 go_wp2_with fail
 go_ret
 exact ⟨rfl, HQ.out⟩
end
end Go.Proofs.YtenhliibmcmnbaaGreat
namespace Go.Proofs.YtenhliibmcmnbaaGreat
set_option linter.unusedSimpArgs false
set_option linter.unusedVariables false
open Go.RowKit Go.Sort
section
variable {t : Topo} {v : Int} {rb sb : Nat} {C1 C2 B1 B2 D : Option Addr} {e1 e2 d1 d2 : Nat} {g s : Int} {w : World}
end
end Go.Proofs.YtenhliibmcmnbaaGreat
namespace Go.Proofs.YtenhliibmcmnbaaGreat
set_option linter.unusedSimpArgs false
set_option linter.unusedVariables false
open Go.RowKit Go.Sort
section
variable {t : Topo} {v : Int} {rb sb : Nat} {C1 C2 B1 B2 D : Option Addr} {e1 e2 d1 d2 : Nat} {g s : Int} {w : World}
end
end Go.Proofs.YtenhliibmcmnbaaGreat
namespace Go.Proofs.YtenhliibmcmnbaaGreat
set_option linter.unusedSimpArgs false
set_option linter.unusedVariables false
open Go.RowKit Go.Sort
section
variable {t : Topo} {v : Int} {rb sb : Nat} {C1 C2 B1 B2 D : Option Addr} {e1 e2 d1 d2 : Nat} {g s : Int} {w : World}
end
end Go.Proofs.YtenhliibmcmnbaaGreat
