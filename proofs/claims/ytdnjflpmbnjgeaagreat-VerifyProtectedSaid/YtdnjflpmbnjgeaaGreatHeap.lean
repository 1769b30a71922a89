/-
  An indexed queue in memory: before, swap.
-/
import Derived.Test.YtdnjflpmbnjgeaaGreatPkBase
import Derived.Test.YtdnjflpmbnjgeaaGreatPkKp
import Derived.Test.YtdnjflpmbnjgeaaGreatPkRef
set_option linter.unusedSimpArgs false
set_option linter.unusedVariables false
namespace Go.Proofs.YtdnjflpmbnjgeaaGreat
section
open Go.RowKit Go.Sort
/-- A queue at block hb: keys in kb, places in pb, the held items in the row v. -/
structure HeapR (B hb N kb pb : Nat) (v : Value) (ks ps os : List Int) (w : World) : Prop where
 h : Bl 157 hb #[.slice (some ⟨kb, 0, none⟩) N N, .slice (some ⟨pb, 0, none⟩) N N, v] w
 k : w.ownsRow B 3 1 (.slice (some ⟨kb, 0, none⟩) N N) N (ks.map (Value.int .i64))
 p : w.ownsRow B 3 1 (.slice (some ⟨pb, 0, none⟩) N N) N (ps.map (Value.int .i64))
 o : w.ownsRow B 3 1 v os.length (os.map (Value.int .i64))
 ne : kb ≠ pb ∧ kb ≠ hb ∧ pb ≠ hb ∧ v.ownBlock ≠ some kb ∧ v.ownBlock ≠ some pb ∧ v.ownBlock ≠ some hb ∧ B ≤ hb
theorem HeapR.up {B hb N kb pb : Nat} {v : Value} {ks ps os : List Int} {w w' : World} (h : HeapR B hb N kb pb v ks ps os w) (hb' : Below w.heap.size w w') : HeapR B hb N kb pb v ks ps os w' :=
 ⟨h.h.up hb', own_up h.k hb', own_up h.p hb', own_up h.o hb', h.ne⟩
theorem HeapR.kB {B hb N kb pb : Nat} {v : Value} {ks ps os : List Int} {w : World} (h : HeapR B hb N kb pb v ks ps os w) : B ≤ kb := (h.k.lt kb rfl).1
theorem HeapR.pB {B hb N kb pb : Nat} {v : Value} {ks ps os : List Int} {w : World} (h : HeapR B hb N kb pb v ks ps os w) : B ≤ pb := (h.p.lt pb rfl).1
/-- A store below the queue's blocks. -/
theorem HeapR.far {B hb N kb pb b : Nat} {v : Value} {ks ps os : List Int} {w : World} (h : HeapR B hb N kb pb v ks ps os w) (hf : b < B) (j : Nat) (u : Value) : HeapR B hb N kb pb v ks ps os (w.setCell ⟨b, j, none⟩ u) := by
 have h1 := h.kB
 have h2 := h.pB
 have h3 := h.ne.2.2.2.2.2.2
 exact ⟨h.h.other (by omega) _, jZ h.k (by simp [Value.ownBlock]; omega) _, jZ h.p (by simp [Value.ownBlock]; omega) _, jZ h.o (fun e => by have := (h.o.lt b e).1; omega) _, h.ne⟩
/-- An element of a row of ints, and a store into it. -/
theorem bZ {w : World} {base g n c k : Nat} {E : TypeId} {xs : List Int} (ho : w.ownsRow base E 1 (.slice (some ⟨g, 0, none⟩) n c) n (xs.map (Value.int .i64))) (hk : k < n) :
    w.cell? ⟨g, k, none⟩ = some (.int .i64 (xs.getD k 0)) ∧ w.frozen? ⟨g, k, none⟩ = false := by
 have hl : xs.length = n := by have := ho.1; simpa using this
 refine ⟨?_, ho.frozenAt k⟩
 rw [ho.cellAt k (by omega)]
 simp [List.getD_eq_getElem?_getD, List.getElem?_eq_getElem (show k < xs.length by omega)]
theorem own_put {w : World} {base g n c k : Nat} {E : TypeId} {xs : List Int} (ho : w.ownsRow base E 1 (.slice (some ⟨g, 0, none⟩) n c) n (xs.map (Value.int .i64))) (x : Int) :
    (w.setCell ⟨g, k, none⟩ (.int .i64 x)).ownsRow base E 1 (.slice (some ⟨g, 0, none⟩) n c) n ((xs.set k x).map (Value.int .i64)) := by
 rw [List.map_set]
 simpa using (ho.stored k (.int .i64 x)).1
theorem own_at {w : World} {base n : Nat} {E : TypeId} {v : Value} {xs : List Value} (ho : w.ownsRow base E 1 v n xs) (hn : 0 < n) : ∃ g c, v = .slice (some ⟨g, 0, none⟩) n c ∧ n ≤ c ∧ base ≤ g := by
 rcases ho with ⟨hl, ⟨rfl, h1⟩ | ⟨g, cap, cur, rfl, hb, hg, hnc, hcm, hs, ht⟩⟩
 ·omega
 ·exact ⟨g, cap, rfl, hnc, hb⟩
/-- Does the item at p come before the one at q? -/
def bef (ks os : List Int) (p q : Nat) : Bool :=
 if ks.getD (os.getD p 0).toNat 0 = ks.getD (os.getD q 0).toNat 0 then decide (os.getD p 0 < os.getD q 0) else decide (ks.getD (os.getD p 0).toNat 0 < ks.getD (os.getD q 0).toNat 0)
section
variable {B hb N kb pb : Nat} {v : Value} {ks ps os : List Int} {w : World}
theorem heap_idx (h : HP N ks ps os) (H : HeapR B hb N kb pb v ks ps os w) {p : Nat} (hp : p < os.length) : 0 ≤ os.getD p 0 ∧ os.getD p 0 < (N : Int) ∧ w.cell? ⟨kb, (os.getD p 0).toNat, none⟩ = some (.int .i64 (ks.getD (os.getD p 0).toNat 0)) := by
 have ha := h.a p _ (getD_some hp)
 exact ⟨ha.1, ha.2.1, (bZ H.k (k := (os.getD p 0).toNat) (by omega)).1⟩
set_option maxRecDepth 100000 in
set_option maxHeartbeats 2000000 in
theorem heap_before (p q : Nat) (hN : N ≤ 65536) (h : HP N ks ps os) (H : HeapR B hb N kb pb v ks ps os w) (hp : p < os.length) (hq : q < os.length) :
    Calls Tryz.prog 127 #[.pointer (some ⟨hb, 0, none⟩), .int .i64 p, .int .i64 q] w fun e w' => e = .returned (.bool (bef ks os p q)) ∧ Below w.heap.size w w' := by
 obtain ⟨h0, h1, h2, hf⟩ := H.h.c3
 obtain ⟨g, c, rfl, hc, hg⟩ := own_at H.o (by omega)
 have ip := (bZ H.o hp).1
 have iq := (bZ H.o hq).1
 obtain ⟨p1, p2, p3⟩ := heap_idx h H hp
 obtain ⟨q1, q2, q3⟩ := heap_idx h H hq
 have hp' : (p : Int) < (os.length : Int) := by omega
 have hq' : (q : Int) < (os.length : Int) := by omega
 have HBF : Hid (bef ks os p q = if ks.getD (os.getD p 0).toNat 0 = ks.getD (os.getD q 0).toNat 0 then decide (os.getD p 0 < os.getD q 0) else decide (ks.getD (os.getD p 0).toNat 0 < ks.getD (os.getD q 0).toNat 0)) := hU rfl
 generalize os.getD p 0 = i at *
 generalize os.getD q 0 = j at *
 generalize ks.getD i.toNat 0 = ki at *
 generalize ks.getD j.toNat 0 = kj at *
 generalize os.length = m at *
 clear h H hf hp hq hc hg
 by_cases e : ki = kj
 ·have hne : (ki != kj) = false := by simp [e]
  have HE := hU e
  clear e
  go_enter Tryz.func127, Tryz.ntmps127
  go_wp2_with fail
  obtain ⟨P1, P2, P3, P4, P5, P6, -⟩ := kU h0 (kU h2 (kU p3 (kU q3 (kU ip (kU iq trivial)))))
  refine wp_region_quiet_below (by kernel_rfl) (by kernel_rfl) ?_
  repeat (go_big_quiet_step (fail))
  refine wpQuiet_nil ?_
  intro w2 hb2
  replace hb2 := eQ hb2
  clear P1 P2 P3 P4 P5 P6
  have zU := uU hb2 h0 (uU hb2 h2 (uU hb2 p3 (uU hb2 q3 (uU hb2 ip (uU hb2 iq trivial))))); clear h0 h2 p3 q3 ip iq; obtain ⟨h0, h2, p3, q3, ip, iq, -⟩ := zU
  go_wp2_with fail
  obtain ⟨P1, P2, P3, -⟩ := kU h0 (kU p3 (kU q3 trivial))
  refine wp_region_quiet_below (by kernel_rfl) (by kernel_rfl) ?_
  repeat (go_big_quiet_step (fail))
  refine wpQuiet_nil ?_
  intro w3 hb3
  replace hb3 := eQ hb3
  clear P1 P2 P3
  have zU := uU hb3 h0 (uU hb3 p3 (uU hb3 q3 trivial)); clear h0 p3 q3; obtain ⟨h0, p3, q3, -⟩ := zU
  go_wp2_with fail
  go_ret
  exact ⟨by rw [HBF.out, if_pos HE.out]; rfl, hb2.trans (hb3.mono hb2.size)⟩
 ·have hne : (ki != kj) = true := by simp [e]
  have HE := hU e
  clear e
  go_enter Tryz.func127, Tryz.ntmps127
  go_wp2_with fail
  obtain ⟨P1, P2, P3, P4, P5, P6, -⟩ := kU h0 (kU h2 (kU p3 (kU q3 (kU ip (kU iq trivial)))))
  refine wp_region_quiet_below (by kernel_rfl) (by kernel_rfl) ?_
  repeat (go_big_quiet_step (fail))
  refine wpQuiet_nil ?_
  intro w2 hb2
  replace hb2 := eQ hb2
  clear P1 P2 P3 P4 P5 P6
  have zU := uU hb2 h0 (uU hb2 h2 (uU hb2 p3 (uU hb2 q3 (uU hb2 ip (uU hb2 iq trivial))))); clear h0 h2 p3 q3 ip iq; obtain ⟨h0, h2, p3, q3, ip, iq, -⟩ := zU
  go_wp2_with fail
  obtain ⟨P1, P2, P3, -⟩ := kU h0 (kU p3 (kU q3 trivial))
  refine wp_region_quiet_below (by kernel_rfl) (by kernel_rfl) ?_
  repeat (go_big_quiet_step (fail))
  refine wpQuiet_nil ?_
  intro w3 hb3
  replace hb3 := eQ hb3
  clear P1 P2 P3
  have zU := uU hb3 h0 (uU hb3 p3 (uU hb3 q3 trivial)); clear h0 p3 q3; obtain ⟨h0, p3, q3, -⟩ := zU
  go_wp2_with fail
  obtain ⟨P1, P2, P3, -⟩ := kU h0 (kU p3 (kU q3 trivial))
  refine wp_region_quiet_below (by kernel_rfl) (by kernel_rfl) ?_
  repeat (go_big_quiet_step (fail))
  refine wpQuiet_nil ?_
  intro w4 hb4
  replace hb4 := eQ hb4
  clear P1 P2 P3
  have zU := uU hb4 h0 (uU hb4 p3 (uU hb4 q3 trivial)); clear h0 p3 q3; obtain ⟨h0, p3, q3, -⟩ := zU
  go_wp2_with fail
  go_ret
  exact ⟨by rw [HBF.out, if_neg HE.out]; rfl, (hb2.trans (hb3.mono hb2.size)).trans (hb4.mono (Nat.le_trans hb2.size hb3.size))⟩
theorem q1_set {b o b' o' : Nat} {x u : Value} {w : World} (hb : b' ≠ b) (h : w.cell? ⟨b, o, none⟩ = some x) : (w.setCell ⟨b', o', none⟩ u).cell? ⟨b, o, none⟩ = some x := by
 rw [World.cell?_setCell_other w _ _ _ (fun e => hb (by injection e))]; exact h
end
end
end Go.Proofs.YtdnjflpmbnjgeaaGreat
