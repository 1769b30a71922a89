/-
  How a configuration's value lies in memory.
-/
import Derived.Test.YtfimacgmciogmaaGreatDoorCfgPb
namespace Go.Proofs.YtfimacgmciogmaaGreatDoor
set_option linter.unusedSimpArgs false
set_option linter.unusedVariables false
open Go.RowKit Go.Shelf Go.Sort
theorem Rd.flat {α : Type} {w : World} {A : Option Addr} {l : List α} {f : α → List Value} {k : Nat} (n : Nat) (hn : ∀ x, (f x).length = n) (h : Rd w A (l.flatMap f)) (hpos : 0 < n) (hk : k < l.length) : ∃ b o, A = some ⟨b, o, none⟩ ∧ ∀ j u, (f l[k])[j]? = some u → w.cell? ⟨b, o + k * n + j, none⟩ = some u := by
 have hfl : ∀ (l : List α) (k : Nat) (hk : k < l.length) (j : Nat) (u : Value), (f l[k])[j]? = some u → (l.flatMap f)[k * n + j]? = some u := by
  intro l
  induction l with
  | nil => intro k hk; simp at hk
  | cons x r ih =>
   intro k hk j u hu
   rw [List.flatMap_cons]
   cases k with
   | zero =>
    have hj : j < (f x).length := (List.getElem?_eq_some_iff.1 hu).1
    rw [Nat.zero_mul, Nat.zero_add, List.getElem?_append_left hj]
    exact hu
   | succ k =>
    rw [List.getElem?_append_right (by rw [hn, Nat.succ_mul]; omega), hn, show (k + 1) * n + j - n = k * n + j by rw [Nat.succ_mul]; omega]
    exact ih k (by simpa using hk) j u hu
 have hne : l.flatMap f ≠ [] := by
  intro e
  obtain ⟨u, h0⟩ : ∃ u, (f l[k])[0]? = some u := ⟨(f l[k])[0]'(by rw [hn]; exact hpos), List.getElem?_eq_getElem _⟩
  have := hfl l k hk 0 _ h0
  rw [e] at this
  cases this
 rcases h with h | ⟨b, o, hA, hc⟩
 ·exact absurd h hne
 ·exact ⟨b, o, hA, fun j u hu => by rw [Nat.add_assoc]; exact hc _ _ (hfl l k hk j u hu)⟩
/-- How the rows of a configuration lie in memory. -/
structure CAt (W : World) (r : Rws) (c : Cf) : Prop where
 n : Rd W r.aN (c.names.map strW)
 l : Rd W r.aL (c.lnames.map strW)
 k : RdL W r.aK c.links
 o : Rd W r.aO (c.ov.map Value.bool)
 p : Rd W r.aP (c.pfx.flatMap pfV)
 q : Rd W r.aQ ((c.pols.zip r.ls).flatMap plV)
 s : ∀ x ∈ c.pols.zip r.ls, Rd W x.2.1 (x.1.2.2.flatMap sgV) ∧ x.1.2.2.length ≤ maxLen
 d : Rd W r.aD (c.dems.flatMap dmV)
 ll : r.ls.length = c.pols.length
theorem CAt.below {W W' : World} {r : Rws} {c : Cf} (h : CAt W r c) (hb : Below W.heap.size W W') : CAt W' r c := ⟨h.n.below hb, h.l.below hb, h.k.below hb, h.o.below hb, h.p.below hb, h.q.below hb, fun x hx => ⟨(h.s x hx).1.below hb, (h.s x hx).2⟩, h.d.below hb, h.ll⟩
/-- The cells of a configuration. -/
def cfCells (n : Int) (r : Rws) (c : Cf) : Array Value := #[.slice r.aN c.names.length r.cN, .slice r.aL c.lnames.length r.cL, .int .i64 n, .slice r.aO c.ov.length r.cO, .slice r.aK c.links.length r.cK, .slice r.aP c.pfx.length r.cP, .slice r.aQ c.pols.length r.cQ, .slice r.aD c.dems.length r.cD,
 .int .i64 (c.tm.getD 0 0), .int .i64 (c.tm.getD 1 0), .int .i64 (c.tm.getD 2 0), .int .i64 (c.tm.getD 3 0), .int .i64 (c.tm.getD 4 0)]
theorem own_rd {w : World} {B : Nat} {E : TypeId} {s n c : Nat} {A : Option Addr} {xs : List Value} (h : w.ownsRow B E s (.slice A n c) n xs) : Rd w A xs ∧ n ≤ maxLen := by
 have h0 := h
 rcases h with ⟨hl, ⟨e, rfl⟩ | ⟨g, cap, cur, e, hb, hg, hnc, hcm, hs, ht⟩⟩
 ·exact ⟨.inl (List.eq_nil_of_length_eq_zero (by simpa using hl)), Nat.zero_le _⟩
 ·injection e with e1 _ e2
  subst e1
  refine ⟨.inr ⟨g, 0, rfl, fun j u hu => ?_⟩, Nat.le_trans hnc hcm⟩
  have hj : j < n * s := by rw [← hl]; exact (List.getElem?_eq_some_iff.1 hu).1
  rw [Nat.zero_add, h0.cellAt j hj]; exact hu
theorem rdl_of {w : World} {A : Option Addr} {ls : List Lnk} (h : Rd w A (ls.flatMap lkV)) : RdL w A ls := by
 cases ls with
 | nil => exact .inl rfl
 | cons x r =>
  obtain ⟨b, o, hA, _⟩ := h.flat 7 (fun _ => rfl) (by decide) (k := 0) (by simp)
  refine .inr ⟨b, o, hA, fun k l hl => ?_⟩
  obtain ⟨hk, hl2⟩ := List.getElem?_eq_some_iff.1 hl
  obtain ⟨b', o', hA', hc⟩ := h.flat 7 (fun _ => rfl) (by decide) (k := k) hk
  rw [hA] at hA'
  injection hA' with e
  injection e with e1 e2
  subst e1 e2
  rw [hl2] at hc
  exact ⟨hc 0 _ rfl, hc 1 _ rfl, hc 2 _ rfl, hc 3 _ rfl, hc 4 _ rfl, hc 5 _ rfl, hc 6 _ rfl⟩
def ovC (c : Cf) : Cf := { c with ov := if true ∈ c.ov then c.ov else [] }
theorem cat_of {B : Nat} {r : Rws} {c : Cf} {W : World} (h : Rows B (rowsOf r c) W) (hll : r.ls.length = c.pols.length) : ∃ r', CAt W r' (ovC c) ∧ confV r c = .agg (cfCells (c.names.length : Int) r' (ovC c)) := by
 have hn := own_rd (h.own ⟨9, 1, r.aN, r.cN, c.names.length, c.names.map strW⟩ (by simp [rowsOf]))
 have hl := own_rd (h.own ⟨9, 1, r.aL, r.cL, c.lnames.length, c.lnames.map strW⟩ (by simp [rowsOf]))
 have hk := own_rd (h.own ⟨44, 7, r.aK, r.cK, c.links.length, c.links.flatMap lkV⟩ (by simp [rowsOf]))
 have hp := own_rd (h.own ⟨72, 3, r.aP, r.cP, c.pfx.length, c.pfx.flatMap pfV⟩ (by simp [rowsOf]))
 have hq := own_rd (h.own ⟨76, 3, r.aQ, r.cQ, c.pols.length, (c.pols.zip r.ls).flatMap plV⟩ (by simp [rowsOf]))
 have hd := own_rd (h.own ⟨81, 4, r.aD, r.cD, c.dems.length, c.dems.flatMap dmV⟩ (by simp [rowsOf]))
 have ho := own_rd (h.own ⟨4, 1, r.aO, r.cO, c.ov.length, c.ov.map Value.bool⟩ (by simp [rowsOf]))
 have hs : ∀ x ∈ c.pols.zip r.ls, Rd W x.2.1 (x.1.2.2.flatMap sgV) ∧ x.1.2.2.length ≤ maxLen := fun x hx => own_rd (h.own ⟨78, 2, x.2.1, x.2.2, x.1.2.2.length, x.1.2.2.flatMap sgV⟩ (List.mem_append.2 (.inr (List.mem_append.2 (.inr (List.mem_map.2 ⟨x, hx, rfl⟩))))))
 by_cases hb : true ∈ c.ov
 ·refine ⟨r, ⟨hn.1, hl.1, rdl_of hk.1, ?_, hp.1, hq.1, hs, hd.1, hll⟩, ?_⟩
  ·simp only [ovC, if_pos hb]; exact ho.1
  ·simp only [confV, cfCells, ovC, if_pos hb]
 ·refine ⟨{ r with aO := none, cO := 0 }, ⟨hn.1, hl.1, rdl_of hk.1, ?_, hp.1, hq.1, hs, hd.1, hll⟩, ?_⟩
  ·simp only [ovC, if_neg hb]; exact .inl rfl
  ·simp only [confV, cfCells, ovC, if_neg hb, List.length_nil]
/-- A boxed configuration, in a later world. -/
structure KC (T : TypeId) (w : World) (n : Int) (r : Rws) (c : Cf) (W : World) : Prop where
 b : W.heap[w.heap.size]? = some (.cells (cfCells n r c) T (0, 0))
 c1 : CAt W r c
 hb : Below w.heap.size w W
theorem KC.up {T : TypeId} {w : World} {n : Int} {r : Rws} {c : Cf} {W W' : World} (h : KC T w n r c W) (hb : Below W.heap.size W W') : KC T w n r c W' :=
 ⟨(hb.block _ (lt_of_heap h.b)).trans h.b, h.c1.below hb, below_next h.hb hb⟩
theorem KC.p {T : TypeId} {w : World} {n : Int} {r : Rws} {c : Cf} {W : World} (h : KC T w n r c W) (j : Nat) : W.cell? ⟨w.heap.size, j, none⟩ = (cfCells n r c)[j]? := Lib.cell_of_heap h.b j
theorem KC.start (T : TypeId) (w : World) (n : Int) (r : Rws) (c : Cf) (h : CAt w r c) : KC T w n r c (w.alloc (.cells (cfCells n r c) T)) := ⟨heap_alloc_new _ _, h.below (below_box _ _), below_box _ _⟩
theorem KC.lt {T : TypeId} {w : World} {n : Int} {r : Rws} {c : Cf} {W : World} (h : KC T w n r c W) : w.heap.size < W.heap.size := lt_of_heap h.b
end Go.Proofs.YtfimacgmciogmaaGreatDoor
