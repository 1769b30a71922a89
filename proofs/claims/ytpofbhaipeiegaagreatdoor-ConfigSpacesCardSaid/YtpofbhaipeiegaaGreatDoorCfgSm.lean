/-
  waypointref15.Same answers true for two configurations of equal contents.
-/
import Derived.Test.YtpofbhaipeiegaaGreatDoorCfgFi
import Derived.Test.YtpofbhaipeiegaaGreatDoorRefSame
import Derived.BigRegion
namespace Go.Proofs.YtpofbhaipeiegaaGreatDoor
set_option linter.unusedSimpArgs false
set_option linter.unusedVariables false
open Go.RowKit Go.Shelf Go.Sort

theorem sg_neq_f (k m : Int) (w : World) : (binOp .neq 97 (.agg #[.int .i64 k, .int .i64 m]) (.agg #[.int .i64 k, .int .i64 m])).run Tryz.prog w = .ok (.bool false) w := by
  rw [run_neq_struct, run_equalIn_struct w 9999 97 _ _ (by kernel_rfl) (by kernel_rfl)]
  simp only [Program.fieldsOf, Tryz.underlying97]
  simp [Op.eqFields, go_sem]
theorem dm_neq_f (a b c d : Int) (w : World) : (binOp .neq 99 (.agg #[.int .i64 a, .int .i64 b, .int .i64 c, .int .i64 d]) (.agg #[.int .i64 a, .int .i64 b, .int .i64 c, .int .i64 d])).run Tryz.prog w = .ok (.bool false) w := by
  rw [run_neq_struct, run_equalIn_struct w 9999 99 _ _ (by kernel_rfl) (by kernel_rfl)]
  simp only [Program.fieldsOf, Tryz.underlying99]
  simp [Op.eqFields, go_sem]
theorem part_px (w : World) (a b c : Value) : (part 90 #[a, b, c] 0).run Tryz.prog w = .ok (.agg #[a, b]) w := by kernel_rfl
theorem px_eq_t (a b : Int) (w : World) : (Op.equalIn 9998 90 (.agg #[.int .u32 a, .int .i64 b]) (.agg #[.int .u32 a, .int .i64 b])).run Tryz.prog w = .ok true w := by
  rw [run_equalIn_struct w 9997 90 _ _ (by kernel_rfl) (by kernel_rfl)]
  simp only [Program.fieldsOf, Tryz.underlying90]
  simp [Op.eqFields, go_sem]
theorem rt_neq_f (a b c : Int) (w : World) : (binOp .neq 92 (.agg #[.int .u32 a, .int .i64 b, .int .i64 c]) (.agg #[.int .u32 a, .int .i64 b, .int .i64 c])).run Tryz.prog w = .ok (.bool false) w := by
  rw [run_neq_struct, run_equalIn_struct w 9999 92 _ _ (by kernel_rfl) (by kernel_rfl)]
  simp only [Program.fieldsOf, Tryz.underlying92]
  have h1 := part_px w (.int .u32 a) (.int .i64 b) (.int .i64 c)
  have h2 := px_eq_t a b w
  simp [Op.eqFields, go_sem, h1, h2]
theorem eq_five (a b c d e : Int) (w : World) : (Op.equalIn 10000 35 (.agg #[.int .i64 a, .int .i64 b, .int .i64 c, .int .i64 d, .int .i64 e]) (.agg #[.int .i64 a, .int .i64 b, .int .i64 c, .int .i64 d, .int .i64 e])).run Tryz.prog w = .ok true w := by
  obtain ⟨i, hi⟩ := info_of_underlying (P := Tryz.prog) Tryz.underlying3
  rw [run_equalIn_array w 9999 _ _ Tryz.underlying35 hi, show Tryz.prog.cellsOf 3 = 1 by kernel_rfl]
  simp only [List.range_succ, List.range_zero, List.nil_append, List.cons_append, Op.eqItems, Sem.run_bind, Sem.run_ite, Sem.run_pure]
  have h0 := part_i w #[.int .i64 a, .int .i64 b, .int .i64 c, .int .i64 d, .int .i64 e] (0 * 1) (.int .i64 a) rfl
  have h1 := part_i w #[.int .i64 a, .int .i64 b, .int .i64 c, .int .i64 d, .int .i64 e] (1 * 1) (.int .i64 b) rfl
  have h2 := part_i w #[.int .i64 a, .int .i64 b, .int .i64 c, .int .i64 d, .int .i64 e] (2 * 1) (.int .i64 c) rfl
  have h3 := part_i w #[.int .i64 a, .int .i64 b, .int .i64 c, .int .i64 d, .int .i64 e] (3 * 1) (.int .i64 d) rfl
  have h4 := part_i w #[.int .i64 a, .int .i64 b, .int .i64 c, .int .i64 d, .int .i64 e] (4 * 1) (.int .i64 e) rfl
  simp only [h0, h1, h2, h3, h4, Nat.zero_add, Nat.reduceAdd, Result.andThen_ok, eq_i, beq_self_eq_true, if_true, Bool.not_true, Bool.false_eq_true, if_false]

theorem Rd.flat {α : Type} {w : World} {A : Option Addr} {l : List α} {f : α → List Value} {k : Nat} (n : Nat) (hn : ∀ x, (f x).length = n) (h : Rd w A (l.flatMap f)) (hpos : 0 < n) (hk : k < l.length) : ∃ b o, A = some ⟨b, o, none⟩ ∧ ∀ j u, (f l[k])[j]? = some u → w.cell? ⟨b, o + k * n + j, none⟩ = some u := by
  have hfl : ∀ (l : List α) (k : Nat) (hk : k < l.length) (j : Nat) (u : Value), (f l[k])[j]? = some u → (l.flatMap f)[k * n + j]? = some u := by
    intro l
    induction l with
    | nil => intro k hk; simp at hk
    | cons x r ih =>
      intro k hk j u hu
      rw [List.flatMap_cons]
      cases k with
      | zero =>
        have hj : j < (f x).length := (List.getElem?_eq_some_iff.1 hu).1
        rw [Nat.zero_mul, Nat.zero_add, List.getElem?_append_left hj]
        exact hu
      | succ k =>
        rw [List.getElem?_append_right (by rw [hn, Nat.succ_mul]; omega), hn, show (k + 1) * n + j - n = k * n + j by rw [Nat.succ_mul]; omega]
        exact ih k (by simpa using hk) j u hu
  have hne : l.flatMap f ≠ [] := by
    intro e
    obtain ⟨u, h0⟩ : ∃ u, (f l[k])[0]? = some u := ⟨(f l[k])[0]'(by rw [hn]; exact hpos), List.getElem?_eq_getElem _⟩
    have := hfl l k hk 0 _ h0
    rw [e] at this
    cases this
  rcases h with h | ⟨b, o, hA, hc⟩
  · exact absurd h hne
  · exact ⟨b, o, hA, fun j u hu => by rw [Nat.add_assoc]; exact hc _ _ (hfl l k hk j u hu)⟩

/-- How the rows of a configuration lie in memory. -/
structure CAt (W : World) (r : Rws) (c : Cf) : Prop where
  n : Rd W r.aN (c.names.map strW)
  l : Rd W r.aL (c.lnames.map strW)
  k : RdL W r.aK c.links
  o : Rd W r.aO (c.ov.map Value.bool)
  p : Rd W r.aP (c.pfx.flatMap pfV)
  q : Rd W r.aQ ((c.pols.zip r.ls).flatMap plV)
  s : ∀ x ∈ c.pols.zip r.ls, Rd W x.2.1 (x.1.2.2.flatMap sgV) ∧ x.1.2.2.length ≤ maxLen
  d : Rd W r.aD (c.dems.flatMap dmV)
  ll : r.ls.length = c.pols.length
theorem CAt.below {W W' : World} {r : Rws} {c : Cf} (h : CAt W r c) (hb : Below W.heap.size W W') : CAt W' r c := ⟨h.n.below hb, h.l.below hb, h.k.below hb, h.o.below hb, h.p.below hb, h.q.below hb, fun x hx => ⟨(h.s x hx).1.below hb, (h.s x hx).2⟩, h.d.below hb, h.ll⟩
/-- The cells of a configuration. -/
def cfCells (n : Int) (r : Rws) (c : Cf) : Array Value := #[.slice r.aN c.names.length r.cN, .slice r.aL c.lnames.length r.cL, .int .i64 n, .slice r.aO c.ov.length r.cO, .slice r.aK c.links.length r.cK, .slice r.aP c.pfx.length r.cP, .slice r.aQ c.pols.length r.cQ, .slice r.aD c.dems.length r.cD,
  .int .i64 (c.tm.getD 0 0), .int .i64 (c.tm.getD 1 0), .int .i64 (c.tm.getD 2 0), .int .i64 (c.tm.getD 3 0), .int .i64 (c.tm.getD 4 0)]
/-- Two boxed configurations of equal contents, in a later world. -/
structure KB (w : World) (n : Int) (r r' : Rws) (c : Cf) (W : World) : Prop where
  b1 : W.heap[w.heap.size]? = some (.cells (cfCells n r c) 56 (0, 0))
  b2 : W.heap[w.heap.size + 1]? = some (.cells (cfCells n r' c) 56 (0, 0))
  c1 : CAt W r c
  c2 : CAt W r' c
  hb : Below w.heap.size w W
theorem KB.up {w : World} {n : Int} {r r' : Rws} {c : Cf} {W W' : World} (h : KB w n r r' c W) (hb : Below W.heap.size W W') : KB w n r r' c W' :=
  ⟨(hb.block _ (lt_of_heap h.b1)).trans h.b1, (hb.block _ (lt_of_heap h.b2)).trans h.b2, h.c1.below hb, h.c2.below hb, below_next h.hb hb⟩
theorem KB.p {w : World} {n : Int} {r r' : Rws} {c : Cf} {W : World} (h : KB w n r r' c W) (j : Nat) : W.cell? ⟨w.heap.size, j, none⟩ = (cfCells n r c)[j]? := Lib.cell_of_heap h.b1 j
theorem KB.q {w : World} {n : Int} {r r' : Rws} {c : Cf} {W : World} (h : KB w n r r' c W) (j : Nat) : W.cell? ⟨w.heap.size + 1, j, none⟩ = (cfCells n r' c)[j]? := Lib.cell_of_heap h.b2 j

set_option maxHeartbeats 2000000 in
set_option maxRecDepth 100000 in
theorem ref15_same (ps : List (List UInt8)) (hp : ps.length ≤ 100000) (A B : Option Addr) (c d : Nat) (w : World) (hA : Rd w A (ps.map strW)) (hB : Rd w B (ps.map strW)) :
    Calls Tryz.prog 32 #[.slice A ps.length c, .slice B ps.length d] w fun e w' => e = .returned (.bool true) ∧ Below w.heap.size w w' := by
  have HA := Lib.hid hA
  have HB := Lib.hid hB
  have HBW := Below.refl w.heap.size w
  clear hA hB
  go_enter Tryz.func32, Tryz.ntmps32
  go_wp2_with fail
  go_loopw [5] (fun i wr => ∃ k : Nat, k ≤ ps.length ∧ i = .int .i64 k ∧ Below w.heap.size w wr) (fun i _ => ps.length - (intOf i).toNat)
  case atStart => exact ⟨0, Nat.zero_le _, rfl, HBW⟩
  case round =>
    clear HBW
    obtain ⟨k, hk, rfl, HBW⟩ := hrel
    by_cases hlt : k < ps.length
    · obtain ⟨b, o, rfl, h1⟩ := (HA.out.below HBW).at_ (k := k) (u := strW ps[k]) (by simp [List.getElem?_eq_getElem hlt])
      obtain ⟨b', o', rfl, h2⟩ := (HB.out.below HBW).at_ (k := k) (u := strW ps[k]) (by simp [List.getElem?_eq_getElem hlt])
      unfold strW at h1 h2
      generalize (⟨ps[k].toArray⟩ : ByteArray) = s at h1 h2
      have hs : (s.toList == s.toList) = true := by simp
      have hs2 : (s.toList != s.toList) = false := by simp
      go_wp2_with fail
      have kq_h1 := cell_regrown h1
      have kq_h2 := cell_regrown h2
      refine wp_region_quiet_below (by kernel_rfl) (by kernel_rfl) ?_
      repeat (go_big_quiet_step (fail))
      refine wpQuiet_nil ?_
      intro w2 hb2
      replace hb2 := below_of_regrown hb2
      clear kq_h1 kq_h2
      replace h1 := cell_up hb2 h1
      replace h2 := cell_up hb2 h2
      replace HBW := below_next HBW hb2
      go_wp2_with fail
      go_roundw
      case rel => exact ⟨k + 1, by omega, by go_num, HBW⟩
      case measure => simp [intOf]; omega
    · have hle : decide ((k : Int) < (ps.length : Int)) = false := by simp; omega
      go_wp2_with fail
      go_ret
      exact ⟨rfl, HBW⟩

structure SLim (c : Cf) : Prop where
  n : c.names.length ≤ 100000
  l : c.lnames.length ≤ 100000
  k : c.links.length ≤ 100000
  o : c.ov.length ≤ 100000
  p : c.pfx.length ≤ 100000
  q : c.pols.length ≤ 100000
  d : c.dems.length ≤ 100000
set_option maxHeartbeats 4000000 in
set_option maxRecDepth 100000 in
theorem ref15_Same_eq (n : Int) (r r' : Rws) (c : Cf) (hl : SLim c) (w : World) (h1 : CAt w r c) (h2 : CAt w r' c) :
    Calls Tryz.prog 17 #[.agg (cfCells n r c), .agg (cfCells n r' c)] w fun e w' => e = .returned (.bool true) ∧ Below w.heap.size w w' := by
  have HB0 : Below w.heap.size w ((w.alloc (.cells (cfCells n r c) 56)).alloc (.cells (cfCells n r' c) 56)) := below_next (below_box w _) (below_box _ _)
  have HK : Hid (KB w n r r' c ((w.alloc (.cells (cfCells n r c) 56)).alloc (.cells (cfCells n r' c) 56))) := Lib.hid ⟨by rw [Lib.alloc_old _ _ _ (by simp)]; exact heap_alloc_new _ _, by have := heap_alloc_new (w.alloc (.cells (cfCells n r c) 56)) (.cells (cfCells n r' c) 56); simpa using this, h1.below HB0, h2.below HB0, HB0⟩
  have HS1 : Hid (∀ W, KB w n r r' c W → Calls Tryz.prog 32 #[.slice r.aN c.names.length r.cN, .slice r'.aN c.names.length r'.cN] W fun e W' => e = .returned (.bool true) ∧ KB w n r r' c W') := Lib.hid fun W h => (ref15_same _ hl.n _ _ _ _ W h.c1.n h.c2.n).mono fun e W' hh => ⟨hh.1, h.up hh.2⟩
  have HS2 : Hid (∀ W, KB w n r r' c W → Calls Tryz.prog 32 #[.slice r.aL c.lnames.length r.cL, .slice r'.aL c.lnames.length r'.cL] W fun e W' => e = .returned (.bool true) ∧ KB w n r r' c W') := Lib.hid fun W h => (ref15_same _ hl.l _ _ _ _ W h.c1.l h.c2.l).mono fun e W' hh => ⟨hh.1, h.up hh.2⟩
  have HS3 : Hid (∀ W, KB w n r r' c W → Calls Tryz.prog 33 #[.agg #[.int .i64 n, .slice r.aO c.ov.length r.cO, .slice r.aK c.links.length r.cK], .agg #[.int .i64 n, .slice r'.aO c.ov.length r'.cO, .slice r'.aK c.links.length r'.cK]] W fun e W' => e = .returned (.bool true) ∧ KB w n r r' c W') := Lib.hid fun W h => (ref09_Same ⟨n, c.ov, c.links⟩ ⟨n, c.ov, c.links⟩ _ _ _ _ _ _ _ _ W ⟨h.c1.o, h.c1.k⟩ ⟨h.c2.o, h.c2.k⟩ (by have := hl.o; show c.ov.length ≤ _; omega) (by have := hl.o; show c.ov.length ≤ _; omega) (by have := hl.k; show c.links.length ≤ _; omega)).mono fun e W' hh => ⟨by rw [hh.1, same_refl], h.up hh.2⟩
  have HL := Lib.hid hl
  have htm := eq_five (c.tm[0]?.getD 0) (c.tm[1]?.getD 0) (c.tm[2]?.getD 0) (c.tm[3]?.getD 0) (c.tm[4]?.getD 0)
  clear h1 h2 hl HB0
  have p0 : ((w.alloc (.cells (cfCells n r c) 56)).alloc (.cells (cfCells n r' c) 56)).cell? ⟨w.heap.size, 0, none⟩ = some (.slice r.aN c.names.length r.cN) := (HK.out).p 0
  have q0 : ((w.alloc (.cells (cfCells n r c) 56)).alloc (.cells (cfCells n r' c) 56)).cell? ⟨w.heap.size + 1, 0, none⟩ = some (.slice r'.aN c.names.length r'.cN) := (HK.out).q 0
  go_enter Tryz.func17, Tryz.ntmps17
  go_wp2_with (first | (go_at_call 32; (with_reducible refine (HS1.out _ HK.out).mono ?_); rintro e w1 ⟨rfl, hk⟩; replace HK := Lib.hid hk; have p1 : (w1).cell? ⟨w.heap.size, 1, none⟩ = some (.slice r.aL c.lnames.length r.cL) := (hk).p 1; have q1 : (w1).cell? ⟨w.heap.size + 1, 1, none⟩ = some (.slice r'.aL c.lnames.length r'.cL) := (hk).q 1; clear hk HS1 p0 q0) | (go_at_call 32; (with_reducible refine (HS2.out _ HK.out).mono ?_); rintro e w2 ⟨rfl, hk⟩; replace HK := Lib.hid hk; have p2 : (w2).cell? ⟨w.heap.size, 2, none⟩ = some (.int .i64 n) := (hk).p 2; have q2 : (w2).cell? ⟨w.heap.size + 1, 2, none⟩ = some (.int .i64 n) := (hk).q 2; have p3 : (w2).cell? ⟨w.heap.size, 3, none⟩ = some (.slice r.aO c.ov.length r.cO) := (hk).p 3; have q3 : (w2).cell? ⟨w.heap.size + 1, 3, none⟩ = some (.slice r'.aO c.ov.length r'.cO) := (hk).q 3; have p4 : (w2).cell? ⟨w.heap.size, 4, none⟩ = some (.slice r.aK c.links.length r.cK) := (hk).p 4; have q4 : (w2).cell? ⟨w.heap.size + 1, 4, none⟩ = some (.slice r'.aK c.links.length r'.cK) := (hk).q 4; clear hk HS2 p1 q1) | (go_at_call 33; (with_reducible refine (HS3.out _ HK.out).mono ?_); rintro e w3 ⟨rfl, hk⟩; replace HK := Lib.hid hk; have p8 : (w3).cell? ⟨w.heap.size, 8, none⟩ = some (.int .i64 (c.tm.getD 0 0)) := (hk).p 8; have q8 : (w3).cell? ⟨w.heap.size + 1, 8, none⟩ = some (.int .i64 (c.tm.getD 0 0)) := (hk).q 8; have p9 : (w3).cell? ⟨w.heap.size, 9, none⟩ = some (.int .i64 (c.tm.getD 1 0)) := (hk).p 9; have q9 : (w3).cell? ⟨w.heap.size + 1, 9, none⟩ = some (.int .i64 (c.tm.getD 1 0)) := (hk).q 9; have p10 : (w3).cell? ⟨w.heap.size, 10, none⟩ = some (.int .i64 (c.tm.getD 2 0)) := (hk).p 10; have q10 : (w3).cell? ⟨w.heap.size + 1, 10, none⟩ = some (.int .i64 (c.tm.getD 2 0)) := (hk).q 10; have p11 : (w3).cell? ⟨w.heap.size, 11, none⟩ = some (.int .i64 (c.tm.getD 3 0)) := (hk).p 11; have q11 : (w3).cell? ⟨w.heap.size + 1, 11, none⟩ = some (.int .i64 (c.tm.getD 3 0)) := (hk).q 11; have p12 : (w3).cell? ⟨w.heap.size, 12, none⟩ = some (.int .i64 (c.tm.getD 4 0)) := (hk).p 12; have q12 : (w3).cell? ⟨w.heap.size + 1, 12, none⟩ = some (.int .i64 (c.tm.getD 4 0)) := (hk).q 12; have p5 : (w3).cell? ⟨w.heap.size, 5, none⟩ = some (.slice r.aP c.pfx.length r.cP) := (hk).p 5; have q5 : (w3).cell? ⟨w.heap.size + 1, 5, none⟩ = some (.slice r'.aP c.pfx.length r'.cP) := (hk).q 5; have p6 : (w3).cell? ⟨w.heap.size, 6, none⟩ = some (.slice r.aQ c.pols.length r.cQ) := (hk).p 6; have q6 : (w3).cell? ⟨w.heap.size + 1, 6, none⟩ = some (.slice r'.aQ c.pols.length r'.cQ) := (hk).q 6; have p7 : (w3).cell? ⟨w.heap.size, 7, none⟩ = some (.slice r.aD c.dems.length r.cD) := (hk).p 7; have q7 : (w3).cell? ⟨w.heap.size + 1, 7, none⟩ = some (.slice r'.aD c.dems.length r'.cD) := (hk).q 7; clear hk HS3 p2 q2 p3 q3 p4 q4))
  clear p8 q8 p9 q9 p10 q10 p11 q11 p12 q12 htm
  go_loopw [5] (fun i wr => ∃ k : Nat, k ≤ c.pfx.length ∧ i = .int .i64 k ∧ Hid (KB w n r r' c wr)) (fun i _ => c.pfx.length - (intOf i).toNat)
  case atStart => exact ⟨0, Nat.zero_le _, rfl, HK⟩
  case round =>
    clear HK p5 q5 p6 q6 p7 q7
    obtain ⟨k, hk, rfl, HK⟩ := hrel
    have hle := HL.out.p
    by_cases hlt : k < c.pfx.length
    · have p5 : (wr).cell? ⟨w.heap.size, 5, none⟩ = some (.slice r.aP c.pfx.length r.cP) := (HK.out).p 5
      have q5 : (wr).cell? ⟨w.heap.size + 1, 5, none⟩ = some (.slice r'.aP c.pfx.length r'.cP) := (HK.out).q 5
      obtain ⟨b, o, hA, hc⟩ := HK.out.c1.p.flat 3 (fun _ => rfl) (by decide) hlt
      obtain ⟨b', o', hA', hc'⟩ := HK.out.c2.p.flat 3 (fun _ => rfl) (by decide) hlt
      rw [hA] at p5; rw [hA'] at q5
      generalize c.pfx[k] = x at hc hc'
      obtain ⟨x0, x1, x2⟩ := x
      have d0 : wr.cell? ⟨b, o + k * 3, none⟩ = some (.int .u32 x0) := hc 0 _ rfl
      have e0 : wr.cell? ⟨b', o' + k * 3, none⟩ = some (.int .u32 x0) := hc' 0 _ rfl
      have d1 : wr.cell? ⟨b, o + k * 3 + 1, none⟩ = some (.int .i64 x1) := hc 1 _ rfl
      have e1 : wr.cell? ⟨b', o' + k * 3 + 1, none⟩ = some (.int .i64 x1) := hc' 1 _ rfl
      have d2 : wr.cell? ⟨b, o + k * 3 + 2, none⟩ = some (.int .i64 x2) := hc 2 _ rfl
      have e2 : wr.cell? ⟨b', o' + k * 3 + 2, none⟩ = some (.int .i64 x2) := hc' 2 _ rfl
      clear hc hc' hA hA'
      have hz := rt_neq_f x0 x1 x2
      go_wp2_with fail
      have kq_p5 := cell_regrown p5
      have kq_q5 := cell_regrown q5
      have kq_d0 := cell_regrown d0
      have kq_d1 := cell_regrown d1
      have kq_d2 := cell_regrown d2
      have kq_e0 := cell_regrown e0
      have kq_e1 := cell_regrown e1
      have kq_e2 := cell_regrown e2
      refine wp_region_quiet_below (by kernel_rfl) (by kernel_rfl) ?_
      repeat (go_big_quiet_step (fail))
      refine wpQuiet_nil ?_
      intro w4 hb4
      replace hb4 := below_of_regrown hb4
      clear kq_p5 kq_q5 kq_d0 kq_d1 kq_d2 kq_e0 kq_e1 kq_e2
      replace p5 := cell_up hb4 p5
      replace q5 := cell_up hb4 q5
      replace d0 := cell_up hb4 d0
      replace d1 := cell_up hb4 d1
      replace d2 := cell_up hb4 d2
      replace e0 := cell_up hb4 e0
      replace e1 := cell_up hb4 e1
      replace e2 := cell_up hb4 e2
      replace HK := Lib.hid (HK.out.up hb4)
      clear hb4
      go_wp2_with fail
      go_roundw
      case rel => exact ⟨k + 1, by omega, by go_num, HK⟩
      case measure => simp [intOf]; omega
    · have p5 : (wr).cell? ⟨w.heap.size, 5, none⟩ = some (.slice r.aP c.pfx.length r.cP) := (HK.out).p 5
      have q5 : (wr).cell? ⟨w.heap.size + 1, 5, none⟩ = some (.slice r'.aP c.pfx.length r'.cP) := (HK.out).q 5
      have p6 : (wr).cell? ⟨w.heap.size, 6, none⟩ = some (.slice r.aQ c.pols.length r.cQ) := (HK.out).p 6
      have q6 : (wr).cell? ⟨w.heap.size + 1, 6, none⟩ = some (.slice r'.aQ c.pols.length r'.cQ) := (HK.out).q 6
      have p7 : (wr).cell? ⟨w.heap.size, 7, none⟩ = some (.slice r.aD c.dems.length r.cD) := (HK.out).p 7
      have q7 : (wr).cell? ⟨w.heap.size + 1, 7, none⟩ = some (.slice r'.aD c.dems.length r'.cD) := (HK.out).q 7
      have hlf : decide ((k : Int) < (c.pfx.length : Int)) = false := by simp; omega
      go_wp2_with fail
      clear hlf hlt hk hle
      go_loopw [6] (fun i wr => ∃ k : Nat, k ≤ c.pols.length ∧ i = .int .i64 k ∧ Hid (KB w n r r' c wr)) (fun i _ => c.pols.length - (intOf i).toNat)
      case atStart => exact ⟨0, Nat.zero_le _, rfl, HK⟩
      case round =>
        clear HK p5 q5 p6 q6 p7 q7
        obtain ⟨k, hk, rfl, HK⟩ := hrel
        have hle := HL.out.q
        by_cases hlt : k < c.pols.length
        · have p6 : (wr).cell? ⟨w.heap.size, 6, none⟩ = some (.slice r.aQ c.pols.length r.cQ) := (HK.out).p 6
          have q6 : (wr).cell? ⟨w.heap.size + 1, 6, none⟩ = some (.slice r'.aQ c.pols.length r'.cQ) := (HK.out).q 6
          have hz1 : k < (c.pols.zip r.ls).length := by rw [List.length_zip, HK.out.c1.ll]; omega
          have hz2 : k < (c.pols.zip r'.ls).length := by rw [List.length_zip, HK.out.c2.ll]; omega
          obtain ⟨b, o, hA, hc⟩ := HK.out.c1.q.flat 3 (fun _ => rfl) (by decide) hz1
          obtain ⟨b', o', hA', hc'⟩ := HK.out.c2.q.flat 3 (fun _ => rfl) (by decide) hz2
          have hs1 := HK.out.c1.s _ (List.getElem_mem hz1)
          have hs2 := HK.out.c2.s _ (List.getElem_mem hz2)
          simp only [List.getElem_zip] at hc hc' hs1 hs2
          rw [hA] at p6; rw [hA'] at q6
          have hlk1 : k < r.ls.length := by rw [HK.out.c1.ll]; exact hlt
          have hlk2 : k < r'.ls.length := by rw [HK.out.c2.ll]; exact hlt
          obtain ⟨x, hx⟩ : ∃ x, x = c.pols[k] := ⟨_, rfl⟩
          obtain ⟨y, hy⟩ : ∃ y, y = r.ls[k] := ⟨_, rfl⟩
          obtain ⟨z, hzz⟩ : ∃ z, z = r'.ls[k] := ⟨_, rfl⟩
          rw [← hx] at hc hc' hs1 hs2
          rw [← hy] at hc hs1
          rw [← hzz] at hc' hs2
          clear hx hy hzz hlk1 hlk2 hz1 hz2
          obtain ⟨x0, x1, l⟩ := x
          obtain ⟨A, ca⟩ := y
          obtain ⟨A2, ca2⟩ := z
          simp only at hs1 hs2
          have d0 : wr.cell? ⟨b, o + k * 3, none⟩ = some (.int .i64 x0) := hc 0 _ rfl
          have e0 : wr.cell? ⟨b', o' + k * 3, none⟩ = some (.int .i64 x0) := hc' 0 _ rfl
          have d1 : wr.cell? ⟨b, o + k * 3 + 1, none⟩ = some (.int .i64 x1) := hc 1 _ rfl
          have e1 : wr.cell? ⟨b', o' + k * 3 + 1, none⟩ = some (.int .i64 x1) := hc' 1 _ rfl
          have d2 : wr.cell? ⟨b, o + k * 3 + 2, none⟩ = some (.slice A l.length ca) := hc 2 _ rfl
          have e2 : wr.cell? ⟨b', o' + k * 3 + 2, none⟩ = some (.slice A2 l.length ca2) := hc' 2 _ rfl
          obtain ⟨g1, hlm⟩ := hs1
          unfold maxLen at hlm
          obtain ⟨g2, _⟩ := hs2
          have G1 := Lib.hid g1
          have G2 := Lib.hid g2
          clear hc hc' hA hA' g1 g2
          go_wp2_with fail
          refine wp_region_held_drew (S := (fun w9 => Below wr.heap.size wr w9)) (by kernel_rfl) ?_ (fun hHeld => ?_)
          · first | exact Below.refl _ _ | exact (Below.refl _ _).drew
          (refine takeL (i := 0) (v := ?_) rfl (by kernel_rfl) (by decide +kernel) (by decide +kernel) (fun _ _ _ h => h) (Or.inl ⟨by rfl, ?_⟩) (by assumption) ?_; rotate_left; (focus (intro w9 hS9; (try dsimp only at hS9); have p6 := cell_up hS9 p6; have q6 := cell_up hS9 q6; have d0 := cell_up hS9 d0; have d1 := cell_up hS9 d1; have d2 := cell_up hS9 d2; have e0 := cell_up hS9 e0; have e1 := cell_up hS9 e1; have e2 := cell_up hS9 e2; go_simp; (try with_reducible rfl); done)))
          (try simp only [Act.put, List.setIfInBounds_toArray, List.set_cons_zero, List.set_cons_succ])
          (refine takeL (i := 1) (v := ?_) rfl (by kernel_rfl) (by decide +kernel) (by decide +kernel) (fun _ _ _ h => h) (Or.inl ⟨by rfl, ?_⟩) (by assumption) ?_; rotate_left; (focus (intro w9 hS9; (try dsimp only at hS9); have p6 := cell_up hS9 p6; have q6 := cell_up hS9 q6; have d0 := cell_up hS9 d0; have d1 := cell_up hS9 d1; have d2 := cell_up hS9 d2; have e0 := cell_up hS9 e0; have e1 := cell_up hS9 e1; have e2 := cell_up hS9 e2; go_simp; (try with_reducible rfl); done)))
          (try simp only [Act.put, List.setIfInBounds_toArray, List.set_cons_zero, List.set_cons_succ])
          (refine takeL (i := 2) (v := ?_) rfl (by kernel_rfl) (by decide +kernel) (by decide +kernel) (fun _ _ _ h => h) (Or.inl ⟨by rfl, ?_⟩) (by assumption) ?_; rotate_left; (focus (intro w9 hS9; (try dsimp only at hS9); have p6 := cell_up hS9 p6; have q6 := cell_up hS9 q6; have d0 := cell_up hS9 d0; have d1 := cell_up hS9 d1; have d2 := cell_up hS9 d2; have e0 := cell_up hS9 e0; have e1 := cell_up hS9 e1; have e2 := cell_up hS9 e2; go_simp; (try with_reducible rfl); done)))
          (try simp only [Act.put, List.setIfInBounds_toArray, List.set_cons_zero, List.set_cons_succ])
          (refine takeL (i := 3) (v := ?_) rfl (by kernel_rfl) (by decide +kernel) (by decide +kernel) (fun _ _ _ h => h) (Or.inl ⟨by rfl, ?_⟩) (by assumption) ?_; rotate_left; (focus (intro w9 hS9; (try dsimp only at hS9); have p6 := cell_up hS9 p6; have q6 := cell_up hS9 q6; have d0 := cell_up hS9 d0; have d1 := cell_up hS9 d1; have d2 := cell_up hS9 d2; have e0 := cell_up hS9 e0; have e1 := cell_up hS9 e1; have e2 := cell_up hS9 e2; go_simp; (try with_reducible rfl); done)))
          (try simp only [Act.put, List.setIfInBounds_toArray, List.set_cons_zero, List.set_cons_succ])
          (refine takeL (i := 4) (v := ?_) rfl (by kernel_rfl) (by decide +kernel) (by decide +kernel) (fun _ _ _ h => h) (Or.inl ⟨by rfl, ?_⟩) (by assumption) ?_; rotate_left; (focus (intro w9 hS9; (try dsimp only at hS9); have p6 := cell_up hS9 p6; have q6 := cell_up hS9 q6; have d0 := cell_up hS9 d0; have d1 := cell_up hS9 d1; have d2 := cell_up hS9 d2; have e0 := cell_up hS9 e0; have e1 := cell_up hS9 e1; have e2 := cell_up hS9 e2; go_simp; (try with_reducible rfl); done)))
          (try simp only [Act.put, List.setIfInBounds_toArray, List.set_cons_zero, List.set_cons_succ])
          (refine takeL (i := 5) (v := ?_) rfl (by kernel_rfl) (by decide +kernel) (by decide +kernel) (fun _ _ _ h => h) (Or.inl ⟨by rfl, ?_⟩) (by assumption) ?_; rotate_left; (focus (intro w9 hS9; (try dsimp only at hS9); have p6 := cell_up hS9 p6; have q6 := cell_up hS9 q6; have d0 := cell_up hS9 d0; have d1 := cell_up hS9 d1; have d2 := cell_up hS9 d2; have e0 := cell_up hS9 e0; have e1 := cell_up hS9 e1; have e2 := cell_up hS9 e2; go_simp; (try with_reducible rfl); done)))
          (try simp only [Act.put, List.setIfInBounds_toArray, List.set_cons_zero, List.set_cons_succ])
          (refine takeL (i := 6) (v := ?_) rfl (by kernel_rfl) (by decide +kernel) (by decide +kernel) (fun _ _ _ h => h) (Or.inl ⟨by rfl, ?_⟩) (by assumption) ?_; rotate_left; (focus (intro w9 hS9; (try dsimp only at hS9); have p6 := cell_up hS9 p6; have q6 := cell_up hS9 q6; have d0 := cell_up hS9 d0; have d1 := cell_up hS9 d1; have d2 := cell_up hS9 d2; have e0 := cell_up hS9 e0; have e1 := cell_up hS9 e1; have e2 := cell_up hS9 e2; go_simp; (try with_reducible rfl); done)))
          (try simp only [Act.put, List.setIfInBounds_toArray, List.set_cons_zero, List.set_cons_succ])
          (refine takeL (i := 7) (v := ?_) rfl (by kernel_rfl) (by decide +kernel) (by decide +kernel) (fun _ _ _ h => h) (Or.inl ⟨by rfl, ?_⟩) (by assumption) ?_; rotate_left; (focus (intro w9 hS9; (try dsimp only at hS9); have p6 := cell_up hS9 p6; have q6 := cell_up hS9 q6; have d0 := cell_up hS9 d0; have d1 := cell_up hS9 d1; have d2 := cell_up hS9 d2; have e0 := cell_up hS9 e0; have e1 := cell_up hS9 e1; have e2 := cell_up hS9 e2; go_simp; (try with_reducible rfl); done)))
          (try simp only [Act.put, List.setIfInBounds_toArray, List.set_cons_zero, List.set_cons_succ])
          (refine takeL (i := 8) (v := ?_) rfl (by kernel_rfl) (by decide +kernel) (by decide +kernel) (fun _ _ _ h => h) (Or.inl ⟨by rfl, ?_⟩) (by assumption) ?_; rotate_left; (focus (intro w9 hS9; (try dsimp only at hS9); have p6 := cell_up hS9 p6; have q6 := cell_up hS9 q6; have d0 := cell_up hS9 d0; have d1 := cell_up hS9 d1; have d2 := cell_up hS9 d2; have e0 := cell_up hS9 e0; have e1 := cell_up hS9 e1; have e2 := cell_up hS9 e2; go_simp; (try with_reducible rfl); done)))
          (try simp only [Act.put, List.setIfInBounds_toArray, List.set_cons_zero, List.set_cons_succ])
          (refine takeL (i := 9) (v := ?_) rfl (by kernel_rfl) (by decide +kernel) (by decide +kernel) (fun _ _ _ h => h) (Or.inl ⟨by rfl, ?_⟩) (by assumption) ?_; rotate_left; (focus (intro w9 hS9; (try dsimp only at hS9); have p6 := cell_up hS9 p6; have q6 := cell_up hS9 q6; have d0 := cell_up hS9 d0; have d1 := cell_up hS9 d1; have d2 := cell_up hS9 d2; have e0 := cell_up hS9 e0; have e1 := cell_up hS9 e1; have e2 := cell_up hS9 e2; go_simp; (try with_reducible rfl); done)))
          (try simp only [Act.put, List.setIfInBounds_toArray, List.set_cons_zero, List.set_cons_succ])
          refine wpAnyH_ready (rs := [10, 11]) (by decide +kernel) (by simp) ?_
          refine consL rfl (fun K hK => ?_) ?_
          · (first | fail | (go_simp; first | done | (first | fail)) | go_simp)
            (first | (with_reducible refine hK.out _ _ ?_ ?_) | (go_wp2_with fail; refine hK.out _ _ ?_ ?_))
            (focus (exact below_next hHeld (below_box _ _)))
            clear hK K hHeld
            intro hHeld
            (try simp only [Act.put, List.setIfInBounds_toArray, List.set_cons_zero, List.set_cons_succ])
            refine wpAnyH_ready (rs := [11]) (by decide +kernel) (by simp) ?_
            refine consL rfl (fun K hK => ?_) ?_
            · (first | fail | (go_simp; first | done | (first | fail)) | go_simp)
              (first | (with_reducible refine hK.out _ _ ?_ ?_) | (go_wp2_with fail; refine hK.out _ _ ?_ ?_))
              (focus (exact below_next hHeld (below_box _ _)))
              clear hK K hHeld
              intro hHeld
              (try simp only [Act.put, List.setIfInBounds_toArray, List.set_cons_zero, List.set_cons_succ])
              refine wpAnyH_ready (rs := [12]) (by decide +kernel) (by simp) ?_
              refine consL rfl (fun K hK => ?_) ?_
              · (first | fail | (go_simp; first | done | (first | fail)) | go_simp)
                (first | (with_reducible refine hK.out _ _ ?_ ?_) | (go_wp2_with fail; refine hK.out _ _ ?_ ?_))
                (focus (exact below_next (below_next (below_box wr _) (below_box _ _)) (below_drw2 _)))
                clear hK K hHeld
                intro hHeld
                (try simp only [Act.put, List.setIfInBounds_toArray, List.set_cons_zero, List.set_cons_succ])
                refine wpAnyH_ready (rs := [13]) (by decide +kernel) (by simp) ?_
                refine consL rfl (fun K hK => ?_) ?_
                · (first | fail | (go_simp; first | done | (first | fail)) | go_simp)
                  (first | (with_reducible refine hK.out _ _ ?_ ?_) | (go_wp2_with fail; refine hK.out _ _ ?_ ?_))
                  (focus (exact below_next (below_next (below_box wr _) (below_box _ _)) (below_drw2 _)))
                  clear hK K hHeld
                  intro hHeld
                  (try simp only [Act.put, List.setIfInBounds_toArray, List.set_cons_zero, List.set_cons_succ])
                  refine wpAnyH_done (by decide +kernel) ?_ _
                  obtain ⟨W5, hW5⟩ : ∃ W, W = ((wr.alloc (.cells #[.int .i64 x0, .int .i64 x1, .slice A l.length ca] 95)).alloc (.cells #[.int .i64 x0, .int .i64 x1, .slice A2 l.length ca2] 95)).drew := ⟨_, rfl⟩
                  rw [← hW5] at hHeld ⊢
                  have HK5 := Lib.hid (HK.out.up hHeld)
                  have f0 : W5.cell? ⟨wr.heap.size, 0, none⟩ = some (.int .i64 x0) := by rw [hW5]; simp
                  have f1 : W5.cell? ⟨wr.heap.size, 1, none⟩ = some (.int .i64 x1) := by rw [hW5]; simp
                  have f2 : W5.cell? ⟨wr.heap.size, 2, none⟩ = some (.slice A l.length ca) := by rw [hW5]; simp
                  have g0 : W5.cell? ⟨wr.heap.size + 1, 0, none⟩ = some (.int .i64 x0) := by rw [hW5]; simp
                  have g1 : W5.cell? ⟨wr.heap.size + 1, 1, none⟩ = some (.int .i64 x1) := by rw [hW5]; simp
                  have g2 : W5.cell? ⟨wr.heap.size + 1, 2, none⟩ = some (.slice A2 l.length ca2) := by rw [hW5]; simp
                  have G3 := Lib.hid (G1.out.below hHeld)
                  have G4 := Lib.hid (G2.out.below hHeld)
                  clear hW5 hHeld HK G1 G2 p6 q6 d0 d1 d2 e0 e1 e2
                  generalize wr.heap.size = gw at *
                  go_wp2_with fail
                  go_loopw [9] (fun i wx => ∃ j : Nat, j ≤ l.length ∧ i = .int .i64 j ∧ Hid (Below W5.heap.size W5 wx)) (fun i _ => l.length - (intOf i).toNat)
                  case atStart => exact ⟨0, Nat.zero_le _, rfl, Lib.hid (Below.refl _ _)⟩
                  case round =>
                    obtain ⟨j, hj, rfl, HBJ⟩ := hrel
                    replace f2 := cell_up HBJ.out f2
                    replace g2 := cell_up HBJ.out g2
                    clear f0 f1 g0 g1
                    by_cases hlj : j < l.length
                    · obtain ⟨b, o, hA, hc⟩ := (G3.out.below HBJ.out).flat 2 (fun _ => rfl) (by decide) hlj
                      obtain ⟨b', o', hA', hc'⟩ := (G4.out.below HBJ.out).flat 2 (fun _ => rfl) (by decide) hlj
                      rw [hA] at f2; rw [hA'] at g2
                      generalize l[j] = y at hc hc'
                      obtain ⟨y0, y1⟩ := y
                      have d0 := hc 0 _ rfl
                      have d1 := hc 1 _ rfl
                      have e0 := hc' 0 _ rfl
                      have e1 := hc' 1 _ rfl
                      simp only [Nat.add_zero] at d0 e0
                      clear hc hc' hA hA'
                      have hz := sg_neq_f y0 y1
                      go_wp2_with fail
                      have kq_f2 := cell_regrown f2
                      have kq_g2 := cell_regrown g2
                      have kq_d0 := cell_regrown d0
                      have kq_d1 := cell_regrown d1
                      have kq_e0 := cell_regrown e0
                      have kq_e1 := cell_regrown e1
                      refine wp_region_quiet_below (by kernel_rfl) (by kernel_rfl) ?_
                      repeat (go_big_quiet_step (fail))
                      refine wpQuiet_nil ?_
                      intro w6 hb6
                      replace hb6 := below_of_regrown hb6
                      clear kq_f2 kq_g2 kq_d0 kq_d1 kq_e0 kq_e1
                      replace f2 := cell_up hb6 f2
                      replace g2 := cell_up hb6 g2
                      replace d0 := cell_up hb6 d0
                      replace d1 := cell_up hb6 d1
                      replace e0 := cell_up hb6 e0
                      replace e1 := cell_up hb6 e1
                      replace HBJ := Lib.hid (below_next HBJ.out hb6)
                      clear hb6
                      go_wp2_with fail
                      go_roundw
                      case rel => exact ⟨j + 1, by omega, by go_num, HBJ⟩
                      case measure => simp [intOf]; omega
                    · have hlf2 : decide ((j : Int) < (l.length : Int)) = false := by simp; omega
                      go_wp2_with fail
                      go_roundw
                      case rel => exact ⟨k + 1, by omega, by go_num, Lib.hid (HK5.out.up HBJ.out)⟩
                      case measure => simp [intOf]; omega
                exact AllReadyH.nil
              exact AllReadyH.nil
            exact AllReadyH.nil
          refine consL rfl (fun K hK => ?_) ?_
          · (first | fail | (go_simp; first | done | (first | fail)) | go_simp)
            (first | (with_reducible refine hK.out _ _ ?_ ?_) | (go_wp2_with fail; refine hK.out _ _ ?_ ?_))
            (focus (exact below_next hHeld (below_box _ _)))
            clear hK K hHeld
            intro hHeld
            (try simp only [Act.put, List.setIfInBounds_toArray, List.set_cons_zero, List.set_cons_succ])
            refine wpAnyH_ready (rs := [10]) (by decide +kernel) (by simp) ?_
            refine consL rfl (fun K hK => ?_) ?_
            · (first | fail | (go_simp; first | done | (first | fail)) | go_simp)
              (first | (with_reducible refine hK.out _ _ ?_ ?_) | (go_wp2_with fail; refine hK.out _ _ ?_ ?_))
              (focus (exact below_next hHeld (below_box _ _)))
              clear hK K hHeld
              intro hHeld
              (try simp only [Act.put, List.setIfInBounds_toArray, List.set_cons_zero, List.set_cons_succ])
              refine wpAnyH_ready (rs := [12]) (by decide +kernel) (by simp) ?_
              refine consL rfl (fun K hK => ?_) ?_
              · (first | fail | (go_simp; first | done | (first | fail)) | go_simp)
                (first | (with_reducible refine hK.out _ _ ?_ ?_) | (go_wp2_with fail; refine hK.out _ _ ?_ ?_))
                (focus (exact below_next (below_next (below_box wr _) (below_box _ _)) (below_drw2 _)))
                clear hK K hHeld
                intro hHeld
                (try simp only [Act.put, List.setIfInBounds_toArray, List.set_cons_zero, List.set_cons_succ])
                refine wpAnyH_ready (rs := [13]) (by decide +kernel) (by simp) ?_
                refine consL rfl (fun K hK => ?_) ?_
                · (first | fail | (go_simp; first | done | (first | fail)) | go_simp)
                  (first | (with_reducible refine hK.out _ _ ?_ ?_) | (go_wp2_with fail; refine hK.out _ _ ?_ ?_))
                  (focus (exact below_next (below_next (below_box wr _) (below_box _ _)) (below_drw2 _)))
                  clear hK K hHeld
                  intro hHeld
                  (try simp only [Act.put, List.setIfInBounds_toArray, List.set_cons_zero, List.set_cons_succ])
                  refine wpAnyH_done (by decide +kernel) ?_ _
                  obtain ⟨W5, hW5⟩ : ∃ W, W = ((wr.alloc (.cells #[.int .i64 x0, .int .i64 x1, .slice A2 l.length ca2] 95)).alloc (.cells #[.int .i64 x0, .int .i64 x1, .slice A l.length ca] 95)).drew := ⟨_, rfl⟩
                  rw [← hW5] at hHeld ⊢
                  have HK5 := Lib.hid (HK.out.up hHeld)
                  have f0 : W5.cell? ⟨wr.heap.size + 1, 0, none⟩ = some (.int .i64 x0) := by rw [hW5]; simp
                  have f1 : W5.cell? ⟨wr.heap.size + 1, 1, none⟩ = some (.int .i64 x1) := by rw [hW5]; simp
                  have f2 : W5.cell? ⟨wr.heap.size + 1, 2, none⟩ = some (.slice A l.length ca) := by rw [hW5]; simp
                  have g0 : W5.cell? ⟨wr.heap.size, 0, none⟩ = some (.int .i64 x0) := by rw [hW5]; simp
                  have g1 : W5.cell? ⟨wr.heap.size, 1, none⟩ = some (.int .i64 x1) := by rw [hW5]; simp
                  have g2 : W5.cell? ⟨wr.heap.size, 2, none⟩ = some (.slice A2 l.length ca2) := by rw [hW5]; simp
                  have G3 := Lib.hid (G1.out.below hHeld)
                  have G4 := Lib.hid (G2.out.below hHeld)
                  clear hW5 hHeld HK G1 G2 p6 q6 d0 d1 d2 e0 e1 e2
                  generalize wr.heap.size = gw at *
                  go_wp2_with fail
                  go_loopw [9] (fun i wx => ∃ j : Nat, j ≤ l.length ∧ i = .int .i64 j ∧ Hid (Below W5.heap.size W5 wx)) (fun i _ => l.length - (intOf i).toNat)
                  case atStart => exact ⟨0, Nat.zero_le _, rfl, Lib.hid (Below.refl _ _)⟩
                  case round =>
                    obtain ⟨j, hj, rfl, HBJ⟩ := hrel
                    replace f2 := cell_up HBJ.out f2
                    replace g2 := cell_up HBJ.out g2
                    clear f0 f1 g0 g1
                    by_cases hlj : j < l.length
                    · obtain ⟨b, o, hA, hc⟩ := (G3.out.below HBJ.out).flat 2 (fun _ => rfl) (by decide) hlj
                      obtain ⟨b', o', hA', hc'⟩ := (G4.out.below HBJ.out).flat 2 (fun _ => rfl) (by decide) hlj
                      rw [hA] at f2; rw [hA'] at g2
                      generalize l[j] = y at hc hc'
                      obtain ⟨y0, y1⟩ := y
                      have d0 := hc 0 _ rfl
                      have d1 := hc 1 _ rfl
                      have e0 := hc' 0 _ rfl
                      have e1 := hc' 1 _ rfl
                      simp only [Nat.add_zero] at d0 e0
                      clear hc hc' hA hA'
                      have hz := sg_neq_f y0 y1
                      go_wp2_with fail
                      have kq_f2 := cell_regrown f2
                      have kq_g2 := cell_regrown g2
                      have kq_d0 := cell_regrown d0
                      have kq_d1 := cell_regrown d1
                      have kq_e0 := cell_regrown e0
                      have kq_e1 := cell_regrown e1
                      refine wp_region_quiet_below (by kernel_rfl) (by kernel_rfl) ?_
                      repeat (go_big_quiet_step (fail))
                      refine wpQuiet_nil ?_
                      intro w6 hb6
                      replace hb6 := below_of_regrown hb6
                      clear kq_f2 kq_g2 kq_d0 kq_d1 kq_e0 kq_e1
                      replace f2 := cell_up hb6 f2
                      replace g2 := cell_up hb6 g2
                      replace d0 := cell_up hb6 d0
                      replace d1 := cell_up hb6 d1
                      replace e0 := cell_up hb6 e0
                      replace e1 := cell_up hb6 e1
                      replace HBJ := Lib.hid (below_next HBJ.out hb6)
                      clear hb6
                      go_wp2_with fail
                      go_roundw
                      case rel => exact ⟨j + 1, by omega, by go_num, HBJ⟩
                      case measure => simp [intOf]; omega
                    · have hlf2 : decide ((j : Int) < (l.length : Int)) = false := by simp; omega
                      go_wp2_with fail
                      go_roundw
                      case rel => exact ⟨k + 1, by omega, by go_num, Lib.hid (HK5.out.up HBJ.out)⟩
                      case measure => simp [intOf]; omega
                exact AllReadyH.nil
              exact AllReadyH.nil
            exact AllReadyH.nil
          exact AllReadyH.nil
        · have p6 : (wr).cell? ⟨w.heap.size, 6, none⟩ = some (.slice r.aQ c.pols.length r.cQ) := (HK.out).p 6
          have q6 : (wr).cell? ⟨w.heap.size + 1, 6, none⟩ = some (.slice r'.aQ c.pols.length r'.cQ) := (HK.out).q 6
          have p7 : (wr).cell? ⟨w.heap.size, 7, none⟩ = some (.slice r.aD c.dems.length r.cD) := (HK.out).p 7
          have q7 : (wr).cell? ⟨w.heap.size + 1, 7, none⟩ = some (.slice r'.aD c.dems.length r'.cD) := (HK.out).q 7
          have hlf : decide ((k : Int) < (c.pols.length : Int)) = false := by simp; omega
          go_wp2_with fail
          clear hlf hlt hk hle p6 q6
          go_loopw [10] (fun i wr => ∃ k : Nat, k ≤ c.dems.length ∧ i = .int .i64 k ∧ Hid (KB w n r r' c wr)) (fun i _ => c.dems.length - (intOf i).toNat)
          case atStart => exact ⟨0, Nat.zero_le _, rfl, HK⟩
          case round =>
            clear HK p7 q7
            obtain ⟨k, hk, rfl, HK⟩ := hrel
            have hle := HL.out.d
            by_cases hlt : k < c.dems.length
            · have p7 : (wr).cell? ⟨w.heap.size, 7, none⟩ = some (.slice r.aD c.dems.length r.cD) := (HK.out).p 7
              have q7 : (wr).cell? ⟨w.heap.size + 1, 7, none⟩ = some (.slice r'.aD c.dems.length r'.cD) := (HK.out).q 7
              obtain ⟨b, o, hA, hc⟩ := HK.out.c1.d.flat 4 (fun _ => rfl) (by decide) hlt
              obtain ⟨b', o', hA', hc'⟩ := HK.out.c2.d.flat 4 (fun _ => rfl) (by decide) hlt
              rw [hA] at p7; rw [hA'] at q7
              generalize c.dems[k] = x at hc hc'
              obtain ⟨x0, x1, x2, x3⟩ := x
              have d0 : wr.cell? ⟨b, o + k * 4, none⟩ = some (.int .i64 x0) := hc 0 _ rfl
              have e0 : wr.cell? ⟨b', o' + k * 4, none⟩ = some (.int .i64 x0) := hc' 0 _ rfl
              have d1 : wr.cell? ⟨b, o + k * 4 + 1, none⟩ = some (.int .i64 x1) := hc 1 _ rfl
              have e1 : wr.cell? ⟨b', o' + k * 4 + 1, none⟩ = some (.int .i64 x1) := hc' 1 _ rfl
              have d2 : wr.cell? ⟨b, o + k * 4 + 2, none⟩ = some (.int .i64 x2) := hc 2 _ rfl
              have e2 : wr.cell? ⟨b', o' + k * 4 + 2, none⟩ = some (.int .i64 x2) := hc' 2 _ rfl
              have d3 : wr.cell? ⟨b, o + k * 4 + 3, none⟩ = some (.int .i64 x3) := hc 3 _ rfl
              have e3 : wr.cell? ⟨b', o' + k * 4 + 3, none⟩ = some (.int .i64 x3) := hc' 3 _ rfl
              clear hc hc' hA hA'
              have hz := dm_neq_f x0 x1 x2 x3
              go_wp2_with fail
              have kq_p7 := cell_regrown p7
              have kq_q7 := cell_regrown q7
              have kq_d0 := cell_regrown d0
              have kq_d1 := cell_regrown d1
              have kq_d2 := cell_regrown d2
              have kq_d3 := cell_regrown d3
              have kq_e0 := cell_regrown e0
              have kq_e1 := cell_regrown e1
              have kq_e2 := cell_regrown e2
              have kq_e3 := cell_regrown e3
              refine wp_region_quiet_below (by kernel_rfl) (by kernel_rfl) ?_
              repeat (go_big_quiet_step (fail))
              refine wpQuiet_nil ?_
              intro w4 hb4
              replace hb4 := below_of_regrown hb4
              clear kq_p7 kq_q7 kq_d0 kq_d1 kq_d2 kq_d3 kq_e0 kq_e1 kq_e2 kq_e3
              replace p7 := cell_up hb4 p7
              replace q7 := cell_up hb4 q7
              replace d0 := cell_up hb4 d0
              replace d1 := cell_up hb4 d1
              replace d2 := cell_up hb4 d2
              replace d3 := cell_up hb4 d3
              replace e0 := cell_up hb4 e0
              replace e1 := cell_up hb4 e1
              replace e2 := cell_up hb4 e2
              replace e3 := cell_up hb4 e3
              replace HK := Lib.hid (HK.out.up hb4)
              clear hb4
              go_wp2_with fail
              go_roundw
              case rel => exact ⟨k + 1, by omega, by go_num, HK⟩
              case measure => simp [intOf]; omega
            · have p7 : (wr).cell? ⟨w.heap.size, 7, none⟩ = some (.slice r.aD c.dems.length r.cD) := (HK.out).p 7
              have q7 : (wr).cell? ⟨w.heap.size + 1, 7, none⟩ = some (.slice r'.aD c.dems.length r'.cD) := (HK.out).q 7
              have hlf : decide ((k : Int) < (c.dems.length : Int)) = false := by simp; omega
              go_wp2_with fail
              go_ret
              exact ⟨rfl, HK.out.hb⟩

end Go.Proofs.YtpofbhaipeiegaaGreatDoor
