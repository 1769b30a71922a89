/-
  The view of a fresh database: all links are down.
  The view of a fresh speaker and of a fresh router.
  A fresh router: look, the stages.
  speaker.New: the errors.
  router.New.
-/
import Derived.Test.YtenhliibmcmnbaaGreatPkNvA
import Derived.Test.YtenhliibmcmnbaaGreatPkNvE
import Derived.Test.YtenhliibmcmnbaaGreatPkKp
namespace Go.Proofs.YtenhliibmcmnbaaGreat
set_option linter.unusedSimpArgs false
set_option linter.unusedVariables false
open Go.RowKit Go.Sort
theorem look_of (mb : Nat) (v u : Int) (ov : Bool) (W : World) (h : MapAt Tryz.prog 3 mb [(.int .i64 v, heldV v ov)] W) (hv : isN 64 v = true) (hu : isN 64 u = true) :
  (Instr.lookup 240 (.map (some mb)) (.int .i64 u) false).run Tryz.prog W = .ok (.agg #[.int .i64 (if u = v then v else 0), .int .i64 (if u = v then 1 else 0), .int .i64 0, .bool (decide (u = v) && ov), .slice none 0 0, .slice none 0 0, .int .i64 (if u = v then 60 else 0)]) W := by
 by_cases e : u = v
 ·subst e
  have := look_yes mb u (heldV u ov) false W h (big_N hv)
  simpa [heldV] using this
 ·have := look_no mb [(.int .i64 v, heldV v ov)] u false W h (big_N hu) (by simp; exact fun h => e h.symm)
  simpa [held0, e] using this
theorem look_ex (v u : Int) (ov : Bool) (hv : isN 64 v = true) (hu : isN 64 u = true) : ∃ y0 y1 y6 : Value, ∀ (mb : Nat) (W : World), MapAt Tryz.prog 3 mb [(.int .i64 v, heldV v ov)] W →
  (Instr.lookup 240 (.map (some mb)) (.int .i64 u) false).run Tryz.prog W = .ok (.agg #[y0, y1, .int .i64 0, .bool (decide (u = v) && ov), .slice none 0 0, .slice none 0 0, y6]) W :=
 ⟨_, _, _, fun mb W h => look_of mb v u ov W h hv hu⟩
theorem fld_a (x0 x1 x2 x3 x4 x5 x6 : Value) (w : World) : (Instr.field 296 (.agg #[x0, x1, x2, x3, x4, x5, x6]) 0).run Tryz.prog w = .ok (.agg #[x0, x1, x2, x3, x4, x5]) w := by kernel_rfl
theorem fld_ov (x0 x1 x2 x3 x4 x5 : Value) (w : World) : (Instr.field 179 (.agg #[x0, x1, x2, x3, x4, x5]) 3).run Tryz.prog w = .ok x3 w := by kernel_rfl
theorem fld_adj (x0 x1 x2 x3 x4 x5 : Value) (w : World) : (Instr.field 179 (.agg #[x0, x1, x2, x3, x4, x5]) 4).run Tryz.prog w = .ok x4 w := by kernel_rfl
set_option maxRecDepth 100000 in
set_option maxHeartbeats 1000000 in
theorem lsdb_cost0 (db mb : Nat) (v u tt link : Int) (ov : Bool) (w : World) (h : Bl 242 db #[.map (some mb)] w) (hm : MapAt Tryz.prog 3 mb [(.int .i64 v, heldV v ov)] w) (hv : isN 64 v = true) (hu : isN 64 u = true) :
  Calls Tryz.prog 192 #[.pointer (some ⟨db, 0, none⟩), .int .i64 u, .int .i64 tt, .int .i64 link] w fun e w' => e = .returned (.tuple #[.int .i64 0, .bool false]) ∧ Below w.heap.size w w' := by
 obtain ⟨b0, fb⟩ := h.c1
 obtain ⟨y0, y1, y6, hl⟩ := look_ex v u ov hv hu
 replace hl := hl mb w hm
 generalize Value.bool (decide (u = v) && ov) = y3 at hl
 have hf1 := fld_a
 have hf2 := fld_adj
 clear h hm hv hu
 go_enter Tryz.func192, Tryz.ntmps192
 go_wp2_with fail
 go_loopw [21] (fun i wr => i = .int .i64 0 ∧ wr = w) (fun _ _ => 0)
 case atStart => exact ⟨rfl, rfl⟩
 case round =>
  obtain ⟨rfl, rfl⟩ := hrel
  go_wp2_with fail
  go_ret2
  exact ⟨rfl, Below.refl _ _⟩
/-- The first k of N are filled. -/
def fillT (N k : Nat) (f : Nat → Bool) : List Bool := (List.range N).map fun i => decide (i < k) && f i
theorem fill_zero (N : Nat) (f : Nat → Bool) : fillT N 0 f = List.replicate N false := by
 refine List.ext_getElem (by simp [fillT]) fun i h1 h2 => by simp [fillT]
theorem fill_set {N k : Nat} {f : Nat → Bool} : (fillT N k f).set k (f k) = fillT N (k + 1) f := by
 refine List.ext_getElem (by simp [fillT]) fun i h1 h2 => ?_
 rw [List.getElem_set]
 simp only [fillT, List.getElem_map, List.getElem_range]
 by_cases e : k = i
 ·subst e; simp
 ·rw [if_neg e]
  have : decide (i < k) = decide (i < k + 1) := by simp; omega
  rw [this]
theorem fill_done (N : Nat) (f : Nat → Bool) : fillT N N f = (List.range N).map f := by
 refine List.ext_getElem (by simp [fillT]) fun i h1 h2 => ?_
 simp [fillT] at h1 ⊢
 intro h; omega
theorem fill_true (N : Nat) : fillT N N (fun _ => true) = List.replicate N true := by
 rw [fill_done]
 refine List.ext_getElem (by simp) fun i h1 h2 => by simp
/-- The marks of the view: only the node's own mark is known. -/
def markF (t : Topo) (v : Int) (i : Nat) : Bool := decide ((i : Int) = v) && over t v
/-- The view of a fresh node. -/
def viewT (t : Topo) (v : Int) : Topo := ⟨t.n, (List.range t.n.toNat).map (markF t v), t.ls⟩
theorem viewT_len (t : Topo) (v : Int) : (viewT t v).ov.length = t.n.toNat := by simp [viewT]
theorem box_cells (w : World) (b : Nat) (T : TypeId) (x0 x1 x2 : Value) (h : Bl T b #[x0, x1, x2] w) : w.cell? ⟨b, 0, none⟩ = some x0 ∧ w.cell? ⟨b, 1, none⟩ = some x1 ∧ w.cell? ⟨b, 2, none⟩ = some x2 := ⟨h.cell 0 rfl, h.cell 1 rfl, h.cell 2 rfl⟩
theorem RdL.set3 {W : World} {A : Option Addr} {ls : List Lnk} {T : TypeId} {b : Nat} {x0 x1 x2 : Value} (h : RdL W A ls) (g : Bl T b #[x0, x1, x2] W) (j : Nat) (u : Value) : RdL (W.setCell ⟨b, j, none⟩ u) A ls := by
 rcases h with rfl | ⟨lb, o, rfl, hc⟩
 ·exact .inl rfl
 refine .inr ⟨lb, o, rfl, fun k l hl => ?_⟩
 have q := hc k l hl
 have hne : lb ≠ b := by
  rintro rfl
  have q3 := q.q3
  have hq := Lib.cell_of_heap g (o + k * 7 + 3)
  rw [q3] at hq
  have := (Array.getElem?_eq_some_iff.1 hq.symm).1
  exact absurd (show o + k * 7 + 3 < 3 from this) (by omega)
 have e : ∀ i v, W.cell? ⟨lb, i, none⟩ = some v → (W.setCell ⟨b, j, none⟩ u).cell? ⟨lb, i, none⟩ = some v := fun i v hv => (World.cell?_setCell_other W _ _ _ (fun e => hne (by injection e with e _ _; exact e.symm))).trans hv
 exact ⟨e _ _ q.q0, e _ _ q.q1, e _ _ q.q2, e _ _ q.q3, e _ _ q.q4, e _ _ q.q5, e _ _ q.q6⟩
theorem wp_named {P : Program} {c : Code} {Q : Exit → Act → World → Prop} {a : Act} {W : World} (R : World → Prop) (h : R W) (k : ∀ W', R W' → c.wp P Q a W') : c.wp P Q a W := k W h
set_option maxRecDepth 100000 in
set_option maxHeartbeats 4000000 in
theorem lsdb_View0 (db mb : Nat) (v : Int) (t : Topo) (A1 A2 : Option Addr) (c1 c2 : Nat) (w : World) (hT : TAt w A1 A2 t) (hv : valid t = true) (hn : isN t.n v = true) (h : Bl 242 db #[.map (some mb)] w) (hm : MapAt Tryz.prog 3 mb [(.int .i64 v, heldV v (over t v))] w) :
  Calls Tryz.prog 135 #[.pointer (some ⟨db, 0, none⟩), .agg #[.int .i64 t.n, .slice A1 t.ov.length c1, .slice A2 t.ls.length c2]] w fun e w' => ∃ B1 B2 d1 d2 D, e = .returned (.tuple #[.agg #[.int .i64 t.n, .slice B1 (viewT t v).ov.length d1, .slice B2 t.ls.length d2], .slice D (2 * t.ls.length) (2 * t.ls.length), .int .i64 0]) ∧ TAt w' B1 B2 (viewT t v) ∧ Rd w' D ((List.replicate (2 * t.ls.length) true).map Value.bool) ∧ Below w.heap.size w w' ∧ Fresh w.heap.size B1 ∧ Fresh w.heap.size B2 ∧ Fresh w.heap.size D := by
 have hN := valid_n hv
 have hLn : t.ls.length ≤ 256 := valid_ls hv
 have hov : t.ov.length ≤ 1000 := by rcases valid_ov hv with h | h <;> omega
 obtain ⟨N, hNe⟩ : ∃ N, N = t.n.toNat := ⟨_, rfl⟩
 have hmk : ∀ W, (Instr.makeSlice 22 (.int .i64 t.n) (.int .i64 t.n)).run Tryz.prog W = .ok (.slice (some ⟨W.heap.size, 0, none⟩) N N) (mkW N W) := fun W => by
  have := run_mkW N (by omega) W
  rwa [show (N : Int) = t.n by omega] at this
 have HV := Lib.hid hv
 have HVN : Hid (isN 64 v = true) := Lib.hid (by rw [isN_true] at hn ⊢; omega)
 have HNE := Lib.hid hNe
 have HN := Lib.hid hN
 obtain ⟨hX, hY⟩ := two_new w #[.int .i64 t.n, .slice A1 t.ov.length c1, .slice A2 t.ls.length c2] #[.int .i64 0, .slice none 0 0, .slice none 0 0] 25 25
 have hB := below_two w (.cells #[.int .i64 t.n, .slice A1 t.ov.length c1, .slice A2 t.ls.length c2] 25) (.cells #[.int .i64 0, .slice none 0 0, .slice none 0 0] 25)
 have HT := Lib.hid (hT.below hB)
 have HD := Lib.hid (h.up hB)
 have HM := Lib.hid (hm.up hB)
 have HX := Lib.hid hX
 have HY := Lib.hid hY
 have HB := Lib.hid hB
 have hlt := h.lt
 clear hv hn hNe hN hB hT h hm hX hY
 obtain ⟨b0, b1, b2⟩ := box_cells _ _ _ _ _ _ HX.out
 go_enter Tryz.func135, Tryz.ntmps135
 go_upto_region 6 with (first | (go_at_call 54; refine (topology_Valid t _ _ _ _ _ HT.out.ls).mono ?_; rw [HV.out]; rintro e w1 ⟨rfl, hb⟩; replace HT := Lib.hid (HT.out.below hb); replace HD := Lib.hid (HD.out.up hb); replace HM := Lib.hid (HM.out.up hb); replace HX := Lib.hid (HX.out.up hb); replace HY := Lib.hid (HY.out.up hb); replace HB := Lib.hid (below_next HB.out hb); clear hb b0 b1 b2; obtain ⟨b0, b1, b2⟩ := box_cells _ _ _ _ _ _ HX.out) | (go_at_call 34; (with_reducible refine (graph_CloneF t _ _ _ _ _ HT.out hov (by omega)).mono ?_); rintro e w2 ⟨B1, B2, d1, d2, rfl, hc, hb, hfr1, hfr2⟩; have HC := Lib.hid hc; have HF2 := Lib.hid (hfr2.mono HB.out.size); clear hfr1 hfr2; replace HD := Lib.hid (HD.out.up hb); replace HM := Lib.hid (HM.out.up hb); replace HX := Lib.hid (HX.out.up hb); replace HY := Lib.hid (HY.out.up hb); replace HB := Lib.hid (below_next HB.out hb); clear hc hb b0 b1 b2))
 have HB3 := Lib.hid (below_box w2 (.cells #[.int .i64 t.n, .slice B1 t.ov.length d1, .slice B2 t.ls.length d2] 25))
 have HZ3 := Lib.hid (Bl.new w2 #[.int .i64 t.n, .slice B1 t.ov.length d1, .slice B2 t.ls.length d2] 25)
 have hN64 : N ≤ 64 := by have := HN.out; have := HNE.out; omega
 have HX2 := Lib.hid HX.out.lt
 have HY2 := Lib.hid HY.out.lt
 generalize w2.alloc _ = W3 at HB3 HZ3 ⊢
 have HRB : Hid (w2.heap.size < W3.heap.size) := Lib.hid HZ3.out.lt
 obtain ⟨b0, b1, b2⟩ := box_cells _ _ _ _ _ _ (HX.out.up HB3.out)
 have z1 := (box_cells _ _ _ _ _ _ (HZ3.out.up (mkW_below N W3))).2.1
 have z2 := (HZ3.out.up (mkW_below N W3)).frz 1
 go_upto_region 7 with fail
 refine wp_named (fun X => Below w2.heap.size w2 X ∧ Bl 25 w2.heap.size #[.int .i64 t.n, .slice (some ⟨W3.heap.size, 0, none⟩) N N, .slice B2 t.ls.length d2] X ∧ X.ownsRow W3.heap.size 4 1 (.slice (some ⟨W3.heap.size, 0, none⟩) N N) N ((fillT N 0 (markF t v)).map Value.bool)) ⟨?_, ?_, ?_⟩ ?_
 ·exact Bset ((below_next HB3.out (mkW_below N W3))) (Nat.le_refl _)
 ·exact (HZ3.out.up (mkW_below N W3)).set 1 _ rfl
 ·rw [fill_zero]
  exact own_setCell (mkW_own N (by have := HN.out; have := HNE.out; omega) W3 _ (Nat.le_refl _)) (by have := HRB.out; simp [Value.ownBlock]; omega) _
 rintro W4 ⟨hB4, hZ4, hR4⟩
 have hrb := HRB.out
 clear HZ3 HB3 HRB b0 b1 b2 z1 z2
 generalize W3.heap.size = rb at hZ4 hR4 hrb
 have HRB := Lib.hid hrb
 have HB4 := Lib.hid hB4
 have HZ4 := Lib.hid hZ4
 have HR4 := Lib.hid hR4
 obtain ⟨b0, b1, b2⟩ := box_cells _ _ _ _ _ _ hZ4
 clear hB4 hZ4 hR4 hrb b0 b2
 go_wp2_with fail
 clear b1
 go_loopw [8, 32] (fun _ i wr => ∃ k : Nat, k ≤ N ∧ i = .int .i64 k ∧ Hid (Below w2.heap.size w2 wr) ∧ Hid (Bl 25 w2.heap.size #[.int .i64 t.n, .slice (some ⟨rb, 0, none⟩) N N, .slice B2 t.ls.length d2] wr) ∧ Hid (wr.ownsRow rb 4 1 (.slice (some ⟨rb, 0, none⟩) N N) N ((fillT N k (markF t v)).map Value.bool))) (fun _ i _ => N - (intOf i).toNat)
 case atStart => exact ⟨0, Nat.zero_le _, rfl, HB4, HZ4, HR4⟩
 case round =>
  obtain ⟨k, hk, rfl, HB5, HZ5, HR5⟩ := hrel
  have HD5 := Lib.hid (HD.out.up HB5.out)
  have HM5 := Lib.hid (HM.out.up HB5.out)
  by_cases hlt : k < N
  ·obtain ⟨b0, b1, b2⟩ := box_cells _ _ _ _ _ _ HZ5.out
   obtain ⟨a0, af⟩ := HD5.out.c1
   obtain ⟨y0, y1, y6, hl⟩ := look_ex v (k : Int) (over t v) HVN.out (by rw [isN_true]; have := HN.out; have := HNE.out; omega)
   replace hl := hl mb wr.drew (HM5.out.up (Bdrw (Below.refl _ _)))
   generalize hy3 : (decide ((k : Int) = v) && over t v) = y3 at hl
   obtain ⟨⟨u, r0⟩, r1, r2, r3⟩ := own_store HR5.out hlt y3
   have HR6 := Lib.hid r3
   have HY3 : Hid (markF t v k = y3) := Lib.hid hy3
   have hf1 := fld_a
   have hf2 := fld_ov
   have n1 : rb ≠ w2.heap.size := by have := HRB.out; omega
   have hlt' : (k : Int) < (N : Int) := by omega
   clear r2 r3 hy3 b0 b2 HR5
   go_wp2_with fail
   go_region
   all_goals
    go_wp2_with fail
    go_roundw
    case rel => exact ⟨k + 1, by omega, by go_num, Lib.hid (Bdrw (Bset HB5.out (by have := HRB.out; omega))), Lib.hid ((HZ5.out.other (by have := HRB.out; omega) _).up (Bdrw (Below.refl _ _))), Lib.hid (by rw [← fill_set, HY3.out]; exact own_up HR6.out (Bdrw (Below.refl _ _)))⟩
    case measure => simp [intOf]; omega
  ·obtain rfl : k = N := by omega
   obtain ⟨b0, b1, b2⟩ := box_cells _ _ _ _ _ _ (HX.out.up HB5.out)
   have HZR : Hid (rb < wr.heap.size) := Lib.hid (HR5.out.lt rb rfl).2
   have hmk2 : ∀ W, (Instr.makeSlice 22 (.int .i64 (2 * (t.ls.length : Int))) (.int .i64 (2 * (t.ls.length : Int)))).run Tryz.prog W = .ok (.slice (some ⟨W.heap.size, 0, none⟩) (2 * t.ls.length) (2 * t.ls.length)) (mkW (2 * t.ls.length) W) := fun W => by
    have := run_mkW (2 * t.ls.length) (by omega) W
    rwa [show ((2 * t.ls.length : Nat) : Int) = 2 * (t.ls.length : Int) by omega] at this
   go_upto_region 13 with (first | (go_at_call 56; refine (graph_Arcs _ _ _ _ _ _ (by omega)).mono ?_; rintro e w6 ⟨rfl, hb⟩; have HB6 := Lib.hid (below_next HB5.out hb (Nat.le_refl _)); have HZ6 := Lib.hid (HZ5.out.up hb); have HR6 := Lib.hid (own_up HR5.out hb); have HZR6 := Lib.hid (Nat.lt_of_lt_of_le HZR.out hb.size); clear hb b0 b1 b2))
   refine wp_named (fun X => Below w2.heap.size w2 X ∧ Bl 25 w2.heap.size #[.int .i64 t.n, .slice (some ⟨rb, 0, none⟩) k k, .slice B2 t.ls.length d2] X ∧ X.ownsRow rb 4 1 (.slice (some ⟨rb, 0, none⟩) k k) k ((fillT k k (markF t v)).map Value.bool) ∧ X.ownsRow w6.heap.size 4 1 (.slice (some ⟨w6.heap.size, 0, none⟩) (2 * t.ls.length) (2 * t.ls.length)) (2 * t.ls.length) ((fillT (2 * t.ls.length) (2 * 0) (fun _ => true)).map Value.bool)) ⟨below_next HB6.out (mkW_below _ w6) (Nat.le_refl _), HZ6.out.up (mkW_below _ w6), own_up HR6.out (mkW_below _ w6), by rw [Nat.mul_zero, fill_zero]; exact mkW_own _ (by omega) w6 _ (Nat.le_refl _)⟩ ?_
   rintro W7 ⟨hB7, hZ7, hR7, hS7⟩
   have hdk := HZR6.out
   clear HB6 HZ6 HR6 HZR6 HB5 HZ5 HR5 HD5 HM5 HZR hmk2
   generalize w6.heap.size = dk at hS7 hdk
   have HDK := Lib.hid hdk
   have HB7 := Lib.hid hB7
   have HZ7 := Lib.hid hZ7
   have HR7 := Lib.hid hR7
   have HS7 := Lib.hid hS7
   obtain ⟨b0, b1, b2⟩ := box_cells _ _ _ _ _ _ hZ7
   clear hB7 hZ7 hR7 hS7 hdk b0 b1 hmk
   go_wp2_with fail
   clear b2
   go_loopw [54] (fun i wr => ∃ j : Nat, j ≤ t.ls.length ∧ i = .int .i64 j ∧ Hid (Below w2.heap.size w2 wr) ∧ Hid (Bl 25 w2.heap.size #[.int .i64 t.n, .slice (some ⟨rb, 0, none⟩) k k, .slice B2 t.ls.length d2] wr) ∧ Hid (wr.ownsRow rb 4 1 (.slice (some ⟨rb, 0, none⟩) k k) k ((fillT k k (markF t v)).map Value.bool)) ∧ Hid (wr.ownsRow dk 4 1 (.slice (some ⟨dk, 0, none⟩) (2 * t.ls.length) (2 * t.ls.length)) (2 * t.ls.length) ((fillT (2 * t.ls.length) (2 * j) (fun _ => true)).map Value.bool))) (fun i _ => t.ls.length - (intOf i).toNat)
   case atStart => exact ⟨0, Nat.zero_le _, rfl, HB7, HZ7, HR7, HS7⟩
   case round =>
    clear HB7 HZ7 HR7 HS7
    obtain ⟨j, hj, rfl, HB8, HZ8, HR8, HS8⟩ := hrel
    have HD8 := Lib.hid (HD.out.up HB8.out)
    have HM8 := Lib.hid (HM.out.up HB8.out)
    by_cases hlt : j < t.ls.length
    ·obtain ⟨b0, b1, b2⟩ := box_cells _ _ _ _ _ _ HZ8.out
     obtain ⟨lb, lo, l, rfl, hl, hla⟩ := (HC.out.ls.below HB8.out).at_ hlt
     obtain ⟨q0, q1, q2, q3, q4, q5, q6⟩ := hla
     have hbd := lnk_bd (valid_lnk HV.out hl)
     have HA : Hid (isN 64 l.a = true) := Lib.hid (by rw [isN_true]; have := HN.out; omega)
     have HBb : Hid (isN 64 l.b = true) := Lib.hid (by rw [isN_true]; have := HN.out; omega)
     have hlt' : (j : Int) < (t.ls.length : Int) := by omega
     clear hbd hl b0 b1 q2 q3 q4 q5 q6
     go_upto_region 17 with fail
     have kq_q0 := cell_regrown q0
     have kq_q1 := cell_regrown q1
     refine wp_region_quiet_below (by kernel_rfl) (by kernel_rfl) ?_
     repeat (go_big_quiet_step (with_reducible exact Calls.regrown_of (lsdb_cost0 db mb v _ _ _ (over t v) _ (HD8.out.up (below_regrown _ _ _)) (HM8.out.up (below_regrown _ _ _)) HVN.out HA.out)))
     refine wpQuiet_nil ?_
     intro w9 hb9
     replace hb9 := below_of_regrown hb9
     clear kq_q0 kq_q1
     replace q0 := cell_up hb9 q0
     replace q1 := cell_up hb9 q1
     replace HB8 := Lib.hid (below_next HB8.out hb9 (Nat.le_refl _))
     replace HZ8 := Lib.hid (HZ8.out.up hb9)
     replace HR8 := Lib.hid (own_up HR8.out hb9)
     replace HS8 := Lib.hid (own_up HS8.out hb9)
     replace HD8 := Lib.hid (HD8.out.up hb9)
     replace HM8 := Lib.hid (HM8.out.up hb9)
     clear hb9 b2
     go_upto_region 18 with fail
     have kq_q0 := cell_regrown q0
     have kq_q1 := cell_regrown q1
     refine wp_region_quiet_below (by kernel_rfl) (by kernel_rfl) ?_
     repeat (go_big_quiet_step (with_reducible exact Calls.regrown_of (lsdb_cost0 db mb v _ _ _ (over t v) _ (HD8.out.up (below_regrown _ _ _)) (HM8.out.up (below_regrown _ _ _)) HVN.out HBb.out)))
     refine wpQuiet_nil ?_
     intro w10 hb10
     replace hb10 := below_of_regrown hb10
     clear kq_q0 kq_q1
     replace q0 := cell_up hb10 q0
     replace q1 := cell_up hb10 q1
     replace HB8 := Lib.hid (below_next HB8.out hb10 (Nat.le_refl _))
     replace HZ8 := Lib.hid (HZ8.out.up hb10)
     replace HR8 := Lib.hid (own_up HR8.out hb10)
     replace HS8 := Lib.hid (own_up HS8.out hb10)
     clear hb10
     obtain ⟨⟨u, r0⟩, r1, r2, r3⟩ := own_store HS8.out (k := 2 * j) (by omega) true
     obtain ⟨⟨u', s0⟩, s1, s2, s3⟩ := own_store r3 (k := 2 * j + 1) (by omega) true
     have HS9 := Lib.hid s3
     have hne : (2 * j : Nat) ≠ 2 * j + 1 := by omega
     clear r2 r3 s2 s3 HS8 HD8 HM8 q0 q1
     go_wp2_with fail
     go_roundw
     case rel => exact ⟨j + 1, by omega, by go_num, Lib.hid (Bset (Bset HB8.out (by have := HRB.out; have := HDK.out; omega)) (by have := HRB.out; have := HDK.out; omega)), Lib.hid ((HZ8.out.other (by have := HRB.out; have := HDK.out; omega) _).other (by have := HRB.out; have := HDK.out; omega) _), Lib.hid (own_setCell (own_setCell HR8.out (by have := HDK.out; simp [Value.ownBlock]; omega) _) (by have := HDK.out; simp [Value.ownBlock]; omega) _), Lib.hid (by rw [show 2 * (j + 1) = 2 * j + 1 + 1 by omega, ← fill_set (k := 2 * j + 1), ← fill_set (k := 2 * j)]; exact HS9.out)⟩
     case measure => simp [intOf]; omega
    ·obtain rfl : j = t.ls.length := by omega
     obtain ⟨b0, b1, b2⟩ := box_cells _ _ _ _ _ _ HZ8.out
     have HY8 := Lib.hid (HY.out.up HB8.out)
     have HL8 := Lib.hid (HC.out.ls.below HB8.out)
     have HW8 := Lib.hid (HB.out.trans (HB8.out.mono HB.out.size))
     obtain ⟨y0, y1, y2, yf⟩ := HY8.out.c3
     have n1 : w2.heap.size ≠ w.heap.size + 1 := by have := HY2.out; omega
     have n2 : w.heap.size + 1 ≠ w2.heap.size := by have := HY2.out; omega
     clear HD8 HM8
     go_wp2_with fail
     have r1 : rb ≠ w.heap.size + 1 := by have := HRB.out; have := HY2.out; omega
     have r2 : dk ≠ w.heap.size + 1 := by have := HRB.out; have := HDK.out; have := HY2.out; omega
     have K1 := own_setCell (j := 2) (own_setCell (j := 1) (own_setCell (j := 0) HR8.out (by simpa [Value.ownBlock] using r1) (.int .i64 t.n)) (by simpa [Value.ownBlock] using r1) (.slice (some ⟨rb, 0, none⟩) k k)) (by simpa [Value.ownBlock] using r1) (.slice B2 t.ls.length d2)
     have K2 := own_setCell (j := 2) (own_setCell (j := 1) (own_setCell (j := 0) HS8.out (by simpa [Value.ownBlock] using r2) (.int .i64 t.n)) (by simpa [Value.ownBlock] using r2) (.slice (some ⟨rb, 0, none⟩) k k)) (by simpa [Value.ownBlock] using r2) (.slice B2 t.ls.length d2)
     have L1 := HL8.out.set3 HY8.out 0 (.int .i64 t.n)
     have L2 := L1.set3 (HY8.out.set 0 (.int .i64 t.n) rfl) 1 (.slice (some ⟨rb, 0, none⟩) k k)
     have L3 := L2.set3 ((HY8.out.set 0 (.int .i64 t.n) rfl).set 1 (.slice (some ⟨rb, 0, none⟩) k k) rfl) 2 (.slice B2 t.ls.length d2)
     obtain ⟨_, _, e1, _, _, g1⟩ := rd_of_ownK K1
     obtain ⟨_, _, e2, _, _, g2⟩ := rd_of_ownK K2
     injection e1 with e1 _ _
     injection e2 with e2 _ _
     subst e1 e2
     rw [fill_done, show (List.range k).map (markF t v) = (viewT t v).ov by simp only [viewT]; rw [← HNE.out]] at g1
     rw [fill_true] at g2
     exact bodyPost_ret (v := .tuple #[.agg #[.int .i64 t.n, .slice (some ⟨rb, 0, none⟩) k k, .slice B2 t.ls.length d2], .slice (some ⟨dk, 0, none⟩) (2 * t.ls.length) (2 * t.ls.length), .int .i64 0]) (by simp [results, Tryz.results135, go_sem, y0, y1, y2]) rfl ⟨some ⟨rb, 0, none⟩, B2, k, d2, some ⟨dk, 0, none⟩, by rw [viewT_len, ← HNE.out], ⟨g1, L3⟩, g2, by (repeat' (first | (with_reducible exact HW8.out) | (with_reducible refine Bset ?_ ?_) | (with_reducible refine Bdrw ?_) | (with_reducible refine Bbox ?_ ?_) | omega | (simp; done) | (simp; omega))), fun b o e => by injection e with e; injection e with e _ _; have := HRB.out; have := HY2.out; omega, HF2.out, fun b o e => by injection e with e; injection e with e _ _; have := HRB.out; have := HDK.out; have := HY2.out; omega⟩
end Go.Proofs.YtenhliibmcmnbaaGreat
namespace Go.Proofs.YtenhliibmcmnbaaGreat
set_option linter.unusedSimpArgs false
set_option linter.unusedVariables false
open Go.RowKit Go.Sort
theorem q4_up {sb : Nat} {x0 x1 x2 x12 : Value} {w w' : World} (hb : Below w.heap.size w w') (h : w.cell? ⟨sb, 0, none⟩ = some x0 ∧ w.cell? ⟨sb, 1, none⟩ = some x1 ∧ w.cell? ⟨sb, 2, none⟩ = some x2 ∧ w.cell? ⟨sb, 12, none⟩ = some x12) :
  w'.cell? ⟨sb, 0, none⟩ = some x0 ∧ w'.cell? ⟨sb, 1, none⟩ = some x1 ∧ w'.cell? ⟨sb, 2, none⟩ = some x2 ∧ w'.cell? ⟨sb, 12, none⟩ = some x12 := ⟨cell_up hb h.1, cell_up hb h.2.1, cell_up hb h.2.2.1, cell_up hb h.2.2.2⟩
theorem q4_set {sb b j : Nat} {u x0 x1 x2 x12 : Value} {w : World} (hb : b ≠ sb) (h : w.cell? ⟨sb, 0, none⟩ = some x0 ∧ w.cell? ⟨sb, 1, none⟩ = some x1 ∧ w.cell? ⟨sb, 2, none⟩ = some x2 ∧ w.cell? ⟨sb, 12, none⟩ = some x12) :
  (w.setCell ⟨b, j, none⟩ u).cell? ⟨sb, 0, none⟩ = some x0 ∧ (w.setCell ⟨b, j, none⟩ u).cell? ⟨sb, 1, none⟩ = some x1 ∧ (w.setCell ⟨b, j, none⟩ u).cell? ⟨sb, 2, none⟩ = some x2 ∧ (w.setCell ⟨b, j, none⟩ u).cell? ⟨sb, 12, none⟩ = some x12 := by
 have e : ∀ i, (w.setCell ⟨b, j, none⟩ u).cell? ⟨sb, i, none⟩ = w.cell? ⟨sb, i, none⟩ := fun i => World.cell?_setCell_other w _ _ _ (fun e => hb (by injection e))
 simpa only [e] using h
theorem q4_of {T : TypeId} {sb : Nat} {x0 x1 x2 x3 x4 x5 x6 x7 x8 x9 x10 x11 x12 x13 x14 : Value} {w : World} (h : Bl T sb #[x0, x1, x2, x3, x4, x5, x6, x7, x8, x9, x10, x11, x12, x13, x14] w) :
  w.cell? ⟨sb, 0, none⟩ = some x0 ∧ w.cell? ⟨sb, 1, none⟩ = some x1 ∧ w.cell? ⟨sb, 2, none⟩ = some x2 ∧ w.cell? ⟨sb, 12, none⟩ = some x12 := ⟨h.cell 0 rfl, h.cell 1 rfl, h.cell 2 rfl, h.cell 12 rfl⟩
/-- What View gives of a fresh node. -/
def Vw (t : Topo) (v : Int) (n : Nat) (B1 B2 D : Option Addr) (w' : World) : Prop := TAt w' B1 B2 (viewT t v) ∧ Rd w' D ((List.replicate (2 * t.ls.length) true).map Value.bool) ∧ Fresh n B1 ∧ Fresh n B2 ∧ Fresh n D
theorem Vw.up {t : Topo} {v : Int} {n : Nat} {B1 B2 D : Option Addr} {w w' : World} (h : Vw t v n B1 B2 D w) (hb : Below w.heap.size w w') : Vw t v n B1 B2 D w' := ⟨h.1.below hb, h.2.1.below hb, h.2.2⟩
theorem Vw.set {t : Topo} {v : Int} {n b : Nat} {B1 B2 D : Option Addr} {w : World} (h : Vw t v n B1 B2 D w) (hb : b < n) (j : Nat) (u : Value) : Vw t v n B1 B2 D (w.setCell ⟨b, j, none⟩ u) :=
 ⟨h.1.set h.2.2.1 h.2.2.2.1 hb j u, h.2.1.set h.2.2.2.2 hb j u, h.2.2⟩
theorem Vw.mono {t : Topo} {v : Int} {n m : Nat} {B1 B2 D : Option Addr} {w : World} (h : Vw t v n B1 B2 D w) (hm : m ≤ n) : Vw t v m B1 B2 D w := ⟨h.1, h.2.1, h.2.2.1.mono hm, h.2.2.2.1.mono hm, h.2.2.2.2.mono hm⟩
set_option maxRecDepth 100000 in
set_option maxHeartbeats 4000000 in
theorem speaker_View0 (sb : Nat) (v : Int) (t : Topo) (w : World) (hv : valid t = true) (hn : isN t.n v = true) (h : SpkAt t v sb w) :
  Calls Tryz.prog 81 #[.pointer (some ⟨sb, 0, none⟩)] w fun e w' => ∃ B1 B2 d1 d2 D, e = .returned (.tuple #[.agg #[.int .i64 t.n, .slice B1 (viewT t v).ov.length d1, .slice B2 t.ls.length d2], .slice D (2 * t.ls.length) (2 * t.ls.length)]) ∧ Vw t v w.heap.size B1 B2 D w' ∧ Below w.heap.size w w' := by
 obtain ⟨db, mb, A1, A2, c1, c2, x3, x4, x5, x6, x7, x8, x9, x10, x11, x13, x14, h1, h2, h3, h4⟩ := h
 have hbx := below_box w (.cells #[.int .i64 0, .slice none 0 0, .slice none 0 0] 25)
 have HY := Lib.hid (Bl.new w #[.int .i64 0, .slice none 0 0, .slice none 0 0] 25)
 have HS := Lib.hid (h1.up hbx)
 have HT := Lib.hid (h2.below hbx)
 have HD := Lib.hid (h3.up hbx)
 have HM := Lib.hid (h4.up hbx)
 have HB := Lib.hid hbx
 have HV := Lib.hid hv
 have HN := Lib.hid hn
 have hlt := h1.lt
 clear h1 h2 h3 h4 hbx hv hn
 go_enter Tryz.func81, Tryz.ntmps81
 have hX1 : w.heap.size < (w.alloc (.cells #[.int .i64 0, .slice none 0 0, .slice none 0 0] 25)).heap.size := by simp
 have hX2 : (w.alloc (.cells #[.int .i64 0, .slice none 0 0, .slice none 0 0] 25)).heap.size = w.heap.size + 1 := by simp
 go_upto_region 3 with fail
 generalize w.alloc (.cells #[.int .i64 0, .slice none 0 0, .slice none 0 0] 25) = X at HY HS HT HD HM HB hX1 hX2 ⊢
 have HX1 := Lib.hid hX1
 have HX2 := Lib.hid hX2
 have HC : Hid (∀ W, Below X.heap.size X W → Calls Tryz.prog 135 #[.pointer (some ⟨db, 0, none⟩), .agg #[.int .i64 t.n, .slice A1 t.ov.length c1, .slice A2 t.ls.length c2]] W fun e w' => ∃ B1 B2 d1 d2 D, e = .returned (.tuple #[.agg #[.int .i64 t.n, .slice B1 (viewT t v).ov.length d1, .slice B2 t.ls.length d2], .slice D (2 * t.ls.length) (2 * t.ls.length), .int .i64 0]) ∧ Vw t v W.heap.size B1 B2 D w' ∧ Below W.heap.size W w' ∧ Below X.heap.size X w') := Lib.hid fun W hW => by
  refine (lsdb_View0 db mb v t _ _ _ _ _ (HT.out.below hW) HV.out HN.out (HD.out.up hW) (HM.out.up hW)).mono ?_
  rintro e w3 ⟨B1, B2, d1, d2, D, rfl, hta, hrd, hb, hf1, hf2, hf3⟩
  exact ⟨B1, B2, d1, d2, D, rfl, ⟨hta, hrd, hf1, hf2, hf3⟩, hb, below_next hW hb⟩
 obtain ⟨s0, s1, s2, s3, s4, s5, s6, s7, s8, s9, s10, s11, s12, s13, s14, fs⟩ := HS.out.c15
 clear s3 s4 s5 s6 s7 s8 s9 s10 s11 s13 s14 fs hX1 hX2
 have hq0 : X.heap.size ≠ sb := by have := HS.out.lt; omega
 go_region_held3 (fun w' => w'.cell? ⟨sb, 0, none⟩ = some (.int .i64 t.n) ∧ w'.cell? ⟨sb, 1, none⟩ = some (.slice A1 t.ov.length c1) ∧ w'.cell? ⟨sb, 2, none⟩ = some (.slice A2 t.ls.length c2) ∧ w'.cell? ⟨sb, 12, none⟩ = some (.pointer (some ⟨db, 0, none⟩)))
  (first | exact q4_up (below_box _ _) (by assumption) | exact q4_set (by assumption) (by assumption) | exact q4_set (by assumption) (q4_set (by assumption) (q4_set (by assumption) (by assumption))) | exact q4_up HQ.out (by assumption) | exact q4_up (below_box _ _) (q4_of HS4.out) | exact q4_up (Bdrw (Below.refl _ _)) ⟨s0, s1, s2, s12⟩)
  (first | (go_at_call 135; (with_reducible refine Calls.mono (HC.out _ (by (repeat' (first | (with_reducible exact Below.refl _ _) | (with_reducible refine Bset ?_ ?_) | (with_reducible refine Bdrw ?_) | (with_reducible refine Bbox ?_ ?_) | omega | (simp; done) | (simp; omega))))) ?_); rintro e w3 ⟨B1, B2, d1, d2, D, rfl, hvw, hb, hbx⟩; have HQ := Lib.hid hb; have HVW := Lib.hid hvw; have HS4 := Lib.hid (HS.out.up hbx); have HY3 := Lib.hid (HY.out.up hbx); have HB3 := Lib.hid (HB.out.trans (hbx.mono (by have := HX1.out; omega))); have HW3 := Lib.hid hb.size; (try (have HA3 := Lib.hid (Bl.up ((Bl.new X #[.int .i64 0, .slice none 0 0, .slice none 0 0] 25).up (Bdrw (Below.refl _ _))) hb); obtain ⟨a0, a1, a2, fa⟩ := HA3.out.c3)); have HWW : Hid (w.heap.size < w3.heap.size) := Lib.hid (Nat.lt_of_lt_of_le HX1.out hbx.size); have hq1 : w3.heap.size ≠ sb := (by have := HS4.out.lt; omega); clear hb hvw hbx))
 all_goals
  go_upto_region 4 with fail
  have n0 : w.heap.size + 1 ≤ X.heap.size := by have := HX1.out; omega
  have n1 : X.heap.size ≤ X.drew.heap.size := by simp
  have n2 : w.heap.size + 1 ≤ X.drew.heap.size := by simp; omega
  have n3 : w.heap.size + 1 ≤ ((X.alloc (.cells #[.int .i64 0, .slice none 0 0, .slice none 0 0] 25)).drew).heap.size := by simp; omega
  have n4 : X.heap.size < ((X.alloc (.cells #[.int .i64 0, .slice none 0 0, .slice none 0 0] 25)).drew).heap.size := by simp
  have n5 : w.heap.size ≠ w3.heap.size := by have := HWW.out; omega
  have n6 : w.heap.size ≠ X.heap.size := by have := HX1.out; omega
  have n7 : w.heap.size ≤ w3.heap.size := by have := HWW.out; omega
  have n8 : w.heap.size ≤ X.heap.size := by have := HX1.out; omega
  first
   | (refine wp_named (fun Y => (∃ p, p = w3.heap.size ∧ Bl 25 p #[.int .i64 t.n, .slice B1 (viewT t v).ov.length d1, .slice B2 t.ls.length d2] Y ∧ p ≠ w.heap.size) ∧ Bl 25 w.heap.size #[.int .i64 0, .slice none 0 0, .slice none 0 0] Y ∧ Vw t v (w.heap.size + 1) B1 B2 D Y ∧ Below w.heap.size w Y) ⟨⟨_, rfl, Bl.new w3 _ _, n5.symm⟩, HY3.out.up (below_box _ _), (HVW.out.up (below_box _ _)).mono n2, HB3.out.alloc n7 _⟩ ?_)
   | (refine wp_named (fun Y => (∃ p, p = X.heap.size ∧ Bl 25 p #[.int .i64 t.n, .slice B1 (viewT t v).ov.length d1, .slice B2 t.ls.length d2] Y ∧ p ≠ w.heap.size) ∧ Bl 25 w.heap.size #[.int .i64 0, .slice none 0 0, .slice none 0 0] Y ∧ Vw t v (w.heap.size + 1) B1 B2 D Y ∧ Below w.heap.size w Y) ⟨⟨_, rfl, ((HA3.out.set 0 _ rfl).set 1 _ rfl).set 2 _ rfl, n6.symm⟩, ((HY3.out.other n6 _).other n6 _).other n6 _, (((HVW.out.set n4 _ _).set n4 _ _).set n4 _ _).mono n3, Bset (Bset (Bset HB3.out n8) n8) n8⟩ ?_)
  rintro Y ⟨⟨p, hp, hb1, hne⟩, hb2, hvw, hbe⟩
  rw [← hp]
  have HVY := Lib.hid hvw
  have HBY := Lib.hid hbe
  obtain ⟨z0, z1, z2, fz⟩ := hb1.c3
  obtain ⟨y0, y1, y2, fy⟩ := hb2.c3
  have hne2 := hne.symm
  clear hb1 hb2 hvw hbe n0 n1 n2 n3 n4 n5 n6 n7 n8 hp hq0 hq1
  go_wp2_with fail
  exact bodyPost_ret (v := .tuple #[.agg #[.int .i64 t.n, .slice B1 (viewT t v).ov.length d1, .slice B2 t.ls.length d2], .slice D (2 * t.ls.length) (2 * t.ls.length)]) (by simp [results, Tryz.results81, go_sem, y0, y1, y2]) rfl ⟨B1, B2, d1, d2, D, rfl, Vw.mono (((HVY.out.set (Nat.lt_succ_self _) 0 _).set (Nat.lt_succ_self _) 1 _).set (Nat.lt_succ_self _) 2 _) (Nat.le_succ _), by (repeat' (first | (with_reducible exact HBY.out) | (with_reducible refine Bset ?_ ?_) | (with_reducible refine Bdrw ?_) | (with_reducible refine Bbox ?_ ?_) | omega | (simp; done) | (simp; omega)))⟩
end Go.Proofs.YtenhliibmcmnbaaGreat
namespace Go.Proofs.YtenhliibmcmnbaaGreat
set_option linter.unusedSimpArgs false
set_option linter.unusedVariables false
open Go.RowKit Go.Sort
set_option maxRecDepth 100000 in
set_option maxHeartbeats 4000000 in
theorem router_look0 (rb sb : Nat) (v : Int) (t : Topo) (w : World) (hv : valid t = true) (hn : isN t.n v = true) (hc : w.cell? ⟨rb, 6, none⟩ = some (.pointer (some ⟨sb, 0, none⟩))) (h : SpkAt t v sb w) :
  Calls Tryz.prog 35 #[.pointer (some ⟨rb, 0, none⟩)] w fun e w' => ∃ B1 B2 d1 d2 D, e = .returned (.agg #[.int .i64 t.n, .slice B1 (viewT t v).ov.length d1, .slice B2 t.ls.length d2, .slice D (2 * t.ls.length) (2 * t.ls.length)]) ∧ Vw t v w.heap.size B1 B2 D w' ∧ Below w.heap.size w w' := by
 have hbx := below_box w (.cells #[.int .i64 0, .slice none 0 0, .slice none 0 0, .slice none 0 0] 97)
 have HY := Lib.hid (Bl.new w #[.int .i64 0, .slice none 0 0, .slice none 0 0, .slice none 0 0] 97)
 have HS := Lib.hid (h.up hbx)
 have HV := Lib.hid hv
 have HN := Lib.hid hn
 have HB := Lib.hid hbx
 have hlt := block_lt_of_cell hc
 have hX1 : w.heap.size < (w.alloc (.cells #[.int .i64 0, .slice none 0 0, .slice none 0 0, .slice none 0 0] 97)).heap.size := by simp
 have HX1 := Lib.hid hX1
 clear h hbx hv hn hX1
 go_enter Tryz.func35, Tryz.ntmps35
 go_upto_region 2 with (go_at_call 81; (with_reducible refine (speaker_View0 sb v t _ HV.out HN.out HS.out).mono ?_); rintro e w3 ⟨B1, B2, d1, d2, D, rfl, hvw, hb⟩; have HVW := Lib.hid hvw; have HY3 := Lib.hid (HY.out.up hb); have HB3 := Lib.hid (HB.out.trans (hb.mono (by simp))); have HW3 : Hid (w.heap.size < w3.heap.size) := Lib.hid (Nat.lt_of_lt_of_le HX1.out hb.size); clear hb hvw hc)
 have n5 : w.heap.size ≠ w3.heap.size := by have := HW3.out; omega
 have n6 : w.heap.size + 1 ≤ (w.alloc (.cells #[.int .i64 0, .slice none 0 0, .slice none 0 0, .slice none 0 0] 97)).heap.size := by simp
 have n7 : w.heap.size ≤ w3.heap.size := by have := HW3.out; omega
 refine wp_named (fun Y => (∃ p, p = w3.heap.size ∧ Bl 25 p #[.int .i64 t.n, .slice B1 (viewT t v).ov.length d1, .slice B2 t.ls.length d2] Y ∧ p ≠ w.heap.size) ∧ Bl 97 w.heap.size #[.int .i64 0, .slice none 0 0, .slice none 0 0, .slice none 0 0] Y ∧ Vw t v (w.heap.size + 1) B1 B2 D Y ∧ Below w.heap.size w Y) ⟨⟨_, rfl, Bl.new w3 _ _, n5.symm⟩, HY3.out.up (below_box _ _), (HVW.out.up (below_box _ _)).mono n6, HB3.out.alloc n7 _⟩ ?_
 rintro Y ⟨⟨p, hp, hb1, hne⟩, hb2, hvw, hbe⟩
 rw [← hp]
 have HVY := Lib.hid hvw
 have HBY := Lib.hid hbe
 obtain ⟨z0, z1, z2, fz⟩ := hb1.c3
 obtain ⟨y0, y1, y2, y3, fy⟩ := hb2.c4
 have hne2 := hne.symm
 clear hb1 hb2 hvw hbe n5 n6 n7 hp
 go_wp2_with fail
 exact bodyPost_ret (v := .agg #[.int .i64 t.n, .slice B1 (viewT t v).ov.length d1, .slice B2 t.ls.length d2, .slice D (2 * t.ls.length) (2 * t.ls.length)]) (by simp [results, Tryz.results35, go_sem, y0, y1, y2, y3]) rfl ⟨B1, B2, d1, d2, D, rfl, Vw.mono ((((HVY.out.set (Nat.lt_succ_self _) 0 _).set (Nat.lt_succ_self _) 1 _).set (Nat.lt_succ_self _) 2 _).set (Nat.lt_succ_self _) 3 _) (Nat.le_succ _), by (repeat' (first | (with_reducible exact HBY.out) | (with_reducible refine Bset ?_ ?_) | (with_reducible refine Bdrw ?_) | (with_reducible refine Bbox ?_ ?_) | omega | (simp; done) | (simp; omega)))⟩
set_option maxHeartbeats 2000000 in
theorem stages_Valid0 (g h : Int) (w : World) : Calls Tryz.prog 31 #[.agg #[.int .i64 3, .int .i64 0], .agg #[.int .i64 g, .int .i64 h]] w fun e w' => e = .returned (.bool (inR g 1 65536 && inR h 1 65536)) ∧ Below w.heap.size w w' := by
 obtain ⟨B1, B2⟩ := two_new w #[.int .i64 3, .int .i64 0] #[.int .i64 g, .int .i64 h] 88 85
 have hB := Lib.hid (below_two w (.cells #[.int .i64 3, .int .i64 0] 88) (.cells #[.int .i64 g, .int .i64 h] 85))
 obtain ⟨a0, a1, af⟩ := B1.c2
 obtain ⟨b0, b1, bf⟩ := B2.c2
 clear B1 B2
 by_cases h1 : g < 1
 ·have HR : Hid ((inR g 1 65536 && inR h 1 65536) = false) := Lib.hid (by simp [inR]; omega)
  go_enter Tryz.func31, Tryz.ntmps31
  go_wp2_with fail
  go_ret
  exact ⟨by rw [HR.out]; rfl, hB.out⟩
 by_cases h2 : 65536 < g
 ·have HR : Hid ((inR g 1 65536 && inR h 1 65536) = false) := Lib.hid (by simp [inR]; omega)
  go_enter Tryz.func31, Tryz.ntmps31
  go_wp2_with fail
  go_ret
  exact ⟨by rw [HR.out]; rfl, hB.out⟩
 by_cases h3 : h < 1
 ·have HR : Hid ((inR g 1 65536 && inR h 1 65536) = false) := Lib.hid (by simp [inR]; omega)
  go_enter Tryz.func31, Tryz.ntmps31
  go_wp2_with fail
  go_ret
  exact ⟨by rw [HR.out]; rfl, hB.out⟩
 by_cases h4 : 65536 < h
 ·have HR : Hid ((inR g 1 65536 && inR h 1 65536) = false) := Lib.hid (by simp [inR]; omega)
  go_enter Tryz.func31, Tryz.ntmps31
  go_wp2_with fail
  go_ret
  exact ⟨by rw [HR.out]; rfl, hB.out⟩
 have HR : Hid ((inR g 1 65536 && inR h 1 65536) = true) := Lib.hid (by simp [inR]; omega)
 go_enter Tryz.func31, Tryz.ntmps31
 go_wp2_with fail
 have kq_a0 := cell_regrown a0
 have kq_a1 := cell_regrown a1
 refine wp_region_quiet_below (by kernel_rfl) (by kernel_rfl) ?_
 repeat (go_big_quiet_step (with_reducible exact Calls.regrown_of (stages_Start _)))
 refine wpQuiet_nil ?_
 intro w2 hb2
 replace hb2 := below_of_regrown hb2
 clear kq_a0 kq_a1
 replace a0 := cell_up hb2 a0
 replace a1 := cell_up hb2 a1
 go_wp2_with fail
 go_ret
 exact ⟨by rw [HR.out]; rfl, hB.out.trans (hb2.mono (by simp; omega))⟩
theorem stages_Effective0 (b : Bool) (w : World) : Calls Tryz.prog 45 #[.agg #[.int .i64 3, .int .i64 0], .bool b] w fun e w' => e = .returned (.int .i64 3) ∧ Below w.heap.size w w' := by
 go_enter Tryz.func45, Tryz.ntmps45
 go_wp2_with fail
 go_ret
 exact ⟨rfl, below_box _ _⟩
end Go.Proofs.YtenhliibmcmnbaaGreat
namespace Go.Proofs.YtenhliibmcmnbaaGreat
set_option linter.unusedSimpArgs false
set_option linter.unusedVariables false
open Go.RowKit Go.Sort
theorem TBox.cells {w wr : World} {A1 A2 : Option Addr} {c1 c2 : Nat} {t : Topo} (h : TBox w A1 A2 c1 c2 t wr) : wr.cell? ⟨w.heap.size, 0, none⟩ = some (.int .i64 t.n) ∧ wr.cell? ⟨w.heap.size, 1, none⟩ = some (.slice A1 t.ov.length c1) ∧ wr.cell? ⟨w.heap.size, 2, none⟩ = some (.slice A2 t.ls.length c2) := ⟨h.b0, h.b1, h.b2⟩
/-- The boxes of New's parameters. -/
structure NBox (w : World) (A1 A2 : Option Addr) (c1 c2 : Nat) (t : Topo) (h1 h2 h3 : Int) (wr : World) : Prop where
 b : TBox w A1 A2 c1 c2 t wr
 k : Bl 94 (w.heap.size + 1) #[.int .i64 h1, .int .i64 h2, .int .i64 h3] wr
theorem NBox.up {w wr w' : World} {A1 A2 : Option Addr} {c1 c2 : Nat} {t : Topo} {h1 h2 h3 : Int} (h : NBox w A1 A2 c1 c2 t h1 h2 h3 wr) (hb : Below wr.heap.size wr w') : NBox w A1 A2 c1 c2 t h1 h2 h3 w' := ⟨h.b.up hb, h.k.up hb⟩
theorem NBox.start {w : World} {A1 A2 : Option Addr} {t : Topo} (c1 c2 : Nat) (h1 h2 h3 : Int) (hT : TAt w A1 A2 t) :
  NBox w A1 A2 c1 c2 t h1 h2 h3 ((w.alloc (.cells #[.int .i64 t.n, .slice A1 t.ov.length c1, .slice A2 t.ls.length c2] 25)).alloc (.cells #[.int .i64 h1, .int .i64 h2, .int .i64 h3] 94)) :=
 ⟨(TBox.start c1 c2 hT).up (below_box _ _), (two_new w _ _ _ _).2⟩
theorem NBox.cells {w wr : World} {A1 A2 : Option Addr} {c1 c2 : Nat} {t : Topo} {h1 h2 h3 : Int} (h : NBox w A1 A2 c1 c2 t h1 h2 h3 wr) : wr.cell? ⟨w.heap.size, 0, none⟩ = some (.int .i64 t.n) ∧ wr.cell? ⟨w.heap.size, 1, none⟩ = some (.slice A1 t.ov.length c1) ∧ wr.cell? ⟨w.heap.size, 2, none⟩ = some (.slice A2 t.ls.length c2) ∧
  wr.cell? ⟨w.heap.size + 1, 0, none⟩ = some (.int .i64 h1) ∧ wr.cell? ⟨w.heap.size + 1, 1, none⟩ = some (.int .i64 h2) ∧ wr.cell? ⟨w.heap.size + 1, 2, none⟩ = some (.int .i64 h3) := ⟨h.b.b0, h.b.b1, h.b.b2, h.k.c3.1, h.k.c3.2.1, h.k.c3.2.2.1⟩
section
variable {w : World} {A1 A2 : Option Addr} {t : Topo}
set_option maxRecDepth 100000 in
set_option maxHeartbeats 1000000 in
theorem speaker_New_bad1 (c1 c2 : Nat) (v bt h1 h2 h3 : Int) (hT : TAt w A1 A2 t) (hx : (valid t && inR bt 1 1073741824) = false) :
  Calls Tryz.prog 33 #[.agg #[.int .i64 t.n, .slice A1 t.ov.length c1, .slice A2 t.ls.length c2], .int .i64 v, .int .i64 bt, .agg #[.int .i64 h1, .int .i64 h2, .int .i64 h3]] w fun e w' => e = .returned (.tuple #[.pointer none, .int .i64 1]) ∧ Below w.heap.size w w' := by
 have HN := Lib.hid (NBox.start c1 c2 h1 h2 h3 hT)
 obtain ⟨b0, b1, b2, k0, k1, k2⟩ := HN.out.cells
 clear hT
 cases hv : valid t with
 | false =>
  clear hx
  go_enter Tryz.func33, Tryz.ntmps33
  go_wp2_with (first | (go_at_call 54; refine (topology_Valid t _ _ _ _ _ HN.out.b.ta.ls).mono ?_; rw [hv]; rintro e w1 ⟨rfl, hb⟩; have HB := Lib.hid (below_next HN.out.b.hb hb); clear hb))
  go_ret2
  exact ⟨rfl, HB.out⟩
 | true =>
  rw [hv, Bool.true_and] at hx
  go_enter Tryz.func33, Tryz.ntmps33
  go_wp2_with (first | (go_at_call 54; refine (topology_Valid t _ _ _ _ _ HN.out.b.ta.ls).mono ?_; rw [hv]; rintro e w1 ⟨rfl, hb⟩; have HB := Lib.hid (below_next HN.out.b.hb hb); clear hb) | (go_at_call 70; refine (speaker_within _ _ _ _).mono ?_; rintro e w2 ⟨rfl, rfl⟩))
  go_ret2
  exact ⟨rfl, HB.out⟩
theorem idx3_0 (a b c : Value) (w : World) : (Instr.index 152 (.agg #[a, b, c]) (.int .i64 0)).run Tryz.prog w = .ok a w := by kernel_rfl
theorem idx3_1 (a b c : Value) (w : World) : (Instr.index 152 (.agg #[a, b, c]) (.int .i64 1)).run Tryz.prog w = .ok b w := by kernel_rfl
theorem idx3_2 (a b c : Value) (w : World) : (Instr.index 152 (.agg #[a, b, c]) (.int .i64 2)).run Tryz.prog w = .ok c w := by kernel_rfl
set_option maxRecDepth 100000 in
set_option maxHeartbeats 1000000 in
theorem speaker_New_bad2 (c1 c2 : Nat) (v bt h1 h2 h3 : Int) (hT : TAt w A1 A2 t) (hv : valid t = true) (hx : inR bt 1 1073741824 = true) (ht : (inR h1 1 65536 && inR h2 1 65536 && inR h3 1 65536) = false) :
  Calls Tryz.prog 33 #[.agg #[.int .i64 t.n, .slice A1 t.ov.length c1, .slice A2 t.ls.length c2], .int .i64 v, .int .i64 bt, .agg #[.int .i64 h1, .int .i64 h2, .int .i64 h3]] w fun e w' => e = .returned (.tuple #[.pointer none, .int .i64 1]) ∧ Below w.heap.size w w' := by
 have HN := Lib.hid (NBox.start c1 c2 h1 h2 h3 hT)
 obtain ⟨b0, b1, b2, k0, k1, k2⟩ := HN.out.cells
 have HTM := Lib.hid ht
 have hx0 := idx3_0
 have hx1 := idx3_1
 have hx2 := idx3_2
 clear hT ht
 go_enter Tryz.func33, Tryz.ntmps33
 go_wp2_with (first | (go_at_call 54; refine (topology_Valid t _ _ _ _ _ HN.out.b.ta.ls).mono ?_; rw [hv]; rintro e w1 ⟨rfl, hb⟩; have HB := Lib.hid (below_next HN.out.b.hb hb); replace HN := Lib.hid (HN.out.up hb); clear hb b0 b1 b2 k0 k1 k2; obtain ⟨b0, b1, b2, k0, k1, k2⟩ := HN.out.cells) | (go_at_call 70; refine (speaker_within _ _ _ _).mono ?_; rintro e w2 ⟨rfl, rfl⟩))
 go_loopw [30] (fun i wr => ∃ k : Nat, k ≤ 2 ∧ i = .int .i64 k ∧ Hid (1 ≤ k → inR h1 1 65536 = true) ∧ Hid (2 ≤ k → inR h2 1 65536 = true) ∧ wr = w1) (fun i _ => 3 - (intOf i).toNat)
 case atStart => exact ⟨0, by omega, rfl, Lib.hid (fun h => by omega), Lib.hid (fun h => by omega), rfl⟩
 case round =>
  obtain ⟨k, hk, rfl, H1, H2, rfl⟩ := hrel
  obtain rfl | rfl | rfl : k = 0 ∨ k = 1 ∨ k = 2 := by omega
  ·cases e1 : inR h1 1 65536 with
   | false =>
    go_wp2_with (go_at_call 70; refine (speaker_within _ _ _ _).mono ?_; rintro e w2 ⟨rfl, rfl⟩)
    go_ret2
    exact ⟨rfl, HB.out⟩
   | true =>
    have E1 := Lib.hid e1
    go_wp2_with (go_at_call 70; refine (speaker_within _ _ _ _).mono ?_; rintro e w2 ⟨rfl, rfl⟩)
    go_roundw
    case rel => exact ⟨1, by omega, rfl, Lib.hid (fun _ => by first | exact trivial | exact E1.out), Lib.hid (fun h => by omega), by first | exact trivial | rfl⟩
    case measure => simp [intOf]
  ·cases e1 : inR h2 1 65536 with
   | false =>
    go_wp2_with (go_at_call 70; refine (speaker_within _ _ _ _).mono ?_; rintro e w2 ⟨rfl, rfl⟩)
    go_ret2
    exact ⟨rfl, HB.out⟩
   | true =>
    have E1 := Lib.hid e1
    go_wp2_with (go_at_call 70; refine (speaker_within _ _ _ _).mono ?_; rintro e w2 ⟨rfl, rfl⟩)
    go_roundw
    case rel => exact ⟨2, by omega, rfl, Lib.hid (fun _ => H1.out (by omega)), Lib.hid (fun _ => by first | exact trivial | exact E1.out), by first | exact trivial | rfl⟩
    case measure => simp [intOf]
  ·cases e1 : inR h3 1 65536 with
   | false =>
    go_wp2_with (go_at_call 70; refine (speaker_within _ _ _ _).mono ?_; rintro e w2 ⟨rfl, rfl⟩)
    go_ret2
    exact ⟨rfl, HB.out⟩
   | true =>
    have := HTM.out
    rw [H1.out (by omega), H2.out (by omega), e1] at this
    cases this
set_option maxRecDepth 100000 in
set_option maxHeartbeats 1000000 in
theorem speaker_New_bad3 (c1 c2 : Nat) (v bt h1 h2 h3 : Int) (hT : TAt w A1 A2 t) (hv : valid t = true) (hx : inR bt 1 1073741824 = true) (e1 : inR h1 1 65536 = true) (e2 : inR h2 1 65536 = true) (e3 : inR h3 1 65536 = true) (hn : isN t.n v = false) :
  Calls Tryz.prog 33 #[.agg #[.int .i64 t.n, .slice A1 t.ov.length c1, .slice A2 t.ls.length c2], .int .i64 v, .int .i64 bt, .agg #[.int .i64 h1, .int .i64 h2, .int .i64 h3]] w fun e w' => e = .returned (.tuple #[.pointer none, .int .i64 2]) ∧ Below w.heap.size w w' := by
 have HN := Lib.hid (NBox.start c1 c2 h1 h2 h3 hT)
 obtain ⟨b0, b1, b2, k0, k1, k2⟩ := HN.out.cells
 have hx0 := idx3_0
 have hx1 := idx3_1
 have hx2 := idx3_2
 clear hT
 go_enter Tryz.func33, Tryz.ntmps33
 go_wp2_with (first | (go_at_call 54; refine (topology_Valid t _ _ _ _ _ HN.out.b.ta.ls).mono ?_; rw [hv]; rintro e w1 ⟨rfl, hb⟩; have HB := Lib.hid (below_next HN.out.b.hb hb); replace HN := Lib.hid (HN.out.up hb); clear hb b0 b1 b2 k0 k1 k2; obtain ⟨b0, b1, b2, k0, k1, k2⟩ := HN.out.cells) | (go_at_call 70; refine (speaker_within _ _ _ _).mono ?_; rintro e w2 ⟨rfl, rfl⟩))
 go_loopw [30] (fun i wr => ∃ k : Nat, k ≤ 3 ∧ i = .int .i64 k ∧ wr = w1) (fun i _ => 3 - (intOf i).toNat)
 case atStart => exact ⟨0, by omega, rfl, rfl⟩
 case round =>
  obtain ⟨k, hk, rfl, rfl⟩ := hrel
  obtain rfl | rfl | rfl | rfl : k = 0 ∨ k = 1 ∨ k = 2 ∨ k = 3 := by omega
  ·go_wp2_with (go_at_call 70; refine (speaker_within _ _ _ _).mono ?_; rintro e w2 ⟨rfl, rfl⟩)
   go_roundw
   case rel => exact ⟨1, by omega, rfl, by first | exact trivial | rfl⟩
   case measure => simp [intOf]
  ·go_wp2_with (go_at_call 70; refine (speaker_within _ _ _ _).mono ?_; rintro e w2 ⟨rfl, rfl⟩)
   go_roundw
   case rel => exact ⟨2, by omega, rfl, by first | exact trivial | rfl⟩
   case measure => simp [intOf]
  ·go_wp2_with (go_at_call 70; refine (speaker_within _ _ _ _).mono ?_; rintro e w2 ⟨rfl, rfl⟩)
   go_roundw
   case rel => exact ⟨3, by omega, rfl, by first | exact trivial | rfl⟩
   case measure => simp [intOf]
  ·go_wp2_with (go_at_call 67; refine (graph_Node _ _ _ _ _).mono ?_; rw [hn]; rintro e w3 ⟨rfl, hb⟩; replace HB := Lib.hid (below_next HB.out hb); clear hb)
   go_ret2
   exact ⟨rfl, HB.out⟩
end
end Go.Proofs.YtenhliibmcmnbaaGreat
namespace Go.Proofs.YtenhliibmcmnbaaGreat
set_option linter.unusedSimpArgs false
set_option linter.unusedVariables false
open Go.RowKit Go.Sort
/-- The boxes of router.New's parameters. -/
structure RBox (w : World) (A1 A2 : Option Addr) (c1 c2 : Nat) (t : Topo) (h1 h2 h3 g s : Int) (wr : World) : Prop where
 b : TBox w A1 A2 c1 c2 t wr
 k : Bl 28 (w.heap.size + 1) #[.int .i64 h1, .int .i64 h2, .int .i64 h3, .int .i64 g, .int .i64 s] wr
theorem RBox.up {w wr w' : World} {A1 A2 : Option Addr} {c1 c2 : Nat} {t : Topo} {h1 h2 h3 g s : Int} (h : RBox w A1 A2 c1 c2 t h1 h2 h3 g s wr) (hb : Below wr.heap.size wr w') : RBox w A1 A2 c1 c2 t h1 h2 h3 g s w' := ⟨h.b.up hb, h.k.up hb⟩
theorem Bl.c5 {T : TypeId} {b : Nat} {x0 x1 x2 x3 x4 : Value} {w : World} (h : Bl T b #[x0, x1, x2, x3, x4] w) : w.cell? ⟨b, 0, none⟩ = some x0 ∧ w.cell? ⟨b, 1, none⟩ = some x1 ∧ w.cell? ⟨b, 2, none⟩ = some x2 ∧ w.cell? ⟨b, 3, none⟩ = some x3 ∧ w.cell? ⟨b, 4, none⟩ = some x4 ∧ ∀ i, w.frozen? ⟨b, i, none⟩ = false :=
 ⟨h.cell 0 rfl, h.cell 1 rfl, h.cell 2 rfl, h.cell 3 rfl, h.cell 4 rfl, h.frz⟩
theorem two_size (w : World) (o p : Obj) : ((w.alloc o).alloc p).heap.size = w.heap.size + 2 := by simp
theorem RBox.start {w : World} {A1 A2 : Option Addr} {t : Topo} (c1 c2 : Nat) (h1 h2 h3 g s : Int) (hT : TAt w A1 A2 t) :
  RBox w A1 A2 c1 c2 t h1 h2 h3 g s ((w.alloc (.cells #[.int .i64 t.n, .slice A1 t.ov.length c1, .slice A2 t.ls.length c2] 25)).alloc (.cells #[.int .i64 h1, .int .i64 h2, .int .i64 h3, .int .i64 g, .int .i64 s] 28)) :=
 ⟨(TBox.start c1 c2 hT).up (below_box _ _), (two_new w _ _ _ _).2⟩
section
variable {w : World} {A1 A2 : Option Addr} {t : Topo}
set_option maxRecDepth 100000 in
set_option maxHeartbeats 2000000 in
theorem router_New_bad1 (c1 c2 : Nat) (v bt h1 h2 h3 g s : Int) (hT : TAt w A1 A2 t) (hx : (inR g 1 65536 && inR s 1 65536) = false) :
  Calls Tryz.prog 6 #[.agg #[.int .i64 t.n, .slice A1 t.ov.length c1, .slice A2 t.ls.length c2], .int .i64 v, .int .i64 bt, .agg #[.int .i64 h1, .int .i64 h2, .int .i64 h3, .int .i64 g, .int .i64 s]] w fun e w' => e = .returned (.tuple #[.pointer none, .int .i64 1]) ∧ Below w.heap.size w w' := by
 have hR := RBox.start c1 c2 h1 h2 h3 g s hT
 obtain ⟨k0, k1, k2, k3, k4, fk⟩ := hR.k.c5
 have HB := Lib.hid hR.b.hb
 have HZ := Lib.hid (two_size w (.cells #[.int .i64 t.n, .slice A1 t.ov.length c1, .slice A2 t.ls.length c2] 25) (.cells #[.int .i64 h1, .int .i64 h2, .int .i64 h3, .int .i64 g, .int .i64 s] 28))
 clear hT hR k0 k1 k2
 go_enter Tryz.func6, Tryz.ntmps6
 go_upto_region 2 with fail
 refine wp_named (fun Y => (∃ p, p = w.heap.size + 2 ∧ Bl 85 p #[.int .i64 g, .int .i64 s] Y) ∧ Below w.heap.size w Y) ⟨⟨_, rfl, HZ.out ▸ Bl.new _ _ _⟩, by (repeat' (first | (with_reducible exact HB.out) | (with_reducible refine Bset ?_ ?_) | (with_reducible refine Bdrw ?_) | (with_reducible refine Bbox ?_ ?_) | omega | (simp; done) | (simp; omega)))⟩ ?_
 rintro Y ⟨⟨p, hp, hb1⟩, hb2⟩
 obtain ⟨z0, z1, fz⟩ := hb1.c2
 have HY := Lib.hid hb2
 rw [← hp]
 clear hb1 hb2 hp fz k3 k4 fk
 have kq_z0 := cell_regrown z0
 have kq_z1 := cell_regrown z1
 refine wp_region_quiet_below (by kernel_rfl) (by kernel_rfl) ?_
 repeat (go_big_quiet_step (first | with_reducible exact Calls.regrown_of (stages_Start _) | with_reducible exact Calls.regrown_of (stages_Valid0 _ _ _)))
 refine wpQuiet_nil ?_
 intro w2 hb2
 replace hb2 := below_of_regrown hb2
 clear kq_z0 kq_z1
 replace z0 := cell_up hb2 z0
 replace z1 := cell_up hb2 z1
 rw [hx]
 go_wp2_with fail
 go_ret2
 exact ⟨rfl, below_next HY.out hb2⟩
set_option maxRecDepth 100000 in
set_option maxHeartbeats 2000000 in
theorem router_New_bad2 (c1 c2 : Nat) (v bt h1 h2 h3 g s k : Int) (hk : k = 1 ∨ k = 2) (hT : TAt w A1 A2 t) (hx : (inR g 1 65536 && inR s 1 65536) = true)
  (hS : ∀ (W : World) (c1 c2 : Nat), TAt W A1 A2 t → Calls Tryz.prog 33 #[.agg #[.int .i64 t.n, .slice A1 t.ov.length c1, .slice A2 t.ls.length c2], .int .i64 v, .int .i64 bt, .agg #[.int .i64 h1, .int .i64 h2, .int .i64 h3]] W fun e w' => e = .returned (.tuple #[.pointer none, .int .i64 k]) ∧ Below W.heap.size W w') :
  Calls Tryz.prog 6 #[.agg #[.int .i64 t.n, .slice A1 t.ov.length c1, .slice A2 t.ls.length c2], .int .i64 v, .int .i64 bt, .agg #[.int .i64 h1, .int .i64 h2, .int .i64 h3, .int .i64 g, .int .i64 s]] w fun e w' => e = .returned (.tuple #[.pointer none, .int .i64 k]) ∧ Below w.heap.size w w' := by
 have hR := RBox.start c1 c2 h1 h2 h3 g s hT
 obtain ⟨k0, k1, k2, k3, k4, fk⟩ := hR.k.c5
 have HR := Lib.hid hR
 have HSP := Lib.hid hS
 have HZ := Lib.hid (two_size w (.cells #[.int .i64 t.n, .slice A1 t.ov.length c1, .slice A2 t.ls.length c2] 25) (.cells #[.int .i64 h1, .int .i64 h2, .int .i64 h3, .int .i64 g, .int .i64 s] 28))
 have hkn : (k != 0) = true := by rcases hk with rfl | rfl <;> rfl
 clear hT hR hS k0 k1 k2 hk
 go_enter Tryz.func6, Tryz.ntmps6
 go_upto_region 2 with fail
 refine wp_named (fun Y => (∃ p, p = w.heap.size + 2 ∧ Bl 85 p #[.int .i64 g, .int .i64 s] Y) ∧ RBox w A1 A2 c1 c2 t h1 h2 h3 g s Y) ⟨⟨_, rfl, HZ.out ▸ Bl.new _ _ _⟩, HR.out.up (below_box _ _)⟩ ?_
 rintro Y ⟨⟨p, hp, hb1⟩, hb2⟩
 obtain ⟨z0, z1, fz⟩ := hb1.c2
 rw [← hp]
 clear hb1 hp fz k3 k4 fk HR
 have HR := Lib.hid hb2
 clear hb2
 have kq_z0 := cell_regrown z0
 have kq_z1 := cell_regrown z1
 refine wp_region_quiet_below (by kernel_rfl) (by kernel_rfl) ?_
 repeat (go_big_quiet_step (first | with_reducible exact Calls.regrown_of (stages_Start _) | with_reducible exact Calls.regrown_of (stages_Valid0 _ _ _)))
 refine wpQuiet_nil ?_
 intro w2 hb2
 replace hb2 := below_of_regrown hb2
 clear kq_z0 kq_z1
 replace z0 := cell_up hb2 z0
 replace z1 := cell_up hb2 z1
 rw [hx]
 replace HR := Lib.hid (HR.out.up hb2)
 obtain ⟨b0, b1, b2⟩ := HR.out.b.cells
 obtain ⟨k0, k1, k2, k3, k4, fk⟩ := HR.out.k.c5
 clear k3 k4 hb2
 go_wp2_with (go_at_call 33; (with_reducible refine (HSP.out _ _ _ HR.out.b.ta).mono ?_); rintro e w3 ⟨rfl, hb⟩; replace HR := Lib.hid (HR.out.up hb); clear hb)
 go_ret2
 exact ⟨rfl, HR.out.b.hb⟩
end
end Go.Proofs.YtenhliibmcmnbaaGreat
