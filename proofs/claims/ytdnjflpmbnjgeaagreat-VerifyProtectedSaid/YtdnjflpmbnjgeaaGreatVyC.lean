/-
  The small functions of package verify (printed by gen_vyc.py).
-/
import Derived.Test.YtdnjflpmbnjgeaaGreatPkEvs
import Derived.Test.YtdnjflpmbnjgeaaGreatPkSpfD
set_option linter.unusedSimpArgs false
set_option linter.unusedVariables false
namespace Go.Proofs.YtdnjflpmbnjgeaaGreat
section
open Go.RowKit Go.Sort
section
variable {w : World}
theorem kQ {P : Program} {c : Code} {Q : Exit → Act → World → Prop} {a : Act} {W : World} (R : World → Prop) (h : R W) (k : ∀ W', R W' → c.wp P Q a W') : c.wp P Q a W := k W h
theorem vy_within (n a b : Int) : Calls Tryz.prog 30 #[.int .i64 n, .int .i64 a, .int .i64 b] w fun e w' => e = .returned (.bool (inR n a b)) ∧ Below w.heap.size w w' := by
 have HB := hU (Below.refl w.heap.size w)
 obtain ⟨R, hR⟩ : ∃ R, R = inR n a b := ⟨_, rfl⟩
 rw [← hR]
 by_cases h1 : a ≤ n
 ·by_cases h2 : n ≤ b
  ·obtain rfl : R = true := by rw [hR]; exact inR_true.2 ⟨h1, h2⟩
   clear hR
   go_enter Tryz.func30, Tryz.ntmps30
   go_wp2_with fail
   go_ret
   exact ⟨rfl, HB.out⟩
  ·obtain rfl : R = false := by rw [hR]; exact inR_false.2 (by omega)
   clear hR
   go_enter Tryz.func30, Tryz.ntmps30
   go_wp2_with fail
   go_ret
   exact ⟨rfl, HB.out⟩
 ·obtain rfl : R = false := by rw [hR]; exact inR_false.2 (by omega)
  clear hR
  go_enter Tryz.func30, Tryz.ntmps30
  go_wp2_with fail
  go_ret
  exact ⟨rfl, HB.out⟩
theorem vy_early (s : Int) : Calls Tryz.prog 57 #[.int .i64 s] w fun e w' => e = .returned (.bool (earlyB s)) ∧ Below w.heap.size w w' := by
 have HB := hU (Below.refl w.heap.size w)
 obtain ⟨R, hR⟩ : ∃ R, R = earlyB s := ⟨_, rfl⟩
 rw [← hR]
 by_cases h0 : s = 0
 ·subst h0
  obtain rfl : R = true := by rw [hR]; rfl
  go_enter Tryz.func57, Tryz.ntmps57
  go_wp2_with fail
  go_ret
  exact ⟨rfl, HB.out⟩
 ·by_cases h1 : s = 1
  ·subst h1
   obtain rfl : R = true := by rw [hR]; rfl
   go_enter Tryz.func57, Tryz.ntmps57
   go_wp2_with fail
   go_ret
   exact ⟨rfl, HB.out⟩
  ·obtain rfl : R = false := by rw [hR]; simp [earlyB, h0, h1]
   have z0 : (s == 0) = false := beq_eq_false_iff_ne.2 h0
   have z1 : (s == 1) = false := beq_eq_false_iff_ne.2 h1
   clear hR
   go_enter Tryz.func57, Tryz.ntmps57
   go_wp2_with fail
   go_ret
   exact ⟨rfl, HB.out⟩
set_option maxRecDepth 100000 in
theorem vy_componentOf (x k n a p r : Int) : Calls Tryz.prog 58 #[.agg #[.int .i64 x, .int .i64 k, .int .i64 n, .int .i64 a, .int .i64 p, .int .i64 r]] w fun e w' => e = .returned (.agg #[.int .i64 a, .int .i64 r]) ∧ Below w.heap.size w w' := by
 have HB := hU (Below.refl w.heap.size w)
 go_enter Tryz.func58, Tryz.ntmps58
 go_wp2_with fail
 exact bodyPost_ret (v := .agg #[.int .i64 a, .int .i64 r]) (by simp [results, Tryz.results58, go_sem]) rfl ⟨rfl, by (repeat' (first | (with_reducible exact HB.out) | (with_reducible refine Bset ?_ ?_) | (with_reducible refine Bdrw ?_) | (with_reducible refine Bbox ?_ ?_) | omega | (simp; done) | (simp; omega)))⟩
set_option maxRecDepth 100000 in
theorem vy_onArc (x k n a p r : Int) : Calls Tryz.prog 56 #[.agg #[.int .i64 x, .int .i64 k, .int .i64 n, .int .i64 a, .int .i64 p, .int .i64 r]] w fun e w' => e = .returned (.bool (lossB ⟨x, k, n, a, p, r⟩)) ∧ Below w.heap.size w w' := by
 have HB := hU (Below.refl w.heap.size w)
 obtain ⟨R, hR⟩ : ∃ R, R = lossB ⟨x, k, n, a, p, r⟩ := ⟨_, rfl⟩
 rw [← hR]
 by_cases g : k = 4
 ·subst g
  by_cases g3 : r = 3
  ·subst g3
   have HRV : Hid (R = true) := hU (by rw [hR]; rfl)
   clear hR
   go_enter Tryz.func56, Tryz.ntmps56
   go_wp2_with fail
   go_ret
   exact ⟨by rw [HRV.out]; first | rfl | simp_all, by (repeat' (first | (with_reducible exact HB.out) | (with_reducible refine Bset ?_ ?_) | (with_reducible refine Bdrw ?_) | (with_reducible refine Bbox ?_ ?_) | omega | (simp; done) | (simp; omega)))⟩
  by_cases g6 : r = 6
  ·subst g6
   have HRV : Hid (R = true) := hU (by rw [hR]; rfl)
   clear hR
   go_enter Tryz.func56, Tryz.ntmps56
   go_wp2_with fail
   go_ret
   exact ⟨by rw [HRV.out]; first | rfl | simp_all, by (repeat' (first | (with_reducible exact HB.out) | (with_reducible refine Bset ?_ ?_) | (with_reducible refine Bdrw ?_) | (with_reducible refine Bbox ?_ ?_) | omega | (simp; done) | (simp; omega)))⟩
  by_cases g7 : r = 7
  ·subst g7
   have HRV : Hid (R = true) := hU (by rw [hR]; rfl)
   clear hR
   go_enter Tryz.func56, Tryz.ntmps56
   go_wp2_with fail
   go_ret
   exact ⟨by rw [HRV.out]; first | rfl | simp_all, by (repeat' (first | (with_reducible exact HB.out) | (with_reducible refine Bset ?_ ?_) | (with_reducible refine Bdrw ?_) | (with_reducible refine Bbox ?_ ?_) | omega | (simp; done) | (simp; omega)))⟩
  have HRV : Hid (R = false) := hU (by rw [hR]; simp [lossB, onArcB, g3, g6, g7])
  clear hR
  go_enter Tryz.func56, Tryz.ntmps56
  go_wp2_with fail
  go_ret
  exact ⟨by rw [HRV.out]; first | rfl | simp_all, by (repeat' (first | (with_reducible exact HB.out) | (with_reducible refine Bset ?_ ?_) | (with_reducible refine Bdrw ?_) | (with_reducible refine Bbox ?_ ?_) | omega | (simp; done) | (simp; omega)))⟩
 ·skip
  have HRV : Hid (R = false) := hU (by rw [hR]; simp [lossB, g])
  clear hR
  go_enter Tryz.func56, Tryz.ntmps56
  go_wp2_with fail
  go_ret
  exact ⟨by rw [HRV.out]; first | rfl | simp_all, by (repeat' (first | (with_reducible exact HB.out) | (with_reducible refine Bset ?_ ?_) | (with_reducible refine Bdrw ?_) | (with_reducible refine Bbox ?_ ?_) | omega | (simp; done) | (simp; omega)))⟩
set_option maxRecDepth 100000 in
theorem vy_handling (x k n a p r : Int) : Calls Tryz.prog 54 #[.agg #[.int .i64 x, .int .i64 k, .int .i64 n, .int .i64 a, .int .i64 p, .int .i64 r]] w fun e w' => e = .returned (.bool (handB ⟨x, k, n, a, p, r⟩)) ∧ Below w.heap.size w w' := by
 have HB := hU (Below.refl w.heap.size w)
 obtain ⟨R, hR⟩ : ∃ R, R = handB ⟨x, k, n, a, p, r⟩ := ⟨_, rfl⟩
 rw [← hR]
 by_cases g2 : k = 2
 ·subst g2
  have HRV : Hid (R = true) := hU (by rw [hR]; rfl)
  clear hR
  go_enter Tryz.func54, Tryz.ntmps54
  go_wp2_with fail
  go_ret
  exact ⟨by rw [HRV.out]; first | rfl | simp_all, by (repeat' (first | (with_reducible exact HB.out) | (with_reducible refine Bset ?_ ?_) | (with_reducible refine Bdrw ?_) | (with_reducible refine Bbox ?_ ?_) | omega | (simp; done) | (simp; omega)))⟩
 by_cases g3 : k = 3
 ·subst g3
  have HRV : Hid (R = true) := hU (by rw [hR]; rfl)
  clear hR
  go_enter Tryz.func54, Tryz.ntmps54
  go_wp2_with fail
  go_ret
  exact ⟨by rw [HRV.out]; first | rfl | simp_all, by (repeat' (first | (with_reducible exact HB.out) | (with_reducible refine Bset ?_ ?_) | (with_reducible refine Bdrw ?_) | (with_reducible refine Bbox ?_ ?_) | omega | (simp; done) | (simp; omega)))⟩
 by_cases g4 : k = 4
 ·subst g4
  have HR : Hid (R = !lossB ⟨x, 4, n, a, p, r⟩) := hU (by rw [hR]; simp [handB, lossB])
  clear hR
  go_enter Tryz.func54, Tryz.ntmps54
  go_wp2_with (go_at_call 56; refine (vy_onArc x 4 n a p r).mono ?_; rintro e w1 ⟨rfl, hb⟩; have HB1 := hU (bQ (show Below w.heap.size w _ from by (repeat' (first | (with_reducible exact HB.out) | (with_reducible refine Bset ?_ ?_) | (with_reducible refine Bdrw ?_) | (with_reducible refine Bbox ?_ ?_) | omega | (simp; done) | (simp; omega)))) hb); clear hb)
  go_ret
  exact ⟨by rw [HR.out]; rfl, HB1.out⟩
 ·skip
  have HRV : Hid (R = false) := hU (by rw [hR]; simp [handB, g2, g3, g4])
  clear hR
  go_enter Tryz.func54, Tryz.ntmps54
  go_wp2_with fail
  go_ret
  exact ⟨by rw [HRV.out]; first | rfl | simp_all, by (repeat' (first | (with_reducible exact HB.out) | (with_reducible refine Bset ?_ ?_) | (with_reducible refine Bdrw ?_) | (with_reducible refine Bbox ?_ ?_) | omega | (simp; done) | (simp; omega)))⟩
set_option maxRecDepth 100000 in
theorem vy_ofPacket (x k n a p r : Int) : Calls Tryz.prog 53 #[.agg #[.int .i64 x, .int .i64 k, .int .i64 n, .int .i64 a, .int .i64 p, .int .i64 r]] w fun e w' => e = .returned (.bool (ofPkB ⟨x, k, n, a, p, r⟩)) ∧ Below w.heap.size w w' := by
 have HB := hU (Below.refl w.heap.size w)
 go_enter Tryz.func53, Tryz.ntmps53
 go_wp2_with (go_at_call 30; refine (vy_within k 1 4).mono ?_; rintro e w1 ⟨rfl, hb⟩; have HB1 := hU (bQ (show Below w.heap.size w _ from by (repeat' (first | (with_reducible exact HB.out) | (with_reducible refine Bset ?_ ?_) | (with_reducible refine Bdrw ?_) | (with_reducible refine Bbox ?_ ?_) | omega | (simp; done) | (simp; omega)))) hb); clear hb)
 go_ret
 exact ⟨rfl, HB1.out⟩
set_option maxRecDepth 100000 in
set_option maxHeartbeats 2000000 in
theorem vy_named (t : Topo) (A1 A2 : Option Addr) (c1 c2 : Nat) (x k n a p r : Int) (hT : TAt w A1 A2 t) (hl : t.ls.length ≤ 100000) :
    Calls Tryz.prog 34 #[.agg #[.int .i64 t.n, .slice A1 t.ov.length c1, .slice A2 t.ls.length c2], .agg #[.int .i64 x, .int .i64 k, .int .i64 n, .int .i64 a, .int .i64 p, .int .i64 r]] w fun e w' => e = .returned (.bool (xQ t ⟨x, k, n, a, p, r⟩)) ∧ Below w.heap.size w w' := by
 have hX := TBox.start c1 c2 hT
 have HT := hU hT
 have HX0 := hU hX
 obtain ⟨R, hR⟩ : ∃ R, R = xQ t ⟨x, k, n, a, p, r⟩ := ⟨_, rfl⟩
 rw [← hR]
 clear hX hT
 by_cases g5 : k = 5
 ·subst g5
  have HR : Hid (R = gZ t a r) := hU (by rw [hR]; simp [xQ])
  clear hR
  go_enter Tryz.func34, Tryz.ntmps34
  go_upto_region 1 with fail
  refine kQ (fun X => TBox w A1 A2 c1 c2 t X ∧ Bl 43 (w.heap.size + 1) #[.int .i64 x, .int .i64 5, .int .i64 n, .int .i64 a, .int .i64 p, .int .i64 r] X) ⟨HX0.out.up (cQ _ _), by simpa using Bl.new (w.alloc (.cells #[.int .i64 t.n, .slice A1 t.ov.length c1, .slice A2 t.ls.length c2] 25)) _ _⟩ ?_
  rintro X ⟨hX, hE⟩
  have HX := hU hX
  have HE := hU hE
  clear hX hE HX0
  obtain ⟨b0, b1, b2⟩ := HX.out.cells
  obtain ⟨e0, e1, e2, e3, e4, e5, _⟩ := HE.out.c6
  go_wp2_with (go_at_call 31; (with_reducible refine (component_Valid t _ _ _ _ a r _ HX.out.ta).mono ?_); rintro e w1 ⟨rfl, hb⟩; replace HX := hU (HX.out.up hb); replace HE := hU (HE.out.up hb); clear hb b0 b1 b2 e0 e1 e2 e3 e4 e5; obtain ⟨b0, b1, b2⟩ := HX.out.cells; obtain ⟨e0, e1, e2, e3, e4, e5, _⟩ := HE.out.c6)
  go_ret
  exact ⟨by rw [HR.out]; rfl, HX.out.hb⟩
 by_cases g6 : k = 6
 ·subst g6
  have HR : Hid (R = gZ t a r) := hU (by rw [hR]; simp [xQ])
  clear hR
  go_enter Tryz.func34, Tryz.ntmps34
  go_upto_region 1 with fail
  refine kQ (fun X => TBox w A1 A2 c1 c2 t X ∧ Bl 43 (w.heap.size + 1) #[.int .i64 x, .int .i64 6, .int .i64 n, .int .i64 a, .int .i64 p, .int .i64 r] X) ⟨HX0.out.up (cQ _ _), by simpa using Bl.new (w.alloc (.cells #[.int .i64 t.n, .slice A1 t.ov.length c1, .slice A2 t.ls.length c2] 25)) _ _⟩ ?_
  rintro X ⟨hX, hE⟩
  have HX := hU hX
  have HE := hU hE
  clear hX hE HX0
  obtain ⟨b0, b1, b2⟩ := HX.out.cells
  obtain ⟨e0, e1, e2, e3, e4, e5, _⟩ := HE.out.c6
  go_wp2_with (go_at_call 31; (with_reducible refine (component_Valid t _ _ _ _ a r _ HX.out.ta).mono ?_); rintro e w1 ⟨rfl, hb⟩; replace HX := hU (HX.out.up hb); replace HE := hU (HE.out.up hb); clear hb b0 b1 b2 e0 e1 e2 e3 e4 e5; obtain ⟨b0, b1, b2⟩ := HX.out.cells; obtain ⟨e0, e1, e2, e3, e4, e5, _⟩ := HE.out.c6)
  go_ret
  exact ⟨by rw [HR.out]; rfl, HX.out.hb⟩
 by_cases g2 : k = 2
 ·subst g2
  cases hn : isN t.n n with
  | false =>
   have HR : Hid (R = false) := hU (by rw [hR]; simp [xQ, hn])
   clear hR
   go_enter Tryz.func34, Tryz.ntmps34
   go_upto_region 1 with fail
   refine kQ (fun X => TBox w A1 A2 c1 c2 t X ∧ Bl 43 (w.heap.size + 1) #[.int .i64 x, .int .i64 2, .int .i64 n, .int .i64 a, .int .i64 p, .int .i64 r] X) ⟨HX0.out.up (cQ _ _), by simpa using Bl.new (w.alloc (.cells #[.int .i64 t.n, .slice A1 t.ov.length c1, .slice A2 t.ls.length c2] 25)) _ _⟩ ?_
   rintro X ⟨hX, hE⟩
   have HX := hU hX
   have HE := hU hE
   clear hX hE HX0
   obtain ⟨b0, b1, b2⟩ := HX.out.cells
   obtain ⟨e0, e1, e2, e3, e4, e5, _⟩ := HE.out.c6
   go_wp2_with (go_at_call 32; (with_reducible refine (cZ t.n n _ _ _).mono ?_); rw [hn]; rintro e w1 ⟨rfl, hb⟩; replace HX := hU (HX.out.up hb); replace HE := hU (HE.out.up hb); clear hb b0 b1 b2 e0 e1 e2 e3 e4 e5; obtain ⟨b0, b1, b2⟩ := HX.out.cells; obtain ⟨e0, e1, e2, e3, e4, e5, _⟩ := HE.out.c6)
   go_ret
   exact ⟨by rw [HR.out]; rfl, HX.out.hb⟩
  | true =>
   have HR : Hid (R = isN (2 * (t.ls.length : Int)) a) := hU (by rw [hR]; simp [xQ, hn])
   clear hR
   go_enter Tryz.func34, Tryz.ntmps34
   go_upto_region 1 with fail
   refine kQ (fun X => TBox w A1 A2 c1 c2 t X ∧ Bl 43 (w.heap.size + 1) #[.int .i64 x, .int .i64 2, .int .i64 n, .int .i64 a, .int .i64 p, .int .i64 r] X) ⟨HX0.out.up (cQ _ _), by simpa using Bl.new (w.alloc (.cells #[.int .i64 t.n, .slice A1 t.ov.length c1, .slice A2 t.ls.length c2] 25)) _ _⟩ ?_
   rintro X ⟨hX, hE⟩
   have HX := hU hX
   have HE := hU hE
   clear hX hE HX0
   obtain ⟨b0, b1, b2⟩ := HX.out.cells
   obtain ⟨e0, e1, e2, e3, e4, e5, _⟩ := HE.out.c6
   go_wp2_with (first | (go_at_call 32; (with_reducible refine (cZ t.n n _ _ _).mono ?_); rw [hn]; rintro e w1 ⟨rfl, hb⟩; replace HX := hU (HX.out.up hb); replace HE := hU (HE.out.up hb); clear hb b0 b1 b2 e0 e1 e2 e3 e4 e5; obtain ⟨b0, b1, b2⟩ := HX.out.cells; obtain ⟨e0, e1, e2, e3, e4, e5, _⟩ := HE.out.c6) | (go_at_call 64; (with_reducible refine (graph_Arc _ _ _ _ _ a _ hl).mono ?_); rintro e w1 ⟨rfl, hb⟩; replace HX := hU (HX.out.up hb); replace HE := hU (HE.out.up hb); clear hb b0 b1 b2 e0 e1 e2 e3 e4 e5; obtain ⟨b0, b1, b2⟩ := HX.out.cells; obtain ⟨e0, e1, e2, e3, e4, e5, _⟩ := HE.out.c6))
   go_ret
   exact ⟨by rw [HR.out]; rfl, HX.out.hb⟩
 by_cases g7 : k = 7
 ·subst g7
  cases hn : isN t.n n with
  | false =>
   have HR : Hid (R = false) := hU (by rw [hR]; simp [xQ, hn])
   clear hR
   go_enter Tryz.func34, Tryz.ntmps34
   go_upto_region 1 with fail
   refine kQ (fun X => TBox w A1 A2 c1 c2 t X ∧ Bl 43 (w.heap.size + 1) #[.int .i64 x, .int .i64 7, .int .i64 n, .int .i64 a, .int .i64 p, .int .i64 r] X) ⟨HX0.out.up (cQ _ _), by simpa using Bl.new (w.alloc (.cells #[.int .i64 t.n, .slice A1 t.ov.length c1, .slice A2 t.ls.length c2] 25)) _ _⟩ ?_
   rintro X ⟨hX, hE⟩
   have HX := hU hX
   have HE := hU hE
   clear hX hE HX0
   obtain ⟨b0, b1, b2⟩ := HX.out.cells
   obtain ⟨e0, e1, e2, e3, e4, e5, _⟩ := HE.out.c6
   go_wp2_with (go_at_call 32; (with_reducible refine (cZ t.n n _ _ _).mono ?_); rw [hn]; rintro e w1 ⟨rfl, hb⟩; replace HX := hU (HX.out.up hb); replace HE := hU (HE.out.up hb); clear hb b0 b1 b2 e0 e1 e2 e3 e4 e5; obtain ⟨b0, b1, b2⟩ := HX.out.cells; obtain ⟨e0, e1, e2, e3, e4, e5, _⟩ := HE.out.c6)
   go_ret
   exact ⟨by rw [HR.out]; rfl, HX.out.hb⟩
  | true =>
   have HR : Hid (R = isN (2 * (t.ls.length : Int)) a) := hU (by rw [hR]; simp [xQ, hn])
   clear hR
   go_enter Tryz.func34, Tryz.ntmps34
   go_upto_region 1 with fail
   refine kQ (fun X => TBox w A1 A2 c1 c2 t X ∧ Bl 43 (w.heap.size + 1) #[.int .i64 x, .int .i64 7, .int .i64 n, .int .i64 a, .int .i64 p, .int .i64 r] X) ⟨HX0.out.up (cQ _ _), by simpa using Bl.new (w.alloc (.cells #[.int .i64 t.n, .slice A1 t.ov.length c1, .slice A2 t.ls.length c2] 25)) _ _⟩ ?_
   rintro X ⟨hX, hE⟩
   have HX := hU hX
   have HE := hU hE
   clear hX hE HX0
   obtain ⟨b0, b1, b2⟩ := HX.out.cells
   obtain ⟨e0, e1, e2, e3, e4, e5, _⟩ := HE.out.c6
   go_wp2_with (first | (go_at_call 32; (with_reducible refine (cZ t.n n _ _ _).mono ?_); rw [hn]; rintro e w1 ⟨rfl, hb⟩; replace HX := hU (HX.out.up hb); replace HE := hU (HE.out.up hb); clear hb b0 b1 b2 e0 e1 e2 e3 e4 e5; obtain ⟨b0, b1, b2⟩ := HX.out.cells; obtain ⟨e0, e1, e2, e3, e4, e5, _⟩ := HE.out.c6) | (go_at_call 64; (with_reducible refine (graph_Arc _ _ _ _ _ a _ hl).mono ?_); rintro e w1 ⟨rfl, hb⟩; replace HX := hU (HX.out.up hb); replace HE := hU (HE.out.up hb); clear hb b0 b1 b2 e0 e1 e2 e3 e4 e5; obtain ⟨b0, b1, b2⟩ := HX.out.cells; obtain ⟨e0, e1, e2, e3, e4, e5, _⟩ := HE.out.c6))
   go_ret
   exact ⟨by rw [HR.out]; rfl, HX.out.hb⟩
 by_cases g4 : k = 4
 ·subst g4
  cases hn : isN t.n n with
  | false =>
   have HR : Hid (R = false) := hU (by rw [hR]; simp [xQ, hn])
   clear hR
   go_enter Tryz.func34, Tryz.ntmps34
   go_upto_region 1 with fail
   refine kQ (fun X => TBox w A1 A2 c1 c2 t X ∧ Bl 43 (w.heap.size + 1) #[.int .i64 x, .int .i64 4, .int .i64 n, .int .i64 a, .int .i64 p, .int .i64 r] X) ⟨HX0.out.up (cQ _ _), by simpa using Bl.new (w.alloc (.cells #[.int .i64 t.n, .slice A1 t.ov.length c1, .slice A2 t.ls.length c2] 25)) _ _⟩ ?_
   rintro X ⟨hX, hE⟩
   have HX := hU hX
   have HE := hU hE
   clear hX hE HX0
   obtain ⟨b0, b1, b2⟩ := HX.out.cells
   obtain ⟨e0, e1, e2, e3, e4, e5, _⟩ := HE.out.c6
   go_wp2_with (go_at_call 32; (with_reducible refine (cZ t.n n _ _ _).mono ?_); rw [hn]; rintro e w1 ⟨rfl, hb⟩; replace HX := hU (HX.out.up hb); replace HE := hU (HE.out.up hb); clear hb b0 b1 b2 e0 e1 e2 e3 e4 e5; obtain ⟨b0, b1, b2⟩ := HX.out.cells; obtain ⟨e0, e1, e2, e3, e4, e5, _⟩ := HE.out.c6)
   go_ret
   exact ⟨by rw [HR.out]; rfl, HX.out.hb⟩
  | true =>
   cases ho : onArcB r with
   | false =>
    have HR : Hid (R = true) := hU (by rw [hR]; simp [xQ, hn, ho])
    clear hR
    go_enter Tryz.func34, Tryz.ntmps34
    go_upto_region 1 with fail
    refine kQ (fun X => TBox w A1 A2 c1 c2 t X ∧ Bl 43 (w.heap.size + 1) #[.int .i64 x, .int .i64 4, .int .i64 n, .int .i64 a, .int .i64 p, .int .i64 r] X) ⟨HX0.out.up (cQ _ _), by simpa using Bl.new (w.alloc (.cells #[.int .i64 t.n, .slice A1 t.ov.length c1, .slice A2 t.ls.length c2] 25)) _ _⟩ ?_
    rintro X ⟨hX, hE⟩
    have HX := hU hX
    have HE := hU hE
    clear hX hE HX0
    obtain ⟨b0, b1, b2⟩ := HX.out.cells
    obtain ⟨e0, e1, e2, e3, e4, e5, _⟩ := HE.out.c6
    go_wp2_with (first | (go_at_call 32; (with_reducible refine (cZ t.n n _ _ _).mono ?_); rw [hn]; rintro e w1 ⟨rfl, hb⟩; replace HX := hU (HX.out.up hb); replace HE := hU (HE.out.up hb); clear hb b0 b1 b2 e0 e1 e2 e3 e4 e5; obtain ⟨b0, b1, b2⟩ := HX.out.cells; obtain ⟨e0, e1, e2, e3, e4, e5, _⟩ := HE.out.c6) | (go_at_call 56; (with_reducible refine (vy_onArc x 4 n a p r).mono ?_); rw [show lossB ⟨x, 4, n, a, p, r⟩ = onArcB r from by simp [lossB], ho]; rintro e w1 ⟨rfl, hb⟩; replace HX := hU (HX.out.up hb); replace HE := hU (HE.out.up hb); clear hb b0 b1 b2 e0 e1 e2 e3 e4 e5; obtain ⟨b0, b1, b2⟩ := HX.out.cells; obtain ⟨e0, e1, e2, e3, e4, e5, _⟩ := HE.out.c6))
    go_ret
    exact ⟨by rw [HR.out]; rfl, HX.out.hb⟩
   | true =>
    have HR : Hid (R = isN (2 * (t.ls.length : Int)) a) := hU (by rw [hR]; simp [xQ, hn, ho])
    clear hR
    go_enter Tryz.func34, Tryz.ntmps34
    go_upto_region 1 with fail
    refine kQ (fun X => TBox w A1 A2 c1 c2 t X ∧ Bl 43 (w.heap.size + 1) #[.int .i64 x, .int .i64 4, .int .i64 n, .int .i64 a, .int .i64 p, .int .i64 r] X) ⟨HX0.out.up (cQ _ _), by simpa using Bl.new (w.alloc (.cells #[.int .i64 t.n, .slice A1 t.ov.length c1, .slice A2 t.ls.length c2] 25)) _ _⟩ ?_
    rintro X ⟨hX, hE⟩
    have HX := hU hX
    have HE := hU hE
    clear hX hE HX0
    obtain ⟨b0, b1, b2⟩ := HX.out.cells
    obtain ⟨e0, e1, e2, e3, e4, e5, _⟩ := HE.out.c6
    go_wp2_with (first | (go_at_call 32; (with_reducible refine (cZ t.n n _ _ _).mono ?_); rw [hn]; rintro e w1 ⟨rfl, hb⟩; replace HX := hU (HX.out.up hb); replace HE := hU (HE.out.up hb); clear hb b0 b1 b2 e0 e1 e2 e3 e4 e5; obtain ⟨b0, b1, b2⟩ := HX.out.cells; obtain ⟨e0, e1, e2, e3, e4, e5, _⟩ := HE.out.c6) | (go_at_call 56; (with_reducible refine (vy_onArc x 4 n a p r).mono ?_); rw [show lossB ⟨x, 4, n, a, p, r⟩ = onArcB r from by simp [lossB], ho]; rintro e w1 ⟨rfl, hb⟩; replace HX := hU (HX.out.up hb); replace HE := hU (HE.out.up hb); clear hb b0 b1 b2 e0 e1 e2 e3 e4 e5; obtain ⟨b0, b1, b2⟩ := HX.out.cells; obtain ⟨e0, e1, e2, e3, e4, e5, _⟩ := HE.out.c6) | (go_at_call 64; (with_reducible refine (graph_Arc _ _ _ _ _ a _ hl).mono ?_); rintro e w1 ⟨rfl, hb⟩; replace HX := hU (HX.out.up hb); replace HE := hU (HE.out.up hb); clear hb b0 b1 b2 e0 e1 e2 e3 e4 e5; obtain ⟨b0, b1, b2⟩ := HX.out.cells; obtain ⟨e0, e1, e2, e3, e4, e5, _⟩ := HE.out.c6))
    go_ret
    exact ⟨by rw [HR.out]; rfl, HX.out.hb⟩
 by_cases g9 : k = 9
 ·subst g9
  cases hn : isN t.n n with
  | false =>
   have HR : Hid (R = false) := hU (by rw [hR]; simp [xQ, hn])
   clear hR
   go_enter Tryz.func34, Tryz.ntmps34
   go_upto_region 1 with fail
   refine kQ (fun X => TBox w A1 A2 c1 c2 t X ∧ Bl 43 (w.heap.size + 1) #[.int .i64 x, .int .i64 9, .int .i64 n, .int .i64 a, .int .i64 p, .int .i64 r] X) ⟨HX0.out.up (cQ _ _), by simpa using Bl.new (w.alloc (.cells #[.int .i64 t.n, .slice A1 t.ov.length c1, .slice A2 t.ls.length c2] 25)) _ _⟩ ?_
   rintro X ⟨hX, hE⟩
   have HX := hU hX
   have HE := hU hE
   clear hX hE HX0
   obtain ⟨b0, b1, b2⟩ := HX.out.cells
   obtain ⟨e0, e1, e2, e3, e4, e5, _⟩ := HE.out.c6
   go_wp2_with (go_at_call 32; (with_reducible refine (cZ t.n n _ _ _).mono ?_); rw [hn]; rintro e w1 ⟨rfl, hb⟩; replace HX := hU (HX.out.up hb); replace HE := hU (HE.out.up hb); clear hb b0 b1 b2 e0 e1 e2 e3 e4 e5; obtain ⟨b0, b1, b2⟩ := HX.out.cells; obtain ⟨e0, e1, e2, e3, e4, e5, _⟩ := HE.out.c6)
   go_ret
   exact ⟨by rw [HR.out]; rfl, HX.out.hb⟩
  | true =>
   have HR : Hid (R = isN t.n a) := hU (by rw [hR]; simp [xQ, hn])
   clear hR
   go_enter Tryz.func34, Tryz.ntmps34
   go_upto_region 1 with fail
   refine kQ (fun X => TBox w A1 A2 c1 c2 t X ∧ Bl 43 (w.heap.size + 1) #[.int .i64 x, .int .i64 9, .int .i64 n, .int .i64 a, .int .i64 p, .int .i64 r] X) ⟨HX0.out.up (cQ _ _), by simpa using Bl.new (w.alloc (.cells #[.int .i64 t.n, .slice A1 t.ov.length c1, .slice A2 t.ls.length c2] 25)) _ _⟩ ?_
   rintro X ⟨hX, hE⟩
   have HX := hU hX
   have HE := hU hE
   clear hX hE HX0
   obtain ⟨b0, b1, b2⟩ := HX.out.cells
   obtain ⟨e0, e1, e2, e3, e4, e5, _⟩ := HE.out.c6
   go_wp2_with (first | (go_at_call 32; (with_reducible refine (cZ t.n n _ _ _).mono ?_); rw [hn]; rintro e w1 ⟨rfl, hb⟩; replace HX := hU (HX.out.up hb); replace HE := hU (HE.out.up hb); clear hb b0 b1 b2 e0 e1 e2 e3 e4 e5; obtain ⟨b0, b1, b2⟩ := HX.out.cells; obtain ⟨e0, e1, e2, e3, e4, e5, _⟩ := HE.out.c6) | (go_at_call 32; (with_reducible refine (cZ t.n a _ _ _).mono ?_); rintro e w1 ⟨rfl, hb⟩; replace HX := hU (HX.out.up hb); replace HE := hU (HE.out.up hb); clear hb b0 b1 b2 e0 e1 e2 e3 e4 e5; obtain ⟨b0, b1, b2⟩ := HX.out.cells; obtain ⟨e0, e1, e2, e3, e4, e5, _⟩ := HE.out.c6))
   go_ret
   exact ⟨by rw [HR.out]; rfl, HX.out.hb⟩
 have HR : Hid (R = isN t.n n) := hU (by rw [hR]; simp [xQ, g5, g6, g2, g7, g4, g9])
 clear hR
 go_enter Tryz.func34, Tryz.ntmps34
 go_upto_region 1 with fail
 refine kQ (fun X => TBox w A1 A2 c1 c2 t X ∧ Bl 43 (w.heap.size + 1) #[.int .i64 x, .int .i64 k, .int .i64 n, .int .i64 a, .int .i64 p, .int .i64 r] X) ⟨HX0.out.up (cQ _ _), by simpa using Bl.new (w.alloc (.cells #[.int .i64 t.n, .slice A1 t.ov.length c1, .slice A2 t.ls.length c2] 25)) _ _⟩ ?_
 rintro X ⟨hX, hE⟩
 have HX := hU hX
 have HE := hU hE
 clear hX hE HX0
 obtain ⟨b0, b1, b2⟩ := HX.out.cells
 obtain ⟨e0, e1, e2, e3, e4, e5, _⟩ := HE.out.c6
 go_wp2_with (go_at_call 32; (with_reducible refine (cZ t.n n _ _ _).mono ?_); rintro e w1 ⟨rfl, hb⟩; replace HX := hU (HX.out.up hb); replace HE := hU (HE.out.up hb); clear hb b0 b1 b2 e0 e1 e2 e3 e4 e5; obtain ⟨b0, b1, b2⟩ := HX.out.cells; obtain ⟨e0, e1, e2, e3, e4, e5, _⟩ := HE.out.c6)
 go_ret
 exact ⟨by rw [HR.out]; rfl, HX.out.hb⟩
end
end
end Go.Proofs.YtdnjflpmbnjgeaaGreat
