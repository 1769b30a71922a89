/-
  The small functions of package verify (printed by gen_vyc.py).
-/
import Derived.Test.YtdnjflpmbnjgeaaPkVyS
import Derived.Test.YtdnjflpmbnjgeaaPkEvent
import Derived.Test.YtdnjflpmbnjgeaaPkSpfD
namespace Go.Proofs.Ytdnjflpmbnjgeaa
set_option linter.unusedSimpArgs false
set_option linter.unusedVariables false
open Go.RowKit Go.Sort
section
variable {w : World}
theorem wp_named5 {P : Program} {c : Code} {Q : Exit → Act → World → Prop} {a : Act} {W : World} (R : World → Prop) (h : R W) (k : ∀ W', R W' → c.wp P Q a W') : c.wp P Q a W := k W h
theorem vy_within (n a b : Int) : Calls Try.prog 25 #[.int .i64 n, .int .i64 a, .int .i64 b] w fun e w' => e = .returned (.bool (inR n a b)) ∧ Below w.heap.size w w' := by
  have HB := Lib.hid (Below.refl w.heap.size w)
  obtain ⟨R, hR⟩ : ∃ R, R = inR n a b := ⟨_, rfl⟩
  rw [← hR]
  by_cases h1 : a ≤ n
  · by_cases h2 : n ≤ b
    · obtain rfl : R = true := by rw [hR]; exact inR_true.2 ⟨h1, h2⟩
      clear hR
      go_enter Try.func25, Try.ntmps25
      go_wp2_with fail
      go_ret
      exact ⟨rfl, HB.out⟩
    · obtain rfl : R = false := by rw [hR]; exact inR_false.2 (by omega)
      clear hR
      go_enter Try.func25, Try.ntmps25
      go_wp2_with fail
      go_ret
      exact ⟨rfl, HB.out⟩
  · obtain rfl : R = false := by rw [hR]; exact inR_false.2 (by omega)
    clear hR
    go_enter Try.func25, Try.ntmps25
    go_wp2_with fail
    go_ret
    exact ⟨rfl, HB.out⟩
theorem vy_early (s : Int) : Calls Try.prog 40 #[.int .i64 s] w fun e w' => e = .returned (.bool (earlyB s)) ∧ Below w.heap.size w w' := by
  have HB := Lib.hid (Below.refl w.heap.size w)
  obtain ⟨R, hR⟩ : ∃ R, R = earlyB s := ⟨_, rfl⟩
  rw [← hR]
  by_cases h0 : s = 0
  · subst h0
    obtain rfl : R = true := by rw [hR]; rfl
    go_enter Try.func40, Try.ntmps40
    go_wp2_with fail
    go_ret
    exact ⟨rfl, HB.out⟩
  · by_cases h1 : s = 1
    · subst h1
      obtain rfl : R = true := by rw [hR]; rfl
      go_enter Try.func40, Try.ntmps40
      go_wp2_with fail
      go_ret
      exact ⟨rfl, HB.out⟩
    · obtain rfl : R = false := by rw [hR]; simp [earlyB, h0, h1]
      have z0 : (s == 0) = false := beq_eq_false_iff_ne.2 h0
      have z1 : (s == 1) = false := beq_eq_false_iff_ne.2 h1
      clear hR
      go_enter Try.func40, Try.ntmps40
      go_wp2_with fail
      go_ret
      exact ⟨rfl, HB.out⟩
set_option maxRecDepth 100000 in
theorem vy_componentOf (x k n a p r : Int) : Calls Try.prog 41 #[.agg #[.int .i64 x, .int .i64 k, .int .i64 n, .int .i64 a, .int .i64 p, .int .i64 r]] w fun e w' => e = .returned (.agg #[.int .i64 a, .int .i64 r]) ∧ Below w.heap.size w w' := by
  have HB := Lib.hid (Below.refl w.heap.size w)
  go_enter Try.func41, Try.ntmps41
  go_wp2_with fail
  exact bodyPost_ret (v := .agg #[.int .i64 a, .int .i64 r]) (by simp [results, Try.results41, go_sem]) rfl ⟨rfl, by (repeat' (first | (with_reducible exact HB.out) | (with_reducible refine Bset ?_ ?_) | (with_reducible refine Bdrw ?_) | (with_reducible refine Bbox ?_ ?_) | omega | (simp; done) | (simp; omega)))⟩
set_option maxRecDepth 100000 in
theorem vy_onArc (x k n a p r : Int) : Calls Try.prog 39 #[.agg #[.int .i64 x, .int .i64 k, .int .i64 n, .int .i64 a, .int .i64 p, .int .i64 r]] w fun e w' => e = .returned (.bool (lossB ⟨x, k, n, a, p, r⟩)) ∧ Below w.heap.size w w' := by
  have HB := Lib.hid (Below.refl w.heap.size w)
  obtain ⟨R, hR⟩ : ∃ R, R = lossB ⟨x, k, n, a, p, r⟩ := ⟨_, rfl⟩
  rw [← hR]
  by_cases g : k = 4
  · subst g
    by_cases g3 : r = 3
    · subst g3
      have HRV : Hid (R = true) := Lib.hid (by rw [hR]; rfl)
      clear hR
      go_enter Try.func39, Try.ntmps39
      go_wp2_with fail
      go_ret
      exact ⟨by rw [HRV.out]; first | rfl | simp_all, by (repeat' (first | (with_reducible exact HB.out) | (with_reducible refine Bset ?_ ?_) | (with_reducible refine Bdrw ?_) | (with_reducible refine Bbox ?_ ?_) | omega | (simp; done) | (simp; omega)))⟩
    by_cases g6 : r = 6
    · subst g6
      have HRV : Hid (R = true) := Lib.hid (by rw [hR]; rfl)
      clear hR
      go_enter Try.func39, Try.ntmps39
      go_wp2_with fail
      go_ret
      exact ⟨by rw [HRV.out]; first | rfl | simp_all, by (repeat' (first | (with_reducible exact HB.out) | (with_reducible refine Bset ?_ ?_) | (with_reducible refine Bdrw ?_) | (with_reducible refine Bbox ?_ ?_) | omega | (simp; done) | (simp; omega)))⟩
    by_cases g7 : r = 7
    · subst g7
      have HRV : Hid (R = true) := Lib.hid (by rw [hR]; rfl)
      clear hR
      go_enter Try.func39, Try.ntmps39
      go_wp2_with fail
      go_ret
      exact ⟨by rw [HRV.out]; first | rfl | simp_all, by (repeat' (first | (with_reducible exact HB.out) | (with_reducible refine Bset ?_ ?_) | (with_reducible refine Bdrw ?_) | (with_reducible refine Bbox ?_ ?_) | omega | (simp; done) | (simp; omega)))⟩
    have HRV : Hid (R = false) := Lib.hid (by rw [hR]; simp [lossB, onArcB, g3, g6, g7])
    clear hR
    go_enter Try.func39, Try.ntmps39
    go_wp2_with fail
    go_ret
    exact ⟨by rw [HRV.out]; first | rfl | simp_all, by (repeat' (first | (with_reducible exact HB.out) | (with_reducible refine Bset ?_ ?_) | (with_reducible refine Bdrw ?_) | (with_reducible refine Bbox ?_ ?_) | omega | (simp; done) | (simp; omega)))⟩
  · skip
    have HRV : Hid (R = false) := Lib.hid (by rw [hR]; simp [lossB, g])
    clear hR
    go_enter Try.func39, Try.ntmps39
    go_wp2_with fail
    go_ret
    exact ⟨by rw [HRV.out]; first | rfl | simp_all, by (repeat' (first | (with_reducible exact HB.out) | (with_reducible refine Bset ?_ ?_) | (with_reducible refine Bdrw ?_) | (with_reducible refine Bbox ?_ ?_) | omega | (simp; done) | (simp; omega)))⟩
set_option maxRecDepth 100000 in
theorem vy_handling (x k n a p r : Int) : Calls Try.prog 37 #[.agg #[.int .i64 x, .int .i64 k, .int .i64 n, .int .i64 a, .int .i64 p, .int .i64 r]] w fun e w' => e = .returned (.bool (handB ⟨x, k, n, a, p, r⟩)) ∧ Below w.heap.size w w' := by
  have HB := Lib.hid (Below.refl w.heap.size w)
  obtain ⟨R, hR⟩ : ∃ R, R = handB ⟨x, k, n, a, p, r⟩ := ⟨_, rfl⟩
  rw [← hR]
  by_cases g2 : k = 2
  · subst g2
    have HRV : Hid (R = true) := Lib.hid (by rw [hR]; rfl)
    clear hR
    go_enter Try.func37, Try.ntmps37
    go_wp2_with fail
    go_ret
    exact ⟨by rw [HRV.out]; first | rfl | simp_all, by (repeat' (first | (with_reducible exact HB.out) | (with_reducible refine Bset ?_ ?_) | (with_reducible refine Bdrw ?_) | (with_reducible refine Bbox ?_ ?_) | omega | (simp; done) | (simp; omega)))⟩
  by_cases g3 : k = 3
  · subst g3
    have HRV : Hid (R = true) := Lib.hid (by rw [hR]; rfl)
    clear hR
    go_enter Try.func37, Try.ntmps37
    go_wp2_with fail
    go_ret
    exact ⟨by rw [HRV.out]; first | rfl | simp_all, by (repeat' (first | (with_reducible exact HB.out) | (with_reducible refine Bset ?_ ?_) | (with_reducible refine Bdrw ?_) | (with_reducible refine Bbox ?_ ?_) | omega | (simp; done) | (simp; omega)))⟩
  by_cases g4 : k = 4
  · subst g4
    have HR : Hid (R = !lossB ⟨x, 4, n, a, p, r⟩) := Lib.hid (by rw [hR]; simp [handB, lossB])
    clear hR
    go_enter Try.func37, Try.ntmps37
    go_wp2_with (go_at_call 39; refine (vy_onArc x 4 n a p r).mono ?_; rintro e w1 ⟨rfl, hb⟩; have HB1 := Lib.hid (below_next (show Below w.heap.size w _ from by (repeat' (first | (with_reducible exact HB.out) | (with_reducible refine Bset ?_ ?_) | (with_reducible refine Bdrw ?_) | (with_reducible refine Bbox ?_ ?_) | omega | (simp; done) | (simp; omega)))) hb); clear hb)
    go_ret
    exact ⟨by rw [HR.out]; rfl, HB1.out⟩
  · skip
    have HRV : Hid (R = false) := Lib.hid (by rw [hR]; simp [handB, g2, g3, g4])
    clear hR
    go_enter Try.func37, Try.ntmps37
    go_wp2_with fail
    go_ret
    exact ⟨by rw [HRV.out]; first | rfl | simp_all, by (repeat' (first | (with_reducible exact HB.out) | (with_reducible refine Bset ?_ ?_) | (with_reducible refine Bdrw ?_) | (with_reducible refine Bbox ?_ ?_) | omega | (simp; done) | (simp; omega)))⟩
set_option maxRecDepth 100000 in
theorem vy_ofPacket (x k n a p r : Int) : Calls Try.prog 36 #[.agg #[.int .i64 x, .int .i64 k, .int .i64 n, .int .i64 a, .int .i64 p, .int .i64 r]] w fun e w' => e = .returned (.bool (ofPkB ⟨x, k, n, a, p, r⟩)) ∧ Below w.heap.size w w' := by
  have HB := Lib.hid (Below.refl w.heap.size w)
  go_enter Try.func36, Try.ntmps36
  go_wp2_with (go_at_call 25; refine (vy_within k 1 4).mono ?_; rintro e w1 ⟨rfl, hb⟩; have HB1 := Lib.hid (below_next (show Below w.heap.size w _ from by (repeat' (first | (with_reducible exact HB.out) | (with_reducible refine Bset ?_ ?_) | (with_reducible refine Bdrw ?_) | (with_reducible refine Bbox ?_ ?_) | omega | (simp; done) | (simp; omega)))) hb); clear hb)
  go_ret
  exact ⟨rfl, HB1.out⟩
set_option maxRecDepth 100000 in
set_option maxHeartbeats 2000000 in
theorem vy_named (t : Topo) (A1 A2 : Option Addr) (c1 c2 : Nat) (x k n a p r : Int) (hT : TAt w A1 A2 t) (hl : t.ls.length ≤ 100000) :
    Calls Try.prog 29 #[.agg #[.int .i64 t.n, .slice A1 t.ov.length c1, .slice A2 t.ls.length c2], .agg #[.int .i64 x, .int .i64 k, .int .i64 n, .int .i64 a, .int .i64 p, .int .i64 r]] w fun e w' => e = .returned (.bool (namedB t ⟨x, k, n, a, p, r⟩)) ∧ Below w.heap.size w w' := by
  have hX := TBox.start c1 c2 hT
  have HT := Lib.hid hT
  have HX0 := Lib.hid hX
  obtain ⟨R, hR⟩ : ∃ R, R = namedB t ⟨x, k, n, a, p, r⟩ := ⟨_, rfl⟩
  rw [← hR]
  clear hX hT
  by_cases g5 : k = 5
  · subst g5
    have HR : Hid (R = compV t a r) := Lib.hid (by rw [hR]; simp [namedB])
    clear hR
    go_enter Try.func29, Try.ntmps29
    go_upto_region 1 with fail
    refine wp_named5 (fun X => TBox w A1 A2 c1 c2 t X ∧ Bl 49 (w.heap.size + 1) #[.int .i64 x, .int .i64 5, .int .i64 n, .int .i64 a, .int .i64 p, .int .i64 r] X) ⟨HX0.out.up (below_box _ _), by simpa using Bl.new (w.alloc (.cells #[.int .i64 t.n, .slice A1 t.ov.length c1, .slice A2 t.ls.length c2] 25)) _ _⟩ ?_
    rintro X ⟨hX, hE⟩
    have HX := Lib.hid hX
    have HE := Lib.hid hE
    clear hX hE HX0
    obtain ⟨b0, b1, b2⟩ := HX.out.cells
    obtain ⟨e0, e1, e2, e3, e4, e5, _⟩ := HE.out.c6
    go_wp2_with (go_at_call 26; (with_reducible refine (component_Valid t _ _ _ _ a r _ HX.out.ta).mono ?_); rintro e w1 ⟨rfl, hb⟩; replace HX := Lib.hid (HX.out.up hb); replace HE := Lib.hid (HE.out.up hb); clear hb b0 b1 b2 e0 e1 e2 e3 e4 e5; obtain ⟨b0, b1, b2⟩ := HX.out.cells; obtain ⟨e0, e1, e2, e3, e4, e5, _⟩ := HE.out.c6)
    go_ret
    exact ⟨by rw [HR.out]; rfl, HX.out.hb⟩
  by_cases g6 : k = 6
  · subst g6
    have HR : Hid (R = compV t a r) := Lib.hid (by rw [hR]; simp [namedB])
    clear hR
    go_enter Try.func29, Try.ntmps29
    go_upto_region 1 with fail
    refine wp_named5 (fun X => TBox w A1 A2 c1 c2 t X ∧ Bl 49 (w.heap.size + 1) #[.int .i64 x, .int .i64 6, .int .i64 n, .int .i64 a, .int .i64 p, .int .i64 r] X) ⟨HX0.out.up (below_box _ _), by simpa using Bl.new (w.alloc (.cells #[.int .i64 t.n, .slice A1 t.ov.length c1, .slice A2 t.ls.length c2] 25)) _ _⟩ ?_
    rintro X ⟨hX, hE⟩
    have HX := Lib.hid hX
    have HE := Lib.hid hE
    clear hX hE HX0
    obtain ⟨b0, b1, b2⟩ := HX.out.cells
    obtain ⟨e0, e1, e2, e3, e4, e5, _⟩ := HE.out.c6
    go_wp2_with (go_at_call 26; (with_reducible refine (component_Valid t _ _ _ _ a r _ HX.out.ta).mono ?_); rintro e w1 ⟨rfl, hb⟩; replace HX := Lib.hid (HX.out.up hb); replace HE := Lib.hid (HE.out.up hb); clear hb b0 b1 b2 e0 e1 e2 e3 e4 e5; obtain ⟨b0, b1, b2⟩ := HX.out.cells; obtain ⟨e0, e1, e2, e3, e4, e5, _⟩ := HE.out.c6)
    go_ret
    exact ⟨by rw [HR.out]; rfl, HX.out.hb⟩
  by_cases g2 : k = 2
  · subst g2
    cases hn : isN t.n n with
    | false =>
      have HR : Hid (R = false) := Lib.hid (by rw [hR]; simp [namedB, hn])
      clear hR
      go_enter Try.func29, Try.ntmps29
      go_upto_region 1 with fail
      refine wp_named5 (fun X => TBox w A1 A2 c1 c2 t X ∧ Bl 49 (w.heap.size + 1) #[.int .i64 x, .int .i64 2, .int .i64 n, .int .i64 a, .int .i64 p, .int .i64 r] X) ⟨HX0.out.up (below_box _ _), by simpa using Bl.new (w.alloc (.cells #[.int .i64 t.n, .slice A1 t.ov.length c1, .slice A2 t.ls.length c2] 25)) _ _⟩ ?_
      rintro X ⟨hX, hE⟩
      have HX := Lib.hid hX
      have HE := Lib.hid hE
      clear hX hE HX0
      obtain ⟨b0, b1, b2⟩ := HX.out.cells
      obtain ⟨e0, e1, e2, e3, e4, e5, _⟩ := HE.out.c6
      go_wp2_with (go_at_call 27; (with_reducible refine (graph_Node t.n n _ _ _).mono ?_); rw [hn]; rintro e w1 ⟨rfl, hb⟩; replace HX := Lib.hid (HX.out.up hb); replace HE := Lib.hid (HE.out.up hb); clear hb b0 b1 b2 e0 e1 e2 e3 e4 e5; obtain ⟨b0, b1, b2⟩ := HX.out.cells; obtain ⟨e0, e1, e2, e3, e4, e5, _⟩ := HE.out.c6)
      go_ret
      exact ⟨by rw [HR.out]; rfl, HX.out.hb⟩
    | true =>
      have HR : Hid (R = isN (2 * (t.ls.length : Int)) a) := Lib.hid (by rw [hR]; simp [namedB, hn])
      clear hR
      go_enter Try.func29, Try.ntmps29
      go_upto_region 1 with fail
      refine wp_named5 (fun X => TBox w A1 A2 c1 c2 t X ∧ Bl 49 (w.heap.size + 1) #[.int .i64 x, .int .i64 2, .int .i64 n, .int .i64 a, .int .i64 p, .int .i64 r] X) ⟨HX0.out.up (below_box _ _), by simpa using Bl.new (w.alloc (.cells #[.int .i64 t.n, .slice A1 t.ov.length c1, .slice A2 t.ls.length c2] 25)) _ _⟩ ?_
      rintro X ⟨hX, hE⟩
      have HX := Lib.hid hX
      have HE := Lib.hid hE
      clear hX hE HX0
      obtain ⟨b0, b1, b2⟩ := HX.out.cells
      obtain ⟨e0, e1, e2, e3, e4, e5, _⟩ := HE.out.c6
      go_wp2_with (first | (go_at_call 27; (with_reducible refine (graph_Node t.n n _ _ _).mono ?_); rw [hn]; rintro e w1 ⟨rfl, hb⟩; replace HX := Lib.hid (HX.out.up hb); replace HE := Lib.hid (HE.out.up hb); clear hb b0 b1 b2 e0 e1 e2 e3 e4 e5; obtain ⟨b0, b1, b2⟩ := HX.out.cells; obtain ⟨e0, e1, e2, e3, e4, e5, _⟩ := HE.out.c6) | (go_at_call 47; (with_reducible refine (graph_Arc _ _ _ _ _ a _ hl).mono ?_); rintro e w1 ⟨rfl, hb⟩; replace HX := Lib.hid (HX.out.up hb); replace HE := Lib.hid (HE.out.up hb); clear hb b0 b1 b2 e0 e1 e2 e3 e4 e5; obtain ⟨b0, b1, b2⟩ := HX.out.cells; obtain ⟨e0, e1, e2, e3, e4, e5, _⟩ := HE.out.c6))
      go_ret
      exact ⟨by rw [HR.out]; rfl, HX.out.hb⟩
  by_cases g7 : k = 7
  · subst g7
    cases hn : isN t.n n with
    | false =>
      have HR : Hid (R = false) := Lib.hid (by rw [hR]; simp [namedB, hn])
      clear hR
      go_enter Try.func29, Try.ntmps29
      go_upto_region 1 with fail
      refine wp_named5 (fun X => TBox w A1 A2 c1 c2 t X ∧ Bl 49 (w.heap.size + 1) #[.int .i64 x, .int .i64 7, .int .i64 n, .int .i64 a, .int .i64 p, .int .i64 r] X) ⟨HX0.out.up (below_box _ _), by simpa using Bl.new (w.alloc (.cells #[.int .i64 t.n, .slice A1 t.ov.length c1, .slice A2 t.ls.length c2] 25)) _ _⟩ ?_
      rintro X ⟨hX, hE⟩
      have HX := Lib.hid hX
      have HE := Lib.hid hE
      clear hX hE HX0
      obtain ⟨b0, b1, b2⟩ := HX.out.cells
      obtain ⟨e0, e1, e2, e3, e4, e5, _⟩ := HE.out.c6
      go_wp2_with (go_at_call 27; (with_reducible refine (graph_Node t.n n _ _ _).mono ?_); rw [hn]; rintro e w1 ⟨rfl, hb⟩; replace HX := Lib.hid (HX.out.up hb); replace HE := Lib.hid (HE.out.up hb); clear hb b0 b1 b2 e0 e1 e2 e3 e4 e5; obtain ⟨b0, b1, b2⟩ := HX.out.cells; obtain ⟨e0, e1, e2, e3, e4, e5, _⟩ := HE.out.c6)
      go_ret
      exact ⟨by rw [HR.out]; rfl, HX.out.hb⟩
    | true =>
      have HR : Hid (R = isN (2 * (t.ls.length : Int)) a) := Lib.hid (by rw [hR]; simp [namedB, hn])
      clear hR
      go_enter Try.func29, Try.ntmps29
      go_upto_region 1 with fail
      refine wp_named5 (fun X => TBox w A1 A2 c1 c2 t X ∧ Bl 49 (w.heap.size + 1) #[.int .i64 x, .int .i64 7, .int .i64 n, .int .i64 a, .int .i64 p, .int .i64 r] X) ⟨HX0.out.up (below_box _ _), by simpa using Bl.new (w.alloc (.cells #[.int .i64 t.n, .slice A1 t.ov.length c1, .slice A2 t.ls.length c2] 25)) _ _⟩ ?_
      rintro X ⟨hX, hE⟩
      have HX := Lib.hid hX
      have HE := Lib.hid hE
      clear hX hE HX0
      obtain ⟨b0, b1, b2⟩ := HX.out.cells
      obtain ⟨e0, e1, e2, e3, e4, e5, _⟩ := HE.out.c6
      go_wp2_with (first | (go_at_call 27; (with_reducible refine (graph_Node t.n n _ _ _).mono ?_); rw [hn]; rintro e w1 ⟨rfl, hb⟩; replace HX := Lib.hid (HX.out.up hb); replace HE := Lib.hid (HE.out.up hb); clear hb b0 b1 b2 e0 e1 e2 e3 e4 e5; obtain ⟨b0, b1, b2⟩ := HX.out.cells; obtain ⟨e0, e1, e2, e3, e4, e5, _⟩ := HE.out.c6) | (go_at_call 47; (with_reducible refine (graph_Arc _ _ _ _ _ a _ hl).mono ?_); rintro e w1 ⟨rfl, hb⟩; replace HX := Lib.hid (HX.out.up hb); replace HE := Lib.hid (HE.out.up hb); clear hb b0 b1 b2 e0 e1 e2 e3 e4 e5; obtain ⟨b0, b1, b2⟩ := HX.out.cells; obtain ⟨e0, e1, e2, e3, e4, e5, _⟩ := HE.out.c6))
      go_ret
      exact ⟨by rw [HR.out]; rfl, HX.out.hb⟩
  by_cases g4 : k = 4
  · subst g4
    cases hn : isN t.n n with
    | false =>
      have HR : Hid (R = false) := Lib.hid (by rw [hR]; simp [namedB, hn])
      clear hR
      go_enter Try.func29, Try.ntmps29
      go_upto_region 1 with fail
      refine wp_named5 (fun X => TBox w A1 A2 c1 c2 t X ∧ Bl 49 (w.heap.size + 1) #[.int .i64 x, .int .i64 4, .int .i64 n, .int .i64 a, .int .i64 p, .int .i64 r] X) ⟨HX0.out.up (below_box _ _), by simpa using Bl.new (w.alloc (.cells #[.int .i64 t.n, .slice A1 t.ov.length c1, .slice A2 t.ls.length c2] 25)) _ _⟩ ?_
      rintro X ⟨hX, hE⟩
      have HX := Lib.hid hX
      have HE := Lib.hid hE
      clear hX hE HX0
      obtain ⟨b0, b1, b2⟩ := HX.out.cells
      obtain ⟨e0, e1, e2, e3, e4, e5, _⟩ := HE.out.c6
      go_wp2_with (go_at_call 27; (with_reducible refine (graph_Node t.n n _ _ _).mono ?_); rw [hn]; rintro e w1 ⟨rfl, hb⟩; replace HX := Lib.hid (HX.out.up hb); replace HE := Lib.hid (HE.out.up hb); clear hb b0 b1 b2 e0 e1 e2 e3 e4 e5; obtain ⟨b0, b1, b2⟩ := HX.out.cells; obtain ⟨e0, e1, e2, e3, e4, e5, _⟩ := HE.out.c6)
      go_ret
      exact ⟨by rw [HR.out]; rfl, HX.out.hb⟩
    | true =>
      cases ho : onArcB r with
      | false =>
        have HR : Hid (R = true) := Lib.hid (by rw [hR]; simp [namedB, hn, ho])
        clear hR
        go_enter Try.func29, Try.ntmps29
        go_upto_region 1 with fail
        refine wp_named5 (fun X => TBox w A1 A2 c1 c2 t X ∧ Bl 49 (w.heap.size + 1) #[.int .i64 x, .int .i64 4, .int .i64 n, .int .i64 a, .int .i64 p, .int .i64 r] X) ⟨HX0.out.up (below_box _ _), by simpa using Bl.new (w.alloc (.cells #[.int .i64 t.n, .slice A1 t.ov.length c1, .slice A2 t.ls.length c2] 25)) _ _⟩ ?_
        rintro X ⟨hX, hE⟩
        have HX := Lib.hid hX
        have HE := Lib.hid hE
        clear hX hE HX0
        obtain ⟨b0, b1, b2⟩ := HX.out.cells
        obtain ⟨e0, e1, e2, e3, e4, e5, _⟩ := HE.out.c6
        go_wp2_with (first | (go_at_call 27; (with_reducible refine (graph_Node t.n n _ _ _).mono ?_); rw [hn]; rintro e w1 ⟨rfl, hb⟩; replace HX := Lib.hid (HX.out.up hb); replace HE := Lib.hid (HE.out.up hb); clear hb b0 b1 b2 e0 e1 e2 e3 e4 e5; obtain ⟨b0, b1, b2⟩ := HX.out.cells; obtain ⟨e0, e1, e2, e3, e4, e5, _⟩ := HE.out.c6) | (go_at_call 39; (with_reducible refine (vy_onArc x 4 n a p r).mono ?_); rw [show lossB ⟨x, 4, n, a, p, r⟩ = onArcB r from by simp [lossB], ho]; rintro e w1 ⟨rfl, hb⟩; replace HX := Lib.hid (HX.out.up hb); replace HE := Lib.hid (HE.out.up hb); clear hb b0 b1 b2 e0 e1 e2 e3 e4 e5; obtain ⟨b0, b1, b2⟩ := HX.out.cells; obtain ⟨e0, e1, e2, e3, e4, e5, _⟩ := HE.out.c6))
        go_ret
        exact ⟨by rw [HR.out]; rfl, HX.out.hb⟩
      | true =>
        have HR : Hid (R = isN (2 * (t.ls.length : Int)) a) := Lib.hid (by rw [hR]; simp [namedB, hn, ho])
        clear hR
        go_enter Try.func29, Try.ntmps29
        go_upto_region 1 with fail
        refine wp_named5 (fun X => TBox w A1 A2 c1 c2 t X ∧ Bl 49 (w.heap.size + 1) #[.int .i64 x, .int .i64 4, .int .i64 n, .int .i64 a, .int .i64 p, .int .i64 r] X) ⟨HX0.out.up (below_box _ _), by simpa using Bl.new (w.alloc (.cells #[.int .i64 t.n, .slice A1 t.ov.length c1, .slice A2 t.ls.length c2] 25)) _ _⟩ ?_
        rintro X ⟨hX, hE⟩
        have HX := Lib.hid hX
        have HE := Lib.hid hE
        clear hX hE HX0
        obtain ⟨b0, b1, b2⟩ := HX.out.cells
        obtain ⟨e0, e1, e2, e3, e4, e5, _⟩ := HE.out.c6
        go_wp2_with (first | (go_at_call 27; (with_reducible refine (graph_Node t.n n _ _ _).mono ?_); rw [hn]; rintro e w1 ⟨rfl, hb⟩; replace HX := Lib.hid (HX.out.up hb); replace HE := Lib.hid (HE.out.up hb); clear hb b0 b1 b2 e0 e1 e2 e3 e4 e5; obtain ⟨b0, b1, b2⟩ := HX.out.cells; obtain ⟨e0, e1, e2, e3, e4, e5, _⟩ := HE.out.c6) | (go_at_call 39; (with_reducible refine (vy_onArc x 4 n a p r).mono ?_); rw [show lossB ⟨x, 4, n, a, p, r⟩ = onArcB r from by simp [lossB], ho]; rintro e w1 ⟨rfl, hb⟩; replace HX := Lib.hid (HX.out.up hb); replace HE := Lib.hid (HE.out.up hb); clear hb b0 b1 b2 e0 e1 e2 e3 e4 e5; obtain ⟨b0, b1, b2⟩ := HX.out.cells; obtain ⟨e0, e1, e2, e3, e4, e5, _⟩ := HE.out.c6) | (go_at_call 47; (with_reducible refine (graph_Arc _ _ _ _ _ a _ hl).mono ?_); rintro e w1 ⟨rfl, hb⟩; replace HX := Lib.hid (HX.out.up hb); replace HE := Lib.hid (HE.out.up hb); clear hb b0 b1 b2 e0 e1 e2 e3 e4 e5; obtain ⟨b0, b1, b2⟩ := HX.out.cells; obtain ⟨e0, e1, e2, e3, e4, e5, _⟩ := HE.out.c6))
        go_ret
        exact ⟨by rw [HR.out]; rfl, HX.out.hb⟩
  by_cases g9 : k = 9
  · subst g9
    cases hn : isN t.n n with
    | false =>
      have HR : Hid (R = false) := Lib.hid (by rw [hR]; simp [namedB, hn])
      clear hR
      go_enter Try.func29, Try.ntmps29
      go_upto_region 1 with fail
      refine wp_named5 (fun X => TBox w A1 A2 c1 c2 t X ∧ Bl 49 (w.heap.size + 1) #[.int .i64 x, .int .i64 9, .int .i64 n, .int .i64 a, .int .i64 p, .int .i64 r] X) ⟨HX0.out.up (below_box _ _), by simpa using Bl.new (w.alloc (.cells #[.int .i64 t.n, .slice A1 t.ov.length c1, .slice A2 t.ls.length c2] 25)) _ _⟩ ?_
      rintro X ⟨hX, hE⟩
      have HX := Lib.hid hX
      have HE := Lib.hid hE
      clear hX hE HX0
      obtain ⟨b0, b1, b2⟩ := HX.out.cells
      obtain ⟨e0, e1, e2, e3, e4, e5, _⟩ := HE.out.c6
      go_wp2_with (go_at_call 27; (with_reducible refine (graph_Node t.n n _ _ _).mono ?_); rw [hn]; rintro e w1 ⟨rfl, hb⟩; replace HX := Lib.hid (HX.out.up hb); replace HE := Lib.hid (HE.out.up hb); clear hb b0 b1 b2 e0 e1 e2 e3 e4 e5; obtain ⟨b0, b1, b2⟩ := HX.out.cells; obtain ⟨e0, e1, e2, e3, e4, e5, _⟩ := HE.out.c6)
      go_ret
      exact ⟨by rw [HR.out]; rfl, HX.out.hb⟩
    | true =>
      have HR : Hid (R = isN t.n a) := Lib.hid (by rw [hR]; simp [namedB, hn])
      clear hR
      go_enter Try.func29, Try.ntmps29
      go_upto_region 1 with fail
      refine wp_named5 (fun X => TBox w A1 A2 c1 c2 t X ∧ Bl 49 (w.heap.size + 1) #[.int .i64 x, .int .i64 9, .int .i64 n, .int .i64 a, .int .i64 p, .int .i64 r] X) ⟨HX0.out.up (below_box _ _), by simpa using Bl.new (w.alloc (.cells #[.int .i64 t.n, .slice A1 t.ov.length c1, .slice A2 t.ls.length c2] 25)) _ _⟩ ?_
      rintro X ⟨hX, hE⟩
      have HX := Lib.hid hX
      have HE := Lib.hid hE
      clear hX hE HX0
      obtain ⟨b0, b1, b2⟩ := HX.out.cells
      obtain ⟨e0, e1, e2, e3, e4, e5, _⟩ := HE.out.c6
      go_wp2_with (first | (go_at_call 27; (with_reducible refine (graph_Node t.n n _ _ _).mono ?_); rw [hn]; rintro e w1 ⟨rfl, hb⟩; replace HX := Lib.hid (HX.out.up hb); replace HE := Lib.hid (HE.out.up hb); clear hb b0 b1 b2 e0 e1 e2 e3 e4 e5; obtain ⟨b0, b1, b2⟩ := HX.out.cells; obtain ⟨e0, e1, e2, e3, e4, e5, _⟩ := HE.out.c6) | (go_at_call 27; (with_reducible refine (graph_Node t.n a _ _ _).mono ?_); rintro e w1 ⟨rfl, hb⟩; replace HX := Lib.hid (HX.out.up hb); replace HE := Lib.hid (HE.out.up hb); clear hb b0 b1 b2 e0 e1 e2 e3 e4 e5; obtain ⟨b0, b1, b2⟩ := HX.out.cells; obtain ⟨e0, e1, e2, e3, e4, e5, _⟩ := HE.out.c6))
      go_ret
      exact ⟨by rw [HR.out]; rfl, HX.out.hb⟩
  have HR : Hid (R = isN t.n n) := Lib.hid (by rw [hR]; simp [namedB, g5, g6, g2, g7, g4, g9])
  clear hR
  go_enter Try.func29, Try.ntmps29
  go_upto_region 1 with fail
  refine wp_named5 (fun X => TBox w A1 A2 c1 c2 t X ∧ Bl 49 (w.heap.size + 1) #[.int .i64 x, .int .i64 k, .int .i64 n, .int .i64 a, .int .i64 p, .int .i64 r] X) ⟨HX0.out.up (below_box _ _), by simpa using Bl.new (w.alloc (.cells #[.int .i64 t.n, .slice A1 t.ov.length c1, .slice A2 t.ls.length c2] 25)) _ _⟩ ?_
  rintro X ⟨hX, hE⟩
  have HX := Lib.hid hX
  have HE := Lib.hid hE
  clear hX hE HX0
  obtain ⟨b0, b1, b2⟩ := HX.out.cells
  obtain ⟨e0, e1, e2, e3, e4, e5, _⟩ := HE.out.c6
  go_wp2_with (go_at_call 27; (with_reducible refine (graph_Node t.n n _ _ _).mono ?_); rintro e w1 ⟨rfl, hb⟩; replace HX := Lib.hid (HX.out.up hb); replace HE := Lib.hid (HE.out.up hb); clear hb b0 b1 b2 e0 e1 e2 e3 e4 e5; obtain ⟨b0, b1, b2⟩ := HX.out.cells; obtain ⟨e0, e1, e2, e3, e4, e5, _⟩ := HE.out.c6)
  go_ret
  exact ⟨by rw [HR.out]; rfl, HX.out.hb⟩
end
end Go.Proofs.Ytdnjflpmbnjgeaa
