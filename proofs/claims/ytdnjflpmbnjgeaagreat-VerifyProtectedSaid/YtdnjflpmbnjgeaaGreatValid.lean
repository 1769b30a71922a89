/-
  Contracts of topology.Valid and waypointref09.Valid: both return 'valid t', for every topology in memory.
-/
import Derived.Test.YtdnjflpmbnjgeaaGreatPkBase
namespace Go.Proofs.YtdnjflpmbnjgeaaGreat
section
open Go.RowKit Go.Sort
theorem bad1 {t : Topo} (h : ¬ (1 ≤ t.n ∧ t.n ≤ 64)) : valid t = false := by
 have : inR t.n 1 64 = false := by simp only [inR, Bool.and_eq_false_iff, decide_eq_false_iff_not]; omega
 simp [valid, this]
theorem bad2 {t : Topo} (h : ¬ t.ls.length ≤ 256) : valid t = false := by simp [valid, h]
theorem bad3 {t : Topo} (h : ¬ t.ov.length = 0) (h2 : ¬ (t.ov.length : Int) = t.n) : valid t = false := by
 have e : (decide (t.ov.length = 0) || decide ((t.ov.length : Int) = t.n)) = false := by simp only [Bool.or_eq_false_iff, decide_eq_false_iff_not]; exact ⟨h, h2⟩
 simp only [valid, e, Bool.and_false, Bool.false_and]
theorem bad_k {t : Topo} {n : Int} {V : Bool} {k : Nat} {l : Lnk} (HN : Hid (n = t.n)) (HV : Hid (V = valid t)) (HE : Hid (t.ls[k]? = some l)) (h : lnkOk n l = false) : V = false := by
 rw [HV.out]
 exact valid_bad HE.out (by rw [← HN.out]; exact h)
theorem bad_a {n : Int} {l : Lnk} (h : isN n l.a = false) : lnkOk n l = false := by
 have : inR l.a 0 (n - 1) = false := by rw [inR_false]; rw [isN_false] at h; omega
 simp [lnkOk, this]
theorem bad_b {n : Int} {l : Lnk} (h : isN n l.b = false) : lnkOk n l = false := by
 have : inR l.b 0 (n - 1) = false := by rw [inR_false]; rw [isN_false] at h; omega
 simp [lnkOk, this]
theorem not_of_b {x : Bool} (h : (!x) = true) : x = false := by simpa using h
theorem of_not_b {x : Bool} (h : (!x) = false) : x = true := by simpa using h
theorem lc0 {n : Int} {l : Lnk} (h : ¬ inR l.c0 1 65535 = true) : lnkOk n l = false := by simp [lnkOk, h]
theorem lc1 {n : Int} {l : Lnk} (h : (!inR l.c1 1 65535) = true) : lnkOk n l = false := by simp [lnkOk, not_of_b h]
theorem lc2 {n : Int} {l : Lnk} (h : ¬ inR l.cap 0 1048576 = true) : lnkOk n l = false := by simp [lnkOk, h]
theorem lc3 {n : Int} {l : Lnk} (h : ¬ inR l.dl 1 65536 = true) : lnkOk n l = false := by simp [lnkOk, h]
theorem lc4 {n : Int} {l : Lnk} (h : (!inR l.g 0 64) = true) : lnkOk n l = false := by simp [lnkOk, not_of_b h]
theorem good_l {n : Int} {l : Lnk} (e1 : (l.a == l.b) = false) (e2 : isN n l.a = true) (e3 : isN n l.b = true) (h0 : inR l.c0 1 65535 = true) (h1 : inR l.c1 1 65535 = true) (h2 : inR l.cap 0 1048576 = true) (h3 : inR l.dl 1 65536 = true) (h4 : inR l.g 0 64 = true) : lnkOk n l = true := by
 have ha : inR l.a 0 (n - 1) = true := by rw [inR_true]; rw [isN_true] at e2; omega
 have hb : inR l.b 0 (n - 1) = true := by rw [inR_true]; rw [isN_true] at e3; omega
 simp [lnkOk, e1, ha, hb, h0, h1, h2, h3, h4]
set_option maxHeartbeats 4000000 in
set_option maxRecDepth 100000 in
theorem topology_Valid_loop (t : Topo) (A1 A2 : Option Addr) (c1 c2 : Nat) (w : World) (hA2 : RdL w A2 t.ls)
    (hn1 : 1 ≤ t.n) (hn2 : t.n ≤ 64) (hl : t.ls.length ≤ 256) (ho : t.ov.length = 0 ∨ (t.ov.length : Int) = t.n) :
    Calls Tryz.prog 29 #[.agg #[.int .i64 t.n, .slice A1 t.ov.length c1, .slice A2 t.ls.length c2]] w fun e w' => e = .returned (.bool (valid t)) ∧ Below w.heap.size w w' := by
 obtain ⟨l2, hl2⟩ : ∃ l2, l2 = t.ls.length := ⟨_, rfl⟩
 obtain ⟨l1, hl1⟩ : ∃ l1, l1 = t.ov.length := ⟨_, rfl⟩
 obtain ⟨n, hn⟩ : ∃ n, n = t.n := ⟨_, rfl⟩
 obtain ⟨V, hV⟩ : ∃ V, V = valid t := ⟨_, rfl⟩
 rw [← hl2, ← hV, ← hl1, ← hn]
 rw [← hn] at hn1 hn2
 rw [← hl1, ← hn] at ho
 rw [← hl2] at hl
 have HO := hU ho
 have HA := hU hA2; clear hA2
 have HL := hU hl2; clear hl2
 have HN := hU hn; clear hn
 have HO1 := hU hl1; clear hl1
 have HV := hU hV; clear hV
 have d1 : decide (256 < (l2 : Int)) = false := by simp; omega
 have i1 : inR n 1 64 = true := by simp [inR, hn1, hn2]
 have d0 : (((l1 : Int) != 0) = false) ∨ (((l1 : Int) != 0) = true ∧ ((l1 : Int) != n) = false) := by
  rcases ho with rfl | h
  ·exact .inl (by simp)
  ·exact .inr ⟨by simp; omega, by simp [h]⟩
 clear ho
 rcases d0 with d2 | ⟨d2, d3⟩
 all_goals
  go_enter Tryz.func29, Tryz.ntmps29
  go_wp2_with (go_at_call 61; refine (topology_within _ _ _ _).mono ?_; rintro e w' ⟨rfl, rfl⟩)
  go_loopw [30] (fun i wr => ∃ k : Nat, k ≤ l2 ∧ i = .int .i64 k ∧ Hid (∀ j, j < k → ∃ l, t.ls[j]? = some l ∧ lnkOk n l = true) ∧ Below (w.heap.size + 1) (w.alloc (.cells #[.int .i64 n, .slice A1 l1 c1, .slice A2 l2 c2] 25)) wr) (fun i _ => l2 - (intOf i).toNat)
  case atStart => exact ⟨0, Nat.zero_le _, rfl, fun j hj => absurd hj (by omega), Below.refl _ _⟩
  case round =>
   obtain ⟨k, hk, rfl, hok, hb⟩ := hrel
   have b0 : wr.cell? ⟨w.heap.size, 0, none⟩ = some (.int .i64 n) := by rw [hb.cell (by simp)]; simp
   have b1 : wr.cell? ⟨w.heap.size, 1, none⟩ = some (.slice A1 l1 c1) := by rw [hb.cell (by simp)]; simp
   have b2 : wr.cell? ⟨w.heap.size, 2, none⟩ = some (.slice A2 l2 c2) := by rw [hb.cell (by simp)]; simp
   have HR := hU (HA.out.below ((cQ w _).trans (hb.mono (by omega))))
   have HB := hU hb; clear hb
   by_cases hlt : k < l2
   ·obtain ⟨b, o, l, rfl, hl', hc⟩ := HR.out.at_ (k := k) (by rw [← HL.out]; exact hlt)
    obtain ⟨q0, q1, q2, q3, q4, q5, q6⟩ := hc
    have HE := hU hl'; clear hl'
    cases e1 : (l.a == l.b) with
    | true =>
     go_wp2_with fail
     obtain ⟨P1, P2, P3, P4, P5, -⟩ := kU b0 (kU b1 (kU b2 (kU q0 (kU q1 trivial))))
     refine wp_region_quiet_below (by kernel_rfl) (by kernel_rfl) ?_
     repeat (go_big_quiet_step (fail))
     refine wpQuiet_nil ?_
     intro w2 hb2
     replace hb2 := eQ hb2
     clear P1 P2 P3 P4 P5
     have zU := uU hb2 b0 (uU hb2 b1 (uU hb2 b2 (uU hb2 q0 (uU hb2 q1 trivial)))); clear b0 b1 b2 q0 q1; obtain ⟨b0, b1, b2, q0, q1, -⟩ := zU
     go_wp2_with fail
     go_ret
     exact ⟨by rw [bad_k HN HV HE (by simp [lnkOk, e1])]; rfl, bQ (below_boxed HB.out) hb2⟩
    | false =>
     cases e2 : isN n l.a with
     | false =>
      go_wp2_with fail
      obtain ⟨P1, P2, P3, P4, P5, -⟩ := kU b0 (kU b1 (kU b2 (kU q0 (kU q1 trivial))))
      refine wp_region_quiet_below (by kernel_rfl) (by kernel_rfl) ?_
      repeat (go_big_quiet_step (exact Calls.regrown_of (cZ _ _ _ _ _)))
      refine wpQuiet_nil ?_
      intro w2 hb2
      replace hb2 := eQ hb2
      clear P1 P2 P3 P4 P5
      have zU := uU hb2 b0 (uU hb2 b1 (uU hb2 b2 (uU hb2 q0 (uU hb2 q1 trivial)))); clear b0 b1 b2 q0 q1; obtain ⟨b0, b1, b2, q0, q1, -⟩ := zU
      go_wp2_with fail
      go_ret
      exact ⟨by rw [bad_k HN HV HE (bad_a e2)]; rfl, bQ (below_boxed HB.out) hb2⟩
     | true =>
      cases e3 : isN n l.b with
      | false =>
       go_wp2_with fail
       obtain ⟨P1, P2, P3, P4, P5, -⟩ := kU b0 (kU b1 (kU b2 (kU q0 (kU q1 trivial))))
       refine wp_region_quiet_below (by kernel_rfl) (by kernel_rfl) ?_
       repeat (go_big_quiet_step (exact Calls.regrown_of (cZ _ _ _ _ _)))
       refine wpQuiet_nil ?_
       intro w2 hb2
       replace hb2 := eQ hb2
       clear P1 P2 P3 P4 P5
       have zU := uU hb2 b0 (uU hb2 b1 (uU hb2 b2 (uU hb2 q0 (uU hb2 q1 trivial)))); clear b0 b1 b2 q0 q1; obtain ⟨b0, b1, b2, q0, q1, -⟩ := zU
       go_wp2_with fail
       go_ret
       exact ⟨by rw [bad_k HN HV HE (bad_b e3)]; rfl, bQ (below_boxed HB.out) hb2⟩
      | true =>
       go_wp2_with fail
       obtain ⟨P1, P2, P3, P4, P5, P6, P7, P8, P9, P10, -⟩ := kU b0 (kU b1 (kU b2 (kU q0 (kU q1 (kU q2 (kU q3 (kU q4 (kU q5 (kU q6 trivial)))))))))
       refine wp_region_quiet_below (by kernel_rfl) (by kernel_rfl) ?_
       repeat (go_big_quiet_step (exact Calls.regrown_of (cZ _ _ _ _ _)))
       refine wpQuiet_nil ?_
       intro w2 hb2
       replace hb2 := eQ hb2
       clear P1 P2 P3 P4 P5 P6 P7 P8 P9 P10
       have zU := uU hb2 b0 (uU hb2 b1 (uU hb2 b2 (uU hb2 q0 (uU hb2 q1 (uU hb2 q2 (uU hb2 q3 (uU hb2 q4 (uU hb2 q5 (uU hb2 q6 trivial))))))))); clear b0 b1 b2 q0 q1 q2 q3 q4 q5 q6; obtain ⟨b0, b1, b2, q0, q1, q2, q3, q4, q5, q6, -⟩ := zU
       go_wp2_with (go_at_call 61; refine (topology_within _ _ _ _).mono ?_; rintro e w' ⟨rfl, rfl⟩)
       all_goals first
        | (go_ret; refine ⟨?_, bQ (below_boxed HB.out) hb2⟩; rw [bad_k HN HV HE ?_]; rfl; first | (refine lc0 ?_; assumption) | (refine lc1 ?_; assumption) | (refine lc2 ?_; assumption) | (refine lc3 ?_; assumption) | (refine lc4 ?_; assumption))
        | (refine ⟨⟨k + 1, by omega, by go_num, lnkOk_snoc HE.out (good_l e1 e2 e3 ?_ (of_not_b ?_) ?_ ?_ (of_not_b ?_)) hok.out, bQ HB.out hb2⟩, by simp [intOf]; omega⟩ <;> assumption)
   ·go_wp2_with fail
    go_ret
    obtain rfl : k = l2 := by omega
    exact ⟨by rw [HV.out, valid_of (by rw [← HN.out]; exact hn1) (by rw [← HN.out]; exact hn2) (by rw [← HL.out]; exact hl) (by rw [← HO1.out, ← HN.out]; exact HO.out) (by rw [← HL.out, ← HN.out]; exact hok.out)]; rfl, below_boxed HB.out⟩
theorem topology_Valid (t : Topo) (A1 A2 : Option Addr) (c1 c2 : Nat) (w : World) (hA2 : RdL w A2 t.ls) :
    Calls Tryz.prog 29 #[.agg #[.int .i64 t.n, .slice A1 t.ov.length c1, .slice A2 t.ls.length c2]] w fun e w' => e = .returned (.bool (valid t)) ∧ Below w.heap.size w w' := by
 by_cases hn : 1 ≤ t.n ∧ t.n ≤ 64
 ·by_cases hl : t.ls.length ≤ 256
  ·by_cases ho : t.ov.length = 0
   ·exact topology_Valid_loop t A1 A2 c1 c2 w hA2 hn.1 hn.2 hl (.inl ho)
   ·by_cases ho2 : (t.ov.length : Int) = t.n
    ·exact topology_Valid_loop t A1 A2 c1 c2 w hA2 hn.1 hn.2 hl (.inr ho2)
    ·rw [bad3 ho ho2]
     generalize t.ov.length = l1 at *
     generalize t.ls.length = l2 at *
     generalize t.n = n at *
     have i1 : inR n 1 64 = true := by rw [inR_true]; exact hn
     have d1 : decide (256 < (l2 : Int)) = false := by simp; omega
     have d2 : ((l1 : Int) != 0) = true := by simp; omega
     have d3 : ((l1 : Int) != n) = true := by simp [ho2]
     clear hn hA2 ho ho2
     go_enter Tryz.func29, Tryz.ntmps29
     go_wp2_with (go_at_call 61; refine (topology_within _ _ _ _).mono ?_; rintro e w' ⟨rfl, rfl⟩)
     go_ret
     exact ⟨rfl, cQ w _⟩
  ·rw [bad2 hl]
   generalize t.ov.length = l1 at *
   generalize t.ls.length = l2 at *
   generalize t.n = n at *
   have i1 : inR n 1 64 = true := by rw [inR_true]; exact hn
   have d1 : decide (256 < (l2 : Int)) = true := by simp; omega
   clear hn hA2
   go_enter Tryz.func29, Tryz.ntmps29
   go_wp2_with (go_at_call 61; refine (topology_within _ _ _ _).mono ?_; rintro e w' ⟨rfl, rfl⟩)
   go_ret
   exact ⟨rfl, cQ w _⟩
 ·rw [bad1 hn]
  generalize t.ov.length = l1 at *
  generalize t.ls.length = l2 at *
  generalize t.n = n at *
  have i1 : inR n 1 64 = false := by rw [inR_false]; exact hn
  clear hn hA2
  go_enter Tryz.func29, Tryz.ntmps29
  go_wp2_with (go_at_call 61; refine (topology_within _ _ _ _).mono ?_; rintro e w' ⟨rfl, rfl⟩)
  go_ret
  exact ⟨rfl, cQ w _⟩
theorem lr0 {n : Int} {l : Lnk} (h : ¬ inR l.a 0 (n - 1) = true) : lnkOk n l = false := by simp [lnkOk, h]
theorem lr1 {n : Int} {l : Lnk} (h : ¬ inR l.b 0 (n - 1) = true) : lnkOk n l = false := by simp [lnkOk, h]
theorem lr2 {n : Int} {l : Lnk} (h : (l.a == l.b) = true) : lnkOk n l = false := by simp [lnkOk, h]
theorem good_r {n : Int} {l : Lnk} (e1 : (l.a == l.b) = false) (e2 : inR l.a 0 (n - 1) = true) (e3 : inR l.b 0 (n - 1) = true) (h0 : inR l.c0 1 65535 = true) (h1 : inR l.c1 1 65535 = true) (h2 : inR l.cap 0 1048576 = true) (h3 : inR l.dl 1 65536 = true) (h4 : inR l.g 0 64 = true) : lnkOk n l = true := by
 simp [lnkOk, e1, e2, e3, h0, h1, h2, h3, h4]
set_option maxHeartbeats 4000000 in
set_option maxRecDepth 100000 in
theorem ref09_Valid_loop (t : Topo) (A1 A2 : Option Addr) (c1 c2 : Nat) (w : World) (hA2 : RdL w A2 t.ls)
    (hn1 : 1 ≤ t.n) (hn2 : t.n ≤ 64) (hl : t.ls.length ≤ 256) (ho : t.ov.length = 0 ∨ (t.ov.length : Int) = t.n) :
    Calls Tryz.prog 73 #[.agg #[.int .i64 t.n, .slice A1 t.ov.length c1, .slice A2 t.ls.length c2]] w fun e w' => e = .returned (.bool (valid t)) ∧ Below w.heap.size w w' := by
 obtain ⟨l2, hl2⟩ : ∃ l2, l2 = t.ls.length := ⟨_, rfl⟩
 obtain ⟨l1, hl1⟩ : ∃ l1, l1 = t.ov.length := ⟨_, rfl⟩
 obtain ⟨n, hn⟩ : ∃ n, n = t.n := ⟨_, rfl⟩
 obtain ⟨V, hV⟩ : ∃ V, V = valid t := ⟨_, rfl⟩
 rw [← hl2, ← hV, ← hl1, ← hn]
 rw [← hn] at hn1 hn2
 rw [← hl1, ← hn] at ho
 rw [← hl2] at hl
 have HO := hU ho
 have HA := hU hA2; clear hA2
 have HL := hU hl2; clear hl2
 have HN := hU hn; clear hn
 have HO1 := hU hl1; clear hl1
 have HV := hU hV; clear hV
 have d1 : decide (256 < (l2 : Int)) = false := by simp; omega
 have i1 : inR n 1 64 = true := by simp [inR, hn1, hn2]
 have d0 : (((l1 : Int) != 0) = false) ∨ (((l1 : Int) != 0) = true ∧ ((l1 : Int) != n) = false) := by
  rcases ho with rfl | h
  ·exact .inl (by simp)
  ·exact .inr ⟨by simp; omega, by simp [h]⟩
 clear ho
 rcases d0 with d2 | ⟨d2, d3⟩
 all_goals
  go_enter Tryz.func73, Tryz.ntmps73
  go_wp2_with (go_at_call 103; refine (ref09_within _ _ _ _).mono ?_; rintro e w' ⟨rfl, rfl⟩)
  go_loopw [3] (fun i wr => ∃ k : Nat, k ≤ l2 ∧ i = .int .i64 k ∧ Hid (∀ j, j < k → ∃ l, t.ls[j]? = some l ∧ lnkOk n l = true) ∧ Below (w.heap.size + 1) (w.alloc (.cells #[.int .i64 n, .slice A1 l1 c1, .slice A2 l2 c2] 25)) wr) (fun i _ => l2 - (intOf i).toNat)
  case atStart => exact ⟨0, Nat.zero_le _, rfl, fun j hj => absurd hj (by omega), Below.refl _ _⟩
  case round =>
   obtain ⟨k, hk, rfl, hok, hb⟩ := hrel
   have b0 : wr.cell? ⟨w.heap.size, 0, none⟩ = some (.int .i64 n) := by rw [hb.cell (by simp)]; simp
   have b1 : wr.cell? ⟨w.heap.size, 1, none⟩ = some (.slice A1 l1 c1) := by rw [hb.cell (by simp)]; simp
   have b2 : wr.cell? ⟨w.heap.size, 2, none⟩ = some (.slice A2 l2 c2) := by rw [hb.cell (by simp)]; simp
   have HR := hU (HA.out.below ((cQ w _).trans (hb.mono (by omega))))
   have HB := hU hb; clear hb
   by_cases hlt : k < l2
   ·obtain ⟨b, o, l, rfl, hl', hc⟩ := HR.out.at_ (k := k) (by rw [← HL.out]; exact hlt)
    obtain ⟨q0, q1, q2, q3, q4, q5, q6⟩ := hc
    have HE := hU hl'; clear hl'
    have b0' := aQ (cQ wr (.cells #[.int .i64 l.a, .int .i64 l.b, .int .i64 l.c0, .int .i64 l.c1, .int .i64 l.cap, .int .i64 l.dl, .int .i64 l.g] 41)) b0
    cases e1 : (l.a == l.b) with
    | true =>
     go_wp2_with (go_at_call 103; refine (ref09_within _ _ _ _).mono ?_; rintro e w' ⟨rfl, rfl⟩)
     all_goals (go_ret; refine ⟨?_, bQ (below_boxed HB.out) (cQ wr _)⟩; rw [bad_k HN HV HE (lr2 e1)]; rfl)
    | false =>
     go_wp2_with (go_at_call 103; refine (ref09_within _ _ _ _).mono ?_; rintro e w' ⟨rfl, rfl⟩)
     all_goals first
      | (go_ret; refine ⟨?_, bQ (below_boxed HB.out) (cQ wr _)⟩; rw [bad_k HN HV HE ?_]; rfl; first | (refine lr0 ?_; assumption) | (refine lr1 ?_; assumption) | (refine lc0 ?_; assumption) | (refine lc1 ?_; assumption) | (refine lc2 ?_; assumption) | (refine lc3 ?_; assumption) | (refine lc4 ?_; assumption))
      | (refine ⟨⟨k + 1, by omega, by go_num, lnkOk_snoc HE.out (good_r e1 ?_ ?_ ?_ (of_not_b ?_) ?_ ?_ (of_not_b ?_)) hok.out, bQ HB.out (cQ wr _)⟩, by simp [intOf]; omega⟩ <;> assumption)
   ·go_wp2_with fail
    go_ret
    obtain rfl : k = l2 := by omega
    exact ⟨by rw [HV.out, valid_of (by rw [← HN.out]; exact hn1) (by rw [← HN.out]; exact hn2) (by rw [← HL.out]; exact hl) (by rw [← HO1.out, ← HN.out]; exact HO.out) (by rw [← HL.out, ← HN.out]; exact hok.out)]; rfl, below_boxed HB.out⟩
theorem dZ (t : Topo) (A1 A2 : Option Addr) (c1 c2 : Nat) (w : World) (hA2 : RdL w A2 t.ls) :
    Calls Tryz.prog 73 #[.agg #[.int .i64 t.n, .slice A1 t.ov.length c1, .slice A2 t.ls.length c2]] w fun e w' => e = .returned (.bool (valid t)) ∧ Below w.heap.size w w' := by
 by_cases hn : 1 ≤ t.n ∧ t.n ≤ 64
 ·by_cases hl : t.ls.length ≤ 256
  ·by_cases ho : t.ov.length = 0
   ·exact ref09_Valid_loop t A1 A2 c1 c2 w hA2 hn.1 hn.2 hl (.inl ho)
   ·by_cases ho2 : (t.ov.length : Int) = t.n
    ·exact ref09_Valid_loop t A1 A2 c1 c2 w hA2 hn.1 hn.2 hl (.inr ho2)
    ·rw [bad3 ho ho2]
     generalize t.ov.length = l1 at *
     generalize t.ls.length = l2 at *
     generalize t.n = n at *
     have i1 : inR n 1 64 = true := by rw [inR_true]; exact hn
     have d1 : decide (256 < (l2 : Int)) = false := by simp; omega
     have d2 : ((l1 : Int) != 0) = true := by simp; omega
     have d3 : ((l1 : Int) != n) = true := by simp [ho2]
     clear hn hA2 ho ho2
     go_enter Tryz.func73, Tryz.ntmps73
     go_wp2_with (go_at_call 103; refine (ref09_within _ _ _ _).mono ?_; rintro e w' ⟨rfl, rfl⟩)
     go_ret
     exact ⟨rfl, cQ w _⟩
  ·rw [bad2 hl]
   generalize t.ov.length = l1 at *
   generalize t.ls.length = l2 at *
   generalize t.n = n at *
   have i1 : inR n 1 64 = true := by rw [inR_true]; exact hn
   have d1 : decide (256 < (l2 : Int)) = true := by simp; omega
   cases d2 : ((l1 : Int) != 0) <;> cases d3 : ((l1 : Int) != n)
   all_goals
    clear hn hA2
    go_enter Tryz.func73, Tryz.ntmps73
    go_wp2_with (go_at_call 103; refine (ref09_within _ _ _ _).mono ?_; rintro e w' ⟨rfl, rfl⟩)
    go_ret
    exact ⟨rfl, cQ w _⟩
 ·rw [bad1 hn]
  generalize t.ov.length = l1 at *
  generalize t.ls.length = l2 at *
  generalize t.n = n at *
  have i1 : inR n 1 64 = false := by rw [inR_false]; exact hn
  clear hn hA2
  go_enter Tryz.func73, Tryz.ntmps73
  go_wp2_with (go_at_call 103; refine (ref09_within _ _ _ _).mono ?_; rintro e w' ⟨rfl, rfl⟩)
  go_ret
  exact ⟨rfl, cQ w _⟩
end
end Go.Proofs.YtdnjflpmbnjgeaaGreat
