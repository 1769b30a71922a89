/-
  Contracts of package graph's small functions and of the two 'within': what each returns, for every topology in memory.
  Contracts of topology.Valid and waypointref09.Valid: both return 'valid t', for every topology in memory.
  Contracts of the reference's small functions of chapter 9: the same plain functions as the program's.
-/
import Derived.Test.YtdnjflpmbnjgeaaPkBase
namespace Go.Proofs.Ytdnjflpmbnjgeaa
open Go.RowKit Go.Sort
theorem topology_within (n lo hi : Int) (w : World) :
    Calls Try.prog 44 #[.int .i64 n, .int .i64 lo, .int .i64 hi] w fun e w' => e = .returned (.bool (inR n lo hi)) ∧ w = w' := by
  by_cases h1 : lo ≤ n <;> by_cases h2 : n ≤ hi <;>
  (go_enter Try.func44, Try.ntmps44
   go_wp2
   go_ret
   simp [h1, h2, inR]) <;> omega
theorem graph_Node (n m : Int) (v1 v2 : Value) (w : World) :
    Calls Try.prog 27 #[.agg #[.int .i64 n, v1, v2], .int .i64 m] w fun e w' => e = .returned (.bool (isN n m)) ∧ Below w.heap.size w w' := by
  go_enter Try.func27, Try.ntmps27
  go_wp2 <;> (go_ret; refine ⟨by simp [isN] <;> omega, by go_grown⟩)
theorem graph_Arcs (v0 v1 : Value) (A2 : Option Addr) (n c2 : Nat) (w : World) (hn : n ≤ 100000) :
    Calls Try.prog 30 #[.agg #[v0, v1, .slice A2 n c2]] w fun e w' => e = .returned (.int .i64 (2 * (n : Int))) ∧ Below w.heap.size w w' := by
  go_enter Try.func30, Try.ntmps30
  go_wp2
  go_ret
  exact ⟨rfl, by go_grown⟩
theorem graph_Arc (v0 v1 : Value) (A2 : Option Addr) (n c2 : Nat) (a : Int) (w : World) (hn : n ≤ 100000) :
    Calls Try.prog 47 #[.agg #[v0, v1, .slice A2 n c2], .int .i64 a] w fun e w' => e = .returned (.bool (isN (2 * (n : Int)) a)) ∧ Below w.heap.size w w' := by
  by_cases h0 : 0 ≤ a
  · go_enter Try.func47, Try.ntmps47
    go_wp2_with (go_at_call 30; refine (graph_Arcs _ _ _ _ _ _ hn).mono ?_; rintro e w1 ⟨rfl, hb1⟩)
    go_ret
    exact ⟨by simp [h0, isN], below_next (below_box w _) hb1⟩
  · go_enter Try.func47, Try.ntmps47
    go_wp2_with fail
    go_ret
    exact ⟨by simp [isN]; omega, below_box w _⟩
theorem graph_Tail (v0 v1 : Value) (A2 : Option Addr) (c2 : Nat) (t : Topo) (a : Int) (w : World) (hA : RdL w A2 t.ls) (h0 : 0 ≤ a) (h1 : a < 2 * (t.ls.length : Int)) (hn : t.ls.length ≤ 100000) :
    Calls Try.prog 38 #[.agg #[v0, v1, .slice A2 t.ls.length c2], .int .i64 a] w fun e w' => e = .returned (.int .i64 (tail t a)) ∧ Below w.heap.size w w' := by
  obtain ⟨b, o, rfl, hc⟩ := hA.arc h0 h1
  have q0 := cell_up (below_box w (.cells #[v0, v1, .slice (some ⟨b, o, none⟩) t.ls.length c2] 25)) hc.q0
  have q1 := cell_up (below_box w (.cells #[v0, v1, .slice (some ⟨b, o, none⟩) t.ls.length c2] 25)) hc.q1
  have h2 : a / 2 < (t.ls.length : Int) := by omega
  have h3 : (0 : Int) ≤ a / 2 := by omega
  have HF : Hid (tail t a = if a % 2 = 0 then (lnk t a).a else (lnk t a).b) := Lib.hid rfl
  clear hA hc
  by_cases h : a % 2 = 0
  · have h' : (a % 2 == 0) = true := by simp [h]
    have HF2 := Lib.hid (HF.out.trans (if_pos h)); clear HF h
    go_enter Try.func38, Try.ntmps38
    go_wp2
    go_ret
    exact ⟨by rw [HF2.out]; rfl, below_box w _⟩
  · have h' : (a % 2 == 0) = false := by simp [h]
    have HF2 := Lib.hid (HF.out.trans (if_neg h)); clear HF h
    go_enter Try.func38, Try.ntmps38
    go_wp2
    go_ret
    exact ⟨by rw [HF2.out]; rfl, below_box w _⟩
theorem bits_xor_one (a : Int) (h0 : 0 ≤ a) (h1 : a < 1000000) : bits .xor .i64 a 1 = if a % 2 = 0 then a + 1 else a - 1 := by
  obtain ⟨k, rfl⟩ := Int.eq_ofNat_of_zero_le h0
  have hx : k ^^^ 1 < 2 ^ 63 := Nat.xor_lt_two_pow (by omega) (by omega)
  have e1 : (BitVec.ofInt 64 (k : Int)).toNat = k := by rw [BitVec.ofInt_natCast, BitVec.toNat_ofNat]; exact Nat.mod_eq_of_lt (by omega)
  show IntKind.i64.wrap ((BitVec.ofInt 64 (k : Int) ^^^ BitVec.ofInt 64 1).toNat : Int) = _
  rw [BitVec.toNat_xor, e1]
  have e2 : (BitVec.ofInt 64 (1 : Int)).toNat = 1 := by decide
  rw [e2, IntKind.wrap_i64]
  have e3 : k ^^^ 1 = if k % 2 = 0 then k + 1 else k - 1 := by
    have := Nat.xor_div_two (a := k) (b := 1)
    have h2 := Nat.xor_mod_two_eq_one (a := k) (b := 1)
    have h3 : k / 2 ^^^ 1 / 2 = k / 2 := by simp
    rw [h3] at this
    split <;> omega
  rw [e3]
  split <;> split <;> omega
theorem twin_lo {t : Topo} {a : Int} (h : a % 2 = 0) : tail t (a + 1) = head t a := by
  have e : (a + 1) / 2 = a / 2 := by omega
  have e2 : ¬ (a + 1) % 2 = 0 := by omega
  simp [tail, head, lnk, e, h, e2]
theorem twin_hi {t : Topo} {a : Int} (h : ¬ a % 2 = 0) : tail t (a - 1) = head t a := by
  have e : (a - 1) / 2 = a / 2 := by omega
  have e2 : (a - 1) % 2 = 0 := by omega
  simp [tail, head, lnk, e, h, e2]
theorem graph_Head (v0 v1 : Value) (A2 : Option Addr) (c2 : Nat) (t : Topo) (a : Int) (w : World) (hA : RdL w A2 t.ls) (h0 : 0 ≤ a) (h1 : a < 2 * (t.ls.length : Int)) (hn : t.ls.length ≤ 100000) :
    Calls Try.prog 42 #[.agg #[v0, v1, .slice A2 t.ls.length c2], .int .i64 a] w fun e w' => e = .returned (.int .i64 (head t a)) ∧ Below w.heap.size w w' := by
  have hx := bits_xor_one a h0 (by omega)
  have hb := below_box w (.cells #[v0, v1, .slice A2 t.ls.length c2] 25)
  by_cases h : a % 2 = 0
  · rw [if_pos h] at hx
    rw [← twin_lo h]
    have h2 : a + 1 < 2 * (t.ls.length : Int) := by omega
    clear h
    go_enter Try.func42, Try.ntmps42
    go_wp2_with (go_at_call 38; refine (graph_Tail _ _ _ _ t (a + 1) _ (hA.below hb) (by omega) (by omega) hn).mono ?_; rintro e w1 ⟨rfl, hb1⟩)
    go_ret
    exact ⟨rfl, below_next hb hb1⟩
  · rw [if_neg h] at hx
    rw [← twin_hi h]
    have h2 : 1 ≤ a := by omega
    clear h
    go_enter Try.func42, Try.ntmps42
    go_wp2_with (go_at_call 38; refine (graph_Tail _ _ _ _ t (a - 1) _ (hA.below hb) (by omega) (by omega) hn).mono ?_; rintro e w1 ⟨rfl, hb1⟩)
    go_ret
    exact ⟨rfl, below_next hb hb1⟩
theorem graph_Cost (v0 v1 : Value) (A2 : Option Addr) (c2 : Nat) (t : Topo) (a : Int) (w : World) (hA : RdL w A2 t.ls) (h0 : 0 ≤ a) (h1 : a < 2 * (t.ls.length : Int)) (hn : t.ls.length ≤ 100000) :
    Calls Try.prog 81 #[.agg #[v0, v1, .slice A2 t.ls.length c2], .int .i64 a] w fun e w' => e = .returned (.int .i64 (cost t a)) ∧ Below w.heap.size w w' := by
  obtain ⟨b, o, rfl, hc⟩ := hA.arc h0 h1
  have q2 := cell_up (below_box w (.cells #[v0, v1, .slice (some ⟨b, o, none⟩) t.ls.length c2] 25)) hc.q2
  have q3 := cell_up (below_box w (.cells #[v0, v1, .slice (some ⟨b, o, none⟩) t.ls.length c2] 25)) hc.q3
  have h2 : a / 2 < (t.ls.length : Int) := by omega
  have h3 : (0 : Int) ≤ a / 2 := by omega
  have HF : Hid (cost t a = if a % 2 = 0 then (lnk t a).c0 else (lnk t a).c1) := Lib.hid rfl
  clear hA hc
  by_cases h : a % 2 = 0
  · have HF2 := Lib.hid (HF.out.trans (if_pos h)); clear HF
    go_enter Try.func81, Try.ntmps81
    go_wp2
    go_ret
    exact ⟨by rw [HF2.out]; rfl, below_box w _⟩
  · have h' : a % 2 = 1 := by omega
    have HF2 := Lib.hid (HF.out.trans (if_neg h)); clear HF h
    go_enter Try.func81, Try.ntmps81
    go_wp2
    go_ret
    exact ⟨by rw [HF2.out]; rfl, below_box w _⟩
theorem graph_Over (v0 v2 : Value) (A1 : Option Addr) (c1 : Nat) (t : Topo) (n : Int) (w : World) (hA : Rd w A1 (t.ov.map Value.bool)) (h0 : 0 ≤ n) (h1 : t.ov.length = 0 ∨ n < (t.ov.length : Int)) :
    Calls Try.prog 79 #[.agg #[v0, .slice A1 t.ov.length c1, v2], .int .i64 n] w fun e w' => e = .returned (.bool (over t n)) ∧ Below w.heap.size w w' := by
  by_cases he : t.ov.length = 0
  · have HF : Hid (over t n = false) := Lib.hid (by simp [over, List.eq_nil_of_length_eq_zero he])
    rw [he]
    clear hA h1 he
    go_enter Try.func79, Try.ntmps79
    go_wp2
    go_ret
    exact ⟨by rw [HF.out]; rfl, below_box w _⟩
  · have hn : n < (t.ov.length : Int) := by omega
    have hl : n.toNat < t.ov.length := by omega
    have hu : (t.ov.map Value.bool)[n.toNat]? = some (.bool (over t n)) := by
      simp [over, List.getElem?_eq_getElem hl, List.getD_eq_getElem?_getD]
    obtain ⟨b, o, rfl, hc⟩ := hA.at_ hu
    have q0 := cell_up (below_box w (.cells #[v0, .slice (some ⟨b, o, none⟩) t.ov.length c1, v2] 25)) hc
    have hp : decide ((0 : Int) < (t.ov.length : Int)) = true := by simp; omega
    generalize over t n = x at *
    generalize t.ov.length = m at *
    clear hA hc hu h1 he
    go_enter Try.func79, Try.ntmps79
    go_wp2
    go_ret
    exact ⟨rfl, below_box w _⟩
end Go.Proofs.Ytdnjflpmbnjgeaa
namespace Go.Proofs.Ytdnjflpmbnjgeaa
open Go.RowKit Go.Sort
theorem bad1 {t : Topo} (h : ¬ (1 ≤ t.n ∧ t.n ≤ 64)) : valid t = false := by
  have : inR t.n 1 64 = false := by simp only [inR, Bool.and_eq_false_iff, decide_eq_false_iff_not]; omega
  simp [valid, this]
theorem bad2 {t : Topo} (h : ¬ t.ls.length ≤ 256) : valid t = false := by simp [valid, h]
theorem bad3 {t : Topo} (h : ¬ t.ov.length = 0) (h2 : ¬ (t.ov.length : Int) = t.n) : valid t = false := by
  have e : (decide (t.ov.length = 0) || decide ((t.ov.length : Int) = t.n)) = false := by simp only [Bool.or_eq_false_iff, decide_eq_false_iff_not]; exact ⟨h, h2⟩
  simp only [valid, e, Bool.and_false, Bool.false_and]
theorem bad_k {t : Topo} {n : Int} {V : Bool} {k : Nat} {l : Lnk} (HN : Hid (n = t.n)) (HV : Hid (V = valid t)) (HE : Hid (t.ls[k]? = some l)) (h : lnkOk n l = false) : V = false := by
  rw [HV.out]
  exact valid_bad HE.out (by rw [← HN.out]; exact h)
theorem bad_a {n : Int} {l : Lnk} (h : isN n l.a = false) : lnkOk n l = false := by
  have : inR l.a 0 (n - 1) = false := by rw [inR_false]; rw [isN_false] at h; omega
  simp [lnkOk, this]
theorem bad_b {n : Int} {l : Lnk} (h : isN n l.b = false) : lnkOk n l = false := by
  have : inR l.b 0 (n - 1) = false := by rw [inR_false]; rw [isN_false] at h; omega
  simp [lnkOk, this]
theorem not_of_b {x : Bool} (h : (!x) = true) : x = false := by simpa using h
theorem of_not_b {x : Bool} (h : (!x) = false) : x = true := by simpa using h
theorem lc0 {n : Int} {l : Lnk} (h : ¬ inR l.c0 1 65535 = true) : lnkOk n l = false := by simp [lnkOk, h]
theorem lc1 {n : Int} {l : Lnk} (h : (!inR l.c1 1 65535) = true) : lnkOk n l = false := by simp [lnkOk, not_of_b h]
theorem lc2 {n : Int} {l : Lnk} (h : ¬ inR l.cap 0 1048576 = true) : lnkOk n l = false := by simp [lnkOk, h]
theorem lc3 {n : Int} {l : Lnk} (h : ¬ inR l.dl 1 65536 = true) : lnkOk n l = false := by simp [lnkOk, h]
theorem lc4 {n : Int} {l : Lnk} (h : (!inR l.g 0 64) = true) : lnkOk n l = false := by simp [lnkOk, not_of_b h]
theorem good_l {n : Int} {l : Lnk} (e1 : (l.a == l.b) = false) (e2 : isN n l.a = true) (e3 : isN n l.b = true) (h0 : inR l.c0 1 65535 = true) (h1 : inR l.c1 1 65535 = true) (h2 : inR l.cap 0 1048576 = true) (h3 : inR l.dl 1 65536 = true) (h4 : inR l.g 0 64 = true) : lnkOk n l = true := by
  have ha : inR l.a 0 (n - 1) = true := by rw [inR_true]; rw [isN_true] at e2; omega
  have hb : inR l.b 0 (n - 1) = true := by rw [inR_true]; rw [isN_true] at e3; omega
  simp [lnkOk, e1, ha, hb, h0, h1, h2, h3, h4]
set_option maxHeartbeats 4000000 in
set_option maxRecDepth 100000 in
theorem topology_Valid_loop (t : Topo) (A1 A2 : Option Addr) (c1 c2 : Nat) (w : World) (hA2 : RdL w A2 t.ls)
    (hn1 : 1 ≤ t.n) (hn2 : t.n ≤ 64) (hl : t.ls.length ≤ 256) (ho : t.ov.length = 0 ∨ (t.ov.length : Int) = t.n) :
    Calls Try.prog 24 #[.agg #[.int .i64 t.n, .slice A1 t.ov.length c1, .slice A2 t.ls.length c2]] w fun e w' => e = .returned (.bool (valid t)) ∧ Below w.heap.size w w' := by
  obtain ⟨l2, hl2⟩ : ∃ l2, l2 = t.ls.length := ⟨_, rfl⟩
  obtain ⟨l1, hl1⟩ : ∃ l1, l1 = t.ov.length := ⟨_, rfl⟩
  obtain ⟨n, hn⟩ : ∃ n, n = t.n := ⟨_, rfl⟩
  obtain ⟨V, hV⟩ : ∃ V, V = valid t := ⟨_, rfl⟩
  rw [← hl2, ← hV, ← hl1, ← hn]
  rw [← hn] at hn1 hn2
  rw [← hl1, ← hn] at ho
  rw [← hl2] at hl
  have HO := Lib.hid ho
  have HA := Lib.hid hA2; clear hA2
  have HL := Lib.hid hl2; clear hl2
  have HN := Lib.hid hn; clear hn
  have HO1 := Lib.hid hl1; clear hl1
  have HV := Lib.hid hV; clear hV
  have d1 : decide (256 < (l2 : Int)) = false := by simp; omega
  have i1 : inR n 1 64 = true := by simp [inR, hn1, hn2]
  have d0 : (((l1 : Int) != 0) = false) ∨ (((l1 : Int) != 0) = true ∧ ((l1 : Int) != n) = false) := by
    rcases ho with rfl | h
    · exact .inl (by simp)
    · exact .inr ⟨by simp; omega, by simp [h]⟩
  clear ho
  rcases d0 with d2 | ⟨d2, d3⟩
  all_goals
    go_enter Try.func24, Try.ntmps24
    go_wp2_with (go_at_call 44; refine (topology_within _ _ _ _).mono ?_; rintro e w' ⟨rfl, rfl⟩)
    go_loopw [30] (fun i wr => ∃ k : Nat, k ≤ l2 ∧ i = .int .i64 k ∧ Hid (∀ j, j < k → ∃ l, t.ls[j]? = some l ∧ lnkOk n l = true) ∧ Below (w.heap.size + 1) (w.alloc (.cells #[.int .i64 n, .slice A1 l1 c1, .slice A2 l2 c2] 25)) wr) (fun i _ => l2 - (intOf i).toNat)
    case atStart => exact ⟨0, Nat.zero_le _, rfl, fun j hj => absurd hj (by omega), Below.refl _ _⟩
    case round =>
      obtain ⟨k, hk, rfl, hok, hb⟩ := hrel
      have b0 : wr.cell? ⟨w.heap.size, 0, none⟩ = some (.int .i64 n) := by rw [hb.cell (by simp)]; simp
      have b1 : wr.cell? ⟨w.heap.size, 1, none⟩ = some (.slice A1 l1 c1) := by rw [hb.cell (by simp)]; simp
      have b2 : wr.cell? ⟨w.heap.size, 2, none⟩ = some (.slice A2 l2 c2) := by rw [hb.cell (by simp)]; simp
      have HR := Lib.hid (HA.out.below ((below_box w _).trans (hb.mono (by omega))))
      have HB := Lib.hid hb; clear hb
      by_cases hlt : k < l2
      · obtain ⟨b, o, l, rfl, hl', hc⟩ := HR.out.at_ (k := k) (by rw [← HL.out]; exact hlt)
        obtain ⟨q0, q1, q2, q3, q4, q5, q6⟩ := hc
        have HE := Lib.hid hl'; clear hl'
        cases e1 : (l.a == l.b) with
        | true =>
          go_wp2_with fail
          have kq_b0 := cell_regrown b0
          have kq_b1 := cell_regrown b1
          have kq_b2 := cell_regrown b2
          have kq_q0 := cell_regrown q0
          have kq_q1 := cell_regrown q1
          refine wp_region_quiet_below (by kernel_rfl) (by kernel_rfl) ?_
          repeat (go_big_quiet_step (fail))
          refine wpQuiet_nil ?_
          intro w2 hb2
          replace hb2 := below_of_regrown hb2
          clear kq_b0 kq_b1 kq_b2 kq_q0 kq_q1
          replace b0 := cell_up hb2 b0
          replace b1 := cell_up hb2 b1
          replace b2 := cell_up hb2 b2
          replace q0 := cell_up hb2 q0
          replace q1 := cell_up hb2 q1
          go_wp2_with fail
          go_ret
          exact ⟨by rw [bad_k HN HV HE (by simp [lnkOk, e1])]; rfl, below_next (below_boxed HB.out) hb2⟩
        | false =>
          cases e2 : isN n l.a with
          | false =>
            go_wp2_with fail
            have kq_b0 := cell_regrown b0
            have kq_b1 := cell_regrown b1
            have kq_b2 := cell_regrown b2
            have kq_q0 := cell_regrown q0
            have kq_q1 := cell_regrown q1
            refine wp_region_quiet_below (by kernel_rfl) (by kernel_rfl) ?_
            repeat (go_big_quiet_step (exact Calls.regrown_of (graph_Node _ _ _ _ _)))
            refine wpQuiet_nil ?_
            intro w2 hb2
            replace hb2 := below_of_regrown hb2
            clear kq_b0 kq_b1 kq_b2 kq_q0 kq_q1
            replace b0 := cell_up hb2 b0
            replace b1 := cell_up hb2 b1
            replace b2 := cell_up hb2 b2
            replace q0 := cell_up hb2 q0
            replace q1 := cell_up hb2 q1
            go_wp2_with fail
            go_ret
            exact ⟨by rw [bad_k HN HV HE (bad_a e2)]; rfl, below_next (below_boxed HB.out) hb2⟩
          | true =>
            cases e3 : isN n l.b with
            | false =>
              go_wp2_with fail
              have kq_b0 := cell_regrown b0
              have kq_b1 := cell_regrown b1
              have kq_b2 := cell_regrown b2
              have kq_q0 := cell_regrown q0
              have kq_q1 := cell_regrown q1
              refine wp_region_quiet_below (by kernel_rfl) (by kernel_rfl) ?_
              repeat (go_big_quiet_step (exact Calls.regrown_of (graph_Node _ _ _ _ _)))
              refine wpQuiet_nil ?_
              intro w2 hb2
              replace hb2 := below_of_regrown hb2
              clear kq_b0 kq_b1 kq_b2 kq_q0 kq_q1
              replace b0 := cell_up hb2 b0
              replace b1 := cell_up hb2 b1
              replace b2 := cell_up hb2 b2
              replace q0 := cell_up hb2 q0
              replace q1 := cell_up hb2 q1
              go_wp2_with fail
              go_ret
              exact ⟨by rw [bad_k HN HV HE (bad_b e3)]; rfl, below_next (below_boxed HB.out) hb2⟩
            | true =>
              go_wp2_with fail
              have kq_b0 := cell_regrown b0
              have kq_b1 := cell_regrown b1
              have kq_b2 := cell_regrown b2
              have kq_q0 := cell_regrown q0
              have kq_q1 := cell_regrown q1
              have kq_q2 := cell_regrown q2
              have kq_q3 := cell_regrown q3
              have kq_q4 := cell_regrown q4
              have kq_q5 := cell_regrown q5
              have kq_q6 := cell_regrown q6
              refine wp_region_quiet_below (by kernel_rfl) (by kernel_rfl) ?_
              repeat (go_big_quiet_step (exact Calls.regrown_of (graph_Node _ _ _ _ _)))
              refine wpQuiet_nil ?_
              intro w2 hb2
              replace hb2 := below_of_regrown hb2
              clear kq_b0 kq_b1 kq_b2 kq_q0 kq_q1 kq_q2 kq_q3 kq_q4 kq_q5 kq_q6
              replace b0 := cell_up hb2 b0
              replace b1 := cell_up hb2 b1
              replace b2 := cell_up hb2 b2
              replace q0 := cell_up hb2 q0
              replace q1 := cell_up hb2 q1
              replace q2 := cell_up hb2 q2
              replace q3 := cell_up hb2 q3
              replace q4 := cell_up hb2 q4
              replace q5 := cell_up hb2 q5
              replace q6 := cell_up hb2 q6
              go_wp2_with (go_at_call 44; refine (topology_within _ _ _ _).mono ?_; rintro e w' ⟨rfl, rfl⟩)
              all_goals first
                | (go_ret; refine ⟨?_, below_next (below_boxed HB.out) hb2⟩; rw [bad_k HN HV HE ?_]; rfl; first | (refine lc0 ?_; assumption) | (refine lc1 ?_; assumption) | (refine lc2 ?_; assumption) | (refine lc3 ?_; assumption) | (refine lc4 ?_; assumption))
                | (refine ⟨⟨k + 1, by omega, by go_num, lnkOk_snoc HE.out (good_l e1 e2 e3 ?_ (of_not_b ?_) ?_ ?_ (of_not_b ?_)) hok.out, below_next HB.out hb2⟩, by simp [intOf]; omega⟩ <;> assumption)
      · go_wp2_with fail
        go_ret
        obtain rfl : k = l2 := by omega
        exact ⟨by rw [HV.out, valid_of (by rw [← HN.out]; exact hn1) (by rw [← HN.out]; exact hn2) (by rw [← HL.out]; exact hl) (by rw [← HO1.out, ← HN.out]; exact HO.out) (by rw [← HL.out, ← HN.out]; exact hok.out)]; rfl, below_boxed HB.out⟩
theorem topology_Valid (t : Topo) (A1 A2 : Option Addr) (c1 c2 : Nat) (w : World) (hA2 : RdL w A2 t.ls) :
    Calls Try.prog 24 #[.agg #[.int .i64 t.n, .slice A1 t.ov.length c1, .slice A2 t.ls.length c2]] w fun e w' => e = .returned (.bool (valid t)) ∧ Below w.heap.size w w' := by
  by_cases hn : 1 ≤ t.n ∧ t.n ≤ 64
  · by_cases hl : t.ls.length ≤ 256
    · by_cases ho : t.ov.length = 0
      · exact topology_Valid_loop t A1 A2 c1 c2 w hA2 hn.1 hn.2 hl (.inl ho)
      · by_cases ho2 : (t.ov.length : Int) = t.n
        · exact topology_Valid_loop t A1 A2 c1 c2 w hA2 hn.1 hn.2 hl (.inr ho2)
        · rw [bad3 ho ho2]
          generalize t.ov.length = l1 at *
          generalize t.ls.length = l2 at *
          generalize t.n = n at *
          have i1 : inR n 1 64 = true := by rw [inR_true]; exact hn
          have d1 : decide (256 < (l2 : Int)) = false := by simp; omega
          have d2 : ((l1 : Int) != 0) = true := by simp; omega
          have d3 : ((l1 : Int) != n) = true := by simp [ho2]
          clear hn hA2 ho ho2
          go_enter Try.func24, Try.ntmps24
          go_wp2_with (go_at_call 44; refine (topology_within _ _ _ _).mono ?_; rintro e w' ⟨rfl, rfl⟩)
          go_ret
          exact ⟨rfl, below_box w _⟩
    · rw [bad2 hl]
      generalize t.ov.length = l1 at *
      generalize t.ls.length = l2 at *
      generalize t.n = n at *
      have i1 : inR n 1 64 = true := by rw [inR_true]; exact hn
      have d1 : decide (256 < (l2 : Int)) = true := by simp; omega
      clear hn hA2
      go_enter Try.func24, Try.ntmps24
      go_wp2_with (go_at_call 44; refine (topology_within _ _ _ _).mono ?_; rintro e w' ⟨rfl, rfl⟩)
      go_ret
      exact ⟨rfl, below_box w _⟩
  · rw [bad1 hn]
    generalize t.ov.length = l1 at *
    generalize t.ls.length = l2 at *
    generalize t.n = n at *
    have i1 : inR n 1 64 = false := by rw [inR_false]; exact hn
    clear hn hA2
    go_enter Try.func24, Try.ntmps24
    go_wp2_with (go_at_call 44; refine (topology_within _ _ _ _).mono ?_; rintro e w' ⟨rfl, rfl⟩)
    go_ret
    exact ⟨rfl, below_box w _⟩
end Go.Proofs.Ytdnjflpmbnjgeaa
namespace Go.Proofs.Ytdnjflpmbnjgeaa
open Go.RowKit Go.Sort
end Go.Proofs.Ytdnjflpmbnjgeaa
