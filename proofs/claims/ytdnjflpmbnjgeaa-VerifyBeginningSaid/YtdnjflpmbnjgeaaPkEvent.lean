/-
  waypointref55.HasArc and Event: what each returns.
  Lists of events in memory; trace.Valid, Count, Last, Of, Between and waypointref55.Valid, Same, Of, Between: what each returns.
-/
import Derived.Test.YtdnjflpmbnjgeaaEv
import Derived.Test.YtdnjflpmbnjgeaaPkOut
import Derived.Deep.DeepCutAuto
namespace Go.Proofs.Ytdnjflpmbnjgeaa
open Go.RowKit Go.Sort
structure EvAt (w : World) (b : Nat) (t k n a p r : Int) : Prop where
  s0 : w.cell? ⟨b, 0, none⟩ = some (.int .i64 t)
  s1 : w.cell? ⟨b, 1, none⟩ = some (.int .i64 k)
  s2 : w.cell? ⟨b, 2, none⟩ = some (.int .i64 n)
  s3 : w.cell? ⟨b, 3, none⟩ = some (.int .i64 a)
  s4 : w.cell? ⟨b, 4, none⟩ = some (.int .i64 p)
  s5 : w.cell? ⟨b, 5, none⟩ = some (.int .i64 r)
theorem EvAt.up {w w' : World} {b : Nat} {t k n a p r : Int} (h : EvAt w b t k n a p r) (hb : Below w.heap.size w w') : EvAt w' b t k n a p r :=
  ⟨cell_up hb h.s0, cell_up hb h.s1, cell_up hb h.s2, cell_up hb h.s3, cell_up hb h.s4, cell_up hb h.s5⟩
end Go.Proofs.Ytdnjflpmbnjgeaa
namespace Go.Proofs.Ytdnjflpmbnjgeaa
open Go.RowKit Go.Sort
def evV (e : Ev) : List Value := [.int .i64 e.t, .int .i64 e.k, .int .i64 e.n, .int .i64 e.a, .int .i64 e.p, .int .i64 e.r]
/-- The cells of an event that starts at an address. -/
structure EvO (w : World) (b o : Nat) (e : Ev) : Prop where
  q0 : w.cell? ⟨b, o, none⟩ = some (.int .i64 e.t)
  q1 : w.cell? ⟨b, o + 1, none⟩ = some (.int .i64 e.k)
  q2 : w.cell? ⟨b, o + 2, none⟩ = some (.int .i64 e.n)
  q3 : w.cell? ⟨b, o + 3, none⟩ = some (.int .i64 e.a)
  q4 : w.cell? ⟨b, o + 4, none⟩ = some (.int .i64 e.p)
  q5 : w.cell? ⟨b, o + 5, none⟩ = some (.int .i64 e.r)
theorem EvO.up {w w' : World} {b o : Nat} {e : Ev} (h : EvO w b o e) (hb : Below w.heap.size w w') : EvO w' b o e :=
  ⟨cell_up hb h.q0, cell_up hb h.q1, cell_up hb h.q2, cell_up hb h.q3, cell_up hb h.q4, cell_up hb h.q5⟩
/-- The cells of a slice of events. -/
def RdE (w : World) (A : Option Addr) (l : List Ev) : Prop :=
  l = [] ∨ ∃ b o, A = some ⟨b, o, none⟩ ∧ ∀ k e, l[k]? = some e → EvO w b (o + k * 6) e
theorem RdE.nil {w : World} {A : Option Addr} : RdE w A [] := .inl rfl
theorem RdE.below {w w' : World} {A : Option Addr} {l : List Ev} (h : RdE w A l) (hb : Below w.heap.size w w') : RdE w' A l := by
  rcases h with rfl | ⟨b, o, rfl, hc⟩
  · exact .inl rfl
  · exact .inr ⟨b, o, rfl, fun k e he => (hc k e he).up hb⟩
theorem RdE.at_ {w : World} {A : Option Addr} {l : List Ev} {k : Nat} (h : RdE w A l) (hk : k < l.length) : ∃ b o e, A = some ⟨b, o, none⟩ ∧ l[k]? = some e ∧ EvO w b (o + k * 6) e := by
  rcases h with rfl | ⟨b, o, rfl, hc⟩
  · simp at hk
  · exact ⟨b, o, l[k], rfl, List.getElem?_eq_getElem hk, hc k l[k] (List.getElem?_eq_getElem hk)⟩
theorem RdE.two {w : World} {A : Option Addr} {l : List Ev} {k : Nat} (h : RdE w A l) (hk : k + 1 < l.length) : ∃ b o d e, A = some ⟨b, o, none⟩ ∧ l[k]? = some d ∧ l[k + 1]? = some e ∧ EvO w b (o + k * 6) d ∧ EvO w b (o + (k + 1) * 6) e := by
  rcases h with rfl | ⟨b, o, rfl, hc⟩
  · simp at hk
  · exact ⟨b, o, l[k], l[k + 1], rfl, List.getElem?_eq_getElem (by omega), List.getElem?_eq_getElem hk, hc k _ (List.getElem?_eq_getElem (by omega)), hc (k + 1) _ (List.getElem?_eq_getElem hk)⟩
theorem RdE.take {w : World} {A : Option Addr} {l : List Ev} (h : RdE w A l) (k : Nat) : RdE w A (l.take k) := by
  rcases h with rfl | ⟨b, o, rfl, hc⟩
  · exact .inl (by simp)
  · exact .inr ⟨b, o, rfl, fun j e he => hc j e (by rw [List.getElem?_take] at he; split at he <;> simp_all)⟩
theorem evO_of {w : World} {b o : Nat} {e : Ev} (h : ∀ (j : Nat) (v : Value), (evV e)[j]? = some v → w.cell? ⟨b, o + j, none⟩ = some v) : EvO w b o e :=
  ⟨h 0 _ rfl, h 1 _ rfl, h 2 _ rfl, h 3 _ rfl, h 4 _ rfl, h 5 _ rfl⟩
/-- Is the event at an index valid, and not earlier than the one before? -/
def goodE (l : List Ev) (k : Nat) : Bool := evOk (l.getD k default) && (decide (k = 0) || !decide ((l.getD k default).t < (l.getD (k - 1) default).t))
/-- Is a trace valid? -/
def trOk (l : List Ev) : Bool := (List.range l.length).all (goodE l)
theorem trOk_bad {l : List Ev} {k : Nat} (hk : k < l.length) (h : goodE l k = false) : trOk l = false := by
  rw [trOk, List.all_eq_false]
  exact ⟨k, by simpa using hk, by simp [h]⟩
theorem trOk_of {l : List Ev} (h : ∀ k, k < l.length → goodE l k = true) : trOk l = true := by
  rw [trOk, List.all_eq_true]
  intro k hk
  exact h k (by simpa using hk)
theorem trOk_at {l : List Ev} (h : trOk l = true) {k : Nat} (hk : k < l.length) : goodE l k = true := by
  rw [trOk, List.all_eq_true] at h
  exact h k (by simpa using hk)
theorem getD_at {l : List Ev} {k : Nat} {e : Ev} (h : l[k]? = some e) : l.getD k default = e := by simp [List.getD_eq_getElem?_getD, h]
theorem good_ev {l : List Ev} {k : Nat} {e : Ev} (h : l[k]? = some e) (he : evOk e = false) : goodE l k = false := by simp only [goodE, getD_at h, he, Bool.false_and]
theorem good_0 {l : List Ev} {e : Ev} (h : l[0]? = some e) (he : evOk e = true) : goodE l 0 = true := by simp only [goodE, getD_at h, he, Bool.true_and, decide_true, Bool.true_or]
theorem good_s {l : List Ev} {k : Nat} {d e : Ev} (hd : l[k]? = some d) (h : l[k + 1]? = some e) (he : evOk e = true) : goodE l (k + 1) = !decide (e.t < d.t) := by simp only [goodE, getD_at h, he, Nat.add_sub_cancel, getD_at hd, Bool.true_and, Nat.succ_ne_zero, decide_false, Bool.false_or]
theorem good_next {l : List Ev} {k : Nat} (h : ∀ j, j < k → goodE l j = true) (hk : goodE l k = true) : ∀ j, j < k + 1 → goodE l j = true := by
  intro j hj
  by_cases e : j = k
  · subst e; exact hk
  · exact h j (by omega)
theorem ev_box (w : World) (e : Ev) : EvO (w.alloc (.cells #[.int .i64 e.t, .int .i64 e.k, .int .i64 e.n, .int .i64 e.a, .int .i64 e.p, .int .i64 e.r] 49)) w.heap.size 0 e :=
  ⟨by simp, by simp, by simp, by simp, by simp, by simp⟩
set_option maxRecDepth 100000 in
set_option maxHeartbeats 2000000 in
theorem trace_Valid (A : Option Addr) (c : Nat) (l : List Ev) (w : World) (hA : RdE w A l) (hm : l.length ≤ 4611686018427387904) :
    Calls Try.prog 28 #[.slice A l.length c] w fun e w' => e = .returned (.bool (trOk l)) ∧ Below w.heap.size w w' := by
  obtain ⟨V, hV⟩ : ∃ V, V = trOk l := ⟨_, rfl⟩
  rw [← hV]
  have HV := Lib.hid hV
  have HA := Lib.hid hA
  clear hV hA
  go_enter Try.func28, Try.ntmps28
  go_wp2_with fail
  go_loopw [7] (fun i wr => ∃ k : Nat, k ≤ l.length ∧ i = .int .i64 k ∧ Hid (∀ j, j < k → goodE l j = true) ∧ Hid (Below w.heap.size w wr)) (fun i _ => l.length - (intOf i).toNat)
  case atStart => exact ⟨0, Nat.zero_le _, rfl, Lib.hid (fun j hj => absurd hj (Nat.not_lt_zero _)), Lib.hid (Below.refl _ _)⟩
  case round =>
    obtain ⟨k, hk, rfl, HJ, HW⟩ := hrel
    by_cases hlt : k < l.length
    · by_cases hk0 : k = 0
      · subst hk0
        obtain ⟨b, o, e, rfl, he, hc⟩ := (HA.out.below HW.out).at_ hlt
        obtain ⟨q0, q1, q2, q3, q4, q5⟩ := hc
        simp only [Nat.zero_mul, Nat.add_zero] at q0 q1 q2 q3 q4 q5
        have HE := Lib.hid he
        clear he hk
        have hlt' : decide (0 < l.length) = true := by simpa using hlt
        cases hok : evOk e with
        | false =>
          have HR : Hid (V = false) := Lib.hid (by rw [HV.out]; exact trOk_bad hlt (good_ev HE.out hok))
          go_wp2_with fail
          obtain ⟨W, hW⟩ : ∃ W, wr.alloc (.cells #[.int .i64 e.t, .int .i64 e.k, .int .i64 e.n, .int .i64 e.a, .int .i64 e.p, .int .i64 e.r] 49) = W := ⟨_, rfl⟩
          have sW := ev_box wr e
          have hbW := below_box wr (.cells #[.int .i64 e.t, .int .i64 e.k, .int .i64 e.n, .int .i64 e.a, .int .i64 e.p, .int .i64 e.r] 49)
          rw [hW] at sW hbW ⊢
          clear hW
          obtain ⟨s0, s1, s2, s3, s4, s5⟩ := sW
          simp only [Nat.zero_add] at s1 s2 s3 s4 s5
          replace HW := Lib.hid (below_next HW.out hbW)
          clear q0 q1 q2 q3 q4 q5 hbW
          have kq_s0 := cell_regrown s0
          have kq_s1 := cell_regrown s1
          have kq_s2 := cell_regrown s2
          have kq_s3 := cell_regrown s3
          have kq_s4 := cell_regrown s4
          have kq_s5 := cell_regrown s5
          refine wp_region_quiet_below (by kernel_rfl) (by kernel_rfl) ?_
          repeat (go_big_quiet_step ((first | exact Calls.regrown_of (hok ▸ trace_valid e _))))
          refine wpQuiet_nil ?_
          intro w2 hb2
          replace hb2 := below_of_regrown hb2
          clear kq_s0 kq_s1 kq_s2 kq_s3 kq_s4 kq_s5
          replace s0 := cell_up hb2 s0
          replace s1 := cell_up hb2 s1
          replace s2 := cell_up hb2 s2
          replace s3 := cell_up hb2 s3
          replace s4 := cell_up hb2 s4
          replace s5 := cell_up hb2 s5
          go_wp2_with fail
          go_ret
          exact ⟨by rw [HR.out]; rfl, below_next HW.out hb2⟩
        | true =>
          have HG := Lib.hid (good_next HJ.out (good_0 HE.out hok))
          go_wp2_with fail
          obtain ⟨W, hW⟩ : ∃ W, wr.alloc (.cells #[.int .i64 e.t, .int .i64 e.k, .int .i64 e.n, .int .i64 e.a, .int .i64 e.p, .int .i64 e.r] 49) = W := ⟨_, rfl⟩
          have sW := ev_box wr e
          have hbW := below_box wr (.cells #[.int .i64 e.t, .int .i64 e.k, .int .i64 e.n, .int .i64 e.a, .int .i64 e.p, .int .i64 e.r] 49)
          rw [hW] at sW hbW ⊢
          clear hW
          obtain ⟨s0, s1, s2, s3, s4, s5⟩ := sW
          simp only [Nat.zero_add] at s1 s2 s3 s4 s5
          replace HW := Lib.hid (below_next HW.out hbW)
          clear q0 q1 q2 q3 q4 q5 hbW
          have kq_s0 := cell_regrown s0
          have kq_s1 := cell_regrown s1
          have kq_s2 := cell_regrown s2
          have kq_s3 := cell_regrown s3
          have kq_s4 := cell_regrown s4
          have kq_s5 := cell_regrown s5
          refine wp_region_quiet_below (by kernel_rfl) (by kernel_rfl) ?_
          repeat (go_big_quiet_step ((first | exact Calls.regrown_of (hok ▸ trace_valid e _))))
          refine wpQuiet_nil ?_
          intro w2 hb2
          replace hb2 := below_of_regrown hb2
          clear kq_s0 kq_s1 kq_s2 kq_s3 kq_s4 kq_s5
          replace s0 := cell_up hb2 s0
          replace s1 := cell_up hb2 s1
          replace s2 := cell_up hb2 s2
          replace s3 := cell_up hb2 s3
          replace s4 := cell_up hb2 s4
          replace s5 := cell_up hb2 s5
          go_wp2_with fail
          go_roundw
          case rel => exact ⟨1, by omega, by go_num, HG, Lib.hid (below_next HW.out hb2)⟩
          case measure => simp [intOf]; omega
      · obtain ⟨j, rfl⟩ : ∃ j, k = j + 1 := ⟨k - 1, by omega⟩
        obtain ⟨b, o, d, e, rfl, hd, he, hcd, hc⟩ := (HA.out.below HW.out).two hlt
        obtain ⟨q0, q1, q2, q3, q4, q5⟩ := hc
        have d0 := hcd.q0
        have HD := Lib.hid hd
        have HE := Lib.hid he
        clear he hk hk0 hd hcd
        cases hok : evOk e with
        | false =>
          have HR : Hid (V = false) := Lib.hid (by rw [HV.out]; exact trOk_bad hlt (good_ev HE.out hok))
          go_wp2_with fail
          obtain ⟨W, hW⟩ : ∃ W, wr.alloc (.cells #[.int .i64 e.t, .int .i64 e.k, .int .i64 e.n, .int .i64 e.a, .int .i64 e.p, .int .i64 e.r] 49) = W := ⟨_, rfl⟩
          have sW := ev_box wr e
          have hbW := below_box wr (.cells #[.int .i64 e.t, .int .i64 e.k, .int .i64 e.n, .int .i64 e.a, .int .i64 e.p, .int .i64 e.r] 49)
          rw [hW] at sW hbW ⊢
          clear hW
          obtain ⟨s0, s1, s2, s3, s4, s5⟩ := sW
          simp only [Nat.zero_add] at s1 s2 s3 s4 s5
          replace HW := Lib.hid (below_next HW.out hbW)
          clear q0 q1 q2 q3 q4 q5 d0 hbW
          have kq_s0 := cell_regrown s0
          have kq_s1 := cell_regrown s1
          have kq_s2 := cell_regrown s2
          have kq_s3 := cell_regrown s3
          have kq_s4 := cell_regrown s4
          have kq_s5 := cell_regrown s5
          refine wp_region_quiet_below (by kernel_rfl) (by kernel_rfl) ?_
          repeat (go_big_quiet_step ((first | exact Calls.regrown_of (hok ▸ trace_valid e _))))
          refine wpQuiet_nil ?_
          intro w2 hb2
          replace hb2 := below_of_regrown hb2
          clear kq_s0 kq_s1 kq_s2 kq_s3 kq_s4 kq_s5
          replace s0 := cell_up hb2 s0
          replace s1 := cell_up hb2 s1
          replace s2 := cell_up hb2 s2
          replace s3 := cell_up hb2 s3
          replace s4 := cell_up hb2 s4
          replace s5 := cell_up hb2 s5
          go_wp2_with fail
          go_ret
          exact ⟨by rw [HR.out]; rfl, below_next HW.out hb2⟩
        | true =>
          have HG := Lib.hid (good_s HD.out HE.out hok)
          by_cases hlate : e.t < d.t
          · have HR : Hid (V = false) := Lib.hid (by rw [HV.out]; exact trOk_bad hlt (by rw [HG.out]; simpa using hlate))
            go_wp2_with fail
            obtain ⟨W, hW⟩ : ∃ W, wr.alloc (.cells #[.int .i64 e.t, .int .i64 e.k, .int .i64 e.n, .int .i64 e.a, .int .i64 e.p, .int .i64 e.r] 49) = W := ⟨_, rfl⟩
            have sW := ev_box wr e
            have hbW := below_box wr (.cells #[.int .i64 e.t, .int .i64 e.k, .int .i64 e.n, .int .i64 e.a, .int .i64 e.p, .int .i64 e.r] 49)
            rw [hW] at sW hbW ⊢
            clear hW
            obtain ⟨s0, s1, s2, s3, s4, s5⟩ := sW
            simp only [Nat.zero_add] at s1 s2 s3 s4 s5
            replace HW := Lib.hid (below_next HW.out hbW)
            replace d0 := cell_up hbW d0
            clear q0 q1 q2 q3 q4 q5 hbW
            have kq_s0 := cell_regrown s0
            have kq_s1 := cell_regrown s1
            have kq_s2 := cell_regrown s2
            have kq_s3 := cell_regrown s3
            have kq_s4 := cell_regrown s4
            have kq_s5 := cell_regrown s5
            have kq_d0 := cell_regrown d0
            refine wp_region_quiet_below (by kernel_rfl) (by kernel_rfl) ?_
            repeat (go_big_quiet_step ((first | exact Calls.regrown_of (hok ▸ trace_valid e _))))
            refine wpQuiet_nil ?_
            intro w2 hb2
            replace hb2 := below_of_regrown hb2
            clear kq_s0 kq_s1 kq_s2 kq_s3 kq_s4 kq_s5 kq_d0
            replace s0 := cell_up hb2 s0
            replace s1 := cell_up hb2 s1
            replace s2 := cell_up hb2 s2
            replace s3 := cell_up hb2 s3
            replace s4 := cell_up hb2 s4
            replace s5 := cell_up hb2 s5
            replace d0 := cell_up hb2 d0
            go_wp2_with fail
            go_ret
            exact ⟨by rw [HR.out]; rfl, below_next HW.out hb2⟩
          · have HG' := Lib.hid (good_next HJ.out (by rw [HG.out]; simpa using hlate))
            go_wp2_with fail
            obtain ⟨W, hW⟩ : ∃ W, wr.alloc (.cells #[.int .i64 e.t, .int .i64 e.k, .int .i64 e.n, .int .i64 e.a, .int .i64 e.p, .int .i64 e.r] 49) = W := ⟨_, rfl⟩
            have sW := ev_box wr e
            have hbW := below_box wr (.cells #[.int .i64 e.t, .int .i64 e.k, .int .i64 e.n, .int .i64 e.a, .int .i64 e.p, .int .i64 e.r] 49)
            rw [hW] at sW hbW ⊢
            clear hW
            obtain ⟨s0, s1, s2, s3, s4, s5⟩ := sW
            simp only [Nat.zero_add] at s1 s2 s3 s4 s5
            replace HW := Lib.hid (below_next HW.out hbW)
            replace d0 := cell_up hbW d0
            clear q0 q1 q2 q3 q4 q5 hbW
            have kq_s0 := cell_regrown s0
            have kq_s1 := cell_regrown s1
            have kq_s2 := cell_regrown s2
            have kq_s3 := cell_regrown s3
            have kq_s4 := cell_regrown s4
            have kq_s5 := cell_regrown s5
            have kq_d0 := cell_regrown d0
            refine wp_region_quiet_below (by kernel_rfl) (by kernel_rfl) ?_
            repeat (go_big_quiet_step ((first | exact Calls.regrown_of (hok ▸ trace_valid e _))))
            refine wpQuiet_nil ?_
            intro w2 hb2
            replace hb2 := below_of_regrown hb2
            clear kq_s0 kq_s1 kq_s2 kq_s3 kq_s4 kq_s5 kq_d0
            replace s0 := cell_up hb2 s0
            replace s1 := cell_up hb2 s1
            replace s2 := cell_up hb2 s2
            replace s3 := cell_up hb2 s3
            replace s4 := cell_up hb2 s4
            replace s5 := cell_up hb2 s5
            replace d0 := cell_up hb2 d0
            go_wp2_with fail
            go_roundw
            case rel => exact ⟨j + 1 + 1, by omega, by go_num, HG', Lib.hid (below_next HW.out hb2)⟩
            case measure => simp [intOf]; omega
    · obtain rfl : k = l.length := by omega
      have HR : Hid (V = true) := Lib.hid (by rw [HV.out]; exact trOk_of HJ.out)
      go_wp2_with fail
      go_ret
      exact ⟨by rw [HR.out]; rfl, HW.out⟩
end Go.Proofs.Ytdnjflpmbnjgeaa
