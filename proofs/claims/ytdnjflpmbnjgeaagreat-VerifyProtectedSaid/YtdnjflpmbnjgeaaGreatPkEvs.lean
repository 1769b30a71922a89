/-
  Lists of events in memory; trace.Valid, Count, Last, Of, Between and waypointref55.Valid, Same, Of, Between: what each returns.
  The check of traces in plain Lean: facts, packets, what the checker keeps, its rules; the violations of a beginning.
  The states of nodes and the marks of arcs behind a trace, as the document says them, and as a checker keeps them; whether a network had settled.
-/
import Derived.Test.YtdnjflpmbnjgeaaGreatEvent
import Derived.Test.YtdnjflpmbnjgeaaGreatPkRtJ
import Derived.Test.YtdnjflpmbnjgeaaGreatEv
set_option linter.unusedSimpArgs false
namespace Go.Proofs.YtdnjflpmbnjgeaaGreat
section
open Go.RowKit Go.Sort
def evV (e : Ev) : List Value := [.int .i64 e.t, .int .i64 e.k, .int .i64 e.n, .int .i64 e.a, .int .i64 e.p, .int .i64 e.r]
/-- The cells of an event that starts at an address. -/
structure EvO (w : World) (b o : Nat) (e : Ev) : Prop where
 q0 : w.cell? ⟨b, o, none⟩ = some (.int .i64 e.t)
 q1 : w.cell? ⟨b, o + 1, none⟩ = some (.int .i64 e.k)
 q2 : w.cell? ⟨b, o + 2, none⟩ = some (.int .i64 e.n)
 q3 : w.cell? ⟨b, o + 3, none⟩ = some (.int .i64 e.a)
 q4 : w.cell? ⟨b, o + 4, none⟩ = some (.int .i64 e.p)
 q5 : w.cell? ⟨b, o + 5, none⟩ = some (.int .i64 e.r)
theorem EvO.up {w w' : World} {b o : Nat} {e : Ev} (h : EvO w b o e) (hb : Below w.heap.size w w') : EvO w' b o e :=
 ⟨aQ hb h.q0, aQ hb h.q1, aQ hb h.q2, aQ hb h.q3, aQ hb h.q4, aQ hb h.q5⟩
/-- The cells of a slice of events. -/
def RdE (w : World) (A : Option Addr) (l : List Ev) : Prop :=
 l = [] ∨ ∃ b o, A = some ⟨b, o, none⟩ ∧ ∀ k e, l[k]? = some e → EvO w b (o + k * 6) e
theorem RdE.nil {w : World} {A : Option Addr} : RdE w A [] := .inl rfl
theorem RdE.below {w w' : World} {A : Option Addr} {l : List Ev} (h : RdE w A l) (hb : Below w.heap.size w w') : RdE w' A l := by
 rcases h with rfl | ⟨b, o, rfl, hc⟩
 ·exact .inl rfl
 ·exact .inr ⟨b, o, rfl, fun k e he => (hc k e he).up hb⟩
theorem RdE.at_ {w : World} {A : Option Addr} {l : List Ev} {k : Nat} (h : RdE w A l) (hk : k < l.length) : ∃ b o e, A = some ⟨b, o, none⟩ ∧ l[k]? = some e ∧ EvO w b (o + k * 6) e := by
 rcases h with rfl | ⟨b, o, rfl, hc⟩
 ·simp at hk
 ·exact ⟨b, o, l[k], rfl, List.getElem?_eq_getElem hk, hc k l[k] (List.getElem?_eq_getElem hk)⟩
theorem RdE.two {w : World} {A : Option Addr} {l : List Ev} {k : Nat} (h : RdE w A l) (hk : k + 1 < l.length) : ∃ b o d e, A = some ⟨b, o, none⟩ ∧ l[k]? = some d ∧ l[k + 1]? = some e ∧ EvO w b (o + k * 6) d ∧ EvO w b (o + (k + 1) * 6) e := by
 rcases h with rfl | ⟨b, o, rfl, hc⟩
 ·simp at hk
 ·exact ⟨b, o, l[k], l[k + 1], rfl, List.getElem?_eq_getElem (by omega), List.getElem?_eq_getElem hk, hc k _ (List.getElem?_eq_getElem (by omega)), hc (k + 1) _ (List.getElem?_eq_getElem hk)⟩
theorem RdE.take {w : World} {A : Option Addr} {l : List Ev} (h : RdE w A l) (k : Nat) : RdE w A (l.take k) := by
 rcases h with rfl | ⟨b, o, rfl, hc⟩
 ·exact .inl (by simp)
 ·exact .inr ⟨b, o, rfl, fun j e he => hc j e (by rw [List.getElem?_take] at he; split at he <;> simp_all)⟩
theorem evO_of {w : World} {b o : Nat} {e : Ev} (h : ∀ (j : Nat) (v : Value), (evV e)[j]? = some v → w.cell? ⟨b, o + j, none⟩ = some v) : EvO w b o e :=
 ⟨h 0 _ rfl, h 1 _ rfl, h 2 _ rfl, h 3 _ rfl, h 4 _ rfl, h 5 _ rfl⟩
/-- Is the event at an index valid, and not earlier than the one before? -/
def goodE (l : List Ev) (k : Nat) : Bool := evOk (l.getD k default) && (decide (k = 0) || !decide ((l.getD k default).t < (l.getD (k - 1) default).t))
/-- Is a trace valid? -/
def trOk (l : List Ev) : Bool := (List.range l.length).all (goodE l)
theorem trOk_bad {l : List Ev} {k : Nat} (hk : k < l.length) (h : goodE l k = false) : trOk l = false := by
 rw [trOk, List.all_eq_false]
 exact ⟨k, by simpa using hk, by simp [h]⟩
theorem trOk_of {l : List Ev} (h : ∀ k, k < l.length → goodE l k = true) : trOk l = true := by
 rw [trOk, List.all_eq_true]
 intro k hk
 exact h k (by simpa using hk)
theorem trOk_at {l : List Ev} (h : trOk l = true) {k : Nat} (hk : k < l.length) : goodE l k = true := by
 rw [trOk, List.all_eq_true] at h
 exact h k (by simpa using hk)
theorem getD_at {l : List Ev} {k : Nat} {e : Ev} (h : l[k]? = some e) : l.getD k default = e := by simp [List.getD_eq_getElem?_getD, h]
theorem good_ev {l : List Ev} {k : Nat} {e : Ev} (h : l[k]? = some e) (he : evOk e = false) : goodE l k = false := by simp only [goodE, getD_at h, he, Bool.false_and]
theorem good_0 {l : List Ev} {e : Ev} (h : l[0]? = some e) (he : evOk e = true) : goodE l 0 = true := by simp only [goodE, getD_at h, he, Bool.true_and, decide_true, Bool.true_or]
theorem good_s {l : List Ev} {k : Nat} {d e : Ev} (hd : l[k]? = some d) (h : l[k + 1]? = some e) (he : evOk e = true) : goodE l (k + 1) = !decide (e.t < d.t) := by simp only [goodE, getD_at h, he, Nat.add_sub_cancel, getD_at hd, Bool.true_and, Nat.succ_ne_zero, decide_false, Bool.false_or]
theorem good_next {l : List Ev} {k : Nat} (h : ∀ j, j < k → goodE l j = true) (hk : goodE l k = true) : ∀ j, j < k + 1 → goodE l j = true := by
 intro j hj
 by_cases e : j = k
 ·subst e; exact hk
 ·exact h j (by omega)
theorem ev_box (w : World) (e : Ev) : EvO (w.alloc (.cells #[.int .i64 e.t, .int .i64 e.k, .int .i64 e.n, .int .i64 e.a, .int .i64 e.p, .int .i64 e.r] 43)) w.heap.size 0 e :=
 ⟨by simp, by simp, by simp, by simp, by simp, by simp⟩
set_option maxRecDepth 100000 in
set_option maxHeartbeats 2000000 in
theorem trace_Valid (A : Option Addr) (c : Nat) (l : List Ev) (w : World) (hA : RdE w A l) (hm : l.length ≤ 4611686018427387904) :
    Calls Tryz.prog 33 #[.slice A l.length c] w fun e w' => e = .returned (.bool (trOk l)) ∧ Below w.heap.size w w' := by
 obtain ⟨V, hV⟩ : ∃ V, V = trOk l := ⟨_, rfl⟩
 rw [← hV]
 have HV := hU hV
 have HA := hU hA
 clear hV hA
 go_enter Tryz.func33, Tryz.ntmps33
 go_wp2_with fail
 go_loopw [7] (fun i wr => ∃ k : Nat, k ≤ l.length ∧ i = .int .i64 k ∧ Hid (∀ j, j < k → goodE l j = true) ∧ Hid (Below w.heap.size w wr)) (fun i _ => l.length - (intOf i).toNat)
 case atStart => exact ⟨0, Nat.zero_le _, rfl, hU (fun j hj => absurd hj (Nat.not_lt_zero _)), hU (Below.refl _ _)⟩
 case round =>
  obtain ⟨k, hk, rfl, HJ, HW⟩ := hrel
  by_cases hlt : k < l.length
  ·by_cases hk0 : k = 0
   ·subst hk0
    obtain ⟨b, o, e, rfl, he, hc⟩ := (HA.out.below HW.out).at_ hlt
    obtain ⟨q0, q1, q2, q3, q4, q5⟩ := hc
    simp only [Nat.zero_mul, Nat.add_zero] at q0 q1 q2 q3 q4 q5
    have HE := hU he
    clear he hk
    have hlt' : decide (0 < l.length) = true := by simpa using hlt
    cases hok : evOk e with
    | false =>
     have HR : Hid (V = false) := hU (by rw [HV.out]; exact trOk_bad hlt (good_ev HE.out hok))
     go_wp2_with fail
     obtain ⟨W, hW⟩ : ∃ W, wr.alloc (.cells #[.int .i64 e.t, .int .i64 e.k, .int .i64 e.n, .int .i64 e.a, .int .i64 e.p, .int .i64 e.r] 43) = W := ⟨_, rfl⟩
     have sW := ev_box wr e
     have hbW := cQ wr (.cells #[.int .i64 e.t, .int .i64 e.k, .int .i64 e.n, .int .i64 e.a, .int .i64 e.p, .int .i64 e.r] 43)
     rw [hW] at sW hbW ⊢
     clear hW
     obtain ⟨s0, s1, s2, s3, s4, s5⟩ := sW
     simp only [Nat.zero_add] at s1 s2 s3 s4 s5
     replace HW := hU (bQ HW.out hbW)
     clear q0 q1 q2 q3 q4 q5 hbW
     obtain ⟨P1, P2, P3, P4, P5, P6, -⟩ := kU s0 (kU s1 (kU s2 (kU s3 (kU s4 (kU s5 trivial)))))
     refine wp_region_quiet_below (by kernel_rfl) (by kernel_rfl) ?_
     repeat (go_big_quiet_step ((first | exact Calls.regrown_of (hok ▸ trace_valid e _))))
     refine wpQuiet_nil ?_
     intro w2 hb2
     replace hb2 := eQ hb2
     clear P1 P2 P3 P4 P5 P6
     have zU := uU hb2 s0 (uU hb2 s1 (uU hb2 s2 (uU hb2 s3 (uU hb2 s4 (uU hb2 s5 trivial))))); clear s0 s1 s2 s3 s4 s5; obtain ⟨s0, s1, s2, s3, s4, s5, -⟩ := zU
     go_wp2_with fail
     go_ret
     exact ⟨by rw [HR.out]; rfl, bQ HW.out hb2⟩
    | true =>
     have HG := hU (good_next HJ.out (good_0 HE.out hok))
     go_wp2_with fail
     obtain ⟨W, hW⟩ : ∃ W, wr.alloc (.cells #[.int .i64 e.t, .int .i64 e.k, .int .i64 e.n, .int .i64 e.a, .int .i64 e.p, .int .i64 e.r] 43) = W := ⟨_, rfl⟩
     have sW := ev_box wr e
     have hbW := cQ wr (.cells #[.int .i64 e.t, .int .i64 e.k, .int .i64 e.n, .int .i64 e.a, .int .i64 e.p, .int .i64 e.r] 43)
     rw [hW] at sW hbW ⊢
     clear hW
     obtain ⟨s0, s1, s2, s3, s4, s5⟩ := sW
     simp only [Nat.zero_add] at s1 s2 s3 s4 s5
     replace HW := hU (bQ HW.out hbW)
     clear q0 q1 q2 q3 q4 q5 hbW
     obtain ⟨P1, P2, P3, P4, P5, P6, -⟩ := kU s0 (kU s1 (kU s2 (kU s3 (kU s4 (kU s5 trivial)))))
     refine wp_region_quiet_below (by kernel_rfl) (by kernel_rfl) ?_
     repeat (go_big_quiet_step ((first | exact Calls.regrown_of (hok ▸ trace_valid e _))))
     refine wpQuiet_nil ?_
     intro w2 hb2
     replace hb2 := eQ hb2
     clear P1 P2 P3 P4 P5 P6
     have zU := uU hb2 s0 (uU hb2 s1 (uU hb2 s2 (uU hb2 s3 (uU hb2 s4 (uU hb2 s5 trivial))))); clear s0 s1 s2 s3 s4 s5; obtain ⟨s0, s1, s2, s3, s4, s5, -⟩ := zU
     go_wp2_with fail
     go_roundw
     case rel => exact ⟨1, by omega, by go_num, HG, hU (bQ HW.out hb2)⟩
     case measure => simp [intOf]; omega
   ·obtain ⟨j, rfl⟩ : ∃ j, k = j + 1 := ⟨k - 1, by omega⟩
    obtain ⟨b, o, d, e, rfl, hd, he, hcd, hc⟩ := (HA.out.below HW.out).two hlt
    obtain ⟨q0, q1, q2, q3, q4, q5⟩ := hc
    have d0 := hcd.q0
    have HD := hU hd
    have HE := hU he
    clear he hk hk0 hd hcd
    cases hok : evOk e with
    | false =>
     have HR : Hid (V = false) := hU (by rw [HV.out]; exact trOk_bad hlt (good_ev HE.out hok))
     go_wp2_with fail
     obtain ⟨W, hW⟩ : ∃ W, wr.alloc (.cells #[.int .i64 e.t, .int .i64 e.k, .int .i64 e.n, .int .i64 e.a, .int .i64 e.p, .int .i64 e.r] 43) = W := ⟨_, rfl⟩
     have sW := ev_box wr e
     have hbW := cQ wr (.cells #[.int .i64 e.t, .int .i64 e.k, .int .i64 e.n, .int .i64 e.a, .int .i64 e.p, .int .i64 e.r] 43)
     rw [hW] at sW hbW ⊢
     clear hW
     obtain ⟨s0, s1, s2, s3, s4, s5⟩ := sW
     simp only [Nat.zero_add] at s1 s2 s3 s4 s5
     replace HW := hU (bQ HW.out hbW)
     clear q0 q1 q2 q3 q4 q5 d0 hbW
     obtain ⟨P1, P2, P3, P4, P5, P6, -⟩ := kU s0 (kU s1 (kU s2 (kU s3 (kU s4 (kU s5 trivial)))))
     refine wp_region_quiet_below (by kernel_rfl) (by kernel_rfl) ?_
     repeat (go_big_quiet_step ((first | exact Calls.regrown_of (hok ▸ trace_valid e _))))
     refine wpQuiet_nil ?_
     intro w2 hb2
     replace hb2 := eQ hb2
     clear P1 P2 P3 P4 P5 P6
     have zU := uU hb2 s0 (uU hb2 s1 (uU hb2 s2 (uU hb2 s3 (uU hb2 s4 (uU hb2 s5 trivial))))); clear s0 s1 s2 s3 s4 s5; obtain ⟨s0, s1, s2, s3, s4, s5, -⟩ := zU
     go_wp2_with fail
     go_ret
     exact ⟨by rw [HR.out]; rfl, bQ HW.out hb2⟩
    | true =>
     have HG := hU (good_s HD.out HE.out hok)
     by_cases hlate : e.t < d.t
     ·have HR : Hid (V = false) := hU (by rw [HV.out]; exact trOk_bad hlt (by rw [HG.out]; simpa using hlate))
      go_wp2_with fail
      obtain ⟨W, hW⟩ : ∃ W, wr.alloc (.cells #[.int .i64 e.t, .int .i64 e.k, .int .i64 e.n, .int .i64 e.a, .int .i64 e.p, .int .i64 e.r] 43) = W := ⟨_, rfl⟩
      have sW := ev_box wr e
      have hbW := cQ wr (.cells #[.int .i64 e.t, .int .i64 e.k, .int .i64 e.n, .int .i64 e.a, .int .i64 e.p, .int .i64 e.r] 43)
      rw [hW] at sW hbW ⊢
      clear hW
      obtain ⟨s0, s1, s2, s3, s4, s5⟩ := sW
      simp only [Nat.zero_add] at s1 s2 s3 s4 s5
      replace HW := hU (bQ HW.out hbW)
      replace d0 := aQ hbW d0
      clear q0 q1 q2 q3 q4 q5 hbW
      obtain ⟨P1, P2, P3, P4, P5, P6, P7, -⟩ := kU s0 (kU s1 (kU s2 (kU s3 (kU s4 (kU s5 (kU d0 trivial))))))
      refine wp_region_quiet_below (by kernel_rfl) (by kernel_rfl) ?_
      repeat (go_big_quiet_step ((first | exact Calls.regrown_of (hok ▸ trace_valid e _))))
      refine wpQuiet_nil ?_
      intro w2 hb2
      replace hb2 := eQ hb2
      clear P1 P2 P3 P4 P5 P6 P7
      have zU := uU hb2 s0 (uU hb2 s1 (uU hb2 s2 (uU hb2 s3 (uU hb2 s4 (uU hb2 s5 (uU hb2 d0 trivial)))))); clear s0 s1 s2 s3 s4 s5 d0; obtain ⟨s0, s1, s2, s3, s4, s5, d0, -⟩ := zU
      go_wp2_with fail
      go_ret
      exact ⟨by rw [HR.out]; rfl, bQ HW.out hb2⟩
     ·have HG' := hU (good_next HJ.out (by rw [HG.out]; simpa using hlate))
      go_wp2_with fail
      obtain ⟨W, hW⟩ : ∃ W, wr.alloc (.cells #[.int .i64 e.t, .int .i64 e.k, .int .i64 e.n, .int .i64 e.a, .int .i64 e.p, .int .i64 e.r] 43) = W := ⟨_, rfl⟩
      have sW := ev_box wr e
      have hbW := cQ wr (.cells #[.int .i64 e.t, .int .i64 e.k, .int .i64 e.n, .int .i64 e.a, .int .i64 e.p, .int .i64 e.r] 43)
      rw [hW] at sW hbW ⊢
      clear hW
      obtain ⟨s0, s1, s2, s3, s4, s5⟩ := sW
      simp only [Nat.zero_add] at s1 s2 s3 s4 s5
      replace HW := hU (bQ HW.out hbW)
      replace d0 := aQ hbW d0
      clear q0 q1 q2 q3 q4 q5 hbW
      obtain ⟨P1, P2, P3, P4, P5, P6, P7, -⟩ := kU s0 (kU s1 (kU s2 (kU s3 (kU s4 (kU s5 (kU d0 trivial))))))
      refine wp_region_quiet_below (by kernel_rfl) (by kernel_rfl) ?_
      repeat (go_big_quiet_step ((first | exact Calls.regrown_of (hok ▸ trace_valid e _))))
      refine wpQuiet_nil ?_
      intro w2 hb2
      replace hb2 := eQ hb2
      clear P1 P2 P3 P4 P5 P6 P7
      have zU := uU hb2 s0 (uU hb2 s1 (uU hb2 s2 (uU hb2 s3 (uU hb2 s4 (uU hb2 s5 (uU hb2 d0 trivial)))))); clear s0 s1 s2 s3 s4 s5 d0; obtain ⟨s0, s1, s2, s3, s4, s5, d0, -⟩ := zU
      go_wp2_with fail
      go_roundw
      case rel => exact ⟨j + 1 + 1, by omega, by go_num, HG', hU (bQ HW.out hb2)⟩
      case measure => simp [intOf]; omega
  ·obtain rfl : k = l.length := by omega
   have HR : Hid (V = true) := hU (by rw [HV.out]; exact trOk_of HJ.out)
   go_wp2_with fail
   go_ret
   exact ⟨by rw [HR.out]; rfl, HW.out⟩
end
section
/-- An outage: from, to, the component's kind and number. -/
structure OutN where
 fr : Int
 tu : Int
 k : Int
 m : Int
/-- A packet, with its stack's place, length and capacity. -/
structure PkN where
 id : Int
 src : Int
 dst : Int
 fl : Int
 st : Option Addr
 sn : Nat
 sc : Nat
 hops : Int
structure FaN where
 t : Topo
 det : Int
 ga : Int
 ho : Int
 out : List OutN
def outOk (t : Topo) (o : OutN) : Bool := (gZ t o.k o.m && inR o.fr 1 1073741824) && ((o.tu == 0) || inR o.tu o.fr 1073741824)
def timOk (f : FaN) : Bool := inR f.det 0 65536 && (inR f.ga 1 65536 && inR f.ho 1 65536)
def pkOk (t : Topo) (ids : List Int) (p : PkN) : Bool := !ids.contains p.id && (inR p.id 0 1073741824 && (isN t.n p.src && isN t.n p.dst))
def pksOk (t : Topo) : List Int → List PkN → Bool
 | _, [] => true
 | ids, p :: r => pkOk t ids p && pksOk t (ids ++ [p.id]) r
/-- An event names only what there is. -/
def xQ (t : Topo) (e : Ev) : Bool :=
 if e.k = 5 ∨ e.k = 6 then gZ t e.a e.r
 else if e.k = 2 ∨ e.k = 7 then isN t.n e.n && isN (2 * (t.ls.length : Int)) e.a
 else if e.k = 4 then isN t.n e.n && (!onArcB e.r || isN (2 * (t.ls.length : Int)) e.a)
 else if e.k = 9 then isN t.n e.n && isN t.n e.a
 else isN t.n e.n
/-- Facts, packets and a trace belong together. -/
def vyOk (f : FaN) (ps : List PkN) (tr : List Ev) : Bool := (valid f.t && timOk f) && (f.out.all (outOk f.t) && (pksOk f.t [] ps && (trOk tr && tr.all (xQ f.t))))
/-- What a checker keeps. -/
structure CkS where
 dn : Int → Bool
 st : List Int
 en : List Int
 ch : List Int
 up : List Bool
 sn : Int → Bool
 sa : Int → Int → Int → Bool
 ar : Int → Int → Option Int
 fw : Int → Int → Int → Bool
 cr : Int → Int → Int
def CkS.new (t : Topo) : CkS := ⟨fun _ => false, List.replicate t.n.toNat 3, List.replicate t.n.toNat 0, List.replicate t.n.toNat 0, List.replicate (2 * t.ls.length) false, fun _ => false, fun _ _ _ => false, fun _ _ => none, fun _ _ _ => false, fun _ _ => 0⟩
def earlyB (s : Int) : Bool := (s == 0) || (s == 1)
def getI (l : List Int) (i : Int) : Int := l.getD i.toNat 0
/-- The arcs of a node are taken down. -/
def offU (t : Topo) (n : Int) (up : List Bool) : List Bool := (List.range up.length).map fun a => up.getD a false && !(tail t (a : Int) == n)
def seeS (t : Topo) (c : CkS) (e : Ev) : CkS :=
 if e.k = 1 then { c with sn := fun p => if p = e.p then true else c.sn p, sa := fun p n x => if p = e.p ∧ n = e.n ∧ x = e.t then true else c.sa p n x }
 else if e.k = 2 then
  let time := e.t + (lnk t e.a).dl
  { c with
   ar := fun p n => if p = e.p ∧ n = fZ t e.a then (match c.ar p n with | some l => if time < l then some time else some l | none => some time) else c.ar p n
   fw := fun p n a => if p = e.p ∧ n = e.n ∧ a = e.a then true else c.fw p n a
   cr := fun p a => if p = e.p ∧ a = e.a then c.cr p a + 1 else c.cr p a }
 else if e.k = 5 then (if e.a = 2 then { c with dn := fun n => if n = e.r then true else c.dn n } else c)
 else if e.k = 6 then (if e.a = 2 then { c with dn := fun n => if n = e.r then false else c.dn n, st := c.st.set e.r.toNat 3, up := offU t e.r c.up } else c)
 else if e.k = 7 then (if tail t e.a = e.n then { c with up := c.up.set e.a.toNat (e.r == 2) } else c)
 else if e.k = 8 then { c with en := if earlyB e.r && !earlyB (getI c.st e.n) then c.en.set e.n.toNat e.t else c.en, st := c.st.set e.n.toNat e.r, ch := c.ch.set e.n.toNat e.t }
 else c
def ofPkB (e : Ev) : Bool := inR e.k 1 4
def lossB (e : Ev) : Bool := (e.k == 4) && onArcB e.r
def handB (e : Ev) : Bool := (e.k == 2) || (e.k == 3) || ((e.k == 4) && !onArcB e.r)
/-- The packet with an ID. -/
def pkOf (ps : List PkN) (id : Int) : Option PkN := ps.find? fun p => p.id == id
def stateV (c : CkS) (e : Ev) : Bool :=
 if e.k = 8 then (if e.r = 2 then !earlyB (getI c.st e.n) else if e.r = 3 then !(getI c.st e.n == 2) else getI c.st e.n == e.r) else false
def timeV (f : FaN) (c : CkS) (e : Ev) : Bool :=
 if e.k = 8 ∧ stateV c e = false then
  (if e.r = 2 then !(e.t - getI c.en e.n == f.ga) && !(e.t - getI c.en e.n == f.ga - 1)
   else (getI c.st e.n == 2) && decide (e.t - getI c.ch e.n < f.ho))
 else false
def outgV (f : FaN) (e : Ev) : Bool :=
 if e.k = 5 ∨ e.k = 6 then !(f.out.any fun o => ((o.k == e.a) && (o.m == e.r)) && (((e.k == 5) && (o.fr == e.t)) || ((e.k == 6) && (o.tu == e.t)))) else false
def origV (ps : List PkN) (c : CkS) (e : Ev) : Bool :=
 match pkOf ps e.p with
 | none => false
 | some p =>
  if e.k = 1 then !(e.n == p.src) || c.sn e.p
  else if handB e = false ∨ c.sa e.p e.n e.t = true then false
  else match c.ar e.p e.n with
   | none => true
   | some l => decide (e.t < l)
/-- The rules, by their number (from 0). -/
def ruleV (f : FaN) (ps : List PkN) (prot : Int → Bool) (fail : List Bool) (c : CkS) (e : Ev) : Nat → Bool
 | 0 => ofPkB e && (pkOf ps e.p).isNone
 | 1 => origV ps c e
 | 2 => if e.k = 2 then !(tail f.t e.a == e.n) else lossB e && !c.fw e.p e.n e.a
 | 3 => match pkOf ps e.p with | none => false | some p => (e.k == 3) && !(e.n == p.dst)
 | 4 => (e.k == 2) && !c.up.getD e.a.toNat false
 | 5 => stateV c e
 | 6 => timeV f c e
 | 7 => outgV f e
 | 8 => if e.k = 1 ∨ e.k = 7 ∨ e.k = 8 ∨ e.k = 9 then c.dn e.n else handB e && c.dn e.n
 | 9 => if e.k = 4 ∧ prot e.p = true ∧ ¬ e.r = 6 then (!(e.r == 7) || fail.getD e.a.toNat false) else false
 | 10 => (e.k == 2) && (prot e.p && decide (2 ≤ c.cr e.p e.a))
 | _ => false
/-- The violations at one event. -/
def eZ (f : FaN) (ps : List PkN) (prot : Int → Bool) (fail : List Bool) (c : CkS) (e : Ev) (i : Nat) : Nat → List (Int × Int)
 | 0 => []
 | k + 1 => eZ f ps prot fail c e i k ++ (if ruleV f ps prot fail c e k = true then [((i : Int), (k : Int) + 1)] else [])
def runV (f : FaN) (ps : List PkN) (prot : Int → Bool) (fail : List Bool) : CkS → Nat → List Ev → List (Int × Int)
 | _, _, [] => []
 | c, i, e :: r => eZ f ps prot fail c e i 11 ++ runV f ps prot fail (seeS f.t c e) (i + 1) r
def rstB (e : Ev) (n : Int) : Bool := (e.k == 6) && ((e.a == 2) && (e.r == n))
def stR (l : List Ev) (n : Int) : Int := l.foldl (fun s e => if e.k = 8 ∧ e.n = n then e.r else if rstB e n = true then 3 else s) 3
def upR (t : Topo) (l : List Ev) (a : Int) : Bool := l.foldl (fun u e => if e.k = 7 ∧ e.n = tail t a ∧ e.a = a then e.r == 2 else if rstB e (tail t a) = true then false else u) false
def ckR (t : Topo) (l : List Ev) : CkS := l.foldl (seeS t) (CkS.new t)
theorem stR_snoc (l : List Ev) (e : Ev) (n : Int) : stR (l ++ [e]) n = if e.k = 8 ∧ e.n = n then e.r else if rstB e n = true then 3 else stR l n := by simp [stR]
theorem upR_snoc (t : Topo) (l : List Ev) (e : Ev) (a : Int) : upR t (l ++ [e]) a = if e.k = 7 ∧ e.n = tail t a ∧ e.a = a then e.r == 2 else if rstB e (tail t a) = true then false else upR t l a := by simp [upR]
theorem ckR_snoc (t : Topo) (l : List Ev) (e : Ev) : ckR t (l ++ [e]) = seeS t (ckR t l) e := by simp [ckR]
theorem getI_set {l : List Int} {i j x : Int} (hi : 0 ≤ i) (hj : 0 ≤ j) (hl : i < (l.length : Int)) : getI (l.set i.toNat x) j = if i = j then x else getI l j := by
 unfold getI
 rw [List.getD_eq_getElem?_getD, List.getElem?_set]
 by_cases e : i = j
 ·subst e; rw [if_pos rfl, if_pos rfl, if_pos (by omega)]; rfl
 ·rw [if_neg e, if_neg (by omega), List.getD_eq_getElem?_getD]
theorem getB_set {l : List Bool} {i j : Int} {x : Bool} (hi : 0 ≤ i) (hj : 0 ≤ j) (hl : i < (l.length : Int)) : (l.set i.toNat x).getD j.toNat false = if i = j then x else l.getD j.toNat false := by
 rw [List.getD_eq_getElem?_getD, List.getElem?_set]
 by_cases e : i = j
 ·subst e; rw [if_pos rfl, if_pos rfl, if_pos (by omega)]; rfl
 ·rw [if_neg e, if_neg (by omega), List.getD_eq_getElem?_getD]
theorem offU_len (t : Topo) (n : Int) (up : List Bool) : (offU t n up).length = up.length := by simp [offU]
theorem offU_at (t : Topo) (n : Int) (up : List Bool) {j : Int} (hj : 0 ≤ j) (hl : j < (up.length : Int)) : (offU t n up).getD j.toNat false = (up.getD j.toNat false && !(tail t j == n)) := by
 have h2 : j.toNat < up.length := by omega
 have h3 : ((j.toNat : Nat) : Int) = j := by omega
 rw [List.getD_eq_getElem?_getD]
 simp [offU, List.getElem?_map, h2, h3]
/-- A checker's rows, and what the document says. -/
structure CkR (t : Topo) (l : List Ev) : Prop where
 sl : (ckR t l).st.length = t.n.toNat
 el : (ckR t l).en.length = t.n.toNat
 cl : (ckR t l).ch.length = t.n.toNat
 ul : (ckR t l).up.length = 2 * t.ls.length
 st : ∀ n, 0 ≤ n → n < t.n → getI (ckR t l).st n = stR l n
 up : ∀ a, 0 ≤ a → a < 2 * (t.ls.length : Int) → (ckR t l).up.getD a.toNat false = upR t l a
theorem ck_nil (t : Topo) : CkR t [] := by
 refine ⟨by simp [ckR, CkS.new], by simp [ckR, CkS.new], by simp [ckR, CkS.new], by simp [ckR, CkS.new], fun n h0 h1 => ?_, fun a h0 h1 => ?_⟩
 ·have : n.toNat < t.n.toNat := by omega
  simp [ckR, CkS.new, getI, stR, List.getD_eq_getElem?_getD, this]
 ·simp [ckR, CkS.new, upR, List.getD_eq_getElem?_getD]
  by_cases h : a.toNat < 2 * t.ls.length <;> simp [h]
theorem see_len (t : Topo) (c : CkS) (e : Ev) : (seeS t c e).st.length = c.st.length ∧ (seeS t c e).en.length = c.en.length ∧ (seeS t c e).ch.length = c.ch.length ∧ (seeS t c e).up.length = c.up.length := by
 unfold seeS
 repeat' split
 all_goals simp [offU_len]
theorem ck_snoc {t : Topo} {l : List Ev} {e : Ev} (hn : xQ t e = true) (h : CkR t l) : CkR t (l ++ [e]) := by
 obtain ⟨l1, l2, l3, l4⟩ := see_len t (ckR t l) e
 refine ⟨by rw [ckR_snoc, l1, h.sl], by rw [ckR_snoc, l2, h.el], by rw [ckR_snoc, l3, h.cl], by rw [ckR_snoc, l4, h.ul], fun n h0 h1 => ?_, fun a h0 h1 => ?_⟩
 ·rw [ckR_snoc, stR_snoc, ← h.st n h0 h1]
  have hs := h.sl
  generalize ckR t l = c at *
  unfold seeS rstB
  by_cases k1 : e.k = 1
  ·simp [k1]
  by_cases k2 : e.k = 2
  ·simp [k2]
  by_cases k5 : e.k = 5
  ·simp [k5]
   split <;> rfl
  by_cases k6 : e.k = 6
  ·simp [k6]
   by_cases ha : e.a = 2
   ·have hc : isN t.n e.r = true := by
     have := hn
     unfold xQ at this
     rw [if_pos (.inr k6), ha] at this
     unfold gZ at this
     rw [compOk2] at this
     simp at this
     exact this.2
    obtain ⟨r0, r1⟩ := isN_true.1 hc
    simp only [ha, if_true, true_and]
    rw [getI_set r0 h0 (by omega)]
   ·simp [ha]
  by_cases k7 : e.k = 7
  ·simp [k7]
   split <;> rfl
  by_cases k8 : e.k = 8
  ·simp [k8]
   have hc : isN t.n e.n = true := by
    have := hn
    unfold xQ at this
    rwa [if_neg (by omega), if_neg (by omega), if_neg (by omega), if_neg (by omega)] at this
   obtain ⟨r0, r1⟩ := isN_true.1 hc
   rw [getI_set r0 h0 (by omega)]
  ·simp [k1, k2, k5, k6, k7, k8]
 ·rw [ckR_snoc, upR_snoc, ← h.up a h0 h1]
  have hs := h.ul
  generalize ckR t l = c at *
  unfold seeS rstB
  by_cases k1 : e.k = 1
  ·simp [k1]
  by_cases k2 : e.k = 2
  ·simp [k2]
  by_cases k5 : e.k = 5
  ·simp [k5]
   split <;> rfl
  by_cases k6 : e.k = 6
  ·simp only [k6, Int.reduceEq, false_and, if_false, if_true, beq_self_eq_true, Bool.true_and]
   by_cases ha : e.a = 2
   ·simp only [ha, if_true, beq_self_eq_true, Bool.true_and]
    rw [offU_at t e.r c.up h0 (by omega)]
    by_cases e2 : e.r = tail t a
    ·simp [e2]
    ·have : ¬ tail t a = e.r := fun h => e2 h.symm
     simp [e2, this]
   ·simp [ha]
  by_cases k7 : e.k = 7
  ·have hc : isN (2 * (t.ls.length : Int)) e.a = true := by
    have := hn
    unfold xQ at this
    rw [if_neg (by omega), if_pos (.inr k7)] at this
    simp at this
    exact this.2
   obtain ⟨r0, r1⟩ := isN_true.1 hc
   simp only [k7, Int.reduceEq, false_and, if_false, if_true, true_and, Int.reduceBEq, Bool.false_and, Bool.false_eq_true]
   by_cases ht : tail t e.a = e.n
   ·rw [if_pos ht]
    show (c.up.set e.a.toNat (e.r == 2)).getD a.toNat false = _
    rw [getB_set r0 h0 (by omega)]
    by_cases e2 : e.a = a
    ·subst e2
     rw [if_pos rfl, if_pos ⟨ht.symm, rfl⟩]
    ·rw [if_neg e2, if_neg (fun h => e2 h.2)]
   ·rw [if_neg ht]
    rw [if_neg]
    rintro ⟨e1, e2⟩
    rw [e2] at ht
    exact ht e1.symm
  by_cases k8 : e.k = 8
  ·simp [k8]
  ·simp [k1, k2, k5, k6, k7, k8]
theorem ck_app {t : Topo} : ∀ (l pre : List Ev), (∀ e ∈ l, xQ t e = true) → CkR t pre → CkR t (pre ++ l)
 | [], pre, _, h => by rwa [List.append_nil]
 | e :: l, pre, hn, h => by
  rw [show pre ++ e :: l = (pre ++ [e]) ++ l by simp]
  exact ck_app l _ (fun x hx => hn x (by simp [hx])) (ck_snoc (hn e (by simp)) h)
theorem ck_all {t : Topo} (l : List Ev) (hn : ∀ e ∈ l, xQ t e = true) : CkR t l := by
 have := ck_app l [] hn (ck_nil t)
 simpa using this
/-- Whether all was well before the first failure of a component, as the document says it; 'pre' is what came before. -/
def setR (t : Topo) (k m : Int) : List Ev → List Ev → Bool
 | _, [] => false
 | pre, e :: r => if e.k = 5 ∧ e.a = k ∧ e.r = m then (List.range t.n.toNat).all (fun n => stR pre (n : Int) == 3) && (List.range (2 * t.ls.length)).all (fun a => upR t pre (a : Int)) else setR t k m (pre ++ [e]) r
/-- The same, as a checker finds it. -/
def setC (t : Topo) (k m : Int) : CkS → List Ev → Bool
 | _, [] => false
 | c, e :: r => if e.k = 5 ∧ e.a = k ∧ e.r = m then c.st.all (fun s => s == 3) && c.up.all id else setC t k m (seeS t c e) r
theorem set_same {t : Topo} {k m : Int} : ∀ (r pre : List Ev), (∀ e ∈ pre, xQ t e = true) → (∀ e ∈ r, xQ t e = true) → setC t k m (ckR t pre) r = setR t k m pre r
 | [], pre, _, _ => rfl
 | e :: r, pre, h1, h2 => by
  rw [setC, setR]
  split
  ·have h := ck_all pre h1
   congr 1
   ·rw [Bool.eq_iff_iff, List.all_eq_true, List.all_eq_true]
    constructor
    ·intro hx n hn
     have hn' := List.mem_range.1 hn
     rw [← h.st n (by omega) (by omega)]
     refine hx _ ?_
     unfold getI
     rw [List.getD_eq_getElem?_getD, List.getElem?_eq_getElem (by rw [h.sl]; omega)]
     exact List.getElem_mem _
    ·intro hx s hs
     obtain ⟨i, hi, rfl⟩ := List.getElem_of_mem hs
     rw [h.sl] at hi
     have := hx i (List.mem_range.2 hi)
     rw [← h.st i (by omega) (by omega)] at this
     unfold getI at this
     rw [List.getD_eq_getElem?_getD, List.getElem?_eq_getElem (by rw [h.sl]; omega)] at this
     exact this
   ·rw [Bool.eq_iff_iff, List.all_eq_true, List.all_eq_true]
    constructor
    ·intro hx n hn
     have hn' := List.mem_range.1 hn
     rw [← h.up n (by omega) (by omega)]
     have : (ckR t pre).up.getD ((n : Int)).toNat false ∈ (ckR t pre).up := by
      rw [List.getD_eq_getElem?_getD, List.getElem?_eq_getElem (by rw [h.ul]; omega)]
      exact List.getElem_mem _
     exact hx _ this
    ·intro hx s hs
     obtain ⟨i, hi, rfl⟩ := List.getElem_of_mem hs
     rw [h.ul] at hi
     have := hx i (List.mem_range.2 hi)
     rw [← h.up i (by omega) (by omega)] at this
     rw [List.getD_eq_getElem?_getD, List.getElem?_eq_getElem (by rw [h.ul]; omega)] at this
     exact this
  ·rw [← ckR_snoc]
   exact set_same r (pre ++ [e]) (fun x hx => by
    rcases List.mem_append.1 hx with hx | hx
    ·exact h1 x hx
    ·rw [List.mem_singleton.1 hx]; exact h2 e (by simp)) (fun x hx => h2 x (by simp [hx]))
end
end Go.Proofs.YtdnjflpmbnjgeaaGreat
