/-
  verify.Valid.
-/
import Derived.Test.YtdnjflpmbnjgeaaGreatVyC
import Derived.Test.YtdnjflpmbnjgeaaGreatPkFm
set_option linter.unusedSimpArgs false
set_option linter.unusedVariables false
namespace Go.Proofs.YtdnjflpmbnjgeaaGreat
section
open Go.RowKit Go.Sort
def outL (o : OutN) : List Value := [.int .i64 o.fr, .int .i64 o.tu, .int .i64 o.k, .int .i64 o.m]
def pkL (p : PkN) : List Value := [.int .i64 p.id, .int .i64 p.src, .int .i64 p.dst, .int .i64 p.fl, .slice p.st p.sn p.sc, .int .i64 p.hops]
theorem flat_atV {α : Type} {enc : α → List Value} {s : Nat} (hs : ∀ x, (enc x).length = s) : ∀ (l : List α) (k : Nat) (e : α), l[k]? = some e → ∀ (j : Nat) (v : Value), (enc e)[j]? = some v → (l.flatMap enc)[k * s + j]? = some v
 | [], k, e, h => by simp at h
 | x :: l, 0, e, h => by
  intro j v hj
  simp only [List.getElem?_cons_zero, Option.some.injEq] at h
  subst h
  have hjl : j < (enc x).length := (List.getElem?_eq_some_iff.1 hj).1
  simp only [List.flatMap_cons, Nat.zero_mul, Nat.zero_add]
  rw [List.getElem?_append_left hjl]; exact hj
 | x :: l, k + 1, e, h => by
  intro j v hj
  have := flat_atV hs l k e (by simpa using h) j v hj
  simp only [List.flatMap_cons] at this ⊢
  rw [List.getElem?_append_right (by rw [hs, Nat.succ_mul]; omega)]
  rw [show (k + 1) * s + j - (enc x).length = k * s + j by rw [hs, Nat.succ_mul]; omega]
  exact this
/-- An element of a row of structs. -/
theorem row_at {α : Type} {enc : α → List Value} {s : Nat} (hs : ∀ x, (enc x).length = s) (hp : 0 < s) {w : World} {A : Option Addr} {l : List α} (h : Rd w A (l.flatMap enc)) {k : Nat} {x : α} (hk : l[k]? = some x) :
    ∃ b o, A = some ⟨b, o, none⟩ ∧ ∀ j v, (enc x)[j]? = some v → w.cell? ⟨b, o + k * s + j, none⟩ = some v := by
 rcases h with hn | ⟨b, o, e, hc⟩
 ·exfalso
  obtain ⟨hk1, rfl⟩ := List.getElem?_eq_some_iff.1 hk
  have hx : enc l[k] = [] := by
   have := List.flatMap_eq_nil_iff.1 hn l[k] (List.getElem_mem _)
   exact this
  have := hs l[k]
  rw [hx] at this
  simp at this
  omega
 ·exact ⟨b, o, e, fun j v hv => by have := hc _ _ (flat_atV (enc := enc) (s := s) hs l k x hk j v hv); simpa [Nat.add_assoc] using this⟩
theorem Bl.c5 {T : TypeId} {b : Nat} {x0 x1 x2 x3 x4 : Value} {w : World} (h : Bl T b #[x0, x1, x2, x3, x4] w) : w.cell? ⟨b, 0, none⟩ = some x0 ∧ w.cell? ⟨b, 1, none⟩ = some x1 ∧ w.cell? ⟨b, 2, none⟩ = some x2 ∧ w.cell? ⟨b, 3, none⟩ = some x3 ∧ w.cell? ⟨b, 4, none⟩ = some x4 ∧ ∀ i, w.frozen? ⟨b, i, none⟩ = false :=
 ⟨h.cell 0 rfl, h.cell 1 rfl, h.cell 2 rfl, h.cell 3 rfl, h.cell 4 rfl, h.frz⟩
/-- The boxes of facts and of their topology. -/
structure VBox (w : World) (A1 A2 O : Option Addr) (c1 c2 no co : Nat) (t : Topo) (det ga ho : Int) (X : World) : Prop where
 fb : Bl 28 w.heap.size #[.int .i64 t.n, .slice A1 t.ov.length c1, .slice A2 t.ls.length c2, .int .i64 det, .int .i64 ga, .int .i64 ho, .slice O no co] X
 tb : Bl 25 (w.heap.size + 1) #[.int .i64 t.n, .slice A1 t.ov.length c1, .slice A2 t.ls.length c2] X
 ta : TAt X A1 A2 t
 b : Below w.heap.size w X
theorem VBox.up {w X Y : World} {A1 A2 O : Option Addr} {c1 c2 no co : Nat} {t : Topo} {det ga ho : Int} (h : VBox w A1 A2 O c1 c2 no co t det ga ho X) (hb : Below X.heap.size X Y) : VBox w A1 A2 O c1 c2 no co t det ga ho Y :=
 ⟨h.fb.up hb, h.tb.up hb, h.ta.below hb, bQ h.b hb⟩
theorem VBox.map {w X Y : World} {A1 A2 O : Option Addr} {c1 c2 no co mb : Nat} {t : Topo} {det ga ho : Int} (h : VBox w A1 A2 O c1 c2 no co t det ga ho X) (hg : X.grownBy Y (some mb)) (hm : w.heap.size + 2 ≤ mb) (hT : TAt w A1 A2 t) : VBox w A1 A2 O c1 c2 no co t det ga ho Y := by
 have e : ∀ b, b ≠ mb → b < X.heap.size → Y.heap[b]? = X.heap[b]? := fun b hb hs => hg.block b hs (by simpa using hb)
 have hK : Kp [mb] X Y := Kp.map (Kp.refl _ _) hg (by simp)
 have hB := hK.below h.b h.b.size (by simp; omega)
 exact ⟨(e _ (by omega) h.fb.lt).trans h.fb, (e _ (by omega) h.tb.lt).trans h.tb, hT.below hB, hB⟩
/-- The IDs that have been seen. -/
def idsF (ps : List PkN) (id : Int) : Option Bool := if (ps.map (·.id)).contains id = true then some true else none
theorem idsF_val (ps : List PkN) (id : Int) : ((idsF ps id).map Value.bool).getD (Value.bool false) = Value.bool ((ps.map (·.id)).contains id) := by
 unfold idsF
 cases (ps.map (·.id)).contains id <;> rfl
theorem idsF_snoc (ps : List PkN) (p : PkN) : idsF (ps ++ [p]) = fun x => if x = p.id then some true else idsF ps x := by
 funext x
 unfold idsF
 rw [List.map_append, List.contains_append]
 by_cases h : x = p.id
 ·simp [h]
 ·have : (List.map (·.id) [p]).contains x = false := by simp [h]
  rw [this, Bool.or_false, if_neg h]
section
variable {w : World}
set_option maxRecDepth 100000 in
set_option maxHeartbeats 4000000 in
theorem vy_Valid (f : FaN) (ps : List PkN) (tr : List Ev) (A1 A2 O B C : Option Addr) (c1 c2 co cp ct : Nat) (hT : TAt w A1 A2 f.t) (hO : Rd w O (f.out.flatMap outL)) (hP : Rd w B (ps.flatMap pkL)) (hE : RdE w C tr)
    (hl : f.t.ls.length ≤ 100000) (hlo : f.out.length ≤ 100000) (hlp : ps.length ≤ 100000) (hlt : tr.length ≤ 100000) (hid : ∀ p ∈ ps, inJ p.id) :
    Calls Tryz.prog 9 #[.agg #[.int .i64 f.t.n, .slice A1 f.t.ov.length c1, .slice A2 f.t.ls.length c2, .int .i64 f.det, .int .i64 f.ga, .int .i64 f.ho, .slice O f.out.length co], .slice B ps.length cp, .slice C tr.length ct] w fun e w' => e = .returned (.bool (vyOk f ps tr)) ∧ Below w.heap.size w w' := by
 obtain ⟨t, det, ga, ho, out⟩ := f
 simp only at *
 obtain ⟨R, hR⟩ : ∃ R, R = vyOk ⟨t, det, ga, ho, out⟩ ps tr := ⟨_, rfl⟩
 rw [← hR]
 have HR := hU hR
 have HT := hU hT
 have HO := hU hO
 have HP := hU hP
 have HTR := hU hE
 have HID := hU hid
 clear hR hT hO hP hE hid
 have hmm := @run_makeMap Tryz.prog
 go_enter Tryz.func9, Tryz.ntmps9
 go_upto_region 2 with fail
 refine kQ (fun X => VBox w A1 A2 O c1 c2 out.length co t det ga ho X) ⟨(Bl.new w _ _).up (cQ _ _), by simpa using Bl.new (w.alloc (.cells #[.int .i64 t.n, .slice A1 t.ov.length c1, .slice A2 t.ls.length c2, .int .i64 det, .int .i64 ga, .int .i64 ho, .slice O out.length co] 28)) _ _, HT.out.below (aZ w _ _), aZ w _ _⟩ ?_
 intro X hX
 have HX := hU hX
 clear hX
 obtain ⟨f0, f1, f2, f3, f4, f5, f6, _⟩ := HX.out.fb.c7
 obtain ⟨b0, b1, b2, _⟩ := HX.out.tb.c3
 cases q0 : valid t with
 | false =>
  have HRV : Hid (R = false) := hU (by rw [HR.out]; simp [vyOk, timOk, q0])
  clear HR
  go_wp2_with (go_at_call 29; (with_reducible refine (topology_Valid t _ _ _ _ _ HX.out.ta.ls).mono ?_); rw [q0]; rintro e wz ⟨rfl, hb⟩; replace HX := hU (HX.out.up hb); clear f0 f1 f2 f3 f4 f5 f6 b0 b1 b2; obtain ⟨f0, f1, f2, f3, f4, f5, f6, _⟩ := HX.out.fb.c7; obtain ⟨b0, b1, b2, _⟩ := HX.out.tb.c3; clear hb)
  go_ret
  exact ⟨by rw [HRV.out]; rfl, HX.out.b⟩
 | true =>
  cases q1 : inR det 0 65536 with
  | false =>
   have HRV : Hid (R = false) := hU (by rw [HR.out]; simp [vyOk, timOk, q0, q1])
   clear HR
   go_wp2_with (first | (go_at_call 29; (with_reducible refine (topology_Valid t _ _ _ _ _ HX.out.ta.ls).mono ?_); rw [q0]; rintro e wz ⟨rfl, hb⟩; replace HX := hU (HX.out.up hb); clear f0 f1 f2 f3 f4 f5 f6 b0 b1 b2; obtain ⟨f0, f1, f2, f3, f4, f5, f6, _⟩ := HX.out.fb.c7; obtain ⟨b0, b1, b2, _⟩ := HX.out.tb.c3; clear hb) | (go_at_call 30; (with_reducible refine (vy_within det 0 65536).mono ?_); rw [q1]; rintro e wz ⟨rfl, hb⟩; replace HX := hU (HX.out.up hb); clear f0 f1 f2 f3 f4 f5 f6 b0 b1 b2; obtain ⟨f0, f1, f2, f3, f4, f5, f6, _⟩ := HX.out.fb.c7; obtain ⟨b0, b1, b2, _⟩ := HX.out.tb.c3; clear hb))
   go_ret
   exact ⟨by rw [HRV.out]; rfl, HX.out.b⟩
  | true =>
   cases q2 : inR ga 1 65536 with
   | false =>
    have HRV : Hid (R = false) := hU (by rw [HR.out]; simp [vyOk, timOk, q0, q1, q2])
    clear HR
    go_wp2_with (first | (go_at_call 29; (with_reducible refine (topology_Valid t _ _ _ _ _ HX.out.ta.ls).mono ?_); rw [q0]; rintro e wz ⟨rfl, hb⟩; replace HX := hU (HX.out.up hb); clear f0 f1 f2 f3 f4 f5 f6 b0 b1 b2; obtain ⟨f0, f1, f2, f3, f4, f5, f6, _⟩ := HX.out.fb.c7; obtain ⟨b0, b1, b2, _⟩ := HX.out.tb.c3; clear hb) | (go_at_call 30; (with_reducible refine (vy_within det 0 65536).mono ?_); rw [q1]; rintro e wz ⟨rfl, hb⟩; replace HX := hU (HX.out.up hb); clear f0 f1 f2 f3 f4 f5 f6 b0 b1 b2; obtain ⟨f0, f1, f2, f3, f4, f5, f6, _⟩ := HX.out.fb.c7; obtain ⟨b0, b1, b2, _⟩ := HX.out.tb.c3; clear hb) | (go_at_call 30; (with_reducible refine (vy_within ga 1 65536).mono ?_); rw [q2]; rintro e wz ⟨rfl, hb⟩; replace HX := hU (HX.out.up hb); clear f0 f1 f2 f3 f4 f5 f6 b0 b1 b2; obtain ⟨f0, f1, f2, f3, f4, f5, f6, _⟩ := HX.out.fb.c7; obtain ⟨b0, b1, b2, _⟩ := HX.out.tb.c3; clear hb))
    go_ret
    exact ⟨by rw [HRV.out]; rfl, HX.out.b⟩
   | true =>
    cases q3 : inR ho 1 65536 with
    | false =>
     have HRV : Hid (R = false) := hU (by rw [HR.out]; simp [vyOk, timOk, q0, q1, q2, q3])
     clear HR
     go_wp2_with (first | (go_at_call 29; (with_reducible refine (topology_Valid t _ _ _ _ _ HX.out.ta.ls).mono ?_); rw [q0]; rintro e wz ⟨rfl, hb⟩; replace HX := hU (HX.out.up hb); clear f0 f1 f2 f3 f4 f5 f6 b0 b1 b2; obtain ⟨f0, f1, f2, f3, f4, f5, f6, _⟩ := HX.out.fb.c7; obtain ⟨b0, b1, b2, _⟩ := HX.out.tb.c3; clear hb) | (go_at_call 30; (with_reducible refine (vy_within det 0 65536).mono ?_); rw [q1]; rintro e wz ⟨rfl, hb⟩; replace HX := hU (HX.out.up hb); clear f0 f1 f2 f3 f4 f5 f6 b0 b1 b2; obtain ⟨f0, f1, f2, f3, f4, f5, f6, _⟩ := HX.out.fb.c7; obtain ⟨b0, b1, b2, _⟩ := HX.out.tb.c3; clear hb) | (go_at_call 30; (with_reducible refine (vy_within ga 1 65536).mono ?_); rw [q2]; rintro e wz ⟨rfl, hb⟩; replace HX := hU (HX.out.up hb); clear f0 f1 f2 f3 f4 f5 f6 b0 b1 b2; obtain ⟨f0, f1, f2, f3, f4, f5, f6, _⟩ := HX.out.fb.c7; obtain ⟨b0, b1, b2, _⟩ := HX.out.tb.c3; clear hb) | (go_at_call 30; (with_reducible refine (vy_within ho 1 65536).mono ?_); rw [q3]; rintro e wz ⟨rfl, hb⟩; replace HX := hU (HX.out.up hb); clear f0 f1 f2 f3 f4 f5 f6 b0 b1 b2; obtain ⟨f0, f1, f2, f3, f4, f5, f6, _⟩ := HX.out.fb.c7; obtain ⟨b0, b1, b2, _⟩ := HX.out.tb.c3; clear hb))
     go_ret
     exact ⟨by rw [HRV.out]; rfl, HX.out.b⟩
    | true =>
     have HV := hU q0
     replace HR : Hid (R = (out.all (outOk t) && (pksOk t [] ps && (trOk tr && tr.all (xQ t))))) := hU (by rw [HR.out]; simp [vyOk, timOk, q0, q1, q2, q3])
     go_wp2_with (first | (go_at_call 29; (with_reducible refine (topology_Valid t _ _ _ _ _ HX.out.ta.ls).mono ?_); rw [q0]; rintro e wz ⟨rfl, hb⟩; replace HX := hU (HX.out.up hb); clear f0 f1 f2 f3 f4 f5 f6 b0 b1 b2; obtain ⟨f0, f1, f2, f3, f4, f5, f6, _⟩ := HX.out.fb.c7; obtain ⟨b0, b1, b2, _⟩ := HX.out.tb.c3; clear hb) | (go_at_call 30; (with_reducible refine (vy_within det 0 65536).mono ?_); rw [q1]; rintro e wz ⟨rfl, hb⟩; replace HX := hU (HX.out.up hb); clear f0 f1 f2 f3 f4 f5 f6 b0 b1 b2; obtain ⟨f0, f1, f2, f3, f4, f5, f6, _⟩ := HX.out.fb.c7; obtain ⟨b0, b1, b2, _⟩ := HX.out.tb.c3; clear hb) | (go_at_call 30; (with_reducible refine (vy_within ga 1 65536).mono ?_); rw [q2]; rintro e wz ⟨rfl, hb⟩; replace HX := hU (HX.out.up hb); clear f0 f1 f2 f3 f4 f5 f6 b0 b1 b2; obtain ⟨f0, f1, f2, f3, f4, f5, f6, _⟩ := HX.out.fb.c7; obtain ⟨b0, b1, b2, _⟩ := HX.out.tb.c3; clear hb) | (go_at_call 30; (with_reducible refine (vy_within ho 1 65536).mono ?_); rw [q3]; rintro e wz ⟨rfl, hb⟩; replace HX := hU (HX.out.up hb); clear f0 f1 f2 f3 f4 f5 f6 b0 b1 b2; obtain ⟨f0, f1, f2, f3, f4, f5, f6, _⟩ := HX.out.fb.c7; obtain ⟨b0, b1, b2, _⟩ := HX.out.tb.c3; clear hb))
     clear q1 q2 q3
     go_loopw [41] (fun i wr => ∃ k : Nat, k ≤ out.length ∧ i = .int .i64 k ∧ Hid (VBox w A1 A2 O c1 c2 out.length co t det ga ho wr) ∧ Hid ((out.take k).all (outOk t) = true)) (fun i _ => out.length - (intOf i).toNat)
     case atStart => exact ⟨0, Nat.zero_le _, rfl, HX, hU rfl⟩
     case round =>
      clear HX f0 f1 f2 f3 f4 f5 f6 b0 b1 b2
      obtain ⟨k, hk, rfl, HX, HK⟩ := hrel
      obtain ⟨f0, f1, f2, f3, f4, f5, f6, _⟩ := HX.out.fb.c7
      obtain ⟨b0, b1, b2, _⟩ := HX.out.tb.c3
      by_cases hlt : k < out.length
      ·skip
       have hlt' : (k : Int) < (out.length : Int) := by omega
       obtain ⟨oo, hoo⟩ : ∃ oo, out[k]? = some oo := ⟨_, List.getElem?_eq_getElem hlt⟩
       obtain ⟨bz, oz, hAz, hcz⟩ := row_at (s := 4) (fun _ => rfl) (by omega) (HO.out.below HX.out.b) hoo
       have HTK : Hid (out.take (k + 1) = out.take k ++ [oo]) := hU (by rw [List.take_add_one, hoo]; rfl)
       have HM : Hid (oo ∈ out) := hU (List.mem_of_getElem? hoo)
       obtain ⟨fr, tu, ck, cm⟩ := oo
       have z0 := hcz 0 (.int .i64 fr) rfl
       have z1 := hcz 1 (.int .i64 tu) rfl
       have z2 := hcz 2 (.int .i64 ck) rfl
       have z3 := hcz 3 (.int .i64 cm) rfl
       rw [Nat.add_zero] at z0
       clear hcz hoo
       subst hAz
       go_upto_region 7 with fail
       refine kQ (fun Y => VBox w A1 A2 (some ⟨bz, oz, none⟩) c1 c2 out.length co t det ga ho Y ∧ Bl 81 wr.heap.size #[.int .i64 fr, .int .i64 tu, .int .i64 ck, .int .i64 cm] Y) ⟨HX.out.up (cQ wr _), Bl.new wr _ _⟩ ?_
       rintro Y ⟨hY, hZ⟩
       clear HX f0 f1 f2 f3 f4 f5 f6 b0 b1 b2 z0 z1 z2 z3
       have HX := hU hY
       have HZ := hU hZ
       clear hY hZ
       obtain ⟨f0, f1, f2, f3, f4, f5, f6, _⟩ := HX.out.fb.c7
       obtain ⟨b0, b1, b2, _⟩ := HX.out.tb.c3
       obtain ⟨z0, z1, z2, z3, _⟩ := HZ.out.c4
       cases q1 : gZ t ck cm with
       | false =>
        have HRV : Hid (R = false) := hU (by
         have h1 : out.all (outOk t) = false := by
          rw [List.all_eq_false]
          exact ⟨_, HM.out, by simp [outOk, q1]⟩
         rw [HR.out, h1]; rfl)
        clear HR
        go_wp2_with (go_at_call 31; (with_reducible refine (component_Valid t _ _ _ _ ck cm _ HX.out.ta).mono ?_); rw [q1]; rintro e wz ⟨rfl, hb⟩; replace HX := hU (HX.out.up hb); clear f0 f1 f2 f3 f4 f5 f6 b0 b1 b2; obtain ⟨f0, f1, f2, f3, f4, f5, f6, _⟩ := HX.out.fb.c7; obtain ⟨b0, b1, b2, _⟩ := HX.out.tb.c3; replace HZ := hU (HZ.out.up hb); clear z0 z1 z2 z3; obtain ⟨z0, z1, z2, z3, _⟩ := HZ.out.c4; clear hb)
        go_ret
        exact ⟨by rw [HRV.out]; rfl, HX.out.b⟩
       | true =>
        cases q2 : inR fr 1 1073741824 with
        | false =>
         have HRV : Hid (R = false) := hU (by
          have h1 : out.all (outOk t) = false := by
           rw [List.all_eq_false]
           exact ⟨_, HM.out, by simp [outOk, q1, q2]⟩
          rw [HR.out, h1]; rfl)
         clear HR
         go_wp2_with (first | (go_at_call 31; (with_reducible refine (component_Valid t _ _ _ _ ck cm _ HX.out.ta).mono ?_); rw [q1]; rintro e wz ⟨rfl, hb⟩; replace HX := hU (HX.out.up hb); clear f0 f1 f2 f3 f4 f5 f6 b0 b1 b2; obtain ⟨f0, f1, f2, f3, f4, f5, f6, _⟩ := HX.out.fb.c7; obtain ⟨b0, b1, b2, _⟩ := HX.out.tb.c3; replace HZ := hU (HZ.out.up hb); clear z0 z1 z2 z3; obtain ⟨z0, z1, z2, z3, _⟩ := HZ.out.c4; clear hb) | (go_at_call 30; (with_reducible refine (vy_within fr 1 1073741824).mono ?_); rw [q2]; rintro e wz ⟨rfl, hb⟩; replace HX := hU (HX.out.up hb); clear f0 f1 f2 f3 f4 f5 f6 b0 b1 b2; obtain ⟨f0, f1, f2, f3, f4, f5, f6, _⟩ := HX.out.fb.c7; obtain ⟨b0, b1, b2, _⟩ := HX.out.tb.c3; replace HZ := hU (HZ.out.up hb); clear z0 z1 z2 z3; obtain ⟨z0, z1, z2, z3, _⟩ := HZ.out.c4; clear hb))
         go_ret
         exact ⟨by rw [HRV.out]; rfl, HX.out.b⟩
        | true =>
         by_cases q3 : tu = 0
         ·subst q3
          have HOK : Hid (outOk t ⟨fr, 0, ck, cm⟩ = true) := hU (by simp [outOk, q1, q2])
          go_wp2_with (first | (go_at_call 31; (with_reducible refine (component_Valid t _ _ _ _ ck cm _ HX.out.ta).mono ?_); rw [q1]; rintro e wz ⟨rfl, hb⟩; replace HX := hU (HX.out.up hb); clear f0 f1 f2 f3 f4 f5 f6 b0 b1 b2; obtain ⟨f0, f1, f2, f3, f4, f5, f6, _⟩ := HX.out.fb.c7; obtain ⟨b0, b1, b2, _⟩ := HX.out.tb.c3; replace HZ := hU (HZ.out.up hb); clear z0 z1 z2 z3; obtain ⟨z0, z1, z2, z3, _⟩ := HZ.out.c4; clear hb) | (go_at_call 30; (with_reducible refine (vy_within fr 1 1073741824).mono ?_); rw [q2]; rintro e wz ⟨rfl, hb⟩; replace HX := hU (HX.out.up hb); clear f0 f1 f2 f3 f4 f5 f6 b0 b1 b2; obtain ⟨f0, f1, f2, f3, f4, f5, f6, _⟩ := HX.out.fb.c7; obtain ⟨b0, b1, b2, _⟩ := HX.out.tb.c3; replace HZ := hU (HZ.out.up hb); clear z0 z1 z2 z3; obtain ⟨z0, z1, z2, z3, _⟩ := HZ.out.c4; clear hb))
          go_roundw
          case rel => exact ⟨k + 1, by omega, by go_num, HX, hU (by rw [HTK.out, List.all_append, HK.out]; simp [HOK.out])⟩
          case measure => simp [intOf]; omega
         ·skip
          cases q4 : inR tu fr 1073741824 with
          | false =>
           have HRV : Hid (R = false) := hU (by
            have h1 : out.all (outOk t) = false := by
             rw [List.all_eq_false]
             exact ⟨_, HM.out, by simp [outOk, q1, q2, q3, q4]⟩
            rw [HR.out, h1]; rfl)
           clear HR
           go_wp2_with (first | (go_at_call 31; (with_reducible refine (component_Valid t _ _ _ _ ck cm _ HX.out.ta).mono ?_); rw [q1]; rintro e wz ⟨rfl, hb⟩; replace HX := hU (HX.out.up hb); clear f0 f1 f2 f3 f4 f5 f6 b0 b1 b2; obtain ⟨f0, f1, f2, f3, f4, f5, f6, _⟩ := HX.out.fb.c7; obtain ⟨b0, b1, b2, _⟩ := HX.out.tb.c3; replace HZ := hU (HZ.out.up hb); clear z0 z1 z2 z3; obtain ⟨z0, z1, z2, z3, _⟩ := HZ.out.c4; clear hb) | (go_at_call 30; (with_reducible refine (vy_within fr 1 1073741824).mono ?_); rw [q2]; rintro e wz ⟨rfl, hb⟩; replace HX := hU (HX.out.up hb); clear f0 f1 f2 f3 f4 f5 f6 b0 b1 b2; obtain ⟨f0, f1, f2, f3, f4, f5, f6, _⟩ := HX.out.fb.c7; obtain ⟨b0, b1, b2, _⟩ := HX.out.tb.c3; replace HZ := hU (HZ.out.up hb); clear z0 z1 z2 z3; obtain ⟨z0, z1, z2, z3, _⟩ := HZ.out.c4; clear hb) | (go_at_call 30; (with_reducible refine (vy_within tu fr 1073741824).mono ?_); rw [q4]; rintro e wz ⟨rfl, hb⟩; replace HX := hU (HX.out.up hb); clear f0 f1 f2 f3 f4 f5 f6 b0 b1 b2; obtain ⟨f0, f1, f2, f3, f4, f5, f6, _⟩ := HX.out.fb.c7; obtain ⟨b0, b1, b2, _⟩ := HX.out.tb.c3; replace HZ := hU (HZ.out.up hb); clear z0 z1 z2 z3; obtain ⟨z0, z1, z2, z3, _⟩ := HZ.out.c4; clear hb))
           go_ret
           exact ⟨by rw [HRV.out]; rfl, HX.out.b⟩
          | true =>
           have HOK : Hid (outOk t ⟨fr, tu, ck, cm⟩ = true) := hU (by simp [outOk, q1, q2, q3, q4])
           go_wp2_with (first | (go_at_call 31; (with_reducible refine (component_Valid t _ _ _ _ ck cm _ HX.out.ta).mono ?_); rw [q1]; rintro e wz ⟨rfl, hb⟩; replace HX := hU (HX.out.up hb); clear f0 f1 f2 f3 f4 f5 f6 b0 b1 b2; obtain ⟨f0, f1, f2, f3, f4, f5, f6, _⟩ := HX.out.fb.c7; obtain ⟨b0, b1, b2, _⟩ := HX.out.tb.c3; replace HZ := hU (HZ.out.up hb); clear z0 z1 z2 z3; obtain ⟨z0, z1, z2, z3, _⟩ := HZ.out.c4; clear hb) | (go_at_call 30; (with_reducible refine (vy_within fr 1 1073741824).mono ?_); rw [q2]; rintro e wz ⟨rfl, hb⟩; replace HX := hU (HX.out.up hb); clear f0 f1 f2 f3 f4 f5 f6 b0 b1 b2; obtain ⟨f0, f1, f2, f3, f4, f5, f6, _⟩ := HX.out.fb.c7; obtain ⟨b0, b1, b2, _⟩ := HX.out.tb.c3; replace HZ := hU (HZ.out.up hb); clear z0 z1 z2 z3; obtain ⟨z0, z1, z2, z3, _⟩ := HZ.out.c4; clear hb) | (go_at_call 30; (with_reducible refine (vy_within tu fr 1073741824).mono ?_); rw [q4]; rintro e wz ⟨rfl, hb⟩; replace HX := hU (HX.out.up hb); clear f0 f1 f2 f3 f4 f5 f6 b0 b1 b2; obtain ⟨f0, f1, f2, f3, f4, f5, f6, _⟩ := HX.out.fb.c7; obtain ⟨b0, b1, b2, _⟩ := HX.out.tb.c3; replace HZ := hU (HZ.out.up hb); clear z0 z1 z2 z3; obtain ⟨z0, z1, z2, z3, _⟩ := HZ.out.c4; clear hb))
           go_roundw
           case rel => exact ⟨k + 1, by omega, by go_num, HX, hU (by rw [HTK.out, List.all_append, HK.out]; simp [HOK.out])⟩
           case measure => simp [intOf]; omega
      ·skip
       obtain rfl : k = out.length := by omega
       replace HR : Hid (R = (pksOk t [] ps && (trOk tr && tr.all (xQ t)))) := hU (by have := HK.out; rw [List.take_length] at this; rw [HR.out, this]; rfl)
       clear HK hk
       go_upto_region 13 with fail
       refine kQ (fun Y => VBox w A1 A2 O c1 c2 out.length co t det ga ho Y ∧ FM Tryz.prog 3 enc1 Value.bool wr.heap.size (fun _ => none) Y) ⟨HX.out.up (cQ wr _), FM.made _ _ _ _ wr⟩ ?_
       rintro Y ⟨hY, hZ⟩
       have HMB : Hid (w.heap.size + 2 ≤ wr.heap.size) := hU (by have := HX.out.tb.lt; omega)
       clear HX f0 f1 f2 f3 f4 f5 f6 b0 b1 b2
       have HX := hU hY
       have HF := hU hZ
       clear hY hZ
       obtain ⟨mb, hmb⟩ : ∃ mb, mb = wr.heap.size := ⟨_, rfl⟩
       rw [← hmb] at HF HMB ⊢
       clear hmb
       obtain ⟨f0, f1, f2, f3, f4, f5, f6, _⟩ := HX.out.fb.c7
       obtain ⟨b0, b1, b2, _⟩ := HX.out.tb.c3
       go_wp2_with fail
       go_loopw [71] (fun i wr => ∃ k : Nat, k ≤ ps.length ∧ i = .int .i64 k ∧ Hid (VBox w A1 A2 O c1 c2 out.length co t det ga ho wr) ∧ Hid (FM Tryz.prog 3 enc1 Value.bool mb (idsF (ps.take k)) wr) ∧ Hid (pksOk t ((ps.take k).map (·.id)) (ps.drop k) = pksOk t [] ps)) (fun i _ => ps.length - (intOf i).toNat)
       case atStart => exact ⟨0, Nat.zero_le _, rfl, HX, HF, hU rfl⟩
       case round =>
        clear HX HF f0 f1 f2 f3 f4 f5 f6 b0 b1 b2
        obtain ⟨k, hk, rfl, HX, HF, HK⟩ := hrel
        obtain ⟨f0, f1, f2, f3, f4, f5, f6, _⟩ := HX.out.fb.c7
        obtain ⟨b0, b1, b2, _⟩ := HX.out.tb.c3
        by_cases hlt : k < ps.length
        ·skip
         have hlt' : (k : Int) < (ps.length : Int) := by omega
         obtain ⟨pp, hpp⟩ : ∃ pp, ps[k]? = some pp := ⟨_, List.getElem?_eq_getElem hlt⟩
         obtain ⟨bz, oz, hAz, hcz⟩ := row_at (s := 6) (fun _ => rfl) (by omega) (HP.out.below HX.out.b) hpp
         have HTK : Hid (ps.take (k + 1) = ps.take k ++ [pp]) := hU (by rw [List.take_add_one, hpp]; rfl)
         have HDR : Hid (ps.drop k = pp :: ps.drop (k + 1)) := hU (by rw [List.drop_eq_getElem_cons hlt]; congr 1; rw [List.getElem?_eq_getElem hlt] at hpp; injection hpp)
         have HJ : Hid (inJ pp.id) := hU (HID.out pp (List.mem_of_getElem? hpp))
         obtain ⟨id, sr, ds, fl, st, sn, sc, hp⟩ := pp
         have z0 := hcz 0 (.int .i64 id) rfl
         have z1 := hcz 1 (.int .i64 sr) rfl
         have z2 := hcz 2 (.int .i64 ds) rfl
         have z3 := hcz 3 (.int .i64 fl) rfl
         have z4 := hcz 4 (.slice st sn sc) rfl
         have z5 := hcz 5 (.int .i64 hp) rfl
         rw [Nat.add_zero] at z0
         clear hcz hpp
         subst hAz
         go_upto_region 16 with fail
         refine kQ (fun Y => VBox w A1 A2 O c1 c2 out.length co t det ga ho Y ∧ FM Tryz.prog 3 enc1 Value.bool mb (idsF (ps.take k)) Y ∧ Bl 49 wr.heap.size #[.int .i64 id, .int .i64 sr, .int .i64 ds, .int .i64 fl, .slice st sn sc, .int .i64 hp] Y) ⟨HX.out.up (cQ wr _), HF.out.up (cQ wr _), Bl.new wr _ _⟩ ?_
         rintro Y ⟨hY, hF, hZ⟩
         clear HX HF f0 f1 f2 f3 f4 f5 f6 b0 b1 b2 z0 z1 z2 z3 z4 z5
         have HX := hU hY
         have HF := hU hF
         have HZ := hU hZ
         clear hY hF hZ
         obtain ⟨f0, f1, f2, f3, f4, f5, f6, _⟩ := HX.out.fb.c7
         obtain ⟨b0, b1, b2, _⟩ := HX.out.tb.c3
         obtain ⟨z0, z1, z2, z3, z4, z5, _⟩ := HZ.out.c6
         have hlk := HF.out.look key_int Tryz.underlying62 (zero_boolV Y) id (keyJ HJ.out) (enc1_inj id) false
         rw [idsF_val] at hlk
         simp only [enc1, Bool.false_eq_true, if_false] at hlk
         cases q1 : ((ps.take k).map (·.id)).contains id with
         | true =>
          rw [q1] at hlk
          have HRV : Hid (R = false) := hU (by
           have h1 : pksOk t [] ps = false := by
            rw [← HK.out, HDR.out, pksOk]
            simp only [pkOk, q1, Bool.not_true, Bool.not_false, Bool.false_and, Bool.and_false, Bool.true_and]
           rw [HR.out, h1]; rfl)
          clear HR
          go_wp2_with fail
          go_ret
          exact ⟨by rw [HRV.out]; rfl, HX.out.b⟩
         | false =>
          rw [q1] at hlk
          cases q2 : inR id 0 1073741824 with
          | false =>
           have HRV : Hid (R = false) := hU (by
            have h1 : pksOk t [] ps = false := by
             rw [← HK.out, HDR.out, pksOk]
             simp only [pkOk, q1, q2, Bool.not_true, Bool.not_false, Bool.false_and, Bool.and_false, Bool.true_and]
            rw [HR.out, h1]; rfl)
           clear HR
           go_wp2_with (go_at_call 30; (with_reducible refine (vy_within id 0 1073741824).mono ?_); rw [q2]; rintro e wz ⟨rfl, hb⟩; replace HX := hU (HX.out.up hb); clear f0 f1 f2 f3 f4 f5 f6 b0 b1 b2; obtain ⟨f0, f1, f2, f3, f4, f5, f6, _⟩ := HX.out.fb.c7; obtain ⟨b0, b1, b2, _⟩ := HX.out.tb.c3; replace HF := hU (HF.out.up hb); replace HZ := hU (HZ.out.up hb); clear z0 z1 z2 z3 z4 z5; obtain ⟨z0, z1, z2, z3, z4, z5, _⟩ := HZ.out.c6; clear hlk; clear hb)
           go_ret
           exact ⟨by rw [HRV.out]; rfl, HX.out.b⟩
          | true =>
           cases q3 : isN t.n sr with
           | false =>
            have HRV : Hid (R = false) := hU (by
             have h1 : pksOk t [] ps = false := by
              rw [← HK.out, HDR.out, pksOk]
              simp only [pkOk, q1, q2, q3, Bool.not_true, Bool.not_false, Bool.false_and, Bool.and_false, Bool.true_and]
             rw [HR.out, h1]; rfl)
            clear HR
            go_wp2_with (first | (go_at_call 30; (with_reducible refine (vy_within id 0 1073741824).mono ?_); rw [q2]; rintro e wz ⟨rfl, hb⟩; replace HX := hU (HX.out.up hb); clear f0 f1 f2 f3 f4 f5 f6 b0 b1 b2; obtain ⟨f0, f1, f2, f3, f4, f5, f6, _⟩ := HX.out.fb.c7; obtain ⟨b0, b1, b2, _⟩ := HX.out.tb.c3; replace HF := hU (HF.out.up hb); replace HZ := hU (HZ.out.up hb); clear z0 z1 z2 z3 z4 z5; obtain ⟨z0, z1, z2, z3, z4, z5, _⟩ := HZ.out.c6; clear hlk; clear hb) | (go_at_call 32; (with_reducible refine (cZ t.n sr _ _ _).mono ?_); rw [q3]; rintro e wz ⟨rfl, hb⟩; replace HX := hU (HX.out.up hb); clear f0 f1 f2 f3 f4 f5 f6 b0 b1 b2; obtain ⟨f0, f1, f2, f3, f4, f5, f6, _⟩ := HX.out.fb.c7; obtain ⟨b0, b1, b2, _⟩ := HX.out.tb.c3; replace HF := hU (HF.out.up hb); replace HZ := hU (HZ.out.up hb); clear z0 z1 z2 z3 z4 z5; obtain ⟨z0, z1, z2, z3, z4, z5, _⟩ := HZ.out.c6; clear hb))
            go_ret
            exact ⟨by rw [HRV.out]; rfl, HX.out.b⟩
           | true =>
            cases q4 : isN t.n ds with
            | false =>
             have HRV : Hid (R = false) := hU (by
              have h1 : pksOk t [] ps = false := by
               rw [← HK.out, HDR.out, pksOk]
               simp only [pkOk, q1, q2, q3, q4, Bool.not_true, Bool.not_false, Bool.false_and, Bool.and_false, Bool.true_and]
              rw [HR.out, h1]; rfl)
             clear HR
             go_wp2_with (first | (go_at_call 30; (with_reducible refine (vy_within id 0 1073741824).mono ?_); rw [q2]; rintro e wz ⟨rfl, hb⟩; replace HX := hU (HX.out.up hb); clear f0 f1 f2 f3 f4 f5 f6 b0 b1 b2; obtain ⟨f0, f1, f2, f3, f4, f5, f6, _⟩ := HX.out.fb.c7; obtain ⟨b0, b1, b2, _⟩ := HX.out.tb.c3; replace HF := hU (HF.out.up hb); replace HZ := hU (HZ.out.up hb); clear z0 z1 z2 z3 z4 z5; obtain ⟨z0, z1, z2, z3, z4, z5, _⟩ := HZ.out.c6; clear hlk; clear hb) | (go_at_call 32; (with_reducible refine (cZ t.n sr _ _ _).mono ?_); rw [q3]; rintro e wz ⟨rfl, hb⟩; replace HX := hU (HX.out.up hb); clear f0 f1 f2 f3 f4 f5 f6 b0 b1 b2; obtain ⟨f0, f1, f2, f3, f4, f5, f6, _⟩ := HX.out.fb.c7; obtain ⟨b0, b1, b2, _⟩ := HX.out.tb.c3; replace HF := hU (HF.out.up hb); replace HZ := hU (HZ.out.up hb); clear z0 z1 z2 z3 z4 z5; obtain ⟨z0, z1, z2, z3, z4, z5, _⟩ := HZ.out.c6; clear hb) | (go_at_call 32; (with_reducible refine (cZ t.n ds _ _ _).mono ?_); rw [q4]; rintro e wz ⟨rfl, hb⟩; replace HX := hU (HX.out.up hb); clear f0 f1 f2 f3 f4 f5 f6 b0 b1 b2; obtain ⟨f0, f1, f2, f3, f4, f5, f6, _⟩ := HX.out.fb.c7; obtain ⟨b0, b1, b2, _⟩ := HX.out.tb.c3; replace HF := hU (HF.out.up hb); replace HZ := hU (HZ.out.up hb); clear z0 z1 z2 z3 z4 z5; obtain ⟨z0, z1, z2, z3, z4, z5, _⟩ := HZ.out.c6; clear hb))
             go_ret
             exact ⟨by rw [HRV.out]; rfl, HX.out.b⟩
            | true =>
             have HK2 : Hid (pksOk t ((ps.take (k + 1)).map (·.id)) (ps.drop (k + 1)) = pksOk t [] ps) := hU (by
              rw [← HK.out, HDR.out, HTK.out, List.map_append, pksOk]
              simp only [pkOk, q1, q2, q3, q4, Bool.not_false, Bool.true_and, List.map_cons, List.map_nil])
             have HFE : Hid (idsF (ps.take (k + 1)) = fun x => if x = id then some true else idsF (ps.take k) x) := hU (by rw [HTK.out]; exact idsF_snoc _ _)
             go_wp2_with (first | (go_at_call 30; (with_reducible refine (vy_within id 0 1073741824).mono ?_); rw [q2]; rintro e wz ⟨rfl, hb⟩; replace HX := hU (HX.out.up hb); clear f0 f1 f2 f3 f4 f5 f6 b0 b1 b2; obtain ⟨f0, f1, f2, f3, f4, f5, f6, _⟩ := HX.out.fb.c7; obtain ⟨b0, b1, b2, _⟩ := HX.out.tb.c3; replace HF := hU (HF.out.up hb); replace HZ := hU (HZ.out.up hb); clear z0 z1 z2 z3 z4 z5; obtain ⟨z0, z1, z2, z3, z4, z5, _⟩ := HZ.out.c6; clear hlk; clear hb) | (go_at_call 32; (with_reducible refine (cZ t.n sr _ _ _).mono ?_); rw [q3]; rintro e wz ⟨rfl, hb⟩; replace HX := hU (HX.out.up hb); clear f0 f1 f2 f3 f4 f5 f6 b0 b1 b2; obtain ⟨f0, f1, f2, f3, f4, f5, f6, _⟩ := HX.out.fb.c7; obtain ⟨b0, b1, b2, _⟩ := HX.out.tb.c3; replace HF := hU (HF.out.up hb); replace HZ := hU (HZ.out.up hb); clear z0 z1 z2 z3 z4 z5; obtain ⟨z0, z1, z2, z3, z4, z5, _⟩ := HZ.out.c6; clear hb) | (go_at_call 32; (with_reducible refine (cZ t.n ds _ _ _).mono ?_); rw [q4]; rintro e wz ⟨rfl, hb⟩; replace HX := hU (HX.out.up hb); clear f0 f1 f2 f3 f4 f5 f6 b0 b1 b2; obtain ⟨f0, f1, f2, f3, f4, f5, f6, _⟩ := HX.out.fb.c7; obtain ⟨b0, b1, b2, _⟩ := HX.out.tb.c3; replace HF := hU (HF.out.up hb); replace HZ := hU (HZ.out.up hb); clear z0 z1 z2 z3 z4 z5; obtain ⟨z0, z1, z2, z3, z4, z5, _⟩ := HZ.out.c6; clear hb; obtain ⟨w9, hu, hf9, hg9⟩ := HF.out.put key_int Tryz.underlying62 id true (keyJ HJ.out) (enc1_inj id) (evB_inj true); have HX9 := hU (HX.out.map hg9 HMB.out HT.out); have HF9 := hU hf9; clear hf9 hg9; unfold enc1 at hu))
             go_roundw
             case rel => exact ⟨k + 1, by omega, by go_num, HX9, hU (by rw [HFE.out]; exact HF9.out), HK2⟩
             case measure => simp [intOf]; omega
        ·skip
         obtain rfl : k = ps.length := by omega
         replace HR : Hid (R = (pksOk t [] ps && (trOk tr && tr.all (xQ t)))) := HR
         have HPK : Hid (pksOk t [] ps = true) := hU (by have := HK.out; rw [List.drop_length] at this; rw [← this]; rfl)
         replace HR : Hid (R = (trOk tr && tr.all (xQ t))) := hU (by rw [HR.out, HPK.out]; rfl)
         clear HK hk HPK HF
         cases q5 : trOk tr with
         | false =>
          have HRV : Hid (R = false) := hU (by rw [HR.out, q5]; rfl)
          clear HR
          go_wp2_with (go_at_call 33; (with_reducible refine (trace_Valid C ct tr _ (HTR.out.below HX.out.b) (by omega)).mono ?_); rw [q5]; rintro e wz ⟨rfl, hb⟩; replace HX := hU (HX.out.up hb); clear f0 f1 f2 f3 f4 f5 f6 b0 b1 b2; obtain ⟨f0, f1, f2, f3, f4, f5, f6, _⟩ := HX.out.fb.c7; obtain ⟨b0, b1, b2, _⟩ := HX.out.tb.c3; clear hb)
          go_ret
          exact ⟨by rw [HRV.out]; rfl, HX.out.b⟩
         | true =>
          replace HR : Hid (R = tr.all (xQ t)) := hU (by rw [HR.out, q5]; rfl)
          go_wp2_with (go_at_call 33; (with_reducible refine (trace_Valid C ct tr _ (HTR.out.below HX.out.b) (by omega)).mono ?_); rw [q5]; rintro e wz ⟨rfl, hb⟩; replace HX := hU (HX.out.up hb); clear f0 f1 f2 f3 f4 f5 f6 b0 b1 b2; obtain ⟨f0, f1, f2, f3, f4, f5, f6, _⟩ := HX.out.fb.c7; obtain ⟨b0, b1, b2, _⟩ := HX.out.tb.c3; clear hb)
          go_loopw [108] (fun i wr => ∃ k : Nat, k ≤ tr.length ∧ i = .int .i64 k ∧ Hid (VBox w A1 A2 O c1 c2 out.length co t det ga ho wr) ∧ Hid ((tr.take k).all (xQ t) = true)) (fun i _ => tr.length - (intOf i).toNat)
          case atStart => exact ⟨0, Nat.zero_le _, rfl, HX, hU rfl⟩
          case round =>
           clear HX f0 f1 f2 f3 f4 f5 f6 b0 b1 b2
           obtain ⟨k, hk, rfl, HX, HK⟩ := hrel
           obtain ⟨f0, f1, f2, f3, f4, f5, f6, _⟩ := HX.out.fb.c7
           obtain ⟨b0, b1, b2, _⟩ := HX.out.tb.c3
           by_cases hlt : k < tr.length
           ·have hlt' : (k : Int) < (tr.length : Int) := by omega
            obtain ⟨bz, oz, ev, hAz, hev, hcz⟩ := (HTR.out.below HX.out.b).at_ hlt
            have HTK : Hid (tr.take (k + 1) = tr.take k ++ [ev]) := hU (by rw [List.take_add_one, hev]; rfl)
            have HM : Hid (ev ∈ tr) := hU (List.mem_of_getElem? hev)
            obtain ⟨x, kd, n, ar, p, r⟩ := ev
            obtain ⟨z0, z1, z2, z3, z4, z5⟩ := hcz
            simp only at z0 z1 z2 z3 z4 z5
            clear hev
            subst hAz
            go_upto_region 25 with fail
            refine kQ (fun Y => VBox w A1 A2 O c1 c2 out.length co t det ga ho Y ∧ Bl 43 wr.heap.size #[.int .i64 x, .int .i64 kd, .int .i64 n, .int .i64 ar, .int .i64 p, .int .i64 r] Y) ⟨HX.out.up (cQ wr _), Bl.new wr _ _⟩ ?_
            rintro Y ⟨hY, hZ⟩
            clear HX f0 f1 f2 f3 f4 f5 f6 b0 b1 b2 z0 z1 z2 z3 z4 z5
            have HX := hU hY
            have HZ := hU hZ
            clear hY hZ
            obtain ⟨f0, f1, f2, f3, f4, f5, f6, _⟩ := HX.out.fb.c7
            obtain ⟨b0, b1, b2, _⟩ := HX.out.tb.c3
            obtain ⟨z0, z1, z2, z3, z4, z5, _⟩ := HZ.out.c6
            cases q6 : xQ t ⟨x, kd, n, ar, p, r⟩ with
            | false =>
             have HRV : Hid (R = false) := hU (by
              rw [HR.out, List.all_eq_false]
              exact ⟨_, HM.out, by rw [q6]; exact Bool.false_ne_true⟩)
             clear HR
             go_wp2_with (go_at_call 34; (with_reducible refine (vy_named t _ _ _ _ x kd n ar p r HX.out.ta hl).mono ?_); rw [q6]; rintro e wz ⟨rfl, hb⟩; replace HX := hU (HX.out.up hb); clear f0 f1 f2 f3 f4 f5 f6 b0 b1 b2; obtain ⟨f0, f1, f2, f3, f4, f5, f6, _⟩ := HX.out.fb.c7; obtain ⟨b0, b1, b2, _⟩ := HX.out.tb.c3; clear hb)
             go_ret
             exact ⟨by rw [HRV.out]; rfl, HX.out.b⟩
            | true =>
             go_wp2_with (go_at_call 34; (with_reducible refine (vy_named t _ _ _ _ x kd n ar p r HX.out.ta hl).mono ?_); rw [q6]; rintro e wz ⟨rfl, hb⟩; replace HX := hU (HX.out.up hb); clear f0 f1 f2 f3 f4 f5 f6 b0 b1 b2; obtain ⟨f0, f1, f2, f3, f4, f5, f6, _⟩ := HX.out.fb.c7; obtain ⟨b0, b1, b2, _⟩ := HX.out.tb.c3; clear hb)
             go_roundw
             case rel => exact ⟨k + 1, by omega, by go_num, HX, hU (by rw [HTK.out, List.all_append, HK.out]; simp [q6])⟩
             case measure => simp [intOf]; omega
           ·obtain rfl : k = tr.length := by omega
            have HRV : Hid (R = true) := hU (by have := HK.out; rw [List.take_length] at this; rw [HR.out, this])
            clear HR
            go_wp2_with fail
            go_ret
            exact ⟨by rw [HRV.out]; rfl, HX.out.b⟩
end
end
end Go.Proofs.YtdnjflpmbnjgeaaGreat
