/-
  waypointref56.proper (printed by gen_vs3.py).
-/
import Derived.Test.YtdnjflpmbnjgeaaGreatPkVl3
import Derived.Test.YtdnjflpmbnjgeaaGreatRc
set_option linter.unusedSimpArgs false
set_option linter.unusedVariables false
namespace Go.Proofs.YtdnjflpmbnjgeaaGreat
section
open Go.RowKit Go.Sort
/-- Facts and packets are as required. -/
def propB (f : FaN) (ps : List PkN) : Bool := (valid f.t && timOk f) && (f.out.all (outOk f.t) && pksOk f.t [] ps)
theorem isN_inR (n x : Int) : isN n x = inR x 0 (n - 1) := by
 rw [Bool.eq_iff_iff, isN_true, inR_true]
 omega
section
variable {w : World}
set_option maxRecDepth 100000 in
set_option maxHeartbeats 8000000 in
theorem ref56_proper (f : FaN) (ps : List PkN) (A1 A2 O B : Option Addr) (c1 c2 co cp : Nat) (hT : TAt w A1 A2 f.t) (hO : Rd w O (f.out.flatMap outL)) (hP : Rd w B (ps.flatMap pkL))
    (hl : f.t.ls.length ≤ 100000) (hlo : f.out.length ≤ 100000) (hlp : ps.length ≤ 100000) :
    Calls Tryz.prog 40 #[.agg #[.int .i64 f.t.n, .slice A1 f.t.ov.length c1, .slice A2 f.t.ls.length c2, .int .i64 f.det, .int .i64 f.ga, .int .i64 f.ho, .slice O f.out.length co], .slice B ps.length cp] w fun e w' => e = .returned (.bool (propB f ps)) ∧ Below w.heap.size w w' := by
 obtain ⟨t, det, ga, ho, out⟩ := f
 simp only at *
 obtain ⟨R, hR⟩ : ∃ R, R = propB ⟨t, det, ga, ho, out⟩ ps := ⟨_, rfl⟩
 rw [← hR]
 have HR := hU hR
 have HT := hU hT
 have HO := hU hO
 have HP := hU hP
 clear hR hT hO hP
 go_enter Tryz.func40, Tryz.ntmps40
 go_upto_region 2 with fail
 refine kQ (fun X => VBox w A1 A2 O c1 c2 out.length co t det ga ho X) ⟨(Bl.new w _ _).up (cQ _ _), by simpa using Bl.new (w.alloc (.cells #[.int .i64 t.n, .slice A1 t.ov.length c1, .slice A2 t.ls.length c2, .int .i64 det, .int .i64 ga, .int .i64 ho, .slice O out.length co] 28)) _ _, HT.out.below (aZ w _ _), aZ w _ _⟩ ?_
 intro X hX
 have HX := hU hX
 clear hX
 obtain ⟨f0, f1, f2, f3, f4, f5, f6, _⟩ := HX.out.fb.c7; obtain ⟨b0, b1, b2, _⟩ := HX.out.tb.c3
 cases q0 : valid t with
 | false =>
  have HRV : Hid (R = false) := hU (by rw [HR.out]; simp [propB, timOk, q0])
  clear HR
  go_wp2_with (go_at_call 73; (with_reducible refine (dZ t _ _ _ _ _ HX.out.ta.ls).mono ?_); rw [q0]; rintro e wz ⟨rfl, hb⟩; replace HX := hU (HX.out.up hb); clear f0 f1 f2 f3 f4 f5 f6 b0 b1 b2; obtain ⟨f0, f1, f2, f3, f4, f5, f6, _⟩ := HX.out.fb.c7; obtain ⟨b0, b1, b2, _⟩ := HX.out.tb.c3; clear hb)
  go_ret
  exact ⟨by rw [HRV.out]; rfl, HX.out.b⟩
 | true =>
  cases q1 : inR det 0 65536 with
  | false =>
   have HRV : Hid (R = false) := hU (by rw [HR.out]; simp [propB, timOk, q0, q1])
   clear HR
   go_wp2_with (first | (go_at_call 73; (with_reducible refine (dZ t _ _ _ _ _ HX.out.ta.ls).mono ?_); rw [q0]; rintro e wz ⟨rfl, hb⟩; replace HX := hU (HX.out.up hb); clear f0 f1 f2 f3 f4 f5 f6 b0 b1 b2; obtain ⟨f0, f1, f2, f3, f4, f5, f6, _⟩ := HX.out.fb.c7; obtain ⟨b0, b1, b2, _⟩ := HX.out.tb.c3; clear hb) | (go_at_call 74; (with_reducible refine (wQ det 0 65536).mono ?_); rw [q1]; rintro e wz ⟨rfl, hb⟩; replace HX := hU (HX.out.up hb); clear f0 f1 f2 f3 f4 f5 f6 b0 b1 b2; obtain ⟨f0, f1, f2, f3, f4, f5, f6, _⟩ := HX.out.fb.c7; obtain ⟨b0, b1, b2, _⟩ := HX.out.tb.c3; clear hb))
   go_ret
   exact ⟨by rw [HRV.out]; rfl, HX.out.b⟩
  | true =>
   cases q2 : inR ga 1 65536 with
   | false =>
    have HRV : Hid (R = false) := hU (by rw [HR.out]; simp [propB, timOk, q0, q1, q2])
    clear HR
    go_wp2_with (first | (go_at_call 73; (with_reducible refine (dZ t _ _ _ _ _ HX.out.ta.ls).mono ?_); rw [q0]; rintro e wz ⟨rfl, hb⟩; replace HX := hU (HX.out.up hb); clear f0 f1 f2 f3 f4 f5 f6 b0 b1 b2; obtain ⟨f0, f1, f2, f3, f4, f5, f6, _⟩ := HX.out.fb.c7; obtain ⟨b0, b1, b2, _⟩ := HX.out.tb.c3; clear hb) | (go_at_call 74; (with_reducible refine (wQ det 0 65536).mono ?_); rw [q1]; rintro e wz ⟨rfl, hb⟩; replace HX := hU (HX.out.up hb); clear f0 f1 f2 f3 f4 f5 f6 b0 b1 b2; obtain ⟨f0, f1, f2, f3, f4, f5, f6, _⟩ := HX.out.fb.c7; obtain ⟨b0, b1, b2, _⟩ := HX.out.tb.c3; clear hb) | (go_at_call 74; (with_reducible refine (wQ ga 1 65536).mono ?_); rw [q2]; rintro e wz ⟨rfl, hb⟩; replace HX := hU (HX.out.up hb); clear f0 f1 f2 f3 f4 f5 f6 b0 b1 b2; obtain ⟨f0, f1, f2, f3, f4, f5, f6, _⟩ := HX.out.fb.c7; obtain ⟨b0, b1, b2, _⟩ := HX.out.tb.c3; clear hb))
    go_ret
    exact ⟨by rw [HRV.out]; rfl, HX.out.b⟩
   | true =>
    cases q3 : inR ho 1 65536 with
    | false =>
     have HRV : Hid (R = false) := hU (by rw [HR.out]; simp [propB, timOk, q0, q1, q2, q3])
     clear HR
     go_wp2_with (first | (go_at_call 73; (with_reducible refine (dZ t _ _ _ _ _ HX.out.ta.ls).mono ?_); rw [q0]; rintro e wz ⟨rfl, hb⟩; replace HX := hU (HX.out.up hb); clear f0 f1 f2 f3 f4 f5 f6 b0 b1 b2; obtain ⟨f0, f1, f2, f3, f4, f5, f6, _⟩ := HX.out.fb.c7; obtain ⟨b0, b1, b2, _⟩ := HX.out.tb.c3; clear hb) | (go_at_call 74; (with_reducible refine (wQ det 0 65536).mono ?_); rw [q1]; rintro e wz ⟨rfl, hb⟩; replace HX := hU (HX.out.up hb); clear f0 f1 f2 f3 f4 f5 f6 b0 b1 b2; obtain ⟨f0, f1, f2, f3, f4, f5, f6, _⟩ := HX.out.fb.c7; obtain ⟨b0, b1, b2, _⟩ := HX.out.tb.c3; clear hb) | (go_at_call 74; (with_reducible refine (wQ ga 1 65536).mono ?_); rw [q2]; rintro e wz ⟨rfl, hb⟩; replace HX := hU (HX.out.up hb); clear f0 f1 f2 f3 f4 f5 f6 b0 b1 b2; obtain ⟨f0, f1, f2, f3, f4, f5, f6, _⟩ := HX.out.fb.c7; obtain ⟨b0, b1, b2, _⟩ := HX.out.tb.c3; clear hb) | (go_at_call 74; (with_reducible refine (wQ ho 1 65536).mono ?_); rw [q3]; rintro e wz ⟨rfl, hb⟩; replace HX := hU (HX.out.up hb); clear f0 f1 f2 f3 f4 f5 f6 b0 b1 b2; obtain ⟨f0, f1, f2, f3, f4, f5, f6, _⟩ := HX.out.fb.c7; obtain ⟨b0, b1, b2, _⟩ := HX.out.tb.c3; clear hb))
     go_ret
     exact ⟨by rw [HRV.out]; rfl, HX.out.b⟩
    | true =>
     have HV := hU q0
     have HN := hU (iZ q0)
     replace HR : Hid (R = (out.all (outOk t) && pksOk t [] ps)) := hU (by rw [HR.out]; simp [propB, timOk, q0, q1, q2, q3])
     go_wp2_with (first | (go_at_call 73; (with_reducible refine (dZ t _ _ _ _ _ HX.out.ta.ls).mono ?_); rw [q0]; rintro e wz ⟨rfl, hb⟩; replace HX := hU (HX.out.up hb); clear f0 f1 f2 f3 f4 f5 f6 b0 b1 b2; obtain ⟨f0, f1, f2, f3, f4, f5, f6, _⟩ := HX.out.fb.c7; obtain ⟨b0, b1, b2, _⟩ := HX.out.tb.c3; clear hb) | (go_at_call 74; (with_reducible refine (wQ det 0 65536).mono ?_); rw [q1]; rintro e wz ⟨rfl, hb⟩; replace HX := hU (HX.out.up hb); clear f0 f1 f2 f3 f4 f5 f6 b0 b1 b2; obtain ⟨f0, f1, f2, f3, f4, f5, f6, _⟩ := HX.out.fb.c7; obtain ⟨b0, b1, b2, _⟩ := HX.out.tb.c3; clear hb) | (go_at_call 74; (with_reducible refine (wQ ga 1 65536).mono ?_); rw [q2]; rintro e wz ⟨rfl, hb⟩; replace HX := hU (HX.out.up hb); clear f0 f1 f2 f3 f4 f5 f6 b0 b1 b2; obtain ⟨f0, f1, f2, f3, f4, f5, f6, _⟩ := HX.out.fb.c7; obtain ⟨b0, b1, b2, _⟩ := HX.out.tb.c3; clear hb) | (go_at_call 74; (with_reducible refine (wQ ho 1 65536).mono ?_); rw [q3]; rintro e wz ⟨rfl, hb⟩; replace HX := hU (HX.out.up hb); clear f0 f1 f2 f3 f4 f5 f6 b0 b1 b2; obtain ⟨f0, f1, f2, f3, f4, f5, f6, _⟩ := HX.out.fb.c7; obtain ⟨b0, b1, b2, _⟩ := HX.out.tb.c3; clear hb))
     clear q0 q1 q2 q3
     go_loopw [6] (fun i wr => ∃ k : Nat, k ≤ out.length ∧ i = .int .i64 k ∧ Hid (VBox w A1 A2 O c1 c2 out.length co t det ga ho wr) ∧ Hid ((out.take k).all (outOk t) = true)) (fun i _ => out.length - (intOf i).toNat)
     case atStart => exact ⟨0, Nat.zero_le _, rfl, HX, hU rfl⟩
     case round =>
      clear HX f0 f1 f2 f3 f4 f5 f6 b0 b1 b2
      obtain ⟨k, hk, rfl, HX, HK⟩ := hrel
      obtain ⟨f0, f1, f2, f3, f4, f5, f6, _⟩ := HX.out.fb.c7; obtain ⟨b0, b1, b2, _⟩ := HX.out.tb.c3
      by_cases hlt : k < out.length
      ·skip
       have hlt' : (k : Int) < (out.length : Int) := by omega
       obtain ⟨oo, hoo⟩ : ∃ oo, out[k]? = some oo := ⟨_, List.getElem?_eq_getElem hlt⟩
       obtain ⟨bz, oz, hAz, hcz⟩ := row_at (s := 4) (fun _ => rfl) (by omega) (HO.out.below HX.out.b) hoo
       have HTK : Hid (out.take (k + 1) = out.take k ++ [oo]) := hU (by rw [List.take_add_one, hoo]; rfl)
       have HM : Hid (oo ∈ out) := hU (List.mem_of_getElem? hoo)
       obtain ⟨fr, tu, ck, cm⟩ := oo
       have z0 := hcz 0 (.int .i64 fr) rfl
       have z1 := hcz 1 (.int .i64 tu) rfl
       have z2 := hcz 2 (.int .i64 ck) rfl
       have z3 := hcz 3 (.int .i64 cm) rfl
       rw [Nat.add_zero] at z0
       clear hcz hoo
       subst hAz
       go_upto_region 8 with fail
       refine kQ (fun Y => VBox w A1 A2 (some ⟨bz, oz, none⟩) c1 c2 out.length co t det ga ho Y ∧ Bl 81 wr.heap.size #[.int .i64 fr, .int .i64 tu, .int .i64 ck, .int .i64 cm] Y) ⟨HX.out.up (cQ wr _), Bl.new wr _ _⟩ ?_
       rintro Y ⟨hY, hZ⟩
       clear HX f0 f1 f2 f3 f4 f5 f6 b0 b1 b2 z0 z1 z2 z3
       have HX := hU hY
       have HZ := hU hZ
       clear hY hZ
       obtain ⟨f0, f1, f2, f3, f4, f5, f6, _⟩ := HX.out.fb.c7; obtain ⟨b0, b1, b2, _⟩ := HX.out.tb.c3
       obtain ⟨z0, z1, z2, z3, _⟩ := HZ.out.c4
       cases q1 : gZ t ck cm with
       | false =>
        have HRV : Hid (R = false) := hU (by
         have h1 : out.all (outOk t) = false := by
          rw [List.all_eq_false]
          exact ⟨_, HM.out, by simp [outOk, q1]⟩
         rw [HR.out, h1]; rfl)
        clear HR
        go_wp2_with (go_at_call 43; (with_reducible refine (ref10_Valid t _ _ _ _ ck cm _ HX.out.ta).mono ?_); rw [q1]; rintro e wz ⟨rfl, hb⟩; replace HX := hU (HX.out.up hb); clear f0 f1 f2 f3 f4 f5 f6 b0 b1 b2; obtain ⟨f0, f1, f2, f3, f4, f5, f6, _⟩ := HX.out.fb.c7; obtain ⟨b0, b1, b2, _⟩ := HX.out.tb.c3; replace HZ := hU (HZ.out.up hb); clear z0 z1 z2 z3; obtain ⟨z0, z1, z2, z3, _⟩ := HZ.out.c4; clear hb)
        go_ret
        exact ⟨by rw [HRV.out]; rfl, HX.out.b⟩
       | true =>
        cases q2 : inR fr 1 1073741824 with
        | false =>
         have HRV : Hid (R = false) := hU (by
          have h1 : out.all (outOk t) = false := by
           rw [List.all_eq_false]
           exact ⟨_, HM.out, by simp [outOk, q1, q2]⟩
          rw [HR.out, h1]; rfl)
         clear HR
         go_wp2_with (first | (go_at_call 43; (with_reducible refine (ref10_Valid t _ _ _ _ ck cm _ HX.out.ta).mono ?_); rw [q1]; rintro e wz ⟨rfl, hb⟩; replace HX := hU (HX.out.up hb); clear f0 f1 f2 f3 f4 f5 f6 b0 b1 b2; obtain ⟨f0, f1, f2, f3, f4, f5, f6, _⟩ := HX.out.fb.c7; obtain ⟨b0, b1, b2, _⟩ := HX.out.tb.c3; replace HZ := hU (HZ.out.up hb); clear z0 z1 z2 z3; obtain ⟨z0, z1, z2, z3, _⟩ := HZ.out.c4; clear hb) | (go_at_call 74; (with_reducible refine (wQ fr 1 1073741824).mono ?_); rw [q2]; rintro e wz ⟨rfl, hb⟩; replace HX := hU (HX.out.up hb); clear f0 f1 f2 f3 f4 f5 f6 b0 b1 b2; obtain ⟨f0, f1, f2, f3, f4, f5, f6, _⟩ := HX.out.fb.c7; obtain ⟨b0, b1, b2, _⟩ := HX.out.tb.c3; replace HZ := hU (HZ.out.up hb); clear z0 z1 z2 z3; obtain ⟨z0, z1, z2, z3, _⟩ := HZ.out.c4; clear hb))
         go_ret
         exact ⟨by rw [HRV.out]; rfl, HX.out.b⟩
        | true =>
         by_cases q3 : tu = 0
         ·subst q3
          have HOK : Hid (outOk t ⟨fr, 0, ck, cm⟩ = true) := hU (by simp [outOk, q1, q2])
          go_wp2_with (first | (go_at_call 43; (with_reducible refine (ref10_Valid t _ _ _ _ ck cm _ HX.out.ta).mono ?_); rw [q1]; rintro e wz ⟨rfl, hb⟩; replace HX := hU (HX.out.up hb); clear f0 f1 f2 f3 f4 f5 f6 b0 b1 b2; obtain ⟨f0, f1, f2, f3, f4, f5, f6, _⟩ := HX.out.fb.c7; obtain ⟨b0, b1, b2, _⟩ := HX.out.tb.c3; replace HZ := hU (HZ.out.up hb); clear z0 z1 z2 z3; obtain ⟨z0, z1, z2, z3, _⟩ := HZ.out.c4; clear hb) | (go_at_call 74; (with_reducible refine (wQ fr 1 1073741824).mono ?_); rw [q2]; rintro e wz ⟨rfl, hb⟩; replace HX := hU (HX.out.up hb); clear f0 f1 f2 f3 f4 f5 f6 b0 b1 b2; obtain ⟨f0, f1, f2, f3, f4, f5, f6, _⟩ := HX.out.fb.c7; obtain ⟨b0, b1, b2, _⟩ := HX.out.tb.c3; replace HZ := hU (HZ.out.up hb); clear z0 z1 z2 z3; obtain ⟨z0, z1, z2, z3, _⟩ := HZ.out.c4; clear hb))
          go_roundw
          case rel => exact ⟨k + 1, by omega, by go_num, HX, hU (by rw [HTK.out, List.all_append, HK.out]; simp [HOK.out])⟩
          case measure => simp [intOf]; omega
         ·skip
          have q3b : (tu != 0) = true := bne_iff_ne.2 q3
          cases q4 : inR tu fr 1073741824 with
          | false =>
           have HRV : Hid (R = false) := hU (by
            have h1 : out.all (outOk t) = false := by
             rw [List.all_eq_false]
             exact ⟨_, HM.out, by simp [outOk, q1, q2, q3, q4]⟩
            rw [HR.out, h1]; rfl)
           clear HR
           go_wp2_with (first | (go_at_call 43; (with_reducible refine (ref10_Valid t _ _ _ _ ck cm _ HX.out.ta).mono ?_); rw [q1]; rintro e wz ⟨rfl, hb⟩; replace HX := hU (HX.out.up hb); clear f0 f1 f2 f3 f4 f5 f6 b0 b1 b2; obtain ⟨f0, f1, f2, f3, f4, f5, f6, _⟩ := HX.out.fb.c7; obtain ⟨b0, b1, b2, _⟩ := HX.out.tb.c3; replace HZ := hU (HZ.out.up hb); clear z0 z1 z2 z3; obtain ⟨z0, z1, z2, z3, _⟩ := HZ.out.c4; clear hb) | (go_at_call 74; (with_reducible refine (wQ fr 1 1073741824).mono ?_); rw [q2]; rintro e wz ⟨rfl, hb⟩; replace HX := hU (HX.out.up hb); clear f0 f1 f2 f3 f4 f5 f6 b0 b1 b2; obtain ⟨f0, f1, f2, f3, f4, f5, f6, _⟩ := HX.out.fb.c7; obtain ⟨b0, b1, b2, _⟩ := HX.out.tb.c3; replace HZ := hU (HZ.out.up hb); clear z0 z1 z2 z3; obtain ⟨z0, z1, z2, z3, _⟩ := HZ.out.c4; clear hb) | (go_at_call 74; (with_reducible refine (wQ tu fr 1073741824).mono ?_); rw [q4]; rintro e wz ⟨rfl, hb⟩; replace HX := hU (HX.out.up hb); clear f0 f1 f2 f3 f4 f5 f6 b0 b1 b2; obtain ⟨f0, f1, f2, f3, f4, f5, f6, _⟩ := HX.out.fb.c7; obtain ⟨b0, b1, b2, _⟩ := HX.out.tb.c3; replace HZ := hU (HZ.out.up hb); clear z0 z1 z2 z3; obtain ⟨z0, z1, z2, z3, _⟩ := HZ.out.c4; clear hb))
           go_ret
           exact ⟨by rw [HRV.out]; rfl, HX.out.b⟩
          | true =>
           have HOK : Hid (outOk t ⟨fr, tu, ck, cm⟩ = true) := hU (by simp [outOk, q1, q2, q3, q4])
           go_wp2_with (first | (go_at_call 43; (with_reducible refine (ref10_Valid t _ _ _ _ ck cm _ HX.out.ta).mono ?_); rw [q1]; rintro e wz ⟨rfl, hb⟩; replace HX := hU (HX.out.up hb); clear f0 f1 f2 f3 f4 f5 f6 b0 b1 b2; obtain ⟨f0, f1, f2, f3, f4, f5, f6, _⟩ := HX.out.fb.c7; obtain ⟨b0, b1, b2, _⟩ := HX.out.tb.c3; replace HZ := hU (HZ.out.up hb); clear z0 z1 z2 z3; obtain ⟨z0, z1, z2, z3, _⟩ := HZ.out.c4; clear hb) | (go_at_call 74; (with_reducible refine (wQ fr 1 1073741824).mono ?_); rw [q2]; rintro e wz ⟨rfl, hb⟩; replace HX := hU (HX.out.up hb); clear f0 f1 f2 f3 f4 f5 f6 b0 b1 b2; obtain ⟨f0, f1, f2, f3, f4, f5, f6, _⟩ := HX.out.fb.c7; obtain ⟨b0, b1, b2, _⟩ := HX.out.tb.c3; replace HZ := hU (HZ.out.up hb); clear z0 z1 z2 z3; obtain ⟨z0, z1, z2, z3, _⟩ := HZ.out.c4; clear hb) | (go_at_call 74; (with_reducible refine (wQ tu fr 1073741824).mono ?_); rw [q4]; rintro e wz ⟨rfl, hb⟩; replace HX := hU (HX.out.up hb); clear f0 f1 f2 f3 f4 f5 f6 b0 b1 b2; obtain ⟨f0, f1, f2, f3, f4, f5, f6, _⟩ := HX.out.fb.c7; obtain ⟨b0, b1, b2, _⟩ := HX.out.tb.c3; replace HZ := hU (HZ.out.up hb); clear z0 z1 z2 z3; obtain ⟨z0, z1, z2, z3, _⟩ := HZ.out.c4; clear hb))
           go_roundw
           case rel => exact ⟨k + 1, by omega, by go_num, HX, hU (by rw [HTK.out, List.all_append, HK.out]; simp [HOK.out])⟩
           case measure => simp [intOf]; omega
      ·skip
       obtain rfl : k = out.length := by omega
       replace HR : Hid (R = pksOk t [] ps) := hU (by have := HK.out; rw [List.take_length] at this; rw [HR.out, this]; rfl)
       clear HK hk
       go_wp2_with fail
       go_loopw [8] (fun i wr => ∃ k : Nat, k ≤ ps.length ∧ i = .int .i64 k ∧ Hid (VBox w A1 A2 O c1 c2 out.length co t det ga ho wr) ∧ Hid (pksOk t ((ps.take k).map (·.id)) (ps.drop k) = pksOk t [] ps)) (fun i _ => ps.length - (intOf i).toNat)
       case atStart => exact ⟨0, Nat.zero_le _, rfl, HX, hU rfl⟩
       case round =>
        clear HX f0 f1 f2 f3 f4 f5 f6 b0 b1 b2
        obtain ⟨k, hk, rfl, HX, HK⟩ := hrel
        obtain ⟨f0, f1, f2, f3, f4, f5, f6, _⟩ := HX.out.fb.c7; obtain ⟨b0, b1, b2, _⟩ := HX.out.tb.c3
        by_cases hlt : k < ps.length
        ·skip
         have hlt' : (k : Int) < (ps.length : Int) := by omega
         obtain ⟨pp, hpp⟩ : ∃ pp, ps[k]? = some pp := ⟨_, List.getElem?_eq_getElem hlt⟩
         obtain ⟨bz, oz, hAz, hcz⟩ := row_at (s := 6) (fun _ => rfl) (by omega) (HP.out.below HX.out.b) hpp
         have HTK : Hid (ps.take (k + 1) = ps.take k ++ [pp]) := hU (by rw [List.take_add_one, hpp]; rfl)
         have HDR : Hid (ps.drop k = pp :: ps.drop (k + 1)) := hU (by rw [List.drop_eq_getElem_cons hlt]; congr 1; rw [List.getElem?_eq_getElem hlt] at hpp; injection hpp)
         obtain ⟨id, sr, ds, fl, st, sn, sc, hp⟩ := pp
         have z0 := hcz 0 (.int .i64 id) rfl
         have z1 := hcz 1 (.int .i64 sr) rfl
         have z2 := hcz 2 (.int .i64 ds) rfl
         have z3 := hcz 3 (.int .i64 fl) rfl
         have z4 := hcz 4 (.slice st sn sc) rfl
         have z5 := hcz 5 (.int .i64 hp) rfl
         rw [Nat.add_zero] at z0
         clear hcz hpp
         have HP0 := HP
         subst hAz
         go_upto_region 14 with fail
         refine kQ (fun Y => VBox w A1 A2 O c1 c2 out.length co t det ga ho Y ∧ Bl 49 wr.heap.size #[.int .i64 id, .int .i64 sr, .int .i64 ds, .int .i64 fl, .slice st sn sc, .int .i64 hp] Y) ⟨HX.out.up (cQ wr _), Bl.new wr _ _⟩ ?_
         generalize wr.heap.size = pb
         rintro Y ⟨hY, hZ⟩
         clear HX f0 f1 f2 f3 f4 f5 f6 b0 b1 b2 z0 z1 z2 z3 z4 z5
         have HX := hU hY
         have HZ := hU hZ
         clear hY hZ
         obtain ⟨f0, f1, f2, f3, f4, f5, f6, _⟩ := HX.out.fb.c7; obtain ⟨b0, b1, b2, _⟩ := HX.out.tb.c3
         obtain ⟨z0, z1, z2, z3, z4, z5, _⟩ := HZ.out.c6
         have hwn := IntWalk.wrap64_in (t.n - 1) (by have := HN.out; omega)
         cases q2 : inR id 0 1073741824 with
         | false =>
          have HRV : Hid (R = false) := hU (by
           have h1 : pksOk t [] ps = false := by
            rw [← HK.out, HDR.out, pksOk]
            simp only [pkOk, isN_inR, q2, Bool.not_true, Bool.not_false, Bool.false_and, Bool.and_false, Bool.true_and]
           rw [HR.out, h1])
          clear HR
          go_wp2_with (go_at_call 74; (with_reducible refine (wQ id 0 1073741824).mono ?_); rw [q2]; rintro e wz ⟨rfl, hb⟩; replace HX := hU (HX.out.up hb); clear f0 f1 f2 f3 f4 f5 f6 b0 b1 b2; obtain ⟨f0, f1, f2, f3, f4, f5, f6, _⟩ := HX.out.fb.c7; obtain ⟨b0, b1, b2, _⟩ := HX.out.tb.c3; replace HZ := hU (HZ.out.up hb); clear z0 z1 z2 z3 z4 z5; obtain ⟨z0, z1, z2, z3, z4, z5, _⟩ := HZ.out.c6; clear hb)
          go_ret
          exact ⟨by rw [HRV.out]; rfl, HX.out.b⟩
         | true =>
          cases q3 : inR sr 0 (t.n - 1) with
          | false =>
           have HRV : Hid (R = false) := hU (by
            have h1 : pksOk t [] ps = false := by
             rw [← HK.out, HDR.out, pksOk]
             simp only [pkOk, isN_inR, q2, q3, Bool.not_true, Bool.not_false, Bool.false_and, Bool.and_false, Bool.true_and]
            rw [HR.out, h1])
           clear HR
           go_wp2_with (first | (go_at_call 74; (with_reducible refine (wQ id 0 1073741824).mono ?_); rw [q2]; rintro e wz ⟨rfl, hb⟩; replace HX := hU (HX.out.up hb); clear f0 f1 f2 f3 f4 f5 f6 b0 b1 b2; obtain ⟨f0, f1, f2, f3, f4, f5, f6, _⟩ := HX.out.fb.c7; obtain ⟨b0, b1, b2, _⟩ := HX.out.tb.c3; replace HZ := hU (HZ.out.up hb); clear z0 z1 z2 z3 z4 z5; obtain ⟨z0, z1, z2, z3, z4, z5, _⟩ := HZ.out.c6; clear hb) | (go_at_call 74; (with_reducible refine (wQ sr 0 (t.n - 1)).mono ?_); rw [q3]; rintro e wz ⟨rfl, hb⟩; replace HX := hU (HX.out.up hb); clear f0 f1 f2 f3 f4 f5 f6 b0 b1 b2; obtain ⟨f0, f1, f2, f3, f4, f5, f6, _⟩ := HX.out.fb.c7; obtain ⟨b0, b1, b2, _⟩ := HX.out.tb.c3; replace HZ := hU (HZ.out.up hb); clear z0 z1 z2 z3 z4 z5; obtain ⟨z0, z1, z2, z3, z4, z5, _⟩ := HZ.out.c6; clear hb))
           go_ret
           exact ⟨by rw [HRV.out]; rfl, HX.out.b⟩
          | true =>
           cases q4 : inR ds 0 (t.n - 1) with
           | false =>
            have HRV : Hid (R = false) := hU (by
             have h1 : pksOk t [] ps = false := by
              rw [← HK.out, HDR.out, pksOk]
              simp only [pkOk, isN_inR, q2, q3, q4, Bool.not_true, Bool.not_false, Bool.false_and, Bool.and_false, Bool.true_and]
             rw [HR.out, h1])
            clear HR
            go_wp2_with (first | (go_at_call 74; (with_reducible refine (wQ id 0 1073741824).mono ?_); rw [q2]; rintro e wz ⟨rfl, hb⟩; replace HX := hU (HX.out.up hb); clear f0 f1 f2 f3 f4 f5 f6 b0 b1 b2; obtain ⟨f0, f1, f2, f3, f4, f5, f6, _⟩ := HX.out.fb.c7; obtain ⟨b0, b1, b2, _⟩ := HX.out.tb.c3; replace HZ := hU (HZ.out.up hb); clear z0 z1 z2 z3 z4 z5; obtain ⟨z0, z1, z2, z3, z4, z5, _⟩ := HZ.out.c6; clear hb) | (go_at_call 74; (with_reducible refine (wQ sr 0 (t.n - 1)).mono ?_); rw [q3]; rintro e wz ⟨rfl, hb⟩; replace HX := hU (HX.out.up hb); clear f0 f1 f2 f3 f4 f5 f6 b0 b1 b2; obtain ⟨f0, f1, f2, f3, f4, f5, f6, _⟩ := HX.out.fb.c7; obtain ⟨b0, b1, b2, _⟩ := HX.out.tb.c3; replace HZ := hU (HZ.out.up hb); clear z0 z1 z2 z3 z4 z5; obtain ⟨z0, z1, z2, z3, z4, z5, _⟩ := HZ.out.c6; clear hb) | (go_at_call 74; (with_reducible refine (wQ ds 0 (t.n - 1)).mono ?_); rw [q4]; rintro e wz ⟨rfl, hb⟩; replace HX := hU (HX.out.up hb); clear f0 f1 f2 f3 f4 f5 f6 b0 b1 b2; obtain ⟨f0, f1, f2, f3, f4, f5, f6, _⟩ := HX.out.fb.c7; obtain ⟨b0, b1, b2, _⟩ := HX.out.tb.c3; replace HZ := hU (HZ.out.up hb); clear z0 z1 z2 z3 z4 z5; obtain ⟨z0, z1, z2, z3, z4, z5, _⟩ := HZ.out.c6; clear hb))
            go_ret
            exact ⟨by rw [HRV.out]; rfl, HX.out.b⟩
           | true =>
            have HK2 : Hid ((∀ j p, j < k → ps[j]? = some p → p.id ≠ id) → pksOk t ((ps.take (k + 1)).map (·.id)) (ps.drop (k + 1)) = pksOk t [] ps) := hU (fun h => by
             have q1 : ((ps.take k).map (·.id)).contains id = false := by
              rw [Bool.eq_false_iff]
              intro hc
              obtain ⟨p, hp, he⟩ := List.mem_map.1 (List.contains_iff_mem.1 hc)
              obtain ⟨j, hj, rfl⟩ := List.mem_take_iff_getElem.1 hp
              exact h j _ (by omega) (List.getElem?_eq_getElem (by omega)) he
             rw [← HK.out, HDR.out, HTK.out, List.map_append, pksOk]
             simp only [pkOk, isN_inR, q1, q2, q3, q4, Bool.not_false, Bool.true_and, List.map_cons, List.map_nil])
            have HKN : Hid ((∃ j p, j < k ∧ ps[j]? = some p ∧ p.id = id) → R = false) := hU (fun ⟨j, p, h1, h2, h3⟩ => by
             have q1 : ((ps.take k).map (·.id)).contains id = true := by
              refine List.contains_iff_mem.2 (List.mem_map.2 ⟨p, ?_, h3⟩)
              obtain ⟨h4, h5⟩ := List.getElem?_eq_some_iff.1 h2
              exact List.mem_take_iff_getElem.2 ⟨j, by omega, h5⟩
             rw [HR.out, ← HK.out, HDR.out, pksOk]
             simp only [pkOk, q1, Bool.not_true, Bool.false_and])
            go_wp2_with (first | (go_at_call 74; (with_reducible refine (wQ id 0 1073741824).mono ?_); rw [q2]; rintro e wz ⟨rfl, hb⟩; replace HX := hU (HX.out.up hb); clear f0 f1 f2 f3 f4 f5 f6 b0 b1 b2; obtain ⟨f0, f1, f2, f3, f4, f5, f6, _⟩ := HX.out.fb.c7; obtain ⟨b0, b1, b2, _⟩ := HX.out.tb.c3; replace HZ := hU (HZ.out.up hb); clear z0 z1 z2 z3 z4 z5; obtain ⟨z0, z1, z2, z3, z4, z5, _⟩ := HZ.out.c6; clear hb) | (go_at_call 74; (with_reducible refine (wQ sr 0 (t.n - 1)).mono ?_); rw [q3]; rintro e wz ⟨rfl, hb⟩; replace HX := hU (HX.out.up hb); clear f0 f1 f2 f3 f4 f5 f6 b0 b1 b2; obtain ⟨f0, f1, f2, f3, f4, f5, f6, _⟩ := HX.out.fb.c7; obtain ⟨b0, b1, b2, _⟩ := HX.out.tb.c3; replace HZ := hU (HZ.out.up hb); clear z0 z1 z2 z3 z4 z5; obtain ⟨z0, z1, z2, z3, z4, z5, _⟩ := HZ.out.c6; clear hb) | (go_at_call 74; (with_reducible refine (wQ ds 0 (t.n - 1)).mono ?_); rw [q4]; rintro e wz ⟨rfl, hb⟩; replace HX := hU (HX.out.up hb); clear f0 f1 f2 f3 f4 f5 f6 b0 b1 b2; obtain ⟨f0, f1, f2, f3, f4, f5, f6, _⟩ := HX.out.fb.c7; obtain ⟨b0, b1, b2, _⟩ := HX.out.tb.c3; replace HZ := hU (HZ.out.up hb); clear z0 z1 z2 z3 z4 z5; obtain ⟨z0, z1, z2, z3, z4, z5, _⟩ := HZ.out.c6; clear hb))
            clear q2 q3 q4 HK hwn
            go_loopw [10] (fun i wr => ∃ j : Nat, j ≤ k ∧ i = .int .i64 j ∧ Hid (VBox w A1 A2 O c1 c2 out.length co t det ga ho wr) ∧ Hid (Bl 49 pb #[.int .i64 id, .int .i64 sr, .int .i64 ds, .int .i64 fl, .slice st sn sc, .int .i64 hp] wr) ∧ Hid (∀ i p, i < j → ps[i]? = some p → p.id ≠ id)) (fun i _ => k - (intOf i).toNat)
            case atStart => exact ⟨0, Nat.zero_le _, rfl, HX, HZ, hU (fun i p h => by omega)⟩
            case round =>
             clear HX HZ f0 f1 f2 f3 f4 f5 f6 b0 b1 b2 z0 z1 z2 z3 z4 z5
             obtain ⟨j, hj, rfl, HX, HZ, HJ⟩ := hrel
             obtain ⟨z0, z1, z2, z3, z4, z5, _⟩ := HZ.out.c6
             by_cases hjl : j < k
             ·have hjl' : (j : Int) < (k : Int) := by omega
              have hjl2 : (j : Int) < (ps.length : Int) := by omega
              obtain ⟨pj, hpj⟩ : ∃ pj, ps[j]? = some pj := ⟨_, List.getElem?_eq_getElem (by omega)⟩
              obtain ⟨by2, oy, hAy, hcy⟩ := row_at (s := 6) (fun _ => rfl) (by omega) (HP0.out.below HX.out.b) hpj
              have y0 := hcy 0 (.int .i64 pj.id) rfl
              rw [Nat.add_zero] at y0
              injection hAy with hAy
              injection hAy with e1 e2 _
              subst e1 e2
              have HPJ := hU hpj
              clear hcy hpj
              by_cases he : pj.id = id
              ·have heb : (pj.id == id) = true := beq_iff_eq.2 he
               have HRV : Hid (R = false) := hU (HKN.out ⟨j, pj, hjl, HPJ.out, he⟩)
               clear he
               go_wp2_with fail
               obtain ⟨P1, P2, -⟩ := kU z0 (kU y0 trivial)
               refine wp_region_quiet_below (by kernel_rfl) (by kernel_rfl) ?_
               repeat (go_big_quiet_step (fail))
               refine wpQuiet_nil ?_
               intro W2 hb
               replace hb := eQ hb
               clear P1 P2
               have zU := uU hb z0 (uU hb y0 trivial); clear z0 y0; obtain ⟨z0, y0, -⟩ := zU
               replace HX := hU (HX.out.up hb)
               clear hb
               go_wp2_with fail
               go_ret
               exact ⟨by rw [HRV.out]; rfl, HX.out.b⟩
              ·have heb : (pj.id == id) = false := beq_eq_false_iff_ne.2 he
               have HE := hU he
               clear he
               go_wp2_with fail
               obtain ⟨P1, P2, -⟩ := kU z0 (kU y0 trivial)
               refine wp_region_quiet_below (by kernel_rfl) (by kernel_rfl) ?_
               repeat (go_big_quiet_step (fail))
               refine wpQuiet_nil ?_
               intro W2 hb
               replace hb := eQ hb
               clear P1 P2
               have zU := uU hb z0 (uU hb y0 trivial); clear z0 y0; obtain ⟨z0, y0, -⟩ := zU
               replace HX := hU (HX.out.up hb)
               replace HZ := hU (HZ.out.up hb)
               clear hb z0 y0 z1 z2 z3 z4 z5
               go_wp2_with fail
               go_roundw
               case rel => exact ⟨j + 1, by omega, by go_num, HX, HZ, hU (fun i p h hp => by
                by_cases e : i = j
                ·subst e
                 have h9 := HPJ.out.symm.trans hp
                 injection h9 with h9
                 rw [← h9]; exact HE.out
                ·exact HJ.out i p (by omega) hp)⟩
               case measure => simp [intOf]; omega
             ·obtain rfl : j = k := by omega
              have HK3 := hU (HK2.out HJ.out)
              go_wp2_with fail
              go_roundw
              case rel => exact ⟨j + 1, by omega, by go_num, HX, HK3⟩
              case measure => simp [intOf]; omega
        ·skip
         obtain rfl : k = ps.length := by omega
         have HRV : Hid (R = true) := hU (by have := HK.out; rw [List.drop_length] at this; rw [HR.out, ← this]; rfl)
         clear HK hk HR
         go_wp2_with fail
         go_ret
         exact ⟨by rw [HRV.out]; rfl, HX.out.b⟩
end
end
end Go.Proofs.YtdnjflpmbnjgeaaGreat
