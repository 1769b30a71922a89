/-
  The rules of the check: timing.
-/
import Derived.Test.YtdnjflpmbnjgeaaPkRu5
namespace Go.Proofs.Ytdnjflpmbnjgeaa
set_option linter.unusedSimpArgs false
set_option linter.unusedVariables false
open Go.RowKit Go.Sort
section
variable {w : World} {F : FaN} {A1 A2 O : Option Addr} {c1 c2 co : Nat} {fl : Value} {b : CkB} {pm : Int → Option PkN} {pr : Int → Bool}
set_option maxRecDepth 100000 in
set_option maxHeartbeats 4000000 in
theorem ru_timing (c : CkS) (x kd n ar p r : Int) (hC : CkAt F A1 A2 O c1 c2 co fl b pm pr c w) (hb : kd = 8 → 0 ≤ n ∧ n < (c.st.length : Int) ∧ n < (c.en.length : Int) ∧ n < (c.ch.length : Int))
    (hx : 0 ≤ x ∧ x ≤ 1099511627776) (hen : 0 ≤ getI c.en n ∧ getI c.en n ≤ 1099511627776) (hch : 0 ≤ getI c.ch n ∧ getI c.ch n ≤ 1099511627776) (hga : 0 ≤ F.ga ∧ F.ga ≤ 65536) :
    Calls Try.prog 18 #[.pointer (some ⟨b.cb, 0, none⟩), .agg #[.int .i64 x, .int .i64 kd, .int .i64 n, .int .i64 ar, .int .i64 p, .int .i64 r]] w (RetRu w (timeV F c ⟨x, kd, n, ar, p, r⟩)) := by
  obtain ⟨X, hX⟩ : ∃ X, X = w.alloc (.cells #[.int .i64 x, .int .i64 kd, .int .i64 n, .int .i64 ar, .int .i64 p, .int .i64 r] 49) := ⟨_, rfl⟩
  have hB := below_box w (.cells #[.int .i64 x, .int .i64 kd, .int .i64 n, .int .i64 ar, .int .i64 p, .int .i64 r] 49)
  have hE := Bl.new w #[.int .i64 x, .int .i64 kd, .int .i64 n, .int .i64 ar, .int .i64 p, .int .i64 r] 49
  rw [← hX] at hB hE
  have HB := Lib.hid hB
  have HC := Lib.hid (hC.up hB)
  have HE := Lib.hid hE
  obtain ⟨e0, e1, e2, e3, e4, e5, _⟩ := hE.c6
  by_cases hk : kd = 8
  · subst hk
    have HBD := Lib.hid (hb rfl)
    have i0 := HBD.out.1
    have i1 := HBD.out.2.1
    have i2 := HBD.out.2.2.1
    have i3 := HBD.out.2.2.2
    have HST := Lib.hid (ru_state c ⟨x, 8, n, ar, p, r⟩ HC.out (fun _ => ⟨HBD.out.1, HBD.out.2.1⟩))
    simp only at HST
    clear hB hE hC hb
    cases hs : stateV c ⟨x, 8, n, ar, p, r⟩ with
    | true =>
      have HV : Hid (timeV F c ⟨x, 8, n, ar, p, r⟩ = false) := Lib.hid (by simp [timeV, hs])
      rw [HV.out]
      rw [hs] at HST
      clear hs
      go_enter Try.func18, Try.ntmps18
      go_upto_region 1 with fail
      rw [← hX]
      clear hX
      go_wp2_with (go_at_call 17; (with_reducible refine HST.out.mono ?_); rintro e w2 ⟨rfl, hb2⟩; replace HC := Lib.hid (HC.out.up hb2); replace HE := Lib.hid (HE.out.up hb2); replace HB := Lib.hid (below_next HB.out hb2); clear hb2 HST e0 e1 e2 e3 e4 e5; obtain ⟨e0, e1, e2, e3, e4, e5, _⟩ := HE.out.c6; have q4 := HC.out.q4; have q5 := HC.out.q5; have q11 := HC.out.q11; have q12 := HC.out.q12; have q13 := HC.out.q13; have r1 := HC.out.m.st.cell HBD.out.1 HBD.out.2.1; have r2 := HC.out.m.en.cell HBD.out.1 HBD.out.2.2.1; have r3 := HC.out.m.ch.cell HBD.out.1 HBD.out.2.2.2)
      go_ret
      exact ⟨rfl, HB.out⟩
    | false =>
      rw [hs] at HST
      have HS := Lib.hid hs
      clear hs
      obtain ⟨a1, h1⟩ : ∃ a1, a1 = getI c.en n := ⟨_, rfl⟩
      obtain ⟨a2, h2⟩ : ∃ a2, a2 = getI c.ch n := ⟨_, rfl⟩
      obtain ⟨a3, h3⟩ : ∃ a3, a3 = getI c.st n := ⟨_, rfl⟩
      by_cases k2 : r = 2
      · subst k2
        have HV : Hid (timeV F c ⟨x, 8, n, ar, p, 2⟩ = (!(x - a1 == F.ga) && !(x - a1 == F.ga - 1))) := Lib.hid (by simp [timeV, HS.out, h1])
        rw [HV.out]
        rw [← h1] at hen
        have hw1 := IntWalk.wrap64_in (x - a1) (by omega)
        have hw2 := IntWalk.wrap64_in (F.ga - 1) (by omega)
        go_enter Try.func18, Try.ntmps18
        go_upto_region 1 with fail
        rw [← hX]
        clear hX
        go_upto_region 4 with (go_at_call 17; (with_reducible refine HST.out.mono ?_); rintro e w2 ⟨rfl, hb2⟩; replace HC := Lib.hid (HC.out.up hb2); replace HE := Lib.hid (HE.out.up hb2); replace HB := Lib.hid (below_next HB.out hb2); clear hb2 HST e0 e1 e2 e3 e4 e5; obtain ⟨e0, e1, e2, e3, e4, e5, _⟩ := HE.out.c6; have q4 := HC.out.q4; have q5 := HC.out.q5; have q11 := HC.out.q11; have q12 := HC.out.q12; have q13 := HC.out.q13; have r1 := HC.out.m.st.cell HBD.out.1 HBD.out.2.1; have r2 := HC.out.m.en.cell HBD.out.1 HBD.out.2.2.1; have r3 := HC.out.m.ch.cell HBD.out.1 HBD.out.2.2.2)
        rw [← h1] at r2
        clear h1 h2 h3
        have kq_e0 := cell_regrown e0
        have kq_e1 := cell_regrown e1
        have kq_e2 := cell_regrown e2
        have kq_e3 := cell_regrown e3
        have kq_e4 := cell_regrown e4
        have kq_e5 := cell_regrown e5
        have kq_q4 := cell_regrown q4
        have kq_q12 := cell_regrown q12
        have kq_r2 := cell_regrown r2
        refine wp_region_quiet_below (by kernel_rfl) (by kernel_rfl) ?_
        repeat (go_big_quiet_step ((fail)))
        refine wpQuiet_nil ?_
        intro W3 hb3
        replace hb3 := below_of_regrown hb3
        clear kq_e0 kq_e1 kq_e2 kq_e3 kq_e4 kq_e5 kq_q4 kq_q12 kq_r2
        replace e0 := cell_up hb3 e0
        replace e1 := cell_up hb3 e1
        replace e2 := cell_up hb3 e2
        replace e3 := cell_up hb3 e3
        replace e4 := cell_up hb3 e4
        replace e5 := cell_up hb3 e5
        replace q4 := cell_up hb3 q4
        replace q12 := cell_up hb3 q12
        replace r2 := cell_up hb3 r2
        replace HB := Lib.hid (below_next HB.out hb3)
        obtain ⟨y, hy⟩ : ∃ y, y = x - a1 := ⟨_, rfl⟩
        rw [← hy]
        have HY := Lib.hid hy
        clear hw1
        by_cases g1 : y = F.ga
        · have g1b : (y != F.ga) = false := by simp [g1]
          have HV2 : Hid ((!(y == F.ga) && !(y == F.ga - 1)) = false) := Lib.hid (by simp [g1])
          clear g1 HS HV hen hch hga hx hy
          go_wp2_with fail
          go_ret
          exact ⟨by rw [← HY.out, HV2.out]; rfl, HB.out⟩
        · have g1b : (y != F.ga) = true := by simp [g1]
          by_cases g2 : y = F.ga - 1
          · have g2b : (y != F.ga - 1) = false := by simp [g2]
            have HV2 : Hid ((!(y == F.ga) && !(y == F.ga - 1)) = false) := Lib.hid (by simp [g2])
            clear g1 g2 HS HV hen hch hga hx hy
            go_wp2_with fail
            go_ret
            exact ⟨by rw [← HY.out, HV2.out]; rfl, HB.out⟩
          · have g2b : (y != F.ga - 1) = true := by simp [g2]
            have HV2 : Hid ((!(y == F.ga) && !(y == F.ga - 1)) = true) := Lib.hid (by simp [g1, g2])
            clear g1 g2 HS HV hen hch hga hx hy
            go_wp2_with fail
            go_ret
            exact ⟨by rw [← HY.out, HV2.out]; rfl, HB.out⟩
      · have k2b : (r == 2) = false := by simp [k2]
        rw [← h2] at hch
        have hw1 := IntWalk.wrap64_in (x - a2) (by omega)
        have HV : Hid (timeV F c ⟨x, 8, n, ar, p, r⟩ = ((a3 == 2) && decide (x - a2 < F.ho))) := Lib.hid (by simp [timeV, HS.out, h2, h3, k2])
        have HV2 := Lib.hid HV.out
        clear HV HS hen hga hx k2
        go_enter Try.func18, Try.ntmps18
        go_upto_region 1 with fail
        rw [← hX]
        clear hX
        go_upto_region 6 with (go_at_call 17; (with_reducible refine HST.out.mono ?_); rintro e w2 ⟨rfl, hb2⟩; replace HC := Lib.hid (HC.out.up hb2); replace HE := Lib.hid (HE.out.up hb2); replace HB := Lib.hid (below_next HB.out hb2); clear hb2 HST e0 e1 e2 e3 e4 e5; obtain ⟨e0, e1, e2, e3, e4, e5, _⟩ := HE.out.c6; have q4 := HC.out.q4; have q5 := HC.out.q5; have q11 := HC.out.q11; have q12 := HC.out.q12; have q13 := HC.out.q13; have r1 := HC.out.m.st.cell HBD.out.1 HBD.out.2.1; have r2 := HC.out.m.en.cell HBD.out.1 HBD.out.2.2.1; have r3 := HC.out.m.ch.cell HBD.out.1 HBD.out.2.2.2)
        rw [← h3] at r1
        rw [← h2] at r3
        clear h1 h2 h3 hch
        by_cases g : a3 = 2
        · have gb : (a3 == 2) = true := by simp [g]
          by_cases gz : x - a2 < F.ho
          · have hz : decide (x - a2 < F.ho) = true := by simp [gz]
            clear g gz
            have kq_e0 := cell_regrown e0
            have kq_e1 := cell_regrown e1
            have kq_e2 := cell_regrown e2
            have kq_e3 := cell_regrown e3
            have kq_e4 := cell_regrown e4
            have kq_e5 := cell_regrown e5
            have kq_q5 := cell_regrown q5
            have kq_q11 := cell_regrown q11
            have kq_q13 := cell_regrown q13
            have kq_r1 := cell_regrown r1
            have kq_r3 := cell_regrown r3
            refine wp_region_quiet_below (by kernel_rfl) (by kernel_rfl) ?_
            repeat (go_big_quiet_step ((fail)))
            refine wpQuiet_nil ?_
            intro W3 hb3
            replace hb3 := below_of_regrown hb3
            clear kq_e0 kq_e1 kq_e2 kq_e3 kq_e4 kq_e5 kq_q5 kq_q11 kq_q13 kq_r1 kq_r3
            replace e0 := cell_up hb3 e0
            replace e1 := cell_up hb3 e1
            replace e2 := cell_up hb3 e2
            replace e3 := cell_up hb3 e3
            replace e4 := cell_up hb3 e4
            replace e5 := cell_up hb3 e5
            replace q5 := cell_up hb3 q5
            replace q11 := cell_up hb3 q11
            replace q13 := cell_up hb3 q13
            replace r1 := cell_up hb3 r1
            replace r3 := cell_up hb3 r3
            replace HB := Lib.hid (below_next HB.out hb3)
            go_wp2_with fail
            go_ret
            exact ⟨by rw [HV2.out, gb, hz]; rfl, HB.out⟩
          · have hz : decide (x - a2 < F.ho) = false := by simp [gz]
            clear g gz
            have kq_e0 := cell_regrown e0
            have kq_e1 := cell_regrown e1
            have kq_e2 := cell_regrown e2
            have kq_e3 := cell_regrown e3
            have kq_e4 := cell_regrown e4
            have kq_e5 := cell_regrown e5
            have kq_q5 := cell_regrown q5
            have kq_q11 := cell_regrown q11
            have kq_q13 := cell_regrown q13
            have kq_r1 := cell_regrown r1
            have kq_r3 := cell_regrown r3
            refine wp_region_quiet_below (by kernel_rfl) (by kernel_rfl) ?_
            repeat (go_big_quiet_step ((fail)))
            refine wpQuiet_nil ?_
            intro W3 hb3
            replace hb3 := below_of_regrown hb3
            clear kq_e0 kq_e1 kq_e2 kq_e3 kq_e4 kq_e5 kq_q5 kq_q11 kq_q13 kq_r1 kq_r3
            replace e0 := cell_up hb3 e0
            replace e1 := cell_up hb3 e1
            replace e2 := cell_up hb3 e2
            replace e3 := cell_up hb3 e3
            replace e4 := cell_up hb3 e4
            replace e5 := cell_up hb3 e5
            replace q5 := cell_up hb3 q5
            replace q11 := cell_up hb3 q11
            replace q13 := cell_up hb3 q13
            replace r1 := cell_up hb3 r1
            replace r3 := cell_up hb3 r3
            replace HB := Lib.hid (below_next HB.out hb3)
            go_wp2_with fail
            go_ret
            exact ⟨by rw [HV2.out, gb, hz]; rfl, HB.out⟩
        · have gb : (a3 == 2) = false := by simp [g]
          clear g
          have kq_e0 := cell_regrown e0
          have kq_e1 := cell_regrown e1
          have kq_e2 := cell_regrown e2
          have kq_e3 := cell_regrown e3
          have kq_e4 := cell_regrown e4
          have kq_e5 := cell_regrown e5
          have kq_q5 := cell_regrown q5
          have kq_q11 := cell_regrown q11
          have kq_q13 := cell_regrown q13
          have kq_r1 := cell_regrown r1
          have kq_r3 := cell_regrown r3
          refine wp_region_quiet_below (by kernel_rfl) (by kernel_rfl) ?_
          repeat (go_big_quiet_step ((fail)))
          refine wpQuiet_nil ?_
          intro W3 hb3
          replace hb3 := below_of_regrown hb3
          clear kq_e0 kq_e1 kq_e2 kq_e3 kq_e4 kq_e5 kq_q5 kq_q11 kq_q13 kq_r1 kq_r3
          replace e0 := cell_up hb3 e0
          replace e1 := cell_up hb3 e1
          replace e2 := cell_up hb3 e2
          replace e3 := cell_up hb3 e3
          replace e4 := cell_up hb3 e4
          replace e5 := cell_up hb3 e5
          replace q5 := cell_up hb3 q5
          replace q11 := cell_up hb3 q11
          replace q13 := cell_up hb3 q13
          replace r1 := cell_up hb3 r1
          replace r3 := cell_up hb3 r3
          replace HB := Lib.hid (below_next HB.out hb3)
          go_wp2_with fail
          go_ret
          exact ⟨by rw [HV2.out, gb]; rfl, HB.out⟩
  · have hkb : (kd != 8) = true := by simp [hk]
    have HV : Hid (timeV F c ⟨x, kd, n, ar, p, r⟩ = false) := Lib.hid (by simp [timeV, hk])
    rw [HV.out]
    clear hB hE hC hb hk
    go_enter Try.func18, Try.ntmps18
    go_upto_region 1 with fail
    rw [← hX]
    clear hX
    go_wp2_with fail
    go_ret
    exact ⟨rfl, HB.out⟩
end
end Go.Proofs.Ytdnjflpmbnjgeaa
