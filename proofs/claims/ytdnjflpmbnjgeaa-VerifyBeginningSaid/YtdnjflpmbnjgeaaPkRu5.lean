/-
  The rules of the check: arc.
  The rules of the check: lost.
-/
import Derived.Test.YtdnjflpmbnjgeaaPkRu0
namespace Go.Proofs.Ytdnjflpmbnjgeaa
set_option linter.unusedSimpArgs false
set_option linter.unusedVariables false
open Go.RowKit Go.Sort
section
variable {w : World} {F : FaN} {A1 A2 O : Option Addr} {c1 c2 co : Nat} {fl : Value} {b : CkB} {pm : Int → Option PkN} {pr : Int → Bool}
set_option maxRecDepth 100000 in
set_option maxHeartbeats 4000000 in
theorem ru_arc (c : CkS) (x kd n ar p r : Int) (hC : CkAt F A1 A2 O c1 c2 co fl b pm pr c w) (hT : TAt w A1 A2 F.t) (hl : F.t.ls.length ≤ 100000) (hJ : inJ p ∧ inJ n ∧ inJ ar) (ha : kd = 2 → 0 ≤ ar ∧ ar < 2 * (F.t.ls.length : Int)) :
    Calls Try.prog 14 #[.pointer (some ⟨b.cb, 0, none⟩), .agg #[.int .i64 x, .int .i64 kd, .int .i64 n, .int .i64 ar, .int .i64 p, .int .i64 r]] w (RetRu w (if kd = 2 then !(tail F.t ar == n) else lossB ⟨x, kd, n, ar, p, r⟩ && !c.fw p n ar)) := by
  obtain ⟨X, hX⟩ : ∃ X, X = w.alloc (.cells #[.int .i64 x, .int .i64 kd, .int .i64 n, .int .i64 ar, .int .i64 p, .int .i64 r] 49) := ⟨_, rfl⟩
  have hB := below_box w (.cells #[.int .i64 x, .int .i64 kd, .int .i64 n, .int .i64 ar, .int .i64 p, .int .i64 r] 49)
  have hE := Bl.new w #[.int .i64 x, .int .i64 kd, .int .i64 n, .int .i64 ar, .int .i64 p, .int .i64 r] 49
  rw [← hX] at hB hE
  have HB := Lib.hid hB
  have HC := Lib.hid (hC.up hB)
  have HT := Lib.hid (hT.below hB)
  have HJ := Lib.hid hJ
  obtain ⟨e0, e1, e2, e3, e4, e5, _⟩ := hE.c6
  have q0 := HC.out.q0
  have q1 := HC.out.q1
  have q2 := HC.out.q2
  have q18 := HC.out.q18
  by_cases hk : kd = 2
  · subst hk
    obtain ⟨h0, h1⟩ := ha rfl
    obtain ⟨v, hv⟩ : ∃ v, v = tail F.t ar := ⟨_, rfl⟩
    have HH : Hid (∀ d os, Calls Try.prog 38 #[.agg #[.int .i64 F.t.n, .slice A1 F.t.ov.length c1, .slice A2 F.t.ls.length c2], .int .i64 ar] (grow (redrawn X d) os) fun e w'' => e = .returned (.int .i64 v) ∧ ∃ p : Regrown, w'' = grow (redrawn X p.d) p.os) := Lib.hid fun d os => by rw [hv]; exact Calls.regrown_of (graph_Tail _ _ _ _ F.t ar _ (HT.out.below (below_regrown X d os)).ls h0 h1 hl)
    rw [if_pos rfl, ← hv]
    clear hB hE hC hT hJ ha hv h0 h1 hl
    go_enter Try.func14, Try.ntmps14
    go_upto_region 2 with fail
    rw [← hX]
    clear hX
    have kq_e0 := cell_regrown e0
    have kq_e1 := cell_regrown e1
    have kq_e2 := cell_regrown e2
    have kq_e3 := cell_regrown e3
    have kq_e4 := cell_regrown e4
    have kq_e5 := cell_regrown e5
    have kq_q0 := cell_regrown q0
    have kq_q1 := cell_regrown q1
    have kq_q2 := cell_regrown q2
    refine wp_region_quiet_below (by kernel_rfl) (by kernel_rfl) ?_
    repeat (go_big_quiet_step ((with_reducible exact HH.out _ _)))
    refine wpQuiet_nil ?_
    intro W2 hb2
    replace hb2 := below_of_regrown hb2
    clear kq_e0 kq_e1 kq_e2 kq_e3 kq_e4 kq_e5 kq_q0 kq_q1 kq_q2
    replace e0 := cell_up hb2 e0
    replace e1 := cell_up hb2 e1
    replace e2 := cell_up hb2 e2
    replace e3 := cell_up hb2 e3
    replace e4 := cell_up hb2 e4
    replace e5 := cell_up hb2 e5
    replace q0 := cell_up hb2 q0
    replace q1 := cell_up hb2 q1
    replace q2 := cell_up hb2 q2
    replace HB := Lib.hid (below_next HB.out hb2)
    go_wp2_with fail
    go_ret
    exact ⟨rfl, HB.out⟩
  · have hkb : (kd == 2) = false := by simp [hk]
    rw [if_neg hk]
    have l2 : ∀ d os, (Instr.lookup 61 (.map (some b.fw)) (.agg #[.int .i64 p, .int .i64 n, .int .i64 ar]) false).run Try.prog (grow (redrawn X d) os) = .ok (.bool (c.fw p n ar)) (grow (redrawn X d) os) := fun d os => (HC.out.up (below_regrown _ d os)).m.fw.look key_hop Try.underlying61 (zero_boolV _) (p, n, ar) (keyOf_hop (p, n, ar) HJ.out.1 HJ.out.2.1 HJ.out.2.2) (enc3_inj (p, n, ar))
    obtain ⟨v, hv⟩ : ∃ v, v = lossB ⟨x, kd, n, ar, p, r⟩ := ⟨_, rfl⟩
    have HH : Hid (∀ d os, Calls Try.prog 39 #[.agg #[.int .i64 x, .int .i64 kd, .int .i64 n, .int .i64 ar, .int .i64 p, .int .i64 r]] (grow (redrawn X d) os) fun e w'' => e = .returned (.bool v) ∧ ∃ p : Regrown, w'' = grow (redrawn X p.d) p.os) := Lib.hid fun d os => by rw [hv]; exact Calls.regrown_of (vy_onArc (w := grow (redrawn X d) os) x kd n ar p r)
    obtain ⟨y, hy⟩ : ∃ y, y = c.fw p n ar := ⟨_, rfl⟩
    rw [← hv, ← hy]
    rw [← hy] at l2
    clear hB hE hC hT hJ ha hv hl hk hy
    go_enter Try.func14, Try.ntmps14
    go_upto_region 3 with fail
    rw [← hX]
    clear hX
    cases v with
    | true =>
      have kq_e0 := cell_regrown e0
      have kq_e1 := cell_regrown e1
      have kq_e2 := cell_regrown e2
      have kq_e3 := cell_regrown e3
      have kq_e4 := cell_regrown e4
      have kq_e5 := cell_regrown e5
      have kq_q18 := cell_regrown q18
      refine wp_region_quiet_below (by kernel_rfl) (by kernel_rfl) ?_
      repeat (go_big_quiet_step ((with_reducible exact HH.out _ _)))
      refine wpQuiet_nil ?_
      intro W2 hb2
      replace hb2 := below_of_regrown hb2
      clear kq_e0 kq_e1 kq_e2 kq_e3 kq_e4 kq_e5 kq_q18
      replace e0 := cell_up hb2 e0
      replace e1 := cell_up hb2 e1
      replace e2 := cell_up hb2 e2
      replace e3 := cell_up hb2 e3
      replace e4 := cell_up hb2 e4
      replace e5 := cell_up hb2 e5
      replace q18 := cell_up hb2 q18
      replace HB := Lib.hid (below_next HB.out hb2)
      clear l2
      go_wp2_with fail
      go_ret
      exact ⟨rfl, HB.out⟩
    | false =>
      have kq_e0 := cell_regrown e0
      have kq_e1 := cell_regrown e1
      have kq_e2 := cell_regrown e2
      have kq_e3 := cell_regrown e3
      have kq_e4 := cell_regrown e4
      have kq_e5 := cell_regrown e5
      have kq_q18 := cell_regrown q18
      refine wp_region_quiet_below (by kernel_rfl) (by kernel_rfl) ?_
      repeat (go_big_quiet_step ((with_reducible exact HH.out _ _)))
      refine wpQuiet_nil ?_
      intro W2 hb2
      replace hb2 := below_of_regrown hb2
      clear kq_e0 kq_e1 kq_e2 kq_e3 kq_e4 kq_e5 kq_q18
      replace e0 := cell_up hb2 e0
      replace e1 := cell_up hb2 e1
      replace e2 := cell_up hb2 e2
      replace e3 := cell_up hb2 e3
      replace e4 := cell_up hb2 e4
      replace e5 := cell_up hb2 e5
      replace q18 := cell_up hb2 q18
      replace HB := Lib.hid (below_next HB.out hb2)
      clear l2
      go_wp2_with fail
      go_ret
      exact ⟨rfl, HB.out⟩
end
end Go.Proofs.Ytdnjflpmbnjgeaa
namespace Go.Proofs.Ytdnjflpmbnjgeaa
set_option linter.unusedSimpArgs false
set_option linter.unusedVariables false
open Go.RowKit Go.Sort
section
variable {w : World} {F : FaN} {A1 A2 O : Option Addr} {c1 c2 co : Nat} {Af : Option Addr} {cf : Nat} {fail : List Bool} {b : CkB} {pm : Int → Option PkN} {pr : Int → Bool}
set_option maxRecDepth 100000 in
set_option maxHeartbeats 4000000 in
theorem ru_lost (c : CkS) (x kd n ar p r : Int) (hC : CkAt F A1 A2 O c1 c2 co (.slice Af fail.length cf) b pm pr c w) (hf : Rd w Af (fail.map Value.bool)) (hfl : fail.length ≤ 100000) (hJ : inJ p) (ha : kd = 4 → pr p = true → r = 7 → 0 ≤ ar ∧ ar < (fail.length : Int)) :
    Calls Try.prog 21 #[.pointer (some ⟨b.cb, 0, none⟩), .agg #[.int .i64 x, .int .i64 kd, .int .i64 n, .int .i64 ar, .int .i64 p, .int .i64 r]] w (RetRu w (if kd = 4 ∧ pr p = true ∧ ¬ r = 6 then (!(r == 7) || fail.getD ar.toNat false) else false)) := by
  obtain ⟨X, hX⟩ : ∃ X, X = w.alloc (.cells #[.int .i64 x, .int .i64 kd, .int .i64 n, .int .i64 ar, .int .i64 p, .int .i64 r] 49) := ⟨_, rfl⟩
  have hB := below_box w (.cells #[.int .i64 x, .int .i64 kd, .int .i64 n, .int .i64 ar, .int .i64 p, .int .i64 r] 49)
  have hE := Bl.new w #[.int .i64 x, .int .i64 kd, .int .i64 n, .int .i64 ar, .int .i64 p, .int .i64 r] 49
  rw [← hX] at hB hE
  have HB := Lib.hid hB
  have HC := Lib.hid (hC.up hB)
  have HF := Lib.hid (hf.below hB)
  have HJ := Lib.hid hJ
  have HE := Lib.hid hE
  obtain ⟨e0, e1, e2, e3, e4, e5, _⟩ := hE.c6
  have q8 := HC.out.q8
  have q9 := HC.out.q9
  have l1 : ∀ d os, (Instr.lookup 57 (.map (some b.pr)) (.int .i64 p) false).run Try.prog (grow (redrawn X d) os) = .ok (.bool (pr p)) (grow (redrawn X d) os) := fun d os => (HC.out.up (below_regrown _ d os)).m.pr.look key_int Try.underlying57 (zero_boolV _) p (keyJ HJ.out) (enc1_inj p)
  obtain ⟨v, hv⟩ : ∃ v, v = pr p := ⟨_, rfl⟩
  rw [← hv] at l1 ha ⊢
  clear hB hE hC hJ hv hf
  by_cases hk : kd = 4
  · subst hk
    cases v with
    | false =>
      have HV : Hid ((if (4 : Int) = 4 ∧ false = true ∧ ¬ r = 6 then (!(r == 7) || fail.getD ar.toNat false) else false) = false) := Lib.hid (by simp)
      rw [HV.out]
      clear ha
      go_enter Try.func21, Try.ntmps21
      go_upto_region 1 with fail
      rw [← hX]
      clear hX
      have kq_e0 := cell_regrown e0
      have kq_e1 := cell_regrown e1
      have kq_e2 := cell_regrown e2
      have kq_e3 := cell_regrown e3
      have kq_e4 := cell_regrown e4
      have kq_e5 := cell_regrown e5
      have kq_q8 := cell_regrown q8
      have kq_q9 := cell_regrown q9
      refine wp_region_quiet_below (by kernel_rfl) (by kernel_rfl) ?_
      repeat (go_big_quiet_step ((fail)))
      refine wpQuiet_nil ?_
      intro W2 hb2
      replace hb2 := below_of_regrown hb2
      clear kq_e0 kq_e1 kq_e2 kq_e3 kq_e4 kq_e5 kq_q8 kq_q9
      replace e0 := cell_up hb2 e0
      replace e1 := cell_up hb2 e1
      replace e2 := cell_up hb2 e2
      replace e3 := cell_up hb2 e3
      replace e4 := cell_up hb2 e4
      replace e5 := cell_up hb2 e5
      replace q8 := cell_up hb2 q8
      replace q9 := cell_up hb2 q9
      replace HB := Lib.hid (below_next HB.out hb2)
      clear l1
      go_wp2_with fail
      go_ret
      exact ⟨rfl, HB.out⟩
    | true =>
      by_cases h6 : r = 6
      · subst h6
        have HV : Hid ((if (4 : Int) = 4 ∧ true = true ∧ ¬ (6 : Int) = 6 then (!((6 : Int) == 7) || fail.getD ar.toNat false) else false) = false) := Lib.hid (by simp)
        rw [HV.out]
        clear ha
        go_enter Try.func21, Try.ntmps21
        go_upto_region 1 with fail
        rw [← hX]
        clear hX
        have kq_e0 := cell_regrown e0
        have kq_e1 := cell_regrown e1
        have kq_e2 := cell_regrown e2
        have kq_e3 := cell_regrown e3
        have kq_e4 := cell_regrown e4
        have kq_e5 := cell_regrown e5
        have kq_q8 := cell_regrown q8
        have kq_q9 := cell_regrown q9
        refine wp_region_quiet_below (by kernel_rfl) (by kernel_rfl) ?_
        repeat (go_big_quiet_step ((fail)))
        refine wpQuiet_nil ?_
        intro W2 hb2
        replace hb2 := below_of_regrown hb2
        clear kq_e0 kq_e1 kq_e2 kq_e3 kq_e4 kq_e5 kq_q8 kq_q9
        replace e0 := cell_up hb2 e0
        replace e1 := cell_up hb2 e1
        replace e2 := cell_up hb2 e2
        replace e3 := cell_up hb2 e3
        replace e4 := cell_up hb2 e4
        replace e5 := cell_up hb2 e5
        replace q8 := cell_up hb2 q8
        replace q9 := cell_up hb2 q9
        replace HB := Lib.hid (below_next HB.out hb2)
        clear l1
        go_wp2_with fail
        go_ret
        exact ⟨rfl, HB.out⟩
      · have h6b : (r == 6) = false := by simp [h6]
        rw [if_pos ⟨rfl, rfl, h6⟩]
        by_cases h7 : r = 7
        · subst h7
          obtain ⟨h0, h1⟩ := ha rfl rfl rfl
          obtain ⟨y, hy⟩ : ∃ y, y = fail.getD ar.toNat false := ⟨_, rfl⟩
          obtain ⟨bf, of, hAf, hcf⟩ := HF.out.at_ (k := ar.toNat) (u := .bool y) (by rw [hy, List.getElem?_map, List.getD_eq_getElem?_getD, List.getElem?_eq_getElem (show ar.toNat < fail.length by omega)]; rfl)
          rw [← hy]
          subst hAf
          clear ha hy h6
          go_enter Try.func21, Try.ntmps21
          go_upto_region 1 with fail
          rw [← hX]
          clear hX
          have kq_e0 := cell_regrown e0
          have kq_e1 := cell_regrown e1
          have kq_e2 := cell_regrown e2
          have kq_e3 := cell_regrown e3
          have kq_e4 := cell_regrown e4
          have kq_e5 := cell_regrown e5
          have kq_q8 := cell_regrown q8
          have kq_q9 := cell_regrown q9
          have kq_hcf := cell_regrown hcf
          refine wp_region_quiet_below (by kernel_rfl) (by kernel_rfl) ?_
          repeat (go_big_quiet_step ((fail)))
          refine wpQuiet_nil ?_
          intro W2 hb2
          replace hb2 := below_of_regrown hb2
          clear kq_e0 kq_e1 kq_e2 kq_e3 kq_e4 kq_e5 kq_q8 kq_q9 kq_hcf
          replace e0 := cell_up hb2 e0
          replace e1 := cell_up hb2 e1
          replace e2 := cell_up hb2 e2
          replace e3 := cell_up hb2 e3
          replace e4 := cell_up hb2 e4
          replace e5 := cell_up hb2 e5
          replace q8 := cell_up hb2 q8
          replace q9 := cell_up hb2 q9
          replace hcf := cell_up hb2 hcf
          replace HB := Lib.hid (below_next HB.out hb2)
          clear l1
          go_upto_region 3 with fail
          have kq_e0 := cell_regrown e0
          have kq_e1 := cell_regrown e1
          have kq_e2 := cell_regrown e2
          have kq_e3 := cell_regrown e3
          have kq_e4 := cell_regrown e4
          have kq_e5 := cell_regrown e5
          have kq_q8 := cell_regrown q8
          have kq_q9 := cell_regrown q9
          have kq_hcf := cell_regrown hcf
          refine wp_region_quiet_below (by kernel_rfl) (by kernel_rfl) ?_
          repeat (go_big_quiet_step ((fail)))
          refine wpQuiet_nil ?_
          intro W3 hb3
          replace hb3 := below_of_regrown hb3
          clear kq_e0 kq_e1 kq_e2 kq_e3 kq_e4 kq_e5 kq_q8 kq_q9 kq_hcf
          replace e0 := cell_up hb3 e0
          replace e1 := cell_up hb3 e1
          replace e2 := cell_up hb3 e2
          replace e3 := cell_up hb3 e3
          replace e4 := cell_up hb3 e4
          replace e5 := cell_up hb3 e5
          replace q8 := cell_up hb3 q8
          replace q9 := cell_up hb3 q9
          replace hcf := cell_up hb3 hcf
          replace HB := Lib.hid (below_next HB.out hb3)
          go_wp2_with fail
          go_ret
          exact ⟨by cases y <;> rfl, HB.out⟩
        · have h7b : (r == 7) = false := by simp [h7]
          have h7c : (r != 7) = true := by simp [h7]
          have HV : Hid ((!(r == 7) || fail.getD ar.toNat false) = true) := Lib.hid (by rw [h7b]; rfl)
          rw [HV.out]
          clear ha h6 h7
          go_enter Try.func21, Try.ntmps21
          go_upto_region 1 with fail
          rw [← hX]
          clear hX
          have kq_e0 := cell_regrown e0
          have kq_e1 := cell_regrown e1
          have kq_e2 := cell_regrown e2
          have kq_e3 := cell_regrown e3
          have kq_e4 := cell_regrown e4
          have kq_e5 := cell_regrown e5
          have kq_q8 := cell_regrown q8
          have kq_q9 := cell_regrown q9
          refine wp_region_quiet_below (by kernel_rfl) (by kernel_rfl) ?_
          repeat (go_big_quiet_step ((fail)))
          refine wpQuiet_nil ?_
          intro W2 hb2
          replace hb2 := below_of_regrown hb2
          clear kq_e0 kq_e1 kq_e2 kq_e3 kq_e4 kq_e5 kq_q8 kq_q9
          replace e0 := cell_up hb2 e0
          replace e1 := cell_up hb2 e1
          replace e2 := cell_up hb2 e2
          replace e3 := cell_up hb2 e3
          replace e4 := cell_up hb2 e4
          replace e5 := cell_up hb2 e5
          replace q8 := cell_up hb2 q8
          replace q9 := cell_up hb2 q9
          replace HB := Lib.hid (below_next HB.out hb2)
          clear l1
          go_upto_region 3 with fail
          have kq_e0 := cell_regrown e0
          have kq_e1 := cell_regrown e1
          have kq_e2 := cell_regrown e2
          have kq_e3 := cell_regrown e3
          have kq_e4 := cell_regrown e4
          have kq_e5 := cell_regrown e5
          have kq_q8 := cell_regrown q8
          have kq_q9 := cell_regrown q9
          refine wp_region_quiet_below (by kernel_rfl) (by kernel_rfl) ?_
          repeat (go_big_quiet_step ((fail)))
          refine wpQuiet_nil ?_
          intro W3 hb3
          replace hb3 := below_of_regrown hb3
          clear kq_e0 kq_e1 kq_e2 kq_e3 kq_e4 kq_e5 kq_q8 kq_q9
          replace e0 := cell_up hb3 e0
          replace e1 := cell_up hb3 e1
          replace e2 := cell_up hb3 e2
          replace e3 := cell_up hb3 e3
          replace e4 := cell_up hb3 e4
          replace e5 := cell_up hb3 e5
          replace q8 := cell_up hb3 q8
          replace q9 := cell_up hb3 q9
          replace HB := Lib.hid (below_next HB.out hb3)
          go_wp2_with fail
          go_ret
          exact ⟨rfl, HB.out⟩
  · have hkb : (kd != 4) = true := by simp [hk]
    rw [if_neg (fun h => hk h.1)]
    clear ha hk
    go_enter Try.func21, Try.ntmps21
    go_upto_region 1 with fail
    rw [← hX]
    clear hX
    have kq_e0 := cell_regrown e0
    have kq_e1 := cell_regrown e1
    have kq_e2 := cell_regrown e2
    have kq_e3 := cell_regrown e3
    have kq_e4 := cell_regrown e4
    have kq_e5 := cell_regrown e5
    have kq_q8 := cell_regrown q8
    have kq_q9 := cell_regrown q9
    refine wp_region_quiet_below (by kernel_rfl) (by kernel_rfl) ?_
    repeat (go_big_quiet_step ((fail)))
    refine wpQuiet_nil ?_
    intro W2 hb2
    replace hb2 := below_of_regrown hb2
    clear kq_e0 kq_e1 kq_e2 kq_e3 kq_e4 kq_e5 kq_q8 kq_q9
    replace e0 := cell_up hb2 e0
    replace e1 := cell_up hb2 e1
    replace e2 := cell_up hb2 e2
    replace e3 := cell_up hb2 e3
    replace e4 := cell_up hb2 e4
    replace e5 := cell_up hb2 e5
    replace q8 := cell_up hb2 q8
    replace q9 := cell_up hb2 q9
    replace HB := Lib.hid (below_next HB.out hb2)
    clear l1
    go_wp2_with fail
    go_ret
    exact ⟨rfl, HB.out⟩
end
end Go.Proofs.Ytdnjflpmbnjgeaa
