/-
  config's parser: let (printed by gen_cfgq.py).
-/
import Derived.Test.YtpofbhaipeiegaaGreatDoorCfgP
namespace Go.Proofs.YtpofbhaipeiegaaGreatDoor
set_option linter.unusedSimpArgs false
set_option linter.unusedVariables false
open Go.RowKit Go.Shelf Go.Sort

theorem combine_in {dry : Bool} {least : Nat} : ∀ {ops : List (List UInt8)} {vs : List Int} {os : List (List UInt8)} {us : List Int}, (∀ v ∈ vs, inI v) → combineS dry least ops vs = .ok (os, us) → ∀ v ∈ us, inI v
  | [], vs, os, us, h, e => by
    simp only [combineS] at e
    injection e with e
    injection e with e1 e2
    subst e2
    exact h
  | o :: ops, vs, os, us, h, e => by
    by_cases hr : rankS o < least
    · rw [combineS_stop hr] at e
      injection e with e
      injection e with e1 e2
      subst e2
      exact h
    · by_cases hn : o = oNeg
      · subst hn
        cases vs with
        | nil => rw [combineS.eq_def] at e; simp only [if_neg hr, if_true] at e; cases e
        | cons x r =>
          rw [combineS_neg hr] at e
          exact combine_in (fun v hv => by
            rcases List.mem_cons.1 hv with rfl | hv
            · exact inI_wrap _
            · exact h v (by simp [hv])) e
      · cases vs with
        | nil => rw [combineS.eq_def] at e; simp only [if_neg hr, if_neg hn] at e; cases e
        | cons x r =>
        cases r with
        | nil => rw [combineS.eq_def] at e; simp only [if_neg hr, if_neg hn] at e; cases e
        | cons y r =>
          rw [combineS_bin hr hn] at e
          cases hz : operateS dry o y x with
          | error c => rw [hz] at e; cases e
          | ok z =>
            rw [hz] at e
            exact combine_in (fun v hv => by
              rcases List.mem_cons.1 hv with rfl | hv
              · exact operateS_in hz
              · exact h v (by simp [hv])) e
theorem factor_in {dry : Bool} {sy : SymS} (hs : ∀ x ∈ sy, inI x.2.2) : ∀ {ws ops : List (List UInt8)} {vs : List Int} {os : List (List UInt8)} {us : List Int} {r : List (List UInt8)}, (∀ v ∈ vs, inI v) → factorS dry sy ws ops vs = .ok ((os, us), r) → ∀ v ∈ us, inI v
  | [], _, _, _, _, _, _, e => by cases e
  | w :: t, ops, vs, os, us, r, h, e => by
    simp only [factorS] at e
    split at e
    · exact factor_in hs h e
    · split at e
      · exact factor_in hs h e
      · split at e
        · rename_i hd
          injection e with e
          injection e with e1 e2
          injection e1 with e1 e3
          subst e3
          intro v hv
          rcases List.mem_cons.1 hv with rfl | hv
          · exact (digits_atoi hd).2
          · exact h v hv
        · cases hu : useS dry sy 3 (w :: t) with
          | error c => rw [hu] at e; cases e
          | ok p =>
            obtain ⟨v, r'⟩ := p
            rw [hu] at e
            injection e with e
            injection e with e1 e2
            injection e1 with e1 e3
            subst e3
            intro v' hv
            rcases List.mem_cons.1 hv with rfl | hv
            · exact useS_in hs hu
            · exact h v' hv
theorem close_in {dry : Bool} : ∀ {ws ops : List (List UInt8)} {vs : List Int} {os : List (List UInt8)} {us : List Int} {r : List (List UInt8)}, (∀ v ∈ vs, inI v) → closeS dry ws ops vs = .ok ((os, us), r) → ∀ v ∈ us, inI v
  | [], _, _, _, _, _, h, e => by
    simp only [closeS] at e
    injection e with e
    injection e with e1 e2
    injection e1 with e1 e3
    subst e3
    exact h
  | w :: t, ops, vs, os, us, r, h, e => by
    simp only [closeS] at e
    split at e
    · cases hc : combineS dry 1 ops vs with
      | error c => rw [hc] at e; cases e
      | ok p =>
        obtain ⟨o2, v2⟩ := p
        rw [hc] at e
        exact close_in (combine_in h hc) e
    · injection e with e
      injection e with e1 e2
      injection e1 with e1 e3
      subst e3
      exact h
theorem expr_in {dry : Bool} {sy : SymS} (hs : ∀ x ∈ sy, inI x.2.2) : ∀ {f : Nat} {ws ops : List (List UInt8)} {vs : List Int} {v : Int} {r : List (List UInt8)}, (∀ v ∈ vs, inI v) → exprF dry sy f ws ops vs = .ok (v, r) → inI v
  | 0, _, _, _, _, _, _, e => by cases e
  | f + 1, ws, ops, vs, v, r, h, e => by
    cases h1 : factorS dry sy ws ops vs with
    | error c => rw [exprF_e1 h1] at e; cases e
    | ok p1 =>
      obtain ⟨⟨o1, v1⟩, r1⟩ := p1
      cases h2 : closeS dry r1 o1 v1 with
      | error c => rw [exprF_e2 h1 h2] at e; cases e
      | ok p2 =>
        obtain ⟨⟨o2, v2⟩, r2⟩ := p2
        have i2 := close_in (factor_in hs h h1) h2
        by_cases h3 : rankS (peekS r2) = 0
        · rw [exprF_end h1 h2 h3] at e
          unfold endS at e
          cases h4 : combineS dry 1 o2 v2 with
          | error c => rw [h4] at e; cases e
          | ok p3 =>
            obtain ⟨o3, v3⟩ := p3
            have i3 := combine_in i2 h4
            rw [h4] at e
            simp only at e
            by_cases ho : o3 = []
            · rw [if_pos ho] at e
              injection e with e
              injection e with e _
              subst e
              rw [List.getLastD_eq_getLast?]
              cases h5 : v3.getLast? with
              | none => show inI 0; unfold inI; omega
              | some y => exact i3 y (List.mem_of_getLast? h5)
            · rw [if_neg ho] at e; cases e
        · cases h4 : combineS dry (rankS (peekS r2)) o2 v2 with
          | error c => rw [exprF_e3 h1 h2 h3 h4] at e; cases e
          | ok p3 =>
            obtain ⟨o3, v3⟩ := p3
            rw [exprF_go h1 h2 h3 h4] at e
            exact expr_in hs (combine_in i2 h4) e
theorem exprS_in {dry : Bool} {sy : SymS} {ws r : List (List UInt8)} {v : Int} (hs : ∀ x ∈ sy, inI x.2.2) (e : exprS dry sy ws = .ok (v, r)) : inI v := expr_in hs (fun v h => by cases h) e
theorem nameS_len {ws r : List (List UInt8)} {x : List UInt8} (h : nameS ws = .ok (x, r)) : x.length ≤ 10000 := by
  cases ws with
  | nil => cases h
  | cons w q =>
    simp only [nameS] at h
    split at h
    · rename_i hn
      injection h with h
      injection h with h _
      subst h
      simp only [namedB, Bool.and_eq_true, decide_eq_true_eq] at hn
      omega
    · cases h
def kEq : List UInt8 := [61]
def letS (dry : Bool) (c : Cf) (ws : List (List UInt8)) : Except Int Cf :=
  bindS (nameS ws) fun x r1 => bindS (expectS kEq r1) fun _ r2 => bindS (exprS dry c.sym r2) fun n r3 => effS (finP dry (lookS c.sym x).isSome false r3) c { c with sym := c.sym ++ [(x, (3, n))] }
theorem miss_of {sy : SymS} {x : List UInt8} {dry full : Bool} {ws r : List (List UInt8)} (h : finP dry (lookS sy x).isSome full ws = .ok (true, r)) : lookS sy x = none := Option.not_isSome_iff_eq_none.1 (by rw [(finP_true h).2.1]; decide)
section
variable {B pb sb xb yb : Nat} {r : Rws} {c : Cf} {A : Option Addr} {cw : Nat} {all : List (List UInt8)} {dry : Bool} {rest rest' : List (List UInt8)} {W W' : World}
set_option maxHeartbeats 4000000 in
set_option maxRecDepth 100000 in
theorem cfg_let (h : LS B pb sb xb yb r c A cw all dry rest W) : Calls Tryz.prog 58 #[.pointer (some ⟨pb, 0, none⟩)] W (RetS B pb sb xb yb r c A cw all dry W (letS dry c rest)) := by
  obtain ⟨V, hV⟩ : ∃ V, V = letS dry c rest := ⟨_, rfl⟩
  rw [← hV]
  simp only [letS, kEq] at hV
  have HV := Lib.hid hV
  have H0 := Lib.hid h
  have HP := Lib.hid h.ps
  have HN := Lib.hid (LoN.refl pb W)
  have HSY := Lib.hid h.st.lim.sy
  clear hV h
  go_enter Tryz.func58, Tryz.ntmps58
  go_wp2_with (first | (go_at_call 87; (first | ((with_reducible refine (cfg_name HP.out).mono ?_))); (first | (rintro e w1 hr)); (first | (generalize hU : nameS _ = U at hr HV)); (first | (rcases U with c1 | ⟨x, r1⟩)); (first | (focus (obtain ⟨rfl, hl1⟩ := hr; obtain rfl := HV.out; exact ⟨rfl, rfl, (HN.out.trans hl1)⟩))); (first | (obtain ⟨rfl, hp1, hl1⟩ := hr)); (first | (simp only [encS])); (first | (simp only [bindS] at HV)); (first | (have HXL := Lib.hid (nameS_len hU))); (first | (replace HP := Lib.hid hp1)); (first | (replace HN := Lib.hid (HN.out.trans hl1))); (first | (skip)); (first | (clear hp1 hl1 hU))) | (go_at_call 95; (first | ((with_reducible refine (cfg_expect HP.out _ (by decide)).mono ?_))); (first | (rintro e w1 hr)); (first | (generalize hU : expectS _ _ = U at hr HV)); (first | (rcases U with c1 | ⟨v1, r1⟩)); (first | (focus (obtain ⟨rfl, hl1⟩ := hr; obtain rfl := HV.out; exact ⟨rfl, rfl, (HN.out.trans hl1)⟩))); (first | (obtain ⟨rfl, hp1, hl1⟩ := hr)); (first | (skip)); (first | (simp only [bindS] at HV)); (first | (skip)); (first | (replace HP := Lib.hid hp1)); (first | (replace HN := Lib.hid (HN.out.trans hl1))); (first | (skip)); (first | (clear hp1 hl1 hU))) | (go_at_call 96; (first | ((with_reducible refine (cfg_expr HP.out HSY.out).mono ?_))); (first | (rintro e w1 hr)); (first | (generalize hU : exprS _ _ _ = U at hr HV)); (first | (rcases U with c1 | ⟨n, r1⟩)); (first | (focus (obtain ⟨rfl, hl1⟩ := hr; obtain rfl := HV.out; exact ⟨rfl, rfl, (HN.out.trans hl1)⟩))); (first | (obtain ⟨rfl, hp1, hl1⟩ := hr)); (first | (simp only [encI])); (first | (simp only [bindS] at HV)); (first | (have HVI := Lib.hid (exprS_in HSY.out hU))); (first | (replace HP := Lib.hid hp1)); (first | (replace HN := Lib.hid (HN.out.trans hl1))); (first | (skip)); (first | (clear hp1 hl1 hU))) | (go_at_call 90; (first | ((with_reducible refine (cfg_declared HP.out _ HXL.out).mono ?_))); (first | (rintro e w1 ⟨rfl, hb1⟩)); (first | (replace HN := Lib.hid (HN.out.trans (LoN.below hb1)))); (first | (replace HP := Lib.hid (HP.out.up hb1))); (first | (clear hb1))) | (go_at_call 89; (first | ((with_reducible refine (cfg_finish HP.out _ _).mono ?_))); (first | (rintro e w4 hr)); (first | (generalize hU : finP _ _ _ _ = U at hr HV)); (first | (rcases U with c1 | ⟨eff, r1⟩)); (first | (focus (obtain ⟨rfl, hl1⟩ := hr; obtain rfl := HV.out; exact ⟨rfl, rfl, (HN.out.trans hl1)⟩))); (first | (obtain ⟨rfl, hp1, hl1⟩ := hr)); (first | (simp only [encB])); (first | (replace HP := Lib.hid hp1)); (first | (replace HN := Lib.hid (HN.out.trans hl1))); (first | (clear hp1 hl1)); (first | (cases eff)); (first | (focus (have HDR := Lib.hid (finP_false hU).1; clear hU))); (first | (rotate_left)); (first | ((obtain ⟨w5, hsy, hs5, hm5⟩ := (H0.out.read HP.out HN.out).st.symbol 3 n (miss_of hU) HXL.out HVI.out; have b14 : w4.cell? ⟨pb, 14, none⟩ = some (.map (some sb)) := (H0.out.read HP.out HN.out).st.cell 14 (by decide); have H5 := Lib.hid hs5; have HM5 := Lib.hid hm5; have HDR := Lib.hid (finP_true hU).1; clear hs5 hm5 hU))); (first | (rotate_left))))
  · go_end0
    obtain rfl := HV.out
    exact ⟨rfl, HN.out.toM H0.out.st.sz (by simp), _, _, (H0.out.read HP.out HN.out).st, (fun _ => ⟨rfl, rfl, HN.out⟩), rfl⟩
  · go_end0
    obtain rfl := HV.out
    exact ⟨rfl, (HN.out.toM H0.out.st.sz (by simp)).trans HM5.out, _, _, H5.out, (fun h => by rw [HDR.out] at h; cases h), rfl⟩
end

end Go.Proofs.YtpofbhaipeiegaaGreatDoor
