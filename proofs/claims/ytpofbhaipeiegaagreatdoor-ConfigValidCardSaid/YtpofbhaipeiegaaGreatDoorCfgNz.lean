/-
  slices.Contains of a row of bools.
  What a line's meaning never is: the error 0; and how many prefixes it adds.
-/
import Derived.Test.YtpofbhaipeiegaaGreatDoorCfgT
import Derived.Test.YtpofbhaipeiegaaGreatDoorCfgLn
namespace Go.Proofs.YtpofbhaipeiegaaGreatDoor
set_option linter.unusedSimpArgs false
set_option linter.unusedVariables false
open Go.RowKit Go.Shelf Go.Sort

def idxB : List Bool → Nat → Int
  | [], _ => -1
  | y :: r, k => if y = true then (k : Int) else idxB r (k + 1)
theorem idxB_ge : ∀ (l : List Bool) (k : Nat), decide (idxB l k ≥ 0) = decide (true ∈ l)
  | [], _ => by simp [idxB]
  | true :: r, k => by simp [idxB]
  | false :: r, k => by
    have := idxB_ge r (k + 1)
    rw [idxB, if_neg (by decide), this]
    simp
theorem bools_here {w : World} {A : Option Addr} {xs : List Bool} {k : Nat} (h : Rd w A (xs.map Value.bool)) (hk : k < xs.length) : ∃ b o x, A = some ⟨b, o, none⟩ ∧ xs[k]? = some x ∧ w.cell? ⟨b, o + k, none⟩ = some (.bool x) := by
  obtain ⟨b, o, h1, h2⟩ := h.at_ (k := k) (u := .bool xs[k]) (by simp [List.getElem?_eq_getElem hk])
  exact ⟨b, o, xs[k], h1, List.getElem?_eq_getElem hk, h2⟩
theorem slices_IndexB (A : Option Addr) (cc : Nat) (xs : List Bool) (w : World) (hA : Rd w A (xs.map Value.bool)) (hm : xs.length ≤ 100000) : Calls Tryz.prog 64 #[.slice A xs.length cc, .bool true] w fun e w' => e = .returned (.int .i64 (idxB xs 0)) ∧ w = w' := by
  obtain ⟨V, hV⟩ : ∃ V, V = idxB xs 0 := ⟨_, rfl⟩
  rw [← hV]
  have HV := Lib.hid hV
  have HA := Lib.hid hA
  clear hV hA
  go_enter Tryz.func64, Tryz.ntmps64
  go_wp2
  go_loop [8] (fun i => ∃ k : Nat, k ≤ xs.length ∧ i = .int .i64 k ∧ Hid (V = idxB (xs.drop k) k)) (fun i => xs.length - (intOf i).toNat)
  case atStart => exact ⟨0, Nat.zero_le _, rfl, HV⟩
  case round =>
    clear HV
    obtain ⟨k, hk, rfl, HV⟩ := hrel
    by_cases hlt : k < xs.length
    · have hlt' : (k : Int) < (xs.length : Int) := by omega
      obtain ⟨b, o, y, rfl, hy, q0⟩ := bools_here HA.out hlt
      have hd : xs.drop k = y :: xs.drop (k + 1) := by
        obtain ⟨h1, h2⟩ := List.getElem?_eq_some_iff.1 hy
        rw [List.drop_eq_getElem_cons h1, h2]
      cases y with
      | true =>
        have HR : Hid (V = (k : Int)) := Lib.hid (by rw [HV.out, hd, idxB, if_pos rfl])
        clear hy hd
        go_wp2
        go_ret
        exact ⟨by rw [HR.out]; rfl, rfl⟩
      | false =>
        have HR : Hid (V = idxB (xs.drop (k + 1)) (k + 1)) := Lib.hid (by rw [HV.out, hd, idxB, if_neg (by decide)])
        clear hy hd
        go_wp2
        go_round
        case rel => exact ⟨k + 1, by omega, by go_num, HR⟩
        case measure => simp [intOf]; omega
    · obtain rfl : k = xs.length := by omega
      have HR : Hid (V = -1) := Lib.hid (by rw [HV.out, List.drop_length]; rfl)
      go_wp2
      go_ret
      exact ⟨by rw [HR.out]; rfl, rfl⟩
theorem slices_ContainsB (A : Option Addr) (cc : Nat) (xs : List Bool) (w : World) (hA : Rd w A (xs.map Value.bool)) (hm : xs.length ≤ 100000) : Calls Tryz.prog 27 #[.slice A xs.length cc, .bool true] w fun e w' => e = .returned (.bool (decide (true ∈ xs))) ∧ w = w' := by
  have HI := Lib.hid (slices_IndexB A cc xs w hA hm)
  have h := idxB_ge xs 0
  generalize idxB xs 0 = ii at *
  obtain ⟨b, hb⟩ : ∃ b, b = decide (true ∈ xs) := ⟨_, rfl⟩
  rw [← hb] at h ⊢
  have h2 : decide (0 ≤ ii) = b := h
  clear hb h
  go_enter Tryz.func27, Tryz.ntmps27
  go_wp2_with (go_at_call 64; refine HI.out.mono ?_; rintro e w9 ⟨rfl, rfl⟩)
  go_ret
  exact ⟨rfl, rfl⟩

end Go.Proofs.YtpofbhaipeiegaaGreatDoor
namespace Go.Proofs.YtpofbhaipeiegaaGreatDoor
set_option linter.unusedSimpArgs false
set_option linter.unusedVariables false
open Go.RowKit Go.Shelf Go.Sort

def NZ {α : Type} (U : Except Int α) : Prop := U ≠ .error 0
theorem nz_ok {α : Type} (v : α) : NZ (.ok v : Except Int α) := fun e => by cases e
theorem nz_err {α : Type} {e : Int} (h : e ≠ 0) : NZ (.error e : Except Int α) := fun h2 => by injection h2 with h2; exact h h2
theorem nz_bind {α β : Type} {U : Except Int (α × List (List UInt8))} {f : α → List (List UInt8) → Except Int β} (h : NZ U) (hf : ∀ v r, U = .ok (v, r) → NZ (f v r)) : NZ (bindS U f) := by
  cases U with
  | error e => exact fun h2 => h (by injection h2 with h2; rw [h2])
  | ok p => exact hf p.1 p.2 rfl
theorem nz_small (dry : Bool) (c : Int) : NZ (smallS dry c) := by
  unfold smallS
  split
  · exact nz_err (by decide)
  · exact nz_ok _
theorem nz_operate (dry : Bool) (o : List UInt8) (a b : Int) : NZ (operateS dry o a b) := by
  unfold operateS
  split
  · exact nz_small _ _
  split
  · exact nz_small _ _
  split
  · exact nz_ok _
  split
  · exact nz_err (by decide)
  · exact nz_small _ _
theorem nz_combine {dry : Bool} {least : Nat} (hl : 1 ≤ least) : ∀ {ops : List (List UInt8)} {vs : List Int}, Inv ops vs → NZ (combineS dry least ops vs)
  | [], vs, h => by simp only [combineS]; exact nz_ok _
  | o :: ops, vs, h => by
    by_cases hr : rankS o < least
    · rw [combineS_stop hr]; exact nz_ok _
    · have hno : o ≠ oOpen := fun e => by subst e; rw [rank_open] at hr; omega
      cases vs with
      | nil => exact absurd h.ar (by simp)
      | cons x r =>
      by_cases hn : o = oNeg
      · subst hn
        rw [combineS_neg hr]
        exact nz_combine hl ⟨fun o ho => h.ok o (by simp [ho]), by have := h.ar; simp [binS] at this ⊢; omega⟩
      · have hb : ¬ (o = oNeg ∨ o = oOpen) := fun e => e.elim hn hno
        cases r with
        | nil => exact absurd h.ar (by simp [binS, hb])
        | cons y r =>
        rw [combineS_bin hr hn]
        have hz := nz_operate dry o y x
        cases hzz : operateS dry o y x with
        | error c => rw [hzz] at hz; exact fun e => hz (by injection e with e; rw [e])
        | ok z => exact nz_combine hl ⟨fun o ho => h.ok o (by simp [ho]), by have := h.ar; simp [binS, hb] at this ⊢; omega⟩
theorem nz_useOf (dry : Bool) (kd : Int) (o : Option (Int × Int)) : NZ (useOf dry kd o) := by
  unfold useOf
  split
  · split
    · exact nz_ok _
    · exact nz_err (by decide)
  · split
    · exact nz_ok _
    · exact nz_err (by decide)
theorem nz_use (dry : Bool) (sy : SymS) (kd : Int) (ws : List (List UInt8)) : NZ (useS dry sy kd ws) := by
  cases ws with
  | nil => exact nz_err (by decide)
  | cons w r =>
    simp only [useS]
    split
    · have := nz_useOf dry kd (lookS sy w)
      cases h : useOf dry kd (lookS sy w) with
      | error e => rw [h] at this; exact fun e2 => this (by injection e2 with e2; rw [e2])
      | ok v => exact nz_ok _
    · exact nz_err (by decide)
theorem nz_factor (dry : Bool) (sy : SymS) : ∀ (ws ops : List (List UInt8)) (vs : List Int), NZ (factorS dry sy ws ops vs)
  | [], _, _ => nz_err (by decide)
  | w :: t, ops, vs => by
    simp only [factorS]
    split
    · exact nz_factor dry sy t _ _
    split
    · exact nz_factor dry sy t _ _
    split
    · exact nz_ok _
    · have := nz_use dry sy 3 (w :: t)
      cases h : useS dry sy 3 (w :: t) with
      | error e => rw [h] at this; exact fun e2 => this (by injection e2 with e2; rw [e2])
      | ok p => exact nz_ok _
theorem close_nz {dry : Bool} : ∀ (ws : List (List UInt8)) {ops : List (List UInt8)} {vs : List Int}, Inv ops vs → NZ (closeS dry ws ops vs) ∧ ∀ o2 v2 r2, closeS dry ws ops vs = .ok ((o2, v2), r2) → Inv o2 v2 ∧ r2.length ≤ ws.length
  | [], ops, vs, h => ⟨nz_ok _, fun o2 v2 r2 e => by
    injection e with e
    injection e with e1 e2
    injection e1 with e1 e3
    subst e1 e2 e3
    exact ⟨h, Nat.le_refl _⟩⟩
  | w :: r, ops, vs, h => by
    by_cases hc : openS ops = true ∧ w = oClose
    · obtain ⟨ho, rfl⟩ := hc
      rw [closeS_yes ho]
      have hz := nz_combine (dry := dry) (Nat.le_refl 1) h
      cases hcb : combineS dry 1 ops vs with
      | error e => rw [hcb] at hz; exact ⟨fun e2 => hz (by injection e2 with e2; rw [e2]), fun _ _ _ e2 => by cases e2⟩
      | ok p =>
        obtain ⟨os, us⟩ := p
        obtain ⟨q1, q2, q3, q4, q5⟩ := combine_inv (Nat.le_refl 1) h hcb
        obtain ⟨t, rfl⟩ := open_head q1 (q4.trans ho) q5
        obtain ⟨a, b⟩ := close_nz (dry := dry) r (q1.tail)
        refine ⟨a, fun o2 v2 r2 e => ?_⟩
        obtain ⟨b1, b2⟩ := b o2 v2 r2 e
        exact ⟨b1, by simp; omega⟩
    · have e0 : closeS dry (w :: r) ops vs = .ok ((ops, vs), w :: r) := by simp only [closeS]; rw [if_neg hc]
      rw [e0]
      refine ⟨nz_ok _, fun o2 v2 r2 e => ?_⟩
      injection e with e
      injection e with e1 e2
      injection e1 with e1 e3
      subst e1 e2 e3
      exact ⟨h, Nat.le_refl _⟩
theorem nz_expr (dry : Bool) (sy : SymS) : ∀ (f : Nat) (ws ops : List (List UInt8)) (vs : List Int), ws.length < f → (∀ o ∈ ops, opOk o) → binS ops ≤ vs.length → NZ (exprF dry sy f ws ops vs)
  | 0, ws, _, _, h, _, _ => absurd h (by omega)
  | f + 1, ws, ops, vs, hw, ho, hb => by
    have z1 := nz_factor dry sy ws ops vs
    cases h1 : factorS dry sy ws ops vs with
    | error e => rw [exprF_e1 h1]; rw [h1] at z1; exact fun e2 => z1 (by injection e2 with e2; rw [e2])
    | ok p =>
      obtain ⟨⟨o1, v1⟩, r1⟩ := p
      obtain ⟨a1, a2, a3, a4, a5⟩ := factor_inv ho h1
      have hi : Inv o1 v1 := ⟨a1, by omega⟩
      obtain ⟨z2, hc⟩ := close_nz (dry := dry) r1 hi
      cases h2 : closeS dry r1 o1 v1 with
      | error e => rw [exprF_e2 h1 h2]; rw [h2] at z2; exact fun e2 => z2 (by injection e2 with e2; rw [e2])
      | ok p =>
        obtain ⟨⟨o2, v2⟩, r2⟩ := p
        obtain ⟨hi2, hl2⟩ := hc o2 v2 r2 h2
        by_cases h3 : rankS (peekS r2) = 0
        · rw [exprF_end h1 h2 h3]
          have z3 : NZ (endS dry o2 v2) := by
            unfold endS
            have := nz_combine (dry := dry) (Nat.le_refl 1) hi2
            cases hcb : combineS dry 1 o2 v2 with
            | error e => rw [hcb] at this; exact fun e2 => this (by injection e2 with e2; rw [e2])
            | ok p =>
              simp only
              split
              · exact nz_ok _
              · exact nz_err (by decide)
          cases h4 : endS dry o2 v2 with
          | error e => rw [h4] at z3; exact fun e2 => z3 (by injection e2 with e2; rw [e2])
          | ok v => exact nz_ok _
        · have hr1 : 1 ≤ rankS (peekS r2) := by omega
          have z4 := nz_combine (dry := dry) hr1 hi2
          cases h4 : combineS dry (rankS (peekS r2)) o2 v2 with
          | error e => rw [exprF_e3 h1 h2 h3 h4]; rw [h4] at z4; exact fun e2 => z4 (by injection e2 with e2; rw [e2])
          | ok p =>
            obtain ⟨o3, v3⟩ := p
            rw [exprF_go h1 h2 h3 h4]
            obtain ⟨q1, q2, q3, q4, q5⟩ := combine_inv hr1 hi2 h4
            refine nz_expr dry sy f _ _ _ ?_ ?_ ?_
            · cases r2 with
              | nil => exact absurd (by rfl : rankS (peekS []) = 0) h3
              | cons a b => simp at hl2 ⊢; omega
            · intro o ho2
              rcases List.mem_cons.1 ho2 with rfl | ho2
              · exact .inr hr1
              · exact q1.ok o ho2
            · have := q1.ar
              simp only [binS]
              split <;> omega
theorem nz_exprS (dry : Bool) (sy : SymS) (ws : List (List UInt8)) : NZ (exprS dry sy ws) := nz_expr dry sy _ ws [] [] (by omega) (by simp) (by simp [binS])
theorem nz_value (dry : Bool) (sy : SymS) (lo hi : Int) (ws : List (List UInt8)) : NZ (valueS dry sy lo hi ws) := by
  unfold valueS
  have := nz_exprS dry sy ws
  cases h : exprS dry sy ws with
  | error e => rw [h] at this; exact fun e2 => this (by injection e2 with e2; rw [e2])
  | ok p =>
    obtain ⟨v, r⟩ := p
    simp only
    split
    · exact nz_err (by decide)
    · exact nz_ok _
theorem nz_next (ws : List (List UInt8)) : NZ (nextS ws) := by cases ws <;> first | exact nz_err (by decide) | exact nz_ok _
theorem nz_expect (w : List UInt8) (ws : List (List UInt8)) : NZ (expectS w ws) := by
  cases ws with
  | nil => exact nz_err (by decide)
  | cons x r =>
    simp only [expectS]
    split
    · exact nz_ok _
    · exact nz_err (by decide)
theorem nz_name (ws : List (List UInt8)) : NZ (nameS ws) := by
  cases ws with
  | nil => exact nz_err (by decide)
  | cons x r =>
    simp only [nameS]
    split
    · exact nz_ok _
    · exact nz_err (by decide)
theorem nz_fin (dry dup full : Bool) (ws : List (List UInt8)) : NZ (finP dry dup full ws) := by
  cases ws with
  | cons _ _ => exact nz_err (by decide)
  | nil => cases dry <;> cases dup <;> cases full <;> first | exact nz_ok _ | exact nz_err (by decide)
theorem nz_eff {U : PR Bool} (h : NZ U) (c c' : Cf) : NZ (effS U c c') := by
  unfold effS
  split
  · rename_i e; exact fun e2 => h (by injection e2 with e2; rw [e2])
  · exact nz_ok _
  · exact nz_ok _
theorem nz_ends (dry : Bool) (sy : SymS) (ws : List (List UInt8)) : NZ (endsS dry sy ws) := by
  unfold endsS
  refine nz_bind (nz_expect _ _) fun _ r1 _ => nz_bind (nz_use _ _ _ _) fun a r2 _ => nz_bind (nz_expect _ _) fun _ r3 _ => nz_bind (nz_use _ _ _ _) fun b r4 _ => ?_
  unfold chkS
  split
  · exact nz_err (by decide)
  · exact nz_ok _
theorem nz_opts (dry : Bool) (sy : SymS) : ∀ (f : Nat) (seen : List (List UInt8)) (l : Lnk) (ws : List (List UInt8)), ws.length < f → NZ (optsS dry sy f seen l ws)
  | 0, _, _, ws, h => absurd h (by omega)
  | f + 1, seen, l, [], h => nz_ok _
  | f + 1, seen, l, w :: r, h => by
    simp only [List.length_cons] at h
    rw [optsS]
    split
    · exact nz_err (by decide)
    split
    · refine nz_bind (nz_value _ _ _ _ _) fun v q hq => ?_
      have l1 := valueS_len hq
      cases ha : acceptS kBack q with
      | mk o q2 =>
        have l2 := accept_len ha
        cases o with
        | true =>
          refine nz_bind (nz_value _ _ _ _ _) fun u q3 hq3 => ?_
          have l3 := valueS_len hq3
          exact nz_opts dry sy f _ _ _ (by omega)
        | false => exact nz_opts dry sy f _ _ _ (by omega)
    split
    · refine nz_bind (nz_value _ _ _ _ _) fun v q hq => ?_
      have l1 := valueS_len hq
      exact nz_opts dry sy f _ _ _ (by omega)
    split
    · refine nz_bind (nz_value _ _ _ _ _) fun v q hq => ?_
      have l1 := valueS_len hq
      exact nz_opts dry sy f _ _ _ (by omega)
    split
    · refine nz_bind (nz_value _ _ _ _ _) fun v q hq => ?_
      have l1 := valueS_len hq
      exact nz_opts dry sy f _ _ _ (by omega)
    · exact nz_err (by decide)
theorem nz_seg (dry : Bool) (sy : SymS) (ws : List (List UInt8)) : NZ (segS dry sy ws) := by
  unfold segS
  split
  · exact nz_bind (nz_value _ _ _ _ _) fun _ _ _ => nz_ok _
  · split
    · exact nz_bind (nz_value _ _ _ _ _) fun _ _ _ => nz_ok _
    · split
      · exact nz_bind (nz_use _ _ _ _) fun _ _ _ => nz_bind (nz_next _) fun _ _ _ => nz_ok _
      · exact nz_bind (nz_use _ _ _ _) fun _ _ _ => nz_ok _
theorem nz_segs (dry : Bool) (sy : SymS) : ∀ (f : Nat) (l : List (Int × Int)) (ws : List (List UInt8)), ws.length < f → NZ (segsS dry sy f l ws)
  | 0, _, ws, h => absurd h (by omega)
  | f + 1, l, [], h => nz_ok _
  | f + 1, l, w :: r, h => by
    rw [segsS]
    refine nz_bind (nz_seg _ _ _) fun g q hq => ?_
    have := seg_len hq
    simp only [List.length_cons] at h this
    exact nz_segs dry sy f _ _ (by omega)
theorem lineS_ne0 {dry : Bool} {c : Cf} {ws : List (List UInt8)} (h : lineS dry c ws = .error 0) : False := by
  suffices H : NZ (lineS dry c ws) from H h
  cases ws with
  | nil => exact nz_err (by decide)
  | cons w r =>
    rw [lineS]
    split
    · unfold nodeS
      have := nz_name r
      cases hn : nameS r with
      | error e => rw [hn] at this; exact fun e2 => this (by injection e2 with e2; rw [e2])
      | ok p => exact nz_eff (nz_fin _ _ _ _) _ _
    split
    · exact nz_bind (nz_name _) fun _ _ _ => nz_bind (nz_ends _ _ _) fun _ r2 _ => nz_bind (nz_opts _ _ _ _ _ _ (by omega)) fun _ _ _ => nz_eff (nz_fin _ _ _ _) _ _
    split
    · exact nz_bind (nz_name _) fun _ _ _ => nz_bind (nz_expect _ _) fun _ _ _ => nz_bind (nz_exprS _ _ _) fun _ _ _ => nz_eff (nz_fin _ _ _ _) _ _
    split
    · refine nz_bind (nz_next _) fun v r1 _ => ?_
      split
      · exact nz_err (by decide)
      · exact nz_bind (nz_expect _ _) fun _ _ _ => nz_bind (nz_use _ _ _ _) fun _ _ _ => nz_eff (nz_fin _ _ _ _) _ _
    split
    · exact nz_bind (nz_use _ _ _ _) fun _ _ _ => nz_bind (nz_value _ _ _ _ _) fun _ _ _ => nz_bind (nz_expect _ _) fun _ r3 _ => nz_bind (nz_segs _ _ _ _ _ (by omega)) fun _ _ _ => nz_eff (nz_fin _ _ _ _) _ _
    split
    · refine nz_bind (nz_ends _ _ _) fun _ _ _ => nz_bind (nz_expect _ _) fun _ _ _ => nz_bind (nz_value _ _ _ _ _) fun _ _ _ => nz_bind ?_ fun _ _ _ => nz_eff (nz_fin _ _ _ _) _ _
      unfold prioS
      split
      · exact nz_value _ _ _ _ _
      · exact nz_ok _
    split
    · refine nz_bind (nz_next _) fun v r1 _ => ?_
      unfold timerB
      split
      · exact nz_err (by decide)
      · exact nz_bind (nz_expect _ _) fun _ _ _ => nz_bind (nz_value _ _ _ _ _) fun _ _ _ => nz_eff (nz_fin _ _ _ _) _ _
    · exact nz_err (by decide)
theorem bind_ok {α β : Type} {U : Except Int (α × List (List UInt8))} {f : α → List (List UInt8) → Except Int β} {y : β} (h : bindS U f = .ok y) : ∃ v r, U = .ok (v, r) ∧ f v r = .ok y := by
  cases U with
  | error e => cases h
  | ok p => exact ⟨p.1, p.2, rfl, h⟩
theorem eff_or {U : PR Bool} {c c' x : Cf} (h : effS U c c' = .ok x) : x = c ∨ x = c' := by
  unfold effS at h
  split at h
  · cases h
  · injection h with h; exact .inl h.symm
  · injection h with h; exact .inr h.symm
theorem lineS_pfx {dry : Bool} {c c' : Cf} {ws : List (List UInt8)} (h : lineS dry c ws = .ok c') : c'.pfx.length ≤ c.pfx.length + 1 := by
  cases ws with
  | nil => cases h
  | cons w r =>
    rw [lineS] at h
    split at h
    · unfold nodeS at h
      split at h
      · cases h
      · rcases eff_or h with rfl | rfl <;> simp
    split at h
    · obtain ⟨_, _, _, h⟩ := bind_ok h
      obtain ⟨_, _, _, h⟩ := bind_ok h
      obtain ⟨_, _, _, h⟩ := bind_ok h
      rcases eff_or h with rfl | rfl <;> simp
    split at h
    · obtain ⟨_, _, _, h⟩ := bind_ok h
      obtain ⟨_, _, _, h⟩ := bind_ok h
      obtain ⟨_, _, _, h⟩ := bind_ok h
      rcases eff_or h with rfl | rfl <;> simp
    split at h
    · obtain ⟨_, _, _, h⟩ := bind_ok h
      split at h
      · cases h
      · obtain ⟨_, _, _, h⟩ := bind_ok h
        obtain ⟨_, _, _, h⟩ := bind_ok h
        rcases eff_or h with rfl | rfl <;> simp
    split at h
    · obtain ⟨_, _, _, h⟩ := bind_ok h
      obtain ⟨_, _, _, h⟩ := bind_ok h
      obtain ⟨_, _, _, h⟩ := bind_ok h
      obtain ⟨_, _, _, h⟩ := bind_ok h
      rcases eff_or h with rfl | rfl <;> simp
    split at h
    · obtain ⟨_, _, _, h⟩ := bind_ok h
      obtain ⟨_, _, _, h⟩ := bind_ok h
      obtain ⟨_, _, _, h⟩ := bind_ok h
      obtain ⟨_, _, _, h⟩ := bind_ok h
      rcases eff_or h with rfl | rfl <;> simp
    split at h
    · obtain ⟨_, _, _, h⟩ := bind_ok h
      unfold timerB at h
      split at h
      · cases h
      · obtain ⟨_, _, _, h⟩ := bind_ok h
        obtain ⟨_, _, _, h⟩ := bind_ok h
        rcases eff_or h with rfl | rfl <;> simp
    · cases h

end Go.Proofs.YtpofbhaipeiegaaGreatDoor
