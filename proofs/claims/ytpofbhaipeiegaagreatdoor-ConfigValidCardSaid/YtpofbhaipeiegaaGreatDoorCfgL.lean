/-
  config's parser: value, finish (printed by gen_cfgl.py).
-/
import Derived.Test.YtpofbhaipeiegaaGreatDoorCfgK
namespace Go.Proofs.YtpofbhaipeiegaaGreatDoor
set_option linter.unusedSimpArgs false
set_option linter.unusedVariables false
open Go.RowKit Go.Shelf Go.Sort

def finP (dry dup full : Bool) (ws : List (List UInt8)) : PR Bool :=
  match ws with
  | _ :: _ => .error 3
  | [] => match dry, dup, full with
    | true, _, _ => .ok (false, [])
    | false, true, _ => .error 9
    | false, false, true => .error 6
    | false, false, false => .ok (true, [])
section
variable {pb : Nat} {k : List Value} {A : Option Addr} {cw : Nat} {all : List (List UInt8)} {dry : Bool} {sb : Nat} {sy : SymS} {rest : List (List UInt8)} {W : World}
def inLH (lo hi v : Int) : Bool := decide (lo ≤ v) && decide (v ≤ hi)
theorem valueS_ok {lo hi v : Int} {r : List (List UInt8)} (h : exprS dry sy rest = .ok (v, r)) (hk : dry = true ∨ inLH lo hi v = true) : valueS dry sy lo hi rest = .ok (v, r) := by
  unfold valueS
  rw [h]
  simp only
  rw [if_neg]
  rintro ⟨h1, h2⟩
  rcases hk with hk | hk
  · rw [hk] at h1; cases h1
  · simp [inLH] at hk; exact h2 hk
theorem valueS_no {lo hi v : Int} {r : List (List UInt8)} (h : exprS false sy rest = .ok (v, r)) (hk : inLH lo hi v = false) : valueS false sy lo hi rest = .error 2 := by
  unfold valueS
  rw [h]
  simp only
  rw [if_pos]
  refine ⟨trivial, fun h2 => ?_⟩
  have : inLH lo hi v = true := by simp [inLH]; exact h2
  rw [this] at hk; cases hk
set_option maxHeartbeats 4000000 in
set_option maxRecDepth 100000 in
theorem cfg_value (h : PS pb k A cw all dry sb sy rest W) (hs : ∀ x ∈ sy, inI x.2.2) (lo hi : Int) : Calls Tryz.prog 94 #[.pointer (some ⟨pb, 0, none⟩), .int .i64 lo, .int .i64 hi] W (RetP pb k A cw all dry sb sy encI W (valueS dry sy lo hi rest)) := by
  have HE := Lib.hid (cfg_expr h hs)
  obtain ⟨V, hV⟩ : ∃ V, V = valueS dry sy lo hi rest := ⟨_, rfl⟩
  rw [← hV]
  obtain ⟨U, hU⟩ : ∃ U, U = exprS dry sy rest := ⟨_, rfl⟩
  rw [← hU] at HE
  have HV := Lib.hid hV
  have HU := Lib.hid hU
  clear hV hU h
  cases U with
  | error c =>
    obtain rfl : V = .error c := HV.out.trans (by unfold valueS; rw [← HU.out])
    go_enter Tryz.func94, Tryz.ntmps94
    go_wp2_with (go_at_call 96; (with_reducible refine HE.out.mono ?_); rintro e w1 ⟨rfl, hl1⟩)
    exact ⟨rfl, rfl, hl1⟩
  | ok p =>
    obtain ⟨v, r⟩ := p
    have HW : Hid (∀ w, Calls Tryz.prog 37 #[.int .i64 v, .int .i64 lo, .int .i64 hi] w fun e w' => e = .returned (.bool (inLH lo hi v)) ∧ w = w') := Lib.hid fun w => cfg_within _ _ _ w
    by_cases hk : dry = true ∨ inLH lo hi v = true
    · obtain rfl : V = .ok (v, r) := HV.out.trans (valueS_ok HU.out.symm hk)
      have HK := Lib.hid hk
      clear hk
      go_enter Tryz.func94, Tryz.ntmps94
      go_wp2_with (first | (go_at_call 96; (with_reducible refine HE.out.mono ?_); rintro e w1 ⟨rfl, hp1, hl1⟩; simp only [encI]; have HP1 := Lib.hid hp1; have HL1 := Lib.hid hl1; clear hp1 hl1) | (go_at_call 37; (with_reducible refine (HW.out _).mono ?_); rintro e w2 ⟨rfl, rfl⟩) | (go_at_call 110; (with_reducible refine (cfg_check_ok HP1.out HK.out _).mono ?_); rintro e w2 ⟨rfl, rfl⟩))
      go_ret
      exact ⟨rfl, HP1.out, HL1.out⟩
    · cases dry with
      | true => exact absurd (.inl rfl) hk
      | false =>
        have hf : inLH lo hi v = false := by
          cases h : inLH lo hi v with
          | true => exact absurd (.inr h) hk
          | false => rfl
        obtain rfl : V = .error 2 := HV.out.trans (valueS_no HU.out.symm hf)
        rw [hf] at HW
        clear hk hf
        go_enter Tryz.func94, Tryz.ntmps94
        go_wp2_with (first | (go_at_call 96; (with_reducible refine HE.out.mono ?_); rintro e w1 ⟨rfl, hp1, hl1⟩; simp only [encI]; have HP1 := Lib.hid hp1; have HL1 := Lib.hid hl1; clear hp1 hl1) | (go_at_call 37; (with_reducible refine (HW.out _).mono ?_); rintro e w2 ⟨rfl, rfl⟩) | (go_at_call 110; (with_reducible refine (cfg_check_no HP1.out _).mono ?_); rintro e w2 ⟨rfl, rfl⟩))
        exact ⟨rfl, rfl, HL1.out⟩
set_option maxHeartbeats 4000000 in
set_option maxRecDepth 100000 in
theorem cfg_finish (h : PS pb k A cw all dry sb sy rest W) (dup full : Bool) : Calls Tryz.prog 89 #[.pointer (some ⟨pb, 0, none⟩), .bool dup, .bool full] W (RetP pb k A cw all dry sb sy encB W (finP dry dup full rest)) := by
  obtain ⟨b0, b1, _, _, bf⟩ := h.cells
  have HP := Lib.hid h
  have hal : all.length ≤ 10000 := h.al.1
  cases rest with
  | cons x r =>
    obtain ⟨_, _, _, _, hi, _, _⟩ := h.word
    simp only [List.length_cons] at b1
    generalize all.length - (r.length + 1) = i at *
    have cc : ((i : Int) == (all.length : Int)) = false := by rw [beq_eq_false_iff_ne]; omega
    clear h hi
    go_enter Tryz.func89, Tryz.ntmps89
    go_wp2
    refine wp_region_held_drew (S := (fun w' => w'.cell? ⟨pb, 23, none⟩ = some (.int .i64 (i : Int)) ∧ w'.cell? ⟨pb, 22, none⟩ = some (.slice A all.length cw))) (by kernel_rfl) ?_ (fun hHeld => ?_)
    · exact ⟨b1, b0⟩
    (refine takeL (i := 0) (v := ?_) rfl (by kernel_rfl) (by decide +kernel) (by decide +kernel) (fun _ _ _ h => h) (Or.inl ⟨by rfl, ?_⟩) (by assumption) ?_; rotate_left; (focus (intro w9 hS9; (try dsimp only at hS9); go_simp; (try with_reducible rfl); done)))
    (try simp only [Act.put, List.setIfInBounds_toArray, List.set_cons_zero, List.set_cons_succ])
    (refine takeL (i := 1) (v := ?_) rfl (by kernel_rfl) (by decide +kernel) (by decide +kernel) (fun _ _ _ h => h) (Or.inl ⟨by rfl, ?_⟩) (by assumption) ?_; rotate_left; (focus (intro w9 hS9; (try dsimp only at hS9); go_simp; (try with_reducible rfl); done)))
    (try simp only [Act.put, List.setIfInBounds_toArray, List.set_cons_zero, List.set_cons_succ])
    (refine takeL (i := 2) (v := ?_) rfl (by kernel_rfl) (by decide +kernel) (by decide +kernel) (fun _ _ _ h => h) (Or.inl ⟨by rfl, ?_⟩) (by assumption) ?_; rotate_left; (focus (intro w9 hS9; (try dsimp only at hS9); go_simp; (try with_reducible rfl); done)))
    (try simp only [Act.put, List.setIfInBounds_toArray, List.set_cons_zero, List.set_cons_succ])
    (refine takeL (i := 3) (v := ?_) rfl (by kernel_rfl) (by decide +kernel) (by decide +kernel) (fun _ _ _ h => h) (Or.inl ⟨by rfl, ?_⟩) (by assumption) ?_; rotate_left; (focus (intro w9 hS9; (try dsimp only at hS9); go_simp; (try with_reducible rfl); done)))
    (try simp only [Act.put, List.setIfInBounds_toArray, List.set_cons_zero, List.set_cons_succ])
    (refine takeL (i := 4) (v := ?_) rfl (by kernel_rfl) (by decide +kernel) (by decide +kernel) (fun _ _ _ h => h) (Or.inl ⟨by rfl, ?_⟩) (by assumption) ?_; rotate_left; (focus (intro w9 hS9; (try dsimp only at hS9); go_simp; (try with_reducible rfl); done)))
    (try simp only [Act.put, List.setIfInBounds_toArray, List.set_cons_zero, List.set_cons_succ])
    (refine takeL (i := 5) (v := ?_) rfl (by kernel_rfl) (by decide +kernel) (by decide +kernel) (fun _ _ _ h => h) (Or.inl ⟨by rfl, ?_⟩) (by assumption) ?_; rotate_left; (focus (intro w9 hS9; (try dsimp only at hS9); go_simp; (try with_reducible rfl); done)))
    (try simp only [Act.put, List.setIfInBounds_toArray, List.set_cons_zero, List.set_cons_succ])
    (refine takeL (i := 6) (v := ?_) rfl (by kernel_rfl) (by decide +kernel) (by decide +kernel) (fun _ _ _ h => h) (Or.inl ⟨by rfl, ?_⟩) (by assumption) ?_; rotate_left; (focus (intro w9 hS9; (try dsimp only at hS9); go_simp; (try with_reducible rfl); done)))
    (try simp only [Act.put, List.setIfInBounds_toArray, List.set_cons_zero, List.set_cons_succ])
    (refine takeL (i := 7) (v := ?_) rfl (by kernel_rfl) (by decide +kernel) (by decide +kernel) (fun _ _ _ h => h) (Or.inl ⟨by rfl, ?_⟩) (by assumption) ?_; rotate_left; (focus (intro w9 hS9; (try dsimp only at hS9); go_simp; (try with_reducible rfl); done)))
    (try simp only [Act.put, List.setIfInBounds_toArray, List.set_cons_zero, List.set_cons_succ])
    (refine takeL (i := 8) (v := ?_) rfl (by kernel_rfl) (by decide +kernel) (by decide +kernel) (fun _ _ _ h => h) (Or.inl ⟨by rfl, ?_⟩) (by assumption) ?_; rotate_left; (focus (intro w9 hS9; (try dsimp only at hS9); go_simp; (try with_reducible rfl); done)))
    (try simp only [Act.put, List.setIfInBounds_toArray, List.set_cons_zero, List.set_cons_succ])
    (refine takeL (i := 9) (v := ?_) rfl (by kernel_rfl) (by decide +kernel) (by decide +kernel) (fun _ _ _ h => h) (Or.inl ⟨by rfl, ?_⟩) (by assumption) ?_; rotate_left; (focus (intro w9 hS9; (try dsimp only at hS9); go_simp; (try with_reducible rfl); done)))
    (try simp only [Act.put, List.setIfInBounds_toArray, List.set_cons_zero, List.set_cons_succ])
    (refine takeL (i := 10) (v := ?_) rfl (by kernel_rfl) (by decide +kernel) (by decide +kernel) (fun _ _ _ h => h) (Or.inl ⟨by rfl, ?_⟩) (by assumption) ?_; rotate_left; (focus (intro w9 hS9; (try dsimp only at hS9); go_simp; (try with_reducible rfl); done)))
    (try simp only [Act.put, List.setIfInBounds_toArray, List.set_cons_zero, List.set_cons_succ])
    refine wpAnyH_ready (rs := [11]) (by decide +kernel) (by simp) ?_
    refine consL rfl (fun K hK => ?_) ?_
    · go_simp
      go_at_call 63
      (with_reducible refine (cfg_grammar_no _ _).mono ?_)
      rintro e w5 ⟨rfl, rfl⟩
      exact ⟨rfl, rfl, HP.out.up_lo (below_drw2 _)⟩
    exact AllReadyH.nil
  | nil =>
    simp only [List.length_nil, Nat.sub_zero] at b1
    obtain ⟨i, hie⟩ : ∃ i, i = all.length := ⟨_, rfl⟩
    rw [← hie] at b1
    have cc : ((i : Int) == (all.length : Int)) = true := by rw [hie]; simp
    clear h hie
    go_enter Tryz.func89, Tryz.ntmps89
    go_wp2
    refine wp_region_held_drew (S := (fun w' => w'.cell? ⟨pb, 23, none⟩ = some (.int .i64 (i : Int)) ∧ w'.cell? ⟨pb, 22, none⟩ = some (.slice A all.length cw))) (by kernel_rfl) ?_ (fun hHeld => ?_)
    · exact ⟨b1, b0⟩
    (refine takeL (i := 0) (v := ?_) rfl (by kernel_rfl) (by decide +kernel) (by decide +kernel) (fun _ _ _ h => h) (Or.inl ⟨by rfl, ?_⟩) (by assumption) ?_; rotate_left; (focus (intro w9 hS9; (try dsimp only at hS9); go_simp; (try with_reducible rfl); done)))
    (try simp only [Act.put, List.setIfInBounds_toArray, List.set_cons_zero, List.set_cons_succ])
    (refine takeL (i := 1) (v := ?_) rfl (by kernel_rfl) (by decide +kernel) (by decide +kernel) (fun _ _ _ h => h) (Or.inl ⟨by rfl, ?_⟩) (by assumption) ?_; rotate_left; (focus (intro w9 hS9; (try dsimp only at hS9); go_simp; (try with_reducible rfl); done)))
    (try simp only [Act.put, List.setIfInBounds_toArray, List.set_cons_zero, List.set_cons_succ])
    (refine takeL (i := 2) (v := ?_) rfl (by kernel_rfl) (by decide +kernel) (by decide +kernel) (fun _ _ _ h => h) (Or.inl ⟨by rfl, ?_⟩) (by assumption) ?_; rotate_left; (focus (intro w9 hS9; (try dsimp only at hS9); go_simp; (try with_reducible rfl); done)))
    (try simp only [Act.put, List.setIfInBounds_toArray, List.set_cons_zero, List.set_cons_succ])
    (refine takeL (i := 3) (v := ?_) rfl (by kernel_rfl) (by decide +kernel) (by decide +kernel) (fun _ _ _ h => h) (Or.inl ⟨by rfl, ?_⟩) (by assumption) ?_; rotate_left; (focus (intro w9 hS9; (try dsimp only at hS9); go_simp; (try with_reducible rfl); done)))
    (try simp only [Act.put, List.setIfInBounds_toArray, List.set_cons_zero, List.set_cons_succ])
    (refine takeL (i := 4) (v := ?_) rfl (by kernel_rfl) (by decide +kernel) (by decide +kernel) (fun _ _ _ h => h) (Or.inl ⟨by rfl, ?_⟩) (by assumption) ?_; rotate_left; (focus (intro w9 hS9; (try dsimp only at hS9); go_simp; (try with_reducible rfl); done)))
    (try simp only [Act.put, List.setIfInBounds_toArray, List.set_cons_zero, List.set_cons_succ])
    (refine takeL (i := 5) (v := ?_) rfl (by kernel_rfl) (by decide +kernel) (by decide +kernel) (fun _ _ _ h => h) (Or.inl ⟨by rfl, ?_⟩) (by assumption) ?_; rotate_left; (focus (intro w9 hS9; (try dsimp only at hS9); go_simp; (try with_reducible rfl); done)))
    (try simp only [Act.put, List.setIfInBounds_toArray, List.set_cons_zero, List.set_cons_succ])
    (refine takeL (i := 6) (v := ?_) rfl (by kernel_rfl) (by decide +kernel) (by decide +kernel) (fun _ _ _ h => h) (Or.inl ⟨by rfl, ?_⟩) (by assumption) ?_; rotate_left; (focus (intro w9 hS9; (try dsimp only at hS9); go_simp; (try with_reducible rfl); done)))
    (try simp only [Act.put, List.setIfInBounds_toArray, List.set_cons_zero, List.set_cons_succ])
    (refine takeL (i := 7) (v := ?_) rfl (by kernel_rfl) (by decide +kernel) (by decide +kernel) (fun _ _ _ h => h) (Or.inl ⟨by rfl, ?_⟩) (by assumption) ?_; rotate_left; (focus (intro w9 hS9; (try dsimp only at hS9); go_simp; (try with_reducible rfl); done)))
    (try simp only [Act.put, List.setIfInBounds_toArray, List.set_cons_zero, List.set_cons_succ])
    (refine takeL (i := 8) (v := ?_) rfl (by kernel_rfl) (by decide +kernel) (by decide +kernel) (fun _ _ _ h => h) (Or.inl ⟨by rfl, ?_⟩) (by assumption) ?_; rotate_left; (focus (intro w9 hS9; (try dsimp only at hS9); go_simp; (try with_reducible rfl); done)))
    (try simp only [Act.put, List.setIfInBounds_toArray, List.set_cons_zero, List.set_cons_succ])
    (refine takeL (i := 9) (v := ?_) rfl (by kernel_rfl) (by decide +kernel) (by decide +kernel) (fun _ _ _ h => h) (Or.inl ⟨by rfl, ?_⟩) (by assumption) ?_; rotate_left; (focus (intro w9 hS9; (try dsimp only at hS9); go_simp; (try with_reducible rfl); done)))
    (try simp only [Act.put, List.setIfInBounds_toArray, List.set_cons_zero, List.set_cons_succ])
    (refine takeL (i := 10) (v := ?_) rfl (by kernel_rfl) (by decide +kernel) (by decide +kernel) (fun _ _ _ h => h) (Or.inl ⟨by rfl, ?_⟩) (by assumption) ?_; rotate_left; (focus (intro w9 hS9; (try dsimp only at hS9); go_simp; (try with_reducible rfl); done)))
    (try simp only [Act.put, List.setIfInBounds_toArray, List.set_cons_zero, List.set_cons_succ])
    refine wpAnyH_ready (rs := [11]) (by decide +kernel) (by simp) ?_
    refine consL rfl (fun K hK => ?_) ?_
    · (first | (go_at_call 63; (with_reducible refine (cfg_grammar_ok _ _).mono ?_); rintro e w5 ⟨rfl, rfl⟩) | (go_simp; first | done | (first | (go_at_call 63; (with_reducible refine (cfg_grammar_ok _ _).mono ?_); rintro e w5 ⟨rfl, rfl⟩))) | go_simp)
      (first | (with_reducible refine hK.out _ _ ?_ ?_) | (go_wp2_with fail; refine hK.out _ _ ?_ ?_))
      (focus (exact hHeld))
      clear hK K hHeld
      intro hHeld
      (try simp only [Act.put, List.setIfInBounds_toArray, List.set_cons_zero, List.set_cons_succ])
      refine wpAnyH_done (by decide +kernel) ?_ _
      clear hHeld
      have HP1 := Lib.hid (HP.out.up (below_drw2 W))
      have HL1 := Lib.hid (HP.out.up_lo (below_drw2 W))
      have b24 := HP1.out.cells.2.2.1
      clear b0 b1
      have HC : Hid (∀ (ok : Bool) (c : Int), Calls Tryz.prog 110 #[.pointer (some ⟨pb, 0, none⟩), .bool ok, .int .i64 c] W.drew (RetC dry ok c W.drew)) := Lib.hid fun ok c => cfg_check HP1.out ok c
      cases dry with
      | true =>
        have HC9 := Lib.hid (fun b c => cfg_check_ok HP1.out (ok := b) (.inl rfl) c)
        go_wp2_with (go_at_call 110; (with_reducible refine (HC9.out _ _).mono ?_); rintro e w2 ⟨rfl, rfl⟩)
        go_ret
        exact ⟨rfl, HP1.out, HL1.out⟩
      | false =>
        cases dup with
        | true =>
          go_wp2_with (go_at_call 110; (with_reducible refine (cfg_check_no HP1.out _).mono ?_); rintro e w2 ⟨rfl, rfl⟩)
          exact ⟨rfl, rfl, HL1.out⟩
        | false =>
          cases full with
          | true =>
            go_wp2_with (first | (go_at_call 110; (with_reducible refine (cfg_check_ok HP1.out (ok := true) (.inr rfl) _).mono ?_); rintro e w2 ⟨rfl, rfl⟩) | (go_at_call 110; (with_reducible refine (cfg_check_no HP1.out _).mono ?_); rintro e w2 ⟨rfl, rfl⟩))
            exact ⟨rfl, rfl, HL1.out⟩
          | false =>
            go_wp2_with (go_at_call 110; (with_reducible refine (cfg_check_ok HP1.out (ok := true) (.inr rfl) _).mono ?_); rintro e w2 ⟨rfl, rfl⟩)
            go_ret
            exact ⟨rfl, HP1.out, HL1.out⟩
    exact AllReadyH.nil
end

end Go.Proofs.YtpofbhaipeiegaaGreatDoor
