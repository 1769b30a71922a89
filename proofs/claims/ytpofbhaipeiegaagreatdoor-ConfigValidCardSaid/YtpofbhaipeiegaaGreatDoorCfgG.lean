/-
  config's parser: open, combine.
-/
import Derived.Test.YtpofbhaipeiegaaGreatDoorCfgF
import Derived.StillTailTactics
import Derived.Test.YtpofbhaipeiegaaGreatDoorReg
namespace Go.Proofs.YtpofbhaipeiegaaGreatDoor
set_option linter.unusedSimpArgs false
set_option linter.unusedVariables false
open Go.RowKit Go.Shelf Go.Sort

theorem SK.oat {stb : Nat} {ops : List (List UInt8)} {vs : List Int} {Av Ao : Option Addr} {cv co i : Nat} {W : World} {x : List UInt8} (h : SK stb ops vs Av cv Ao co W) (hx : ops.reverse[i]? = some x) : ∃ g, Ao = some ⟨g, 0, none⟩ ∧ W.cell? ⟨g, i, none⟩ = some (.string ⟨x.toArray⟩) ∧ i < ops.length := by
  have hi : i < ops.length := by have := (List.getElem?_eq_some_iff.1 hx).1; simpa using this
  obtain ⟨n, hn⟩ : ∃ n, ops.length = n + 1 := ⟨ops.length - 1, by omega⟩
  have ho := h.ho
  rw [hn] at ho
  obtain ⟨g, rfl, h1, h2, h3⟩ := own_form ho
  refine ⟨g, rfl, (h.ho.cellAt i (by omega)).trans ?_, hi⟩
  rw [List.getElem?_map, hx]; rfl
theorem SK.vtop_cell {stb g : Nat} {ops : List (List UInt8)} {x : Int} {vs : List Int} {Ao : Option Addr} {cv co : Nat} {W : World} (h : SK stb ops (x :: vs) (some ⟨g, 0, none⟩) cv Ao co W) : W.cell? ⟨g, vs.length, none⟩ = some (.int .i64 x) := by
  obtain ⟨g', e, _, _, h1, _⟩ := h.vtop
  injection e with e
  injection e with e
  subst e
  exact h1
theorem wp_region_still_tailD {P : Program} {id : Nat} {Q : Exit → Act → World → Prop} {a : Act} {w : World} {l : List Oper} (n : Nat) (hm : P.follows .mixedOrders = true) (hB : Region.lexTailB .any l.toArray n = true)
    (h : wpStill P l.toArray w.drew (fun a' => wpList P l.toArray Q (l.drop n) a' w.drew) (l.take n) a) : (Code.region id l.toArray true).wp P Q a w := wp_region_still_tail n hm hB h
theorem SK.drew {stb : Nat} {ops : List (List UInt8)} {vs : List Int} {Av Ao : Option Addr} {cv co : Nat} {W : World} (h : SK stb ops vs Av cv Ao co W) : SK stb ops vs Av cv Ao co W.drew := h.keep fun _ _ _ => rfl
set_option maxHeartbeats 4000000 in
theorem cfg_open {stb : Nat} {ops : List (List UInt8)} {vs : List Int} {Av Ao : Option Addr} {cv co : Nat} {W : World} (h : SK stb ops vs Av cv Ao co W) (hm : ops.length ≤ 100000) : Calls Tryz.prog 112 #[.pointer (some ⟨stb, 0, none⟩)] W fun e w' => e = .returned (.bool (openS ops)) ∧ W = w' := by
  obtain ⟨V, hV⟩ : ∃ V, V = openS ops := ⟨_, rfl⟩
  rw [← hV]
  have HV := Lib.hid hV
  obtain ⟨b0, b1, bf⟩ := h.cells
  have HS := Lib.hid h
  clear hV h
  go_enter Tryz.func112, Tryz.ntmps112
  go_wp2
  go_loop [3] (fun i => ∃ k : Nat, k ≤ ops.length ∧ i = .int .i64 ((k : Int) - 1) ∧ Hid (∀ j, k ≤ j → ops.reverse[j]? ≠ some oOpen)) (fun i => (intOf i + 1).toNat)
  case atStart => exact ⟨ops.length, Nat.le_refl _, rfl, Lib.hid (fun j hj e => by have := (List.getElem?_eq_some_iff.1 e).1; simp at this; omega)⟩
  case round =>
    obtain ⟨k, hk, rfl, HJ⟩ := hrel
    by_cases h0 : k = 0
    · subst h0
      have HF : Hid (V = false) := Lib.hid (by
        rw [HV.out]
        simp only [openS, decide_eq_false_iff_not]
        intro hm
        obtain ⟨j, hj, e⟩ := List.mem_iff_getElem.1 (List.mem_reverse.2 hm)
        exact HJ.out j (Nat.zero_le _) (by rw [List.getElem?_eq_getElem hj, e]))
      clear HJ
      go_wp2
      go_ret
      exact ⟨by rw [HF.out]; rfl, rfl⟩
    · obtain ⟨i, rfl⟩ : ∃ i, k = i + 1 := ⟨k - 1, by omega⟩
      have hi : i < ops.reverse.length := by simp; omega
      obtain ⟨x, hx⟩ : ∃ x, ops.reverse[i]? = some x := ⟨_, List.getElem?_eq_getElem hi⟩
      obtain ⟨g, rfl, q0, q1⟩ := HS.out.oat hx
      have HX := Lib.hid hx
      have q2 : (i : Int) < (ops.length : Int) := by omega
      have e1 : ((i + 1 : Nat) : Int) - 1 = (i : Int) := by omega
      rw [e1]
      clear hx hi h0 e1
      cases hp : (x == [40]) with
      | true =>
        have hp' : x = [40] := by simpa using hp
        subst hp'
        have HF : Hid (V = true) := Lib.hid (by rw [HV.out]; simp only [openS, decide_eq_true_eq]; exact List.mem_reverse.1 (List.mem_of_getElem? HX.out))
        clear HJ
        go_wp2
        go_ret
        exact ⟨by rw [HF.out]; rfl, rfl⟩
      | false =>
        have HJ' : Hid (∀ j, i ≤ j → ops.reverse[j]? ≠ some oOpen) := Lib.hid (by
          intro j hj
          by_cases e : j = i
          · subst e
            rw [HX.out]
            intro e
            injection e with e
            subst e
            cases hp
          · exact HJ.out j (by omega))
        clear HJ
        go_wp2
        go_round
        case rel => exact ⟨i, by omega, rfl, HJ'⟩
        case measure => simp [intOf]

def binS : List (List UInt8) → Nat
  | [] => 0
  | o :: os => (if o = oNeg ∨ o = oOpen then 0 else 1) + binS os
theorem operateS_in {dry : Bool} {o : List UInt8} {a b z : Int} (h : operateS dry o a b = .ok z) : inI z := by
  have hs : ∀ c, smallS dry (wrap64 c) = .ok z → inI z := fun c h => by
    unfold smallS at h
    split at h
    · cases h
    · injection h with h; rw [← h]; exact inI_wrap c
  unfold operateS at h
  split at h
  · exact hs _ h
  split at h
  · exact hs _ h
  split at h
  · injection h with h; subst h; unfold inI; omega
  split at h
  · cases h
  · exact hs _ h
theorem combineS_stop {dry : Bool} {least : Nat} {o : List UInt8} {os : List (List UInt8)} {vs : List Int} (h : rankS o < least) : combineS dry least (o :: os) vs = .ok (o :: os, vs) := by
  rw [combineS.eq_def]
  simp only [if_pos h]
theorem combineS_neg {dry : Bool} {least : Nat} {os : List (List UInt8)} {x : Int} {r : List Int} (h : ¬ rankS oNeg < least) : combineS dry least (oNeg :: os) (x :: r) = combineS dry least os (wrap64 (-x) :: r) := by
  rw [combineS.eq_def]
  simp only [if_neg h, if_true]
theorem combineS_bin {dry : Bool} {least : Nat} {o : List UInt8} {os : List (List UInt8)} {x y : Int} {r : List Int} (h : ¬ rankS o < least) (hn : o ≠ oNeg) : combineS dry least (o :: os) (y :: x :: r) = (match operateS dry o x y with | .ok z => combineS dry least os (z :: r) | .error e => .error e) := by
  rw [combineS.eq_def]
  simp only [if_neg h, if_neg hn]
  cases operateS dry o x y <;> rfl
def RetCmb (stb : Nat) (r : Except Int (List (List UInt8) × List Int)) (W : World) (e : Ending) (W' : World) : Prop :=
  match r with
  | .ok (os, vs) => e = .returned (.tuple #[]) ∧ LoP stb [] W W' ∧ ∃ Av cv Ao co, SK stb os vs Av cv Ao co W'
  | .error c => e = .panicked [{ v := .iface 38 (.int .i64 c), recovered := false }] ∧ LoP stb [] W W'
section
variable {stb pb : Nat} {k : List Value} {A : Option Addr} {cw : Nat} {all : List (List UInt8)} {dry : Bool} {sb : Nat} {sy : SymS} {rest : List (List UInt8)} {W : World}
set_option maxHeartbeats 8000000 in
set_option maxRecDepth 100000 in
theorem cfg_combine {ops : List (List UInt8)} {vs : List Int} {Av Ao : Option Addr} {cv co : Nat} (hp : PS pb k A cw all dry sb sy rest W) (hB : PB stb pb A sb) (h : SK stb ops vs Av cv Ao co W) {least : Nat} (hl : 1 ≤ least) (ho : ops.length ≤ 100000) (hv : vs.length ≤ 100000) (hbin : binS ops + 1 ≤ vs.length) :
    Calls Tryz.prog 113 #[.pointer (some ⟨pb, 0, none⟩), .pointer (some ⟨stb, 0, none⟩), .int .i64 (least : Int)] W (RetCmb stb (combineS dry least ops vs) W) := by
  obtain ⟨V, hV⟩ : ∃ V, V = combineS dry least ops vs := ⟨_, rfl⟩
  rw [← hV]
  have HV := Lib.hid hV
  have HS := Lib.hid h
  have HP := Lib.hid hp
  have HB := Lib.hid hB
  have HN := Lib.hid (And.intro hl (And.intro ho (And.intro hv hbin)))
  obtain ⟨b0, b1, bf⟩ := h.cells
  clear hV h hp hB hl ho hv hbin
  go_enter Tryz.func113, Tryz.ntmps113
  go_wp2
  go_loopw [] (fun wr => ∃ (os : List (List UInt8)) (us : List Int) (Av1 : Option Addr) (cv1 : Nat) (Ao1 : Option Addr) (co1 : Nat), Hid (SK stb os us Av1 cv1 Ao1 co1 wr) ∧ Hid (LoP stb [] W wr) ∧ Hid (V = combineS dry least os us) ∧ Hid (os.length ≤ 100000 ∧ us.length ≤ 100000 ∧ binS os + 1 ≤ us.length)) (fun wr => opLen stb wr)
  case atStart => exact ⟨_, _, _, _, _, _, HS, Lib.hid (LoP.refl _ _ _), HV, Lib.hid HN.out.2⟩
  case round =>
    clear HS HV b0 b1 bf
    obtain ⟨os, us, Av1, cv1, Ao1, co1, HS, HL, HV, HM⟩ := hrel
    obtain ⟨b0, b1, bf⟩ := HS.out.cells
    have hol : os.length ≤ 100000 := HM.out.1
    have hul : us.length ≤ 100000 := HM.out.2.1
    cases os with
    | nil =>
      have HR : Hid (V = .ok ([], us)) := Lib.hid HV.out
      go_wp2
      go_end0
      rw [HR.out]
      exact ⟨rfl, HL.out, _, _, _, _, HS.out⟩
    | cons o os =>
      obtain ⟨go, rfl, c0, gne, q0⟩ := HS.out.otop
      simp only [List.length_cons] at b1 hol
      have hoi : ((os.length + 1 : Nat) : Int) - 1 = (os.length : Int) := by omega
      by_cases hr : rankS o < least
      · have HR : Hid (V = .ok (o :: os, us)) := Lib.hid (by rw [HV.out, combineS_stop hr])
        have hri : (rankS o : Int) < (least : Int) := by omega
        clear hr HM HV
        go_wp2_with (go_at_call 114; refine (cfg_rank _ _).mono ?_; rintro e w2 ⟨rfl, rfl⟩)
        go_end0
        rw [HR.out]
        exact ⟨rfl, HL.out, _, _, _, _, HS.out⟩
      · have hri : ¬ (rankS o : Int) < (least : Int) := by omega
        cases us with
        | nil => exact absurd HM.out.2.2 (by simp)
        | cons x r =>
        obtain ⟨gv, rfl, c1, gvne, q1, qf, hxI⟩ := HS.out.vtop
        have gvo : gv ≠ go := fun e => HS.out.ne gv rfl (by rw [e]; rfl)
        simp only [List.length_cons] at b0 hul
        have hvi : ((r.length + 1 : Nat) : Int) - 1 = (r.length : Int) := by omega
        have HXI := Lib.hid hxI
        have HRR := Lib.hid hr
        clear hxI hr
        by_cases hng : o = oNeg
        · subst hng
          have HR : Hid (V = combineS dry least os (wrap64 (-x) :: r)) := Lib.hid (by rw [HV.out, combineS_neg HRR.out])
          have HM' : Hid (os.length ≤ 100000 ∧ (wrap64 (-x) :: r).length ≤ 100000 ∧ binS os + 1 ≤ (wrap64 (-x) :: r).length) := Lib.hid (by
            have := HM.out
            simp [binS] at this ⊢
            omega)
          have H1 := Lib.hid HS.out.opop
          have H2 := Lib.hid (H1.out.vset (inI_wrap (-x)))
          have HL2 := Lib.hid ((HL.out.trans (HS.out.lo1 1 (.slice (some ⟨go, 0, none⟩) os.length co1))).trans (H1.out.lo2 (j := r.length) (.int .i64 (wrap64 (-x)))))
          clear HM HV HS HL
          go_wp2_with (go_at_call 114; refine (cfg_rank _ _).mono ?_; rintro e w2 ⟨rfl, rfl⟩)
          go_roundw
          case rel => exact ⟨_, _, _, _, _, _, H2, HL2, HR, HM'⟩
          case measure =>
            rw [opLen_of H2.out.cells.2.1, opLen_of b1]
            omega
        · cases r with
          | nil => exact absurd HM.out.2.2 (by have := HRR.out; have hb : ¬ (o = oNeg ∨ o = oOpen) := (fun e => by rcases e with e | e; exact hng e; subst e; have := HN.out.1; have e2 : rankS oOpen = 0 := rfl; omega); simp [binS, hb])
          | cons y r =>
          have q2 := HS.out.vtop2
          have ngb : (o == [110, 101, 103, 97, 116, 105, 111, 110]) = false := by simpa [oNeg] using hng
          have hyI : Hid (inI y) := Lib.hid (HS.out.vb y (by simp))
          have HOB : Hid (o ≠ oOpen) := Lib.hid (fun e => by subst e; have := HN.out.1; have e2 : rankS oOpen = 0 := rfl; have := HRR.out; omega)
          have HNG := Lib.hid hng
          have H1 := Lib.hid HS.out.opop
          have H2 := Lib.hid H1.out.vpop
          have HL2 := Lib.hid ((HL.out.trans (HS.out.lo1 1 (.slice (some ⟨go, 0, none⟩) os.length co1))).trans (H1.out.lo1 0 (.slice (some ⟨gv, 0, none⟩) (y :: r).length cv1)))
          have HP2 := Lib.hid (HP.out.onB HB.out HL2.out)
          have hri2 : ((r.length + 1 : Nat) : Int) - 1 = (r.length : Int) := by omega
          simp only [List.length_cons] at b0 hul q1 c1 hvi
          have HOP := Lib.hid (fun w (h : PS pb k A cw all dry sb sy rest w) => cfg_operate h o y x hyI.out HXI.out)
          obtain ⟨U, hU⟩ : ∃ U, U = operateS dry o y x := ⟨_, rfl⟩
          rw [← hU] at HOP
          have HU := Lib.hid hU
          clear hU hng
          cases U with
          | error c =>
            have HR : Hid (V = .error c) := Lib.hid (by rw [HV.out, combineS_bin HRR.out HNG.out, ← HU.out])
            have HY2 := Lib.hid H2.out.vtop_cell
            clear HV HM H1
            go_wp2_with (go_at_call 114; refine (cfg_rank _ _).mono ?_; rintro e w2 ⟨rfl, rfl⟩)
            have HOK := Lib.hid (HOP.out _ (HP2.out.up (below_drw2 _)))
            have HL3 := Lib.hid HL2.out.drew
            clear HOP
            have hw8 : IntKind.i64.wrap (r.length : Int) = (r.length : Int) := IntWalk.i64_in _ (by omega)
            have hw9 : (r.length : Int) < (r.length : Int) + 1 := by omega
            refine wp_region_held_drew (S := (fun w' => w'.cell? ⟨stb, 0, none⟩ = some (.slice (some ⟨gv, 0, none⟩) (r.length + 1) cv1) ∧ w'.cell? ⟨gv, r.length, none⟩ = some (.int .i64 y))) (by kernel_rfl) ?_ (fun hHeld => ?_)
            · exact ⟨H2.out.cells.1, HY2.out⟩
            (refine takeL (i := 0) (v := ?_) rfl (by kernel_rfl) (by decide +kernel) (by decide +kernel) (fun _ _ _ h => h) (Or.inl ⟨by rfl, ?_⟩) (by assumption) ?_; rotate_left; (focus (intro w9 hS9; (try dsimp only at hS9); go_simp; (try with_reducible rfl); done)))
            (try simp only [Act.put, List.setIfInBounds_toArray, List.set_cons_zero, List.set_cons_succ])
            (refine takeL (i := 1) (v := ?_) rfl (by kernel_rfl) (by decide +kernel) (by decide +kernel) (fun _ _ _ h => h) (Or.inl ⟨by rfl, ?_⟩) (by assumption) ?_; rotate_left; (focus (intro w9 hS9; (try dsimp only at hS9); go_simp; (try with_reducible rfl); done)))
            (try simp only [Act.put, List.setIfInBounds_toArray, List.set_cons_zero, List.set_cons_succ])
            (refine takeL (i := 2) (v := ?_) rfl (by kernel_rfl) (by decide +kernel) (by decide +kernel) (fun _ _ _ h => h) (Or.inl ⟨by rfl, ?_⟩) (by assumption) ?_; rotate_left; (focus (intro w9 hS9; (try dsimp only at hS9); go_simp; (try with_reducible rfl); done)))
            (try simp only [Act.put, List.setIfInBounds_toArray, List.set_cons_zero, List.set_cons_succ])
            (refine takeL (i := 3) (v := ?_) rfl (by kernel_rfl) (by decide +kernel) (by decide +kernel) (fun _ _ _ h => h) (Or.inl ⟨by rfl, ?_⟩) (by assumption) ?_; rotate_left; (focus (intro w9 hS9; (try dsimp only at hS9); go_simp; (try with_reducible rfl); done)))
            (try simp only [Act.put, List.setIfInBounds_toArray, List.set_cons_zero, List.set_cons_succ])
            (refine takeL (i := 4) (v := ?_) rfl (by kernel_rfl) (by decide +kernel) (by decide +kernel) (fun _ _ _ h => h) (Or.inl ⟨by rfl, ?_⟩) (by assumption) ?_; rotate_left; (focus (intro w9 hS9; (try dsimp only at hS9); go_simp; (try with_reducible rfl); done)))
            (try simp only [Act.put, List.setIfInBounds_toArray, List.set_cons_zero, List.set_cons_succ])
            (refine takeL (i := 5) (v := ?_) rfl (by kernel_rfl) (by decide +kernel) (by decide +kernel) (fun _ _ _ h => h) (Or.inl ⟨by rfl, ?_⟩) (by assumption) ?_; rotate_left; (focus (intro w9 hS9; (try dsimp only at hS9); go_simp; (try with_reducible rfl); done)))
            (try simp only [Act.put, List.setIfInBounds_toArray, List.set_cons_zero, List.set_cons_succ])
            (refine takeL (i := 6) (v := ?_) rfl (by kernel_rfl) (by decide +kernel) (by decide +kernel) (fun _ _ _ h => h) (Or.inl ⟨by rfl, ?_⟩) (by assumption) ?_; rotate_left; (focus (intro w9 hS9; (try dsimp only at hS9); go_simp; (try with_reducible rfl); done)))
            (try simp only [Act.put, List.setIfInBounds_toArray, List.set_cons_zero, List.set_cons_succ])
            (refine takeL (i := 7) (v := ?_) rfl (by kernel_rfl) (by decide +kernel) (by decide +kernel) (fun _ _ _ h => h) (Or.inl ⟨by rfl, ?_⟩) (by assumption) ?_; rotate_left; (focus (intro w9 hS9; (try dsimp only at hS9); go_simp; (try with_reducible rfl); done)))
            (try simp only [Act.put, List.setIfInBounds_toArray, List.set_cons_zero, List.set_cons_succ])
            (refine takeL (i := 8) (v := ?_) rfl (by kernel_rfl) (by decide +kernel) (by decide +kernel) (fun _ _ _ h => h) (Or.inl ⟨by rfl, ?_⟩) (by assumption) ?_; rotate_left; (focus (intro w9 hS9; (try dsimp only at hS9); go_simp; (try with_reducible rfl); done)))
            (try simp only [Act.put, List.setIfInBounds_toArray, List.set_cons_zero, List.set_cons_succ])
            (refine takeL (i := 9) (v := ?_) rfl (by kernel_rfl) (by decide +kernel) (by decide +kernel) (fun _ _ _ h => h) (Or.inl ⟨by rfl, ?_⟩) (by assumption) ?_; rotate_left; (focus (intro w9 hS9; (try dsimp only at hS9); go_simp; (try with_reducible rfl); done)))
            (try simp only [Act.put, List.setIfInBounds_toArray, List.set_cons_zero, List.set_cons_succ])
            (refine takeL (i := 10) (v := ?_) rfl (by kernel_rfl) (by decide +kernel) (by decide +kernel) (fun _ _ _ h => h) (Or.inl ⟨by rfl, ?_⟩) (by assumption) ?_; rotate_left; (focus (intro w9 hS9; (try dsimp only at hS9); go_simp; (try with_reducible rfl); done)))
            (try simp only [Act.put, List.setIfInBounds_toArray, List.set_cons_zero, List.set_cons_succ])
            (refine takeL (i := 11) (v := ?_) rfl (by kernel_rfl) (by decide +kernel) (by decide +kernel) (fun _ _ _ h => h) (Or.inl ⟨by rfl, ?_⟩) (by assumption) ?_; rotate_left; (focus (intro w9 hS9; (try dsimp only at hS9); go_simp; (try with_reducible rfl); done)))
            (try simp only [Act.put, List.setIfInBounds_toArray, List.set_cons_zero, List.set_cons_succ])
            (refine takeL (i := 12) (v := ?_) rfl (by kernel_rfl) (by decide +kernel) (by decide +kernel) (fun _ _ _ h => h) (Or.inl ⟨by rfl, ?_⟩) (by assumption) ?_; rotate_left; (focus (intro w9 hS9; (try dsimp only at hS9); go_simp; (try with_reducible rfl); done)))
            (try simp only [Act.put, List.setIfInBounds_toArray, List.set_cons_zero, List.set_cons_succ])
            (refine takeL (i := 13) (v := ?_) rfl (by kernel_rfl) (by decide +kernel) (by decide +kernel) (fun _ _ _ h => h) (Or.inl ⟨by rfl, ?_⟩) (by assumption) ?_; rotate_left; (focus (intro w9 hS9; (try dsimp only at hS9); go_simp; (try with_reducible rfl); done)))
            (try simp only [Act.put, List.setIfInBounds_toArray, List.set_cons_zero, List.set_cons_succ])
            (refine takeL (i := 14) (v := ?_) rfl (by kernel_rfl) (by decide +kernel) (by decide +kernel) (fun _ _ _ h => h) (Or.inl ⟨by rfl, ?_⟩) (by assumption) ?_; rotate_left; (focus (intro w9 hS9; (try dsimp only at hS9); go_simp; (try with_reducible rfl); done)))
            (try simp only [Act.put, List.setIfInBounds_toArray, List.set_cons_zero, List.set_cons_succ])
            (refine takeL (i := 15) (v := ?_) rfl (by kernel_rfl) (by decide +kernel) (by decide +kernel) (fun _ _ _ h => h) (Or.inl ⟨by rfl, ?_⟩) (by assumption) ?_; rotate_left; (focus (intro w9 hS9; (try dsimp only at hS9); go_simp; (try with_reducible rfl); done)))
            (try simp only [Act.put, List.setIfInBounds_toArray, List.set_cons_zero, List.set_cons_succ])
            (refine takeL (i := 16) (v := ?_) rfl (by kernel_rfl) (by decide +kernel) (by decide +kernel) (fun _ _ _ h => h) (Or.inl ⟨by rfl, ?_⟩) (by assumption) ?_; rotate_left; (focus (intro w9 hS9; (try dsimp only at hS9); go_simp; (try with_reducible rfl); done)))
            (try simp only [Act.put, List.setIfInBounds_toArray, List.set_cons_zero, List.set_cons_succ])
            refine wpAnyH_ready (rs := [17]) (by decide +kernel) (by simp) ?_
            refine consL rfl (fun K hK => ?_) ?_
            · go_simp
              go_at_call 125
              refine HOK.out.mono ?_
              rintro e w2 ⟨rfl, rfl⟩
              refine ⟨rfl, ?_⟩
              rw [HR.out]
              exact ⟨rfl, HL3.out⟩
            exact AllReadyH.nil
          | ok z =>
            have HZ := Lib.hid (operateS_in HU.out.symm)
            have HR : Hid (V = combineS dry least os (z :: r)) := Lib.hid (by rw [HV.out, combineS_bin HRR.out HNG.out, ← HU.out])
            have HM' : Hid (os.length ≤ 100000 ∧ (z :: r).length ≤ 100000 ∧ binS os + 1 ≤ (z :: r).length) := Lib.hid (by
              have := HM.out
              have hb : ¬ (o = oNeg ∨ o = oOpen) := fun e => e.elim HNG.out HOB.out
              simp [binS, hb] at this ⊢
              omega)
            have H2d := Lib.hid (H2.out.drew)
            have H3 := Lib.hid (H2d.out.vset HZ.out)
            have HL3 := Lib.hid (HL2.out.drew.trans (H2d.out.lo2 (j := r.length) (.int .i64 z)))
            have HOK := Lib.hid ((HOP.out _ (HP2.out.up (below_drw2 _))).mono (fun e w' (h : RetO (.ok z) _ e w') => (And.intro h.1 h.2.symm : e = .returned (.int .i64 z) ∧ w' = _)))
            clear HV HM HS HL HOP
            go_wp2_with (go_at_call 114; refine (cfg_rank _ _).mono ?_; rintro e w2 ⟨rfl, rfl⟩)
            have hw8 : IntKind.i64.wrap (r.length : Int) = (r.length : Int) := IntWalk.i64_in _ (by omega)
            have hw9 : (r.length : Int) < (r.length : Int) + 1 := by omega
            refine wp_region_still_tailD 19 (by kernel_rfl) (by kernel_rfl) ?_
            simp only [List.take_succ_cons, List.take_zero, List.drop_succ_cons, List.drop_zero]
            repeat still_step
            still_call HOK.out
            repeat still_step
            refine wpStill_nil ?_
            clear hw8 hw9
            go_wp2
            go_roundw
            case rel => exact ⟨_, _, _, _, _, _, H3, HL3, HR, HM'⟩
            case measure =>
              refine Nat.lt_of_le_of_lt (Nat.le_of_eq (opLen_of H3.out.cells.2.1)) ?_
              rw [opLen_of b1]
              omega
end

end Go.Proofs.YtpofbhaipeiegaaGreatDoor
