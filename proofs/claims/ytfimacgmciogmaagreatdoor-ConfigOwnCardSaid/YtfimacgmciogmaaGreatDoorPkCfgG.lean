/-
  config's parser: open, combine.
  config's parser: pushing onto the stacks; factor.
  config's parser: factor (printed by gen_cfgi.py).
-/
import Derived.Test.YtfimacgmciogmaaGreatDoorPkReg
import Derived.StillTailTactics
import Derived.Test.YtfimacgmciogmaaGreatDoorPkBase
namespace Go.Proofs.YtfimacgmciogmaaGreatDoor
set_option linter.unusedSimpArgs false
set_option linter.unusedVariables false
open Go.RowKit Go.Shelf Go.Sort
theorem SK.oat {stb : Nat} {ops : List (List UInt8)} {vs : List Int} {Av Ao : Option Addr} {cv co i : Nat} {W : World} {x : List UInt8} (h : SK stb ops vs Av cv Ao co W) (hx : ops.reverse[i]? = some x) : ∃ g, Ao = some ⟨g, 0, none⟩ ∧ W.cell? ⟨g, i, none⟩ = some (.string ⟨x.toArray⟩) ∧ i < ops.length := by
 have hi : i < ops.length := by have := (List.getElem?_eq_some_iff.1 hx).1; simpa using this
 obtain ⟨n, hn⟩ : ∃ n, ops.length = n + 1 := ⟨ops.length - 1, by omega⟩
 have ho := h.ho
 rw [hn] at ho
 obtain ⟨g, rfl, h1, h2, h3⟩ := own_form ho
 refine ⟨g, rfl, (h.ho.cellAt i (by omega)).trans ?_, hi⟩
 rw [List.getElem?_map, hx]; rfl
theorem SK.vtop_cell {stb g : Nat} {ops : List (List UInt8)} {x : Int} {vs : List Int} {Ao : Option Addr} {cv co : Nat} {W : World} (h : SK stb ops (x :: vs) (some ⟨g, 0, none⟩) cv Ao co W) : W.cell? ⟨g, vs.length, none⟩ = some (.int .i64 x) := by
 obtain ⟨g', e, _, _, h1, _⟩ := h.vtop
 injection e with e
 injection e with e
 subst e
 exact h1
theorem wp_region_still_tailD {P : Program} {id : Nat} {Q : Exit → Act → World → Prop} {a : Act} {w : World} {l : List Oper} (n : Nat) (hm : P.follows .mixedOrders = true) (hB : Region.lexTailB .any l.toArray n = true)
  (h : wpStill P l.toArray w.drew (fun a' => wpList P l.toArray Q (l.drop n) a' w.drew) (l.take n) a) : (Code.region id l.toArray true).wp P Q a w := wp_region_still_tail n hm hB h
theorem SK.drew {stb : Nat} {ops : List (List UInt8)} {vs : List Int} {Av Ao : Option Addr} {cv co : Nat} {W : World} (h : SK stb ops vs Av cv Ao co W) : SK stb ops vs Av cv Ao co W.drew := h.keep fun _ _ _ => rfl
set_option maxHeartbeats 4000000 in
theorem cfg_open {stb : Nat} {ops : List (List UInt8)} {vs : List Int} {Av Ao : Option Addr} {cv co : Nat} {W : World} (h : SK stb ops vs Av cv Ao co W) (hm : ops.length ≤ 100000) : Calls Tryz.prog 79 #[.pointer (some ⟨stb, 0, none⟩)] W fun e w' => e = .returned (.bool (openS ops)) ∧ W = w' := by
 obtain ⟨V, hV⟩ : ∃ V, V = openS ops := ⟨_, rfl⟩
 rw [← hV]
 have HV := Lib.hid hV
 obtain ⟨b0, b1, bf⟩ := h.cells
 have HS := Lib.hid h
 clear hV h
 go_enter Tryz.func79, Tryz.ntmps79
 go_wp2
 go_loop [3] (fun i => ∃ k : Nat, k ≤ ops.length ∧ i = .int .i64 ((k : Int) - 1) ∧ Hid (∀ j, k ≤ j → ops.reverse[j]? ≠ some oOpen)) (fun i => (intOf i + 1).toNat)
 case atStart => exact ⟨ops.length, Nat.le_refl _, rfl, Lib.hid (fun j hj e => by have := (List.getElem?_eq_some_iff.1 e).1; simp at this; omega)⟩
 case round =>
  obtain ⟨k, hk, rfl, HJ⟩ := hrel
  by_cases h0 : k = 0
  ·subst h0
   have HF : Hid (V = false) := Lib.hid (by
    rw [HV.out]
    simp only [openS, decide_eq_false_iff_not]
    intro hm
    obtain ⟨j, hj, e⟩ := List.mem_iff_getElem.1 (List.mem_reverse.2 hm)
    exact HJ.out j (Nat.zero_le _) (by rw [List.getElem?_eq_getElem hj, e]))
   clear HJ
   go_wp2
   go_ret
   exact ⟨by rw [HF.out]; rfl, rfl⟩
  ·obtain ⟨i, rfl⟩ : ∃ i, k = i + 1 := ⟨k - 1, by omega⟩
   have hi : i < ops.reverse.length := by simp; omega
   obtain ⟨x, hx⟩ : ∃ x, ops.reverse[i]? = some x := ⟨_, List.getElem?_eq_getElem hi⟩
   obtain ⟨g, rfl, q0, q1⟩ := HS.out.oat hx
   have HX := Lib.hid hx
   have q2 : (i : Int) < (ops.length : Int) := by omega
   have e1 : ((i + 1 : Nat) : Int) - 1 = (i : Int) := by omega
   rw [e1]
   clear hx hi h0 e1
   cases hp : (x == [40]) with
   | true =>
    have hp' : x = [40] := by simpa using hp
    subst hp'
    have HF : Hid (V = true) := Lib.hid (by rw [HV.out]; simp only [openS, decide_eq_true_eq]; exact List.mem_reverse.1 (List.mem_of_getElem? HX.out))
    clear HJ
    go_wp2
    go_ret
    exact ⟨by rw [HF.out]; rfl, rfl⟩
   | false =>
    have HJ' : Hid (∀ j, i ≤ j → ops.reverse[j]? ≠ some oOpen) := Lib.hid (by
     intro j hj
     by_cases e : j = i
     ·subst e
      rw [HX.out]
      intro e
      injection e with e
      subst e
      cases hp
     ·exact HJ.out j (by omega))
    clear HJ
    go_wp2
    go_round
    case rel => exact ⟨i, by omega, rfl, HJ'⟩
    case measure => simp [intOf]
def binS : List (List UInt8) → Nat
 | [] => 0
 | o :: os => (if o = oNeg ∨ o = oOpen then 0 else 1) + binS os
theorem operateS_in {dry : Bool} {o : List UInt8} {a b z : Int} (h : operateS dry o a b = .ok z) : inI z := by
 have hs : ∀ c, smallS dry (wrap64 c) = .ok z → inI z := fun c h => by
  unfold smallS at h
  split at h
  ·cases h
  ·injection h with h; rw [← h]; exact inI_wrap c
 unfold operateS at h
 split at h
 ·exact hs _ h
 split at h
 ·exact hs _ h
 split at h
 ·injection h with h; subst h; unfold inI; omega
 split at h
 ·cases h
 ·exact hs _ h
theorem combineS_stop {dry : Bool} {least : Nat} {o : List UInt8} {os : List (List UInt8)} {vs : List Int} (h : rankS o < least) : combineS dry least (o :: os) vs = .ok (o :: os, vs) := by
 rw [combineS.eq_def]
 simp only [if_pos h]
theorem combineS_neg {dry : Bool} {least : Nat} {os : List (List UInt8)} {x : Int} {r : List Int} (h : ¬ rankS oNeg < least) : combineS dry least (oNeg :: os) (x :: r) = combineS dry least os (wrap64 (-x) :: r) := by
 rw [combineS.eq_def]
 simp only [if_neg h, if_true]
theorem combineS_bin {dry : Bool} {least : Nat} {o : List UInt8} {os : List (List UInt8)} {x y : Int} {r : List Int} (h : ¬ rankS o < least) (hn : o ≠ oNeg) : combineS dry least (o :: os) (y :: x :: r) = (match operateS dry o x y with | .ok z => combineS dry least os (z :: r) | .error e => .error e) := by
 rw [combineS.eq_def]
 simp only [if_neg h, if_neg hn]
 cases operateS dry o x y <;> rfl
def RetCmb (stb : Nat) (r : Except Int (List (List UInt8) × List Int)) (W : World) (e : Ending) (W' : World) : Prop :=
 match r with
 | .ok (os, vs) => e = .returned (.tuple #[]) ∧ LoP stb [] W W' ∧ ∃ Av cv Ao co, SK stb os vs Av cv Ao co W'
 | .error c => e = .panicked [{ v := .iface 34 (.int .i64 c), recovered := false }] ∧ LoP stb [] W W'
section
variable {stb pb : Nat} {k : List Value} {A : Option Addr} {cw : Nat} {all : List (List UInt8)} {dry : Bool} {sb : Nat} {sy : SymS} {rest : List (List UInt8)} {W : World}
set_option maxHeartbeats 8000000 in
set_option maxRecDepth 100000 in
theorem cfg_combine {ops : List (List UInt8)} {vs : List Int} {Av Ao : Option Addr} {cv co : Nat} (hp : PS pb k A cw all dry sb sy rest W) (hB : PB stb pb A sb) (h : SK stb ops vs Av cv Ao co W) {least : Nat} (hl : 1 ≤ least) (ho : ops.length ≤ 100000) (hv : vs.length ≤ 100000) (hbin : binS ops + 1 ≤ vs.length) :
  Calls Tryz.prog 80 #[.pointer (some ⟨pb, 0, none⟩), .pointer (some ⟨stb, 0, none⟩), .int .i64 (least : Int)] W (RetCmb stb (combineS dry least ops vs) W) := by
 obtain ⟨V, hV⟩ : ∃ V, V = combineS dry least ops vs := ⟨_, rfl⟩
 rw [← hV]
 have HV := Lib.hid hV
 have HS := Lib.hid h
 have HP := Lib.hid hp
 have HB := Lib.hid hB
 have HN := Lib.hid (And.intro hl (And.intro ho (And.intro hv hbin)))
 obtain ⟨b0, b1, bf⟩ := h.cells
 clear hV h hp hB hl ho hv hbin
 go_enter Tryz.func80, Tryz.ntmps80
 go_wp2
 go_loopw [] (fun wr => ∃ (os : List (List UInt8)) (us : List Int) (Av1 : Option Addr) (cv1 : Nat) (Ao1 : Option Addr) (co1 : Nat), Hid (SK stb os us Av1 cv1 Ao1 co1 wr) ∧ Hid (LoP stb [] W wr) ∧ Hid (V = combineS dry least os us) ∧ Hid (os.length ≤ 100000 ∧ us.length ≤ 100000 ∧ binS os + 1 ≤ us.length)) (fun wr => opLen stb wr)
 case atStart => exact ⟨_, _, _, _, _, _, HS, Lib.hid (LoP.refl _ _ _), HV, Lib.hid HN.out.2⟩
 case round =>
  clear HS HV b0 b1 bf
  obtain ⟨os, us, Av1, cv1, Ao1, co1, HS, HL, HV, HM⟩ := hrel
  obtain ⟨b0, b1, bf⟩ := HS.out.cells
  have hol : os.length ≤ 100000 := HM.out.1
  have hul : us.length ≤ 100000 := HM.out.2.1
  cases os with
  | nil =>
   have HR : Hid (V = .ok ([], us)) := Lib.hid HV.out
   go_wp2
   go_end0
   rw [HR.out]
   exact ⟨rfl, HL.out, _, _, _, _, HS.out⟩
  | cons o os =>
   obtain ⟨go, rfl, c0, gne, q0⟩ := HS.out.otop
   simp only [List.length_cons] at b1 hol
   have hoi : ((os.length + 1 : Nat) : Int) - 1 = (os.length : Int) := by omega
   by_cases hr : rankS o < least
   ·have HR : Hid (V = .ok (o :: os, us)) := Lib.hid (by rw [HV.out, combineS_stop hr])
    have hri : (rankS o : Int) < (least : Int) := by omega
    clear hr HM HV
    go_wp2_with (go_at_call 81; refine (cfg_rank _ _).mono ?_; rintro e w2 ⟨rfl, rfl⟩)
    go_end0
    rw [HR.out]
    exact ⟨rfl, HL.out, _, _, _, _, HS.out⟩
   ·have hri : ¬ (rankS o : Int) < (least : Int) := by omega
    cases us with
    | nil => exact absurd HM.out.2.2 (by simp)
    | cons x r =>
    obtain ⟨gv, rfl, c1, gvne, q1, qf, hxI⟩ := HS.out.vtop
    have gvo : gv ≠ go := fun e => HS.out.ne gv rfl (by rw [e]; rfl)
    simp only [List.length_cons] at b0 hul
    have hvi : ((r.length + 1 : Nat) : Int) - 1 = (r.length : Int) := by omega
    have HXI := Lib.hid hxI
    have HRR := Lib.hid hr
    clear hxI hr
    by_cases hng : o = oNeg
    ·subst hng
     have HR : Hid (V = combineS dry least os (wrap64 (-x) :: r)) := Lib.hid (by rw [HV.out, combineS_neg HRR.out])
     have HM' : Hid (os.length ≤ 100000 ∧ (wrap64 (-x) :: r).length ≤ 100000 ∧ binS os + 1 ≤ (wrap64 (-x) :: r).length) := Lib.hid (by
      have := HM.out
      simp [binS] at this ⊢
      omega)
     have H1 := Lib.hid HS.out.opop
     have H2 := Lib.hid (H1.out.vset (inI_wrap (-x)))
     have HL2 := Lib.hid ((HL.out.trans (HS.out.lo1 1 (.slice (some ⟨go, 0, none⟩) os.length co1))).trans (H1.out.lo2 (j := r.length) (.int .i64 (wrap64 (-x)))))
     clear HM HV HS HL
     go_wp2_with (go_at_call 81; refine (cfg_rank _ _).mono ?_; rintro e w2 ⟨rfl, rfl⟩)
     go_roundw
     case rel => exact ⟨_, _, _, _, _, _, H2, HL2, HR, HM'⟩
     case measure =>
      rw [opLen_of H2.out.cells.2.1, opLen_of b1]
      omega
    ·cases r with
     | nil => exact absurd HM.out.2.2 (by have := HRR.out; have hb : ¬ (o = oNeg ∨ o = oOpen) := (fun e => by rcases e with e | e; exact hng e; subst e; have := HN.out.1; have e2 : rankS oOpen = 0 := rfl; omega); simp [binS, hb])
     | cons y r =>
     have q2 := HS.out.vtop2
     have ngb : (o == [110, 101, 103, 97, 116, 105, 111, 110]) = false := by simpa [oNeg] using hng
     have hyI : Hid (inI y) := Lib.hid (HS.out.vb y (by simp))
     have HOB : Hid (o ≠ oOpen) := Lib.hid (fun e => by subst e; have := HN.out.1; have e2 : rankS oOpen = 0 := rfl; have := HRR.out; omega)
     have HNG := Lib.hid hng
     have H1 := Lib.hid HS.out.opop
     have H2 := Lib.hid H1.out.vpop
     have HL2 := Lib.hid ((HL.out.trans (HS.out.lo1 1 (.slice (some ⟨go, 0, none⟩) os.length co1))).trans (H1.out.lo1 0 (.slice (some ⟨gv, 0, none⟩) (y :: r).length cv1)))
     have HP2 := Lib.hid (HP.out.onB HB.out HL2.out)
     have hri2 : ((r.length + 1 : Nat) : Int) - 1 = (r.length : Int) := by omega
     simp only [List.length_cons] at b0 hul q1 c1 hvi
     have HOP := Lib.hid (fun w (h : PS pb k A cw all dry sb sy rest w) => cfg_operate h o y x hyI.out HXI.out)
     obtain ⟨U, hU⟩ : ∃ U, U = operateS dry o y x := ⟨_, rfl⟩
     rw [← hU] at HOP
     have HU := Lib.hid hU
     clear hU hng
     cases U with
     | error c =>
      have HR : Hid (V = .error c) := Lib.hid (by rw [HV.out, combineS_bin HRR.out HNG.out, ← HU.out])
      have HY2 := Lib.hid H2.out.vtop_cell
      clear HV HM H1
      go_wp2_with (go_at_call 81; refine (cfg_rank _ _).mono ?_; rintro e w2 ⟨rfl, rfl⟩)
      have HOK := Lib.hid (HOP.out _ (HP2.out.up (below_drw2 _)))
      have HL3 := Lib.hid HL2.out.drew
      clear HOP
      have hw8 : IntKind.i64.wrap (r.length : Int) = (r.length : Int) := IntWalk.i64_in _ (by omega)
      have hw9 : (r.length : Int) < (r.length : Int) + 1 := by omega
      refine wp_region_held_drew (S := (fun w' => w'.cell? ⟨stb, 0, none⟩ = some (.slice (some ⟨gv, 0, none⟩) (r.length + 1) cv1) ∧ w'.cell? ⟨gv, r.length, none⟩ = some (.int .i64 y))) (by kernel_rfl) ?_ (fun hHeld => ?_)
      ·exact ⟨H2.out.cells.1, HY2.out⟩
      (refine takeL (i := 0) (v := ?_) rfl (by kernel_rfl) (by decide +kernel) (by decide +kernel) (fun _ _ _ h => h) (Or.inl ⟨by rfl, ?_⟩) (by assumption) ?_; rotate_left; (focus (intro w9 hS9; (try dsimp only at hS9); go_simp; (try with_reducible rfl); done)))
      (try simp only [Act.put, List.setIfInBounds_toArray, List.set_cons_zero, List.set_cons_succ])
      (refine takeL (i := 1) (v := ?_) rfl (by kernel_rfl) (by decide +kernel) (by decide +kernel) (fun _ _ _ h => h) (Or.inl ⟨by rfl, ?_⟩) (by assumption) ?_; rotate_left; (focus (intro w9 hS9; (try dsimp only at hS9); go_simp; (try with_reducible rfl); done)))
      (try simp only [Act.put, List.setIfInBounds_toArray, List.set_cons_zero, List.set_cons_succ])
      (refine takeL (i := 2) (v := ?_) rfl (by kernel_rfl) (by decide +kernel) (by decide +kernel) (fun _ _ _ h => h) (Or.inl ⟨by rfl, ?_⟩) (by assumption) ?_; rotate_left; (focus (intro w9 hS9; (try dsimp only at hS9); go_simp; (try with_reducible rfl); done)))
      (try simp only [Act.put, List.setIfInBounds_toArray, List.set_cons_zero, List.set_cons_succ])
      (refine takeL (i := 3) (v := ?_) rfl (by kernel_rfl) (by decide +kernel) (by decide +kernel) (fun _ _ _ h => h) (Or.inl ⟨by rfl, ?_⟩) (by assumption) ?_; rotate_left; (focus (intro w9 hS9; (try dsimp only at hS9); go_simp; (try with_reducible rfl); done)))
      (try simp only [Act.put, List.setIfInBounds_toArray, List.set_cons_zero, List.set_cons_succ])
      (refine takeL (i := 4) (v := ?_) rfl (by kernel_rfl) (by decide +kernel) (by decide +kernel) (fun _ _ _ h => h) (Or.inl ⟨by rfl, ?_⟩) (by assumption) ?_; rotate_left; (focus (intro w9 hS9; (try dsimp only at hS9); go_simp; (try with_reducible rfl); done)))
      (try simp only [Act.put, List.setIfInBounds_toArray, List.set_cons_zero, List.set_cons_succ])
      (refine takeL (i := 5) (v := ?_) rfl (by kernel_rfl) (by decide +kernel) (by decide +kernel) (fun _ _ _ h => h) (Or.inl ⟨by rfl, ?_⟩) (by assumption) ?_; rotate_left; (focus (intro w9 hS9; (try dsimp only at hS9); go_simp; (try with_reducible rfl); done)))
      (try simp only [Act.put, List.setIfInBounds_toArray, List.set_cons_zero, List.set_cons_succ])
      (refine takeL (i := 6) (v := ?_) rfl (by kernel_rfl) (by decide +kernel) (by decide +kernel) (fun _ _ _ h => h) (Or.inl ⟨by rfl, ?_⟩) (by assumption) ?_; rotate_left; (focus (intro w9 hS9; (try dsimp only at hS9); go_simp; (try with_reducible rfl); done)))
      (try simp only [Act.put, List.setIfInBounds_toArray, List.set_cons_zero, List.set_cons_succ])
      (refine takeL (i := 7) (v := ?_) rfl (by kernel_rfl) (by decide +kernel) (by decide +kernel) (fun _ _ _ h => h) (Or.inl ⟨by rfl, ?_⟩) (by assumption) ?_; rotate_left; (focus (intro w9 hS9; (try dsimp only at hS9); go_simp; (try with_reducible rfl); done)))
      (try simp only [Act.put, List.setIfInBounds_toArray, List.set_cons_zero, List.set_cons_succ])
      (refine takeL (i := 8) (v := ?_) rfl (by kernel_rfl) (by decide +kernel) (by decide +kernel) (fun _ _ _ h => h) (Or.inl ⟨by rfl, ?_⟩) (by assumption) ?_; rotate_left; (focus (intro w9 hS9; (try dsimp only at hS9); go_simp; (try with_reducible rfl); done)))
      (try simp only [Act.put, List.setIfInBounds_toArray, List.set_cons_zero, List.set_cons_succ])
      (refine takeL (i := 9) (v := ?_) rfl (by kernel_rfl) (by decide +kernel) (by decide +kernel) (fun _ _ _ h => h) (Or.inl ⟨by rfl, ?_⟩) (by assumption) ?_; rotate_left; (focus (intro w9 hS9; (try dsimp only at hS9); go_simp; (try with_reducible rfl); done)))
      (try simp only [Act.put, List.setIfInBounds_toArray, List.set_cons_zero, List.set_cons_succ])
      (refine takeL (i := 10) (v := ?_) rfl (by kernel_rfl) (by decide +kernel) (by decide +kernel) (fun _ _ _ h => h) (Or.inl ⟨by rfl, ?_⟩) (by assumption) ?_; rotate_left; (focus (intro w9 hS9; (try dsimp only at hS9); go_simp; (try with_reducible rfl); done)))
      (try simp only [Act.put, List.setIfInBounds_toArray, List.set_cons_zero, List.set_cons_succ])
      (refine takeL (i := 11) (v := ?_) rfl (by kernel_rfl) (by decide +kernel) (by decide +kernel) (fun _ _ _ h => h) (Or.inl ⟨by rfl, ?_⟩) (by assumption) ?_; rotate_left; (focus (intro w9 hS9; (try dsimp only at hS9); go_simp; (try with_reducible rfl); done)))
      (try simp only [Act.put, List.setIfInBounds_toArray, List.set_cons_zero, List.set_cons_succ])
      (refine takeL (i := 12) (v := ?_) rfl (by kernel_rfl) (by decide +kernel) (by decide +kernel) (fun _ _ _ h => h) (Or.inl ⟨by rfl, ?_⟩) (by assumption) ?_; rotate_left; (focus (intro w9 hS9; (try dsimp only at hS9); go_simp; (try with_reducible rfl); done)))
      (try simp only [Act.put, List.setIfInBounds_toArray, List.set_cons_zero, List.set_cons_succ])
      (refine takeL (i := 13) (v := ?_) rfl (by kernel_rfl) (by decide +kernel) (by decide +kernel) (fun _ _ _ h => h) (Or.inl ⟨by rfl, ?_⟩) (by assumption) ?_; rotate_left; (focus (intro w9 hS9; (try dsimp only at hS9); go_simp; (try with_reducible rfl); done)))
      (try simp only [Act.put, List.setIfInBounds_toArray, List.set_cons_zero, List.set_cons_succ])
      (refine takeL (i := 14) (v := ?_) rfl (by kernel_rfl) (by decide +kernel) (by decide +kernel) (fun _ _ _ h => h) (Or.inl ⟨by rfl, ?_⟩) (by assumption) ?_; rotate_left; (focus (intro w9 hS9; (try dsimp only at hS9); go_simp; (try with_reducible rfl); done)))
      (try simp only [Act.put, List.setIfInBounds_toArray, List.set_cons_zero, List.set_cons_succ])
      (refine takeL (i := 15) (v := ?_) rfl (by kernel_rfl) (by decide +kernel) (by decide +kernel) (fun _ _ _ h => h) (Or.inl ⟨by rfl, ?_⟩) (by assumption) ?_; rotate_left; (focus (intro w9 hS9; (try dsimp only at hS9); go_simp; (try with_reducible rfl); done)))
      (try simp only [Act.put, List.setIfInBounds_toArray, List.set_cons_zero, List.set_cons_succ])
      (refine takeL (i := 16) (v := ?_) rfl (by kernel_rfl) (by decide +kernel) (by decide +kernel) (fun _ _ _ h => h) (Or.inl ⟨by rfl, ?_⟩) (by assumption) ?_; rotate_left; (focus (intro w9 hS9; (try dsimp only at hS9); go_simp; (try with_reducible rfl); done)))
      (try simp only [Act.put, List.setIfInBounds_toArray, List.set_cons_zero, List.set_cons_succ])
      refine wpAnyH_ready (rs := [17]) (by decide +kernel) (by simp) ?_
      refine consL rfl (fun K hK => ?_) ?_
      ·go_simp
       go_at_call 95
       refine HOK.out.mono ?_
       rintro e w2 ⟨rfl, rfl⟩
       refine ⟨rfl, ?_⟩
       rw [HR.out]
       exact ⟨rfl, HL3.out⟩
      exact AllReadyH.nil
     | ok z =>
      have HZ := Lib.hid (operateS_in HU.out.symm)
      have HR : Hid (V = combineS dry least os (z :: r)) := Lib.hid (by rw [HV.out, combineS_bin HRR.out HNG.out, ← HU.out])
      have HM' : Hid (os.length ≤ 100000 ∧ (z :: r).length ≤ 100000 ∧ binS os + 1 ≤ (z :: r).length) := Lib.hid (by
       have := HM.out
       have hb : ¬ (o = oNeg ∨ o = oOpen) := fun e => e.elim HNG.out HOB.out
       simp [binS, hb] at this ⊢
       omega)
      have H2d := Lib.hid (H2.out.drew)
      have H3 := Lib.hid (H2d.out.vset HZ.out)
      have HL3 := Lib.hid (HL2.out.drew.trans (H2d.out.lo2 (j := r.length) (.int .i64 z)))
      have HOK := Lib.hid ((HOP.out _ (HP2.out.up (below_drw2 _))).mono (fun e w' (h : RetO (.ok z) _ e w') => (And.intro h.1 h.2.symm : e = .returned (.int .i64 z) ∧ w' = _)))
      clear HV HM HS HL HOP
      go_wp2_with (go_at_call 81; refine (cfg_rank _ _).mono ?_; rintro e w2 ⟨rfl, rfl⟩)
      have hw8 : IntKind.i64.wrap (r.length : Int) = (r.length : Int) := IntWalk.i64_in _ (by omega)
      have hw9 : (r.length : Int) < (r.length : Int) + 1 := by omega
      refine wp_region_still_tailD 19 (by kernel_rfl) (by kernel_rfl) ?_
      simp only [List.take_succ_cons, List.take_zero, List.drop_succ_cons, List.drop_zero]
      repeat still_step
      still_call HOK.out
      repeat still_step
      refine wpStill_nil ?_
      clear hw8 hw9
      go_wp2
      go_roundw
      case rel => exact ⟨_, _, _, _, _, _, H3, HL3, HR, HM'⟩
      case measure =>
       refine Nat.lt_of_le_of_lt (Nat.le_of_eq (opLen_of H3.out.cells.2.1)) ?_
       rw [opLen_of b1]
       omega
end
end Go.Proofs.YtfimacgmciogmaaGreatDoor
namespace Go.Proofs.YtfimacgmciogmaaGreatDoor
set_option linter.unusedSimpArgs false
set_option linter.unusedVariables false
open Go.RowKit Go.Shelf Go.Sort
theorem ne_types {W : World} {b b' : Nat} {e e' : TypeId} {n n' c c' : Nat} {A A' : Option Addr} {xs ys : List Value} (hv : W.ownsRow b e 1 (.slice A n c) n xs) (ho : W.ownsRow b' e' 1 (.slice A' n' c') n' ys) (hne : e ≠ e') : ∀ g, fldA A = some g → fldA A' ≠ some g := by
 intro g e1 e2
 rcases hv.2 with ⟨h0, _⟩ | ⟨g1, cap, cur, h0, _, hg, _⟩
 ·injection h0 with h0; subst h0; cases e1
 rcases ho.2 with ⟨h1, _⟩ | ⟨g2, cap2, cur2, h1, _, hg2, _⟩
 ·injection h1 with h1; subst h1; cases e2
 injection h0 with h0
 injection h1 with h1
 subst h0 h1
 simp only [fldA, Option.some.injEq] at e1 e2
 subst e1 e2
 rw [hg] at hg2
 injection hg2 with h
 injection h with _ h
 exact hne h
section
variable {stb : Nat} {ops : List (List UInt8)} {vs : List Int} {Av Ao : Option Addr} {cv co g cap : Nat} {W w1 : World} {tmp : Obj}
theorem SK.grown {e : TypeId} {n : Nat} {v : Value} {xs : List Value} (h : SK stb ops vs Av cv Ao co W) (hrow : W.ownsRow (stb + 1) e 1 v n xs) (hg : (W.alloc tmp).grownBy w1 v.ownBlock) : w1.heap[stb]? = W.heap[stb]? ∧ W.heap.size < w1.heap.size ∧ LoP stb [] W w1 := by
 have hlt := h.lt
 have hs := hg.size
 simp at hs
 exact ⟨(hg.block stb (by simp; omega) (fun e => by have := hrow.lt _ e.symm; omega)).trans (Below.heap_alloc W _ _ hlt), by omega, (LoP.append hrow hg (by omega)).weak (Nat.le_succ _)⟩
theorem SK.opush {x : List UInt8} (h : SK stb ops vs Av cv Ao co W) (hown : w1.ownsRow (stb + 1) 9 1 (.slice (some ⟨g, 0, none⟩) (ops.length + 1) cap) (ops.length + 1) (ops.reverse.map strW ++ [strW x])) (hg : (W.alloc tmp).grownBy w1 (Value.slice Ao ops.length co).ownBlock) :
  SK stb (x :: ops) vs Av cv (some ⟨g, 0, none⟩) cap (w1.setCell ⟨stb, 1, none⟩ (.slice (some ⟨g, 0, none⟩) (ops.length + 1) cap)) ∧ LoP stb [] W (w1.setCell ⟨stb, 1, none⟩ (.slice (some ⟨g, 0, none⟩) (ops.length + 1) cap)) ∧ w1.cell? ⟨stb, 1, none⟩ = some (.slice Ao ops.length co) ∧ w1.frozen? ⟨stb, 1, none⟩ = false := by
 obtain ⟨e1, e2, e3⟩ := h.grown h.ho hg
 rw [ownBlock_A] at hg
 have hst := e1.trans h.st
 have hv1 : w1.ownsRow (stb + 1) 3 1 (.slice Av vs.length cv) vs.length (vs.reverse.map (Value.int .i64)) := own_keepG h.hv fun g' e => by
  rw [ownBlock_A] at e
  exact (hg.block g' (by have := h.rows.1 g' e; simp; omega) (fun e' => h.ne g' e e'.symm)).trans (Below.heap_alloc W _ _ (h.rows.1 g' e).2)
 have ho1 : w1.ownsRow (stb + 1) 9 1 (.slice (some ⟨g, 0, none⟩) (x :: ops).length cap) (x :: ops).length ((x :: ops).reverse.map strW) := by
  rw [List.reverse_cons, List.map_append]; exact hown
 have hne := ne_types hv1 ho1 (by decide)
 refine ⟨⟨heap_setCell_same _ _ _ _ _ _ hst, own_setT hv1 (fun e => by have := hv1.lt _ e; omega) _, own_setT ho1 (fun e => by have := ho1.lt _ e; omega) _, hne, h.vb⟩, e3.trans (LoP.setC hst (.inr (Nat.le_refl _)) (by have := h.lt; omega) _), (Lib.cell_of_heap hst 1).trans rfl, Lib.frozen_of_heap hst 1⟩
theorem SK.vpush {x : Int} (hx : inI x) (h : SK stb ops vs Av cv Ao co W) (hown : w1.ownsRow (stb + 1) 3 1 (.slice (some ⟨g, 0, none⟩) (vs.length + 1) cap) (vs.length + 1) (vs.reverse.map (Value.int .i64) ++ [.int .i64 x])) (hg : (W.alloc tmp).grownBy w1 (Value.slice Av vs.length cv).ownBlock) :
  SK stb ops (x :: vs) (some ⟨g, 0, none⟩) cap Ao co (w1.setCell ⟨stb, 0, none⟩ (.slice (some ⟨g, 0, none⟩) (vs.length + 1) cap)) ∧ LoP stb [] W (w1.setCell ⟨stb, 0, none⟩ (.slice (some ⟨g, 0, none⟩) (vs.length + 1) cap)) ∧ w1.cell? ⟨stb, 0, none⟩ = some (.slice Av vs.length cv) ∧ w1.frozen? ⟨stb, 0, none⟩ = false := by
 obtain ⟨e1, e2, e3⟩ := h.grown h.hv hg
 rw [ownBlock_A] at hg
 have hst := e1.trans h.st
 have ho1 : w1.ownsRow (stb + 1) 9 1 (.slice Ao ops.length co) ops.length (ops.reverse.map strW) := own_keepG h.ho fun g' e => by
  rw [ownBlock_A] at e
  exact (hg.block g' (by have := h.rows.2 g' e; simp; omega) (fun e' => h.ne g' e'.symm e)).trans (Below.heap_alloc W _ _ (h.rows.2 g' e).2)
 have hv1 : w1.ownsRow (stb + 1) 3 1 (.slice (some ⟨g, 0, none⟩) (x :: vs).length cap) (x :: vs).length ((x :: vs).reverse.map (Value.int .i64)) := by
  rw [List.reverse_cons, List.map_append]; exact hown
 have hne := ne_types hv1 ho1 (by decide)
 refine ⟨⟨heap_setCell_same _ _ _ _ _ _ hst, own_setT hv1 (fun e => by have := hv1.lt _ e; omega) _, own_setT ho1 (fun e => by have := ho1.lt _ e; omega) _, hne, ?_⟩, e3.trans (LoP.setC hst (.inr (Nat.le_refl _)) (by have := h.lt; omega) _), (Lib.cell_of_heap hst 0).trans rfl, Lib.frozen_of_heap hst 0⟩
 intro v hv
 rcases List.mem_cons.1 hv with rfl | hv
 ·exact hx
 ·exact h.vb v hv
end
theorem digs_parse : ∀ (l : List UInt8) (acc : Nat), l.all digB = true → (acc + 1) * 10 ^ l.length ≤ 1000000000000000000 → ∃ u, Lib.parseUint10 acc l = .ok u ∧ u < 1000000000000000000
 | [], acc, _, hb => ⟨acc, by simp [Lib.parseUint10], by simp at hb; omega⟩
 | c :: r, acc, h, hb => by
  simp only [List.all_cons, Bool.and_eq_true, digB, decide_eq_true_eq] at h
  obtain ⟨⟨h1, h2⟩, h3⟩ := h
  have hp : (acc * 10 + (c.toNat - 48) + 1) * 10 ^ r.length ≤ (acc + 1) * 10 ^ (r.length + 1) := by
   rw [Nat.pow_succ, Nat.mul_comm (10 ^ r.length) 10, ← Nat.mul_assoc]
   exact Nat.mul_le_mul_right _ (by omega)
  have hb' : (acc + 1) * 10 ^ (r.length + 1) ≤ 1000000000000000000 := hb
  have hq : 1 ≤ 10 ^ r.length := Nat.one_le_pow _ _ (by omega)
  have ha : (acc + 1) * 10 ≤ 1000000000000000000 := by
   refine Nat.le_trans ?_ hb'
   rw [Nat.pow_succ, Nat.mul_comm (10 ^ r.length) 10, ← Nat.mul_assoc]
   exact Nat.le_mul_of_pos_right _ (by omega)
  obtain ⟨u, hu, hlt⟩ := digs_parse r (acc * 10 + (c.toNat - 48)) h3 (by omega)
  refine ⟨u, ?_, hlt⟩
  simp only [Lib.parseUint10]
  rw [if_pos (by omega), if_neg (by omega), if_neg (by omega)]
  exact hu
theorem digits_atoi {w : List UInt8} (h : digitsB w = true) : Lib.atoiAll w = .ok (atoiS w) ∧ inI (atoiS w) := by
 unfold digitsB at h
 simp only [Bool.and_eq_true, decide_eq_true_eq] at h
 obtain ⟨⟨⟨h1, h2⟩, _⟩, h4⟩ := h
 have hx : ∃ v, Lib.atoiAll w = .ok v := by
  cases w with
  | nil => cases h1
  | cons c r =>
   obtain ⟨u, hu, hlt⟩ := digs_parse (c :: r) 0 h4 (by
    have : 10 ^ (c :: r).length ≤ 10 ^ 12 := Nat.pow_le_pow_right (by omega) h2
    omega)
   simp only [List.all_cons, Bool.and_eq_true, digB, decide_eq_true_eq] at h4
   have hc : ¬ (c.toNat = 43 ∨ c.toNat = 45) := by omega
   have hc2 : ¬ c.toNat = 45 := by omega
   refine ⟨(u : Int), ?_⟩
   simp only [Lib.atoiAll, if_neg hc, Lib.parseMag, hu]
   simp [hc2]
   omega
 obtain ⟨v, hv⟩ := hx
 have e : atoiS w = v := by unfold atoiS; rw [hv]
 rw [e]
 exact ⟨hv, Lib.atoiAll_bounds hv⟩
section
variable {pb : Nat} {k : List Value} {A : Option Addr} {cw : Nat} {all : List (List UInt8)} {dry : Bool} {sb : Nat} {sy : SymS} {rest : List (List UInt8)} {W : World}
theorem useS_no {kd : Int} (h : namedB (peekS rest) = false) : useS dry sy kd rest = .error 3 := by
 cases rest with
 | nil => rfl
 | cons x r => simp only [useS]; rw [if_neg (by rw [show namedB x = false from h]; decide)]
theorem cfg_use (h : PS pb k A cw all dry sb sy rest W) (kd : Int) : Calls Tryz.prog 68 #[.pointer (some ⟨pb, 0, none⟩), .int .i64 kd] W (RetP pb k A cw all dry sb sy encI W (useS dry sy kd rest)) := by
 cases hn : namedB (peekS rest) with
 | false => rw [useS_no hn]; exact cfg_use_no h hn kd
 | true =>
  cases rest with
  | nil => cases hn
  | cons x r =>
   have := cfg_use_yes h (show namedB x = true from hn) kd
   simp only [useS]
   rw [if_pos (show namedB x = true from hn)]
   exact this
def leftOf (pb n : Nat) (w : World) : Nat := n - (match w.cell? ⟨pb, 23, none⟩ with | some (.int _ i) => i.toNat | _ => 0)
theorem PS.left (h : PS pb k A cw all dry sb sy rest W) : leftOf pb all.length W = rest.length := by
 unfold leftOf
 rw [h.cells.2.1]
 have := h.len
 simp
 omega
def RetF (stb pb : Nat) (k : List Value) (A : Option Addr) (cw : Nat) (all : List (List UInt8)) (dry : Bool) (sb : Nat) (sy : SymS) (W : World) (r : PR (List (List UInt8) × List Int)) (e : Ending) (W' : World) : Prop :=
 match r with
 | .ok ((os, vs), rest) => e = .returned (.tuple #[]) ∧ PS pb k A cw all dry sb sy rest W' ∧ LoP stb [pb] W W' ∧ ∃ Av cv Ao co, SK stb os vs Av cv Ao co W'
 | .error c => e = .panicked [{ v := .iface 34 (.int .i64 c), recovered := false }] ∧ LoP stb [pb] W W'
end
end Go.Proofs.YtfimacgmciogmaaGreatDoor
namespace Go.Proofs.YtfimacgmciogmaaGreatDoor
set_option linter.unusedSimpArgs false
set_option linter.unusedVariables false
open Go.RowKit Go.Shelf Go.Sort
theorem factorS_use {dry : Bool} {sy : SymS} {ws ops : List (List UInt8)} {vs : List Int} (h1 : (peekS ws == oOpen) = false) (h2 : (peekS ws == oMinus) = false) (h3 : digitsB (peekS ws) = false) : factorS dry sy ws ops vs = (match useS dry sy 3 ws with | .ok (v, r) => .ok ((ops, v :: vs), r) | .error e => .error e) := by
 cases ws with
 | nil => rfl
 | cons w r =>
  simp only [peekS, List.headD_cons, beq_eq_false_iff_ne] at h1 h2 h3
  simp only [factorS]
  rw [if_neg h1, if_neg h2, if_neg (by rw [h3]; decide)]
  cases useS dry sy 3 (w :: r) with
  | ok p => rfl
  | error e => rfl
theorem useS_in {dry : Bool} {sy : SymS} {kd v : Int} {ws r : List (List UInt8)} (hs : ∀ x ∈ sy, inI x.2.2) (h : useS dry sy kd ws = .ok (v, r)) : inI v := by
 have hl : ∀ (sy : SymS) w x, lookS sy w = some x → ∃ y ∈ sy, y.2 = x := by
  intro sy w x
  induction sy with
  | nil => intro h; cases h
  | cons z t ih =>
   intro h
   obtain ⟨n, u⟩ := z
   unfold lookS at h
   split at h
   ·injection h with h; exact ⟨(n, u), by simp, h⟩
   ·obtain ⟨y, hy, e⟩ := ih h; exact ⟨y, by simp [hy], e⟩
 cases ws with
 | nil => cases h
 | cons w t =>
  simp only [useS] at h
  split at h
  ·cases hu : useOf dry kd (lookS sy w) with
   | error e => rw [hu] at h; cases h
   | ok v' =>
    rw [hu] at h
    injection h with h
    injection h with h _
    subst h
    unfold useOf at hu
    split at hu
    ·split at hu
     ·injection hu with hu; subst hu; unfold inI; omega
     ·cases hu
    ·rename_i kk vv hl2
     split at hu
     ·injection hu with hu
      subst hu
      obtain ⟨y, hy, e⟩ := hl _ _ _ hl2
      have := hs y hy
      rw [e] at this
      exact this
     ·cases hu
  ·cases h
theorem LoP.ofN {pb stb : Nat} {A B : World} (h : LoN pb A B) (hs : stb ≤ A.heap.size) : LoP stb [pb] A B := LoP.weak h hs
theorem LoP.ofZ {pb stb : Nat} {A B : World} (h : LoP stb [] A B) : LoP stb [pb] A B := h.mono (by simp)
section
variable {stb pb : Nat} {k : List Value} {A : Option Addr} {cw : Nat} {all : List (List UInt8)} {dry : Bool} {sb : Nat} {sy : SymS} {rest : List (List UInt8)} {W : World}
set_option maxHeartbeats 16000000 in
set_option maxRecDepth 100000 in
theorem cfg_factor {ops : List (List UInt8)} {vs : List Int} {Av Ao : Option Addr} {cv co : Nat} (hp : PS pb k A cw all dry sb sy rest W) (hB : PB stb pb A sb) (h : SK stb ops vs Av cv Ao co W) (hs : ∀ x ∈ sy, inI x.2.2) (hm : ops.length + rest.length ≤ 100000 ∧ vs.length ≤ 100000) :
  Calls Tryz.prog 78 #[.pointer (some ⟨pb, 0, none⟩), .pointer (some ⟨stb, 0, none⟩)] W (RetF stb pb k A cw all dry sb sy W (factorS dry sy rest ops vs)) := by
 obtain ⟨V, hV⟩ : ∃ V, V = factorS dry sy rest ops vs := ⟨_, rfl⟩
 rw [← hV]
 obtain ⟨i0, hi, hz0, hz1, hz2⟩ := info_parts strInfo'
 obtain ⟨j0, hj, hj0, hj1, hj2⟩ := info_parts intInfo
 have HV := Lib.hid hV
 have HS := Lib.hid h
 have HP := Lib.hid hp
 have HB := Lib.hid hB
 have HSY := Lib.hid hs
 have HM0 := Lib.hid hm
 clear hV h hp hB hs hm
 go_enter Tryz.func78, Tryz.ntmps78
 go_wp2
 go_loopw [] (fun wr => ∃ (os ws : List (List UInt8)) (us : List Int) (Av1 : Option Addr) (cv1 : Nat) (Ao1 : Option Addr) (co1 : Nat), Hid (PS pb k A cw all dry sb sy ws wr) ∧ Hid (SK stb os us Av1 cv1 Ao1 co1 wr) ∧ Hid (LoP stb [pb] W wr) ∧ Hid (V = factorS dry sy ws os us) ∧ Hid (os.length + ws.length ≤ 100000 ∧ us.length ≤ 100000)) (fun wr => leftOf pb all.length wr)
 case atStart => exact ⟨_, _, _, _, _, _, _, HP, HS, Lib.hid (LoP.refl _ _ _), HV, HM0⟩
 case round =>
  clear HS HV HP HM0
  obtain ⟨os, ws, us, Av1, cv1, Ao1, co1, HP, HS, HL, HV, HM⟩ := hrel
  have HZ := Lib.hid (Nat.le_of_lt HS.out.lt)
  by_cases c1 : peekS ws = oOpen
  ·obtain ⟨r, rfl⟩ : ∃ r, ws = oOpen :: r := by
    cases ws with | nil => cases c1 | cons w r => exact ⟨r, by rw [show w = oOpen from c1]⟩
   have HR : Hid (V = factorS dry sy r (oOpen :: os) us) := Lib.hid (by rw [HV.out]; simp only [factorS]; rw [if_pos trivial])
   have HM' : Hid ((oOpen :: os).length + r.length ≤ 100000 ∧ us.length ≤ 100000) := Lib.hid (by have := HM.out; simp at this ⊢; omega)
   have HA := Lib.hid (cfg_accept_yes (w := [40]) (r := r) HP.out)
   have HMS : Hid (leftOf pb all.length wr = r.length + 1) := Lib.hid HP.out.left
   clear c1 HV
   go_wp2_with (first | (go_at_call 58; (with_reducible refine HA.out.mono ?_); rintro e w1 ⟨rfl, hp1, hl1⟩; have HP1 := Lib.hid hp1; have HS1 := Lib.hid (HS.out.loN hl1 HB.out.p); have HL1 := Lib.hid (HL.out.trans (LoP.ofN hl1 HZ.out)); obtain ⟨b0, b1, bf⟩ := HS1.out.cells; clear hp1 hl1) | (at_builtin; refine wpList_append_lies _ rfl _ _ 23 rfl (stb + 1) 9 i0 (.string ⟨#[]⟩) 1 16 Tryz.underlying23 hi hz0 hz1 hz2 rfl (by decide) _ _ _ rfl (HS1.out.ho.alloc _) ⟨_, 0, none⟩ 1 1 [.string ⟨#[40]⟩] rfl rfl (cell_one_new _ _ _) (by intro u hu; simp at hu; subst hu; rfl) (by decide) (by have := HM.out; unfold maxLen; omega) (by have := HM.out; omega) (by have := HS1.out.lt; simp; omega) _ rfl ?_; intro gg cap W9 ap1 ap2 ap3 ap4; obtain ⟨p1, p2, p3, p4⟩ := HS1.out.opush ap1 ap2; have P1 := Lib.hid p1; have P2 := Lib.hid p2; clear p1 p2 ap1 ap2 ap3 ap4))
   go_roundw
   case rel => exact ⟨_, _, _, _, _, _, _, Lib.hid (HP1.out.onB HB.out P2.out), P1, Lib.hid (HL1.out.trans (LoP.ofZ P2.out)), HR, HM'⟩
   case measure =>
    rw [HMS.out, (HP1.out.onB HB.out P2.out).left]
    omega
  have c1' : (peekS ws == oOpen) = false := by simpa using c1
  have HA1 := Lib.hid (cfg_accept_no (w := [40]) HP.out c1')
  by_cases c2 : peekS ws = oMinus
  ·obtain ⟨r, rfl⟩ : ∃ r, ws = oMinus :: r := by
    cases ws with | nil => cases c2 | cons w r => exact ⟨r, by rw [show w = oMinus from c2]⟩
   have HR : Hid (V = factorS dry sy r (oNeg :: os) us) := Lib.hid (by rw [HV.out]; simp only [factorS]; rw [if_neg (by decide), if_pos trivial])
   have HM' : Hid ((oNeg :: os).length + r.length ≤ 100000 ∧ us.length ≤ 100000) := Lib.hid (by have := HM.out; simp at this ⊢; omega)
   have HMS : Hid (leftOf pb all.length wr = r.length + 1) := Lib.hid HP.out.left
   clear c1 c1' c2 HV
   go_wp2_with (first | (go_at_call 58; (with_reducible refine HA1.out.mono ?_); rintro e w0 ⟨rfl, hb0⟩; have HP0 := Lib.hid (HP.out.up hb0); have HS0 := Lib.hid (HS.out.loN (HP.out.up_lo hb0) HB.out.p); have HL0 := Lib.hid (HL.out.trans (LoP.ofN (HP.out.up_lo hb0) HZ.out)); have HZ0 := Lib.hid (Nat.le_of_lt HS0.out.lt); clear hb0) | (go_at_call 58; (with_reducible refine (cfg_accept_yes (w := [45]) (r := r) HP0.out).mono ?_); rintro e w1 ⟨rfl, hp1, hl1⟩; have HP1 := Lib.hid hp1; have HS1 := Lib.hid (HS0.out.loN hl1 HB.out.p); have HL1 := Lib.hid (HL0.out.trans (LoP.ofN hl1 HZ0.out)); obtain ⟨b0, b1, bf⟩ := HS1.out.cells; clear hp1 hl1) | (at_builtin; refine wpList_append_lies _ rfl _ _ 23 rfl (stb + 1) 9 i0 (.string ⟨#[]⟩) 1 16 Tryz.underlying23 hi hz0 hz1 hz2 rfl (by decide) _ _ _ rfl (HS1.out.ho.alloc _) ⟨_, 0, none⟩ 1 1 [.string ⟨#[110, 101, 103, 97, 116, 105, 111, 110]⟩] rfl rfl (cell_one_new _ _ _) (by intro u hu; simp at hu; subst hu; rfl) (by decide) (by have := HM.out; unfold maxLen; omega) (by have := HM.out; omega) (by have := HS1.out.lt; simp; omega) _ rfl ?_; intro gg cap W9 ap1 ap2 ap3 ap4; obtain ⟨p1, p2, p3, p4⟩ := HS1.out.opush ap1 ap2; have P1 := Lib.hid p1; have P2 := Lib.hid p2; clear p1 p2 ap1 ap2 ap3 ap4))
   go_roundw
   case rel => exact ⟨_, _, _, _, _, _, _, Lib.hid (HP1.out.onB HB.out P2.out), P1, Lib.hid (HL1.out.trans (LoP.ofZ P2.out)), HR, HM'⟩
   case measure =>
    rw [HMS.out, (HP1.out.onB HB.out P2.out).left]
    omega
  have c2' : (peekS ws == oMinus) = false := by simpa using c2
  have HC1 := Lib.hid c1'
  have HC2 : Hid ((peekS ws == [45]) = false) := Lib.hid c2'
  clear c1 c1' c2 c2'
  cases hdg : digitsB (peekS ws) with
  | true =>
   obtain ⟨w, r, rfl⟩ : ∃ w r, ws = w :: r := by
    cases ws with | nil => cases hdg | cons w r => exact ⟨w, r, rfl⟩
   have hdg' : digitsB w = true := hdg
   have hwl := HP.out.wl.2
   obtain ⟨a1, a2⟩ := digits_atoi hdg'
   obtain ⟨v, hv⟩ : ∃ v, v = atoiS w := ⟨_, rfl⟩
   rw [← hv] at a1 a2
   have HR : Hid (V = .ok ((os, v :: us), r)) := Lib.hid (by
    rw [HV.out, hv]
    simp only [factorS]
    rw [if_neg (by simpa [peekS] using HC1.out), if_neg (by have := HC2.out; simpa [peekS, oMinus] using this), if_pos hdg'])
   have HD : Hid (∀ w9, Calls Tryz.prog 94 #[.string ⟨w.toArray⟩] w9 fun e w' => e = .returned (.bool true) ∧ w9 = w') := Lib.hid (by rw [← hdg']; exact fun w9 => cfg_digits w (by omega) w9)
   have HAT := Lib.hid (fun w9 => atoi_ok w v a1 (by omega) w9)
   have HVI := Lib.hid a2
   clear hdg hdg' a1 a2 hv HV
   go_wp2_with (first | (go_at_call 58; (with_reducible refine HA1.out.mono ?_); rintro e w0 ⟨rfl, hb0⟩; have HP0 := Lib.hid (HP.out.up hb0); have HS0 := Lib.hid (HS.out.loN (HP.out.up_lo hb0) HB.out.p); have HL0 := Lib.hid (HL.out.trans (LoP.ofN (HP.out.up_lo hb0) HZ.out)); have HZ0 := Lib.hid (Nat.le_of_lt HS0.out.lt); clear hb0) | (go_at_call 58; (with_reducible refine (cfg_accept_no (w := [45]) HP0.out HC2.out).mono ?_); rintro e w1 ⟨rfl, hb1⟩; have HP1 := Lib.hid (HP0.out.up hb1); have HS1 := Lib.hid (HS0.out.loN (HP0.out.up_lo hb1) HB.out.p); have HL1 := Lib.hid (HL0.out.trans (LoP.ofN (HP0.out.up_lo hb1) HZ0.out)); have HZ1 := Lib.hid (Nat.le_of_lt HS1.out.lt); clear hb1) | (go_at_call 62; (with_reducible refine (cfg_peek HP1.out).mono ?_); rintro e w2 ⟨rfl, hb2⟩; simp only [peekS, List.headD_cons]; have HP2 := Lib.hid (HP1.out.up hb2); have HS2 := Lib.hid (HS1.out.loN (HP1.out.up_lo hb2) HB.out.p); have HL2 := Lib.hid (HL1.out.trans (LoP.ofN (HP1.out.up_lo hb2) HZ1.out)); have HZ2 := Lib.hid (Nat.le_of_lt HS2.out.lt); clear hb2) | (go_at_call 94; (with_reducible refine (HD.out _).mono ?_); rintro e w3 ⟨rfl, rfl⟩) | (go_at_call 63; (with_reducible refine (cfg_next HP2.out).mono ?_); rintro e w4 ⟨rfl, hp4, hl4⟩; simp only [encS]; have HP4 := Lib.hid hp4; have HS4 := Lib.hid (HS2.out.loN hl4 HB.out.p); have HL4 := Lib.hid (HL2.out.trans (LoP.ofN hl4 HZ2.out)); have HZ4 := Lib.hid (Nat.le_of_lt HS4.out.lt); clear hp4 hl4) | (go_at_call 83; (with_reducible refine (HAT.out _).mono ?_); rintro e w5 ⟨rfl, hb5⟩; have HP5 := Lib.hid (HP4.out.up hb5); have HS5 := Lib.hid (HS4.out.loN (HP4.out.up_lo hb5) HB.out.p); have HL5 := Lib.hid (HL4.out.trans (LoP.ofN (HP4.out.up_lo hb5) HZ4.out)); obtain ⟨b0, b1, bf⟩ := HS5.out.cells; clear hb5) | (at_builtin; refine wpList_append_lies _ rfl _ _ 136 rfl (stb + 1) 3 j0 (.int .i64 0) 1 8 Tryz.underlying136 hj hj0 hj1 hj2 rfl (by decide) _ _ _ rfl (HS5.out.hv.alloc _) ⟨_, 0, none⟩ 1 1 [.int .i64 v] rfl rfl (cell_one_new _ _ _) (by intro u hu; simp at hu; subst hu; rfl) (by decide) (by have := HM.out; unfold maxLen; omega) (by have := HM.out; omega) (by have := HS5.out.lt; simp; omega) _ rfl ?_; intro gg cap W9 ap1 ap2 ap3 ap4; obtain ⟨p1, p2, p3, p4⟩ := HS5.out.vpush HVI.out ap1 ap2; have P1 := Lib.hid p1; have P2 := Lib.hid p2; clear p1 p2 ap1 ap2 ap3 ap4))
   go_end0
   rw [HR.out]
   exact ⟨rfl, HP5.out.onB HB.out P2.out, HL5.out.trans (LoP.ofZ P2.out), _, _, _, _, P1.out⟩
  | false =>
   have hpl : (peekS ws).length ≤ 100000 := by
    cases ws with
    | nil => simp [peekS]
    | cons w r => have := HP.out.wl.2; simp only [peekS, List.headD_cons]; omega
   have HD : Hid (∀ w9, Calls Tryz.prog 94 #[.string ⟨(peekS ws).toArray⟩] w9 fun e w' => e = .returned (.bool false) ∧ w9 = w') := Lib.hid (by rw [← hdg]; exact fun w9 => cfg_digits _ hpl w9)
   have HE := Lib.hid (HV.out.trans (factorS_use HC1.out HC2.out hdg))
   have HU := Lib.hid (fun w9 (h : PS pb k A cw all dry sb sy ws w9) => cfg_use h 3)
   obtain ⟨U, hU⟩ : ∃ U, U = useS dry sy 3 ws := ⟨_, rfl⟩
   rw [← hU] at HU HE
   have HUE := Lib.hid hU
   clear hpl hdg HV hU
   cases U with
   | error c =>
    have HR : Hid (V = .error c) := Lib.hid HE.out
    clear HE
    go_wp2_with (first | (go_at_call 58; (with_reducible refine HA1.out.mono ?_); rintro e w0 ⟨rfl, hb0⟩; have HP0 := Lib.hid (HP.out.up hb0); have HS0 := Lib.hid (HS.out.loN (HP.out.up_lo hb0) HB.out.p); have HL0 := Lib.hid (HL.out.trans (LoP.ofN (HP.out.up_lo hb0) HZ.out)); have HZ0 := Lib.hid (Nat.le_of_lt HS0.out.lt); clear hb0) | (go_at_call 58; (with_reducible refine (cfg_accept_no (w := [45]) HP0.out HC2.out).mono ?_); rintro e w1 ⟨rfl, hb1⟩; have HP1 := Lib.hid (HP0.out.up hb1); have HS1 := Lib.hid (HS0.out.loN (HP0.out.up_lo hb1) HB.out.p); have HL1 := Lib.hid (HL0.out.trans (LoP.ofN (HP0.out.up_lo hb1) HZ0.out)); have HZ1 := Lib.hid (Nat.le_of_lt HS1.out.lt); clear hb1) | (go_at_call 62; (with_reducible refine (cfg_peek HP1.out).mono ?_); rintro e w2 ⟨rfl, hb2⟩; have HP2 := Lib.hid (HP1.out.up hb2); have HS2 := Lib.hid (HS1.out.loN (HP1.out.up_lo hb2) HB.out.p); have HL2 := Lib.hid (HL1.out.trans (LoP.ofN (HP1.out.up_lo hb2) HZ1.out)); have HZ2 := Lib.hid (Nat.le_of_lt HS2.out.lt); obtain ⟨b0, b1, bf⟩ := HS2.out.cells; clear hb2) | (go_at_call 94; (with_reducible refine (HD.out _).mono ?_); rintro e w3 ⟨rfl, rfl⟩))
    refine wp_region_held_drew (S := (fun _ => True)) (by kernel_rfl) ?_ (fun hHeld => ?_)
    ·exact trivial
    (refine takeL (i := 0) (v := ?_) rfl (by kernel_rfl) (by decide +kernel) (by decide +kernel) (fun _ _ _ h => h) (Or.inl ⟨by rfl, ?_⟩) (by assumption) ?_; rotate_left; (focus (intro w9 hS9; (try dsimp only at hS9); go_simp; (try with_reducible rfl); done)))
    (try simp only [Act.put, List.setIfInBounds_toArray, List.set_cons_zero, List.set_cons_succ])
    (refine takeL (i := 1) (v := ?_) rfl (by kernel_rfl) (by decide +kernel) (by decide +kernel) (fun _ _ _ h => h) (Or.inl ⟨by rfl, ?_⟩) (by assumption) ?_; rotate_left; (focus (intro w9 hS9; (try dsimp only at hS9); go_simp; (try with_reducible rfl); done)))
    (try simp only [Act.put, List.setIfInBounds_toArray, List.set_cons_zero, List.set_cons_succ])
    (refine takeL (i := 2) (v := ?_) rfl (by kernel_rfl) (by decide +kernel) (by decide +kernel) (fun _ _ _ h => h) (Or.inl ⟨by rfl, ?_⟩) (by assumption) ?_; rotate_left; (focus (intro w9 hS9; (try dsimp only at hS9); go_simp; (try with_reducible rfl); done)))
    (try simp only [Act.put, List.setIfInBounds_toArray, List.set_cons_zero, List.set_cons_succ])
    (refine takeL (i := 3) (v := ?_) rfl (by kernel_rfl) (by decide +kernel) (by decide +kernel) (fun _ _ _ h => h) (Or.inl ⟨by rfl, ?_⟩) (by assumption) ?_; rotate_left; (focus (intro w9 hS9; (try dsimp only at hS9); go_simp; (try with_reducible rfl); done)))
    (try simp only [Act.put, List.setIfInBounds_toArray, List.set_cons_zero, List.set_cons_succ])
    (refine takeL (i := 5) (v := ?_) rfl (by kernel_rfl) (by decide +kernel) (by decide +kernel) (fun _ _ _ h => h) (Or.inl ⟨by rfl, ?_⟩) (by assumption) ?_; rotate_left; (focus (intro w9 hS9; (try dsimp only at hS9); go_simp; (try with_reducible rfl); done)))
    (try simp only [Act.put, List.setIfInBounds_toArray, List.set_cons_zero, List.set_cons_succ])
    refine wpAnyH_ready (rs := [4, 6]) (by decide +kernel) (by simp) ?_
    refine consL rfl (fun K hK => ?_) ?_
    ·(first | fail | (go_simp; first | done | (first | fail)) | go_simp)
     (first | (with_reducible refine hK.out _ _ ?_ ?_) | (go_wp2_with fail; refine hK.out _ _ ?_ ?_))
     (focus (exact trivial))
     clear hK K hHeld
     intro hHeld
     (try simp only [Act.put, List.setIfInBounds_toArray, List.set_cons_zero, List.set_cons_succ])
     refine wpAnyH_ready (rs := [6]) (by decide +kernel) (by simp) ?_
     refine consL rfl (fun K hK => ?_) ?_
     ·go_simp
      go_at_call 68
      (with_reducible refine (HU.out _ (HP2.out.up (below_drw2 _))).mono ?_)
      rintro e w4 ⟨rfl, hl4⟩
      refine ⟨rfl, ?_⟩
      rw [HR.out]
      exact ⟨rfl, HL2.out.trans (LoP.ofN ((HP2.out.up_lo (below_drw2 _)).trans hl4) HZ2.out)⟩
     exact AllReadyH.nil
    refine consL rfl (fun K hK => ?_) ?_
    ·go_simp
     go_at_call 68
     (with_reducible refine (HU.out _ (HP2.out.up (below_drw2 _))).mono ?_)
     rintro e w4 ⟨rfl, hl4⟩
     refine ⟨rfl, ?_⟩
     rw [HR.out]
     exact ⟨rfl, HL2.out.trans (LoP.ofN ((HP2.out.up_lo (below_drw2 _)).trans hl4) HZ2.out)⟩
    exact AllReadyH.nil
   | ok vr =>
    obtain ⟨v, r⟩ := vr
    have HR : Hid (V = .ok ((os, v :: us), r)) := Lib.hid HE.out
    have HVI := Lib.hid (useS_in HSY.out HUE.out.symm)
    clear HE
    go_wp2_with (first | (go_at_call 58; (with_reducible refine HA1.out.mono ?_); rintro e w0 ⟨rfl, hb0⟩; have HP0 := Lib.hid (HP.out.up hb0); have HS0 := Lib.hid (HS.out.loN (HP.out.up_lo hb0) HB.out.p); have HL0 := Lib.hid (HL.out.trans (LoP.ofN (HP.out.up_lo hb0) HZ.out)); have HZ0 := Lib.hid (Nat.le_of_lt HS0.out.lt); clear hb0) | (go_at_call 58; (with_reducible refine (cfg_accept_no (w := [45]) HP0.out HC2.out).mono ?_); rintro e w1 ⟨rfl, hb1⟩; have HP1 := Lib.hid (HP0.out.up hb1); have HS1 := Lib.hid (HS0.out.loN (HP0.out.up_lo hb1) HB.out.p); have HL1 := Lib.hid (HL0.out.trans (LoP.ofN (HP0.out.up_lo hb1) HZ0.out)); have HZ1 := Lib.hid (Nat.le_of_lt HS1.out.lt); clear hb1) | (go_at_call 62; (with_reducible refine (cfg_peek HP1.out).mono ?_); rintro e w2 ⟨rfl, hb2⟩; have HP2 := Lib.hid (HP1.out.up hb2); have HS2 := Lib.hid (HS1.out.loN (HP1.out.up_lo hb2) HB.out.p); have HL2 := Lib.hid (HL1.out.trans (LoP.ofN (HP1.out.up_lo hb2) HZ1.out)); have HZ2 := Lib.hid (Nat.le_of_lt HS2.out.lt); obtain ⟨b0, b1, bf⟩ := HS2.out.cells; clear hb2) | (go_at_call 94; (with_reducible refine (HD.out _).mono ?_); rintro e w3 ⟨rfl, rfl⟩))
    refine wp_region_held_drew (S := (fun _ => True)) (by kernel_rfl) ?_ (fun hHeld => ?_)
    ·exact trivial
    (refine takeL (i := 0) (v := ?_) rfl (by kernel_rfl) (by decide +kernel) (by decide +kernel) (fun _ _ _ h => h) (Or.inl ⟨by rfl, ?_⟩) (by assumption) ?_; rotate_left; (focus (intro w9 hS9; (try dsimp only at hS9); go_simp; (try with_reducible rfl); done)))
    (try simp only [Act.put, List.setIfInBounds_toArray, List.set_cons_zero, List.set_cons_succ])
    (refine takeL (i := 1) (v := ?_) rfl (by kernel_rfl) (by decide +kernel) (by decide +kernel) (fun _ _ _ h => h) (Or.inl ⟨by rfl, ?_⟩) (by assumption) ?_; rotate_left; (focus (intro w9 hS9; (try dsimp only at hS9); go_simp; (try with_reducible rfl); done)))
    (try simp only [Act.put, List.setIfInBounds_toArray, List.set_cons_zero, List.set_cons_succ])
    (refine takeL (i := 2) (v := ?_) rfl (by kernel_rfl) (by decide +kernel) (by decide +kernel) (fun _ _ _ h => h) (Or.inl ⟨by rfl, ?_⟩) (by assumption) ?_; rotate_left; (focus (intro w9 hS9; (try dsimp only at hS9); go_simp; (try with_reducible rfl); done)))
    (try simp only [Act.put, List.setIfInBounds_toArray, List.set_cons_zero, List.set_cons_succ])
    (refine takeL (i := 3) (v := ?_) rfl (by kernel_rfl) (by decide +kernel) (by decide +kernel) (fun _ _ _ h => h) (Or.inl ⟨by rfl, ?_⟩) (by assumption) ?_; rotate_left; (focus (intro w9 hS9; (try dsimp only at hS9); go_simp; (try with_reducible rfl); done)))
    (try simp only [Act.put, List.setIfInBounds_toArray, List.set_cons_zero, List.set_cons_succ])
    (refine takeL (i := 5) (v := ?_) rfl (by kernel_rfl) (by decide +kernel) (by decide +kernel) (fun _ _ _ h => h) (Or.inl ⟨by rfl, ?_⟩) (by assumption) ?_; rotate_left; (focus (intro w9 hS9; (try dsimp only at hS9); go_simp; (try with_reducible rfl); done)))
    (try simp only [Act.put, List.setIfInBounds_toArray, List.set_cons_zero, List.set_cons_succ])
    refine wpAnyH_ready (rs := [4, 6]) (by decide +kernel) (by simp) ?_
    refine consL rfl (fun K hK => ?_) ?_
    ·(first | fail | (go_simp; first | done | (first | fail)) | go_simp)
     (first | (with_reducible refine hK.out _ _ ?_ ?_) | (go_wp2_with fail; refine hK.out _ _ ?_ ?_))
     (focus (exact trivial))
     clear hK K hHeld
     intro hHeld
     (try simp only [Act.put, List.setIfInBounds_toArray, List.set_cons_zero, List.set_cons_succ])
     refine wpAnyH_ready (rs := [6]) (by decide +kernel) (by simp) ?_
     refine consL rfl (fun K hK => ?_) ?_
     ·(first | (go_at_call 68; (with_reducible refine (HU.out _ (HP2.out.up (below_drw2 _))).mono ?_); rintro e w4 ⟨rfl, hp4, hl4⟩; simp only [encI]; have HP4 := Lib.hid hp4; have HS4 := Lib.hid (HS2.out.loN ((HP2.out.up_lo (below_drw2 _)).trans hl4) HB.out.p); have HL4 := Lib.hid (HL2.out.trans (LoP.ofN ((HP2.out.up_lo (below_drw2 _)).trans hl4) HZ2.out)); obtain ⟨d0, d1, df⟩ := HS4.out.cells; clear hp4 hl4) | (go_simp; first | done | (first | (go_at_call 68; (with_reducible refine (HU.out _ (HP2.out.up (below_drw2 _))).mono ?_); rintro e w4 ⟨rfl, hp4, hl4⟩; simp only [encI]; have HP4 := Lib.hid hp4; have HS4 := Lib.hid (HS2.out.loN ((HP2.out.up_lo (below_drw2 _)).trans hl4) HB.out.p); have HL4 := Lib.hid (HL2.out.trans (LoP.ofN ((HP2.out.up_lo (below_drw2 _)).trans hl4) HZ2.out)); obtain ⟨d0, d1, df⟩ := HS4.out.cells; clear hp4 hl4))) | go_simp)
      (first | (with_reducible refine hK.out _ _ ?_ ?_) | (go_wp2_with fail; refine hK.out _ _ ?_ ?_))
      (focus (exact trivial))
      clear hK K hHeld
      intro hHeld
      (try simp only [Act.put, List.setIfInBounds_toArray, List.set_cons_zero, List.set_cons_succ])
      refine wpAnyH_ready (rs := [7]) (by decide +kernel) (by simp) ?_
      refine consL rfl (fun K hK => ?_) ?_
      ·(first | fail | (go_simp; first | done | (first | fail)) | go_simp)
       (first | (with_reducible refine hK.out _ _ ?_ ?_) | (go_wp2_with fail; refine hK.out _ _ ?_ ?_))
       (focus (exact trivial))
       clear hK K hHeld
       intro hHeld
       (try simp only [Act.put, List.setIfInBounds_toArray, List.set_cons_zero, List.set_cons_succ])
       refine wpAnyH_ready (rs := [8]) (by decide +kernel) (by simp) ?_
       refine consL rfl (fun K hK => ?_) ?_
       ·(first | (refine step_append_lies _ rfl _ _ 136 rfl (stb + 1) 3 j0 (.int .i64 0) 1 8 Tryz.underlying136 hj hj0 hj1 hj2 rfl (by decide) _ _ _ rfl (HS4.out.hv.alloc _) ⟨_, 0, none⟩ 1 1 [.int .i64 v] rfl rfl (cell_one_new _ _ _) (by intro u hu; simp at hu; subst hu; rfl) (by decide) (by have := HM.out; unfold maxLen; omega) (by have := HM.out; omega) (by have := HS4.out.lt; simp; omega) _ rfl ?_; intro gg cap W9 ap1 ap2 ap3 ap4; obtain ⟨p1, p2, p3, p4⟩ := HS4.out.vpush HVI.out ap1 ap2; have P1 := Lib.hid p1; have P2 := Lib.hid p2; clear p1 p2 ap1 ap2 ap3 ap4) | (go_simp; first | done | (first | (refine step_append_lies _ rfl _ _ 136 rfl (stb + 1) 3 j0 (.int .i64 0) 1 8 Tryz.underlying136 hj hj0 hj1 hj2 rfl (by decide) _ _ _ rfl (HS4.out.hv.alloc _) ⟨_, 0, none⟩ 1 1 [.int .i64 v] rfl rfl (cell_one_new _ _ _) (by intro u hu; simp at hu; subst hu; rfl) (by decide) (by have := HM.out; unfold maxLen; omega) (by have := HM.out; omega) (by have := HS4.out.lt; simp; omega) _ rfl ?_; intro gg cap W9 ap1 ap2 ap3 ap4; obtain ⟨p1, p2, p3, p4⟩ := HS4.out.vpush HVI.out ap1 ap2; have P1 := Lib.hid p1; have P2 := Lib.hid p2; clear p1 p2 ap1 ap2 ap3 ap4))) | go_simp)
        (first | (with_reducible refine hK.out _ _ ?_ ?_) | (go_wp2_with fail; refine hK.out _ _ ?_ ?_))
        (focus (exact trivial))
        clear hK K hHeld
        intro hHeld
        (try simp only [Act.put, List.setIfInBounds_toArray, List.set_cons_zero, List.set_cons_succ])
        (refine takeL (i := 9) (v := ?_) rfl (by kernel_rfl) (by decide +kernel) (by decide +kernel) (fun _ _ _ h => h) (Or.inl ⟨by rfl, ?_⟩) (by assumption) ?_; rotate_left; (focus (intro w9 hS9; (try dsimp only at hS9); go_simp; (try with_reducible rfl); done)))
        (try simp only [Act.put, List.setIfInBounds_toArray, List.set_cons_zero, List.set_cons_succ])
        (refine takeL (i := 10) (v := ?_) rfl (by kernel_rfl) (by decide +kernel) (by decide +kernel) (fun _ _ _ h => h) (Or.inl ⟨by rfl, ?_⟩) (by assumption) ?_; rotate_left; (focus (intro w9 hS9; (try dsimp only at hS9); go_simp; (try with_reducible rfl); done)))
        (try simp only [Act.put, List.setIfInBounds_toArray, List.set_cons_zero, List.set_cons_succ])
        refine wpAnyH_ready (rs := [11]) (by decide +kernel) (by simp) ?_
        refine consL rfl (fun K hK => ?_) ?_
        ·(first | fail | (go_simp; first | done | (first | fail)) | go_simp)
         (first | (with_reducible refine hK.out _ _ ?_ ?_) | (go_wp2_with fail; refine hK.out _ _ ?_ ?_))
         (focus (exact trivial))
         clear hK K hHeld
         intro hHeld
         (try simp only [Act.put, List.setIfInBounds_toArray, List.set_cons_zero, List.set_cons_succ])
         refine wpAnyH_done (by decide +kernel) ?_ _
         go_wp2_with fail
         go_end0
         rw [HR.out]
         exact ⟨rfl, HP4.out.onB HB.out P2.out, HL4.out.trans (LoP.ofZ P2.out), _, _, _, _, P1.out⟩
        exact AllReadyH.nil
       exact AllReadyH.nil
      exact AllReadyH.nil
     exact AllReadyH.nil
    refine consL rfl (fun K hK => ?_) ?_
    ·(first | (go_at_call 68; (with_reducible refine (HU.out _ (HP2.out.up (below_drw2 _))).mono ?_); rintro e w4 ⟨rfl, hp4, hl4⟩; simp only [encI]; have HP4 := Lib.hid hp4; have HS4 := Lib.hid (HS2.out.loN ((HP2.out.up_lo (below_drw2 _)).trans hl4) HB.out.p); have HL4 := Lib.hid (HL2.out.trans (LoP.ofN ((HP2.out.up_lo (below_drw2 _)).trans hl4) HZ2.out)); obtain ⟨d0, d1, df⟩ := HS4.out.cells; clear hp4 hl4) | (go_simp; first | done | (first | (go_at_call 68; (with_reducible refine (HU.out _ (HP2.out.up (below_drw2 _))).mono ?_); rintro e w4 ⟨rfl, hp4, hl4⟩; simp only [encI]; have HP4 := Lib.hid hp4; have HS4 := Lib.hid (HS2.out.loN ((HP2.out.up_lo (below_drw2 _)).trans hl4) HB.out.p); have HL4 := Lib.hid (HL2.out.trans (LoP.ofN ((HP2.out.up_lo (below_drw2 _)).trans hl4) HZ2.out)); obtain ⟨d0, d1, df⟩ := HS4.out.cells; clear hp4 hl4))) | go_simp)
     (first | (with_reducible refine hK.out _ _ ?_ ?_) | (go_wp2_with fail; refine hK.out _ _ ?_ ?_))
     (focus (exact trivial))
     clear hK K hHeld
     intro hHeld
     (try simp only [Act.put, List.setIfInBounds_toArray, List.set_cons_zero, List.set_cons_succ])
     refine wpAnyH_ready (rs := [4, 7]) (by decide +kernel) (by simp) ?_
     refine consL rfl (fun K hK => ?_) ?_
     ·(first | fail | (go_simp; first | done | (first | fail)) | go_simp)
      (first | (with_reducible refine hK.out _ _ ?_ ?_) | (go_wp2_with fail; refine hK.out _ _ ?_ ?_))
      (focus (exact trivial))
      clear hK K hHeld
      intro hHeld
      (try simp only [Act.put, List.setIfInBounds_toArray, List.set_cons_zero, List.set_cons_succ])
      refine wpAnyH_ready (rs := [7]) (by decide +kernel) (by simp) ?_
      refine consL rfl (fun K hK => ?_) ?_
      ·(first | fail | (go_simp; first | done | (first | fail)) | go_simp)
       (first | (with_reducible refine hK.out _ _ ?_ ?_) | (go_wp2_with fail; refine hK.out _ _ ?_ ?_))
       (focus (exact trivial))
       clear hK K hHeld
       intro hHeld
       (try simp only [Act.put, List.setIfInBounds_toArray, List.set_cons_zero, List.set_cons_succ])
       refine wpAnyH_ready (rs := [8]) (by decide +kernel) (by simp) ?_
       refine consL rfl (fun K hK => ?_) ?_
       ·(first | (refine step_append_lies _ rfl _ _ 136 rfl (stb + 1) 3 j0 (.int .i64 0) 1 8 Tryz.underlying136 hj hj0 hj1 hj2 rfl (by decide) _ _ _ rfl (HS4.out.hv.alloc _) ⟨_, 0, none⟩ 1 1 [.int .i64 v] rfl rfl (cell_one_new _ _ _) (by intro u hu; simp at hu; subst hu; rfl) (by decide) (by have := HM.out; unfold maxLen; omega) (by have := HM.out; omega) (by have := HS4.out.lt; simp; omega) _ rfl ?_; intro gg cap W9 ap1 ap2 ap3 ap4; obtain ⟨p1, p2, p3, p4⟩ := HS4.out.vpush HVI.out ap1 ap2; have P1 := Lib.hid p1; have P2 := Lib.hid p2; clear p1 p2 ap1 ap2 ap3 ap4) | (go_simp; first | done | (first | (refine step_append_lies _ rfl _ _ 136 rfl (stb + 1) 3 j0 (.int .i64 0) 1 8 Tryz.underlying136 hj hj0 hj1 hj2 rfl (by decide) _ _ _ rfl (HS4.out.hv.alloc _) ⟨_, 0, none⟩ 1 1 [.int .i64 v] rfl rfl (cell_one_new _ _ _) (by intro u hu; simp at hu; subst hu; rfl) (by decide) (by have := HM.out; unfold maxLen; omega) (by have := HM.out; omega) (by have := HS4.out.lt; simp; omega) _ rfl ?_; intro gg cap W9 ap1 ap2 ap3 ap4; obtain ⟨p1, p2, p3, p4⟩ := HS4.out.vpush HVI.out ap1 ap2; have P1 := Lib.hid p1; have P2 := Lib.hid p2; clear p1 p2 ap1 ap2 ap3 ap4))) | go_simp)
        (first | (with_reducible refine hK.out _ _ ?_ ?_) | (go_wp2_with fail; refine hK.out _ _ ?_ ?_))
        (focus (exact trivial))
        clear hK K hHeld
        intro hHeld
        (try simp only [Act.put, List.setIfInBounds_toArray, List.set_cons_zero, List.set_cons_succ])
        (refine takeL (i := 9) (v := ?_) rfl (by kernel_rfl) (by decide +kernel) (by decide +kernel) (fun _ _ _ h => h) (Or.inl ⟨by rfl, ?_⟩) (by assumption) ?_; rotate_left; (focus (intro w9 hS9; (try dsimp only at hS9); go_simp; (try with_reducible rfl); done)))
        (try simp only [Act.put, List.setIfInBounds_toArray, List.set_cons_zero, List.set_cons_succ])
        (refine takeL (i := 10) (v := ?_) rfl (by kernel_rfl) (by decide +kernel) (by decide +kernel) (fun _ _ _ h => h) (Or.inl ⟨by rfl, ?_⟩) (by assumption) ?_; rotate_left; (focus (intro w9 hS9; (try dsimp only at hS9); go_simp; (try with_reducible rfl); done)))
        (try simp only [Act.put, List.setIfInBounds_toArray, List.set_cons_zero, List.set_cons_succ])
        refine wpAnyH_ready (rs := [11]) (by decide +kernel) (by simp) ?_
        refine consL rfl (fun K hK => ?_) ?_
        ·(first | fail | (go_simp; first | done | (first | fail)) | go_simp)
         (first | (with_reducible refine hK.out _ _ ?_ ?_) | (go_wp2_with fail; refine hK.out _ _ ?_ ?_))
         (focus (exact trivial))
         clear hK K hHeld
         intro hHeld
         (try simp only [Act.put, List.setIfInBounds_toArray, List.set_cons_zero, List.set_cons_succ])
         refine wpAnyH_done (by decide +kernel) ?_ _
         go_wp2_with fail
         go_end0
         rw [HR.out]
         exact ⟨rfl, HP4.out.onB HB.out P2.out, HL4.out.trans (LoP.ofZ P2.out), _, _, _, _, P1.out⟩
        exact AllReadyH.nil
       exact AllReadyH.nil
      exact AllReadyH.nil
     refine consL rfl (fun K hK => ?_) ?_
     ·(first | fail | (go_simp; first | done | (first | fail)) | go_simp)
      (first | (with_reducible refine hK.out _ _ ?_ ?_) | (go_wp2_with fail; refine hK.out _ _ ?_ ?_))
      (focus (exact trivial))
      clear hK K hHeld
      intro hHeld
      (try simp only [Act.put, List.setIfInBounds_toArray, List.set_cons_zero, List.set_cons_succ])
      have e0 := cell_up (below_box w4 (.cells #[.int .i64 v] 3)) d0
      refine wpAnyH_ready (rs := [4]) (by decide +kernel) (by simp) ?_
      refine consL rfl (fun K hK => ?_) ?_
      ·(first | fail | (go_simp; first | done | (first | fail)) | go_simp)
       (first | (with_reducible refine hK.out _ _ ?_ ?_) | (go_wp2_with fail; refine hK.out _ _ ?_ ?_))
       (focus (exact trivial))
       clear hK K hHeld
       intro hHeld
       (try simp only [Act.put, List.setIfInBounds_toArray, List.set_cons_zero, List.set_cons_succ])
       refine wpAnyH_ready (rs := [8]) (by decide +kernel) (by simp) ?_
       refine consL rfl (fun K hK => ?_) ?_
       ·(first | (refine step_append_lies _ rfl _ _ 136 rfl (stb + 1) 3 j0 (.int .i64 0) 1 8 Tryz.underlying136 hj hj0 hj1 hj2 rfl (by decide) _ _ _ rfl (HS4.out.hv.alloc _) ⟨_, 0, none⟩ 1 1 [.int .i64 v] rfl rfl (cell_one_new _ _ _) (by intro u hu; simp at hu; subst hu; rfl) (by decide) (by have := HM.out; unfold maxLen; omega) (by have := HM.out; omega) (by have := HS4.out.lt; simp; omega) _ rfl ?_; intro gg cap W9 ap1 ap2 ap3 ap4; obtain ⟨p1, p2, p3, p4⟩ := HS4.out.vpush HVI.out ap1 ap2; have P1 := Lib.hid p1; have P2 := Lib.hid p2; clear p1 p2 ap1 ap2 ap3 ap4) | (go_simp; first | done | (first | (refine step_append_lies _ rfl _ _ 136 rfl (stb + 1) 3 j0 (.int .i64 0) 1 8 Tryz.underlying136 hj hj0 hj1 hj2 rfl (by decide) _ _ _ rfl (HS4.out.hv.alloc _) ⟨_, 0, none⟩ 1 1 [.int .i64 v] rfl rfl (cell_one_new _ _ _) (by intro u hu; simp at hu; subst hu; rfl) (by decide) (by have := HM.out; unfold maxLen; omega) (by have := HM.out; omega) (by have := HS4.out.lt; simp; omega) _ rfl ?_; intro gg cap W9 ap1 ap2 ap3 ap4; obtain ⟨p1, p2, p3, p4⟩ := HS4.out.vpush HVI.out ap1 ap2; have P1 := Lib.hid p1; have P2 := Lib.hid p2; clear p1 p2 ap1 ap2 ap3 ap4))) | go_simp)
        (first | (with_reducible refine hK.out _ _ ?_ ?_) | (go_wp2_with fail; refine hK.out _ _ ?_ ?_))
        (focus (exact trivial))
        clear hK K hHeld
        intro hHeld
        (try simp only [Act.put, List.setIfInBounds_toArray, List.set_cons_zero, List.set_cons_succ])
        (refine takeL (i := 9) (v := ?_) rfl (by kernel_rfl) (by decide +kernel) (by decide +kernel) (fun _ _ _ h => h) (Or.inl ⟨by rfl, ?_⟩) (by assumption) ?_; rotate_left; (focus (intro w9 hS9; (try dsimp only at hS9); go_simp; (try with_reducible rfl); done)))
        (try simp only [Act.put, List.setIfInBounds_toArray, List.set_cons_zero, List.set_cons_succ])
        (refine takeL (i := 10) (v := ?_) rfl (by kernel_rfl) (by decide +kernel) (by decide +kernel) (fun _ _ _ h => h) (Or.inl ⟨by rfl, ?_⟩) (by assumption) ?_; rotate_left; (focus (intro w9 hS9; (try dsimp only at hS9); go_simp; (try with_reducible rfl); done)))
        (try simp only [Act.put, List.setIfInBounds_toArray, List.set_cons_zero, List.set_cons_succ])
        refine wpAnyH_ready (rs := [11]) (by decide +kernel) (by simp) ?_
        refine consL rfl (fun K hK => ?_) ?_
        ·(first | fail | (go_simp; first | done | (first | fail)) | go_simp)
         (first | (with_reducible refine hK.out _ _ ?_ ?_) | (go_wp2_with fail; refine hK.out _ _ ?_ ?_))
         (focus (exact trivial))
         clear hK K hHeld
         intro hHeld
         (try simp only [Act.put, List.setIfInBounds_toArray, List.set_cons_zero, List.set_cons_succ])
         refine wpAnyH_done (by decide +kernel) ?_ _
         go_wp2_with fail
         go_end0
         rw [HR.out]
         exact ⟨rfl, HP4.out.onB HB.out P2.out, HL4.out.trans (LoP.ofZ P2.out), _, _, _, _, P1.out⟩
        exact AllReadyH.nil
       exact AllReadyH.nil
      exact AllReadyH.nil
     exact AllReadyH.nil
    exact AllReadyH.nil
end
end Go.Proofs.YtfimacgmciogmaaGreatDoor
