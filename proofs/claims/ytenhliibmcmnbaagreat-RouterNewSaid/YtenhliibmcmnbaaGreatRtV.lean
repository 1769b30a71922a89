/-
  A fresh router: regular, current (printed by gen_rtv.py).
-/
import Derived.Test.YtenhliibmcmnbaaGreatRtU
namespace Go.Proofs.YtenhliibmcmnbaaGreat
set_option linter.unusedSimpArgs false
set_option linter.unusedVariables false
open Go.RowKit Go.Sort

theorem index_true (D : Option Addr) (m c : Nat) (w : World) (hr : Rd w D ((List.replicate m true).map Value.bool)) :
    Calls Tryz.prog 211 #[.slice D m c, .bool true] w fun e w' => e = .returned (.int .i64 (if m = 0 then -1 else 0)) ∧ w = w' := by
  by_cases hm : m = 0
  · subst hm
    clear hr
    go_enter Tryz.func211, Tryz.ntmps211
    go_wp2_with fail
    go_loopw [8] (fun i wr => i = .int .i64 0 ∧ wr = w) (fun _ _ => 0)
    case atStart => exact ⟨rfl, rfl⟩
    case round =>
      obtain ⟨rfl, rfl⟩ := hrel
      go_wp2_with fail
      go_ret
      exact ⟨rfl, rfl⟩
  · obtain ⟨b, o, rfl, hc⟩ := hr.at_ (k := 0) (u := .bool true) (by simp [List.getElem?_replicate]; omega)
    have hm' : (0 : Int) < (m : Int) := by omega
    have HM : Hid ((if m = 0 then (-1 : Int) else 0) = 0) := Lib.hid (if_neg hm)
    rw [Nat.add_zero] at hc
    clear hr hm
    rw [HM.out]
    go_enter Tryz.func211, Tryz.ntmps211
    go_wp2_with fail
    go_loopw [8] (fun i wr => i = .int .i64 0 ∧ wr = w) (fun _ _ => 0)
    case atStart => exact ⟨rfl, rfl⟩
    case round =>
      obtain ⟨rfl, rfl⟩ := hrel
      go_wp2_with fail
      go_ret
      exact ⟨rfl, rfl⟩
theorem contains_true (D : Option Addr) (m c : Nat) (w : World) (hr : Rd w D ((List.replicate m true).map Value.bool)) :
    Calls Tryz.prog 157 #[.slice D m c, .bool true] w fun e w' => e = .returned (.bool (!(m == 0))) ∧ w = w' := by
  have HI := Lib.hid (index_true D m c w hr)
  cases m with
  | zero =>
    rw [if_pos rfl] at HI
    clear hr
    go_enter Tryz.func157, Tryz.ntmps157
    go_wp2_with (go_at_call 211; refine HI.out.mono ?_; rintro e w1 ⟨rfl, rfl⟩)
    go_ret
    exact ⟨rfl, rfl⟩
  | succ m =>
    rw [if_neg (Nat.succ_ne_zero m)] at HI
    clear hr
    go_enter Tryz.func157, Tryz.ntmps157
    go_wp2_with (go_at_call 211; refine HI.out.mono ?_; rintro e w1 ⟨rfl, rfl⟩)
    go_ret
    exact ⟨rfl, rfl⟩
section
variable {t : Topo} {v : Int} {rb sb : Nat} {C1 C2 B1 B2 D : Option Addr} {e1 e2 d1 d2 : Nat} {g s : Int} {w : World}
set_option maxRecDepth 100000 in
set_option maxHeartbeats 4000000 in
theorem router_regular0 (hv : valid t = true) (h : RouR t v rb sb C1 C2 B1 B2 D e1 e2 d1 d2 g s w) :
    Calls Tryz.prog 99 #[.pointer (some ⟨rb, 0, none⟩)] w fun e w' => (∃ b, e = .returned (.bool b)) ∧ Below w.heap.size w w' := by
  obtain ⟨r0, r1, r2, r3, r4, r5, r6, r7, r8, r9, r10, r11, r12, r13, r14, r15, r16, r17, r18, r19, r20, fr⟩ := h.r.c21
  have HCN := Lib.hid (contains_true D (2 * t.ls.length) (2 * t.ls.length) w h.cd)
  have HN := Lib.hid (valid_n hv)
  have HR := Lib.hid h
  by_cases hz : t.ls.length = 0
  · rw [hz] at HCN r2 r11 r15
    clear r3 r4 r5 r6 r7 r8 r17 r18 r19 r20 fr h
    rw [hz] at r16 r12
    clear r12
    go_enter Tryz.func99, Tryz.ntmps99
    go_wp2_with (go_at_call 157; refine HCN.out.mono ?_; rintro e w1 ⟨rfl, rfl⟩)
    clear r0 r1 r2 r9 r10 r11 r13 r14 r15 r16
    go_loopg [16] t.n.toNat (fun gg i wx => ∃ q : Nat, (q : Int) + gg = t.n ∧ i = .int .i64 q ∧ Hid (Below w.heap.size w wx))
    case atStart => exact ⟨0, by have := HN.out; omega, rfl, Lib.hid (Below.refl _ _)⟩
    case round =>
      obtain ⟨q, hq, rfl, HW⟩ := hrel
      have HRW := Lib.hid (HR.out.up HW.out)
      obtain ⟨r0, r1, r2, r3, r4, r5, r6, r7, r8, r9, r10, r11, r12, r13, r14, r15, r16, r17, r18, r19, r20, fr⟩ := HRW.out.r.c21
      clear r3 r4 r5 r6 r7 r8 r12 r16 r17 r18 r19 r20 fr
      by_cases hlt : (q : Int) < t.n
      · have hq64 : q ≤ 64 := by have := HN.out; omega
        have HOV : Hid (∀ (d : Nat) (os : Array Obj) (c : Nat) (x y : Value), Calls Tryz.prog 71 #[.agg #[x, .slice B1 (viewT t v).ov.length c, y], .int .i64 q] (grow (redrawn wr d) os) fun e w' => e = .returned (.bool (over (viewT t v) q)) ∧ Below (grow (redrawn wr d) os).heap.size (grow (redrawn wr d) os) w') := Lib.hid fun d os c x y => graph_Over x y B1 c (viewT t v) q _ (HRW.out.cv.ov.below (below_regrown _ _ _)) (by omega) (.inr (by rw [viewT_len]; have := HN.out; omega))
        clear r0 r1 r2
        go_upto_region 6 with fail
        have kq_r9 := cell_regrown r9
        have kq_r10 := cell_regrown r10
        have kq_r11 := cell_regrown r11
        have kq_r13 := cell_regrown r13
        have kq_r14 := cell_regrown r14
        have kq_r15 := cell_regrown r15
        refine wp_region_quiet_below (by kernel_rfl) (by kernel_rfl) ?_
        repeat (go_big_quiet_step (with_reducible exact Calls.regrown_of (HOV.out _ _ _ _ _)))
        refine wpQuiet_nil ?_
        intro w5 hb5
        replace hb5 := below_of_regrown hb5
        clear kq_r9 kq_r10 kq_r11 kq_r13 kq_r14 kq_r15
        replace r9 := cell_up hb5 r9
        replace r10 := cell_up hb5 r10
        replace r11 := cell_up hb5 r11
        replace r13 := cell_up hb5 r13
        replace r14 := cell_up hb5 r14
        replace r15 := cell_up hb5 r15
        go_wp2_with fail
        go_roundg (gk - 1)
        case measure => omega
        case rel => exact ⟨q + 1, by omega, by go_num, Lib.hid (below_next HW.out hb5)⟩
      · rw [hz] at r2 r11 r15
        clear r9 r10 r11 r13 r14 r15 r1
        go_wp2_with fail
        go_loopw [41] (fun i wx => i = .int .i64 0 ∧ wx = wr) (fun _ _ => 0)
        case atStart => exact ⟨rfl, rfl⟩
        case round =>
          obtain ⟨rfl, rfl⟩ := hrel
          go_wp2_with fail
          go_ret
          exact ⟨⟨_, rfl⟩, HW.out⟩
  · have HZ : Hid ((!((2 * t.ls.length : Nat) == 0)) = true) := Lib.hid (by rw [show ((2 * t.ls.length : Nat) == 0) = false from beq_eq_false_iff_ne.2 (by omega)]; rfl)
    rw [HZ.out] at HCN
    clear h hz r0 r1 r2 r3 r4 r5 r6 r7 r8 r9 r10 r11 r12 r13 r14 r15 r17 r18 r19 r20 fr
    go_enter Tryz.func99, Tryz.ntmps99
    go_wp2_with (go_at_call 157; refine HCN.out.mono ?_; rintro e w1 ⟨rfl, rfl⟩)
    go_ret
    exact ⟨⟨_, rfl⟩, Below.refl _ _⟩

/-- A router's cells before its table is stored. -/
theorem p3_up {b ab : Nat} {x0 x1 x2 : Value} {w w' : World} (hb : Below w.heap.size w w') (h : w.cell? ⟨b, 3, none⟩ = some x0 ∧ w.cell? ⟨b, 7, none⟩ = some x1 ∧ w.cell? ⟨ab, 3, none⟩ = some x2) :
    w'.cell? ⟨b, 3, none⟩ = some x0 ∧ w'.cell? ⟨b, 7, none⟩ = some x1 ∧ w'.cell? ⟨ab, 3, none⟩ = some x2 := ⟨cell_up hb h.1, cell_up hb h.2.1, cell_up hb h.2.2⟩
theorem p3_set {b ab j : Nat} {u x0 x1 x2 : Value} {w : World} (h3 : j ≠ 3) (h7 : j ≠ 7) (hne : b ≠ ab) (h : w.cell? ⟨b, 3, none⟩ = some x0 ∧ w.cell? ⟨b, 7, none⟩ = some x1 ∧ w.cell? ⟨ab, 3, none⟩ = some x2) :
    (w.setCell ⟨b, j, none⟩ u).cell? ⟨b, 3, none⟩ = some x0 ∧ (w.setCell ⟨b, j, none⟩ u).cell? ⟨b, 7, none⟩ = some x1 ∧ (w.setCell ⟨b, j, none⟩ u).cell? ⟨ab, 3, none⟩ = some x2 := by
  refine ⟨(World.cell?_setCell_other w _ _ _ (fun e => h3 (by injection e))).trans h.1, (World.cell?_setCell_other w _ _ _ (fun e => h7 (by injection e))).trans h.2.1, (World.cell?_setCell_other w _ _ _ (fun e => hne (by injection e))).trans h.2.2⟩
set_option maxRecDepth 100000 in
set_option maxHeartbeats 8000000 in
theorem router_current0 (hv : valid t = true) (hn : isN t.n v = true) (h : RouR t v rb sb C1 C2 B1 B2 D e1 e2 d1 d2 g s w) :
    Calls Tryz.prog 40 #[.pointer (some ⟨rb, 0, none⟩)] w fun e w' => ∃ (Av Aw : Option Addr) (cv cw : Nat) (xs : List Int), e = .returned (.agg #[.int .i64 v, .slice Av t.n.toNat cv, .slice Aw xs.length cw]) ∧ w'.ownsRow w.heap.size 115 3 (.slice Av t.n.toNat cv) t.n.toNat (ents t.n.toNat) ∧ w'.ownsRow w.heap.size 3 1 (.slice Aw xs.length cw) xs.length (xs.map (Value.int .i64)) ∧ xs.length ≤ 512 ∧ Kp [rb] w w' := by
  have HV := Lib.hid hv
  have HN := Lib.hid hn
  have HR := Lib.hid (h.up (below_box w (.cells #[.int .i64 0, .slice none 0 0, .slice none 0 0] 52)))
  have HY := Lib.hid (Bl.new w #[.int .i64 0, .slice none 0 0, .slice none 0 0] 52)
  have HB := Lib.hid (below_box w (.cells #[.int .i64 0, .slice none 0 0, .slice none 0 0] 52))
  have hlt := h.r.lt
  have HLT := Lib.hid hlt
  have H0 := Lib.hid h
  have r20 := HR.out.r.cell 20 rfl
  clear h hv hn
  go_enter Tryz.func40, Tryz.ntmps40
  go_upto_region 4 with fail
  refine wp_named3 (fun Y => RouR t v rb sb C1 C2 B1 B2 D e1 e2 d1 d2 g s Y ∧ Bl 52 w.heap.size #[.int .i64 0, .slice none 0 0, .slice none 0 0] Y ∧ Bl 200 (w.heap.size + 1) #[(.func (.func 97) #[.pointer (some ⟨rb, 0, none⟩)] #[]), .nilFunc, (.func (.func 98) #[.pointer (some ⟨rb, 0, none⟩)] #[]), (.func (.func 98) #[.pointer (some ⟨rb, 0, none⟩)] #[])] Y ∧ Below w.heap.size w Y) ⟨HR.out.up (below_box _ _), HY.out.up (below_box _ _), by simpa using Bl.new (w.alloc (.cells #[.int .i64 0, .slice none 0 0, .slice none 0 0] 52)) #[(.func (.func 97) #[.pointer (some ⟨rb, 0, none⟩)] #[]), .nilFunc, (.func (.func 98) #[.pointer (some ⟨rb, 0, none⟩)] #[]), (.func (.func 98) #[.pointer (some ⟨rb, 0, none⟩)] #[])] 200, HB.out.trans ((below_box _ _).mono (by simp))⟩ ?_
  rintro Y ⟨hY1, hY2, hY3, hY4⟩
  clear HR HY HB r20
  have HR := Lib.hid hY1
  have HY := Lib.hid hY2
  have HA := Lib.hid hY3
  have HB := Lib.hid hY4
  clear hY1 hY2 hY3 hY4
  go_upto_if 20 with (go_at_call 99; (with_reducible refine (router_regular0 HV.out HR.out).mono ?_); rintro e w3 ⟨⟨b, rfl⟩, hb⟩; replace HR := Lib.hid (HR.out.up hb); replace HY := Lib.hid (HY.out.up hb); replace HA := Lib.hid (HA.out.up hb); replace HB := Lib.hid (below_next HB.out hb); clear hb)
  go_cut [20] from 20 to 26 (fun _ wx => Hid (RouR t v rb sb C1 C2 B1 B2 D e1 e2 d1 d2 g s wx) ∧ Hid (Bl 52 w.heap.size #[.int .i64 0, .slice none 0 0, .slice none 0 0] wx) ∧ Hid (Below w.heap.size w wx) ∧ Hid (∃ f0 f1 f2 : Value, Bl 200 (w.heap.size + 1) #[f0, f1, f2, (.func (.func 98) #[.pointer (some ⟨rb, 0, none⟩)] #[])] wx))
  case first =>
    obtain ⟨f0, f1, f2, f3, ff⟩ := HA.out.c4
    cases b
    all_goals go_wp2_with fail
    all_goals
      have hb2 := Bset (j := 2) (v := (.func (.func 101) #[.pointer (some ⟨rb, 0, none⟩)] #[])) (Bset (j := 0) (v := (.func (.func 100) #[.pointer (some ⟨rb, 0, none⟩)] #[])) HB.out (Nat.le_add_right _ 1)) (Nat.le_add_right _ 1)
      have hw1 : w.heap.size ≠ w.heap.size + 1 := by omega
      go_meet
      first
        | exact ⟨HR, HY, HB, Lib.hid ⟨_, _, _, HA.out⟩⟩
        | exact ⟨Lib.hid (H0.out.up hb2), Lib.hid ((HY.out.other hw1 _).other hw1 _), Lib.hid hb2, Lib.hid ⟨_, _, _, (HA.out.set 0 _ rfl).set 2 _ rfl⟩⟩
  case rest =>
    clear HR HY HB HA
    obtain ⟨HR, HY, HB, HA⟩ := hcut
    obtain ⟨X, hX⟩ : ∃ X, X = wc.drew := ⟨_, rfl⟩
    obtain ⟨f0, f1, f2, hA⟩ := HA.out
    have HAX := Lib.hid (hX ▸ hA.up (Bdrw (Below.refl _ _)) : Bl 200 (w.heap.size + 1) #[f0, f1, f2, (.func (.func 98) #[.pointer (some ⟨rb, 0, none⟩)] #[])] X)
    have HBX := Lib.hid (hX ▸ Bdrw HB.out : Below w.heap.size w X)
    have HYX := Lib.hid (hX ▸ HY.out.up (Bdrw (Below.refl _ _)) : Bl 52 w.heap.size #[.int .i64 0, .slice none 0 0, .slice none 0 0] X)
    have HRX := Lib.hid (H0.out.up HBX.out)
    have hq : X.cell? ⟨rb, 3, none⟩ = some (.int .i64 v) ∧ X.cell? ⟨rb, 7, none⟩ = some (.int .i64 3) ∧ X.cell? ⟨w.heap.size + 1, 3, none⟩ = some (.func (.func 98) #[.pointer (some ⟨rb, 0, none⟩)] #[]) := ⟨HRX.out.r.cell 3 rfl, HRX.out.r.cell 7 rfl, HAX.out.cell 3 rfl⟩
    have hne : rb ≠ w.heap.size + 1 := by omega
    have hwr : w.heap.size ≠ rb := by omega
    clear HR HY HB HA hA
    go_upto_region 7 with fail
    refine wp_region_held_drew (S := (fun w' => w'.cell? ⟨rb, 3, none⟩ = some (.int .i64 v) ∧ w'.cell? ⟨rb, 7, none⟩ = some (.int .i64 3) ∧ w'.cell? ⟨w.heap.size + 1, 3, none⟩ = some (.func (.func 98) #[.pointer (some ⟨rb, 0, none⟩)] #[]))) (by kernel_rfl) ?_ (fun hHeld => ?_)
    · exact hX ▸ hq
    rw [← hX] at hHeld ⊢
    clear hX hq
    (refine takeL (i := 0) (v := ?_) rfl (by kernel_rfl) (by decide +kernel) (by decide +kernel) (fun _ _ _ h => h) (Or.inl ⟨by rfl, ?_⟩) (by assumption) ?_; rotate_left; (focus (intro w9 hS9; (try dsimp only at hS9); go_simp; (try with_reducible rfl); done)))
    (try simp only [Act.put, List.setIfInBounds_toArray, List.set_cons_zero, List.set_cons_succ])
    (refine takeL (i := 1) (v := ?_) rfl (by kernel_rfl) (by decide +kernel) (by decide +kernel) (fun _ _ _ h => h) (Or.inl ⟨by rfl, ?_⟩) (by assumption) ?_; rotate_left; (focus (intro w9 hS9; (try dsimp only at hS9); go_simp; (try with_reducible rfl); done)))
    (try simp only [Act.put, List.setIfInBounds_toArray, List.set_cons_zero, List.set_cons_succ])
    (refine takeL (i := 2) (v := ?_) rfl (by kernel_rfl) (by decide +kernel) (by decide +kernel) (fun _ _ _ h => h) (Or.inl ⟨by rfl, ?_⟩) (by assumption) ?_; rotate_left; (focus (intro w9 hS9; (try dsimp only at hS9); go_simp; (try with_reducible rfl); done)))
    (try simp only [Act.put, List.setIfInBounds_toArray, List.set_cons_zero, List.set_cons_succ])
    (refine takeL (i := 3) (v := ?_) rfl (by kernel_rfl) (by decide +kernel) (by decide +kernel) (fun _ _ _ h => h) (Or.inl ⟨by rfl, ?_⟩) (by assumption) ?_; rotate_left; (focus (intro w9 hS9; (try dsimp only at hS9); go_simp; (try with_reducible rfl); done)))
    (try simp only [Act.put, List.setIfInBounds_toArray, List.set_cons_zero, List.set_cons_succ])
    (refine takeL (i := 4) (v := ?_) rfl (by kernel_rfl) (by decide +kernel) (by decide +kernel) (fun _ _ _ h => h) (Or.inl ⟨by rfl, ?_⟩) (by assumption) ?_; rotate_left; (focus (intro w9 hS9; (try dsimp only at hS9); go_simp; (try with_reducible rfl); done)))
    (try simp only [Act.put, List.setIfInBounds_toArray, List.set_cons_zero, List.set_cons_succ])
    (refine takeL (i := 5) (v := ?_) rfl (by kernel_rfl) (by decide +kernel) (by decide +kernel) (fun _ _ _ h => h) (Or.inl ⟨by rfl, ?_⟩) (by assumption) ?_; rotate_left; (focus (intro w9 hS9; (try dsimp only at hS9); go_simp; (try with_reducible rfl); done)))
    (try simp only [Act.put, List.setIfInBounds_toArray, List.set_cons_zero, List.set_cons_succ])
    (refine takeL (i := 6) (v := ?_) rfl (by kernel_rfl) (by decide +kernel) (by decide +kernel) (fun _ _ _ h => h) (Or.inl ⟨by rfl, ?_⟩) (by assumption) ?_; rotate_left; (focus (intro w9 hS9; (try dsimp only at hS9); go_simp; (try with_reducible rfl); done)))
    (try simp only [Act.put, List.setIfInBounds_toArray, List.set_cons_zero, List.set_cons_succ])
    (refine takeL (i := 7) (v := ?_) rfl (by kernel_rfl) (by decide +kernel) (by decide +kernel) (fun _ _ _ h => h) (Or.inl ⟨by rfl, ?_⟩) (by assumption) ?_; rotate_left; (focus (intro w9 hS9; (try dsimp only at hS9); go_simp; (try with_reducible rfl); done)))
    (try simp only [Act.put, List.setIfInBounds_toArray, List.set_cons_zero, List.set_cons_succ])
    (refine takeL (i := 8) (v := ?_) rfl (by kernel_rfl) (by decide +kernel) (by decide +kernel) (fun _ _ _ h => h) (Or.inl ⟨by rfl, ?_⟩) (by assumption) ?_; rotate_left; (focus (intro w9 hS9; (try dsimp only at hS9); go_simp; (try with_reducible rfl); done)))
    (try simp only [Act.put, List.setIfInBounds_toArray, List.set_cons_zero, List.set_cons_succ])
    (refine takeL (i := 9) (v := ?_) rfl (by kernel_rfl) (by decide +kernel) (by decide +kernel) (fun _ _ _ h => h) (Or.inl ⟨by rfl, ?_⟩) (by assumption) ?_; rotate_left; (focus (intro w9 hS9; (try dsimp only at hS9); go_simp; (try with_reducible rfl); done)))
    (try simp only [Act.put, List.setIfInBounds_toArray, List.set_cons_zero, List.set_cons_succ])
    (refine takeL (i := 10) (v := ?_) rfl (by kernel_rfl) (by decide +kernel) (by decide +kernel) (fun _ _ _ h => h) (Or.inl ⟨by rfl, ?_⟩) (by assumption) ?_; rotate_left; (focus (intro w9 hS9; (try dsimp only at hS9); go_simp; (try with_reducible rfl); done)))
    (try simp only [Act.put, List.setIfInBounds_toArray, List.set_cons_zero, List.set_cons_succ])
    (refine takeL (i := 11) (v := ?_) rfl (by kernel_rfl) (by decide +kernel) (by decide +kernel) (fun _ _ _ h => h) (Or.inl ⟨by rfl, ?_⟩) (by assumption) ?_; rotate_left; (focus (intro w9 hS9; (try dsimp only at hS9); go_simp; (try with_reducible rfl); done)))
    (try simp only [Act.put, List.setIfInBounds_toArray, List.set_cons_zero, List.set_cons_succ])
    (refine takeL (i := 13) (v := ?_) rfl (by kernel_rfl) (by decide +kernel) (by decide +kernel) (fun _ _ _ h => h) (Or.inl ⟨by rfl, ?_⟩) (by assumption) ?_; rotate_left; (focus (intro w9 hS9; (try dsimp only at hS9); go_simp; (try with_reducible rfl); done)))
    (try simp only [Act.put, List.setIfInBounds_toArray, List.set_cons_zero, List.set_cons_succ])
    refine wpAnyH_ready (rs := [12]) (by decide +kernel) (by simp) ?_
    refine consL rfl (fun K hK => ?_) ?_
    · (first | (go_at_call 98; (with_reducible refine (router_final0 HV.out HN.out HRX.out).mono ?_); rintro e w3 ⟨Av, cv, rfl, ho, hb⟩; have HQ := Lib.hid hb; have HO := Lib.hid (own_base ho (show w.heap.size + 1 ≤ _ from HYX.out.lt)); replace HRX := Lib.hid (HRX.out.up hb); replace HYX := Lib.hid (HYX.out.up hb); replace HBX := Lib.hid (below_next HBX.out hb); clear hb ho) | (go_at_call 46; (with_reducible refine (router_detected0 HV.out HRX.out).mono ?_); rintro e w4 ⟨vd, xs, rfl, hvd, hxl, hb⟩; have HQ := Lib.hid hb; have HVD := Lib.hid (own_base hvd (show w.heap.size + 1 ≤ _ from HYX.out.lt)); have HXL := Lib.hid hxl; obtain ⟨Aw, cw, rfl, _, _, _⟩ := rd_of_own hvd; replace HO := Lib.hid (own_up HO.out hb); replace HRX := Lib.hid (HRX.out.up hb); replace HYX := Lib.hid (HYX.out.up hb); replace HBX := Lib.hid (below_next HBX.out hb); have HNO := Lib.hid (And.intro (fun e => by have := (HO.out.lt _ e).1; have := HLT.out; omega : (Value.slice Av t.n.toNat cv).ownBlock ≠ some rb) (fun e => by have := (HVD.out.lt _ e).1; have := HLT.out; omega : (Value.slice Aw xs.length cw).ownBlock ≠ some rb)); have r17 := HRX.out.r.cell 17 rfl; have r18 := HRX.out.r.cell 18 rfl; have r19 := HRX.out.r.cell 19 rfl; have rfz := HRX.out.r.frz; clear hb hvd hxl) | (go_simp; first | done | (first | (go_at_call 98; (with_reducible refine (router_final0 HV.out HN.out HRX.out).mono ?_); rintro e w3 ⟨Av, cv, rfl, ho, hb⟩; have HQ := Lib.hid hb; have HO := Lib.hid (own_base ho (show w.heap.size + 1 ≤ _ from HYX.out.lt)); replace HRX := Lib.hid (HRX.out.up hb); replace HYX := Lib.hid (HYX.out.up hb); replace HBX := Lib.hid (below_next HBX.out hb); clear hb ho) | (go_at_call 46; (with_reducible refine (router_detected0 HV.out HRX.out).mono ?_); rintro e w4 ⟨vd, xs, rfl, hvd, hxl, hb⟩; have HQ := Lib.hid hb; have HVD := Lib.hid (own_base hvd (show w.heap.size + 1 ≤ _ from HYX.out.lt)); have HXL := Lib.hid hxl; obtain ⟨Aw, cw, rfl, _, _, _⟩ := rd_of_own hvd; replace HO := Lib.hid (own_up HO.out hb); replace HRX := Lib.hid (HRX.out.up hb); replace HYX := Lib.hid (HYX.out.up hb); replace HBX := Lib.hid (below_next HBX.out hb); have HNO := Lib.hid (And.intro (fun e => by have := (HO.out.lt _ e).1; have := HLT.out; omega : (Value.slice Av t.n.toNat cv).ownBlock ≠ some rb) (fun e => by have := (HVD.out.lt _ e).1; have := HLT.out; omega : (Value.slice Aw xs.length cw).ownBlock ≠ some rb)); have r17 := HRX.out.r.cell 17 rfl; have r18 := HRX.out.r.cell 18 rfl; have r19 := HRX.out.r.cell 19 rfl; have rfz := HRX.out.r.frz; clear hb hvd hxl))) | go_simp)
      (first | (with_reducible refine hK.out _ _ ?_ ?_) | (go_wp2_with fail; refine hK.out _ _ ?_ ?_))
      (focus ((first | with_reducible exact hHeld | with_reducible exact p3_up HQ.out hHeld | exact p3_set (by decide) (by decide) hne (p3_set (by decide) (by decide) hne (p3_set (by decide) (by decide) hne hHeld)))))
      clear hK K hHeld
      intro hHeld
      (try simp only [Act.put, List.setIfInBounds_toArray, List.set_cons_zero, List.set_cons_succ])
      refine wpAnyH_ready (rs := [14]) (by decide +kernel) (by simp) ?_
      refine consL rfl (fun K hK => ?_) ?_
      · (first | (go_at_call 98; (with_reducible refine (router_final0 HV.out HN.out HRX.out).mono ?_); rintro e w3 ⟨Av, cv, rfl, ho, hb⟩; have HQ := Lib.hid hb; have HO := Lib.hid (own_base ho (show w.heap.size + 1 ≤ _ from HYX.out.lt)); replace HRX := Lib.hid (HRX.out.up hb); replace HYX := Lib.hid (HYX.out.up hb); replace HBX := Lib.hid (below_next HBX.out hb); clear hb ho) | (go_at_call 46; (with_reducible refine (router_detected0 HV.out HRX.out).mono ?_); rintro e w4 ⟨vd, xs, rfl, hvd, hxl, hb⟩; have HQ := Lib.hid hb; have HVD := Lib.hid (own_base hvd (show w.heap.size + 1 ≤ _ from HYX.out.lt)); have HXL := Lib.hid hxl; obtain ⟨Aw, cw, rfl, _, _, _⟩ := rd_of_own hvd; replace HO := Lib.hid (own_up HO.out hb); replace HRX := Lib.hid (HRX.out.up hb); replace HYX := Lib.hid (HYX.out.up hb); replace HBX := Lib.hid (below_next HBX.out hb); have HNO := Lib.hid (And.intro (fun e => by have := (HO.out.lt _ e).1; have := HLT.out; omega : (Value.slice Av t.n.toNat cv).ownBlock ≠ some rb) (fun e => by have := (HVD.out.lt _ e).1; have := HLT.out; omega : (Value.slice Aw xs.length cw).ownBlock ≠ some rb)); have r17 := HRX.out.r.cell 17 rfl; have r18 := HRX.out.r.cell 18 rfl; have r19 := HRX.out.r.cell 19 rfl; have rfz := HRX.out.r.frz; clear hb hvd hxl) | (go_simp; first | done | (first | (go_at_call 98; (with_reducible refine (router_final0 HV.out HN.out HRX.out).mono ?_); rintro e w3 ⟨Av, cv, rfl, ho, hb⟩; have HQ := Lib.hid hb; have HO := Lib.hid (own_base ho (show w.heap.size + 1 ≤ _ from HYX.out.lt)); replace HRX := Lib.hid (HRX.out.up hb); replace HYX := Lib.hid (HYX.out.up hb); replace HBX := Lib.hid (below_next HBX.out hb); clear hb ho) | (go_at_call 46; (with_reducible refine (router_detected0 HV.out HRX.out).mono ?_); rintro e w4 ⟨vd, xs, rfl, hvd, hxl, hb⟩; have HQ := Lib.hid hb; have HVD := Lib.hid (own_base hvd (show w.heap.size + 1 ≤ _ from HYX.out.lt)); have HXL := Lib.hid hxl; obtain ⟨Aw, cw, rfl, _, _, _⟩ := rd_of_own hvd; replace HO := Lib.hid (own_up HO.out hb); replace HRX := Lib.hid (HRX.out.up hb); replace HYX := Lib.hid (HYX.out.up hb); replace HBX := Lib.hid (below_next HBX.out hb); have HNO := Lib.hid (And.intro (fun e => by have := (HO.out.lt _ e).1; have := HLT.out; omega : (Value.slice Av t.n.toNat cv).ownBlock ≠ some rb) (fun e => by have := (HVD.out.lt _ e).1; have := HLT.out; omega : (Value.slice Aw xs.length cw).ownBlock ≠ some rb)); have r17 := HRX.out.r.cell 17 rfl; have r18 := HRX.out.r.cell 18 rfl; have r19 := HRX.out.r.cell 19 rfl; have rfz := HRX.out.r.frz; clear hb hvd hxl))) | go_simp)
        (first | (with_reducible refine hK.out _ _ ?_ ?_) | (go_wp2_with fail; refine hK.out _ _ ?_ ?_))
        (focus ((first | with_reducible exact hHeld | with_reducible exact p3_up HQ.out hHeld | exact p3_set (by decide) (by decide) hne (p3_set (by decide) (by decide) hne (p3_set (by decide) (by decide) hne hHeld)))))
        clear hK K hHeld
        intro hHeld
        (try simp only [Act.put, List.setIfInBounds_toArray, List.set_cons_zero, List.set_cons_succ])
        (refine takeL (i := 15) (v := ?_) rfl (by kernel_rfl) (by decide +kernel) (by decide +kernel) (fun _ _ _ h => h) (Or.inl ⟨by rfl, ?_⟩) (by assumption) ?_; rotate_left; (focus (intro w9 hS9; (try dsimp only at hS9); go_simp; (try with_reducible rfl); done)))
        (try simp only [Act.put, List.setIfInBounds_toArray, List.set_cons_zero, List.set_cons_succ])
        (refine takeL (i := 16) (v := ?_) rfl (by kernel_rfl) (by decide +kernel) (by decide +kernel) (fun _ _ _ h => h) (Or.inl ⟨by rfl, ?_⟩) (by assumption) ?_; rotate_left; (focus (intro w9 hS9; (try dsimp only at hS9); go_simp; (try with_reducible rfl); done)))
        (try simp only [Act.put, List.setIfInBounds_toArray, List.set_cons_zero, List.set_cons_succ])
        (refine takeL (i := 17) (v := ?_) rfl (by kernel_rfl) (by decide +kernel) (by decide +kernel) (fun _ _ _ h => h) (Or.inl ⟨by rfl, ?_⟩) (by assumption) ?_; rotate_left; (focus (intro w9 hS9; (try dsimp only at hS9); go_simp; (try with_reducible rfl); done)))
        (try simp only [Act.put, List.setIfInBounds_toArray, List.set_cons_zero, List.set_cons_succ])
        refine wpAnyH_ready (rs := [18]) (by decide +kernel) (by simp) ?_
        refine consL rfl (fun K hK => ?_) ?_
        · (first | (go_at_call 98; (with_reducible refine (router_final0 HV.out HN.out HRX.out).mono ?_); rintro e w3 ⟨Av, cv, rfl, ho, hb⟩; have HQ := Lib.hid hb; have HO := Lib.hid (own_base ho (show w.heap.size + 1 ≤ _ from HYX.out.lt)); replace HRX := Lib.hid (HRX.out.up hb); replace HYX := Lib.hid (HYX.out.up hb); replace HBX := Lib.hid (below_next HBX.out hb); clear hb ho) | (go_at_call 46; (with_reducible refine (router_detected0 HV.out HRX.out).mono ?_); rintro e w4 ⟨vd, xs, rfl, hvd, hxl, hb⟩; have HQ := Lib.hid hb; have HVD := Lib.hid (own_base hvd (show w.heap.size + 1 ≤ _ from HYX.out.lt)); have HXL := Lib.hid hxl; obtain ⟨Aw, cw, rfl, _, _, _⟩ := rd_of_own hvd; replace HO := Lib.hid (own_up HO.out hb); replace HRX := Lib.hid (HRX.out.up hb); replace HYX := Lib.hid (HYX.out.up hb); replace HBX := Lib.hid (below_next HBX.out hb); have HNO := Lib.hid (And.intro (fun e => by have := (HO.out.lt _ e).1; have := HLT.out; omega : (Value.slice Av t.n.toNat cv).ownBlock ≠ some rb) (fun e => by have := (HVD.out.lt _ e).1; have := HLT.out; omega : (Value.slice Aw xs.length cw).ownBlock ≠ some rb)); have r17 := HRX.out.r.cell 17 rfl; have r18 := HRX.out.r.cell 18 rfl; have r19 := HRX.out.r.cell 19 rfl; have rfz := HRX.out.r.frz; clear hb hvd hxl) | (go_simp; first | done | (first | (go_at_call 98; (with_reducible refine (router_final0 HV.out HN.out HRX.out).mono ?_); rintro e w3 ⟨Av, cv, rfl, ho, hb⟩; have HQ := Lib.hid hb; have HO := Lib.hid (own_base ho (show w.heap.size + 1 ≤ _ from HYX.out.lt)); replace HRX := Lib.hid (HRX.out.up hb); replace HYX := Lib.hid (HYX.out.up hb); replace HBX := Lib.hid (below_next HBX.out hb); clear hb ho) | (go_at_call 46; (with_reducible refine (router_detected0 HV.out HRX.out).mono ?_); rintro e w4 ⟨vd, xs, rfl, hvd, hxl, hb⟩; have HQ := Lib.hid hb; have HVD := Lib.hid (own_base hvd (show w.heap.size + 1 ≤ _ from HYX.out.lt)); have HXL := Lib.hid hxl; obtain ⟨Aw, cw, rfl, _, _, _⟩ := rd_of_own hvd; replace HO := Lib.hid (own_up HO.out hb); replace HRX := Lib.hid (HRX.out.up hb); replace HYX := Lib.hid (HYX.out.up hb); replace HBX := Lib.hid (below_next HBX.out hb); have HNO := Lib.hid (And.intro (fun e => by have := (HO.out.lt _ e).1; have := HLT.out; omega : (Value.slice Av t.n.toNat cv).ownBlock ≠ some rb) (fun e => by have := (HVD.out.lt _ e).1; have := HLT.out; omega : (Value.slice Aw xs.length cw).ownBlock ≠ some rb)); have r17 := HRX.out.r.cell 17 rfl; have r18 := HRX.out.r.cell 18 rfl; have r19 := HRX.out.r.cell 19 rfl; have rfz := HRX.out.r.frz; clear hb hvd hxl))) | go_simp)
          (first | (with_reducible refine hK.out _ _ ?_ ?_) | (go_wp2_with fail; refine hK.out _ _ ?_ ?_))
          (focus ((first | with_reducible exact hHeld | with_reducible exact p3_up HQ.out hHeld | exact p3_set (by decide) (by decide) hne (p3_set (by decide) (by decide) hne (p3_set (by decide) (by decide) hne hHeld)))))
          clear hK K hHeld
          intro hHeld
          (try simp only [Act.put, List.setIfInBounds_toArray, List.set_cons_zero, List.set_cons_succ])
          refine wpAnyH_done (by decide +kernel) ?_ _
          go_upto_region 8 with fail
          refine wp_named3 (fun Y => Bl 99 rb #[.int .i64 t.n, .slice C1 t.ov.length e1, .slice C2 t.ls.length e2, .int .i64 v, .int .i64 g, .int .i64 s, .pointer (some ⟨sb, 0, none⟩), .int .i64 3, .int .i64 0, .int .i64 t.n, .slice B1 (viewT t v).ov.length d1, .slice B2 t.ls.length d2, .slice D (2 * t.ls.length) (2 * t.ls.length), .int .i64 t.n, .slice B1 (viewT t v).ov.length d1, .slice B2 t.ls.length d2, .slice D (2 * t.ls.length) (2 * t.ls.length), .int .i64 v, .slice Av t.n.toNat cv, .slice Aw xs.length cw, .bool false] Y ∧ Bl 52 w.heap.size #[.int .i64 0, .slice none 0 0, .slice none 0 0] Y ∧ Y.ownsRow (w.heap.size + 1) 115 3 (.slice Av t.n.toNat cv) t.n.toNat (ents t.n.toNat) ∧ Y.ownsRow (w.heap.size + 1) 3 1 (.slice Aw xs.length cw) xs.length (xs.map (Value.int .i64)) ∧ Kp [rb] w Y) ⟨((HRX.out.r.set 17 _ rfl).set 18 _ rfl).set 19 _ rfl, ((HYX.out.other hwr _).other hwr _).other hwr _, own_setCell (own_setCell (own_setCell HO.out HNO.out.1 _) HNO.out.1 _) HNO.out.1 _, own_setCell (own_setCell (own_setCell HVD.out HNO.out.2 _) HNO.out.2 _) HNO.out.2 _, Kset (Kset (Kset (Kp.of HBX.out) (.inl (by simp))) (.inl (by simp))) (.inl (by simp))⟩ ?_
          rintro Y ⟨hY1, hY2, hY3, hY4, hY5⟩
          have HRY := Lib.hid hY1
          have HYY := Lib.hid hY2
          have HOY := Lib.hid hY3
          have HDY := Lib.hid hY4
          have HKY := Lib.hid hY5
          clear hY1 hY2 hY3 hY4 hY5 r17 r18 r19 rfz hHeld
          obtain ⟨r0, r1, r2, r3, r4, r5, r6, r7, r8, r9, r10, r11, r12, r13, r14, r15, r16, r17, r18, r19, r20, fr⟩ := HRY.out.c21
          obtain ⟨y0, y1, y2, fy⟩ := HYY.out.c3
          clear r0 r1 r2 r3 r4 r5 r6 r7 r8 r9 r10 r11 r12 r13 r14 r15 r16
          go_wp2_with fail
          have n1 : (Value.slice Av t.n.toNat cv).ownBlock ≠ some w.heap.size := fun e => by have := (HOY.out.lt _ e).1; omega
          have n2 : (Value.slice Aw xs.length cw).ownBlock ≠ some w.heap.size := fun e => by have := (HDY.out.lt _ e).1; omega
          have n3 : (Value.slice Av t.n.toNat cv).ownBlock ≠ some rb := fun e => by have := (HOY.out.lt _ e).1; have := HLT.out; omega
          have n4 : (Value.slice Aw xs.length cw).ownBlock ≠ some rb := fun e => by have := (HDY.out.lt _ e).1; have := HLT.out; omega
          exact bodyPost_ret (v := .agg #[.int .i64 v, .slice Av t.n.toNat cv, .slice Aw xs.length cw]) (by simp [results, Tryz.results40, go_sem, y0, y1, y2]) rfl ⟨Av, Aw, cv, cw, xs, rfl, own_base (own_setCell (own_setCell (own_setCell (own_setCell HOY.out n3 _) n1 _) n1 _) n1 _) (Nat.le_succ _), own_base (own_setCell (own_setCell (own_setCell (own_setCell HDY.out n4 _) n2 _) n2 _) n2 _) (Nat.le_succ _), HXL.out, Kset (Kset (Kset (Kset HKY.out (.inl (by simp))) (.inr (Nat.le_refl _))) (.inr (Nat.le_refl _))) (.inr (Nat.le_refl _))⟩
        exact AllReadyH.nil
      exact AllReadyH.nil
    exact AllReadyH.nil
end
end Go.Proofs.YtenhliibmcmnbaaGreat
