/-
  waypointref55.Line for valid events of some kinds: what it returns.
-/
import Derived.Test.YtjcnjnonhncelaaDoorLineP
namespace Go.Proofs.YtjcnjnonhncelaaDoor
open Go.RowKit Go.Sort
set_option linter.unusedSimpArgs false
set_option linter.unusedVariables false

set_option maxRecDepth 100000 in
set_option maxHeartbeats 4000000 in
theorem line_5 (t n a p r : Int) (hok : evOk ⟨t, 5, n, a, p, r⟩ = true) (w : World) : Calls Tryd.prog 33 #[.agg #[.int .i64 t, .int .i64 5, .int .i64 n, .int .i64 a, .int .i64 p, .int .i64 r]] w fun e w' => e = .returned (.string ⟨(evT ⟨t, 5, n, a, p, r⟩).toArray⟩) ∧ Below w.heap.size w w' := by
  obtain ⟨ba2, ba3⟩ := evOk_5 hok
  obtain ⟨bt0, bt1, bn0, bn1, ba0, ba1, bp0, bp1, br0, br1⟩ := evOk_bd hok
  simp only at bt0 bt1 bn0 bn1 ba0 ba1 bp0 bp1 br0 br1
  have hit := Lib.itoa_length_le t (by omega) (by omega)
  have hin := Lib.itoa_length_le n (by omega) (by omega)
  have hia := Lib.itoa_length_le a (by omega) (by omega)
  have hip := Lib.itoa_length_le p (by omega) (by omega)
  have hir := Lib.itoa_length_le r (by omega) (by omega)
  clear hok
  obtain ⟨vx, hvx⟩ : ∃ vx, componentsL[a.toNat]? = some vx := ⟨_, List.getElem?_eq_getElem (by simp [componentsL]; omega)⟩
  have hvxl : vx.length ≤ 20 := nm_len componentsL (by decide) hvx
  have HVM := Lib.hid (nmL_at hvx)
  have HV := Lib.hid (tail_at (by omega) hvx)
  clear hvx
  obtain ⟨U0, hU0⟩ : ∃ U, U = Lib.itoa t ++ [32] := ⟨_, rfl⟩
  have lU0 : U0.length ≤ 44 := by rw [hU0]; simp only [List.length_append, List.length_cons, List.length_nil]; omega
  have aU0 : ∀ w', (Op.stringOp .add ⟨(Lib.itoa t).toArray⟩ ⟨#[32]⟩).run Tryd.prog w' = .ok (.string ⟨U0.toArray⟩) w' := fun w' => by rw [hU0]; exact run_string_add_lists w' _ ([32]) (by omega) (by first | omega | (simp only [List.length_cons, List.length_nil]; omega))
  have HU0 := Lib.hid hU0
  clear hU0
  obtain ⟨U1, hU1⟩ : ∃ U, U = U0 ++ [100, 111, 119, 110, 32] := ⟨_, rfl⟩
  have lU1 : U1.length ≤ 66 := by rw [hU1]; simp only [List.length_append, List.length_cons, List.length_nil]; omega
  have aU1 : ∀ w', (Op.stringOp .add ⟨(U0).toArray⟩ ⟨#[100, 111, 119, 110, 32]⟩).run Tryd.prog w' = .ok (.string ⟨U1.toArray⟩) w' := fun w' => by rw [hU1]; exact run_string_add_lists w' _ ([100, 111, 119, 110, 32]) (by omega) (by first | omega | (simp only [List.length_cons, List.length_nil]; omega))
  have HU1 := Lib.hid hU1
  clear hU1
  obtain ⟨U2, hU2⟩ : ∃ U, U = U1 ++ vx := ⟨_, rfl⟩
  have lU2 : U2.length ≤ 88 := by rw [hU2]; simp only [List.length_append, List.length_cons, List.length_nil]; omega
  have aU2 : ∀ w', (Op.stringOp .add ⟨(U1).toArray⟩ ⟨vx.toArray⟩).run Tryd.prog w' = .ok (.string ⟨U2.toArray⟩) w' := fun w' => by rw [hU2]; exact run_string_add_lists w' _ (vx) (by omega) (by first | omega | (simp only [List.length_cons, List.length_nil]; omega))
  have HU2 := Lib.hid hU2
  clear hU2
  obtain ⟨U3, hU3⟩ : ∃ U, U = U2 ++ [32] := ⟨_, rfl⟩
  have lU3 : U3.length ≤ 110 := by rw [hU3]; simp only [List.length_append, List.length_cons, List.length_nil]; omega
  have aU3 : ∀ w', (Op.stringOp .add ⟨(U2).toArray⟩ ⟨#[32]⟩).run Tryd.prog w' = .ok (.string ⟨U3.toArray⟩) w' := fun w' => by rw [hU3]; exact run_string_add_lists w' _ ([32]) (by omega) (by first | omega | (simp only [List.length_cons, List.length_nil]; omega))
  have HU3 := Lib.hid hU3
  clear hU3
  obtain ⟨U4, hU4⟩ : ∃ U, U = U3 ++ Lib.itoa r := ⟨_, rfl⟩
  have lU4 : U4.length ≤ 132 := by rw [hU4]; simp only [List.length_append, List.length_cons, List.length_nil]; omega
  have aU4 : ∀ w', (Op.stringOp .add ⟨(U3).toArray⟩ ⟨(Lib.itoa r).toArray⟩).run Tryd.prog w' = .ok (.string ⟨U4.toArray⟩) w' := fun w' => by rw [hU4]; exact run_string_add_lists w' _ (Lib.itoa r) (by omega) (by first | omega | (simp only [List.length_cons, List.length_nil]; omega))
  have HU4 := Lib.hid hU4
  clear hU4
  have HDr := Lib.hid (ref55_digits r (by omega) (by omega))
  have HDt := Lib.hid (ref55_digits t (by omega) (by omega))
  have HB := below_box w (.cells #[.int .i64 t, .int .i64 5, .int .i64 n, .int .i64 a, .int .i64 p, .int .i64 r] 40)
  have HE : Hid (EvAt (w.alloc (.cells #[.int .i64 t, .int .i64 5, .int .i64 n, .int .i64 a, .int .i64 p, .int .i64 r] 40)) w.heap.size t 5 n a p r) := Lib.hid ⟨by simp, by simp, by simp, by simp, by simp, by simp⟩
  have s0 := HE.out.s0
  have j0 : (0 : Int) ≤ a - 1 := by omega
  have j1 : a - 1 < 3 := by omega
  have j2 : a < 4 := by omega
  have jw : IntKind.i64.wrap (a - 1) = a - 1 := IntWalk.i64_in _ (by omega)
  go_enter Tryd.func33, Tryd.ntmps33
  go_wp2_with fail
  refine (HDt.out _).mono ?_
  rintro e w2 ⟨rfl, hb2⟩
  have HX := Lib.hid (EvS.up (w0 := w) ⟨HE.out, HB⟩ hb2)
  have s1 := HX.out.ev.s1
  clear s0 hb2 HE HB
  go_wp2_with fail
  have HXd := Lib.hid (HX.out.up (below_drawn _))
  refine wp_region_held_drew (S := (fun w' => w'.cell? ⟨w.heap.size, 2, none⟩ = some (.int .i64 n) ∧ w'.cell? ⟨w.heap.size, 3, none⟩ = some (.int .i64 a) ∧ w'.cell? ⟨w.heap.size, 4, none⟩ = some (.int .i64 p) ∧ w'.cell? ⟨w.heap.size, 5, none⟩ = some (.int .i64 r) ∧ Hid (EvS w t 5 n a p r w'))) (by kernel_rfl) ?_ (fun hHeld => ?_)
  · (first | exact EvS.keep (by assumption) | exact EvS.keepA (by assumption))
  repeat' (first | ((first | (refine takeL (i := 0) (v := ?_) rfl (by kernel_rfl) (by decide +kernel) (by decide +kernel) (fun _ _ _ h => h) (Or.inl ⟨by rfl, ?_⟩) (by assumption) ?_; rotate_left; (focus (intro w9 hS9; (try dsimp only at hS9); go_simp; (try with_reducible rfl); done))) | (refine takeL (i := 1) (v := ?_) rfl (by kernel_rfl) (by decide +kernel) (by decide +kernel) (fun _ _ _ h => h) (Or.inl ⟨by rfl, ?_⟩) (by assumption) ?_; rotate_left; (focus (intro w9 hS9; (try dsimp only at hS9); go_simp; (try with_reducible rfl); done))) | (refine takeL (i := 2) (v := ?_) rfl (by kernel_rfl) (by decide +kernel) (by decide +kernel) (fun _ _ _ h => h) (Or.inl ⟨by rfl, ?_⟩) (by assumption) ?_; rotate_left; (focus (intro w9 hS9; (try dsimp only at hS9); go_simp; (try with_reducible rfl); done))) | (refine takeL (i := 3) (v := ?_) rfl (by kernel_rfl) (by decide +kernel) (by decide +kernel) (fun _ _ _ h => h) (Or.inl ⟨by rfl, ?_⟩) (by assumption) ?_; rotate_left; (focus (intro w9 hS9; (try dsimp only at hS9); go_simp; (try with_reducible rfl); done))) | (refine takeL (i := 4) (v := ?_) rfl (by kernel_rfl) (by decide +kernel) (by decide +kernel) (fun _ _ _ h => h) (Or.inl ⟨by rfl, ?_⟩) (by assumption) ?_; rotate_left; (focus (intro w9 hS9; (try dsimp only at hS9); go_simp; (try with_reducible rfl); done))) | (refine takeL (i := 5) (v := ?_) rfl (by kernel_rfl) (by decide +kernel) (by decide +kernel) (fun _ _ _ h => h) (Or.inl ⟨by rfl, ?_⟩) (by assumption) ?_; rotate_left; (focus (intro w9 hS9; (try dsimp only at hS9); go_simp; (try with_reducible rfl); done))) | (refine takeL (i := 6) (v := ?_) rfl (by kernel_rfl) (by decide +kernel) (by decide +kernel) (fun _ _ _ h => h) (Or.inl ⟨by rfl, ?_⟩) (by assumption) ?_; rotate_left; (focus (intro w9 hS9; (try dsimp only at hS9); go_simp; (try with_reducible rfl); done))) | (refine takeL (i := 7) (v := ?_) rfl (by kernel_rfl) (by decide +kernel) (by decide +kernel) (fun _ _ _ h => h) (Or.inl ⟨by rfl, ?_⟩) (by assumption) ?_; rotate_left; (focus (intro w9 hS9; (try dsimp only at hS9); go_simp; (try with_reducible rfl); done))) | (refine takeL (i := 8) (v := ?_) rfl (by kernel_rfl) (by decide +kernel) (by decide +kernel) (fun _ _ _ h => h) (Or.inl ⟨by rfl, ?_⟩) (by assumption) ?_; rotate_left; (focus (intro w9 hS9; (try dsimp only at hS9); go_simp; (try with_reducible rfl); done))) | (refine takeL (i := 9) (v := ?_) rfl (by kernel_rfl) (by decide +kernel) (by decide +kernel) (fun _ _ _ h => h) (Or.inl ⟨by rfl, ?_⟩) (by assumption) ?_; rotate_left; (focus (intro w9 hS9; (try dsimp only at hS9); go_simp; (try with_reducible rfl); done))) | (refine takeL (i := 10) (v := ?_) rfl (by kernel_rfl) (by decide +kernel) (by decide +kernel) (fun _ _ _ h => h) (Or.inl ⟨by rfl, ?_⟩) (by assumption) ?_; rotate_left; (focus (intro w9 hS9; (try dsimp only at hS9); go_simp; (try with_reducible rfl); done))) | (refine takeL (i := 11) (v := ?_) rfl (by kernel_rfl) (by decide +kernel) (by decide +kernel) (fun _ _ _ h => h) (Or.inl ⟨by rfl, ?_⟩) (by assumption) ?_; rotate_left; (focus (intro w9 hS9; (try dsimp only at hS9); go_simp; (try with_reducible rfl); done))) | (refine takeL (i := 12) (v := ?_) rfl (by kernel_rfl) (by decide +kernel) (by decide +kernel) (fun _ _ _ h => h) (Or.inl ⟨by rfl, ?_⟩) (by assumption) ?_; rotate_left; (focus (intro w9 hS9; (try dsimp only at hS9); go_simp; (try with_reducible rfl); done))) | (refine takeL (i := 13) (v := ?_) rfl (by kernel_rfl) (by decide +kernel) (by decide +kernel) (fun _ _ _ h => h) (Or.inl ⟨by rfl, ?_⟩) (by assumption) ?_; rotate_left; (focus (intro w9 hS9; (try dsimp only at hS9); go_simp; (try with_reducible rfl); done))) | (refine takeL (i := 14) (v := ?_) rfl (by kernel_rfl) (by decide +kernel) (by decide +kernel) (fun _ _ _ h => h) (Or.inl ⟨by rfl, ?_⟩) (by assumption) ?_; rotate_left; (focus (intro w9 hS9; (try dsimp only at hS9); go_simp; (try with_reducible rfl); done))) | fail); (try simp only [Act.put, List.setIfInBounds_toArray, List.set_cons_zero, List.set_cons_succ])) | ((first | (refine wpAnyH_ready (rs := [2]) (by decide +kernel) (by simp) ?_; refine consL rfl (fun K hK => ?_) ?_; rotate_left; exact AllReadyH.nil) | (refine wpAnyH_ready (rs := [6]) (by decide +kernel) (by simp) ?_; refine consL rfl (fun K hK => ?_) ?_; rotate_left; exact AllReadyH.nil) | (refine wpAnyH_ready (rs := [7]) (by decide +kernel) (by simp) ?_; refine consL rfl (fun K hK => ?_) ?_; rotate_left; exact AllReadyH.nil) | (refine wpAnyH_ready (rs := [12]) (by decide +kernel) (by simp) ?_; refine consL rfl (fun K hK => ?_) ?_; rotate_left; exact AllReadyH.nil) | (refine wpAnyH_ready (rs := [2, 6]) (by decide +kernel) (by simp) ?_; refine consL rfl (fun K hK => ?_) ?_; rotate_left; refine consL rfl (fun K hK => ?_) ?_; rotate_left; exact AllReadyH.nil) | (refine wpAnyH_ready (rs := [2, 7]) (by decide +kernel) (by simp) ?_; refine consL rfl (fun K hK => ?_) ?_; rotate_left; refine consL rfl (fun K hK => ?_) ?_; rotate_left; exact AllReadyH.nil) | (refine wpAnyH_ready (rs := [2, 12]) (by decide +kernel) (by simp) ?_; refine consL rfl (fun K hK => ?_) ?_; rotate_left; refine consL rfl (fun K hK => ?_) ?_; rotate_left; exact AllReadyH.nil) | (refine wpAnyH_ready (rs := [6, 7]) (by decide +kernel) (by simp) ?_; refine consL rfl (fun K hK => ?_) ?_; rotate_left; refine consL rfl (fun K hK => ?_) ?_; rotate_left; exact AllReadyH.nil) | (refine wpAnyH_ready (rs := [6, 12]) (by decide +kernel) (by simp) ?_; refine consL rfl (fun K hK => ?_) ?_; rotate_left; refine consL rfl (fun K hK => ?_) ?_; rotate_left; exact AllReadyH.nil) | (refine wpAnyH_ready (rs := [7, 12]) (by decide +kernel) (by simp) ?_; refine consL rfl (fun K hK => ?_) ?_; rotate_left; refine consL rfl (fun K hK => ?_) ?_; rotate_left; exact AllReadyH.nil) | fail); all_goals ((first | (go_at_call 55; (first | (with_reducible refine (HDr.out _).mono ?_)); rintro e wx ⟨rfl, hb⟩; (first | have HX := Lib.hid (EvS.up (w0 := w) (Hid.out hHeld.2.2.2.2) hb) | have HX := Lib.hid (EvS.up (w0 := w) (t := t) (k := 5) (n := n) (a := a) (p := p) (r := r) (Hid.out (by assumption)) hb)); (try have cv := cell_up hb cv); (try have cw := cell_up hb cw); (try have cw := cell_up hb (two_0 _ _ _ _)); (try have cx := cell_up hb cx); (try have cx := cell_up hb (two_1 _ _ _ _)); clear hb) | (go_at_call 57; refine (ref55_kinds _).mono ?_; rintro e wx ⟨rfl, hc, hb⟩; have HX := Lib.hid (EvS.up (w0 := w) (t := t) (k := 5) (n := n) (a := a) (p := p) (r := r) (Hid.out (by assumption)) hb); have cv := hc _ vx HV.out; (try simp only [heap_drawn] at cv); clear hc hb) | (go_simp; first | done | (first | (go_at_call 55; (first | (with_reducible refine (HDr.out _).mono ?_)); rintro e wx ⟨rfl, hb⟩; (first | have HX := Lib.hid (EvS.up (w0 := w) (Hid.out hHeld.2.2.2.2) hb) | have HX := Lib.hid (EvS.up (w0 := w) (t := t) (k := 5) (n := n) (a := a) (p := p) (r := r) (Hid.out (by assumption)) hb)); (try have cv := cell_up hb cv); (try have cw := cell_up hb cw); (try have cw := cell_up hb (two_0 _ _ _ _)); (try have cx := cell_up hb cx); (try have cx := cell_up hb (two_1 _ _ _ _)); clear hb) | (go_at_call 57; refine (ref55_kinds _).mono ?_; rintro e wx ⟨rfl, hc, hb⟩; have HX := Lib.hid (EvS.up (w0 := w) (t := t) (k := 5) (n := n) (a := a) (p := p) (r := r) (Hid.out (by assumption)) hb); have cv := hc _ vx HV.out; (try simp only [heap_drawn] at cv); clear hc hb))) | go_simp); (first | (with_reducible refine hK.out _ _ ?_ ?_) | (go_wp2_with fail; refine hK.out _ _ ?_ ?_)); (focus ((first | exact EvS.keep (by assumption) | exact EvS.keepA (by assumption)))); clear hK K hHeld; intro hHeld; (try simp only [Act.put, List.setIfInBounds_toArray, List.set_cons_zero, List.set_cons_succ]))) | (refine wpAnyH_done (by decide +kernel) ?_ _) | fail)
  all_goals
    have HXz := hHeld; clear hHeld
    obtain ⟨s2, s3, s4, s5, HY⟩ := HXz
    clear jw
    go_wp2_with fail
    go_ret
    exact ⟨by simp [evT, evWs, wsT, show nmL verbsL 5 = [100, 111, 119, 110] from rfl, HVM.out, HU0.out, HU1.out, HU2.out, HU3.out, HU4.out], HY.out.hb⟩
set_option maxRecDepth 100000 in
set_option maxHeartbeats 4000000 in
theorem line_6 (t n a p r : Int) (hok : evOk ⟨t, 6, n, a, p, r⟩ = true) (w : World) : Calls Tryd.prog 33 #[.agg #[.int .i64 t, .int .i64 6, .int .i64 n, .int .i64 a, .int .i64 p, .int .i64 r]] w fun e w' => e = .returned (.string ⟨(evT ⟨t, 6, n, a, p, r⟩).toArray⟩) ∧ Below w.heap.size w w' := by
  obtain ⟨ba2, ba3⟩ := evOk_6 hok
  obtain ⟨bt0, bt1, bn0, bn1, ba0, ba1, bp0, bp1, br0, br1⟩ := evOk_bd hok
  simp only at bt0 bt1 bn0 bn1 ba0 ba1 bp0 bp1 br0 br1
  have hit := Lib.itoa_length_le t (by omega) (by omega)
  have hin := Lib.itoa_length_le n (by omega) (by omega)
  have hia := Lib.itoa_length_le a (by omega) (by omega)
  have hip := Lib.itoa_length_le p (by omega) (by omega)
  have hir := Lib.itoa_length_le r (by omega) (by omega)
  clear hok
  obtain ⟨vx, hvx⟩ : ∃ vx, componentsL[a.toNat]? = some vx := ⟨_, List.getElem?_eq_getElem (by simp [componentsL]; omega)⟩
  have hvxl : vx.length ≤ 20 := nm_len componentsL (by decide) hvx
  have HVM := Lib.hid (nmL_at hvx)
  have HV := Lib.hid (tail_at (by omega) hvx)
  clear hvx
  obtain ⟨U0, hU0⟩ : ∃ U, U = Lib.itoa t ++ [32] := ⟨_, rfl⟩
  have lU0 : U0.length ≤ 44 := by rw [hU0]; simp only [List.length_append, List.length_cons, List.length_nil]; omega
  have aU0 : ∀ w', (Op.stringOp .add ⟨(Lib.itoa t).toArray⟩ ⟨#[32]⟩).run Tryd.prog w' = .ok (.string ⟨U0.toArray⟩) w' := fun w' => by rw [hU0]; exact run_string_add_lists w' _ ([32]) (by omega) (by first | omega | (simp only [List.length_cons, List.length_nil]; omega))
  have HU0 := Lib.hid hU0
  clear hU0
  obtain ⟨U1, hU1⟩ : ∃ U, U = U0 ++ [117, 112, 32] := ⟨_, rfl⟩
  have lU1 : U1.length ≤ 66 := by rw [hU1]; simp only [List.length_append, List.length_cons, List.length_nil]; omega
  have aU1 : ∀ w', (Op.stringOp .add ⟨(U0).toArray⟩ ⟨#[117, 112, 32]⟩).run Tryd.prog w' = .ok (.string ⟨U1.toArray⟩) w' := fun w' => by rw [hU1]; exact run_string_add_lists w' _ ([117, 112, 32]) (by omega) (by first | omega | (simp only [List.length_cons, List.length_nil]; omega))
  have HU1 := Lib.hid hU1
  clear hU1
  obtain ⟨U2, hU2⟩ : ∃ U, U = U1 ++ vx := ⟨_, rfl⟩
  have lU2 : U2.length ≤ 88 := by rw [hU2]; simp only [List.length_append, List.length_cons, List.length_nil]; omega
  have aU2 : ∀ w', (Op.stringOp .add ⟨(U1).toArray⟩ ⟨vx.toArray⟩).run Tryd.prog w' = .ok (.string ⟨U2.toArray⟩) w' := fun w' => by rw [hU2]; exact run_string_add_lists w' _ (vx) (by omega) (by first | omega | (simp only [List.length_cons, List.length_nil]; omega))
  have HU2 := Lib.hid hU2
  clear hU2
  obtain ⟨U3, hU3⟩ : ∃ U, U = U2 ++ [32] := ⟨_, rfl⟩
  have lU3 : U3.length ≤ 110 := by rw [hU3]; simp only [List.length_append, List.length_cons, List.length_nil]; omega
  have aU3 : ∀ w', (Op.stringOp .add ⟨(U2).toArray⟩ ⟨#[32]⟩).run Tryd.prog w' = .ok (.string ⟨U3.toArray⟩) w' := fun w' => by rw [hU3]; exact run_string_add_lists w' _ ([32]) (by omega) (by first | omega | (simp only [List.length_cons, List.length_nil]; omega))
  have HU3 := Lib.hid hU3
  clear hU3
  obtain ⟨U4, hU4⟩ : ∃ U, U = U3 ++ Lib.itoa r := ⟨_, rfl⟩
  have lU4 : U4.length ≤ 132 := by rw [hU4]; simp only [List.length_append, List.length_cons, List.length_nil]; omega
  have aU4 : ∀ w', (Op.stringOp .add ⟨(U3).toArray⟩ ⟨(Lib.itoa r).toArray⟩).run Tryd.prog w' = .ok (.string ⟨U4.toArray⟩) w' := fun w' => by rw [hU4]; exact run_string_add_lists w' _ (Lib.itoa r) (by omega) (by first | omega | (simp only [List.length_cons, List.length_nil]; omega))
  have HU4 := Lib.hid hU4
  clear hU4
  have HDr := Lib.hid (ref55_digits r (by omega) (by omega))
  have HDt := Lib.hid (ref55_digits t (by omega) (by omega))
  have HB := below_box w (.cells #[.int .i64 t, .int .i64 6, .int .i64 n, .int .i64 a, .int .i64 p, .int .i64 r] 40)
  have HE : Hid (EvAt (w.alloc (.cells #[.int .i64 t, .int .i64 6, .int .i64 n, .int .i64 a, .int .i64 p, .int .i64 r] 40)) w.heap.size t 6 n a p r) := Lib.hid ⟨by simp, by simp, by simp, by simp, by simp, by simp⟩
  have s0 := HE.out.s0
  have j0 : (0 : Int) ≤ a - 1 := by omega
  have j1 : a - 1 < 3 := by omega
  have j2 : a < 4 := by omega
  have jw : IntKind.i64.wrap (a - 1) = a - 1 := IntWalk.i64_in _ (by omega)
  go_enter Tryd.func33, Tryd.ntmps33
  go_wp2_with fail
  refine (HDt.out _).mono ?_
  rintro e w2 ⟨rfl, hb2⟩
  have HX := Lib.hid (EvS.up (w0 := w) ⟨HE.out, HB⟩ hb2)
  have s1 := HX.out.ev.s1
  clear s0 hb2 HE HB
  go_wp2_with fail
  have HXd := Lib.hid (HX.out.up (below_drawn _))
  refine wp_region_held_drew (S := (fun w' => w'.cell? ⟨w.heap.size, 2, none⟩ = some (.int .i64 n) ∧ w'.cell? ⟨w.heap.size, 3, none⟩ = some (.int .i64 a) ∧ w'.cell? ⟨w.heap.size, 4, none⟩ = some (.int .i64 p) ∧ w'.cell? ⟨w.heap.size, 5, none⟩ = some (.int .i64 r) ∧ Hid (EvS w t 6 n a p r w'))) (by kernel_rfl) ?_ (fun hHeld => ?_)
  · (first | exact EvS.keep (by assumption) | exact EvS.keepA (by assumption))
  repeat' (first | ((first | (refine takeL (i := 0) (v := ?_) rfl (by kernel_rfl) (by decide +kernel) (by decide +kernel) (fun _ _ _ h => h) (Or.inl ⟨by rfl, ?_⟩) (by assumption) ?_; rotate_left; (focus (intro w9 hS9; (try dsimp only at hS9); go_simp; (try with_reducible rfl); done))) | (refine takeL (i := 1) (v := ?_) rfl (by kernel_rfl) (by decide +kernel) (by decide +kernel) (fun _ _ _ h => h) (Or.inl ⟨by rfl, ?_⟩) (by assumption) ?_; rotate_left; (focus (intro w9 hS9; (try dsimp only at hS9); go_simp; (try with_reducible rfl); done))) | (refine takeL (i := 2) (v := ?_) rfl (by kernel_rfl) (by decide +kernel) (by decide +kernel) (fun _ _ _ h => h) (Or.inl ⟨by rfl, ?_⟩) (by assumption) ?_; rotate_left; (focus (intro w9 hS9; (try dsimp only at hS9); go_simp; (try with_reducible rfl); done))) | (refine takeL (i := 3) (v := ?_) rfl (by kernel_rfl) (by decide +kernel) (by decide +kernel) (fun _ _ _ h => h) (Or.inl ⟨by rfl, ?_⟩) (by assumption) ?_; rotate_left; (focus (intro w9 hS9; (try dsimp only at hS9); go_simp; (try with_reducible rfl); done))) | (refine takeL (i := 4) (v := ?_) rfl (by kernel_rfl) (by decide +kernel) (by decide +kernel) (fun _ _ _ h => h) (Or.inl ⟨by rfl, ?_⟩) (by assumption) ?_; rotate_left; (focus (intro w9 hS9; (try dsimp only at hS9); go_simp; (try with_reducible rfl); done))) | (refine takeL (i := 5) (v := ?_) rfl (by kernel_rfl) (by decide +kernel) (by decide +kernel) (fun _ _ _ h => h) (Or.inl ⟨by rfl, ?_⟩) (by assumption) ?_; rotate_left; (focus (intro w9 hS9; (try dsimp only at hS9); go_simp; (try with_reducible rfl); done))) | (refine takeL (i := 6) (v := ?_) rfl (by kernel_rfl) (by decide +kernel) (by decide +kernel) (fun _ _ _ h => h) (Or.inl ⟨by rfl, ?_⟩) (by assumption) ?_; rotate_left; (focus (intro w9 hS9; (try dsimp only at hS9); go_simp; (try with_reducible rfl); done))) | (refine takeL (i := 7) (v := ?_) rfl (by kernel_rfl) (by decide +kernel) (by decide +kernel) (fun _ _ _ h => h) (Or.inl ⟨by rfl, ?_⟩) (by assumption) ?_; rotate_left; (focus (intro w9 hS9; (try dsimp only at hS9); go_simp; (try with_reducible rfl); done))) | (refine takeL (i := 8) (v := ?_) rfl (by kernel_rfl) (by decide +kernel) (by decide +kernel) (fun _ _ _ h => h) (Or.inl ⟨by rfl, ?_⟩) (by assumption) ?_; rotate_left; (focus (intro w9 hS9; (try dsimp only at hS9); go_simp; (try with_reducible rfl); done))) | (refine takeL (i := 9) (v := ?_) rfl (by kernel_rfl) (by decide +kernel) (by decide +kernel) (fun _ _ _ h => h) (Or.inl ⟨by rfl, ?_⟩) (by assumption) ?_; rotate_left; (focus (intro w9 hS9; (try dsimp only at hS9); go_simp; (try with_reducible rfl); done))) | (refine takeL (i := 10) (v := ?_) rfl (by kernel_rfl) (by decide +kernel) (by decide +kernel) (fun _ _ _ h => h) (Or.inl ⟨by rfl, ?_⟩) (by assumption) ?_; rotate_left; (focus (intro w9 hS9; (try dsimp only at hS9); go_simp; (try with_reducible rfl); done))) | (refine takeL (i := 11) (v := ?_) rfl (by kernel_rfl) (by decide +kernel) (by decide +kernel) (fun _ _ _ h => h) (Or.inl ⟨by rfl, ?_⟩) (by assumption) ?_; rotate_left; (focus (intro w9 hS9; (try dsimp only at hS9); go_simp; (try with_reducible rfl); done))) | (refine takeL (i := 12) (v := ?_) rfl (by kernel_rfl) (by decide +kernel) (by decide +kernel) (fun _ _ _ h => h) (Or.inl ⟨by rfl, ?_⟩) (by assumption) ?_; rotate_left; (focus (intro w9 hS9; (try dsimp only at hS9); go_simp; (try with_reducible rfl); done))) | (refine takeL (i := 13) (v := ?_) rfl (by kernel_rfl) (by decide +kernel) (by decide +kernel) (fun _ _ _ h => h) (Or.inl ⟨by rfl, ?_⟩) (by assumption) ?_; rotate_left; (focus (intro w9 hS9; (try dsimp only at hS9); go_simp; (try with_reducible rfl); done))) | (refine takeL (i := 14) (v := ?_) rfl (by kernel_rfl) (by decide +kernel) (by decide +kernel) (fun _ _ _ h => h) (Or.inl ⟨by rfl, ?_⟩) (by assumption) ?_; rotate_left; (focus (intro w9 hS9; (try dsimp only at hS9); go_simp; (try with_reducible rfl); done))) | fail); (try simp only [Act.put, List.setIfInBounds_toArray, List.set_cons_zero, List.set_cons_succ])) | ((first | (refine wpAnyH_ready (rs := [2]) (by decide +kernel) (by simp) ?_; refine consL rfl (fun K hK => ?_) ?_; rotate_left; exact AllReadyH.nil) | (refine wpAnyH_ready (rs := [6]) (by decide +kernel) (by simp) ?_; refine consL rfl (fun K hK => ?_) ?_; rotate_left; exact AllReadyH.nil) | (refine wpAnyH_ready (rs := [7]) (by decide +kernel) (by simp) ?_; refine consL rfl (fun K hK => ?_) ?_; rotate_left; exact AllReadyH.nil) | (refine wpAnyH_ready (rs := [12]) (by decide +kernel) (by simp) ?_; refine consL rfl (fun K hK => ?_) ?_; rotate_left; exact AllReadyH.nil) | (refine wpAnyH_ready (rs := [2, 6]) (by decide +kernel) (by simp) ?_; refine consL rfl (fun K hK => ?_) ?_; rotate_left; refine consL rfl (fun K hK => ?_) ?_; rotate_left; exact AllReadyH.nil) | (refine wpAnyH_ready (rs := [2, 7]) (by decide +kernel) (by simp) ?_; refine consL rfl (fun K hK => ?_) ?_; rotate_left; refine consL rfl (fun K hK => ?_) ?_; rotate_left; exact AllReadyH.nil) | (refine wpAnyH_ready (rs := [2, 12]) (by decide +kernel) (by simp) ?_; refine consL rfl (fun K hK => ?_) ?_; rotate_left; refine consL rfl (fun K hK => ?_) ?_; rotate_left; exact AllReadyH.nil) | (refine wpAnyH_ready (rs := [6, 7]) (by decide +kernel) (by simp) ?_; refine consL rfl (fun K hK => ?_) ?_; rotate_left; refine consL rfl (fun K hK => ?_) ?_; rotate_left; exact AllReadyH.nil) | (refine wpAnyH_ready (rs := [6, 12]) (by decide +kernel) (by simp) ?_; refine consL rfl (fun K hK => ?_) ?_; rotate_left; refine consL rfl (fun K hK => ?_) ?_; rotate_left; exact AllReadyH.nil) | (refine wpAnyH_ready (rs := [7, 12]) (by decide +kernel) (by simp) ?_; refine consL rfl (fun K hK => ?_) ?_; rotate_left; refine consL rfl (fun K hK => ?_) ?_; rotate_left; exact AllReadyH.nil) | fail); all_goals ((first | (go_at_call 55; (first | (with_reducible refine (HDr.out _).mono ?_)); rintro e wx ⟨rfl, hb⟩; (first | have HX := Lib.hid (EvS.up (w0 := w) (Hid.out hHeld.2.2.2.2) hb) | have HX := Lib.hid (EvS.up (w0 := w) (t := t) (k := 6) (n := n) (a := a) (p := p) (r := r) (Hid.out (by assumption)) hb)); (try have cv := cell_up hb cv); (try have cw := cell_up hb cw); (try have cw := cell_up hb (two_0 _ _ _ _)); (try have cx := cell_up hb cx); (try have cx := cell_up hb (two_1 _ _ _ _)); clear hb) | (go_at_call 57; refine (ref55_kinds _).mono ?_; rintro e wx ⟨rfl, hc, hb⟩; have HX := Lib.hid (EvS.up (w0 := w) (t := t) (k := 6) (n := n) (a := a) (p := p) (r := r) (Hid.out (by assumption)) hb); have cv := hc _ vx HV.out; (try simp only [heap_drawn] at cv); clear hc hb) | (go_simp; first | done | (first | (go_at_call 55; (first | (with_reducible refine (HDr.out _).mono ?_)); rintro e wx ⟨rfl, hb⟩; (first | have HX := Lib.hid (EvS.up (w0 := w) (Hid.out hHeld.2.2.2.2) hb) | have HX := Lib.hid (EvS.up (w0 := w) (t := t) (k := 6) (n := n) (a := a) (p := p) (r := r) (Hid.out (by assumption)) hb)); (try have cv := cell_up hb cv); (try have cw := cell_up hb cw); (try have cw := cell_up hb (two_0 _ _ _ _)); (try have cx := cell_up hb cx); (try have cx := cell_up hb (two_1 _ _ _ _)); clear hb) | (go_at_call 57; refine (ref55_kinds _).mono ?_; rintro e wx ⟨rfl, hc, hb⟩; have HX := Lib.hid (EvS.up (w0 := w) (t := t) (k := 6) (n := n) (a := a) (p := p) (r := r) (Hid.out (by assumption)) hb); have cv := hc _ vx HV.out; (try simp only [heap_drawn] at cv); clear hc hb))) | go_simp); (first | (with_reducible refine hK.out _ _ ?_ ?_) | (go_wp2_with fail; refine hK.out _ _ ?_ ?_)); (focus ((first | exact EvS.keep (by assumption) | exact EvS.keepA (by assumption)))); clear hK K hHeld; intro hHeld; (try simp only [Act.put, List.setIfInBounds_toArray, List.set_cons_zero, List.set_cons_succ]))) | (refine wpAnyH_done (by decide +kernel) ?_ _) | fail)
  all_goals
    have HXz := hHeld; clear hHeld
    obtain ⟨s2, s3, s4, s5, HY⟩ := HXz
    clear jw
    go_wp2_with fail
    go_ret
    exact ⟨by simp [evT, evWs, wsT, show nmL verbsL 6 = [117, 112] from rfl, HVM.out, HU0.out, HU1.out, HU2.out, HU3.out, HU4.out], HY.out.hb⟩
set_option maxRecDepth 100000 in
set_option maxHeartbeats 4000000 in
theorem line_8 (t n a p r : Int) (hok : evOk ⟨t, 8, n, a, p, r⟩ = true) (w : World) : Calls Tryd.prog 33 #[.agg #[.int .i64 t, .int .i64 8, .int .i64 n, .int .i64 a, .int .i64 p, .int .i64 r]] w fun e w' => e = .returned (.string ⟨(evT ⟨t, 8, n, a, p, r⟩).toArray⟩) ∧ Below w.heap.size w w' := by
  obtain ⟨br2, br3⟩ := evOk_8 hok
  obtain ⟨bt0, bt1, bn0, bn1, ba0, ba1, bp0, bp1, br0, br1⟩ := evOk_bd hok
  simp only at bt0 bt1 bn0 bn1 ba0 ba1 bp0 bp1 br0 br1
  have hit := Lib.itoa_length_le t (by omega) (by omega)
  have hin := Lib.itoa_length_le n (by omega) (by omega)
  have hia := Lib.itoa_length_le a (by omega) (by omega)
  have hip := Lib.itoa_length_le p (by omega) (by omega)
  have hir := Lib.itoa_length_le r (by omega) (by omega)
  clear hok
  obtain ⟨vx, hvx⟩ : ∃ vx, statesL[r.toNat]? = some vx := ⟨_, List.getElem?_eq_getElem (by simp [statesL]; omega)⟩
  have hvxl : vx.length ≤ 20 := nm_len statesL (by decide) hvx
  have HVM := Lib.hid (nmL_at hvx)
  have HV := Lib.hid (hvx)
  clear hvx
  obtain ⟨U0, hU0⟩ : ∃ U, U = Lib.itoa t ++ [32] := ⟨_, rfl⟩
  have lU0 : U0.length ≤ 44 := by rw [hU0]; simp only [List.length_append, List.length_cons, List.length_nil]; omega
  have aU0 : ∀ w', (Op.stringOp .add ⟨(Lib.itoa t).toArray⟩ ⟨#[32]⟩).run Tryd.prog w' = .ok (.string ⟨U0.toArray⟩) w' := fun w' => by rw [hU0]; exact run_string_add_lists w' _ ([32]) (by omega) (by first | omega | (simp only [List.length_cons, List.length_nil]; omega))
  have HU0 := Lib.hid hU0
  clear hU0
  obtain ⟨U1, hU1⟩ : ∃ U, U = U0 ++ [115, 116, 97, 116, 101, 32] := ⟨_, rfl⟩
  have lU1 : U1.length ≤ 66 := by rw [hU1]; simp only [List.length_append, List.length_cons, List.length_nil]; omega
  have aU1 : ∀ w', (Op.stringOp .add ⟨(U0).toArray⟩ ⟨#[115, 116, 97, 116, 101, 32]⟩).run Tryd.prog w' = .ok (.string ⟨U1.toArray⟩) w' := fun w' => by rw [hU1]; exact run_string_add_lists w' _ ([115, 116, 97, 116, 101, 32]) (by omega) (by first | omega | (simp only [List.length_cons, List.length_nil]; omega))
  have HU1 := Lib.hid hU1
  clear hU1
  obtain ⟨U2, hU2⟩ : ∃ U, U = U1 ++ Lib.itoa n := ⟨_, rfl⟩
  have lU2 : U2.length ≤ 88 := by rw [hU2]; simp only [List.length_append, List.length_cons, List.length_nil]; omega
  have aU2 : ∀ w', (Op.stringOp .add ⟨(U1).toArray⟩ ⟨(Lib.itoa n).toArray⟩).run Tryd.prog w' = .ok (.string ⟨U2.toArray⟩) w' := fun w' => by rw [hU2]; exact run_string_add_lists w' _ (Lib.itoa n) (by omega) (by first | omega | (simp only [List.length_cons, List.length_nil]; omega))
  have HU2 := Lib.hid hU2
  clear hU2
  obtain ⟨U3, hU3⟩ : ∃ U, U = U2 ++ [32] := ⟨_, rfl⟩
  have lU3 : U3.length ≤ 110 := by rw [hU3]; simp only [List.length_append, List.length_cons, List.length_nil]; omega
  have aU3 : ∀ w', (Op.stringOp .add ⟨(U2).toArray⟩ ⟨#[32]⟩).run Tryd.prog w' = .ok (.string ⟨U3.toArray⟩) w' := fun w' => by rw [hU3]; exact run_string_add_lists w' _ ([32]) (by omega) (by first | omega | (simp only [List.length_cons, List.length_nil]; omega))
  have HU3 := Lib.hid hU3
  clear hU3
  obtain ⟨U4, hU4⟩ : ∃ U, U = U3 ++ vx := ⟨_, rfl⟩
  have lU4 : U4.length ≤ 132 := by rw [hU4]; simp only [List.length_append, List.length_cons, List.length_nil]; omega
  have aU4 : ∀ w', (Op.stringOp .add ⟨(U3).toArray⟩ ⟨vx.toArray⟩).run Tryd.prog w' = .ok (.string ⟨U4.toArray⟩) w' := fun w' => by rw [hU4]; exact run_string_add_lists w' _ (vx) (by omega) (by first | omega | (simp only [List.length_cons, List.length_nil]; omega))
  have HU4 := Lib.hid hU4
  clear hU4
  have HDn := Lib.hid (ref55_digits n (by omega) (by omega))
  have HDt := Lib.hid (ref55_digits t (by omega) (by omega))
  have HB := below_box w (.cells #[.int .i64 t, .int .i64 8, .int .i64 n, .int .i64 a, .int .i64 p, .int .i64 r] 40)
  have HE : Hid (EvAt (w.alloc (.cells #[.int .i64 t, .int .i64 8, .int .i64 n, .int .i64 a, .int .i64 p, .int .i64 r] 40)) w.heap.size t 8 n a p r) := Lib.hid ⟨by simp, by simp, by simp, by simp, by simp, by simp⟩
  have s0 := HE.out.s0
  have j2 : r < 4 := by omega
  go_enter Tryd.func33, Tryd.ntmps33
  go_wp2_with fail
  refine (HDt.out _).mono ?_
  rintro e w2 ⟨rfl, hb2⟩
  have HX := Lib.hid (EvS.up (w0 := w) ⟨HE.out, HB⟩ hb2)
  have s1 := HX.out.ev.s1
  clear s0 hb2 HE HB
  go_wp2_with fail
  have HXd := Lib.hid (HX.out.up (below_drawn _))
  refine wp_region_held_drew (S := (fun w' => w'.cell? ⟨w.heap.size, 2, none⟩ = some (.int .i64 n) ∧ w'.cell? ⟨w.heap.size, 3, none⟩ = some (.int .i64 a) ∧ w'.cell? ⟨w.heap.size, 4, none⟩ = some (.int .i64 p) ∧ w'.cell? ⟨w.heap.size, 5, none⟩ = some (.int .i64 r) ∧ Hid (EvS w t 8 n a p r w'))) (by kernel_rfl) ?_ (fun hHeld => ?_)
  · (first | exact EvS.keep (by assumption) | exact EvS.keepA (by assumption))
  repeat' (first | ((first | (refine takeL (i := 0) (v := ?_) rfl (by kernel_rfl) (by decide +kernel) (by decide +kernel) (fun _ _ _ h => h) (Or.inl ⟨by rfl, ?_⟩) (by assumption) ?_; rotate_left; (focus (intro w9 hS9; (try dsimp only at hS9); go_simp; (try with_reducible rfl); done))) | (refine takeL (i := 1) (v := ?_) rfl (by kernel_rfl) (by decide +kernel) (by decide +kernel) (fun _ _ _ h => h) (Or.inl ⟨by rfl, ?_⟩) (by assumption) ?_; rotate_left; (focus (intro w9 hS9; (try dsimp only at hS9); go_simp; (try with_reducible rfl); done))) | (refine takeL (i := 2) (v := ?_) rfl (by kernel_rfl) (by decide +kernel) (by decide +kernel) (fun _ _ _ h => h) (Or.inl ⟨by rfl, ?_⟩) (by assumption) ?_; rotate_left; (focus (intro w9 hS9; (try dsimp only at hS9); go_simp; (try with_reducible rfl); done))) | (refine takeL (i := 3) (v := ?_) rfl (by kernel_rfl) (by decide +kernel) (by decide +kernel) (fun _ _ _ h => h) (Or.inl ⟨by rfl, ?_⟩) (by assumption) ?_; rotate_left; (focus (intro w9 hS9; (try dsimp only at hS9); go_simp; (try with_reducible rfl); done))) | (refine takeL (i := 4) (v := ?_) rfl (by kernel_rfl) (by decide +kernel) (by decide +kernel) (fun _ _ _ h => h) (Or.inl ⟨by rfl, ?_⟩) (by assumption) ?_; rotate_left; (focus (intro w9 hS9; (try dsimp only at hS9); go_simp; (try with_reducible rfl); done))) | (refine takeL (i := 5) (v := ?_) rfl (by kernel_rfl) (by decide +kernel) (by decide +kernel) (fun _ _ _ h => h) (Or.inl ⟨by rfl, ?_⟩) (by assumption) ?_; rotate_left; (focus (intro w9 hS9; (try dsimp only at hS9); go_simp; (try with_reducible rfl); done))) | (refine takeL (i := 6) (v := ?_) rfl (by kernel_rfl) (by decide +kernel) (by decide +kernel) (fun _ _ _ h => h) (Or.inl ⟨by rfl, ?_⟩) (by assumption) ?_; rotate_left; (focus (intro w9 hS9; (try dsimp only at hS9); go_simp; (try with_reducible rfl); done))) | (refine takeL (i := 7) (v := ?_) rfl (by kernel_rfl) (by decide +kernel) (by decide +kernel) (fun _ _ _ h => h) (Or.inl ⟨by rfl, ?_⟩) (by assumption) ?_; rotate_left; (focus (intro w9 hS9; (try dsimp only at hS9); go_simp; (try with_reducible rfl); done))) | (refine takeL (i := 8) (v := ?_) rfl (by kernel_rfl) (by decide +kernel) (by decide +kernel) (fun _ _ _ h => h) (Or.inl ⟨by rfl, ?_⟩) (by assumption) ?_; rotate_left; (focus (intro w9 hS9; (try dsimp only at hS9); go_simp; (try with_reducible rfl); done))) | (refine takeL (i := 9) (v := ?_) rfl (by kernel_rfl) (by decide +kernel) (by decide +kernel) (fun _ _ _ h => h) (Or.inl ⟨by rfl, ?_⟩) (by assumption) ?_; rotate_left; (focus (intro w9 hS9; (try dsimp only at hS9); go_simp; (try with_reducible rfl); done))) | (refine takeL (i := 10) (v := ?_) rfl (by kernel_rfl) (by decide +kernel) (by decide +kernel) (fun _ _ _ h => h) (Or.inl ⟨by rfl, ?_⟩) (by assumption) ?_; rotate_left; (focus (intro w9 hS9; (try dsimp only at hS9); go_simp; (try with_reducible rfl); done))) | (refine takeL (i := 11) (v := ?_) rfl (by kernel_rfl) (by decide +kernel) (by decide +kernel) (fun _ _ _ h => h) (Or.inl ⟨by rfl, ?_⟩) (by assumption) ?_; rotate_left; (focus (intro w9 hS9; (try dsimp only at hS9); go_simp; (try with_reducible rfl); done))) | (refine takeL (i := 12) (v := ?_) rfl (by kernel_rfl) (by decide +kernel) (by decide +kernel) (fun _ _ _ h => h) (Or.inl ⟨by rfl, ?_⟩) (by assumption) ?_; rotate_left; (focus (intro w9 hS9; (try dsimp only at hS9); go_simp; (try with_reducible rfl); done))) | (refine takeL (i := 13) (v := ?_) rfl (by kernel_rfl) (by decide +kernel) (by decide +kernel) (fun _ _ _ h => h) (Or.inl ⟨by rfl, ?_⟩) (by assumption) ?_; rotate_left; (focus (intro w9 hS9; (try dsimp only at hS9); go_simp; (try with_reducible rfl); done))) | fail); (try simp only [Act.put, List.setIfInBounds_toArray, List.set_cons_zero, List.set_cons_succ])) | ((first | (refine wpAnyH_ready (rs := [4]) (by decide +kernel) (by simp) ?_; refine consL rfl (fun K hK => ?_) ?_; rotate_left; exact AllReadyH.nil) | (refine wpAnyH_ready (rs := [7]) (by decide +kernel) (by simp) ?_; refine consL rfl (fun K hK => ?_) ?_; rotate_left; exact AllReadyH.nil) | (refine wpAnyH_ready (rs := [10]) (by decide +kernel) (by simp) ?_; refine consL rfl (fun K hK => ?_) ?_; rotate_left; exact AllReadyH.nil) | (refine wpAnyH_ready (rs := [11]) (by decide +kernel) (by simp) ?_; refine consL rfl (fun K hK => ?_) ?_; rotate_left; exact AllReadyH.nil) | (refine wpAnyH_ready (rs := [4, 7]) (by decide +kernel) (by simp) ?_; refine consL rfl (fun K hK => ?_) ?_; rotate_left; refine consL rfl (fun K hK => ?_) ?_; rotate_left; exact AllReadyH.nil) | (refine wpAnyH_ready (rs := [4, 10]) (by decide +kernel) (by simp) ?_; refine consL rfl (fun K hK => ?_) ?_; rotate_left; refine consL rfl (fun K hK => ?_) ?_; rotate_left; exact AllReadyH.nil) | (refine wpAnyH_ready (rs := [4, 11]) (by decide +kernel) (by simp) ?_; refine consL rfl (fun K hK => ?_) ?_; rotate_left; refine consL rfl (fun K hK => ?_) ?_; rotate_left; exact AllReadyH.nil) | (refine wpAnyH_ready (rs := [7, 10]) (by decide +kernel) (by simp) ?_; refine consL rfl (fun K hK => ?_) ?_; rotate_left; refine consL rfl (fun K hK => ?_) ?_; rotate_left; exact AllReadyH.nil) | (refine wpAnyH_ready (rs := [7, 11]) (by decide +kernel) (by simp) ?_; refine consL rfl (fun K hK => ?_) ?_; rotate_left; refine consL rfl (fun K hK => ?_) ?_; rotate_left; exact AllReadyH.nil) | (refine wpAnyH_ready (rs := [10, 11]) (by decide +kernel) (by simp) ?_; refine consL rfl (fun K hK => ?_) ?_; rotate_left; refine consL rfl (fun K hK => ?_) ?_; rotate_left; exact AllReadyH.nil) | fail); all_goals ((first | (go_at_call 55; (first | (with_reducible refine (HDn.out _).mono ?_)); rintro e wx ⟨rfl, hb⟩; (first | have HX := Lib.hid (EvS.up (w0 := w) (Hid.out hHeld.2.2.2.2) hb) | have HX := Lib.hid (EvS.up (w0 := w) (t := t) (k := 8) (n := n) (a := a) (p := p) (r := r) (Hid.out (by assumption)) hb)); (try have cv := cell_up hb cv); (try have cw := cell_up hb cw); (try have cw := cell_up hb (two_0 _ _ _ _)); (try have cx := cell_up hb cx); (try have cx := cell_up hb (two_1 _ _ _ _)); clear hb) | (go_at_call 58; refine (ref55_states _).mono ?_; rintro e wx ⟨rfl, hc, hb⟩; have HX := Lib.hid (EvS.up (w0 := w) (t := t) (k := 8) (n := n) (a := a) (p := p) (r := r) (Hid.out (by assumption)) hb); have cv := hc _ vx HV.out; (try simp only [heap_drawn] at cv); clear hc hb) | (go_simp; first | done | (first | (go_at_call 55; (first | (with_reducible refine (HDn.out _).mono ?_)); rintro e wx ⟨rfl, hb⟩; (first | have HX := Lib.hid (EvS.up (w0 := w) (Hid.out hHeld.2.2.2.2) hb) | have HX := Lib.hid (EvS.up (w0 := w) (t := t) (k := 8) (n := n) (a := a) (p := p) (r := r) (Hid.out (by assumption)) hb)); (try have cv := cell_up hb cv); (try have cw := cell_up hb cw); (try have cw := cell_up hb (two_0 _ _ _ _)); (try have cx := cell_up hb cx); (try have cx := cell_up hb (two_1 _ _ _ _)); clear hb) | (go_at_call 58; refine (ref55_states _).mono ?_; rintro e wx ⟨rfl, hc, hb⟩; have HX := Lib.hid (EvS.up (w0 := w) (t := t) (k := 8) (n := n) (a := a) (p := p) (r := r) (Hid.out (by assumption)) hb); have cv := hc _ vx HV.out; (try simp only [heap_drawn] at cv); clear hc hb))) | go_simp); (first | (with_reducible refine hK.out _ _ ?_ ?_) | (go_wp2_with fail; refine hK.out _ _ ?_ ?_)); (focus ((first | exact EvS.keep (by assumption) | exact EvS.keepA (by assumption)))); clear hK K hHeld; intro hHeld; (try simp only [Act.put, List.setIfInBounds_toArray, List.set_cons_zero, List.set_cons_succ]))) | (refine wpAnyH_done (by decide +kernel) ?_ _) | fail)
  all_goals
    have HXz := hHeld; clear hHeld
    obtain ⟨s2, s3, s4, s5, HY⟩ := HXz
    go_wp2_with fail
    go_ret
    exact ⟨by simp [evT, evWs, wsT, show nmL verbsL 8 = [115, 116, 97, 116, 101] from rfl, HVM.out, HU0.out, HU1.out, HU2.out, HU3.out, HU4.out], HY.out.hb⟩
set_option maxRecDepth 100000 in
set_option maxHeartbeats 4000000 in
theorem line_9 (t n a p r : Int) (hok : evOk ⟨t, 9, n, a, p, r⟩ = true) (w : World) : Calls Tryd.prog 33 #[.agg #[.int .i64 t, .int .i64 9, .int .i64 n, .int .i64 a, .int .i64 p, .int .i64 r]] w fun e w' => e = .returned (.string ⟨(evT ⟨t, 9, n, a, p, r⟩).toArray⟩) ∧ Below w.heap.size w w' := by
  obtain ⟨bt0, bt1, bn0, bn1, ba0, ba1, bp0, bp1, br0, br1⟩ := evOk_bd hok
  simp only at bt0 bt1 bn0 bn1 ba0 ba1 bp0 bp1 br0 br1
  have hit := Lib.itoa_length_le t (by omega) (by omega)
  have hin := Lib.itoa_length_le n (by omega) (by omega)
  have hia := Lib.itoa_length_le a (by omega) (by omega)
  have hip := Lib.itoa_length_le p (by omega) (by omega)
  have hir := Lib.itoa_length_le r (by omega) (by omega)
  clear hok
  obtain ⟨U0, hU0⟩ : ∃ U, U = Lib.itoa t ++ [32] := ⟨_, rfl⟩
  have lU0 : U0.length ≤ 44 := by rw [hU0]; simp only [List.length_append, List.length_cons, List.length_nil]; omega
  have aU0 : ∀ w', (Op.stringOp .add ⟨(Lib.itoa t).toArray⟩ ⟨#[32]⟩).run Tryd.prog w' = .ok (.string ⟨U0.toArray⟩) w' := fun w' => by rw [hU0]; exact run_string_add_lists w' _ ([32]) (by omega) (by first | omega | (simp only [List.length_cons, List.length_nil]; omega))
  have HU0 := Lib.hid hU0
  clear hU0
  obtain ⟨U1, hU1⟩ : ∃ U, U = U0 ++ [102, 108, 111, 111, 100, 101, 100, 32] := ⟨_, rfl⟩
  have lU1 : U1.length ≤ 66 := by rw [hU1]; simp only [List.length_append, List.length_cons, List.length_nil]; omega
  have aU1 : ∀ w', (Op.stringOp .add ⟨(U0).toArray⟩ ⟨#[102, 108, 111, 111, 100, 101, 100, 32]⟩).run Tryd.prog w' = .ok (.string ⟨U1.toArray⟩) w' := fun w' => by rw [hU1]; exact run_string_add_lists w' _ ([102, 108, 111, 111, 100, 101, 100, 32]) (by omega) (by first | omega | (simp only [List.length_cons, List.length_nil]; omega))
  have HU1 := Lib.hid hU1
  clear hU1
  obtain ⟨U2, hU2⟩ : ∃ U, U = U1 ++ Lib.itoa n := ⟨_, rfl⟩
  have lU2 : U2.length ≤ 88 := by rw [hU2]; simp only [List.length_append, List.length_cons, List.length_nil]; omega
  have aU2 : ∀ w', (Op.stringOp .add ⟨(U1).toArray⟩ ⟨(Lib.itoa n).toArray⟩).run Tryd.prog w' = .ok (.string ⟨U2.toArray⟩) w' := fun w' => by rw [hU2]; exact run_string_add_lists w' _ (Lib.itoa n) (by omega) (by first | omega | (simp only [List.length_cons, List.length_nil]; omega))
  have HU2 := Lib.hid hU2
  clear hU2
  obtain ⟨U3, hU3⟩ : ∃ U, U = U2 ++ [32] := ⟨_, rfl⟩
  have lU3 : U3.length ≤ 110 := by rw [hU3]; simp only [List.length_append, List.length_cons, List.length_nil]; omega
  have aU3 : ∀ w', (Op.stringOp .add ⟨(U2).toArray⟩ ⟨#[32]⟩).run Tryd.prog w' = .ok (.string ⟨U3.toArray⟩) w' := fun w' => by rw [hU3]; exact run_string_add_lists w' _ ([32]) (by omega) (by first | omega | (simp only [List.length_cons, List.length_nil]; omega))
  have HU3 := Lib.hid hU3
  clear hU3
  obtain ⟨U4, hU4⟩ : ∃ U, U = U3 ++ Lib.itoa a := ⟨_, rfl⟩
  have lU4 : U4.length ≤ 132 := by rw [hU4]; simp only [List.length_append, List.length_cons, List.length_nil]; omega
  have aU4 : ∀ w', (Op.stringOp .add ⟨(U3).toArray⟩ ⟨(Lib.itoa a).toArray⟩).run Tryd.prog w' = .ok (.string ⟨U4.toArray⟩) w' := fun w' => by rw [hU4]; exact run_string_add_lists w' _ (Lib.itoa a) (by omega) (by first | omega | (simp only [List.length_cons, List.length_nil]; omega))
  have HU4 := Lib.hid hU4
  clear hU4
  have HDn := Lib.hid (ref55_digits n (by omega) (by omega))
  have HDa := Lib.hid (ref55_digits a (by omega) (by omega))
  have HDt := Lib.hid (ref55_digits t (by omega) (by omega))
  have HB := below_box w (.cells #[.int .i64 t, .int .i64 9, .int .i64 n, .int .i64 a, .int .i64 p, .int .i64 r] 40)
  have HE : Hid (EvAt (w.alloc (.cells #[.int .i64 t, .int .i64 9, .int .i64 n, .int .i64 a, .int .i64 p, .int .i64 r] 40)) w.heap.size t 9 n a p r) := Lib.hid ⟨by simp, by simp, by simp, by simp, by simp, by simp⟩
  have s0 := HE.out.s0
  go_enter Tryd.func33, Tryd.ntmps33
  go_wp2_with fail
  refine (HDt.out _).mono ?_
  rintro e w2 ⟨rfl, hb2⟩
  have HX := Lib.hid (EvS.up (w0 := w) ⟨HE.out, HB⟩ hb2)
  have s1 := HX.out.ev.s1
  clear s0 hb2 HE HB
  go_wp2_with fail
  have HXd := Lib.hid (HX.out.up (below_drawn _))
  go_region_held3 (fun w' => w'.cell? ⟨w.heap.size, 2, none⟩ = some (.int .i64 n) ∧ w'.cell? ⟨w.heap.size, 3, none⟩ = some (.int .i64 a) ∧ w'.cell? ⟨w.heap.size, 4, none⟩ = some (.int .i64 p) ∧ w'.cell? ⟨w.heap.size, 5, none⟩ = some (.int .i64 r) ∧ Hid (EvS w t 9 n a p r w')) (first | exact EvS.keep (by assumption) | exact EvS.keepA (by assumption))
    (first | (go_at_call 55; (first | (with_reducible refine (HDn.out _).mono ?_) | (with_reducible refine (HDa.out _).mono ?_)); rintro e wx ⟨rfl, hb⟩; (first | have HX := Lib.hid (EvS.up (w0 := w) (Hid.out hHeld.2.2.2.2) hb) | have HX := Lib.hid (EvS.up (w0 := w) (t := t) (k := 9) (n := n) (a := a) (p := p) (r := r) (Hid.out (by assumption)) hb)); (try have cv := cell_up hb cv); (try have cw := cell_up hb cw); (try have cw := cell_up hb (two_0 _ _ _ _)); (try have cx := cell_up hb cx); (try have cx := cell_up hb (two_1 _ _ _ _)); clear hb))
  all_goals
    rename_i HXz
    obtain ⟨s2, s3, s4, s5, HY⟩ := HXz
    go_wp2_with fail
    go_ret
    exact ⟨by simp [evT, evWs, wsT, show nmL verbsL 9 = [102, 108, 111, 111, 100, 101, 100] from rfl, HU0.out, HU1.out, HU2.out, HU3.out, HU4.out], HY.out.hb⟩

end Go.Proofs.YtjcnjnonhncelaaDoor
