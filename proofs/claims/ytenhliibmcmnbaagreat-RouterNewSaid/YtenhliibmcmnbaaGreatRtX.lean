/-
  The methods of a nil router; named; timed.
-/
import Derived.Test.YtenhliibmcmnbaaGreatRtC
import Derived.Test.YtenhliibmcmnbaaGreatClone
import Derived.Test.YtenhliibmcmnbaaGreatReg
import Derived.Test.YtenhliibmcmnbaaGreatValid
namespace Go.Proofs.YtenhliibmcmnbaaGreat
set_option linter.unusedSimpArgs false
set_option linter.unusedVariables false
open Go.RowKit Go.Sort

section
variable {w : World}
theorem wp_named2 {P : Program} {c : Code} {Q : Exit → Act → World → Prop} {a : Act} {W : World} (R : World → Prop) (h : R W) (k : ∀ W', R W' → c.wp P Q a W') : c.wp P Q a W := k W h
theorem p6_up {n b : Nat} {x0 x1 x2 x3 x4 x5 : Value} {w w' : World} (hn : b < n) (hb : Below n w w') (h : w.cell? ⟨b, 0, none⟩ = some x0 ∧ w.cell? ⟨b, 1, none⟩ = some x1 ∧ w.cell? ⟨b, 2, none⟩ = some x2 ∧ w.cell? ⟨b, 3, none⟩ = some x3 ∧ w.cell? ⟨b, 4, none⟩ = some x4 ∧ w.cell? ⟨b, 5, none⟩ = some x5) :
    w'.cell? ⟨b, 0, none⟩ = some x0 ∧ w'.cell? ⟨b, 1, none⟩ = some x1 ∧ w'.cell? ⟨b, 2, none⟩ = some x2 ∧ w'.cell? ⟨b, 3, none⟩ = some x3 ∧ w'.cell? ⟨b, 4, none⟩ = some x4 ∧ w'.cell? ⟨b, 5, none⟩ = some x5 := by
  have e : ∀ i, w'.cell? ⟨b, i, none⟩ = w.cell? ⟨b, i, none⟩ := fun i => hb.cell hn
  simpa only [e] using h
set_option maxRecDepth 100000 in
set_option maxHeartbeats 1000000 in
theorem nil_Receive : Calls Tryz.prog 7 #[.pointer none, .int .i64 0, .slice none 0 0] w fun e w' => e = .returned (.tuple #[.slice none 0 0, .int .i64 7]) ∧ Below w.heap.size w w' := by
  have HB := Lib.hid (Below.refl w.heap.size w)
  go_enter Tryz.func7, Tryz.ntmps7
  go_wp2_with fail
  go_ret2
  exact ⟨rfl, HB.out⟩
set_option maxRecDepth 100000 in
set_option maxHeartbeats 1000000 in
theorem nil_Fail : Calls Tryz.prog 9 #[.pointer none, .int .i64 0] w fun e w' => e = .returned (.int .i64 7) ∧ Below w.heap.size w w' := by
  have HB := Lib.hid (Below.refl w.heap.size w)
  go_enter Tryz.func9, Tryz.ntmps9
  go_wp2_with fail
  go_ret
  exact ⟨rfl, HB.out⟩
set_option maxRecDepth 100000 in
set_option maxHeartbeats 1000000 in
theorem nil_SetOverload : Calls Tryz.prog 10 #[.pointer none, .bool true] w fun e w' => e = .returned (.int .i64 7) ∧ Below w.heap.size w w' := by
  have HB := Lib.hid (Below.refl w.heap.size w)
  go_enter Tryz.func10, Tryz.ntmps10
  go_wp2_with fail
  go_ret
  exact ⟨rfl, HB.out⟩
set_option maxRecDepth 100000 in
set_option maxHeartbeats 1000000 in
theorem nil_SetCost : Calls Tryz.prog 11 #[.pointer none, .int .i64 0, .int .i64 1] w fun e w' => e = .returned (.int .i64 7) ∧ Below w.heap.size w w' := by
  have HB := Lib.hid (Below.refl w.heap.size w)
  go_enter Tryz.func11, Tryz.ntmps11
  go_wp2_with fail
  go_ret
  exact ⟨rfl, HB.out⟩
set_option maxRecDepth 100000 in
set_option maxHeartbeats 1000000 in
theorem nil_State : Calls Tryz.prog 12 #[.pointer none] w fun e w' => e = .returned (.int .i64 0) ∧ Below w.heap.size w w' := by
  have HB := Lib.hid (Below.refl w.heap.size w)
  go_enter Tryz.func12, Tryz.ntmps12
  go_wp2_with fail
  go_ret
  exact ⟨rfl, HB.out⟩
set_option maxRecDepth 100000 in
set_option maxHeartbeats 1000000 in
theorem nil_Tick : Calls Tryz.prog 13 #[.pointer none] w fun e w' => e = .returned (.slice none 0 0) ∧ Below w.heap.size w w' := by
  have HB := Lib.hid (Below.refl w.heap.size w)
  go_enter Tryz.func13, Tryz.ntmps13
  go_wp2_with fail
  go_ret
  exact ⟨rfl, HB.out⟩
set_option maxRecDepth 100000 in
set_option maxHeartbeats 1000000 in
theorem nil_Database : Calls Tryz.prog 14 #[.pointer none] w fun e w' => e = .returned (.slice none 0 0) ∧ Below w.heap.size w w' := by
  have HB := Lib.hid (Below.refl w.heap.size w)
  go_enter Tryz.func14, Tryz.ntmps14
  go_wp2_with fail
  go_ret
  exact ⟨rfl, HB.out⟩
set_option maxRecDepth 100000 in
set_option maxHeartbeats 1000000 in
theorem nil_Table : Calls Tryz.prog 15 #[.pointer none] w fun e w' => e = .returned (.agg #[.int .i64 0, .slice none 0 0, .slice none 0 0]) ∧ Below w.heap.size w w' := by
  have HB := Lib.hid (Below.refl w.heap.size w)
  go_enter Tryz.func15, Tryz.ntmps15
  go_wp2_with fail
  exact bodyPost_ret (v := .agg #[.int .i64 0, .slice none 0 0, .slice none 0 0]) (by simp [results, Tryz.results15, go_sem]) rfl ⟨rfl, HB.out.alloc (Nat.le_refl _) _⟩
set_option maxRecDepth 100000 in
set_option maxHeartbeats 1000000 in
theorem nil_Forward (v : Int) : Calls Tryz.prog 8 #[.pointer none, .agg #[.int .i64 v, .int .i64 0, .int .i64 0, .int .i64 0, .slice none 0 0, .int .i64 0]] w fun e w' => e = .returned (.tuple #[.int .i64 (-1), .agg #[.int .i64 v, .int .i64 0, .int .i64 0, .int .i64 0, .slice none 0 0, .int .i64 0], .int .i64 1]) ∧ Below w.heap.size w w' := by
  have HB := Lib.hid (Below.refl w.heap.size w)
  go_enter Tryz.func8, Tryz.ntmps8
  go_wp2_with (go_at_call 38; refine (clone0_Segment _ _).mono ?_; rintro e w3 ⟨rfl, rfl⟩)
  have HX := Lib.hid (two_new w #[.int .i64 v, .int .i64 0, .int .i64 0, .int .i64 0, .slice none 0 0, .int .i64 0] #[.int .i64 0, .int .i64 0, .int .i64 0, .int .i64 0, .slice none 0 0, .int .i64 0] 39 39)
  refine wp_named2 (fun Y => Bl 39 w.heap.size #[.int .i64 v, .int .i64 0, .int .i64 0, .int .i64 0, .slice none 0 0, .int .i64 0] Y ∧ (∃ p, p = w.heap.size + 1 ∧ Bl 39 p #[.int .i64 0, .int .i64 0, .int .i64 0, .int .i64 0, .slice none 0 0, .int .i64 0] Y) ∧ Below w.heap.size w Y) ⟨HX.out.1, ⟨_, rfl, HX.out.2⟩, below_two _ _ _⟩ ?_
  rintro Y ⟨hY1, ⟨p, hp, hY2⟩, hY3⟩
  rw [← hp]
  have HP := Lib.hid hp
  have hpw : p ≠ w.heap.size := by omega
  have HY := Lib.hid hY2
  have HB := Lib.hid hY3
  have HPL := Lib.hid (show w.heap.size < p by omega)
  obtain ⟨x0, x1, x2, x3, x4, x5, fx⟩ := hY1.c6
  have HS6 := Lib.hid (And.intro x0 (And.intro x1 (And.intro x2 (And.intro x3 (And.intro x4 x5)))))
  clear x0 x1 x2 x3 x4 x5 fx
  obtain ⟨y0, y1, y2, y3, y4, y5, fy⟩ := hY2.c6
  clear hp hY1 hY2 hY3 HX
  refine wp_region_held_drew (S := (fun w' => w'.cell? ⟨w.heap.size, 0, none⟩ = some (.int .i64 v) ∧ w'.cell? ⟨w.heap.size, 1, none⟩ = some (.int .i64 0) ∧ w'.cell? ⟨w.heap.size, 2, none⟩ = some (.int .i64 0) ∧ w'.cell? ⟨w.heap.size, 3, none⟩ = some (.int .i64 0) ∧ w'.cell? ⟨w.heap.size, 4, none⟩ = some (.slice none 0 0) ∧ w'.cell? ⟨w.heap.size, 5, none⟩ = some (.int .i64 0))) (by kernel_rfl) ?_ (fun hHeld => ?_)
  · (refine p6_up HPL.out ?_ HS6.out; (repeat' (first | (with_reducible exact (Below.refl _ _)) | (with_reducible refine Bset ?_ ?_) | (with_reducible refine Bdrw ?_) | (with_reducible refine Bbox ?_ ?_) | omega | (simp; done) | (simp; omega))))
  (refine takeL (i := 0) (v := ?_) rfl (by kernel_rfl) (by decide +kernel) (by decide +kernel) (fun _ _ _ h => h) (Or.inl ⟨by rfl, ?_⟩) (by assumption) ?_; rotate_left; (focus (intro w9 hS9; (try dsimp only at hS9); go_simp; (try with_reducible rfl); done)))
  (try simp only [Act.put, List.setIfInBounds_toArray, List.set_cons_zero, List.set_cons_succ])
  (refine takeL (i := 1) (v := ?_) rfl (by kernel_rfl) (by decide +kernel) (by decide +kernel) (fun _ _ _ h => h) (Or.inl ⟨by rfl, ?_⟩) (by assumption) ?_; rotate_left; (focus (intro w9 hS9; (try dsimp only at hS9); go_simp; (try with_reducible rfl); done)))
  (try simp only [Act.put, List.setIfInBounds_toArray, List.set_cons_zero, List.set_cons_succ])
  refine wpAnyH_ready (rs := [2]) (by decide +kernel) (by simp) ?_
  refine consL rfl (fun K hK => ?_) ?_
  · (first | fail | (go_simp; first | done | (first | fail)) | go_simp)
    (first | (with_reducible refine hK.out _ _ ?_ ?_) | (go_wp2_with fail; refine hK.out _ _ ?_ ?_))
    (focus ((refine p6_up HPL.out ?_ HS6.out; (repeat' (first | (with_reducible exact (Below.refl _ _)) | (with_reducible refine Bset ?_ ?_) | (with_reducible refine Bdrw ?_) | (with_reducible refine Bbox ?_ ?_) | omega | (simp; done) | (simp; omega))))))
    clear hK K hHeld
    intro hHeld
    (try simp only [Act.put, List.setIfInBounds_toArray, List.set_cons_zero, List.set_cons_succ])
    refine wpAnyH_ready (rs := [3]) (by decide +kernel) (by simp) ?_
    refine consL rfl (fun K hK => ?_) ?_
    · (first | fail | (go_simp; first | done | (first | fail)) | go_simp)
      (first | (with_reducible refine hK.out _ _ ?_ ?_) | (go_wp2_with fail; refine hK.out _ _ ?_ ?_))
      (focus ((refine p6_up HPL.out ?_ HS6.out; (repeat' (first | (with_reducible exact (Below.refl _ _)) | (with_reducible refine Bset ?_ ?_) | (with_reducible refine Bdrw ?_) | (with_reducible refine Bbox ?_ ?_) | omega | (simp; done) | (simp; omega))))))
      clear hK K hHeld
      intro hHeld
      (try simp only [Act.put, List.setIfInBounds_toArray, List.set_cons_zero, List.set_cons_succ])
      refine wpAnyH_done (by decide +kernel) ?_ _
      go_wp2_with fail
      have hz := ((((((HY.out.set 0 (.int .i64 v) rfl).set 1 (.int .i64 0) rfl).set 2 (.int .i64 0) rfl).set 3 (.int .i64 0) rfl).set 4 (.slice none 0 0) rfl).set 5 (.int .i64 0) rfl).up (Bdrw (Below.refl _ _))
      obtain ⟨z0, z1, z2, z3, z4, z5, fz⟩ := hz.c6
      have hpb : w.heap.size ≤ p := by have := HP.out; omega
      exact bodyPost_ret (v := .tuple #[.int .i64 (-1), .agg #[.int .i64 v, .int .i64 0, .int .i64 0, .int .i64 0, .slice none 0 0, .int .i64 0], .int .i64 1]) (by simp [results, Tryz.results8, go_sem, z0, z1, z2, z3, z4, z5]) rfl ⟨rfl, by (repeat' (first | (with_reducible exact HB.out) | (with_reducible refine Bset ?_ ?_) | (with_reducible refine Bdrw ?_) | (with_reducible refine Bbox ?_ ?_) | omega | (simp; done) | (simp; omega)))⟩
    exact AllReadyH.nil
  exact AllReadyH.nil
set_option maxRecDepth 100000 in
set_option maxHeartbeats 1000000 in
theorem law_named : Calls Tryz.prog 5 #[] w fun e w' => e = .returned (.bool true) ∧ Below w.heap.size w w' := by
  have HB := Lib.hid (Below.refl w.heap.size w)
  go_enter Tryz.func5, Tryz.ntmps5
  go_wp2_with (go_at_call 9; (refine (nil_Fail).mono ?_); rintro e w3 ⟨rfl, hb⟩; have HC := Lib.hid hb; clear hb)
  go_ret
  exact ⟨rfl, HC.out⟩
end
end Go.Proofs.YtenhliibmcmnbaaGreat
