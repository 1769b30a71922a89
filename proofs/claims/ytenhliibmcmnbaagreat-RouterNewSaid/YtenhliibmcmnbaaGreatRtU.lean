/-
  A fresh router: finalEntries, regular (printed by gen_rtu.py).
-/
import Derived.Test.YtenhliibmcmnbaaGreatRtT
namespace Go.Proofs.YtenhliibmcmnbaaGreat
set_option linter.unusedSimpArgs false
set_option linter.unusedVariables false
open Go.RowKit Go.Sort

section
variable {t : Topo} {v : Int} {rb sb : Nat} {C1 C2 B1 B2 D : Option Addr} {e1 e2 d1 d2 : Nat} {g s : Int} {w : World}
theorem p5_up {b : Nat} {x0 x1 x2 x3 x4 : Value} {w w' : World} (hb : Below w.heap.size w w') (h : w.cell? ⟨b, 3, none⟩ = some x0 ∧ w.cell? ⟨b, 9, none⟩ = some x1 ∧ w.cell? ⟨b, 10, none⟩ = some x2 ∧ w.cell? ⟨b, 11, none⟩ = some x3 ∧ w.cell? ⟨b, 12, none⟩ = some x4) :
    w'.cell? ⟨b, 3, none⟩ = some x0 ∧ w'.cell? ⟨b, 9, none⟩ = some x1 ∧ w'.cell? ⟨b, 10, none⟩ = some x2 ∧ w'.cell? ⟨b, 11, none⟩ = some x3 ∧ w'.cell? ⟨b, 12, none⟩ = some x4 := ⟨cell_up hb h.1, cell_up hb h.2.1, cell_up hb h.2.2.1, cell_up hb h.2.2.2.1, cell_up hb h.2.2.2.2⟩
theorem p5_set {b c j : Nat} {u x0 x1 x2 x3 x4 : Value} {w : World} (hb : c ≠ b) (h : w.cell? ⟨b, 3, none⟩ = some x0 ∧ w.cell? ⟨b, 9, none⟩ = some x1 ∧ w.cell? ⟨b, 10, none⟩ = some x2 ∧ w.cell? ⟨b, 11, none⟩ = some x3 ∧ w.cell? ⟨b, 12, none⟩ = some x4) :
    (w.setCell ⟨c, j, none⟩ u).cell? ⟨b, 3, none⟩ = some x0 ∧ (w.setCell ⟨c, j, none⟩ u).cell? ⟨b, 9, none⟩ = some x1 ∧ (w.setCell ⟨c, j, none⟩ u).cell? ⟨b, 10, none⟩ = some x2 ∧ (w.setCell ⟨c, j, none⟩ u).cell? ⟨b, 11, none⟩ = some x3 ∧ (w.setCell ⟨c, j, none⟩ u).cell? ⟨b, 12, none⟩ = some x4 := by
  have e : ∀ i, (w.setCell ⟨c, j, none⟩ u).cell? ⟨b, i, none⟩ = w.cell? ⟨b, i, none⟩ := fun i => World.cell?_setCell_other w _ _ _ (fun e => hb (by injection e))
  simpa only [e] using h
theorem p5_of {w : World} (h : RouR t v rb sb C1 C2 B1 B2 D e1 e2 d1 d2 g s w) : w.cell? ⟨rb, 3, none⟩ = some (.int .i64 v) ∧ w.cell? ⟨rb, 9, none⟩ = some (.int .i64 t.n) ∧ w.cell? ⟨rb, 10, none⟩ = some (.slice B1 (viewT t v).ov.length d1) ∧ w.cell? ⟨rb, 11, none⟩ = some (.slice B2 t.ls.length d2) ∧ w.cell? ⟨rb, 12, none⟩ = some (.slice D (2 * t.ls.length) (2 * t.ls.length)) :=
  ⟨h.r.cell 3 rfl, h.r.cell 9 rfl, h.r.cell 10 rfl, h.r.cell 11 rfl, h.r.cell 12 rfl⟩
set_option maxRecDepth 100000 in
set_option maxHeartbeats 4000000 in
theorem router_final0 (hv : valid t = true) (hn : isN t.n v = true) (h : RouR t v rb sb C1 C2 B1 B2 D e1 e2 d1 d2 g s w) :
    Calls Tryz.prog 98 #[.pointer (some ⟨rb, 0, none⟩)] w fun e w' => ∃ (Av : Option Addr) (cv : Nat), e = .returned (.slice Av t.n.toNat cv) ∧ w'.ownsRow w.heap.size 115 3 (.slice Av t.n.toNat cv) t.n.toNat (ents t.n.toNat) ∧ Below w.heap.size w w' := by
  obtain ⟨X, hX⟩ : ∃ X, X = w.drew := ⟨_, rfl⟩
  have HR := Lib.hid (hX ▸ h.up (Bdrw (Below.refl _ _)) : RouR t v rb sb C1 C2 B1 B2 D e1 e2 d1 d2 g s X)
  have HBX := Lib.hid (hX ▸ Bdrw (Below.refl w.heap.size w) : Below w.heap.size w X)
  have hXs : X.heap.size = w.heap.size := by rw [hX]; simp
  have HXS := Lib.hid hXs
  have HC : Hid (∀ W, Below X.heap.size X W → Calls Tryz.prog 154 #[.agg #[.int .i64 t.n, .slice B1 (viewT t v).ov.length d1, .slice B2 t.ls.length d2], .slice D (2 * t.ls.length) (2 * t.ls.length), .int .i64 v] W fun e w' => ∃ (Av Aw : Option Addr) (cv m cw : Nat), e = .returned (.tuple #[.agg #[.int .i64 v, .slice Av t.n.toNat cv, .slice Aw m cw], .int .i64 0]) ∧ w'.ownsRow W.heap.size 115 3 (.slice Av t.n.toNat cv) t.n.toNat (ents t.n.toNat) ∧ Below W.heap.size W w' ∧ Below X.heap.size X w') := Lib.hid fun W hW => by
    have hr := HR.out.up hW
    have h1 := table_Routes0 (t := viewT t v) (w := W) d1 d2 (2 * t.ls.length) v (viewT_valid hv) hn hr.cv hr.cd
    refine h1.mono ?_
    rintro e w' ⟨Av, Aw, cv, m, cw, he, ho, hb⟩
    exact ⟨Av, Aw, cv, m, cw, he, ho, hb, below_next hW hb⟩
  have hlt := h.r.lt
  have hq := p5_of HR.out
  have hn1 : X.heap.size ≠ rb := by omega
  clear h hv hn hXs
  go_enter Tryz.func98, Tryz.ntmps98
  go_upto_region 1 with fail
  refine wp_region_held_drew (S := (fun w' => w'.cell? ⟨rb, 3, none⟩ = some (.int .i64 v) ∧ w'.cell? ⟨rb, 9, none⟩ = some (.int .i64 t.n) ∧ w'.cell? ⟨rb, 10, none⟩ = some (.slice B1 (viewT t v).ov.length d1) ∧ w'.cell? ⟨rb, 11, none⟩ = some (.slice B2 t.ls.length d2) ∧ w'.cell? ⟨rb, 12, none⟩ = some (.slice D (2 * t.ls.length) (2 * t.ls.length)))) (by kernel_rfl) ?_ (fun hHeld => ?_)
  · exact hX ▸ hq
  rw [← hX] at hHeld ⊢
  clear hX hq
  (refine takeL (i := 0) (v := ?_) rfl (by kernel_rfl) (by decide +kernel) (by decide +kernel) (fun _ _ _ h => h) (Or.inl ⟨by rfl, ?_⟩) (by assumption) ?_; rotate_left; (focus (intro w9 hS9; (try dsimp only at hS9); go_simp; (try with_reducible rfl); done)))
  (try simp only [Act.put, List.setIfInBounds_toArray, List.set_cons_zero, List.set_cons_succ])
  (refine takeL (i := 1) (v := ?_) rfl (by kernel_rfl) (by decide +kernel) (by decide +kernel) (fun _ _ _ h => h) (Or.inl ⟨by rfl, ?_⟩) (by assumption) ?_; rotate_left; (focus (intro w9 hS9; (try dsimp only at hS9); go_simp; (try with_reducible rfl); done)))
  (try simp only [Act.put, List.setIfInBounds_toArray, List.set_cons_zero, List.set_cons_succ])
  (refine takeL (i := 2) (v := ?_) rfl (by kernel_rfl) (by decide +kernel) (by decide +kernel) (fun _ _ _ h => h) (Or.inl ⟨by rfl, ?_⟩) (by assumption) ?_; rotate_left; (focus (intro w9 hS9; (try dsimp only at hS9); go_simp; (try with_reducible rfl); done)))
  (try simp only [Act.put, List.setIfInBounds_toArray, List.set_cons_zero, List.set_cons_succ])
  (refine takeL (i := 3) (v := ?_) rfl (by kernel_rfl) (by decide +kernel) (by decide +kernel) (fun _ _ _ h => h) (Or.inl ⟨by rfl, ?_⟩) (by assumption) ?_; rotate_left; (focus (intro w9 hS9; (try dsimp only at hS9); go_simp; (try with_reducible rfl); done)))
  (try simp only [Act.put, List.setIfInBounds_toArray, List.set_cons_zero, List.set_cons_succ])
  (refine takeL (i := 4) (v := ?_) rfl (by kernel_rfl) (by decide +kernel) (by decide +kernel) (fun _ _ _ h => h) (Or.inl ⟨by rfl, ?_⟩) (by assumption) ?_; rotate_left; (focus (intro w9 hS9; (try dsimp only at hS9); go_simp; (try with_reducible rfl); done)))
  (try simp only [Act.put, List.setIfInBounds_toArray, List.set_cons_zero, List.set_cons_succ])
  (refine takeL (i := 5) (v := ?_) rfl (by kernel_rfl) (by decide +kernel) (by decide +kernel) (fun _ _ _ h => h) (Or.inl ⟨by rfl, ?_⟩) (by assumption) ?_; rotate_left; (focus (intro w9 hS9; (try dsimp only at hS9); go_simp; (try with_reducible rfl); done)))
  (try simp only [Act.put, List.setIfInBounds_toArray, List.set_cons_zero, List.set_cons_succ])
  (refine takeL (i := 6) (v := ?_) rfl (by kernel_rfl) (by decide +kernel) (by decide +kernel) (fun _ _ _ h => h) (Or.inl ⟨by rfl, ?_⟩) (by assumption) ?_; rotate_left; (focus (intro w9 hS9; (try dsimp only at hS9); go_simp; (try with_reducible rfl); done)))
  (try simp only [Act.put, List.setIfInBounds_toArray, List.set_cons_zero, List.set_cons_succ])
  (refine takeL (i := 7) (v := ?_) rfl (by kernel_rfl) (by decide +kernel) (by decide +kernel) (fun _ _ _ h => h) (Or.inl ⟨by rfl, ?_⟩) (by assumption) ?_; rotate_left; (focus (intro w9 hS9; (try dsimp only at hS9); go_simp; (try with_reducible rfl); done)))
  (try simp only [Act.put, List.setIfInBounds_toArray, List.set_cons_zero, List.set_cons_succ])
  (refine takeL (i := 8) (v := ?_) rfl (by kernel_rfl) (by decide +kernel) (by decide +kernel) (fun _ _ _ h => h) (Or.inl ⟨by rfl, ?_⟩) (by assumption) ?_; rotate_left; (focus (intro w9 hS9; (try dsimp only at hS9); go_simp; (try with_reducible rfl); done)))
  (try simp only [Act.put, List.setIfInBounds_toArray, List.set_cons_zero, List.set_cons_succ])
  (refine takeL (i := 9) (v := ?_) rfl (by kernel_rfl) (by decide +kernel) (by decide +kernel) (fun _ _ _ h => h) (Or.inl ⟨by rfl, ?_⟩) (by assumption) ?_; rotate_left; (focus (intro w9 hS9; (try dsimp only at hS9); go_simp; (try with_reducible rfl); done)))
  (try simp only [Act.put, List.setIfInBounds_toArray, List.set_cons_zero, List.set_cons_succ])
  (refine takeL (i := 10) (v := ?_) rfl (by kernel_rfl) (by decide +kernel) (by decide +kernel) (fun _ _ _ h => h) (Or.inl ⟨by rfl, ?_⟩) (by assumption) ?_; rotate_left; (focus (intro w9 hS9; (try dsimp only at hS9); go_simp; (try with_reducible rfl); done)))
  (try simp only [Act.put, List.setIfInBounds_toArray, List.set_cons_zero, List.set_cons_succ])
  (refine takeL (i := 11) (v := ?_) rfl (by kernel_rfl) (by decide +kernel) (by decide +kernel) (fun _ _ _ h => h) (Or.inl ⟨by rfl, ?_⟩) (by assumption) ?_; rotate_left; (focus (intro w9 hS9; (try dsimp only at hS9); go_simp; (try with_reducible rfl); done)))
  (try simp only [Act.put, List.setIfInBounds_toArray, List.set_cons_zero, List.set_cons_succ])
  (refine takeL (i := 12) (v := ?_) rfl (by kernel_rfl) (by decide +kernel) (by decide +kernel) (fun _ _ _ h => h) (Or.inl ⟨by rfl, ?_⟩) (by assumption) ?_; rotate_left; (focus (intro w9 hS9; (try dsimp only at hS9); go_simp; (try with_reducible rfl); done)))
  (try simp only [Act.put, List.setIfInBounds_toArray, List.set_cons_zero, List.set_cons_succ])
  (refine takeL (i := 13) (v := ?_) rfl (by kernel_rfl) (by decide +kernel) (by decide +kernel) (fun _ _ _ h => h) (Or.inl ⟨by rfl, ?_⟩) (by assumption) ?_; rotate_left; (focus (intro w9 hS9; (try dsimp only at hS9); go_simp; (try with_reducible rfl); done)))
  (try simp only [Act.put, List.setIfInBounds_toArray, List.set_cons_zero, List.set_cons_succ])
  refine wpAnyH_ready (rs := [14, 18]) (by decide +kernel) (by simp) ?_
  refine consL rfl (fun K hK => ?_) ?_
  · (first | (go_at_call 154; (with_reducible refine Calls.mono (HC.out _ (by (repeat' (first | (with_reducible exact Below.refl _ _) | (with_reducible refine Bset ?_ ?_) | (with_reducible refine Bdrw ?_) | (with_reducible refine Bbox ?_ ?_) | omega | (simp; done) | (simp; omega))))) ?_); rintro e w3 ⟨Av, Aw, cv, m, cw, rfl, ho, hb, hbx⟩; have HQ := Lib.hid hb; have HQX := Lib.hid hbx; have HO := Lib.hid ho; have HR3 := Lib.hid (HR.out.up hbx); have hs3 := hbx.size; (try (have HA3 := Lib.hid (Bl.up (Bl.new X #[.int .i64 0, .slice none 0 0, .slice none 0 0] 52) hb); obtain ⟨a0, a1, a2, fa⟩ := HA3.out.c3)); clear hb ho hbx) | (go_simp; first | done | (first | (go_at_call 154; (with_reducible refine Calls.mono (HC.out _ (by (repeat' (first | (with_reducible exact Below.refl _ _) | (with_reducible refine Bset ?_ ?_) | (with_reducible refine Bdrw ?_) | (with_reducible refine Bbox ?_ ?_) | omega | (simp; done) | (simp; omega))))) ?_); rintro e w3 ⟨Av, Aw, cv, m, cw, rfl, ho, hb, hbx⟩; have HQ := Lib.hid hb; have HQX := Lib.hid hbx; have HO := Lib.hid ho; have HR3 := Lib.hid (HR.out.up hbx); have hs3 := hbx.size; (try (have HA3 := Lib.hid (Bl.up (Bl.new X #[.int .i64 0, .slice none 0 0, .slice none 0 0] 52) hb); obtain ⟨a0, a1, a2, fa⟩ := HA3.out.c3)); clear hb ho hbx))) | go_simp)
    (first | (with_reducible refine hK.out _ _ ?_ ?_) | (go_wp2_with fail; refine hK.out _ _ ?_ ?_))
    (focus ((first | with_reducible exact hHeld | with_reducible exact p5_up (below_box _ _) hHeld | with_reducible exact p5_up HQ.out hHeld | exact p5_up (below_box _ _) (p5_of HR3.out) | exact p5_set hn1 (p5_set hn1 (p5_set hn1 hHeld)))))
    clear hK K hHeld
    intro hHeld
    (try simp only [Act.put, List.setIfInBounds_toArray, List.set_cons_zero, List.set_cons_succ])
    (refine takeL (i := 15) (v := ?_) rfl (by kernel_rfl) (by decide +kernel) (by decide +kernel) (fun _ _ _ h => h) (Or.inl ⟨by rfl, ?_⟩) (by assumption) ?_; rotate_left; (focus (intro w9 hS9; (try dsimp only at hS9); go_simp; (try with_reducible rfl); done)))
    (try simp only [Act.put, List.setIfInBounds_toArray, List.set_cons_zero, List.set_cons_succ])
    (refine takeL (i := 16) (v := ?_) rfl (by kernel_rfl) (by decide +kernel) (by decide +kernel) (fun _ _ _ h => h) (Or.inl ⟨by rfl, ?_⟩) (by assumption) ?_; rotate_left; (focus (intro w9 hS9; (try dsimp only at hS9); go_simp; (try with_reducible rfl); done)))
    (try simp only [Act.put, List.setIfInBounds_toArray, List.set_cons_zero, List.set_cons_succ])
    (refine takeL (i := 17) (v := ?_) rfl (by kernel_rfl) (by decide +kernel) (by decide +kernel) (fun _ _ _ h => h) (Or.inl ⟨by rfl, ?_⟩) (by assumption) ?_; rotate_left; (focus (intro w9 hS9; (try dsimp only at hS9); go_simp; (try with_reducible rfl); done)))
    (try simp only [Act.put, List.setIfInBounds_toArray, List.set_cons_zero, List.set_cons_succ])
    refine wpAnyH_ready (rs := [18]) (by decide +kernel) (by simp) ?_
    refine consL rfl (fun K hK => ?_) ?_
    · (first | (go_at_call 154; (with_reducible refine Calls.mono (HC.out _ (by (repeat' (first | (with_reducible exact Below.refl _ _) | (with_reducible refine Bset ?_ ?_) | (with_reducible refine Bdrw ?_) | (with_reducible refine Bbox ?_ ?_) | omega | (simp; done) | (simp; omega))))) ?_); rintro e w3 ⟨Av, Aw, cv, m, cw, rfl, ho, hb, hbx⟩; have HQ := Lib.hid hb; have HQX := Lib.hid hbx; have HO := Lib.hid ho; have HR3 := Lib.hid (HR.out.up hbx); have hs3 := hbx.size; (try (have HA3 := Lib.hid (Bl.up (Bl.new X #[.int .i64 0, .slice none 0 0, .slice none 0 0] 52) hb); obtain ⟨a0, a1, a2, fa⟩ := HA3.out.c3)); clear hb ho hbx) | (go_simp; first | done | (first | (go_at_call 154; (with_reducible refine Calls.mono (HC.out _ (by (repeat' (first | (with_reducible exact Below.refl _ _) | (with_reducible refine Bset ?_ ?_) | (with_reducible refine Bdrw ?_) | (with_reducible refine Bbox ?_ ?_) | omega | (simp; done) | (simp; omega))))) ?_); rintro e w3 ⟨Av, Aw, cv, m, cw, rfl, ho, hb, hbx⟩; have HQ := Lib.hid hb; have HQX := Lib.hid hbx; have HO := Lib.hid ho; have HR3 := Lib.hid (HR.out.up hbx); have hs3 := hbx.size; (try (have HA3 := Lib.hid (Bl.up (Bl.new X #[.int .i64 0, .slice none 0 0, .slice none 0 0] 52) hb); obtain ⟨a0, a1, a2, fa⟩ := HA3.out.c3)); clear hb ho hbx))) | go_simp)
      (first | (with_reducible refine hK.out _ _ ?_ ?_) | (go_wp2_with fail; refine hK.out _ _ ?_ ?_))
      (focus ((first | with_reducible exact hHeld | with_reducible exact p5_up (below_box _ _) hHeld | with_reducible exact p5_up HQ.out hHeld | exact p5_up (below_box _ _) (p5_of HR3.out) | exact p5_set hn1 (p5_set hn1 (p5_set hn1 hHeld)))))
      clear hK K hHeld
      intro hHeld
      (try simp only [Act.put, List.setIfInBounds_toArray, List.set_cons_zero, List.set_cons_succ])
      refine wpAnyH_ready (rs := [19]) (by decide +kernel) (by simp) ?_
      refine consL rfl (fun K hK => ?_) ?_
      · (first | (go_at_call 154; (with_reducible refine Calls.mono (HC.out _ (by (repeat' (first | (with_reducible exact Below.refl _ _) | (with_reducible refine Bset ?_ ?_) | (with_reducible refine Bdrw ?_) | (with_reducible refine Bbox ?_ ?_) | omega | (simp; done) | (simp; omega))))) ?_); rintro e w3 ⟨Av, Aw, cv, m, cw, rfl, ho, hb, hbx⟩; have HQ := Lib.hid hb; have HQX := Lib.hid hbx; have HO := Lib.hid ho; have HR3 := Lib.hid (HR.out.up hbx); have hs3 := hbx.size; (try (have HA3 := Lib.hid (Bl.up (Bl.new X #[.int .i64 0, .slice none 0 0, .slice none 0 0] 52) hb); obtain ⟨a0, a1, a2, fa⟩ := HA3.out.c3)); clear hb ho hbx) | (go_simp; first | done | (first | (go_at_call 154; (with_reducible refine Calls.mono (HC.out _ (by (repeat' (first | (with_reducible exact Below.refl _ _) | (with_reducible refine Bset ?_ ?_) | (with_reducible refine Bdrw ?_) | (with_reducible refine Bbox ?_ ?_) | omega | (simp; done) | (simp; omega))))) ?_); rintro e w3 ⟨Av, Aw, cv, m, cw, rfl, ho, hb, hbx⟩; have HQ := Lib.hid hb; have HQX := Lib.hid hbx; have HO := Lib.hid ho; have HR3 := Lib.hid (HR.out.up hbx); have hs3 := hbx.size; (try (have HA3 := Lib.hid (Bl.up (Bl.new X #[.int .i64 0, .slice none 0 0, .slice none 0 0] 52) hb); obtain ⟨a0, a1, a2, fa⟩ := HA3.out.c3)); clear hb ho hbx))) | go_simp)
        (first | (with_reducible refine hK.out _ _ ?_ ?_) | (go_wp2_with fail; refine hK.out _ _ ?_ ?_))
        (focus ((first | with_reducible exact hHeld | with_reducible exact p5_up (below_box _ _) hHeld | with_reducible exact p5_up HQ.out hHeld | exact p5_up (below_box _ _) (p5_of HR3.out) | exact p5_set hn1 (p5_set hn1 (p5_set hn1 hHeld)))))
        clear hK K hHeld
        intro hHeld
        (try simp only [Act.put, List.setIfInBounds_toArray, List.set_cons_zero, List.set_cons_succ])
        (refine takeL (i := 20) (v := ?_) rfl (by kernel_rfl) (by decide +kernel) (by decide +kernel) (fun _ _ _ h => h) (Or.inl ⟨by rfl, ?_⟩) (by assumption) ?_; rotate_left; (focus (intro w9 hS9; (try dsimp only at hS9); go_simp; (try with_reducible rfl); done)))
        (try simp only [Act.put, List.setIfInBounds_toArray, List.set_cons_zero, List.set_cons_succ])
        refine wpAnyH_done (by decide +kernel) ?_ _
        go_upto_region 2 with fail
        (refine wp_named3 (fun Y => (∃ p, p = w3.heap.size ∧ Bl 52 p #[.int .i64 v, .slice Av t.n.toNat cv, .slice Aw m cw] Y) ∧ Y.ownsRow w.heap.size 115 3 (.slice Av t.n.toNat cv) t.n.toNat (ents t.n.toNat) ∧ Below w.heap.size w Y) ⟨⟨_, rfl, Bl.new w3 _ _⟩, own_up (own_base HO.out (Nat.le_of_eq HXS.out.symm)) (below_box _ _), (HBX.out.trans (HQX.out.mono (Nat.le_of_eq HXS.out.symm))).alloc (by have := HXS.out; omega) _⟩ ?_)
        rintro Y ⟨⟨p, hp, hY1⟩, hY2, hY3⟩
        rw [← hp]
        have HY2 := Lib.hid hY2
        have HY3 := Lib.hid hY3
        obtain ⟨z0, z1, z2, fz⟩ := hY1.c3
        clear hY1 hY2 hY3 hp hHeld
        go_wp2_with fail
        go_ret
        exact ⟨Av, cv, rfl, HY2.out, HY3.out⟩
      exact AllReadyH.nil
    exact AllReadyH.nil
  refine consL rfl (fun K hK => ?_) ?_
  · (first | (go_at_call 154; (with_reducible refine Calls.mono (HC.out _ (by (repeat' (first | (with_reducible exact Below.refl _ _) | (with_reducible refine Bset ?_ ?_) | (with_reducible refine Bdrw ?_) | (with_reducible refine Bbox ?_ ?_) | omega | (simp; done) | (simp; omega))))) ?_); rintro e w3 ⟨Av, Aw, cv, m, cw, rfl, ho, hb, hbx⟩; have HQ := Lib.hid hb; have HQX := Lib.hid hbx; have HO := Lib.hid ho; have HR3 := Lib.hid (HR.out.up hbx); have hs3 := hbx.size; (try (have HA3 := Lib.hid (Bl.up (Bl.new X #[.int .i64 0, .slice none 0 0, .slice none 0 0] 52) hb); obtain ⟨a0, a1, a2, fa⟩ := HA3.out.c3)); clear hb ho hbx) | (go_simp; first | done | (first | (go_at_call 154; (with_reducible refine Calls.mono (HC.out _ (by (repeat' (first | (with_reducible exact Below.refl _ _) | (with_reducible refine Bset ?_ ?_) | (with_reducible refine Bdrw ?_) | (with_reducible refine Bbox ?_ ?_) | omega | (simp; done) | (simp; omega))))) ?_); rintro e w3 ⟨Av, Aw, cv, m, cw, rfl, ho, hb, hbx⟩; have HQ := Lib.hid hb; have HQX := Lib.hid hbx; have HO := Lib.hid ho; have HR3 := Lib.hid (HR.out.up hbx); have hs3 := hbx.size; (try (have HA3 := Lib.hid (Bl.up (Bl.new X #[.int .i64 0, .slice none 0 0, .slice none 0 0] 52) hb); obtain ⟨a0, a1, a2, fa⟩ := HA3.out.c3)); clear hb ho hbx))) | go_simp)
    (first | (with_reducible refine hK.out _ _ ?_ ?_) | (go_wp2_with fail; refine hK.out _ _ ?_ ?_))
    (focus ((first | with_reducible exact hHeld | with_reducible exact p5_up (below_box _ _) hHeld | with_reducible exact p5_up HQ.out hHeld | exact p5_up (below_box _ _) (p5_of HR3.out) | exact p5_set hn1 (p5_set hn1 (p5_set hn1 hHeld)))))
    clear hK K hHeld
    intro hHeld
    (try simp only [Act.put, List.setIfInBounds_toArray, List.set_cons_zero, List.set_cons_succ])
    refine wpAnyH_ready (rs := [14]) (by decide +kernel) (by simp) ?_
    refine consL rfl (fun K hK => ?_) ?_
    · (first | (go_at_call 154; (with_reducible refine Calls.mono (HC.out _ (by (repeat' (first | (with_reducible exact Below.refl _ _) | (with_reducible refine Bset ?_ ?_) | (with_reducible refine Bdrw ?_) | (with_reducible refine Bbox ?_ ?_) | omega | (simp; done) | (simp; omega))))) ?_); rintro e w3 ⟨Av, Aw, cv, m, cw, rfl, ho, hb, hbx⟩; have HQ := Lib.hid hb; have HQX := Lib.hid hbx; have HO := Lib.hid ho; have HR3 := Lib.hid (HR.out.up hbx); have hs3 := hbx.size; (try (have HA3 := Lib.hid (Bl.up (Bl.new X #[.int .i64 0, .slice none 0 0, .slice none 0 0] 52) hb); obtain ⟨a0, a1, a2, fa⟩ := HA3.out.c3)); clear hb ho hbx) | (go_simp; first | done | (first | (go_at_call 154; (with_reducible refine Calls.mono (HC.out _ (by (repeat' (first | (with_reducible exact Below.refl _ _) | (with_reducible refine Bset ?_ ?_) | (with_reducible refine Bdrw ?_) | (with_reducible refine Bbox ?_ ?_) | omega | (simp; done) | (simp; omega))))) ?_); rintro e w3 ⟨Av, Aw, cv, m, cw, rfl, ho, hb, hbx⟩; have HQ := Lib.hid hb; have HQX := Lib.hid hbx; have HO := Lib.hid ho; have HR3 := Lib.hid (HR.out.up hbx); have hs3 := hbx.size; (try (have HA3 := Lib.hid (Bl.up (Bl.new X #[.int .i64 0, .slice none 0 0, .slice none 0 0] 52) hb); obtain ⟨a0, a1, a2, fa⟩ := HA3.out.c3)); clear hb ho hbx))) | go_simp)
      (first | (with_reducible refine hK.out _ _ ?_ ?_) | (go_wp2_with fail; refine hK.out _ _ ?_ ?_))
      (focus ((first | with_reducible exact hHeld | with_reducible exact p5_up (below_box _ _) hHeld | with_reducible exact p5_up HQ.out hHeld | exact p5_up (below_box _ _) (p5_of HR3.out) | exact p5_set hn1 (p5_set hn1 (p5_set hn1 hHeld)))))
      clear hK K hHeld
      intro hHeld
      (try simp only [Act.put, List.setIfInBounds_toArray, List.set_cons_zero, List.set_cons_succ])
      (refine takeL (i := 15) (v := ?_) rfl (by kernel_rfl) (by decide +kernel) (by decide +kernel) (fun _ _ _ h => h) (Or.inl ⟨by rfl, ?_⟩) (by assumption) ?_; rotate_left; (focus (intro w9 hS9; (try dsimp only at hS9); go_simp; (try with_reducible rfl); done)))
      (try simp only [Act.put, List.setIfInBounds_toArray, List.set_cons_zero, List.set_cons_succ])
      (refine takeL (i := 16) (v := ?_) rfl (by kernel_rfl) (by decide +kernel) (by decide +kernel) (fun _ _ _ h => h) (Or.inl ⟨by rfl, ?_⟩) (by assumption) ?_; rotate_left; (focus (intro w9 hS9; (try dsimp only at hS9); go_simp; (try with_reducible rfl); done)))
      (try simp only [Act.put, List.setIfInBounds_toArray, List.set_cons_zero, List.set_cons_succ])
      (refine takeL (i := 17) (v := ?_) rfl (by kernel_rfl) (by decide +kernel) (by decide +kernel) (fun _ _ _ h => h) (Or.inl ⟨by rfl, ?_⟩) (by assumption) ?_; rotate_left; (focus (intro w9 hS9; (try dsimp only at hS9); go_simp; (try with_reducible rfl); done)))
      (try simp only [Act.put, List.setIfInBounds_toArray, List.set_cons_zero, List.set_cons_succ])
      refine wpAnyH_ready (rs := [19]) (by decide +kernel) (by simp) ?_
      refine consL rfl (fun K hK => ?_) ?_
      · (first | (go_at_call 154; (with_reducible refine Calls.mono (HC.out _ (by (repeat' (first | (with_reducible exact Below.refl _ _) | (with_reducible refine Bset ?_ ?_) | (with_reducible refine Bdrw ?_) | (with_reducible refine Bbox ?_ ?_) | omega | (simp; done) | (simp; omega))))) ?_); rintro e w3 ⟨Av, Aw, cv, m, cw, rfl, ho, hb, hbx⟩; have HQ := Lib.hid hb; have HQX := Lib.hid hbx; have HO := Lib.hid ho; have HR3 := Lib.hid (HR.out.up hbx); have hs3 := hbx.size; (try (have HA3 := Lib.hid (Bl.up (Bl.new X #[.int .i64 0, .slice none 0 0, .slice none 0 0] 52) hb); obtain ⟨a0, a1, a2, fa⟩ := HA3.out.c3)); clear hb ho hbx) | (go_simp; first | done | (first | (go_at_call 154; (with_reducible refine Calls.mono (HC.out _ (by (repeat' (first | (with_reducible exact Below.refl _ _) | (with_reducible refine Bset ?_ ?_) | (with_reducible refine Bdrw ?_) | (with_reducible refine Bbox ?_ ?_) | omega | (simp; done) | (simp; omega))))) ?_); rintro e w3 ⟨Av, Aw, cv, m, cw, rfl, ho, hb, hbx⟩; have HQ := Lib.hid hb; have HQX := Lib.hid hbx; have HO := Lib.hid ho; have HR3 := Lib.hid (HR.out.up hbx); have hs3 := hbx.size; (try (have HA3 := Lib.hid (Bl.up (Bl.new X #[.int .i64 0, .slice none 0 0, .slice none 0 0] 52) hb); obtain ⟨a0, a1, a2, fa⟩ := HA3.out.c3)); clear hb ho hbx))) | go_simp)
        (first | (with_reducible refine hK.out _ _ ?_ ?_) | (go_wp2_with fail; refine hK.out _ _ ?_ ?_))
        (focus ((first | with_reducible exact hHeld | with_reducible exact p5_up (below_box _ _) hHeld | with_reducible exact p5_up HQ.out hHeld | exact p5_up (below_box _ _) (p5_of HR3.out) | exact p5_set hn1 (p5_set hn1 (p5_set hn1 hHeld)))))
        clear hK K hHeld
        intro hHeld
        (try simp only [Act.put, List.setIfInBounds_toArray, List.set_cons_zero, List.set_cons_succ])
        (refine takeL (i := 20) (v := ?_) rfl (by kernel_rfl) (by decide +kernel) (by decide +kernel) (fun _ _ _ h => h) (Or.inl ⟨by rfl, ?_⟩) (by assumption) ?_; rotate_left; (focus (intro w9 hS9; (try dsimp only at hS9); go_simp; (try with_reducible rfl); done)))
        (try simp only [Act.put, List.setIfInBounds_toArray, List.set_cons_zero, List.set_cons_succ])
        refine wpAnyH_done (by decide +kernel) ?_ _
        go_upto_region 2 with fail
        have hov : (Value.slice Av t.n.toNat cv).ownBlock ≠ some X.heap.size := fun e => by have := (HO.out.lt _ e).1; simp at this; omega
        have HOW := Lib.hid (own_setCell (j := 2) (own_setCell (j := 1) (own_setCell (j := 0) HO.out hov (.int .i64 v)) hov (.slice Av t.n.toNat cv)) hov (.slice Aw m cw))
        (refine wp_named3 (fun Y => (∃ p, p = X.heap.size ∧ Bl 52 p #[.int .i64 v, .slice Av t.n.toNat cv, .slice Aw m cw] Y) ∧ Y.ownsRow w.heap.size 115 3 (.slice Av t.n.toNat cv) t.n.toNat (ents t.n.toNat) ∧ Below w.heap.size w Y) ⟨⟨_, rfl, ((HA3.out.set 0 _ rfl).set 1 _ rfl).set 2 _ rfl⟩, own_base HOW.out (by have := HXS.out; simp; omega), Bset (Bset (Bset (HBX.out.trans (HQX.out.mono (Nat.le_of_eq HXS.out.symm))) (Nat.le_of_eq HXS.out.symm)) (Nat.le_of_eq HXS.out.symm)) (Nat.le_of_eq HXS.out.symm)⟩ ?_)
        rintro Y ⟨⟨p, hp, hY1⟩, hY2, hY3⟩
        rw [← hp]
        have HY2 := Lib.hid hY2
        have HY3 := Lib.hid hY3
        obtain ⟨z0, z1, z2, fz⟩ := hY1.c3
        clear hY1 hY2 hY3 hp hHeld
        go_wp2_with fail
        go_ret
        exact ⟨Av, cv, rfl, HY2.out, HY3.out⟩
      exact AllReadyH.nil
    exact AllReadyH.nil
  exact AllReadyH.nil
end
end Go.Proofs.YtenhliibmcmnbaaGreat
