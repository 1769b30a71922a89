/-
  The view of a fresh speaker and of a fresh router.
-/
import Derived.Test.YtenhliibmcmnbaaGreatRtL
import Derived.Test.YtenhliibmcmnbaaGreatReg
namespace Go.Proofs.YtenhliibmcmnbaaGreat
set_option linter.unusedSimpArgs false
set_option linter.unusedVariables false
open Go.RowKit Go.Sort

theorem q4_up {sb : Nat} {x0 x1 x2 x12 : Value} {w w' : World} (hb : Below w.heap.size w w') (h : w.cell? ⟨sb, 0, none⟩ = some x0 ∧ w.cell? ⟨sb, 1, none⟩ = some x1 ∧ w.cell? ⟨sb, 2, none⟩ = some x2 ∧ w.cell? ⟨sb, 12, none⟩ = some x12) :
    w'.cell? ⟨sb, 0, none⟩ = some x0 ∧ w'.cell? ⟨sb, 1, none⟩ = some x1 ∧ w'.cell? ⟨sb, 2, none⟩ = some x2 ∧ w'.cell? ⟨sb, 12, none⟩ = some x12 := ⟨cell_up hb h.1, cell_up hb h.2.1, cell_up hb h.2.2.1, cell_up hb h.2.2.2⟩
theorem q4_set {sb b j : Nat} {u x0 x1 x2 x12 : Value} {w : World} (hb : b ≠ sb) (h : w.cell? ⟨sb, 0, none⟩ = some x0 ∧ w.cell? ⟨sb, 1, none⟩ = some x1 ∧ w.cell? ⟨sb, 2, none⟩ = some x2 ∧ w.cell? ⟨sb, 12, none⟩ = some x12) :
    (w.setCell ⟨b, j, none⟩ u).cell? ⟨sb, 0, none⟩ = some x0 ∧ (w.setCell ⟨b, j, none⟩ u).cell? ⟨sb, 1, none⟩ = some x1 ∧ (w.setCell ⟨b, j, none⟩ u).cell? ⟨sb, 2, none⟩ = some x2 ∧ (w.setCell ⟨b, j, none⟩ u).cell? ⟨sb, 12, none⟩ = some x12 := by
  have e : ∀ i, (w.setCell ⟨b, j, none⟩ u).cell? ⟨sb, i, none⟩ = w.cell? ⟨sb, i, none⟩ := fun i => World.cell?_setCell_other w _ _ _ (fun e => hb (by injection e))
  simpa only [e] using h
theorem q4_of {T : TypeId} {sb : Nat} {x0 x1 x2 x3 x4 x5 x6 x7 x8 x9 x10 x11 x12 x13 x14 : Value} {w : World} (h : Bl T sb #[x0, x1, x2, x3, x4, x5, x6, x7, x8, x9, x10, x11, x12, x13, x14] w) :
    w.cell? ⟨sb, 0, none⟩ = some x0 ∧ w.cell? ⟨sb, 1, none⟩ = some x1 ∧ w.cell? ⟨sb, 2, none⟩ = some x2 ∧ w.cell? ⟨sb, 12, none⟩ = some x12 := ⟨h.cell 0 rfl, h.cell 1 rfl, h.cell 2 rfl, h.cell 12 rfl⟩
/-- What View gives of a fresh node. -/
def Vw (t : Topo) (v : Int) (n : Nat) (B1 B2 D : Option Addr) (w' : World) : Prop := TAt w' B1 B2 (viewT t v) ∧ Rd w' D ((List.replicate (2 * t.ls.length) true).map Value.bool) ∧ Fresh n B1 ∧ Fresh n B2 ∧ Fresh n D
theorem Vw.up {t : Topo} {v : Int} {n : Nat} {B1 B2 D : Option Addr} {w w' : World} (h : Vw t v n B1 B2 D w) (hb : Below w.heap.size w w') : Vw t v n B1 B2 D w' := ⟨h.1.below hb, h.2.1.below hb, h.2.2⟩
theorem Vw.set {t : Topo} {v : Int} {n b : Nat} {B1 B2 D : Option Addr} {w : World} (h : Vw t v n B1 B2 D w) (hb : b < n) (j : Nat) (u : Value) : Vw t v n B1 B2 D (w.setCell ⟨b, j, none⟩ u) :=
  ⟨h.1.set h.2.2.1 h.2.2.2.1 hb j u, h.2.1.set h.2.2.2.2 hb j u, h.2.2⟩
theorem Vw.mono {t : Topo} {v : Int} {n m : Nat} {B1 B2 D : Option Addr} {w : World} (h : Vw t v n B1 B2 D w) (hm : m ≤ n) : Vw t v m B1 B2 D w := ⟨h.1, h.2.1, h.2.2.1.mono hm, h.2.2.2.1.mono hm, h.2.2.2.2.mono hm⟩
set_option maxRecDepth 100000 in
set_option maxHeartbeats 4000000 in
theorem speaker_View0 (sb : Nat) (v : Int) (t : Topo) (w : World) (hv : valid t = true) (hn : isN t.n v = true) (h : SpkAt t v sb w) :
    Calls Tryz.prog 81 #[.pointer (some ⟨sb, 0, none⟩)] w fun e w' => ∃ B1 B2 d1 d2 D, e = .returned (.tuple #[.agg #[.int .i64 t.n, .slice B1 (viewT t v).ov.length d1, .slice B2 t.ls.length d2], .slice D (2 * t.ls.length) (2 * t.ls.length)]) ∧ Vw t v w.heap.size B1 B2 D w' ∧ Below w.heap.size w w' := by
  obtain ⟨db, mb, A1, A2, c1, c2, x3, x4, x5, x6, x7, x8, x9, x10, x11, x13, x14, h1, h2, h3, h4⟩ := h
  have hbx := below_box w (.cells #[.int .i64 0, .slice none 0 0, .slice none 0 0] 25)
  have HY := Lib.hid (Bl.new w #[.int .i64 0, .slice none 0 0, .slice none 0 0] 25)
  have HS := Lib.hid (h1.up hbx)
  have HT := Lib.hid (h2.below hbx)
  have HD := Lib.hid (h3.up hbx)
  have HM := Lib.hid (h4.up hbx)
  have HB := Lib.hid hbx
  have HV := Lib.hid hv
  have HN := Lib.hid hn
  have hlt := h1.lt
  clear h1 h2 h3 h4 hbx hv hn
  go_enter Tryz.func81, Tryz.ntmps81
  have hX1 : w.heap.size < (w.alloc (.cells #[.int .i64 0, .slice none 0 0, .slice none 0 0] 25)).heap.size := by simp
  have hX2 : (w.alloc (.cells #[.int .i64 0, .slice none 0 0, .slice none 0 0] 25)).heap.size = w.heap.size + 1 := by simp
  go_upto_region 3 with fail
  generalize w.alloc (.cells #[.int .i64 0, .slice none 0 0, .slice none 0 0] 25) = X at HY HS HT HD HM HB hX1 hX2 ⊢
  have HX1 := Lib.hid hX1
  have HX2 := Lib.hid hX2
  have HC : Hid (∀ W, Below X.heap.size X W → Calls Tryz.prog 135 #[.pointer (some ⟨db, 0, none⟩), .agg #[.int .i64 t.n, .slice A1 t.ov.length c1, .slice A2 t.ls.length c2]] W fun e w' => ∃ B1 B2 d1 d2 D, e = .returned (.tuple #[.agg #[.int .i64 t.n, .slice B1 (viewT t v).ov.length d1, .slice B2 t.ls.length d2], .slice D (2 * t.ls.length) (2 * t.ls.length), .int .i64 0]) ∧ Vw t v W.heap.size B1 B2 D w' ∧ Below W.heap.size W w' ∧ Below X.heap.size X w') := Lib.hid fun W hW => by
    refine (lsdb_View0 db mb v t _ _ _ _ _ (HT.out.below hW) HV.out HN.out (HD.out.up hW) (HM.out.up hW)).mono ?_
    rintro e w3 ⟨B1, B2, d1, d2, D, rfl, hta, hrd, hb, hf1, hf2, hf3⟩
    exact ⟨B1, B2, d1, d2, D, rfl, ⟨hta, hrd, hf1, hf2, hf3⟩, hb, below_next hW hb⟩
  obtain ⟨s0, s1, s2, s3, s4, s5, s6, s7, s8, s9, s10, s11, s12, s13, s14, fs⟩ := HS.out.c15
  clear s3 s4 s5 s6 s7 s8 s9 s10 s11 s13 s14 fs hX1 hX2
  have hq0 : X.heap.size ≠ sb := by have := HS.out.lt; omega
  go_region_held3 (fun w' => w'.cell? ⟨sb, 0, none⟩ = some (.int .i64 t.n) ∧ w'.cell? ⟨sb, 1, none⟩ = some (.slice A1 t.ov.length c1) ∧ w'.cell? ⟨sb, 2, none⟩ = some (.slice A2 t.ls.length c2) ∧ w'.cell? ⟨sb, 12, none⟩ = some (.pointer (some ⟨db, 0, none⟩)))
    (first | exact q4_up (below_box _ _) (by assumption) | exact q4_set (by assumption) (by assumption) | exact q4_set (by assumption) (q4_set (by assumption) (q4_set (by assumption) (by assumption))) | exact q4_up HQ.out (by assumption) | exact q4_up (below_box _ _) (q4_of HS4.out) | exact q4_up (Bdrw (Below.refl _ _)) ⟨s0, s1, s2, s12⟩)
    (first | (go_at_call 135; (with_reducible refine Calls.mono (HC.out _ (by (repeat' (first | (with_reducible exact Below.refl _ _) | (with_reducible refine Bset ?_ ?_) | (with_reducible refine Bdrw ?_) | (with_reducible refine Bbox ?_ ?_) | omega | (simp; done) | (simp; omega))))) ?_); rintro e w3 ⟨B1, B2, d1, d2, D, rfl, hvw, hb, hbx⟩; have HQ := Lib.hid hb; have HVW := Lib.hid hvw; have HS4 := Lib.hid (HS.out.up hbx); have HY3 := Lib.hid (HY.out.up hbx); have HB3 := Lib.hid (HB.out.trans (hbx.mono (by have := HX1.out; omega))); have HW3 := Lib.hid hb.size; (try (have HA3 := Lib.hid (Bl.up ((Bl.new X #[.int .i64 0, .slice none 0 0, .slice none 0 0] 25).up (Bdrw (Below.refl _ _))) hb); obtain ⟨a0, a1, a2, fa⟩ := HA3.out.c3)); have HWW : Hid (w.heap.size < w3.heap.size) := Lib.hid (Nat.lt_of_lt_of_le HX1.out hbx.size); have hq1 : w3.heap.size ≠ sb := (by have := HS4.out.lt; omega); clear hb hvw hbx))
  all_goals
    go_upto_region 4 with fail
    have n0 : w.heap.size + 1 ≤ X.heap.size := by have := HX1.out; omega
    have n1 : X.heap.size ≤ X.drew.heap.size := by simp
    have n2 : w.heap.size + 1 ≤ X.drew.heap.size := by simp; omega
    have n3 : w.heap.size + 1 ≤ ((X.alloc (.cells #[.int .i64 0, .slice none 0 0, .slice none 0 0] 25)).drew).heap.size := by simp; omega
    have n4 : X.heap.size < ((X.alloc (.cells #[.int .i64 0, .slice none 0 0, .slice none 0 0] 25)).drew).heap.size := by simp
    have n5 : w.heap.size ≠ w3.heap.size := by have := HWW.out; omega
    have n6 : w.heap.size ≠ X.heap.size := by have := HX1.out; omega
    have n7 : w.heap.size ≤ w3.heap.size := by have := HWW.out; omega
    have n8 : w.heap.size ≤ X.heap.size := by have := HX1.out; omega
    first
      | (refine wp_named (fun Y => (∃ p, p = w3.heap.size ∧ Bl 25 p #[.int .i64 t.n, .slice B1 (viewT t v).ov.length d1, .slice B2 t.ls.length d2] Y ∧ p ≠ w.heap.size) ∧ Bl 25 w.heap.size #[.int .i64 0, .slice none 0 0, .slice none 0 0] Y ∧ Vw t v (w.heap.size + 1) B1 B2 D Y ∧ Below w.heap.size w Y) ⟨⟨_, rfl, Bl.new w3 _ _, n5.symm⟩, HY3.out.up (below_box _ _), (HVW.out.up (below_box _ _)).mono n2, HB3.out.alloc n7 _⟩ ?_)
      | (refine wp_named (fun Y => (∃ p, p = X.heap.size ∧ Bl 25 p #[.int .i64 t.n, .slice B1 (viewT t v).ov.length d1, .slice B2 t.ls.length d2] Y ∧ p ≠ w.heap.size) ∧ Bl 25 w.heap.size #[.int .i64 0, .slice none 0 0, .slice none 0 0] Y ∧ Vw t v (w.heap.size + 1) B1 B2 D Y ∧ Below w.heap.size w Y) ⟨⟨_, rfl, ((HA3.out.set 0 _ rfl).set 1 _ rfl).set 2 _ rfl, n6.symm⟩, ((HY3.out.other n6 _).other n6 _).other n6 _, (((HVW.out.set n4 _ _).set n4 _ _).set n4 _ _).mono n3, Bset (Bset (Bset HB3.out n8) n8) n8⟩ ?_)
    rintro Y ⟨⟨p, hp, hb1, hne⟩, hb2, hvw, hbe⟩
    rw [← hp]
    have HVY := Lib.hid hvw
    have HBY := Lib.hid hbe
    obtain ⟨z0, z1, z2, fz⟩ := hb1.c3
    obtain ⟨y0, y1, y2, fy⟩ := hb2.c3
    have hne2 := hne.symm
    clear hb1 hb2 hvw hbe n0 n1 n2 n3 n4 n5 n6 n7 n8 hp hq0 hq1
    go_wp2_with fail
    exact bodyPost_ret (v := .tuple #[.agg #[.int .i64 t.n, .slice B1 (viewT t v).ov.length d1, .slice B2 t.ls.length d2], .slice D (2 * t.ls.length) (2 * t.ls.length)]) (by simp [results, Tryz.results81, go_sem, y0, y1, y2]) rfl ⟨B1, B2, d1, d2, D, rfl, Vw.mono (((HVY.out.set (Nat.lt_succ_self _) 0 _).set (Nat.lt_succ_self _) 1 _).set (Nat.lt_succ_self _) 2 _) (Nat.le_succ _), by (repeat' (first | (with_reducible exact HBY.out) | (with_reducible refine Bset ?_ ?_) | (with_reducible refine Bdrw ?_) | (with_reducible refine Bbox ?_ ?_) | omega | (simp; done) | (simp; omega)))⟩

end Go.Proofs.YtenhliibmcmnbaaGreat
