/-
  speaker.New: the errors.
-/
import Derived.Test.YtenhliibmcmnbaaGreatRtG
import Derived.Test.YtenhliibmcmnbaaGreatRtA
namespace Go.Proofs.YtenhliibmcmnbaaGreat
set_option linter.unusedSimpArgs false
set_option linter.unusedVariables false
open Go.RowKit Go.Sort

theorem TBox.cells {w wr : World} {A1 A2 : Option Addr} {c1 c2 : Nat} {t : Topo} (h : TBox w A1 A2 c1 c2 t wr) : wr.cell? ⟨w.heap.size, 0, none⟩ = some (.int .i64 t.n) ∧ wr.cell? ⟨w.heap.size, 1, none⟩ = some (.slice A1 t.ov.length c1) ∧ wr.cell? ⟨w.heap.size, 2, none⟩ = some (.slice A2 t.ls.length c2) := ⟨h.b0, h.b1, h.b2⟩
/-- The boxes of New's parameters. -/
structure NBox (w : World) (A1 A2 : Option Addr) (c1 c2 : Nat) (t : Topo) (h1 h2 h3 : Int) (wr : World) : Prop where
  b : TBox w A1 A2 c1 c2 t wr
  k : Bl 94 (w.heap.size + 1) #[.int .i64 h1, .int .i64 h2, .int .i64 h3] wr
theorem NBox.up {w wr w' : World} {A1 A2 : Option Addr} {c1 c2 : Nat} {t : Topo} {h1 h2 h3 : Int} (h : NBox w A1 A2 c1 c2 t h1 h2 h3 wr) (hb : Below wr.heap.size wr w') : NBox w A1 A2 c1 c2 t h1 h2 h3 w' := ⟨h.b.up hb, h.k.up hb⟩
theorem NBox.start {w : World} {A1 A2 : Option Addr} {t : Topo} (c1 c2 : Nat) (h1 h2 h3 : Int) (hT : TAt w A1 A2 t) :
    NBox w A1 A2 c1 c2 t h1 h2 h3 ((w.alloc (.cells #[.int .i64 t.n, .slice A1 t.ov.length c1, .slice A2 t.ls.length c2] 25)).alloc (.cells #[.int .i64 h1, .int .i64 h2, .int .i64 h3] 94)) :=
  ⟨(TBox.start c1 c2 hT).up (below_box _ _), (two_new w _ _ _ _).2⟩
theorem NBox.cells {w wr : World} {A1 A2 : Option Addr} {c1 c2 : Nat} {t : Topo} {h1 h2 h3 : Int} (h : NBox w A1 A2 c1 c2 t h1 h2 h3 wr) : wr.cell? ⟨w.heap.size, 0, none⟩ = some (.int .i64 t.n) ∧ wr.cell? ⟨w.heap.size, 1, none⟩ = some (.slice A1 t.ov.length c1) ∧ wr.cell? ⟨w.heap.size, 2, none⟩ = some (.slice A2 t.ls.length c2) ∧
    wr.cell? ⟨w.heap.size + 1, 0, none⟩ = some (.int .i64 h1) ∧ wr.cell? ⟨w.heap.size + 1, 1, none⟩ = some (.int .i64 h2) ∧ wr.cell? ⟨w.heap.size + 1, 2, none⟩ = some (.int .i64 h3) := ⟨h.b.b0, h.b.b1, h.b.b2, h.k.c3.1, h.k.c3.2.1, h.k.c3.2.2.1⟩

section
variable {w : World} {A1 A2 : Option Addr} {t : Topo}
set_option maxRecDepth 100000 in
set_option maxHeartbeats 1000000 in
theorem speaker_New_bad1 (c1 c2 : Nat) (v bt h1 h2 h3 : Int) (hT : TAt w A1 A2 t) (hx : (valid t && inR bt 1 1073741824) = false) :
    Calls Tryz.prog 33 #[.agg #[.int .i64 t.n, .slice A1 t.ov.length c1, .slice A2 t.ls.length c2], .int .i64 v, .int .i64 bt, .agg #[.int .i64 h1, .int .i64 h2, .int .i64 h3]] w fun e w' => e = .returned (.tuple #[.pointer none, .int .i64 1]) ∧ Below w.heap.size w w' := by
  have HN := Lib.hid (NBox.start c1 c2 h1 h2 h3 hT)
  obtain ⟨b0, b1, b2, k0, k1, k2⟩ := HN.out.cells
  clear hT
  cases hv : valid t with
  | false =>
    clear hx
    go_enter Tryz.func33, Tryz.ntmps33
    go_wp2_with (first | (go_at_call 54; refine (topology_Valid t _ _ _ _ _ HN.out.b.ta.ls).mono ?_; rw [hv]; rintro e w1 ⟨rfl, hb⟩; have HB := Lib.hid (below_next HN.out.b.hb hb); clear hb))
    go_ret2
    exact ⟨rfl, HB.out⟩
  | true =>
    rw [hv, Bool.true_and] at hx
    go_enter Tryz.func33, Tryz.ntmps33
    go_wp2_with (first | (go_at_call 54; refine (topology_Valid t _ _ _ _ _ HN.out.b.ta.ls).mono ?_; rw [hv]; rintro e w1 ⟨rfl, hb⟩; have HB := Lib.hid (below_next HN.out.b.hb hb); clear hb) | (go_at_call 70; refine (speaker_within _ _ _ _).mono ?_; rintro e w2 ⟨rfl, rfl⟩))
    go_ret2
    exact ⟨rfl, HB.out⟩
theorem idx3_0 (a b c : Value) (w : World) : (Instr.index 152 (.agg #[a, b, c]) (.int .i64 0)).run Tryz.prog w = .ok a w := by kernel_rfl
theorem idx3_1 (a b c : Value) (w : World) : (Instr.index 152 (.agg #[a, b, c]) (.int .i64 1)).run Tryz.prog w = .ok b w := by kernel_rfl
theorem idx3_2 (a b c : Value) (w : World) : (Instr.index 152 (.agg #[a, b, c]) (.int .i64 2)).run Tryz.prog w = .ok c w := by kernel_rfl
def tm3 (h1 h2 h3 : Int) : List Int := [h1, h2, h3]
set_option maxRecDepth 100000 in
set_option maxHeartbeats 1000000 in
theorem speaker_New_bad2 (c1 c2 : Nat) (v bt h1 h2 h3 : Int) (hT : TAt w A1 A2 t) (hv : valid t = true) (hx : inR bt 1 1073741824 = true) (ht : (inR h1 1 65536 && inR h2 1 65536 && inR h3 1 65536) = false) :
    Calls Tryz.prog 33 #[.agg #[.int .i64 t.n, .slice A1 t.ov.length c1, .slice A2 t.ls.length c2], .int .i64 v, .int .i64 bt, .agg #[.int .i64 h1, .int .i64 h2, .int .i64 h3]] w fun e w' => e = .returned (.tuple #[.pointer none, .int .i64 1]) ∧ Below w.heap.size w w' := by
  have HN := Lib.hid (NBox.start c1 c2 h1 h2 h3 hT)
  obtain ⟨b0, b1, b2, k0, k1, k2⟩ := HN.out.cells
  have HTM := Lib.hid ht
  have hx0 := idx3_0
  have hx1 := idx3_1
  have hx2 := idx3_2
  clear hT ht
  go_enter Tryz.func33, Tryz.ntmps33
  go_wp2_with (first | (go_at_call 54; refine (topology_Valid t _ _ _ _ _ HN.out.b.ta.ls).mono ?_; rw [hv]; rintro e w1 ⟨rfl, hb⟩; have HB := Lib.hid (below_next HN.out.b.hb hb); replace HN := Lib.hid (HN.out.up hb); clear hb b0 b1 b2 k0 k1 k2; obtain ⟨b0, b1, b2, k0, k1, k2⟩ := HN.out.cells) | (go_at_call 70; refine (speaker_within _ _ _ _).mono ?_; rintro e w2 ⟨rfl, rfl⟩))
  go_loopw [30] (fun i wr => ∃ k : Nat, k ≤ 2 ∧ i = .int .i64 k ∧ Hid (1 ≤ k → inR h1 1 65536 = true) ∧ Hid (2 ≤ k → inR h2 1 65536 = true) ∧ wr = w1) (fun i _ => 3 - (intOf i).toNat)
  case atStart => exact ⟨0, by omega, rfl, Lib.hid (fun h => by omega), Lib.hid (fun h => by omega), rfl⟩
  case round =>
    obtain ⟨k, hk, rfl, H1, H2, rfl⟩ := hrel
    obtain rfl | rfl | rfl : k = 0 ∨ k = 1 ∨ k = 2 := by omega
    · cases e1 : inR h1 1 65536 with
      | false =>
        go_wp2_with (go_at_call 70; refine (speaker_within _ _ _ _).mono ?_; rintro e w2 ⟨rfl, rfl⟩)
        go_ret2
        exact ⟨rfl, HB.out⟩
      | true =>
        have E1 := Lib.hid e1
        go_wp2_with (go_at_call 70; refine (speaker_within _ _ _ _).mono ?_; rintro e w2 ⟨rfl, rfl⟩)
        go_roundw
        case rel => exact ⟨1, by omega, rfl, Lib.hid (fun _ => by first | exact trivial | exact E1.out), Lib.hid (fun h => by omega), by first | exact trivial | rfl⟩
        case measure => simp [intOf]
    · cases e1 : inR h2 1 65536 with
      | false =>
        go_wp2_with (go_at_call 70; refine (speaker_within _ _ _ _).mono ?_; rintro e w2 ⟨rfl, rfl⟩)
        go_ret2
        exact ⟨rfl, HB.out⟩
      | true =>
        have E1 := Lib.hid e1
        go_wp2_with (go_at_call 70; refine (speaker_within _ _ _ _).mono ?_; rintro e w2 ⟨rfl, rfl⟩)
        go_roundw
        case rel => exact ⟨2, by omega, rfl, Lib.hid (fun _ => H1.out (by omega)), Lib.hid (fun _ => by first | exact trivial | exact E1.out), by first | exact trivial | rfl⟩
        case measure => simp [intOf]
    · cases e1 : inR h3 1 65536 with
      | false =>
        go_wp2_with (go_at_call 70; refine (speaker_within _ _ _ _).mono ?_; rintro e w2 ⟨rfl, rfl⟩)
        go_ret2
        exact ⟨rfl, HB.out⟩
      | true =>
        have := HTM.out
        rw [H1.out (by omega), H2.out (by omega), e1] at this
        cases this
set_option maxRecDepth 100000 in
set_option maxHeartbeats 1000000 in
theorem speaker_New_bad3 (c1 c2 : Nat) (v bt h1 h2 h3 : Int) (hT : TAt w A1 A2 t) (hv : valid t = true) (hx : inR bt 1 1073741824 = true) (e1 : inR h1 1 65536 = true) (e2 : inR h2 1 65536 = true) (e3 : inR h3 1 65536 = true) (hn : isN t.n v = false) :
    Calls Tryz.prog 33 #[.agg #[.int .i64 t.n, .slice A1 t.ov.length c1, .slice A2 t.ls.length c2], .int .i64 v, .int .i64 bt, .agg #[.int .i64 h1, .int .i64 h2, .int .i64 h3]] w fun e w' => e = .returned (.tuple #[.pointer none, .int .i64 2]) ∧ Below w.heap.size w w' := by
  have HN := Lib.hid (NBox.start c1 c2 h1 h2 h3 hT)
  obtain ⟨b0, b1, b2, k0, k1, k2⟩ := HN.out.cells
  have hx0 := idx3_0
  have hx1 := idx3_1
  have hx2 := idx3_2
  clear hT
  go_enter Tryz.func33, Tryz.ntmps33
  go_wp2_with (first | (go_at_call 54; refine (topology_Valid t _ _ _ _ _ HN.out.b.ta.ls).mono ?_; rw [hv]; rintro e w1 ⟨rfl, hb⟩; have HB := Lib.hid (below_next HN.out.b.hb hb); replace HN := Lib.hid (HN.out.up hb); clear hb b0 b1 b2 k0 k1 k2; obtain ⟨b0, b1, b2, k0, k1, k2⟩ := HN.out.cells) | (go_at_call 70; refine (speaker_within _ _ _ _).mono ?_; rintro e w2 ⟨rfl, rfl⟩))
  go_loopw [30] (fun i wr => ∃ k : Nat, k ≤ 3 ∧ i = .int .i64 k ∧ wr = w1) (fun i _ => 3 - (intOf i).toNat)
  case atStart => exact ⟨0, by omega, rfl, rfl⟩
  case round =>
    obtain ⟨k, hk, rfl, rfl⟩ := hrel
    obtain rfl | rfl | rfl | rfl : k = 0 ∨ k = 1 ∨ k = 2 ∨ k = 3 := by omega
    · go_wp2_with (go_at_call 70; refine (speaker_within _ _ _ _).mono ?_; rintro e w2 ⟨rfl, rfl⟩)
      go_roundw
      case rel => exact ⟨1, by omega, rfl, by first | exact trivial | rfl⟩
      case measure => simp [intOf]
    · go_wp2_with (go_at_call 70; refine (speaker_within _ _ _ _).mono ?_; rintro e w2 ⟨rfl, rfl⟩)
      go_roundw
      case rel => exact ⟨2, by omega, rfl, by first | exact trivial | rfl⟩
      case measure => simp [intOf]
    · go_wp2_with (go_at_call 70; refine (speaker_within _ _ _ _).mono ?_; rintro e w2 ⟨rfl, rfl⟩)
      go_roundw
      case rel => exact ⟨3, by omega, rfl, by first | exact trivial | rfl⟩
      case measure => simp [intOf]
    · go_wp2_with (go_at_call 67; refine (graph_Node _ _ _ _ _).mono ?_; rw [hn]; rintro e w3 ⟨rfl, hb⟩; replace HB := Lib.hid (below_next HB.out hb); clear hb)
      go_ret2
      exact ⟨rfl, HB.out⟩
end
end Go.Proofs.YtenhliibmcmnbaaGreat
