/-
  graph.Out once more: the row that it returns is of its own memory.
-/
import Derived.Test.YtenhliibmcmnbaaGreatOut
namespace Go.Proofs.YtenhliibmcmnbaaGreat
set_option linter.unusedSimpArgs false
set_option linter.unusedVariables false
open Go.RowKit Go.Sort

/-- A call that returns a list of ints in memory of its own. -/
def RetIO (w : World) (xs : List Int) (e : Ending) (w' : World) : Prop :=
  ∃ v, e = .returned v ∧ w'.ownsRow (w.heap.size + 1) 3 1 v xs.length (xs.map (Value.int .i64)) ∧ Below w.heap.size w w'
set_option maxRecDepth 100000 in
set_option maxHeartbeats 1000000 in
theorem graph_OutO (t : Topo) (A1 A2 : Option Addr) (c1 c2 : Nat) (n : Int) (w : World) (hT : TAt w A1 A2 t) (hn : t.ls.length ≤ 100000) :
    Calls Tryz.prog 75 #[.agg #[.int .i64 t.n, .slice A1 t.ov.length c1, .slice A2 t.ls.length c2], .int .i64 n] w (RetIO w (ups (outP t n) (2 * t.ls.length))) := by
  obtain ⟨i0, hi, hz0, hz1, hz2⟩ := info_parts intInfo
  have hX := TBox.start c1 c2 hT
  have HT0 := Lib.hid hT
  have b0 := hX.b0
  have b1 := hX.b1
  have b2 := hX.b2
  have HX := Lib.hid hX
  clear hX hT
  go_enter Tryz.func75, Tryz.ntmps75
  go_wp2_with (go_at_call 56; refine (graph_Arcs _ _ _ _ _ _ hn).mono ?_; rintro e w1 ⟨rfl, hb1⟩)
  replace HX := Lib.hid (HX.out.up hb1)
  clear b0 b1 b2 hb1
  go_loopw [5, 9] (fun v i wr => ∃ k : Nat, k ≤ 2 * t.ls.length ∧ i = .int .i64 k ∧ wr.ownsRow (w.heap.size + 1) 3 1 v (ups (outP t n) k).length ((ups (outP t n) k).map (Value.int .i64)) ∧ Hid (TBox w A1 A2 c1 c2 t wr)) (fun _ i _ => 2 * t.ls.length - (intOf i).toNat)
  case atStart => exact ⟨0, Nat.zero_le _, rfl, World.ownsRow_nil _ _ _ _, HX⟩
  case round =>
    clear HX
    obtain ⟨k, hk, rfl, hown, HX⟩ := hrel
    have b0 := HX.out.b0
    have b1 := HX.out.b1
    have b2 := HX.out.b2
    have HO := Lib.hid hown
    clear hown
    by_cases hlt : k < 2 * t.ls.length
    · have hlt' : (k : Int) < 2 * (t.ls.length : Int) := by omega
      have hul := ups_le (outP t n) k
      cases hp : (tail t k == n) with
      | true =>
        have HP : Hid (outP t n k = true) := Lib.hid hp
        go_wp2_with (first | (go_at_call 94; refine (graph_Tail _ _ _ _ t _ _ HX.out.ta.ls (by omega) hlt' hn).mono ?_; rintro e w1 ⟨rfl, hb1⟩; replace HX := Lib.hid (HX.out.up hb1); replace HO := Lib.hid (own_up HO.out hb1); clear hb1 b0 b1 b2) | (at_builtin; refine wpList_append_own _ rfl _ _ 50 rfl (w.heap.size + 1) 3 i0 (.int .i64 0) 1 8 Tryz.underlying50 hi hz0 hz1 hz2 rfl (by decide) _ _ _ rfl (HO.out.alloc _) ⟨_, 0, none⟩ 1 1 [.int .i64 k] rfl rfl (cell_one_new _ _ _) ?c2 ?c3 ?c4 ?c5 ?_))
        case c2 => intro u hu; simp at hu; subst hu; rfl
        case c3 => unfold maxLen; omega
        case c4 => omega
        case c5 => have := block_lt_of_cell HX.out.b0; simp; simp at this; omega
        intro v' w2 hown' hgrow _
        have hsz : w.heap.size + 1 ≤ _ := block_lt_of_cell HX.out.b0
        have R := own_next HO.out hsz hown' hgrow
        rw [← ups_hit HP.out] at R
        have HR := Lib.hid R
        clear hown' hgrow R HO
        go_wp2_with fail
        go_roundw
        case rel => exact ⟨k + 1, by omega, by go_num, HR.out.1, Lib.hid (keep_box HX.out HR.out.2 HT0.out)⟩
        case measure => simp [intOf]; omega
      | false =>
        have HP : Hid (outP t n k = false) := Lib.hid hp
        go_wp2_with (go_at_call 94; refine (graph_Tail _ _ _ _ t _ _ HX.out.ta.ls (by omega) hlt' hn).mono ?_; rintro e w1 ⟨rfl, hb1⟩; replace HX := Lib.hid (HX.out.up hb1); replace HO := Lib.hid (own_up HO.out hb1); clear hb1 b0 b1 b2)
        go_roundw
        case rel => exact ⟨k + 1, by omega, by go_num, by rw [ups_miss HP.out]; exact HO.out, HX⟩
        case measure => simp [intOf]; omega
    · obtain rfl : k = 2 * t.ls.length := by omega
      go_wp2_with fail
      go_ret
      exact ⟨_, rfl, HO.out, HX.out.hb⟩


end Go.Proofs.YtenhliibmcmnbaaGreat
