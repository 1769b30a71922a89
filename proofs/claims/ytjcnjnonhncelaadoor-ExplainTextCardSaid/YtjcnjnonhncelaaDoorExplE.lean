/-
  (*explain.story).end at the example of the document of layer 57.
-/
import Derived.Test.YtjcnjnonhncelaaDoorExplX
namespace Go.Proofs.YtjcnjnonhncelaaDoor
open Go.RowKit Go.Sort
set_option linter.unusedSimpArgs false
set_option linter.unusedVariables false

/-- The story in memory. -/
structure Sty (sb : Nat) (A2 : Option Addr) (c2 : Nat) (A : Option Addr) (cl g cv : Nat) (w : World) : Prop where
  st : w.heap[sb]? = some (.cells #[.int .i64 2, .slice none 0 0, .slice A2 1 c2, .int .i64 0, .int .i64 1, .int .i64 1, .slice none 0 0, .slice A 4 cl, .slice (some ⟨g, 0, none⟩) 3 cv] 120 (0, 0))
  e0 : w.cell? ⟨g, 0, none⟩ = some (.int .i64 1)
  e1 : w.cell? ⟨g, 1, none⟩ = some (.int .i64 2)
  e2 : w.cell? ⟨g, 2, none⟩ = some (.int .i64 3)
  l : RdE w A ex57L
  t : TAt w none A2 ex57T
  lc : 4 ≤ cl
theorem Sty.up {sb : Nat} {A2 : Option Addr} {c2 : Nat} {A : Option Addr} {cl g cv : Nat} {w w' : World} (h : Sty sb A2 c2 A cl g cv w) (hb : Below w.heap.size w w') : Sty sb A2 c2 A cl g cv w' :=
  ⟨(hb.block _ (lt_of_heap h.st)).trans h.st, cell_up hb h.e0, cell_up hb h.e1, cell_up hb h.e2, h.l.below hb, h.t.below hb, h.lc⟩
theorem Sty.at7 {sb : Nat} {A2 : Option Addr} {c2 : Nat} {A : Option Addr} {cl g cv : Nat} {w : World} (h : Sty sb A2 c2 A cl g cv w) : w.cell? ⟨sb, 7, none⟩ = some (.slice A 4 cl) := by rw [Lib.cell_of_heap h.st]; rfl
theorem Sty.at8 {sb : Nat} {A2 : Option Addr} {c2 : Nat} {A : Option Addr} {cl g cv : Nat} {w : World} (h : Sty sb A2 c2 A cl g cv w) : w.cell? ⟨sb, 8, none⟩ = some (.slice (some ⟨g, 0, none⟩) 3 cv) := by rw [Lib.cell_of_heap h.st]; rfl
theorem Sty.tp {sb : Nat} {A2 : Option Addr} {c2 : Nat} {A : Option Addr} {cl g cv : Nat} {w : World} (h : Sty sb A2 c2 A cl g cv w) : w.cell? ⟨sb, 0, none⟩ = some (.int .i64 2) ∧ w.cell? ⟨sb, 1, none⟩ = some (.slice none 0 0) ∧ w.cell? ⟨sb, 2, none⟩ = some (.slice A2 1 c2) :=
  ⟨by rw [Lib.cell_of_heap h.st]; rfl, by rw [Lib.cell_of_heap h.st]; rfl, by rw [Lib.cell_of_heap h.st]; rfl⟩
theorem sty_of {w w' : World} {sb : Nat} {A2 : Option Addr} {c2 : Nat} {A : Option Addr} {cl : Nat} {v : Value} (hS : St w sb A2 c2 A cl v w') (hO : w'.ownsRow (sb + 1) 3 1 v 3 ([1, 2, 3].map (Value.int .i64))) (hl : RdE w A ex57L) (ht : TAt w none A2 ex57T) (hc : 4 ≤ cl) :
    ∃ g cv, Sty sb A2 c2 A cl g cv w' := by
  have hh := hO
  rcases hO with ⟨_, ⟨_, h3⟩ | ⟨g, cap, cur, rfl, _, _, _, _, _, _⟩⟩
  · cases h3
  · exact ⟨g, cap, hS.st, hh.cellAt 0 (by omega), hh.cellAt 1 (by omega), hh.cellAt 2 (by omega), hl.below hS.hb, ht.below hS.hb, hc⟩
/-- An event of the example in memory. -/
theorem ev57_at {w : World} {A : Option Addr} (h : RdE w A ex57L) : ∃ b o, A = some ⟨b, o, none⟩ ∧ ∀ (k : Nat) x, ex57L[k]? = some x → EvO w b (o + k * 6) x := by
  rcases h with h | h
  · cases h
  · exact h

set_option maxRecDepth 100000 in
set_option maxHeartbeats 4000000 in
theorem story_end57 (sb : Nat) (A2 : Option Addr) (c2 : Nat) (A : Option Addr) (cl g cv : Nat) (w : World) (h : Sty sb A2 c2 A cl g cv w) :
    Calls Tryd.prog 82 #[.pointer (some ⟨sb, 0, none⟩)] w fun e w' => e = .returned (.int .i64 3) ∧ w' = w := by
  have h7 := h.at7
  have h8 := h.at8
  have e0 := h.e0
  have e1 := h.e1
  have e2 := h.e2
  obtain ⟨b, o, rfl, hev⟩ := ev57_at h.l
  obtain ⟨_, x1, _, _, _, _⟩ := hev 1 _ rfl
  obtain ⟨_, y1, _, _, _, _⟩ := hev 2 _ rfl
  obtain ⟨_, z1, _, _, _, _⟩ := hev 3 _ rfl
  simp only [Nat.one_mul, Nat.reduceMul] at x1 y1 z1
  clear hev h
  have hx0 : ∀ w', (Instr.index 71 (.agg #[.int .i64 3, .int .i64 4]) (.int .i64 0)).run Tryd.prog w' = .ok (.int .i64 3) w' := fun w' => by kernel_rfl
  have hx1 : ∀ w', (Instr.index 71 (.agg #[.int .i64 3, .int .i64 4]) (.int .i64 1)).run Tryd.prog w' = .ok (.int .i64 4) w' := fun w' => by kernel_rfl
  go_enter Tryd.func82, Tryd.ntmps82
  go_wp2_with fail
  go_loop [8] (fun i => i = .int .i64 0 ∨ i = .int .i64 1) (fun i => 2 - (intOf i).toNat)
  case atStart => exact .inl rfl
  case round =>
    rcases hrel with rfl | rfl
    · go_wp2_with fail
      go_loop [16] (fun j => ∃ k : Nat, k ≤ 3 ∧ j = .int .i64 (k : Int)) (fun j => 3 - (intOf j).toNat)
      case atStart => exact ⟨0, by omega, rfl⟩
      case round =>
        obtain ⟨k, hk, rfl⟩ := hrel
        have hcase : k = 0 ∨ k = 1 ∨ k = 2 ∨ k = 3 := by omega
        rcases hcase with rfl | rfl | rfl | rfl
        · go_wp2_with fail
          go_round
          case rel => exact ⟨1, by omega, by go_num⟩
          case measure => simp [intOf]
        · go_wp2_with fail
          go_round
          case rel => exact ⟨2, by omega, by go_num⟩
          case measure => simp [intOf]
        · go_wp2_with fail
          go_round
          case rel => exact ⟨3, by omega, by go_num⟩
          case measure => simp [intOf]
        · go_wp2_with fail
          go_round
          case rel => exact .inr (by go_num)
          case measure => simp [intOf]
    · go_wp2_with fail
      go_loop [16] (fun j => ∃ k : Nat, k ≤ 2 ∧ j = .int .i64 (k : Int)) (fun j => 3 - (intOf j).toNat)
      case atStart => exact ⟨0, by omega, rfl⟩
      case round =>
        obtain ⟨k, hk, rfl⟩ := hrel
        have hcase : k = 0 ∨ k = 1 ∨ k = 2 := by omega
        rcases hcase with rfl | rfl | rfl
        · go_wp2_with fail
          go_round
          case rel => exact ⟨1, by omega, by go_num⟩
          case measure => simp [intOf]
        · go_wp2_with fail
          go_round
          case rel => exact ⟨2, by omega, by go_num⟩
          case measure => simp [intOf]
        · go_wp2_with fail
          go_ret
          exact ⟨rfl, rfl⟩

end Go.Proofs.YtjcnjnonhncelaaDoor
