/-
  config's parser: what a name was declared as.
-/
import Derived.Test.YtpofbhaipeiegaaGreatDoorCfgC
import Derived.Test.YtpofbhaipeiegaaGreatDoorReg
import Derived.Deep.CutBlock
namespace Go.Proofs.YtpofbhaipeiegaaGreatDoor
set_option linter.unusedSimpArgs false
set_option linter.unusedVariables false
open Go.RowKit Go.Shelf Go.Sort

theorem lookS_mem {w : List UInt8} {x : Int × Int} : ∀ {sy : SymS}, lookS sy w = some x → ((.string ⟨w.toArray⟩ : Value), (.agg #[.int .i64 x.1, .int .i64 x.2] : Value)) ∈ symV sy
  | [], h => by cases h
  | (n, y) :: r, h => by
    unfold lookS at h
    by_cases e : n = w
    · rw [if_pos e] at h
      injection h with h
      subst e h
      exact List.mem_map.2 ⟨(n, y), by simp, rfl⟩
    · rw [if_neg e] at h
      have := lookS_mem h
      obtain ⟨z, hz, e2⟩ := List.mem_map.1 this
      exact List.mem_map.2 ⟨z, by simp [hz], e2⟩
theorem lookS_none {w : List UInt8} : ∀ {sy : SymS}, lookS sy w = none → ∀ y ∈ symV sy, y.1 ≠ (.string ⟨w.toArray⟩ : Value)
  | [], _, y, hy => by simp [symV] at hy
  | (n, z) :: r, h, y, hy => by
    unfold lookS at h
    by_cases e : n = w
    · rw [if_pos e] at h; cases h
    · rw [if_neg e] at h
      obtain ⟨u, hu, rfl⟩ := List.mem_map.1 hy
      rcases List.mem_cons.1 hu with rfl | hu
      · simpa using e
      · exact lookS_none h _ (List.mem_map.2 ⟨u, hu, rfl⟩)
def lookV : Option (Int × Int) → Value
  | none => .agg #[.int .i64 0, .int .i64 0]
  | some (k, v) => .agg #[.int .i64 k, .int .i64 v]
theorem below_drw2 (w : World) : Below w.heap.size w w.drew := ⟨rfl, rfl, rfl, Nat.le_refl _, fun _ _ => rfl⟩
theorem zero_sym (w : World) : (zeroValue 138).run Tryz.prog w = .ok (.agg #[.int .i64 0, .int .i64 0]) w := by kernel_rfl
theorem key_str : Go.Maps.Keyed Tryz.prog 9 := Go.Maps.string_keyed Tryz.underlying9
section
variable {pb : Nat} {k : List Value} {A : Option Addr} {cw : Nat} {all : List (List UInt8)} {dry : Bool} {sb : Nat} {sy : SymS} {rest : List (List UInt8)} {W : World}
theorem sym_look (h : MapAt Tryz.prog 9 sb (symV sy) W) (w : List UInt8) (hw : w.length ≤ 10000) : (Instr.lookup 69 (.map (some sb)) (.string ⟨w.toArray⟩) true).run Tryz.prog W = .ok (.tuple #[lookV (lookS sy w), .bool (lookS sy w).isSome]) W := by
  have hk := keyS (P := Tryz.prog) Tryz.underlying9 (l := w) (by omega)
  cases hl : lookS sy w with
  | none => exact h.miss key_str Tryz.underlying69 (zero_sym W) hk true (lookS_none hl)
  | some x => exact h.hit key_str Tryz.underlying69 hk true (lookS_mem hl)
set_option maxRecDepth 100000 in
theorem cfg_declared (h : PS pb k A cw all dry sb sy rest W) (w : List UInt8) (hw : w.length ≤ 10000) : Calls Tryz.prog 90 #[.pointer (some ⟨pb, 0, none⟩), .string ⟨w.toArray⟩] W fun e w' => e = .returned (.bool (lookS sy w).isSome) ∧ Below W.heap.size W w' := by
  have hlk := sym_look h.sm w hw
  have b3 := h.cells.2.2.2.1
  clear h
  generalize lookS sy w = lo at hlk ⊢
  cases lo with
  | none =>
    simp only [lookV, Option.isSome_none] at hlk ⊢
    go_enter Tryz.func90, Tryz.ntmps90
    go_wp2
    go_ret
    exact ⟨rfl, below_box _ _⟩
  | some x =>
    obtain ⟨a, b⟩ := x
    simp only [lookV, Option.isSome_some] at hlk ⊢
    go_enter Tryz.func90, Tryz.ntmps90
    go_wp2
    go_ret
    exact ⟨rfl, below_box _ _⟩
theorem cfg_name_yes {x : List UInt8} {r : List (List UInt8)} (h : PS pb k A cw all dry sb sy (x :: r) W) (hn : namedB x = true) : Calls Tryz.prog 87 #[.pointer (some ⟨pb, 0, none⟩)] W fun e w' => e = .returned (.string ⟨x.toArray⟩) ∧ PS pb k A cw all dry sb sy r w' ∧ LoN pb W w' := by
  have HK := Lib.hid (cfg_next h)
  have hxl : x.length ≤ 10000 := by obtain ⟨_, _, _, _, _, _, h⟩ := h.word; exact h
  have HN := Lib.hid (fun w => cfg_named x (by omega) w)
  rw [hn] at HN
  clear h hn
  go_enter Tryz.func87, Tryz.ntmps87
  go_wp2_with (first | (go_at_call 93; refine HK.out.mono ?_; rintro e w1 ⟨rfl, hp, hl⟩; simp only [encS]) | (go_at_call 36; refine (HN.out _).mono ?_; rintro e w2 ⟨rfl, rfl⟩) | (go_at_call 63; refine (cfg_grammar_ok _ _).mono ?_; rintro e w3 ⟨rfl, rfl⟩))
  go_ret
  exact ⟨rfl, hp, hl⟩
theorem cfg_name_no (h : PS pb k A cw all dry sb sy rest W) (hn : namedB (peekS rest) = false) : Calls Tryz.prog 87 #[.pointer (some ⟨pb, 0, none⟩)] W fun e w' => e = errP 3 ∧ LoN pb W w' := by
  have HK := Lib.hid (cfg_next h)
  cases rest with
  | nil =>
    clear h hn
    go_enter Tryz.func87, Tryz.ntmps87
    go_wp2_with (go_at_call 93; refine HK.out.mono ?_; rintro e w1 ⟨rfl, hl⟩)
    exact ⟨rfl, rfl, hl⟩
  | cons x r =>
    have hxl : x.length ≤ 10000 := by obtain ⟨_, _, _, _, _, _, h⟩ := h.word; exact h
    have HN := Lib.hid (fun w => cfg_named x (by omega) w)
    rw [show namedB x = false from hn] at HN
    clear h hn
    go_enter Tryz.func87, Tryz.ntmps87
    go_wp2_with (first | (go_at_call 93; refine HK.out.mono ?_; rintro e w1 ⟨rfl, hp, hl⟩; simp only [encS]) | (go_at_call 36; refine (HN.out _).mono ?_; rintro e w2 ⟨rfl, rfl⟩) | (go_at_call 63; refine (cfg_grammar_no _ _).mono ?_; rintro e w3 ⟨rfl, rfl⟩))
    exact ⟨rfl, rfl, hl⟩
end

def useV (dry : Bool) (kd a b : Int) (ok : Bool) : Except Int Int := if dry = false ∧ ok = false then .error 8 else if dry = false ∧ a ≠ kd then .error 1 else .ok b
theorem useOf_V (dry : Bool) (kd : Int) : ∀ lo : Option (Int × Int), ∃ a b ok, lookV lo = .agg #[.int .i64 a, .int .i64 b] ∧ lo.isSome = ok ∧ useOf dry kd lo = useV dry kd a b ok
  | none => ⟨0, 0, false, rfl, rfl, by cases dry <;> simp [useOf, useV]⟩
  | some (a, b) => ⟨a, b, true, rfl, rfl, by cases dry <;> simp [useOf, useV]⟩
theorem cell_other2 {w : World} {b j c i : Nat} {v : Value} (h : b ≠ c) : (w.setCell ⟨b, j, none⟩ v).cell? ⟨c, i, none⟩ = w.cell? ⟨c, i, none⟩ :=
  World.cell?_setCell_other w _ _ _ (fun e => h (by injection e))
section
variable {pb : Nat} {k : List Value} {A : Option Addr} {cw : Nat} {all : List (List UInt8)} {dry : Bool} {sb : Nat} {sy : SymS} {rest : List (List UInt8)} {W : World}
theorem PS.lt (h : PS pb k A cw all dry sb sy rest W) : pb < W.heap.size := lt_of_heap h.blk
/-- A store to a block that was made since. -/
theorem PS.setO {nb j : Nat} {r : List (List UInt8)} {Wa : World} (h : PS pb k A cw all dry sb sy r Wa) (hp : PS pb k A cw all dry sb sy rest W) (hn : W.heap.size ≤ nb) (v : Value) : PS pb k A cw all dry sb sy r (Wa.setCell ⟨nb, j, none⟩ v) := by
  have h1 := hp.lt
  have h2 := hp.sm.lt
  refine ⟨(Below.heap_setCell _ _ _ _ (by simp; omega)).trans h.blk, h.kl, h.suf, rd_blocks h.rd (fun b o s e => Below.heap_setCell _ _ _ _ (by have := (hp.aw b o s e).2; simp; omega)), fun b o s e => ⟨(h.aw b o s e).1, by simpa using (h.aw b o s e).2⟩, h.al, h.sk, h.sm.kept (Below.heap_setCell _ _ _ _ (by simp; omega)), h.sn⟩
theorem two_cells {w : World} {g : Nat} {a b : Value} {T : TypeId} (h : w.heap[g]? = some (.cells #[a, b] T (0, 0))) : w.cell? ⟨g, 0, none⟩ = some a ∧ w.cell? ⟨g, 1, none⟩ = some b ∧ ∀ i, w.frozen? ⟨g, i, none⟩ = false :=
  ⟨(Lib.cell_of_heap h 0).trans rfl, (Lib.cell_of_heap h 1).trans rfl, fun i => Lib.frozen_of_heap h i⟩
theorem PS.wl {x : List UInt8} {r : List (List UInt8)} (h : PS pb k A cw all dry sb sy (x :: r) W) : x ≠ [] ∧ x.length ≤ 10000 := by obtain ⟨_, _, _, _, _, h1, h2⟩ := h.word; exact ⟨h1, h2⟩
set_option maxHeartbeats 4000000 in
theorem cfg_use_no (h : PS pb k A cw all dry sb sy rest W) (hn : namedB (peekS rest) = false) (kd : Int) : Calls Tryz.prog 98 #[.pointer (some ⟨pb, 0, none⟩), .int .i64 kd] W fun e w' => e = errP 3 ∧ LoN pb W w' := by
  have b3 := h.cells.2.2.2.1
  have HP := Lib.hid h
  have HN := Lib.hid hn
  clear h hn
  go_enter Tryz.func98, Tryz.ntmps98
  go_wp2
  refine wp_region_held_drew (S := (fun w' => w'.cell? ⟨pb, 14, none⟩ = some (.map (some sb)))) (by kernel_rfl) ?_ (fun hHeld => ?_)
  · exact b3
  (refine takeL (i := 0) (v := ?_) rfl (by kernel_rfl) (by decide +kernel) (by decide +kernel) (fun _ _ _ h => h) (Or.inl ⟨by rfl, ?_⟩) (by assumption) ?_; rotate_left; (focus (intro w9 hS9; (try dsimp only at hS9); go_simp; (try with_reducible rfl); done)))
  (try simp only [Act.put, List.setIfInBounds_toArray, List.set_cons_zero, List.set_cons_succ])
  (refine takeL (i := 1) (v := ?_) rfl (by kernel_rfl) (by decide +kernel) (by decide +kernel) (fun _ _ _ h => h) (Or.inl ⟨by rfl, ?_⟩) (by assumption) ?_; rotate_left; (focus (intro w9 hS9; (try dsimp only at hS9); go_simp; (try with_reducible rfl); done)))
  (try simp only [Act.put, List.setIfInBounds_toArray, List.set_cons_zero, List.set_cons_succ])
  (refine takeL (i := 2) (v := ?_) rfl (by kernel_rfl) (by decide +kernel) (by decide +kernel) (fun _ _ _ h => h) (Or.inl ⟨by rfl, ?_⟩) (by assumption) ?_; rotate_left; (focus (intro w9 hS9; (try dsimp only at hS9); go_simp; (try with_reducible rfl); done)))
  (try simp only [Act.put, List.setIfInBounds_toArray, List.set_cons_zero, List.set_cons_succ])
  (refine takeL (i := 3) (v := ?_) rfl (by kernel_rfl) (by decide +kernel) (by decide +kernel) (fun _ _ _ h => h) (Or.inl ⟨by rfl, ?_⟩) (by assumption) ?_; rotate_left; (focus (intro w9 hS9; (try dsimp only at hS9); go_simp; (try with_reducible rfl); done)))
  (try simp only [Act.put, List.setIfInBounds_toArray, List.set_cons_zero, List.set_cons_succ])
  (refine takeL (i := 4) (v := ?_) rfl (by kernel_rfl) (by decide +kernel) (by decide +kernel) (fun _ _ _ h => h) (Or.inl ⟨by rfl, ?_⟩) (by assumption) ?_; rotate_left; (focus (intro w9 hS9; (try dsimp only at hS9); go_simp; (try with_reducible rfl); done)))
  (try simp only [Act.put, List.setIfInBounds_toArray, List.set_cons_zero, List.set_cons_succ])
  refine wpAnyH_ready (rs := [5, 10]) (by decide +kernel) (by simp) ?_
  refine consL rfl (fun K hK => ?_) ?_
  · go_simp
    go_at_call 87
    refine (cfg_name_no (HP.out.up (below_drw2 _)) HN.out).mono ?_
    rintro e w1 ⟨rfl, hl⟩
    exact ⟨rfl, rfl, (HP.out.up_lo (below_drw2 _)).trans hl⟩
  refine consL rfl (fun K hK => ?_) ?_
  · (first | fail | (go_simp; first | done | (first | fail)) | go_simp)
    (first | (with_reducible refine hK.out _ _ ?_ ?_) | (go_wp2_with fail; refine hK.out _ _ ?_ ?_))
    (focus (exact cell_up (below_box _ _) hHeld))
    clear hK K hHeld
    intro hHeld
    (try simp only [Act.put, List.setIfInBounds_toArray, List.set_cons_zero, List.set_cons_succ])
    refine wpAnyH_ready (rs := [5]) (by decide +kernel) (by simp) ?_
    refine consL rfl (fun K hK => ?_) ?_
    · go_simp
      go_at_call 87
      refine (cfg_name_no (HP.out.up (below_next (below_drw2 _) (below_box _ _) (Nat.le_refl _))) HN.out).mono ?_
      rintro e w1 ⟨rfl, hl⟩
      exact ⟨rfl, rfl, (HP.out.up_lo (below_next (below_drw2 _) (below_box _ _) (Nat.le_refl _))).trans hl⟩
    exact AllReadyH.nil
  exact AllReadyH.nil
set_option maxHeartbeats 8000000 in
set_option maxRecDepth 100000 in
theorem cfg_use_yes {x : List UInt8} {r : List (List UInt8)} (h : PS pb k A cw all dry sb sy (x :: r) W) (hn : namedB x = true) (kd : Int) : Calls Tryz.prog 98 #[.pointer (some ⟨pb, 0, none⟩), .int .i64 kd] W (RetP pb k A cw all dry sb sy encI W (match useOf dry kd (lookS sy x) with | .ok v => .ok (v, r) | .error e => .error e)) := by
  have b3 := h.cells.2.2.2.1
  have HP := Lib.hid h
  have HN := Lib.hid hn
  have hxl := h.wl.2
  obtain ⟨a, b, ok, e1, e2, e3⟩ := useOf_V dry kd (lookS sy x)
  have HLK : Hid (∀ W', MapAt Tryz.prog 9 sb (symV sy) W' → (Instr.lookup 69 (.map (some sb)) (.string ⟨x.toArray⟩) true).run Tryz.prog W' = .ok (.tuple #[.agg #[.int .i64 a, .int .i64 b], .bool ok]) W') := Lib.hid fun W' h' => by rw [← e1, ← e2]; exact sym_look h' x (by omega)
  rw [e3]
  obtain ⟨U, hU⟩ : ∃ U, U = useV dry kd a b ok := ⟨_, rfl⟩
  rw [← hU]
  have HU := Lib.hid hU
  clear h hn e1 e2 e3 hU
  go_enter Tryz.func98, Tryz.ntmps98
  go_wp2
  refine wp_region_held_drew (S := (fun w' => w'.cell? ⟨pb, 14, none⟩ = some (.map (some sb)))) (by kernel_rfl) ?_ (fun hHeld => ?_)
  · exact b3
  (refine takeL (i := 0) (v := ?_) rfl (by kernel_rfl) (by decide +kernel) (by decide +kernel) (fun _ _ _ h => h) (Or.inl ⟨by rfl, ?_⟩) (by assumption) ?_; rotate_left; (focus (intro w9 hS9; (try dsimp only at hS9); go_simp; (try with_reducible rfl); done)))
  (try simp only [Act.put, List.setIfInBounds_toArray, List.set_cons_zero, List.set_cons_succ])
  (refine takeL (i := 1) (v := ?_) rfl (by kernel_rfl) (by decide +kernel) (by decide +kernel) (fun _ _ _ h => h) (Or.inl ⟨by rfl, ?_⟩) (by assumption) ?_; rotate_left; (focus (intro w9 hS9; (try dsimp only at hS9); go_simp; (try with_reducible rfl); done)))
  (try simp only [Act.put, List.setIfInBounds_toArray, List.set_cons_zero, List.set_cons_succ])
  (refine takeL (i := 2) (v := ?_) rfl (by kernel_rfl) (by decide +kernel) (by decide +kernel) (fun _ _ _ h => h) (Or.inl ⟨by rfl, ?_⟩) (by assumption) ?_; rotate_left; (focus (intro w9 hS9; (try dsimp only at hS9); go_simp; (try with_reducible rfl); done)))
  (try simp only [Act.put, List.setIfInBounds_toArray, List.set_cons_zero, List.set_cons_succ])
  (refine takeL (i := 3) (v := ?_) rfl (by kernel_rfl) (by decide +kernel) (by decide +kernel) (fun _ _ _ h => h) (Or.inl ⟨by rfl, ?_⟩) (by assumption) ?_; rotate_left; (focus (intro w9 hS9; (try dsimp only at hS9); go_simp; (try with_reducible rfl); done)))
  (try simp only [Act.put, List.setIfInBounds_toArray, List.set_cons_zero, List.set_cons_succ])
  (refine takeL (i := 4) (v := ?_) rfl (by kernel_rfl) (by decide +kernel) (by decide +kernel) (fun _ _ _ h => h) (Or.inl ⟨by rfl, ?_⟩) (by assumption) ?_; rotate_left; (focus (intro w9 hS9; (try dsimp only at hS9); go_simp; (try with_reducible rfl); done)))
  (try simp only [Act.put, List.setIfInBounds_toArray, List.set_cons_zero, List.set_cons_succ])
  refine wpAnyH_ready (rs := [5, 10]) (by decide +kernel) (by simp) ?_
  refine consL rfl (fun K hK => ?_) ?_
  · (first | (go_at_call 87; refine (cfg_name_yes (HP.out.up (below_drw2 _)) HN.out).mono ?_; rintro e w1 ⟨rfl, hp, hl⟩; have HP1 := Lib.hid hp; have HL1 := Lib.hid ((HP.out.up_lo (below_drw2 _)).trans hl); have hlk := HLK.out _ hp.sm; have b4 := hp.cells.2.2.2.1; have hl0 := Lib.hid hl; clear hp hl) | (go_simp; first | done | (first | (go_at_call 87; refine (cfg_name_yes (HP.out.up (below_drw2 _)) HN.out).mono ?_; rintro e w1 ⟨rfl, hp, hl⟩; have HP1 := Lib.hid hp; have HL1 := Lib.hid ((HP.out.up_lo (below_drw2 _)).trans hl); have hlk := HLK.out _ hp.sm; have b4 := hp.cells.2.2.2.1; have hl0 := Lib.hid hl; clear hp hl))) | go_simp)
    (first | (with_reducible refine hK.out _ _ ?_ ?_) | (go_wp2_with fail; refine hK.out _ _ ?_ ?_))
    (focus (exact b4))
    clear hK K hHeld
    intro hHeld
    (try simp only [Act.put, List.setIfInBounds_toArray, List.set_cons_zero, List.set_cons_succ])
    refine wpAnyH_ready (rs := [6, 10]) (by decide +kernel) (by simp) ?_
    refine consL rfl (fun K hK => ?_) ?_
    · (first | fail | (go_simp; first | done | (first | fail)) | go_simp)
      (first | (with_reducible refine hK.out _ _ ?_ ?_) | (go_wp2_with fail; refine hK.out _ _ ?_ ?_))
      (focus (exact hHeld))
      clear hK K hHeld
      intro hHeld
      (try simp only [Act.put, List.setIfInBounds_toArray, List.set_cons_zero, List.set_cons_succ])
      (refine takeL (i := 7) (v := ?_) rfl (by kernel_rfl) (by decide +kernel) (by decide +kernel) (fun _ _ _ h => h) (Or.inl ⟨by rfl, ?_⟩) (by assumption) ?_; rotate_left; (focus (intro w9 hS9; (try dsimp only at hS9); go_simp; (try with_reducible rfl); done)))
      (try simp only [Act.put, List.setIfInBounds_toArray, List.set_cons_zero, List.set_cons_succ])
      (refine takeL (i := 8) (v := ?_) rfl (by kernel_rfl) (by decide +kernel) (by decide +kernel) (fun _ _ _ h => h) (Or.inl ⟨by rfl, ?_⟩) (by assumption) ?_; rotate_left; (focus (intro w9 hS9; (try dsimp only at hS9); go_simp; (try with_reducible rfl); done)))
      (try simp only [Act.put, List.setIfInBounds_toArray, List.set_cons_zero, List.set_cons_succ])
      (refine takeL (i := 9) (v := ?_) rfl (by kernel_rfl) (by decide +kernel) (by decide +kernel) (fun _ _ _ h => h) (Or.inl ⟨by rfl, ?_⟩) (by assumption) ?_; rotate_left; (focus (intro w9 hS9; (try dsimp only at hS9); go_simp; (try with_reducible rfl); done)))
      (try simp only [Act.put, List.setIfInBounds_toArray, List.set_cons_zero, List.set_cons_succ])
      refine wpAnyH_ready (rs := [10]) (by decide +kernel) (by simp) ?_
      refine consL rfl (fun K hK => ?_) ?_
      · (first | fail | (go_simp; first | done | (first | fail)) | go_simp)
        (first | (with_reducible refine hK.out _ _ ?_ ?_) | (go_wp2_with fail; refine hK.out _ _ ?_ ?_))
        (focus (exact cell_up (below_box _ _) hHeld))
        clear hK K hHeld
        intro hHeld
        (try simp only [Act.put, List.setIfInBounds_toArray, List.set_cons_zero, List.set_cons_succ])
        refine wpAnyH_ready (rs := [11]) (by decide +kernel) (by simp) ?_
        refine consL rfl (fun K hK => ?_) ?_
        · (first | fail | (go_simp; first | done | (first | fail)) | go_simp)
          (first | (with_reducible refine hK.out _ _ ?_ ?_) | (go_wp2_with fail; refine hK.out _ _ ?_ ?_))
          (focus (exact cell_up (below_box _ _) b4))
          clear hK K hHeld
          intro hHeld
          (try simp only [Act.put, List.setIfInBounds_toArray, List.set_cons_zero, List.set_cons_succ])
          (refine takeL (i := 12) (v := ?_) rfl (by kernel_rfl) (by decide +kernel) (by decide +kernel) (fun _ _ _ h => h) (Or.inl ⟨by rfl, ?_⟩) (by assumption) ?_; rotate_left; (focus (intro w9 hS9; (try dsimp only at hS9); go_simp; (try with_reducible rfl); done)))
          (try simp only [Act.put, List.setIfInBounds_toArray, List.set_cons_zero, List.set_cons_succ])
          refine wpAnyH_done (by decide +kernel) ?_ _
          have HPE := Lib.hid (HP1.out.up (below_box w1 (.cells #[.int .i64 a, .int .i64 b] 138)))
          have HLE : Hid (LoN pb W (w1.alloc (.cells #[.int .i64 a, .int .i64 b] 138))) := Lib.hid (LoN.trans HL1.out (LoN.below (below_box w1 _)))
          obtain ⟨c0, c1, _⟩ := two_cells (heap_alloc_new w1 (.cells #[.int .i64 a, .int .i64 b] 138))
          clear b3 b4 hHeld hlk
          cases dry with
          | true =>
            obtain rfl : U = .ok b := HU.out.trans (by simp [useV])
            go_wp2_with (go_at_call 110; refine (cfg_check_ok HPE.out (.inl rfl) _).mono ?_; rintro e w2 ⟨rfl, rfl⟩)
            go_ret
            exact ⟨rfl, HPE.out, HLE.out⟩
          | false =>
            cases ok with
            | false =>
              obtain rfl : U = .error 8 := HU.out.trans (by simp [useV])
              go_wp2_with (go_at_call 110; refine (cfg_check_no HPE.out _).mono ?_; rintro e w2 ⟨rfl, rfl⟩)
              exact ⟨rfl, rfl, HLE.out⟩
            | true =>
              by_cases hab : a = kd
              · subst hab
                obtain rfl : U = .ok b := HU.out.trans (by simp [useV])
                have hk2 : (a == a) = true := by simp
                go_wp2_with (go_at_call 110; refine (cfg_check_ok HPE.out (.inr rfl) _).mono ?_; rintro e w2 ⟨rfl, rfl⟩)
                go_ret
                exact ⟨rfl, HPE.out, HLE.out⟩
              · obtain rfl : U = .error 1 := HU.out.trans (by simp [useV, hab])
                have hk2 : (a == kd) = false := by simpa using hab
                go_wp2_with (first | (go_at_call 110; (with_reducible refine (cfg_check_ok (ok := true) HPE.out (.inr rfl) _).mono ?_); rintro e w2 ⟨rfl, rfl⟩) | (go_at_call 110; (with_reducible refine (cfg_check_no HPE.out _).mono ?_); rintro e w2 ⟨rfl, rfl⟩))
                exact ⟨rfl, rfl, HLE.out⟩
        exact AllReadyH.nil
      exact AllReadyH.nil
    refine consL rfl (fun K hK => ?_) ?_
    · (first | fail | (go_simp; first | done | (first | fail)) | go_simp)
      (first | (with_reducible refine hK.out _ _ ?_ ?_) | (go_wp2_with fail; refine hK.out _ _ ?_ ?_))
      (focus (exact cell_up (below_box _ _) hHeld))
      clear hK K hHeld
      intro hHeld
      (try simp only [Act.put, List.setIfInBounds_toArray, List.set_cons_zero, List.set_cons_succ])
      have hlk2 := HLK.out _ (HP1.out.up (below_box w1 (.cells #[.int .i64 0, .int .i64 0] 138))).sm
      refine wpAnyH_ready (rs := [6]) (by decide +kernel) (by simp) ?_
      refine consL rfl (fun K hK => ?_) ?_
      · (first | fail | (go_simp; first | done | (first | fail)) | go_simp)
        (first | (with_reducible refine hK.out _ _ ?_ ?_) | (go_wp2_with fail; refine hK.out _ _ ?_ ?_))
        (focus (exact hHeld))
        clear hK K hHeld
        intro hHeld
        (try simp only [Act.put, List.setIfInBounds_toArray, List.set_cons_zero, List.set_cons_succ])
        (refine takeL (i := 7) (v := ?_) rfl (by kernel_rfl) (by decide +kernel) (by decide +kernel) (fun _ _ _ h => h) (Or.inl ⟨by rfl, ?_⟩) (by assumption) ?_; rotate_left; (focus (intro w9 hS9; (try dsimp only at hS9); go_simp; (try with_reducible rfl); done)))
        (try simp only [Act.put, List.setIfInBounds_toArray, List.set_cons_zero, List.set_cons_succ])
        (refine takeL (i := 8) (v := ?_) rfl (by kernel_rfl) (by decide +kernel) (by decide +kernel) (fun _ _ _ h => h) (Or.inl ⟨by rfl, ?_⟩) (by assumption) ?_; rotate_left; (focus (intro w9 hS9; (try dsimp only at hS9); go_simp; (try with_reducible rfl); done)))
        (try simp only [Act.put, List.setIfInBounds_toArray, List.set_cons_zero, List.set_cons_succ])
        (refine takeL (i := 9) (v := ?_) rfl (by kernel_rfl) (by decide +kernel) (by decide +kernel) (fun _ _ _ h => h) (Or.inl ⟨by rfl, ?_⟩) (by assumption) ?_; rotate_left; (focus (intro w9 hS9; (try dsimp only at hS9); go_simp; (try with_reducible rfl); done)))
        (try simp only [Act.put, List.setIfInBounds_toArray, List.set_cons_zero, List.set_cons_succ])
        refine wpAnyH_ready (rs := [11]) (by decide +kernel) (by simp) ?_
        refine consL rfl (fun K hK => ?_) ?_
        · (first | fail | (go_simp; first | done | (first | fail)) | go_simp)
          (first | (with_reducible refine hK.out _ _ ?_ ?_) | (go_wp2_with fail; refine hK.out _ _ ?_ ?_))
          (focus (exact cell_up (below_box _ _) b4))
          clear hK K hHeld
          intro hHeld
          (try simp only [Act.put, List.setIfInBounds_toArray, List.set_cons_zero, List.set_cons_succ])
          (refine takeL (i := 12) (v := ?_) rfl (by kernel_rfl) (by decide +kernel) (by decide +kernel) (fun _ _ _ h => h) (Or.inl ⟨by rfl, ?_⟩) (by assumption) ?_; rotate_left; (focus (intro w9 hS9; (try dsimp only at hS9); go_simp; (try with_reducible rfl); done)))
          (try simp only [Act.put, List.setIfInBounds_toArray, List.set_cons_zero, List.set_cons_succ])
          clear hlk2
          refine wpAnyH_done (by decide +kernel) ?_ _
          have HPE := Lib.hid (HP1.out.up (below_box w1 (.cells #[.int .i64 a, .int .i64 b] 138)))
          have HLE : Hid (LoN pb W (w1.alloc (.cells #[.int .i64 a, .int .i64 b] 138))) := Lib.hid (LoN.trans HL1.out (LoN.below (below_box w1 _)))
          obtain ⟨c0, c1, _⟩ := two_cells (heap_alloc_new w1 (.cells #[.int .i64 a, .int .i64 b] 138))
          clear b3 b4 hHeld hlk
          cases dry with
          | true =>
            obtain rfl : U = .ok b := HU.out.trans (by simp [useV])
            go_wp2_with (go_at_call 110; refine (cfg_check_ok HPE.out (.inl rfl) _).mono ?_; rintro e w2 ⟨rfl, rfl⟩)
            go_ret
            exact ⟨rfl, HPE.out, HLE.out⟩
          | false =>
            cases ok with
            | false =>
              obtain rfl : U = .error 8 := HU.out.trans (by simp [useV])
              go_wp2_with (go_at_call 110; refine (cfg_check_no HPE.out _).mono ?_; rintro e w2 ⟨rfl, rfl⟩)
              exact ⟨rfl, rfl, HLE.out⟩
            | true =>
              by_cases hab : a = kd
              · subst hab
                obtain rfl : U = .ok b := HU.out.trans (by simp [useV])
                have hk2 : (a == a) = true := by simp
                go_wp2_with (go_at_call 110; refine (cfg_check_ok HPE.out (.inr rfl) _).mono ?_; rintro e w2 ⟨rfl, rfl⟩)
                go_ret
                exact ⟨rfl, HPE.out, HLE.out⟩
              · obtain rfl : U = .error 1 := HU.out.trans (by simp [useV, hab])
                have hk2 : (a == kd) = false := by simpa using hab
                go_wp2_with (first | (go_at_call 110; (with_reducible refine (cfg_check_ok (ok := true) HPE.out (.inr rfl) _).mono ?_); rintro e w2 ⟨rfl, rfl⟩) | (go_at_call 110; (with_reducible refine (cfg_check_no HPE.out _).mono ?_); rintro e w2 ⟨rfl, rfl⟩))
                exact ⟨rfl, rfl, HLE.out⟩
        exact AllReadyH.nil
      exact AllReadyH.nil
    exact AllReadyH.nil
  refine consL rfl (fun K hK => ?_) ?_
  · (first | fail | (go_simp; first | done | (first | fail)) | go_simp)
    (first | (with_reducible refine hK.out _ _ ?_ ?_) | (go_wp2_with fail; refine hK.out _ _ ?_ ?_))
    (focus (exact cell_up (below_box _ _) hHeld))
    clear hK K hHeld
    intro hHeld
    (try simp only [Act.put, List.setIfInBounds_toArray, List.set_cons_zero, List.set_cons_succ])
    refine wpAnyH_ready (rs := [5]) (by decide +kernel) (by simp) ?_
    refine consL rfl (fun K hK => ?_) ?_
    · (first | (go_at_call 87; refine (cfg_name_yes (HP.out.up (below_next (below_drw2 _) (below_box _ _) (Nat.le_refl _))) HN.out).mono ?_; rintro e w1 ⟨rfl, hp, hl⟩; have HP1 := Lib.hid hp; have HL1 := Lib.hid ((HP.out.up_lo (below_next (below_drw2 _) (below_box _ _) (Nat.le_refl _))).trans hl); have hlk := HLK.out _ hp.sm; have b4 := hp.cells.2.2.2.1; have hl0 := Lib.hid hl; clear hp hl; have HNB := Lib.hid ((hl0.out.blk W.heap.size (by simp) (by have := HP.out.lt; simp; omega)).trans (heap_alloc_new W.drew _)); have n0 := (two_cells HNB.out).1; have n1 := (two_cells HNB.out).2.1; have nf : ∀ i, w1.frozen? ⟨W.heap.size, i, none⟩ = false := fun i => Lib.frozen_of_heap HNB.out i) | (go_simp; first | done | (first | (go_at_call 87; refine (cfg_name_yes (HP.out.up (below_next (below_drw2 _) (below_box _ _) (Nat.le_refl _))) HN.out).mono ?_; rintro e w1 ⟨rfl, hp, hl⟩; have HP1 := Lib.hid hp; have HL1 := Lib.hid ((HP.out.up_lo (below_next (below_drw2 _) (below_box _ _) (Nat.le_refl _))).trans hl); have hlk := HLK.out _ hp.sm; have b4 := hp.cells.2.2.2.1; have hl0 := Lib.hid hl; clear hp hl; have HNB := Lib.hid ((hl0.out.blk W.heap.size (by simp) (by have := HP.out.lt; simp; omega)).trans (heap_alloc_new W.drew _)); have n0 := (two_cells HNB.out).1; have n1 := (two_cells HNB.out).2.1; have nf : ∀ i, w1.frozen? ⟨W.heap.size, i, none⟩ = false := fun i => Lib.frozen_of_heap HNB.out i))) | go_simp)
      (first | (with_reducible refine hK.out _ _ ?_ ?_) | (go_wp2_with fail; refine hK.out _ _ ?_ ?_))
      (focus (exact b4))
      clear hK K hHeld
      intro hHeld
      (try simp only [Act.put, List.setIfInBounds_toArray, List.set_cons_zero, List.set_cons_succ])
      refine wpAnyH_ready (rs := [6]) (by decide +kernel) (by simp) ?_
      refine consL rfl (fun K hK => ?_) ?_
      · (first | fail | (go_simp; first | done | (first | fail)) | go_simp)
        (first | (with_reducible refine hK.out _ _ ?_ ?_) | (go_wp2_with fail; refine hK.out _ _ ?_ ?_))
        (focus (exact hHeld))
        clear hK K hHeld
        intro hHeld
        (try simp only [Act.put, List.setIfInBounds_toArray, List.set_cons_zero, List.set_cons_succ])
        (refine takeL (i := 7) (v := ?_) rfl (by kernel_rfl) (by decide +kernel) (by decide +kernel) (fun _ _ _ h => h) (Or.inl ⟨by rfl, ?_⟩) (by assumption) ?_; rotate_left; (focus (intro w9 hS9; (try dsimp only at hS9); go_simp; (try with_reducible rfl); done)))
        (try simp only [Act.put, List.setIfInBounds_toArray, List.set_cons_zero, List.set_cons_succ])
        (refine takeL (i := 8) (v := ?_) rfl (by kernel_rfl) (by decide +kernel) (by decide +kernel) (fun _ _ _ h => h) (Or.inl ⟨by rfl, ?_⟩) (by assumption) ?_; rotate_left; (focus (intro w9 hS9; (try dsimp only at hS9); go_simp; (try with_reducible rfl); done)))
        (try simp only [Act.put, List.setIfInBounds_toArray, List.set_cons_zero, List.set_cons_succ])
        (refine takeL (i := 9) (v := ?_) rfl (by kernel_rfl) (by decide +kernel) (by decide +kernel) (fun _ _ _ h => h) (Or.inl ⟨by rfl, ?_⟩) (by assumption) ?_; rotate_left; (focus (intro w9 hS9; (try dsimp only at hS9); go_simp; (try with_reducible rfl); done)))
        (try simp only [Act.put, List.setIfInBounds_toArray, List.set_cons_zero, List.set_cons_succ])
        refine wpAnyH_ready (rs := [11]) (by decide +kernel) (by simp) ?_
        refine consL rfl (fun K hK => ?_) ?_
        · (first | fail | (go_simp; first | done | (first | fail)) | go_simp)
          (first | (with_reducible refine hK.out _ _ ?_ ?_) | (go_wp2_with fail; refine hK.out _ _ ?_ ?_))
          (focus (exact (cell_other2 (by have := HP.out.lt; omega)).trans ((cell_other2 (by have := HP.out.lt; omega)).trans b4)))
          clear hK K hHeld
          intro hHeld
          (try simp only [Act.put, List.setIfInBounds_toArray, List.set_cons_zero, List.set_cons_succ])
          (refine takeL (i := 12) (v := ?_) rfl (by kernel_rfl) (by decide +kernel) (by decide +kernel) (fun _ _ _ h => h) (Or.inl ⟨by rfl, ?_⟩) (by assumption) ?_; rotate_left; (focus (intro w9 hS9; (try dsimp only at hS9); go_simp; (try with_reducible rfl); done)))
          (try simp only [Act.put, List.setIfInBounds_toArray, List.set_cons_zero, List.set_cons_succ])
          refine wpAnyH_done (by decide +kernel) ?_ _
          have HPE := Lib.hid ((HP1.out.setO (j := 0) HP.out (Nat.le_refl _) (.int .i64 a)).setO (j := 1) HP.out (Nat.le_refl _) (.int .i64 b))
          have HB1 := heap_setCell_same w1 W.heap.size 0 _ _ (.int .i64 a) HNB.out
          have HB2 := heap_setCell_same _ W.heap.size 1 _ _ (.int .i64 b) HB1
          have HLE : Hid (LoN pb W ((w1.setCell ⟨W.heap.size, 0, none⟩ (.int .i64 a)).setCell ⟨W.heap.size, 1, none⟩ (.int .i64 b))) := Lib.hid ((LoP.trans HL1.out (LoP.setC HNB.out (.inr (Nat.le_refl _)) HL1.out.size _)).trans (LoP.setC HB1 (.inr (Nat.le_refl _)) (by simpa using HL1.out.size) _))
          obtain ⟨c0, c1, _⟩ := two_cells HB2
          clear b3 b4 hHeld hlk HB1 HB2 n0 n1 nf
          cases dry with
          | true =>
            obtain rfl : U = .ok b := HU.out.trans (by simp [useV])
            go_wp2_with (go_at_call 110; refine (cfg_check_ok HPE.out (.inl rfl) _).mono ?_; rintro e w2 ⟨rfl, rfl⟩)
            go_ret
            exact ⟨rfl, HPE.out, HLE.out⟩
          | false =>
            cases ok with
            | false =>
              obtain rfl : U = .error 8 := HU.out.trans (by simp [useV])
              go_wp2_with (go_at_call 110; refine (cfg_check_no HPE.out _).mono ?_; rintro e w2 ⟨rfl, rfl⟩)
              exact ⟨rfl, rfl, HLE.out⟩
            | true =>
              by_cases hab : a = kd
              · subst hab
                obtain rfl : U = .ok b := HU.out.trans (by simp [useV])
                have hk2 : (a == a) = true := by simp
                go_wp2_with (go_at_call 110; refine (cfg_check_ok HPE.out (.inr rfl) _).mono ?_; rintro e w2 ⟨rfl, rfl⟩)
                go_ret
                exact ⟨rfl, HPE.out, HLE.out⟩
              · obtain rfl : U = .error 1 := HU.out.trans (by simp [useV, hab])
                have hk2 : (a == kd) = false := by simpa using hab
                go_wp2_with (first | (go_at_call 110; (with_reducible refine (cfg_check_ok (ok := true) HPE.out (.inr rfl) _).mono ?_); rintro e w2 ⟨rfl, rfl⟩) | (go_at_call 110; (with_reducible refine (cfg_check_no HPE.out _).mono ?_); rintro e w2 ⟨rfl, rfl⟩))
                exact ⟨rfl, rfl, HLE.out⟩
        exact AllReadyH.nil
      exact AllReadyH.nil
    exact AllReadyH.nil
  exact AllReadyH.nil
end

end Go.Proofs.YtpofbhaipeiegaaGreatDoor
