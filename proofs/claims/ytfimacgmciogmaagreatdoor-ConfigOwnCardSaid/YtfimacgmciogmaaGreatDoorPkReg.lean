/-
  Two of the library's moves through a region that draws its order, for operations written out as a list.
  config's parser: what a name was declared as.
  config's parser: operations.
  config's parser: the stacks of an expression.
-/
import Derived.Deep.RegionHeld3
import Derived.Test.YtfimacgmciogmaaGreatDoorCfgC
import Derived.Deep.CutBlock
import Derived.Laws.OwnMore
import Derived.Deep.AppendLies
import Derived.LoopTactic
import Derived.Deep.CutRange
namespace Go.Proofs.YtfimacgmciogmaaGreatDoor
section
variable {P : Program} {l : List Oper} {Q : Exit → Act → World → Prop} {md : Region.Mode} {S : World → Prop}
theorem takeL {i : Nat} {oi : Oper} {v : Value} {fuel : Nat} {listed : Array Bool} {a : Act} {w : World} (hi : l[i]? = some oi)
  (hs : Region.noSelect l.toArray = true) (hf : Region.free md l.toArray listed i = true) (hr : (Region.ready md l.toArray listed).contains i = true)
  (hQ : ∀ c a w, Q (.panic c) (a.put oi.dst v) w → Q (.panic c) a w) (hy : YieldsIf P l.toArray S oi v a) (hS : S w)
  (h : wpAnyH P md l.toArray Q S fuel (listed.setIfInBounds i true) (a.put oi.dst v) w) : wpAnyH P md l.toArray Q S (fuel + 1) listed a w :=
 wpAnyH_take (by simpa using hi) hs hf hr hQ hy hS h
theorem consL {fuel : Nat} {listed : Array Bool} {a : Act} {w : World} {i : Nat} {o : Oper} {rs : List Nat} (ho : l[i]? = some o)
  (h : ∀ K' : Act → World → Prop, Shut (∀ a w, S w → (S w → wpAnyH P md l.toArray Q S fuel (listed.setIfInBounds i true) a w) → K' a w) → if Region.wanted o (yielded l.toArray a.tmps) = true then Oper.wp P o a w K' Q else K' (a.put o.dst undef) w)
  (hs : AllReadyH P md l.toArray Q S fuel listed a w rs) : AllReadyH P md l.toArray Q S fuel listed a w (i :: rs) :=
 AllReadyH.cons (by simpa using ho) h hs
end
end Go.Proofs.YtfimacgmciogmaaGreatDoor
namespace Go.Proofs.YtfimacgmciogmaaGreatDoor
set_option linter.unusedSimpArgs false
set_option linter.unusedVariables false
open Go.RowKit Go.Shelf Go.Sort
theorem lookS_mem {w : List UInt8} {x : Int × Int} : ∀ {sy : SymS}, lookS sy w = some x → ((.string ⟨w.toArray⟩ : Value), (.agg #[.int .i64 x.1, .int .i64 x.2] : Value)) ∈ symV sy
 | [], h => by cases h
 | (n, y) :: r, h => by
  unfold lookS at h
  by_cases e : n = w
  ·rw [if_pos e] at h
   injection h with h
   subst e h
   exact List.mem_map.2 ⟨(n, y), by simp, rfl⟩
  ·rw [if_neg e] at h
   have := lookS_mem h
   obtain ⟨z, hz, e2⟩ := List.mem_map.1 this
   exact List.mem_map.2 ⟨z, by simp [hz], e2⟩
theorem lookS_none {w : List UInt8} : ∀ {sy : SymS}, lookS sy w = none → ∀ y ∈ symV sy, y.1 ≠ (.string ⟨w.toArray⟩ : Value)
 | [], _, y, hy => by simp [symV] at hy
 | (n, z) :: r, h, y, hy => by
  unfold lookS at h
  by_cases e : n = w
  ·rw [if_pos e] at h; cases h
  ·rw [if_neg e] at h
   obtain ⟨u, hu, rfl⟩ := List.mem_map.1 hy
   rcases List.mem_cons.1 hu with rfl | hu
   ·simpa using e
   ·exact lookS_none h _ (List.mem_map.2 ⟨u, hu, rfl⟩)
def lookV : Option (Int × Int) → Value
 | none => .agg #[.int .i64 0, .int .i64 0]
 | some (k, v) => .agg #[.int .i64 k, .int .i64 v]
theorem below_drw2 (w : World) : Below w.heap.size w w.drew := ⟨rfl, rfl, rfl, Nat.le_refl _, fun _ _ => rfl⟩
theorem zero_sym (w : World) : (zeroValue 120).run Tryz.prog w = .ok (.agg #[.int .i64 0, .int .i64 0]) w := by kernel_rfl
theorem key_str : Go.Maps.Keyed Tryz.prog 9 := Go.Maps.string_keyed Tryz.underlying9
section
variable {pb : Nat} {k : List Value} {A : Option Addr} {cw : Nat} {all : List (List UInt8)} {dry : Bool} {sb : Nat} {sy : SymS} {rest : List (List UInt8)} {W : World}
theorem sym_look (h : MapAt Tryz.prog 9 sb (symV sy) W) (w : List UInt8) (hw : w.length ≤ 10000) : (Instr.lookup 47 (.map (some sb)) (.string ⟨w.toArray⟩) true).run Tryz.prog W = .ok (.tuple #[lookV (lookS sy w), .bool (lookS sy w).isSome]) W := by
 have hk := keyS (P := Tryz.prog) Tryz.underlying9 (l := w) (by omega)
 cases hl : lookS sy w with
 | none => exact h.miss key_str Tryz.underlying47 (zero_sym W) hk true (lookS_none hl)
 | some x => exact h.hit key_str Tryz.underlying47 hk true (lookS_mem hl)
set_option maxRecDepth 100000 in
theorem cfg_declared (h : PS pb k A cw all dry sb sy rest W) (w : List UInt8) (hw : w.length ≤ 10000) : Calls Tryz.prog 60 #[.pointer (some ⟨pb, 0, none⟩), .string ⟨w.toArray⟩] W fun e w' => e = .returned (.bool (lookS sy w).isSome) ∧ Below W.heap.size W w' := by
 have hlk := sym_look h.sm w hw
 have b3 := h.cells.2.2.2.1
 clear h
 generalize lookS sy w = lo at hlk ⊢
 cases lo with
 | none =>
  simp only [lookV, Option.isSome_none] at hlk ⊢
  go_enter Tryz.func60, Tryz.ntmps60
  go_wp2
  go_ret
  exact ⟨rfl, below_box _ _⟩
 | some x =>
  obtain ⟨a, b⟩ := x
  simp only [lookV, Option.isSome_some] at hlk ⊢
  go_enter Tryz.func60, Tryz.ntmps60
  go_wp2
  go_ret
  exact ⟨rfl, below_box _ _⟩
theorem cfg_name_yes {x : List UInt8} {r : List (List UInt8)} (h : PS pb k A cw all dry sb sy (x :: r) W) (hn : namedB x = true) : Calls Tryz.prog 57 #[.pointer (some ⟨pb, 0, none⟩)] W fun e w' => e = .returned (.string ⟨x.toArray⟩) ∧ PS pb k A cw all dry sb sy r w' ∧ LoN pb W w' := by
 have HK := Lib.hid (cfg_next h)
 have hxl : x.length ≤ 10000 := by obtain ⟨_, _, _, _, _, _, h⟩ := h.word; exact h
 have HN := Lib.hid (fun w => cfg_named x (by omega) w)
 rw [hn] at HN
 clear h hn
 go_enter Tryz.func57, Tryz.ntmps57
 go_wp2_with (first | (go_at_call 63; refine HK.out.mono ?_; rintro e w1 ⟨rfl, hp, hl⟩; simp only [encS]) | (go_at_call 22; refine (HN.out _).mono ?_; rintro e w2 ⟨rfl, rfl⟩) | (go_at_call 40; refine (cfg_grammar_ok _ _).mono ?_; rintro e w3 ⟨rfl, rfl⟩))
 go_ret
 exact ⟨rfl, hp, hl⟩
theorem cfg_name_no (h : PS pb k A cw all dry sb sy rest W) (hn : namedB (peekS rest) = false) : Calls Tryz.prog 57 #[.pointer (some ⟨pb, 0, none⟩)] W fun e w' => e = errP 3 ∧ LoN pb W w' := by
 have HK := Lib.hid (cfg_next h)
 cases rest with
 | nil =>
  clear h hn
  go_enter Tryz.func57, Tryz.ntmps57
  go_wp2_with (go_at_call 63; refine HK.out.mono ?_; rintro e w1 ⟨rfl, hl⟩)
  exact ⟨rfl, rfl, hl⟩
 | cons x r =>
  have hxl : x.length ≤ 10000 := by obtain ⟨_, _, _, _, _, _, h⟩ := h.word; exact h
  have HN := Lib.hid (fun w => cfg_named x (by omega) w)
  rw [show namedB x = false from hn] at HN
  clear h hn
  go_enter Tryz.func57, Tryz.ntmps57
  go_wp2_with (first | (go_at_call 63; refine HK.out.mono ?_; rintro e w1 ⟨rfl, hp, hl⟩; simp only [encS]) | (go_at_call 22; refine (HN.out _).mono ?_; rintro e w2 ⟨rfl, rfl⟩) | (go_at_call 40; refine (cfg_grammar_no _ _).mono ?_; rintro e w3 ⟨rfl, rfl⟩))
  exact ⟨rfl, rfl, hl⟩
end
def useV (dry : Bool) (kd a b : Int) (ok : Bool) : Except Int Int := if dry = false ∧ ok = false then .error 8 else if dry = false ∧ a ≠ kd then .error 1 else .ok b
theorem useOf_V (dry : Bool) (kd : Int) : ∀ lo : Option (Int × Int), ∃ a b ok, lookV lo = .agg #[.int .i64 a, .int .i64 b] ∧ lo.isSome = ok ∧ useOf dry kd lo = useV dry kd a b ok
 | none => ⟨0, 0, false, rfl, rfl, by cases dry <;> simp [useOf, useV]⟩
 | some (a, b) => ⟨a, b, true, rfl, rfl, by cases dry <;> simp [useOf, useV]⟩
theorem cell_other2 {w : World} {b j c i : Nat} {v : Value} (h : b ≠ c) : (w.setCell ⟨b, j, none⟩ v).cell? ⟨c, i, none⟩ = w.cell? ⟨c, i, none⟩ :=
 World.cell?_setCell_other w _ _ _ (fun e => h (by injection e))
section
variable {pb : Nat} {k : List Value} {A : Option Addr} {cw : Nat} {all : List (List UInt8)} {dry : Bool} {sb : Nat} {sy : SymS} {rest : List (List UInt8)} {W : World}
theorem PS.lt (h : PS pb k A cw all dry sb sy rest W) : pb < W.heap.size := lt_of_heap h.blk
/-- A store to a block that was made since. -/
theorem PS.setO {nb j : Nat} {r : List (List UInt8)} {Wa : World} (h : PS pb k A cw all dry sb sy r Wa) (hp : PS pb k A cw all dry sb sy rest W) (hn : W.heap.size ≤ nb) (v : Value) : PS pb k A cw all dry sb sy r (Wa.setCell ⟨nb, j, none⟩ v) := by
 have h1 := hp.lt
 have h2 := hp.sm.lt
 refine ⟨(Below.heap_setCell _ _ _ _ (by simp; omega)).trans h.blk, h.kl, h.suf, rd_blocks h.rd (fun b o s e => Below.heap_setCell _ _ _ _ (by have := (hp.aw b o s e).2; simp; omega)), fun b o s e => ⟨(h.aw b o s e).1, by simpa using (h.aw b o s e).2⟩, h.al, h.sk, h.sm.kept (Below.heap_setCell _ _ _ _ (by simp; omega)), h.sn⟩
theorem two_cells {w : World} {g : Nat} {a b : Value} {T : TypeId} (h : w.heap[g]? = some (.cells #[a, b] T (0, 0))) : w.cell? ⟨g, 0, none⟩ = some a ∧ w.cell? ⟨g, 1, none⟩ = some b ∧ ∀ i, w.frozen? ⟨g, i, none⟩ = false :=
 ⟨(Lib.cell_of_heap h 0).trans rfl, (Lib.cell_of_heap h 1).trans rfl, fun i => Lib.frozen_of_heap h i⟩
theorem PS.wl {x : List UInt8} {r : List (List UInt8)} (h : PS pb k A cw all dry sb sy (x :: r) W) : x ≠ [] ∧ x.length ≤ 10000 := by obtain ⟨_, _, _, _, _, h1, h2⟩ := h.word; exact ⟨h1, h2⟩
set_option maxHeartbeats 4000000 in
theorem cfg_use_no (h : PS pb k A cw all dry sb sy rest W) (hn : namedB (peekS rest) = false) (kd : Int) : Calls Tryz.prog 68 #[.pointer (some ⟨pb, 0, none⟩), .int .i64 kd] W fun e w' => e = errP 3 ∧ LoN pb W w' := by
 have b3 := h.cells.2.2.2.1
 have HP := Lib.hid h
 have HN := Lib.hid hn
 clear h hn
 go_enter Tryz.func68, Tryz.ntmps68
 go_wp2
 refine wp_region_held_drew (S := (fun w' => w'.cell? ⟨pb, 14, none⟩ = some (.map (some sb)))) (by kernel_rfl) ?_ (fun hHeld => ?_)
 ·exact b3
 (refine takeL (i := 0) (v := ?_) rfl (by kernel_rfl) (by decide +kernel) (by decide +kernel) (fun _ _ _ h => h) (Or.inl ⟨by rfl, ?_⟩) (by assumption) ?_; rotate_left; (focus (intro w9 hS9; (try dsimp only at hS9); go_simp; (try with_reducible rfl); done)))
 (try simp only [Act.put, List.setIfInBounds_toArray, List.set_cons_zero, List.set_cons_succ])
 (refine takeL (i := 1) (v := ?_) rfl (by kernel_rfl) (by decide +kernel) (by decide +kernel) (fun _ _ _ h => h) (Or.inl ⟨by rfl, ?_⟩) (by assumption) ?_; rotate_left; (focus (intro w9 hS9; (try dsimp only at hS9); go_simp; (try with_reducible rfl); done)))
 (try simp only [Act.put, List.setIfInBounds_toArray, List.set_cons_zero, List.set_cons_succ])
 (refine takeL (i := 2) (v := ?_) rfl (by kernel_rfl) (by decide +kernel) (by decide +kernel) (fun _ _ _ h => h) (Or.inl ⟨by rfl, ?_⟩) (by assumption) ?_; rotate_left; (focus (intro w9 hS9; (try dsimp only at hS9); go_simp; (try with_reducible rfl); done)))
 (try simp only [Act.put, List.setIfInBounds_toArray, List.set_cons_zero, List.set_cons_succ])
 (refine takeL (i := 3) (v := ?_) rfl (by kernel_rfl) (by decide +kernel) (by decide +kernel) (fun _ _ _ h => h) (Or.inl ⟨by rfl, ?_⟩) (by assumption) ?_; rotate_left; (focus (intro w9 hS9; (try dsimp only at hS9); go_simp; (try with_reducible rfl); done)))
 (try simp only [Act.put, List.setIfInBounds_toArray, List.set_cons_zero, List.set_cons_succ])
 (refine takeL (i := 4) (v := ?_) rfl (by kernel_rfl) (by decide +kernel) (by decide +kernel) (fun _ _ _ h => h) (Or.inl ⟨by rfl, ?_⟩) (by assumption) ?_; rotate_left; (focus (intro w9 hS9; (try dsimp only at hS9); go_simp; (try with_reducible rfl); done)))
 (try simp only [Act.put, List.setIfInBounds_toArray, List.set_cons_zero, List.set_cons_succ])
 refine wpAnyH_ready (rs := [5, 10]) (by decide +kernel) (by simp) ?_
 refine consL rfl (fun K hK => ?_) ?_
 ·go_simp
  go_at_call 57
  refine (cfg_name_no (HP.out.up (below_drw2 _)) HN.out).mono ?_
  rintro e w1 ⟨rfl, hl⟩
  exact ⟨rfl, rfl, (HP.out.up_lo (below_drw2 _)).trans hl⟩
 refine consL rfl (fun K hK => ?_) ?_
 ·(first | fail | (go_simp; first | done | (first | fail)) | go_simp)
  (first | (with_reducible refine hK.out _ _ ?_ ?_) | (go_wp2_with fail; refine hK.out _ _ ?_ ?_))
  (focus (exact cell_up (below_box _ _) hHeld))
  clear hK K hHeld
  intro hHeld
  (try simp only [Act.put, List.setIfInBounds_toArray, List.set_cons_zero, List.set_cons_succ])
  refine wpAnyH_ready (rs := [5]) (by decide +kernel) (by simp) ?_
  refine consL rfl (fun K hK => ?_) ?_
  ·go_simp
   go_at_call 57
   refine (cfg_name_no (HP.out.up (below_next (below_drw2 _) (below_box _ _) (Nat.le_refl _))) HN.out).mono ?_
   rintro e w1 ⟨rfl, hl⟩
   exact ⟨rfl, rfl, (HP.out.up_lo (below_next (below_drw2 _) (below_box _ _) (Nat.le_refl _))).trans hl⟩
  exact AllReadyH.nil
 exact AllReadyH.nil
set_option maxHeartbeats 8000000 in
set_option maxRecDepth 100000 in
theorem cfg_use_yes {x : List UInt8} {r : List (List UInt8)} (h : PS pb k A cw all dry sb sy (x :: r) W) (hn : namedB x = true) (kd : Int) : Calls Tryz.prog 68 #[.pointer (some ⟨pb, 0, none⟩), .int .i64 kd] W (RetP pb k A cw all dry sb sy encI W (match useOf dry kd (lookS sy x) with | .ok v => .ok (v, r) | .error e => .error e)) := by
 have b3 := h.cells.2.2.2.1
 have HP := Lib.hid h
 have HN := Lib.hid hn
 have hxl := h.wl.2
 obtain ⟨a, b, ok, e1, e2, e3⟩ := useOf_V dry kd (lookS sy x)
 have HLK : Hid (∀ W', MapAt Tryz.prog 9 sb (symV sy) W' → (Instr.lookup 47 (.map (some sb)) (.string ⟨x.toArray⟩) true).run Tryz.prog W' = .ok (.tuple #[.agg #[.int .i64 a, .int .i64 b], .bool ok]) W') := Lib.hid fun W' h' => by rw [← e1, ← e2]; exact sym_look h' x (by omega)
 rw [e3]
 obtain ⟨U, hU⟩ : ∃ U, U = useV dry kd a b ok := ⟨_, rfl⟩
 rw [← hU]
 have HU := Lib.hid hU
 clear h hn e1 e2 e3 hU
 go_enter Tryz.func68, Tryz.ntmps68
 go_wp2
 refine wp_region_held_drew (S := (fun w' => w'.cell? ⟨pb, 14, none⟩ = some (.map (some sb)))) (by kernel_rfl) ?_ (fun hHeld => ?_)
 ·exact b3
 (refine takeL (i := 0) (v := ?_) rfl (by kernel_rfl) (by decide +kernel) (by decide +kernel) (fun _ _ _ h => h) (Or.inl ⟨by rfl, ?_⟩) (by assumption) ?_; rotate_left; (focus (intro w9 hS9; (try dsimp only at hS9); go_simp; (try with_reducible rfl); done)))
 (try simp only [Act.put, List.setIfInBounds_toArray, List.set_cons_zero, List.set_cons_succ])
 (refine takeL (i := 1) (v := ?_) rfl (by kernel_rfl) (by decide +kernel) (by decide +kernel) (fun _ _ _ h => h) (Or.inl ⟨by rfl, ?_⟩) (by assumption) ?_; rotate_left; (focus (intro w9 hS9; (try dsimp only at hS9); go_simp; (try with_reducible rfl); done)))
 (try simp only [Act.put, List.setIfInBounds_toArray, List.set_cons_zero, List.set_cons_succ])
 (refine takeL (i := 2) (v := ?_) rfl (by kernel_rfl) (by decide +kernel) (by decide +kernel) (fun _ _ _ h => h) (Or.inl ⟨by rfl, ?_⟩) (by assumption) ?_; rotate_left; (focus (intro w9 hS9; (try dsimp only at hS9); go_simp; (try with_reducible rfl); done)))
 (try simp only [Act.put, List.setIfInBounds_toArray, List.set_cons_zero, List.set_cons_succ])
 (refine takeL (i := 3) (v := ?_) rfl (by kernel_rfl) (by decide +kernel) (by decide +kernel) (fun _ _ _ h => h) (Or.inl ⟨by rfl, ?_⟩) (by assumption) ?_; rotate_left; (focus (intro w9 hS9; (try dsimp only at hS9); go_simp; (try with_reducible rfl); done)))
 (try simp only [Act.put, List.setIfInBounds_toArray, List.set_cons_zero, List.set_cons_succ])
 (refine takeL (i := 4) (v := ?_) rfl (by kernel_rfl) (by decide +kernel) (by decide +kernel) (fun _ _ _ h => h) (Or.inl ⟨by rfl, ?_⟩) (by assumption) ?_; rotate_left; (focus (intro w9 hS9; (try dsimp only at hS9); go_simp; (try with_reducible rfl); done)))
 (try simp only [Act.put, List.setIfInBounds_toArray, List.set_cons_zero, List.set_cons_succ])
 refine wpAnyH_ready (rs := [5, 10]) (by decide +kernel) (by simp) ?_
 refine consL rfl (fun K hK => ?_) ?_
 ·(first | (go_at_call 57; refine (cfg_name_yes (HP.out.up (below_drw2 _)) HN.out).mono ?_; rintro e w1 ⟨rfl, hp, hl⟩; have HP1 := Lib.hid hp; have HL1 := Lib.hid ((HP.out.up_lo (below_drw2 _)).trans hl); have hlk := HLK.out _ hp.sm; have b4 := hp.cells.2.2.2.1; have hl0 := Lib.hid hl; clear hp hl) | (go_simp; first | done | (first | (go_at_call 57; refine (cfg_name_yes (HP.out.up (below_drw2 _)) HN.out).mono ?_; rintro e w1 ⟨rfl, hp, hl⟩; have HP1 := Lib.hid hp; have HL1 := Lib.hid ((HP.out.up_lo (below_drw2 _)).trans hl); have hlk := HLK.out _ hp.sm; have b4 := hp.cells.2.2.2.1; have hl0 := Lib.hid hl; clear hp hl))) | go_simp)
  (first | (with_reducible refine hK.out _ _ ?_ ?_) | (go_wp2_with fail; refine hK.out _ _ ?_ ?_))
  (focus (exact b4))
  clear hK K hHeld
  intro hHeld
  (try simp only [Act.put, List.setIfInBounds_toArray, List.set_cons_zero, List.set_cons_succ])
  refine wpAnyH_ready (rs := [6, 10]) (by decide +kernel) (by simp) ?_
  refine consL rfl (fun K hK => ?_) ?_
  ·(first | fail | (go_simp; first | done | (first | fail)) | go_simp)
   (first | (with_reducible refine hK.out _ _ ?_ ?_) | (go_wp2_with fail; refine hK.out _ _ ?_ ?_))
   (focus (exact hHeld))
   clear hK K hHeld
   intro hHeld
   (try simp only [Act.put, List.setIfInBounds_toArray, List.set_cons_zero, List.set_cons_succ])
   (refine takeL (i := 7) (v := ?_) rfl (by kernel_rfl) (by decide +kernel) (by decide +kernel) (fun _ _ _ h => h) (Or.inl ⟨by rfl, ?_⟩) (by assumption) ?_; rotate_left; (focus (intro w9 hS9; (try dsimp only at hS9); go_simp; (try with_reducible rfl); done)))
   (try simp only [Act.put, List.setIfInBounds_toArray, List.set_cons_zero, List.set_cons_succ])
   (refine takeL (i := 8) (v := ?_) rfl (by kernel_rfl) (by decide +kernel) (by decide +kernel) (fun _ _ _ h => h) (Or.inl ⟨by rfl, ?_⟩) (by assumption) ?_; rotate_left; (focus (intro w9 hS9; (try dsimp only at hS9); go_simp; (try with_reducible rfl); done)))
   (try simp only [Act.put, List.setIfInBounds_toArray, List.set_cons_zero, List.set_cons_succ])
   (refine takeL (i := 9) (v := ?_) rfl (by kernel_rfl) (by decide +kernel) (by decide +kernel) (fun _ _ _ h => h) (Or.inl ⟨by rfl, ?_⟩) (by assumption) ?_; rotate_left; (focus (intro w9 hS9; (try dsimp only at hS9); go_simp; (try with_reducible rfl); done)))
   (try simp only [Act.put, List.setIfInBounds_toArray, List.set_cons_zero, List.set_cons_succ])
   refine wpAnyH_ready (rs := [10]) (by decide +kernel) (by simp) ?_
   refine consL rfl (fun K hK => ?_) ?_
   ·(first | fail | (go_simp; first | done | (first | fail)) | go_simp)
    (first | (with_reducible refine hK.out _ _ ?_ ?_) | (go_wp2_with fail; refine hK.out _ _ ?_ ?_))
    (focus (exact cell_up (below_box _ _) hHeld))
    clear hK K hHeld
    intro hHeld
    (try simp only [Act.put, List.setIfInBounds_toArray, List.set_cons_zero, List.set_cons_succ])
    refine wpAnyH_ready (rs := [11]) (by decide +kernel) (by simp) ?_
    refine consL rfl (fun K hK => ?_) ?_
    ·(first | fail | (go_simp; first | done | (first | fail)) | go_simp)
     (first | (with_reducible refine hK.out _ _ ?_ ?_) | (go_wp2_with fail; refine hK.out _ _ ?_ ?_))
     (focus (exact cell_up (below_box _ _) b4))
     clear hK K hHeld
     intro hHeld
     (try simp only [Act.put, List.setIfInBounds_toArray, List.set_cons_zero, List.set_cons_succ])
     (refine takeL (i := 12) (v := ?_) rfl (by kernel_rfl) (by decide +kernel) (by decide +kernel) (fun _ _ _ h => h) (Or.inl ⟨by rfl, ?_⟩) (by assumption) ?_; rotate_left; (focus (intro w9 hS9; (try dsimp only at hS9); go_simp; (try with_reducible rfl); done)))
     (try simp only [Act.put, List.setIfInBounds_toArray, List.set_cons_zero, List.set_cons_succ])
     refine wpAnyH_done (by decide +kernel) ?_ _
     have HPE := Lib.hid (HP1.out.up (below_box w1 (.cells #[.int .i64 a, .int .i64 b] 120)))
     have HLE : Hid (LoN pb W (w1.alloc (.cells #[.int .i64 a, .int .i64 b] 120))) := Lib.hid (LoN.trans HL1.out (LoN.below (below_box w1 _)))
     obtain ⟨c0, c1, _⟩ := two_cells (heap_alloc_new w1 (.cells #[.int .i64 a, .int .i64 b] 120))
     clear b3 b4 hHeld hlk
     cases dry with
     | true =>
      obtain rfl : U = .ok b := HU.out.trans (by simp [useV])
      go_wp2_with (go_at_call 77; refine (cfg_check_ok HPE.out (.inl rfl) _).mono ?_; rintro e w2 ⟨rfl, rfl⟩)
      go_ret
      exact ⟨rfl, HPE.out, HLE.out⟩
     | false =>
      cases ok with
      | false =>
       obtain rfl : U = .error 8 := HU.out.trans (by simp [useV])
       go_wp2_with (go_at_call 77; refine (cfg_check_no HPE.out _).mono ?_; rintro e w2 ⟨rfl, rfl⟩)
       exact ⟨rfl, rfl, HLE.out⟩
      | true =>
       by_cases hab : a = kd
       ·subst hab
        obtain rfl : U = .ok b := HU.out.trans (by simp [useV])
        have hk2 : (a == a) = true := by simp
        go_wp2_with (go_at_call 77; refine (cfg_check_ok HPE.out (.inr rfl) _).mono ?_; rintro e w2 ⟨rfl, rfl⟩)
        go_ret
        exact ⟨rfl, HPE.out, HLE.out⟩
       ·obtain rfl : U = .error 1 := HU.out.trans (by simp [useV, hab])
        have hk2 : (a == kd) = false := by simpa using hab
        go_wp2_with (first | (go_at_call 77; (with_reducible refine (cfg_check_ok (ok := true) HPE.out (.inr rfl) _).mono ?_); rintro e w2 ⟨rfl, rfl⟩) | (go_at_call 77; (with_reducible refine (cfg_check_no HPE.out _).mono ?_); rintro e w2 ⟨rfl, rfl⟩))
        exact ⟨rfl, rfl, HLE.out⟩
    exact AllReadyH.nil
   exact AllReadyH.nil
  refine consL rfl (fun K hK => ?_) ?_
  ·(first | fail | (go_simp; first | done | (first | fail)) | go_simp)
   (first | (with_reducible refine hK.out _ _ ?_ ?_) | (go_wp2_with fail; refine hK.out _ _ ?_ ?_))
   (focus (exact cell_up (below_box _ _) hHeld))
   clear hK K hHeld
   intro hHeld
   (try simp only [Act.put, List.setIfInBounds_toArray, List.set_cons_zero, List.set_cons_succ])
   have hlk2 := HLK.out _ (HP1.out.up (below_box w1 (.cells #[.int .i64 0, .int .i64 0] 120))).sm
   refine wpAnyH_ready (rs := [6]) (by decide +kernel) (by simp) ?_
   refine consL rfl (fun K hK => ?_) ?_
   ·(first | fail | (go_simp; first | done | (first | fail)) | go_simp)
    (first | (with_reducible refine hK.out _ _ ?_ ?_) | (go_wp2_with fail; refine hK.out _ _ ?_ ?_))
    (focus (exact hHeld))
    clear hK K hHeld
    intro hHeld
    (try simp only [Act.put, List.setIfInBounds_toArray, List.set_cons_zero, List.set_cons_succ])
    (refine takeL (i := 7) (v := ?_) rfl (by kernel_rfl) (by decide +kernel) (by decide +kernel) (fun _ _ _ h => h) (Or.inl ⟨by rfl, ?_⟩) (by assumption) ?_; rotate_left; (focus (intro w9 hS9; (try dsimp only at hS9); go_simp; (try with_reducible rfl); done)))
    (try simp only [Act.put, List.setIfInBounds_toArray, List.set_cons_zero, List.set_cons_succ])
    (refine takeL (i := 8) (v := ?_) rfl (by kernel_rfl) (by decide +kernel) (by decide +kernel) (fun _ _ _ h => h) (Or.inl ⟨by rfl, ?_⟩) (by assumption) ?_; rotate_left; (focus (intro w9 hS9; (try dsimp only at hS9); go_simp; (try with_reducible rfl); done)))
    (try simp only [Act.put, List.setIfInBounds_toArray, List.set_cons_zero, List.set_cons_succ])
    (refine takeL (i := 9) (v := ?_) rfl (by kernel_rfl) (by decide +kernel) (by decide +kernel) (fun _ _ _ h => h) (Or.inl ⟨by rfl, ?_⟩) (by assumption) ?_; rotate_left; (focus (intro w9 hS9; (try dsimp only at hS9); go_simp; (try with_reducible rfl); done)))
    (try simp only [Act.put, List.setIfInBounds_toArray, List.set_cons_zero, List.set_cons_succ])
    refine wpAnyH_ready (rs := [11]) (by decide +kernel) (by simp) ?_
    refine consL rfl (fun K hK => ?_) ?_
    ·(first | fail | (go_simp; first | done | (first | fail)) | go_simp)
     (first | (with_reducible refine hK.out _ _ ?_ ?_) | (go_wp2_with fail; refine hK.out _ _ ?_ ?_))
     (focus (exact cell_up (below_box _ _) b4))
     clear hK K hHeld
     intro hHeld
     (try simp only [Act.put, List.setIfInBounds_toArray, List.set_cons_zero, List.set_cons_succ])
     (refine takeL (i := 12) (v := ?_) rfl (by kernel_rfl) (by decide +kernel) (by decide +kernel) (fun _ _ _ h => h) (Or.inl ⟨by rfl, ?_⟩) (by assumption) ?_; rotate_left; (focus (intro w9 hS9; (try dsimp only at hS9); go_simp; (try with_reducible rfl); done)))
     (try simp only [Act.put, List.setIfInBounds_toArray, List.set_cons_zero, List.set_cons_succ])
     clear hlk2
     refine wpAnyH_done (by decide +kernel) ?_ _
     have HPE := Lib.hid (HP1.out.up (below_box w1 (.cells #[.int .i64 a, .int .i64 b] 120)))
     have HLE : Hid (LoN pb W (w1.alloc (.cells #[.int .i64 a, .int .i64 b] 120))) := Lib.hid (LoN.trans HL1.out (LoN.below (below_box w1 _)))
     obtain ⟨c0, c1, _⟩ := two_cells (heap_alloc_new w1 (.cells #[.int .i64 a, .int .i64 b] 120))
     clear b3 b4 hHeld hlk
     cases dry with
     | true =>
      obtain rfl : U = .ok b := HU.out.trans (by simp [useV])
      go_wp2_with (go_at_call 77; refine (cfg_check_ok HPE.out (.inl rfl) _).mono ?_; rintro e w2 ⟨rfl, rfl⟩)
      go_ret
      exact ⟨rfl, HPE.out, HLE.out⟩
     | false =>
      cases ok with
      | false =>
       obtain rfl : U = .error 8 := HU.out.trans (by simp [useV])
       go_wp2_with (go_at_call 77; refine (cfg_check_no HPE.out _).mono ?_; rintro e w2 ⟨rfl, rfl⟩)
       exact ⟨rfl, rfl, HLE.out⟩
      | true =>
       by_cases hab : a = kd
       ·subst hab
        obtain rfl : U = .ok b := HU.out.trans (by simp [useV])
        have hk2 : (a == a) = true := by simp
        go_wp2_with (go_at_call 77; refine (cfg_check_ok HPE.out (.inr rfl) _).mono ?_; rintro e w2 ⟨rfl, rfl⟩)
        go_ret
        exact ⟨rfl, HPE.out, HLE.out⟩
       ·obtain rfl : U = .error 1 := HU.out.trans (by simp [useV, hab])
        have hk2 : (a == kd) = false := by simpa using hab
        go_wp2_with (first | (go_at_call 77; (with_reducible refine (cfg_check_ok (ok := true) HPE.out (.inr rfl) _).mono ?_); rintro e w2 ⟨rfl, rfl⟩) | (go_at_call 77; (with_reducible refine (cfg_check_no HPE.out _).mono ?_); rintro e w2 ⟨rfl, rfl⟩))
        exact ⟨rfl, rfl, HLE.out⟩
    exact AllReadyH.nil
   exact AllReadyH.nil
  exact AllReadyH.nil
 refine consL rfl (fun K hK => ?_) ?_
 ·(first | fail | (go_simp; first | done | (first | fail)) | go_simp)
  (first | (with_reducible refine hK.out _ _ ?_ ?_) | (go_wp2_with fail; refine hK.out _ _ ?_ ?_))
  (focus (exact cell_up (below_box _ _) hHeld))
  clear hK K hHeld
  intro hHeld
  (try simp only [Act.put, List.setIfInBounds_toArray, List.set_cons_zero, List.set_cons_succ])
  refine wpAnyH_ready (rs := [5]) (by decide +kernel) (by simp) ?_
  refine consL rfl (fun K hK => ?_) ?_
  ·(first | (go_at_call 57; refine (cfg_name_yes (HP.out.up (below_next (below_drw2 _) (below_box _ _) (Nat.le_refl _))) HN.out).mono ?_; rintro e w1 ⟨rfl, hp, hl⟩; have HP1 := Lib.hid hp; have HL1 := Lib.hid ((HP.out.up_lo (below_next (below_drw2 _) (below_box _ _) (Nat.le_refl _))).trans hl); have hlk := HLK.out _ hp.sm; have b4 := hp.cells.2.2.2.1; have hl0 := Lib.hid hl; clear hp hl; have HNB := Lib.hid ((hl0.out.blk W.heap.size (by simp) (by have := HP.out.lt; simp; omega)).trans (heap_alloc_new W.drew _)); have n0 := (two_cells HNB.out).1; have n1 := (two_cells HNB.out).2.1; have nf : ∀ i, w1.frozen? ⟨W.heap.size, i, none⟩ = false := fun i => Lib.frozen_of_heap HNB.out i) | (go_simp; first | done | (first | (go_at_call 57; refine (cfg_name_yes (HP.out.up (below_next (below_drw2 _) (below_box _ _) (Nat.le_refl _))) HN.out).mono ?_; rintro e w1 ⟨rfl, hp, hl⟩; have HP1 := Lib.hid hp; have HL1 := Lib.hid ((HP.out.up_lo (below_next (below_drw2 _) (below_box _ _) (Nat.le_refl _))).trans hl); have hlk := HLK.out _ hp.sm; have b4 := hp.cells.2.2.2.1; have hl0 := Lib.hid hl; clear hp hl; have HNB := Lib.hid ((hl0.out.blk W.heap.size (by simp) (by have := HP.out.lt; simp; omega)).trans (heap_alloc_new W.drew _)); have n0 := (two_cells HNB.out).1; have n1 := (two_cells HNB.out).2.1; have nf : ∀ i, w1.frozen? ⟨W.heap.size, i, none⟩ = false := fun i => Lib.frozen_of_heap HNB.out i))) | go_simp)
   (first | (with_reducible refine hK.out _ _ ?_ ?_) | (go_wp2_with fail; refine hK.out _ _ ?_ ?_))
   (focus (exact b4))
   clear hK K hHeld
   intro hHeld
   (try simp only [Act.put, List.setIfInBounds_toArray, List.set_cons_zero, List.set_cons_succ])
   refine wpAnyH_ready (rs := [6]) (by decide +kernel) (by simp) ?_
   refine consL rfl (fun K hK => ?_) ?_
   ·(first | fail | (go_simp; first | done | (first | fail)) | go_simp)
    (first | (with_reducible refine hK.out _ _ ?_ ?_) | (go_wp2_with fail; refine hK.out _ _ ?_ ?_))
    (focus (exact hHeld))
    clear hK K hHeld
    intro hHeld
    (try simp only [Act.put, List.setIfInBounds_toArray, List.set_cons_zero, List.set_cons_succ])
    (refine takeL (i := 7) (v := ?_) rfl (by kernel_rfl) (by decide +kernel) (by decide +kernel) (fun _ _ _ h => h) (Or.inl ⟨by rfl, ?_⟩) (by assumption) ?_; rotate_left; (focus (intro w9 hS9; (try dsimp only at hS9); go_simp; (try with_reducible rfl); done)))
    (try simp only [Act.put, List.setIfInBounds_toArray, List.set_cons_zero, List.set_cons_succ])
    (refine takeL (i := 8) (v := ?_) rfl (by kernel_rfl) (by decide +kernel) (by decide +kernel) (fun _ _ _ h => h) (Or.inl ⟨by rfl, ?_⟩) (by assumption) ?_; rotate_left; (focus (intro w9 hS9; (try dsimp only at hS9); go_simp; (try with_reducible rfl); done)))
    (try simp only [Act.put, List.setIfInBounds_toArray, List.set_cons_zero, List.set_cons_succ])
    (refine takeL (i := 9) (v := ?_) rfl (by kernel_rfl) (by decide +kernel) (by decide +kernel) (fun _ _ _ h => h) (Or.inl ⟨by rfl, ?_⟩) (by assumption) ?_; rotate_left; (focus (intro w9 hS9; (try dsimp only at hS9); go_simp; (try with_reducible rfl); done)))
    (try simp only [Act.put, List.setIfInBounds_toArray, List.set_cons_zero, List.set_cons_succ])
    refine wpAnyH_ready (rs := [11]) (by decide +kernel) (by simp) ?_
    refine consL rfl (fun K hK => ?_) ?_
    ·(first | fail | (go_simp; first | done | (first | fail)) | go_simp)
     (first | (with_reducible refine hK.out _ _ ?_ ?_) | (go_wp2_with fail; refine hK.out _ _ ?_ ?_))
     (focus (exact (cell_other2 (by have := HP.out.lt; omega)).trans ((cell_other2 (by have := HP.out.lt; omega)).trans b4)))
     clear hK K hHeld
     intro hHeld
     (try simp only [Act.put, List.setIfInBounds_toArray, List.set_cons_zero, List.set_cons_succ])
     (refine takeL (i := 12) (v := ?_) rfl (by kernel_rfl) (by decide +kernel) (by decide +kernel) (fun _ _ _ h => h) (Or.inl ⟨by rfl, ?_⟩) (by assumption) ?_; rotate_left; (focus (intro w9 hS9; (try dsimp only at hS9); go_simp; (try with_reducible rfl); done)))
     (try simp only [Act.put, List.setIfInBounds_toArray, List.set_cons_zero, List.set_cons_succ])
     refine wpAnyH_done (by decide +kernel) ?_ _
     have HPE := Lib.hid ((HP1.out.setO (j := 0) HP.out (Nat.le_refl _) (.int .i64 a)).setO (j := 1) HP.out (Nat.le_refl _) (.int .i64 b))
     have HB1 := heap_setCell_same w1 W.heap.size 0 _ _ (.int .i64 a) HNB.out
     have HB2 := heap_setCell_same _ W.heap.size 1 _ _ (.int .i64 b) HB1
     have HLE : Hid (LoN pb W ((w1.setCell ⟨W.heap.size, 0, none⟩ (.int .i64 a)).setCell ⟨W.heap.size, 1, none⟩ (.int .i64 b))) := Lib.hid ((LoP.trans HL1.out (LoP.setC HNB.out (.inr (Nat.le_refl _)) HL1.out.size _)).trans (LoP.setC HB1 (.inr (Nat.le_refl _)) (by simpa using HL1.out.size) _))
     obtain ⟨c0, c1, _⟩ := two_cells HB2
     clear b3 b4 hHeld hlk HB1 HB2 n0 n1 nf
     cases dry with
     | true =>
      obtain rfl : U = .ok b := HU.out.trans (by simp [useV])
      go_wp2_with (go_at_call 77; refine (cfg_check_ok HPE.out (.inl rfl) _).mono ?_; rintro e w2 ⟨rfl, rfl⟩)
      go_ret
      exact ⟨rfl, HPE.out, HLE.out⟩
     | false =>
      cases ok with
      | false =>
       obtain rfl : U = .error 8 := HU.out.trans (by simp [useV])
       go_wp2_with (go_at_call 77; refine (cfg_check_no HPE.out _).mono ?_; rintro e w2 ⟨rfl, rfl⟩)
       exact ⟨rfl, rfl, HLE.out⟩
      | true =>
       by_cases hab : a = kd
       ·subst hab
        obtain rfl : U = .ok b := HU.out.trans (by simp [useV])
        have hk2 : (a == a) = true := by simp
        go_wp2_with (go_at_call 77; refine (cfg_check_ok HPE.out (.inr rfl) _).mono ?_; rintro e w2 ⟨rfl, rfl⟩)
        go_ret
        exact ⟨rfl, HPE.out, HLE.out⟩
       ·obtain rfl : U = .error 1 := HU.out.trans (by simp [useV, hab])
        have hk2 : (a == kd) = false := by simpa using hab
        go_wp2_with (first | (go_at_call 77; (with_reducible refine (cfg_check_ok (ok := true) HPE.out (.inr rfl) _).mono ?_); rintro e w2 ⟨rfl, rfl⟩) | (go_at_call 77; (with_reducible refine (cfg_check_no HPE.out _).mono ?_); rintro e w2 ⟨rfl, rfl⟩))
        exact ⟨rfl, rfl, HLE.out⟩
    exact AllReadyH.nil
   exact AllReadyH.nil
  exact AllReadyH.nil
 exact AllReadyH.nil
end
end Go.Proofs.YtfimacgmciogmaaGreatDoor
namespace Go.Proofs.YtfimacgmciogmaaGreatDoor
set_option linter.unusedSimpArgs false
set_option linter.unusedVariables false
open Go.RowKit Go.Shelf Go.Sort
section
variable {pb : Nat} {k : List Value} {A : Option Addr} {cw : Nat} {all : List (List UInt8)} {dry : Bool} {sb : Nat} {sy : SymS} {rest : List (List UInt8)} {W : World}
/-- How an operation ends. -/
def RetO (r : Except Int Int) (w : World) (e : Ending) (w' : World) : Prop := (match r with | .ok c => e = .returned (.int .i64 c) | .error c => e = .panicked [{ v := .iface 34 (.int .i64 c), recovered := false }]) ∧ w = w'
def inB (c : Int) : Bool := decide (-1099511627776 ≤ c) && decide (c ≤ 1099511627776)
theorem smallS_ok {c : Int} (h : dry = true ∨ inB c = true) : smallS dry c = .ok c := by
 unfold smallS
 rw [if_neg]
 rintro ⟨h1, h2⟩
 rcases h with h | h
 ·rw [h] at h1; cases h1
 ·simp [inB] at h; exact h2 h
theorem smallS_no {c : Int} (h1 : dry = false) (h : inB c = false) : smallS dry c = .error 2 := by
 unfold smallS
 rw [if_pos]
 refine ⟨h1, fun h2 => ?_⟩
 have : inB c = true := by simp [inB]; exact h2
 rw [this] at h; cases h
set_option maxHeartbeats 4000000 in
set_option maxRecDepth 100000 in
theorem cfg_operate (h : PS pb k A cw all dry sb sy rest W) (o : List UInt8) (a b : Int) (ha : -9223372036854775808 ≤ a ∧ a ≤ 9223372036854775807) (hb : -9223372036854775808 ≤ b ∧ b ≤ 9223372036854775807) :
  Calls Tryz.prog 95 #[.pointer (some ⟨pb, 0, none⟩), .string ⟨o.toArray⟩, .int .i64 a, .int .i64 b] W (RetO (operateS dry o a b) W) := by
 have HP := Lib.hid h
 obtain ⟨U, hU⟩ : ∃ U, U = operateS dry o a b := ⟨_, rfl⟩
 rw [← hU]
 have HU := Lib.hid hU
 have HA := Lib.hid ha
 have HBb := Lib.hid hb
 clear h hU ha hb
 by_cases h1 : o = oPlus
 ·subst h1
  show Calls _ _ #[_, .string ⟨#[43]⟩, _, _] _ _
  have HW : Hid (∀ w, Calls Tryz.prog 23 #[.int .i64 (wrap64 (a + b)), .int .i64 (-1099511627776), .int .i64 1099511627776] w fun e w' => e = .returned (.bool (inB (wrap64 (a + b)))) ∧ w = w') := Lib.hid fun w => cfg_within _ _ _ w
  have HE : Hid (U = smallS dry (wrap64 (a + b))) := Lib.hid (HU.out.trans (by simp only [operateS, if_true]))
  cases ht : inB (wrap64 (a + b)) with
  | true =>
   obtain rfl : U = .ok (wrap64 (a + b)) := HE.out.trans (smallS_ok (.inr ht))
   rw [ht] at HW
   clear ht HE HU
   go_enter Tryz.func95, Tryz.ntmps95
   go_wp2_with (first | (go_at_call 23; refine (HW.out _).mono ?_; rintro e w1 ⟨rfl, rfl⟩) | (go_at_call 77; (with_reducible refine (cfg_check_ok HP.out (.inr rfl) _).mono ?_); rintro e w2 ⟨rfl, rfl⟩))
   go_ret
   exact ⟨rfl, rfl⟩
  | false =>
   cases dry with
   | true =>
    obtain rfl : U = .ok (wrap64 (a + b)) := HE.out.trans (smallS_ok (.inl rfl))
    rw [ht] at HW
    clear ht HE HU
    go_enter Tryz.func95, Tryz.ntmps95
    go_wp2_with (first | (go_at_call 23; refine (HW.out _).mono ?_; rintro e w1 ⟨rfl, rfl⟩) | (go_at_call 77; (with_reducible refine (cfg_check_ok HP.out (.inl rfl) _).mono ?_); rintro e w2 ⟨rfl, rfl⟩))
    go_ret
    exact ⟨rfl, rfl⟩
   | false =>
    obtain rfl : U = .error 2 := HE.out.trans (smallS_no rfl ht)
    rw [ht] at HW
    clear ht HE HU
    go_enter Tryz.func95, Tryz.ntmps95
    go_wp2_with (first | (go_at_call 23; refine (HW.out _).mono ?_; rintro e w1 ⟨rfl, rfl⟩) | (go_at_call 77; (with_reducible refine (cfg_check_no HP.out _).mono ?_); rintro e w2 ⟨rfl, rfl⟩))
    exact ⟨rfl, rfl, rfl⟩
 by_cases h2 : o = oMinus
 ·subst h2
  show Calls _ _ #[_, .string ⟨#[45]⟩, _, _] _ _
  clear h1
  have HW : Hid (∀ w, Calls Tryz.prog 23 #[.int .i64 (wrap64 (a - b)), .int .i64 (-1099511627776), .int .i64 1099511627776] w fun e w' => e = .returned (.bool (inB (wrap64 (a - b)))) ∧ w = w') := Lib.hid fun w => cfg_within _ _ _ w
  have HE : Hid (U = smallS dry (wrap64 (a - b))) := Lib.hid (HU.out.trans (by rw [operateS, if_neg (by decide), if_pos rfl]))
  cases ht : inB (wrap64 (a - b)) with
  | true =>
   obtain rfl : U = .ok (wrap64 (a - b)) := HE.out.trans (smallS_ok (.inr ht))
   rw [ht] at HW
   clear ht HE HU
   go_enter Tryz.func95, Tryz.ntmps95
   go_wp2_with (first | (go_at_call 23; refine (HW.out _).mono ?_; rintro e w1 ⟨rfl, rfl⟩) | (go_at_call 77; (with_reducible refine (cfg_check_ok HP.out (.inr rfl) _).mono ?_); rintro e w2 ⟨rfl, rfl⟩))
   go_ret
   exact ⟨rfl, rfl⟩
  | false =>
   cases dry with
   | true =>
    obtain rfl : U = .ok (wrap64 (a - b)) := HE.out.trans (smallS_ok (.inl rfl))
    rw [ht] at HW
    clear ht HE HU
    go_enter Tryz.func95, Tryz.ntmps95
    go_wp2_with (first | (go_at_call 23; refine (HW.out _).mono ?_; rintro e w1 ⟨rfl, rfl⟩) | (go_at_call 77; (with_reducible refine (cfg_check_ok HP.out (.inl rfl) _).mono ?_); rintro e w2 ⟨rfl, rfl⟩))
    go_ret
    exact ⟨rfl, rfl⟩
   | false =>
    obtain rfl : U = .error 2 := HE.out.trans (smallS_no rfl ht)
    rw [ht] at HW
    clear ht HE HU
    go_enter Tryz.func95, Tryz.ntmps95
    go_wp2_with (first | (go_at_call 23; refine (HW.out _).mono ?_; rintro e w1 ⟨rfl, rfl⟩) | (go_at_call 77; (with_reducible refine (cfg_check_no HP.out _).mono ?_); rintro e w2 ⟨rfl, rfl⟩))
    exact ⟨rfl, rfl, rfl⟩
 have k1 : (o == [43]) = false := by simpa [oPlus] using h1
 have k2 : (o == [45]) = false := by simpa [oMinus] using h2
 have HO := Lib.hid (And.intro h1 h2)
 clear h1 h2
 by_cases h3 : a = 0
 ·subst h3
  obtain rfl : U = .ok 0 := HU.out.trans (by rw [operateS, if_neg HO.out.1, if_neg HO.out.2, if_pos (.inl rfl)])
  go_enter Tryz.func95, Tryz.ntmps95
  go_wp2
  go_ret
  exact ⟨rfl, rfl⟩
 by_cases h4 : b = 0
 ·subst h4
  obtain rfl : U = .ok 0 := HU.out.trans (by rw [operateS, if_neg HO.out.1, if_neg HO.out.2, if_pos (.inr rfl)])
  have k3 : (a == 0) = false := by simpa using h3
  clear h3
  go_enter Tryz.func95, Tryz.ntmps95
  go_wp2
  go_ret
  exact ⟨rfl, rfl⟩
 have k3 : (a == 0) = false := by simpa using h3
 have k4 : (b == 0) = false := by simpa using h4
 have HN := Lib.hid (And.intro h3 h4)
 clear h3 h4
 have hz : ¬ max a (wrap64 (-a)) = 0 := by
  intro e
  have hA := HA.out
  by_cases hm : a = -9223372036854775808
  ·subst hm
   unfold wrap64 at e
   omega
  ·have hw : wrap64 (-a) = -a := IntWalk.wrap64_in _ (by omega)
   rw [hw] at e
   have := HN.out.1
   omega
 obtain ⟨m, hm⟩ : ∃ m, m = mulOk a b := ⟨_, rfl⟩
 have HM := Lib.hid hm
 have HK : Hid (∀ w, (m = true → PS pb k A cw all dry sb sy rest w → Calls Tryz.prog 77 #[.pointer (some ⟨pb, 0, none⟩), .bool (decide (max b (wrap64 (-b)) ≤ wrap64 (Int.tdiv 1099511627776 (max a (wrap64 (-a)))))), .int .i64 2] w fun e w' => e = .returned (.tuple #[]) ∧ w = w')) := Lib.hid fun w h1 h2 => by
  rw [show decide (max b (wrap64 (-b)) ≤ wrap64 (Int.tdiv 1099511627776 (max a (wrap64 (-a))))) = m from hm.symm, h1]
  exact cfg_check_ok h2 (.inr rfl) 2
 have HK2 : Hid (∀ w, dry = true → PS pb k A cw all dry sb sy rest w → Calls Tryz.prog 77 #[.pointer (some ⟨pb, 0, none⟩), .bool (decide (max b (wrap64 (-b)) ≤ wrap64 (Int.tdiv 1099511627776 (max a (wrap64 (-a)))))), .int .i64 2] w fun e w' => e = .returned (.tuple #[]) ∧ w = w') := Lib.hid fun w h1 h2 => cfg_check_ok h2 (.inl h1) 2
 have HK3 : Hid (∀ w, dry = false → m = false → PS pb k A cw all dry sb sy rest w → Calls Tryz.prog 77 #[.pointer (some ⟨pb, 0, none⟩), .bool (decide (max b (wrap64 (-b)) ≤ wrap64 (Int.tdiv 1099511627776 (max a (wrap64 (-a)))))), .int .i64 2] w fun e w' => e = errP 2 ∧ w = w') := Lib.hid fun w h0 h1 h2 => by
  rw [show decide (max b (wrap64 (-b)) ≤ wrap64 (Int.tdiv 1099511627776 (max a (wrap64 (-a))))) = m from hm.symm, h1]
  subst h0
  exact cfg_check_no h2 2
 clear hm
 by_cases hbad : dry = false ∧ m = false
 ·obtain ⟨hd, hmf⟩ := hbad
  obtain rfl : U = .error 2 := HU.out.trans (by rw [operateS, if_neg HO.out.1, if_neg HO.out.2, if_neg (by have := HN.out; omega), if_pos ⟨hd, by rw [← HM.out]; exact hmf⟩])
  have HK4 := Lib.hid (HK3.out W hd hmf HP.out)
  clear hd hmf
  go_enter Tryz.func95, Tryz.ntmps95
  go_wp2_with (go_at_call 77; refine HK4.out.mono ?_; rintro e w2 ⟨rfl, rfl⟩)
  exact ⟨rfl, rfl, rfl⟩
 ·have HK4 : Hid (∀ w, PS pb k A cw all dry sb sy rest w → Calls Tryz.prog 77 #[.pointer (some ⟨pb, 0, none⟩), .bool (decide (max b (wrap64 (-b)) ≤ wrap64 (Int.tdiv 1099511627776 (max a (wrap64 (-a)))))), .int .i64 2] w fun e w' => e = .returned (.tuple #[]) ∧ w = w') := Lib.hid fun w h2 => by
   cases hd : dry with
   | true => subst hd; exact HK2.out w rfl h2
   | false =>
    cases hm : m with
    | true => exact HK.out w hm (hd ▸ h2)
    | false => exact absurd ⟨hd, hm⟩ hbad
  have HE0 : Hid (U = smallS dry (wrap64 (a * b))) := Lib.hid (HU.out.trans (by rw [operateS, if_neg HO.out.1, if_neg HO.out.2, if_neg (by have := HN.out; omega), if_neg (by rw [← HM.out]; exact hbad)]))
  clear hbad HK HK2 HK3 HM
  have HW : Hid (∀ w, Calls Tryz.prog 23 #[.int .i64 (wrap64 (a * b)), .int .i64 (-1099511627776), .int .i64 1099511627776] w fun e w' => e = .returned (.bool (inB (wrap64 (a * b)))) ∧ w = w') := Lib.hid fun w => cfg_within _ _ _ w
  cases ht : inB (wrap64 (a * b)) with
  | true =>
   obtain rfl : U = .ok (wrap64 (a * b)) := HE0.out.trans (smallS_ok (.inr ht))
   rw [ht] at HW
   clear ht HE0 HU
   go_enter Tryz.func95, Tryz.ntmps95
   go_wp2_with (first | (go_at_call 23; refine (HW.out _).mono ?_; rintro e w1 ⟨rfl, rfl⟩) | (go_at_call 77; (with_reducible refine (HK4.out _ HP.out).mono ?_); rintro e w3 ⟨rfl, rfl⟩) | (go_at_call 77; (with_reducible refine (cfg_check_ok HP.out (.inr rfl) _).mono ?_); rintro e w2 ⟨rfl, rfl⟩))
   go_ret
   exact ⟨rfl, rfl⟩
  | false =>
   cases dry with
   | true =>
    obtain rfl : U = .ok (wrap64 (a * b)) := HE0.out.trans (smallS_ok (.inl rfl))
    rw [ht] at HW
    clear ht HE0 HU
    go_enter Tryz.func95, Tryz.ntmps95
    go_wp2_with (first | (go_at_call 23; refine (HW.out _).mono ?_; rintro e w1 ⟨rfl, rfl⟩) | (go_at_call 77; (with_reducible refine (HK4.out _ HP.out).mono ?_); rintro e w3 ⟨rfl, rfl⟩) | (go_at_call 77; (with_reducible refine (cfg_check_ok HP.out (.inl rfl) _).mono ?_); rintro e w2 ⟨rfl, rfl⟩))
    go_ret
    exact ⟨rfl, rfl⟩
   | false =>
    obtain rfl : U = .error 2 := HE0.out.trans (smallS_no rfl ht)
    rw [ht] at HW
    clear ht HE0 HU
    go_enter Tryz.func95, Tryz.ntmps95
    go_wp2_with (first | (go_at_call 23; refine (HW.out _).mono ?_; rintro e w1 ⟨rfl, rfl⟩) | (go_at_call 77; (with_reducible refine (HK4.out _ HP.out).mono ?_); rintro e w3 ⟨rfl, rfl⟩) | (go_at_call 77; (with_reducible refine (cfg_check_no HP.out _).mono ?_); rintro e w2 ⟨rfl, rfl⟩))
    exact ⟨rfl, rfl, rfl⟩
end
end Go.Proofs.YtfimacgmciogmaaGreatDoor
namespace Go.Proofs.YtfimacgmciogmaaGreatDoor
set_option linter.unusedSimpArgs false
set_option linter.unusedVariables false
open Go.RowKit Go.Shelf Go.Sort
theorem own_trunc {w : World} {base : Nat} {e : TypeId} {g n c m : Nat} {xs : List Value} (h : w.ownsRow base e 1 (.slice (some ⟨g, 0, none⟩) n c) n xs) (hm : m ≤ n) : w.ownsRow base e 1 (.slice (some ⟨g, 0, none⟩) m c) m (xs.take m) := by
 obtain ⟨hl, ⟨h0, _⟩ | ⟨g', cap, cur, h0, hb, hg, hn, hc, hs, ht⟩⟩ := h
 ·cases h0
 ·injection h0 with e1 e2 e3
  injection e1 with e1
  injection e1 with e1
  subst e1 e3
  refine ⟨by rw [List.length_take, hl]; omega, .inr ⟨g, c, cur, rfl, hb, hg, by omega, hc, hs, ?_⟩⟩
  rw [← ht, List.take_take]
  congr 1
  omega
theorem own_keepG {w w' : World} {base : Nat} {e : TypeId} {size n : Nat} {v : Value} {xs : List Value} (h : w.ownsRow base e size v n xs) (hb : ∀ g, v.ownBlock = some g → w'.heap[g]? = w.heap[g]?) : w'.ownsRow base e size v n xs := by
 rcases h with ⟨hl, h0 | ⟨g, cap, cur, rfl, hB, hg, rest⟩⟩
 ·exact ⟨hl, .inl h0⟩
 ·exact ⟨hl, .inr ⟨g, cap, cur, rfl, hB, (hb g rfl).trans hg, rest⟩⟩
theorem own_form {w : World} {base : Nat} {e : TypeId} {n c : Nat} {A : Option Addr} {xs : List Value} (h : w.ownsRow base e 1 (.slice A (n + 1) c) (n + 1) xs) : ∃ g, A = some ⟨g, 0, none⟩ ∧ n + 1 ≤ c ∧ base ≤ g ∧ g < w.heap.size := by
 obtain ⟨hl, ⟨h0, _⟩ | ⟨g', cap, cur, h0, hb, hg, hn, hc, hs, ht⟩⟩ := h
 ·cases h0
 ·injection h0 with e1 e2 e3
  exact ⟨g', e1, by omega, hb, lt_of_heap hg⟩
def inI (v : Int) : Prop := -9223372036854775808 ≤ v ∧ v ≤ 9223372036854775807
theorem inI_wrap (v : Int) : inI (wrap64 v) := by unfold inI wrap64; omega
def fldA : Option Addr → Option Nat
 | some a => some a.block
 | none => none
/-- The stacks of an expression, their last elements first. -/
structure SK (stb : Nat) (ops : List (List UInt8)) (vs : List Int) (Av : Option Addr) (cv : Nat) (Ao : Option Addr) (co : Nat) (W : World) : Prop where
 st : W.heap[stb]? = some (.cells #[.slice Av vs.length cv, .slice Ao ops.length co] 138 (0, 0))
 hv : W.ownsRow (stb + 1) 3 1 (.slice Av vs.length cv) vs.length (vs.reverse.map (Value.int .i64))
 ho : W.ownsRow (stb + 1) 9 1 (.slice Ao ops.length co) ops.length (ops.reverse.map strW)
 ne : ∀ g, fldA Av = some g → fldA Ao ≠ some g
 vb : ∀ v ∈ vs, inI v
theorem ownBlock_A (A : Option Addr) (n c : Nat) : (Value.slice A n c).ownBlock = fldA A := by cases A <;> rfl
section
variable {stb : Nat} {ops : List (List UInt8)} {vs : List Int} {Av Ao : Option Addr} {cv co : Nat} {W W' : World}
theorem SK.lt (h : SK stb ops vs Av cv Ao co W) : stb < W.heap.size := lt_of_heap h.st
theorem SK.rows (h : SK stb ops vs Av cv Ao co W) : (∀ g, fldA Av = some g → stb < g ∧ g < W.heap.size) ∧ ∀ g, fldA Ao = some g → stb < g ∧ g < W.heap.size :=
 ⟨fun g e => h.hv.lt g (by rw [ownBlock_A]; exact e), fun g e => h.ho.lt g (by rw [ownBlock_A]; exact e)⟩
/-- What leaves the three blocks alone keeps the stacks. -/
theorem SK.keep (h : SK stb ops vs Av cv Ao co W) (hb : ∀ g, stb ≤ g → g < W.heap.size → W'.heap[g]? = W.heap[g]?) : SK stb ops vs Av cv Ao co W' :=
 ⟨(hb _ (Nat.le_refl _) h.lt).trans h.st, own_keepG h.hv fun g e => by rw [ownBlock_A] at e; have := h.rows.1 g e; exact hb g (by omega) this.2, own_keepG h.ho fun g e => by rw [ownBlock_A] at e; have := h.rows.2 g e; exact hb g (by omega) this.2, h.ne, h.vb⟩
theorem SK.loN {pb : Nat} (h : SK stb ops vs Av cv Ao co W) (hl : LoN pb W W') (hp : pb < stb) : SK stb ops vs Av cv Ao co W' := h.keep fun g h1 h2 => hl.blk g h2 (by simp; omega)
theorem SK.cells (h : SK stb ops vs Av cv Ao co W) : W.cell? ⟨stb, 0, none⟩ = some (.slice Av vs.length cv) ∧ W.cell? ⟨stb, 1, none⟩ = some (.slice Ao ops.length co) ∧ ∀ i, W.frozen? ⟨stb, i, none⟩ = false := two_cells h.st
end
theorem rev_last {α : Type} (x : α) (r : List α) : (x :: r).reverse.take r.length = r.reverse := by
 rw [List.reverse_cons, List.take_left' (by simp)]
section
variable {stb : Nat} {o : List UInt8} {ops : List (List UInt8)} {x y : Int} {vs : List Int} {Av Ao : Option Addr} {cv co : Nat} {W : World}
theorem SK.otop (h : SK stb (o :: ops) vs Av cv Ao co W) : ∃ g, Ao = some ⟨g, 0, none⟩ ∧ ops.length + 1 ≤ co ∧ g ≠ stb ∧ W.cell? ⟨g, ops.length, none⟩ = some (.string ⟨o.toArray⟩) := by
 obtain ⟨g, rfl, h1, h2, h3⟩ := own_form h.ho
 refine ⟨g, rfl, h1, by omega, (h.ho.cellAt ops.length (by simp)).trans ?_⟩
 rw [List.getElem?_map, List.reverse_cons, List.getElem?_append_right (by simp)]
 simp [strW]
theorem SK.vtop (h : SK stb ops (x :: vs) Av cv Ao co W) : ∃ g, Av = some ⟨g, 0, none⟩ ∧ vs.length + 1 ≤ cv ∧ g ≠ stb ∧ W.cell? ⟨g, vs.length, none⟩ = some (.int .i64 x) ∧ (∀ i, W.frozen? ⟨g, i, none⟩ = false) ∧ inI x := by
 obtain ⟨g, rfl, h1, h2, h3⟩ := own_form h.hv
 refine ⟨g, rfl, h1, by omega, (h.hv.cellAt vs.length (by simp)).trans ?_, fun i => h.hv.frozenAt i, h.vb x (by simp)⟩
 rw [List.getElem?_map, List.reverse_cons, List.getElem?_append_right (by simp)]
 simp
theorem SK.vtop2 {g : Nat} (h : SK stb ops (y :: x :: vs) (some ⟨g, 0, none⟩) cv Ao co W) : W.cell? ⟨g, vs.length, none⟩ = some (.int .i64 x) := by
 refine (h.hv.cellAt vs.length (by simp; omega)).trans ?_
 rw [List.getElem?_map, List.reverse_cons, List.reverse_cons, List.append_assoc, List.getElem?_append_right (by simp)]
 simp
/-- The last operation is struck. -/
theorem SK.opop {g : Nat} (h : SK stb (o :: ops) vs Av cv (some ⟨g, 0, none⟩) co W) : SK stb ops vs Av cv (some ⟨g, 0, none⟩) co (W.setCell ⟨stb, 1, none⟩ (.slice (some ⟨g, 0, none⟩) ops.length co)) := by
 have hr := h.rows
 have ho := own_trunc (m := ops.length) h.ho (by simp)
 rw [← List.map_take, rev_last] at ho
 exact ⟨heap_setCell_same _ _ _ _ _ _ h.st, own_setT h.hv (by rw [ownBlock_A]; intro e; have := hr.1 _ e; omega) _, own_setT ho (by rw [ownBlock_A]; intro e; have := hr.2 _ e; omega) _, h.ne, h.vb⟩
/-- The last operand is struck. -/
theorem SK.vpop {g : Nat} (h : SK stb ops (x :: vs) (some ⟨g, 0, none⟩) cv Ao co W) : SK stb ops vs (some ⟨g, 0, none⟩) cv Ao co (W.setCell ⟨stb, 0, none⟩ (.slice (some ⟨g, 0, none⟩) vs.length cv)) := by
 have hr := h.rows
 have ho := own_trunc (m := vs.length) h.hv (by simp)
 rw [← List.map_take, rev_last] at ho
 exact ⟨heap_setCell_same _ _ _ _ _ _ h.st, own_setT ho (by rw [ownBlock_A]; intro e; have := hr.1 _ e; omega) _, own_setT h.ho (by rw [ownBlock_A]; intro e; have := hr.2 _ e; omega) _, h.ne, fun v hv => h.vb v (by simp [hv])⟩
/-- The last operand is turned. -/
theorem SK.vset {g : Nat} (h : SK stb ops (x :: vs) (some ⟨g, 0, none⟩) cv Ao co W) {z : Int} (hz : inI z) : SK stb ops (z :: vs) (some ⟨g, 0, none⟩) cv Ao co (W.setCell ⟨g, vs.length, none⟩ (.int .i64 z)) := by
 have hr := (h.rows.1 g rfl)
 have hs := (h.hv.stored vs.length (.int .i64 z)).1
 refine ⟨(Below.heap_setCell _ _ _ _ (by simp; omega)).trans h.st, ?_, own_setT h.ho (by rw [ownBlock_A]; exact h.ne g rfl) _, h.ne, ?_⟩
 ·have e : ((x :: vs).reverse.map (Value.int .i64)).set vs.length (.int .i64 z) = (z :: vs).reverse.map (Value.int .i64) := by
   rw [List.reverse_cons, List.reverse_cons, List.map_append, List.map_append, List.set_append_right _ _ (by simp)]
   simp
  rw [e] at hs
  exact hs
 ·intro v hv
  rcases List.mem_cons.1 hv with rfl | hv
  ·exact hz
  ·exact h.vb v (by simp [hv])
theorem SK.lo1 (h : SK stb ops vs Av cv Ao co W) (j : Nat) (v : Value) : LoP stb [] W (W.setCell ⟨stb, j, none⟩ v) := LoP.setC h.st (.inr (Nat.le_refl _)) (Nat.le_of_lt h.lt) v
theorem SK.lo2 {g j : Nat} (h : SK stb ops vs (some ⟨g, 0, none⟩) cv Ao co W) (v : Value) : LoP stb [] W (W.setCell ⟨g, j, none⟩ v) := by
 rcases h.hv.2 with ⟨h0, _⟩ | ⟨g', cap, cur, h0, hb, hg, _⟩
 ·cases h0
 ·injection h0 with e1
  injection e1 with e1
  injection e1 with e1
  subst e1
  exact LoP.setC hg (.inr (by omega)) (Nat.le_of_lt h.lt) v
end
/-- The parser lies below the stacks. -/
structure PB (stb pb : Nat) (A : Option Addr) (sb : Nat) : Prop where
 p : pb < stb
 s : sb < stb
 a : ∀ b o s, A = some ⟨b, o, s⟩ → b < stb
section
variable {stb pb : Nat} {k : List Value} {A : Option Addr} {cw : Nat} {all : List (List UInt8)} {dry : Bool} {sb : Nat} {sy : SymS} {rest : List (List UInt8)} {W W' : World}
theorem PS.onB (h : PS pb k A cw all dry sb sy rest W) (hb : PB stb pb A sb) (hl : LoP stb [] W W') : PS pb k A cw all dry sb sy rest W' :=
 ⟨(hl.blk pb hb.p (by simp)).trans h.blk, h.kl, h.suf, rd_blocks h.rd (fun b o s e => hl.blk b (hb.a b o s e) (by simp)), fun b o s e => ⟨(h.aw b o s e).1, Nat.lt_of_lt_of_le (h.aw b o s e).2 hl.size⟩, h.al, h.sk, h.sm.kept (hl.blk sb hb.s (by simp)), h.sn⟩
end
def opLen (stb : Nat) (w : World) : Nat := match w.cell? ⟨stb, 1, none⟩ with | some (.slice _ n _) => n | _ => 0
theorem opLen_of {stb n c : Nat} {A : Option Addr} {w : World} (h : w.cell? ⟨stb, 1, none⟩ = some (.slice A n c)) : opLen stb w = n := by unfold opLen; rw [h]
end Go.Proofs.YtfimacgmciogmaaGreatDoor
