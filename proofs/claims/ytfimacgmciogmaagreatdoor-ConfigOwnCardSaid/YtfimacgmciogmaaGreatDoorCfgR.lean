/-
  config's parser: demand (printed by gen_cfgr.py).
-/
import Derived.Test.YtfimacgmciogmaaGreatDoorPkCfgO
namespace Go.Proofs.YtfimacgmciogmaaGreatDoor
set_option linter.unusedSimpArgs false
set_option linter.unusedVariables false
open Go.RowKit Go.Shelf Go.Sort
theorem PS.kc {pb : Nat} {k : List Value} {A : Option Addr} {cw : Nat} {all : List (List UInt8)} {dry : Bool} {sb : Nat} {sy : SymS} {rest : List (List UInt8)} {W : World} (h : PS pb k A cw all dry sb sy rest W) (j : Nat) (hj : j < 22) : W.cell? ⟨pb, j, none⟩ = k[j]? := (Lib.cell_of_heap h.blk j).trans (pc_k (by have := h.kl; omega))
theorem cells_new (w : World) (xs : List Value) (T : TypeId) : ∀ (j : Nat) (u : Value), xs[j]? = some u → (w.alloc (.cells xs.toArray T)).cell? ((⟨w.heap.size, 0, none⟩ : Addr).add j) = some u := by
 intro j u hj
 rw [Addr.add_lit, Nat.zero_add, Lib.cell_of_heap (heap_alloc_new w _)]
 simpa using hj
theorem demInfo : (Tryz.prog.info? 81).map (fun i => (i.zero, i.size, i.bytes)) = some (some (.agg #[.int .i64 0, .int .i64 0, .int .i64 0, .int .i64 0]), 4, 32) := by kernel_rfl
theorem four_cells {w : World} {g : Nat} {a b c d : Value} {T : TypeId} (h : w.heap[g]? = some (.cells #[a, b, c, d] T (0, 0))) : w.cell? ⟨g, 0, none⟩ = some a ∧ w.cell? ⟨g, 1, none⟩ = some b ∧ w.cell? ⟨g, 2, none⟩ = some c ∧ w.cell? ⟨g, 3, none⟩ = some d :=
 ⟨(Lib.cell_of_heap h 0).trans rfl, (Lib.cell_of_heap h 1).trans rfl, (Lib.cell_of_heap h 2).trans rfl, (Lib.cell_of_heap h 3).trans rfl⟩
def prioS (dry : Bool) (sy : SymS) (ws : List (List UInt8)) : PR Int := match acceptS kPriority ws with | (true, q) => valueS dry sy 0 7 q | (false, q) => .ok (0, q)
def demandS (dry : Bool) (c : Cf) (ws : List (List UInt8)) : Except Int Cf :=
 bindS (endsS dry c.sym ws) fun ab r1 => bindS (expectS kAmount r1) fun _ r2 => bindS (valueS dry c.sym 1 1048576 r2) fun n r3 => bindS (prioS dry c.sym r3) fun p r4 => effS (finP dry false (decide (c.dems.length = 64)) r4) c { c with dems := c.dems ++ [(ab.1, ab.2, n, p)] }
section
variable {B pb sb xb yb : Nat} {r : Rws} {c : Cf} {A : Option Addr} {cw : Nat} {all : List (List UInt8)} {dry : Bool} {rest rest' : List (List UInt8)} {W W' : World}
theorem St.pushD {wv : Value} {i : Nat} {x : Int × Int × Int × Int} {g cap : Nat} {w1 : World} {tmp : Obj} (h : St B pb sb xb yb r c wv i dry W) (hown : w1.ownsRow B 81 4 (.slice (some ⟨g, 0, none⟩) (c.dems.length + 1) cap) (c.dems.length + 1) (c.dems.flatMap dmV ++ dmV x))
  (hg : (W.alloc tmp).grownBy w1 (Value.slice r.aD c.dems.length r.cD).ownBlock) (hat : (Value.slice r.aD c.dems.length r.cD).ownBlock = some g ∨ g = (W.alloc tmp).heap.size) (hlim : c.dems.length < 64) :
  St B pb sb xb yb { r with aD := some ⟨g, 0, none⟩, cD := cap } { c with dems := c.dems ++ [x] } wv i dry (w1.setCell ⟨pb, 7, none⟩ (.slice (some ⟨g, 0, none⟩) (c.dems.length + 1) cap)) ∧ LoM B [pb, sb, xb, yb] W (w1.setCell ⟨pb, 7, none⟩ (.slice (some ⟨g, 0, none⟩) (c.dems.length + 1) cap)) ∧ w1.cell? ⟨pb, 7, none⟩ = some (.slice r.aD c.dems.length r.cD) ∧ w1.frozen? ⟨pb, 7, none⟩ = false := by
 have hr := Rows.push (L1 := [_, _, _, _, _]) (R := ⟨81, 4, r.aD, r.cD, c.dems.length, c.dems.flatMap dmV⟩) h.rows hown hg hat
 refine h.pushG (h.loA h.ownD hg) (r' := { r with aD := some ⟨g, 0, none⟩, cD := cap }) (c' := { c with dems := c.dems ++ [x] }) ?_ (by decide) (by simp [kOf]) rfl rfl rfl ⟨h.lim.names, h.lim.lnames, h.lim.links, h.lim.pfx, h.lim.pols, by simp; omega, h.lim.ov, h.lim.tm, h.lim.giv, h.lim.sy⟩ h.ll
 simpa [rowsOf] using hr
set_option maxHeartbeats 8000000 in
set_option maxRecDepth 100000 in
theorem cfg_demand (h : LS B pb sb xb yb r c A cw all dry rest W) : Calls Tryz.prog 38 #[.pointer (some ⟨pb, 0, none⟩)] W (RetS B pb sb xb yb r c A cw all dry W (demandS dry c rest)) := by
 obtain ⟨j0, hj, hj0, hj1, hj2⟩ := info_parts demInfo
 obtain ⟨V, hV⟩ : ∃ V, V = demandS dry c rest := ⟨_, rfl⟩
 rw [← hV]
 obtain ⟨full, hfu⟩ : ∃ full, full = decide (c.dems.length = 64) := ⟨_, rfl⟩
 have hfi : ((c.dems.length : Int) == 64) = full := by
  rw [hfu]
  by_cases h : c.dems.length = 64
  ·rw [h]; rfl
  ·rw [decide_eq_false h, beq_eq_false_iff_ne]; omega
 simp only [demandS, prioS, kAmount, kPriority] at hV
 rw [← hfu] at hV
 have HV := Lib.hid hV
 have HFU := Lib.hid hfu
 have H0 := Lib.hid h
 have HP := Lib.hid (h.ps.up (below_box W (.cells #[.int .i64 0, .int .i64 0, .int .i64 0, .int .i64 0] 81)))
 have HN : Hid (LoN pb W (W.alloc (.cells #[.int .i64 0, .int .i64 0, .int .i64 0, .int .i64 0] 81))) := Lib.hid (LoN.below (below_box W _))
 have HB : Hid ((W.alloc (.cells #[.int .i64 0, .int .i64 0, .int .i64 0, .int .i64 0] 81)).heap[W.heap.size]? = some (.cells #[.int .i64 0, .int .i64 0, .int .i64 0, .int .i64 0] 81 (0, 0))) := Lib.hid (heap_alloc_new W _)
 have HSY := Lib.hid h.st.lim.sy
 have hne1 : W.heap.size ≠ pb := Nat.ne_of_gt h.ps.lt
 have hne2 : pb ≠ W.heap.size := Nat.ne_of_lt h.ps.lt
 have HNE := Lib.hid hne1
 have nf : ∀ i, (W.alloc (.cells #[.int .i64 0, .int .i64 0, .int .i64 0, .int .i64 0] 81)).frozen? ⟨W.heap.size, i, none⟩ = false := fun i => Lib.frozen_of_heap HB.out i
 obtain ⟨n0, n1, n2, n3⟩ := four_cells HB.out
 clear hV h hfu
 go_enter Tryz.func38, Tryz.ntmps38
 go_wp2_with (first | (go_at_call 61; (first | ((with_reducible refine (cfg_ends HP.out).mono ?_))); (first | (rintro e w1 hr)); (first | (generalize hU : endsS _ _ _ = U at hr HV)); (first | (rcases U with c1 | ⟨⟨a, b⟩, r1⟩)); (first | (focus (obtain ⟨rfl, hl1⟩ := hr; obtain rfl := HV.out; exact ⟨rfl, rfl, (HN.out.trans hl1)⟩))); (first | (obtain ⟨rfl, hp1, hl1⟩ := hr)); (first | (simp only [encII])); (first | (simp only [bindS] at HV)); (first | (skip)); (first | (replace HP := Lib.hid hp1)); (first | (replace HN := Lib.hid (HN.out.trans hl1))); (first | (replace HB := Lib.hid ((hl1.blk W.heap.size (lt_of_heap HB.out) (by simpa using HNE.out)).trans HB.out))); (first | (clear nf n0 n1 n2 n3)); (first | (obtain ⟨n0, n1, n2, n3⟩ := four_cells HB.out)); (first | (have nf : ∀ i, w1.frozen? ⟨W.heap.size, i, none⟩ = false := fun i => Lib.frozen_of_heap HB.out i)); (first | (replace HP := Lib.hid (HP.out.setO (j := 0) H0.out.ps (Nat.le_refl _) (.int .i64 a)))); (first | (replace HN : Hid (LoN pb W _) := Lib.hid (LoP.trans HN.out (LoP.setC (j := 0) HB.out (.inr (Nat.le_refl _)) HN.out.size (.int .i64 a))))); (first | (have HB2 : Hid ((w1.setCell ⟨W.heap.size, 0, none⟩ (.int .i64 a)).heap[W.heap.size]? = some (.cells #[.int .i64 a, .int .i64 0, .int .i64 0, .int .i64 0] 81 (0, 0))) := Lib.hid (heap_setCell_same _ _ 0 _ _ (.int .i64 a) HB.out))); (first | (replace HB := HB2)); (first | (clear HB2)); (first | (replace HP := Lib.hid (HP.out.setO (j := 1) H0.out.ps (Nat.le_refl _) (.int .i64 b)))); (first | (replace HN : Hid (LoN pb W _) := Lib.hid (LoP.trans HN.out (LoP.setC (j := 1) HB.out (.inr (Nat.le_refl _)) HN.out.size (.int .i64 b))))); (first | (have HB2 : Hid (((w1.setCell ⟨W.heap.size, 0, none⟩ (.int .i64 a)).setCell ⟨W.heap.size, 1, none⟩ (.int .i64 b)).heap[W.heap.size]? = some (.cells #[.int .i64 a, .int .i64 b, .int .i64 0, .int .i64 0] 81 (0, 0))) := Lib.hid (heap_setCell_same _ _ 1 _ _ (.int .i64 b) HB.out))); (first | (replace HB := HB2)); (first | (clear HB2)); (first | (clear hp1 hl1 hU))) | (go_at_call 65; (first | ((with_reducible refine (cfg_expect HP.out _ (by decide)).mono ?_))); (first | (rintro e w1 hr)); (first | (generalize hU : expectS _ _ = U at hr HV)); (first | (rcases U with c1 | ⟨v1, r1⟩)); (first | (focus (obtain ⟨rfl, hl1⟩ := hr; obtain rfl := HV.out; exact ⟨rfl, rfl, (HN.out.trans hl1)⟩))); (first | (obtain ⟨rfl, hp1, hl1⟩ := hr)); (first | (skip)); (first | (simp only [bindS] at HV)); (first | (skip)); (first | (replace HP := Lib.hid hp1)); (first | (replace HN := Lib.hid (HN.out.trans hl1))); (first | (replace HB := Lib.hid ((hl1.blk W.heap.size (lt_of_heap HB.out) (by simpa using HNE.out)).trans HB.out))); (first | (clear hp1 hl1 hU))) | (go_at_call 64; (first | ((with_reducible refine (cfg_value HP.out HSY.out 1 1048576).mono ?_))); (first | (rintro e w1 hr)); (first | (generalize hU : valueS _ _ 1 1048576 _ = U at hr HV)); (first | (rcases U with c1 | ⟨n, r1⟩)); (first | (focus (obtain ⟨rfl, hl1⟩ := hr; obtain rfl := HV.out; exact ⟨rfl, rfl, (HN.out.trans hl1)⟩))); (first | (obtain ⟨rfl, hp1, hl1⟩ := hr)); (first | (simp only [encI])); (first | (simp only [bindS] at HV)); (first | (skip)); (first | (replace HP := Lib.hid hp1)); (first | (replace HN := Lib.hid (HN.out.trans hl1))); (first | (replace HB := Lib.hid ((hl1.blk W.heap.size (lt_of_heap HB.out) (by simpa using HNE.out)).trans HB.out))); (first | (clear nf n0 n1 n2 n3)); (first | (obtain ⟨n0, n1, n2, n3⟩ := four_cells HB.out)); (first | (have nf : ∀ i, w1.frozen? ⟨W.heap.size, i, none⟩ = false := fun i => Lib.frozen_of_heap HB.out i)); (first | (replace HP := Lib.hid (HP.out.setO (j := 2) H0.out.ps (Nat.le_refl _) (.int .i64 n)))); (first | (replace HN : Hid (LoN pb W _) := Lib.hid (LoP.trans HN.out (LoP.setC (j := 2) HB.out (.inr (Nat.le_refl _)) HN.out.size (.int .i64 n))))); (first | (have HB2 : Hid ((w1.setCell ⟨W.heap.size, 2, none⟩ (.int .i64 n)).heap[W.heap.size]? = some (.cells #[.int .i64 a, .int .i64 b, .int .i64 n, .int .i64 0] 81 (0, 0))) := Lib.hid (heap_setCell_same _ _ 2 _ _ (.int .i64 n) HB.out))); (first | (replace HB := HB2)); (first | (clear HB2)); (first | (clear hp1 hl1 hU))) | (go_at_call 64; (first | ((with_reducible refine (cfg_value HP.out HSY.out 0 7).mono ?_))); (first | (rintro e w1 hr)); (first | (generalize hU : valueS _ _ 0 7 _ = U at hr HV)); (first | (rcases U with c1 | ⟨p, r1⟩)); (first | (focus (obtain ⟨rfl, hl1⟩ := hr; obtain rfl := HV.out; exact ⟨rfl, rfl, (HN.out.trans hl1)⟩))); (first | (obtain ⟨rfl, hp1, hl1⟩ := hr)); (first | (simp only [encI])); (first | (simp only [bindS] at HV)); (first | (skip)); (first | (replace HP := Lib.hid hp1)); (first | (replace HN := Lib.hid (HN.out.trans hl1))); (first | (replace HB := Lib.hid ((hl1.blk W.heap.size (lt_of_heap HB.out) (by simpa using HNE.out)).trans HB.out))); (first | (clear nf n0 n1 n2 n3)); (first | (obtain ⟨n0, n1, n2, n3⟩ := four_cells HB.out)); (first | (have nf : ∀ i, w1.frozen? ⟨W.heap.size, i, none⟩ = false := fun i => Lib.frozen_of_heap HB.out i)); (first | (clear b7)); (first | (have b7 : w1.cell? ⟨pb, 7, none⟩ = some (.slice r.aD c.dems.length r.cD) := hp1.kc 7 (by decide))); (first | (replace HP := Lib.hid (HP.out.setO (j := 3) H0.out.ps (Nat.le_refl _) (.int .i64 p)))); (first | (replace HN : Hid (LoN pb W _) := Lib.hid (LoP.trans HN.out (LoP.setC (j := 3) HB.out (.inr (Nat.le_refl _)) HN.out.size (.int .i64 p))))); (first | (have HB2 : Hid ((w1.setCell ⟨W.heap.size, 3, none⟩ (.int .i64 p)).heap[W.heap.size]? = some (.cells #[.int .i64 a, .int .i64 b, .int .i64 n, .int .i64 p] 81 (0, 0))) := Lib.hid (heap_setCell_same _ _ 3 _ _ (.int .i64 p) HB.out))); (first | (replace HB := HB2)); (first | (clear HB2)); (first | (clear hp1 hl1 hU))) | (go_at_call 58; (first | ((with_reducible refine (cfg_accept HP.out _ (by decide)).mono ?_))); (first | (rintro e w1 hr)); (first | (generalize hU : acceptS _ _ = U at hr HV)); (first | (obtain ⟨o, q⟩ := U)); (first | (obtain ⟨rfl, hp1, hl1⟩ := hr)); (first | (replace HP := Lib.hid hp1)); (first | (replace HN := Lib.hid (HN.out.trans hl1))); (first | (replace HB := Lib.hid ((hl1.blk W.heap.size (lt_of_heap HB.out) (by simpa using HNE.out)).trans HB.out))); (first | (have b7 : w1.cell? ⟨pb, 7, none⟩ = some (.slice r.aD c.dems.length r.cD) := hp1.kc 7 (by decide))); (first | (clear hp1 hl1 hU)); (first | (cases o <;> simp only [bindS] at HV))) | (go_at_call 59; (first | ((with_reducible refine (cfg_finish HP.out _ _).mono ?_))); (first | (rintro e w4 hr)); (first | (generalize hU : finP _ _ _ _ = U at hr HV)); (first | (rcases U with c1 | ⟨eff, r1⟩)); (first | (focus (obtain ⟨rfl, hl1⟩ := hr; obtain rfl := HV.out; exact ⟨rfl, rfl, (HN.out.trans hl1)⟩))); (first | (obtain ⟨rfl, hp1, hl1⟩ := hr)); (first | (simp only [encB])); (first | (replace HP := Lib.hid hp1)); (first | (replace HN := Lib.hid (HN.out.trans hl1))); (first | (replace HB := Lib.hid ((hl1.blk W.heap.size (lt_of_heap HB.out) (by simpa using HNE.out)).trans HB.out))); (first | (clear hp1 hl1)); (first | (cases eff)); (first | (focus (have HDR := Lib.hid (finP_false hU).1; clear hU))); (first | (rotate_left)); (first | ((have HDR := Lib.hid (finP_true hU).1; have HLM : Hid (c.dems.length < 64) := Lib.hid (by have a := H0.out.st.lim.dems; have b := HFU.out; rw [(finP_true hU).2.2.1] at b; have := of_decide_eq_false b.symm; omega); clear hU))); (first | (rotate_left))))
 ·go_end0
  obtain rfl := HV.out
  exact ⟨rfl, HN.out.toM H0.out.st.sz (by simp), _, _, (H0.out.read HP.out HN.out).st, (fun _ => ⟨rfl, rfl, HN.out⟩), rfl⟩
 ·have H4 := Lib.hid ((H0.out.read HP.out HN.out).up (below_drw2 _)).st
  have HM4 : Hid (LoM B [pb, sb, xb, yb] W w4.drew) := Lib.hid ((HN.out.trans (LoN.below (below_drw2 w4))).toM H0.out.st.sz (by simp))
  have b7 : w4.cell? ⟨pb, 7, none⟩ = some (.slice r.aD c.dems.length r.cD) := HP.out.kc 7 (by decide)
  clear nf n0 n1 n2 n3
  obtain ⟨n0, n1, n2, n3⟩ := four_cells HB.out
  refine wp_region_held_drew (S := (fun _ => True)) (by kernel_rfl) ?_ (fun hHeld => ?_)
  ·exact trivial
  (refine takeL (i := 0) (v := ?_) rfl (by kernel_rfl) (by decide +kernel) (by decide +kernel) (fun _ _ _ h => h) (Or.inl ⟨by rfl, ?_⟩) (by assumption) ?_; rotate_left; (focus (intro w9 hS9; (try dsimp only at hS9); go_simp; (try with_reducible rfl); done)))
  (try simp only [Act.put, List.setIfInBounds_toArray, List.set_cons_zero, List.set_cons_succ])
  (refine takeL (i := 1) (v := ?_) rfl (by kernel_rfl) (by decide +kernel) (by decide +kernel) (fun _ _ _ h => h) (Or.inl ⟨by rfl, ?_⟩) (by assumption) ?_; rotate_left; (focus (intro w9 hS9; (try dsimp only at hS9); go_simp; (try with_reducible rfl); done)))
  (try simp only [Act.put, List.setIfInBounds_toArray, List.set_cons_zero, List.set_cons_succ])
  (refine takeL (i := 2) (v := ?_) rfl (by kernel_rfl) (by decide +kernel) (by decide +kernel) (fun _ _ _ h => h) (Or.inl ⟨by rfl, ?_⟩) (by assumption) ?_; rotate_left; (focus (intro w9 hS9; (try dsimp only at hS9); go_simp; (try with_reducible rfl); done)))
  (try simp only [Act.put, List.setIfInBounds_toArray, List.set_cons_zero, List.set_cons_succ])
  (refine takeL (i := 3) (v := ?_) rfl (by kernel_rfl) (by decide +kernel) (by decide +kernel) (fun _ _ _ h => h) (Or.inl ⟨by rfl, ?_⟩) (by assumption) ?_; rotate_left; (focus (intro w9 hS9; (try dsimp only at hS9); go_simp; (try with_reducible rfl); done)))
  (try simp only [Act.put, List.setIfInBounds_toArray, List.set_cons_zero, List.set_cons_succ])
  (refine takeL (i := 4) (v := ?_) rfl (by kernel_rfl) (by decide +kernel) (by decide +kernel) (fun _ _ _ h => h) (Or.inl ⟨by rfl, ?_⟩) (by assumption) ?_; rotate_left; (focus (intro w9 hS9; (try dsimp only at hS9); go_simp; (try with_reducible rfl); done)))
  (try simp only [Act.put, List.setIfInBounds_toArray, List.set_cons_zero, List.set_cons_succ])
  refine wpAnyH_ready (rs := [5, 6]) (by decide +kernel) (by simp) ?_
  refine consL rfl (fun K hK => ?_) ?_
  ·(first | fail | (go_simp; first | done | (first | fail)) | go_simp)
   (first | (with_reducible refine hK.out _ _ ?_ ?_) | (go_wp2_with fail; refine hK.out _ _ ?_ ?_))
   (focus (exact trivial))
   clear hK K hHeld
   intro hHeld
   (try simp only [Act.put, List.setIfInBounds_toArray, List.set_cons_zero, List.set_cons_succ])
   refine wpAnyH_ready (rs := [6]) (by decide +kernel) (by simp) ?_
   refine consL rfl (fun K hK => ?_) ?_
   ·(first | fail | (go_simp; first | done | (first | fail)) | go_simp)
    (first | (with_reducible refine hK.out _ _ ?_ ?_) | (go_wp2_with fail; refine hK.out _ _ ?_ ?_))
    (focus (exact trivial))
    clear hK K hHeld
    intro hHeld
    (try simp only [Act.put, List.setIfInBounds_toArray, List.set_cons_zero, List.set_cons_succ])
    refine wpAnyH_ready (rs := [7]) (by decide +kernel) (by simp) ?_
    refine consL rfl (fun K hK => ?_) ?_
    ·(first | fail | (go_simp; first | done | (first | fail)) | go_simp)
     (first | (with_reducible refine hK.out _ _ ?_ ?_) | (go_wp2_with fail; refine hK.out _ _ ?_ ?_))
     (focus (exact trivial))
     clear hK K hHeld
     intro hHeld
     (try simp only [Act.put, List.setIfInBounds_toArray, List.set_cons_zero, List.set_cons_succ])
     refine wpAnyH_ready (rs := [8]) (by decide +kernel) (by simp) ?_
     refine consL rfl (fun K hK => ?_) ?_
     ·(first | (refine step_append_lies _ rfl _ _ 30 rfl B 81 j0 (.agg #[.int .i64 0, .int .i64 0, .int .i64 0, .int .i64 0]) 4 32 Tryz.underlying30 hj hj0 hj1 hj2 rfl (by decide) _ _ _ rfl (H4.out.ownD.alloc _) ⟨_, 0, none⟩ 1 1 (dmV (a, b, n, 0)) rfl rfl (cells_new _ (dmV (a, b, n, 0)) _) (by intro u hu; simp only [dmV, List.mem_cons, List.not_mem_nil, or_false] at hu; rcases hu with rfl | rfl | rfl | rfl <;> rfl) (by decide) (by have := HLM.out; unfold maxLen; omega) (by have := HLM.out; omega) (Nat.le_trans H4.out.sz (by simp)) _ rfl ?_; intro gg cap W9 ap1 ap2 ap3 ap4; obtain ⟨p1, p2, p3, p4⟩ := H4.out.pushD (x := (a, b, n, 0)) ap1 ap2 ap3 HLM.out; have P1 := Lib.hid p1; have P2 := Lib.hid p2; clear p1 p2 ap1 ap2 ap3 ap4) | (go_simp; first | done | (first | (refine step_append_lies _ rfl _ _ 30 rfl B 81 j0 (.agg #[.int .i64 0, .int .i64 0, .int .i64 0, .int .i64 0]) 4 32 Tryz.underlying30 hj hj0 hj1 hj2 rfl (by decide) _ _ _ rfl (H4.out.ownD.alloc _) ⟨_, 0, none⟩ 1 1 (dmV (a, b, n, 0)) rfl rfl (cells_new _ (dmV (a, b, n, 0)) _) (by intro u hu; simp only [dmV, List.mem_cons, List.not_mem_nil, or_false] at hu; rcases hu with rfl | rfl | rfl | rfl <;> rfl) (by decide) (by have := HLM.out; unfold maxLen; omega) (by have := HLM.out; omega) (Nat.le_trans H4.out.sz (by simp)) _ rfl ?_; intro gg cap W9 ap1 ap2 ap3 ap4; obtain ⟨p1, p2, p3, p4⟩ := H4.out.pushD (x := (a, b, n, 0)) ap1 ap2 ap3 HLM.out; have P1 := Lib.hid p1; have P2 := Lib.hid p2; clear p1 p2 ap1 ap2 ap3 ap4))) | go_simp)
      (first | (with_reducible refine hK.out _ _ ?_ ?_) | (go_wp2_with fail; refine hK.out _ _ ?_ ?_))
      (focus (exact trivial))
      clear hK K hHeld
      intro hHeld
      (try simp only [Act.put, List.setIfInBounds_toArray, List.set_cons_zero, List.set_cons_succ])
      (refine takeL (i := 9) (v := ?_) rfl (by kernel_rfl) (by decide +kernel) (by decide +kernel) (fun _ _ _ h => h) (Or.inl ⟨by rfl, ?_⟩) (by assumption) ?_; rotate_left; (focus (intro w9 hS9; (try dsimp only at hS9); go_simp; (try with_reducible rfl); done)))
      (try simp only [Act.put, List.setIfInBounds_toArray, List.set_cons_zero, List.set_cons_succ])
      (refine takeL (i := 10) (v := ?_) rfl (by kernel_rfl) (by decide +kernel) (by decide +kernel) (fun _ _ _ h => h) (Or.inl ⟨by rfl, ?_⟩) (by assumption) ?_; rotate_left; (focus (intro w9 hS9; (try dsimp only at hS9); go_simp; (try with_reducible rfl); done)))
      (try simp only [Act.put, List.setIfInBounds_toArray, List.set_cons_zero, List.set_cons_succ])
      (refine takeL (i := 11) (v := ?_) rfl (by kernel_rfl) (by decide +kernel) (by decide +kernel) (fun _ _ _ h => h) (Or.inl ⟨by rfl, ?_⟩) (by assumption) ?_; rotate_left; (focus (intro w9 hS9; (try dsimp only at hS9); go_simp; (try with_reducible rfl); done)))
      (try simp only [Act.put, List.setIfInBounds_toArray, List.set_cons_zero, List.set_cons_succ])
      refine wpAnyH_ready (rs := [12]) (by decide +kernel) (by simp) ?_
      refine consL rfl (fun K hK => ?_) ?_
      ·(first | fail | (go_simp; first | done | (first | fail)) | go_simp)
       (first | (with_reducible refine hK.out _ _ ?_ ?_) | (go_wp2_with fail; refine hK.out _ _ ?_ ?_))
       (focus (exact trivial))
       clear hK K hHeld
       intro hHeld
       (try simp only [Act.put, List.setIfInBounds_toArray, List.set_cons_zero, List.set_cons_succ])
       refine wpAnyH_done (by decide +kernel) ?_ _
       go_wp2_with fail
       go_end0
       obtain rfl := HV.out
       exact ⟨rfl, HM4.out.trans P2.out, _, _, P1.out, (fun h => by rw [HDR.out] at h; cases h), rfl⟩
      exact AllReadyH.nil
     exact AllReadyH.nil
    exact AllReadyH.nil
   exact AllReadyH.nil
  refine consL rfl (fun K hK => ?_) ?_
  ·(first | fail | (go_simp; first | done | (first | fail)) | go_simp)
   (first | (with_reducible refine hK.out _ _ ?_ ?_) | (go_wp2_with fail; refine hK.out _ _ ?_ ?_))
   (focus (exact trivial))
   clear hK K hHeld
   intro hHeld
   (try simp only [Act.put, List.setIfInBounds_toArray, List.set_cons_zero, List.set_cons_succ])
   refine wpAnyH_ready (rs := [5, 7]) (by decide +kernel) (by simp) ?_
   refine consL rfl (fun K hK => ?_) ?_
   ·(first | fail | (go_simp; first | done | (first | fail)) | go_simp)
    (first | (with_reducible refine hK.out _ _ ?_ ?_) | (go_wp2_with fail; refine hK.out _ _ ?_ ?_))
    (focus (exact trivial))
    clear hK K hHeld
    intro hHeld
    (try simp only [Act.put, List.setIfInBounds_toArray, List.set_cons_zero, List.set_cons_succ])
    refine wpAnyH_ready (rs := [7]) (by decide +kernel) (by simp) ?_
    refine consL rfl (fun K hK => ?_) ?_
    ·(first | fail | (go_simp; first | done | (first | fail)) | go_simp)
     (first | (with_reducible refine hK.out _ _ ?_ ?_) | (go_wp2_with fail; refine hK.out _ _ ?_ ?_))
     (focus (exact trivial))
     clear hK K hHeld
     intro hHeld
     (try simp only [Act.put, List.setIfInBounds_toArray, List.set_cons_zero, List.set_cons_succ])
     refine wpAnyH_ready (rs := [8]) (by decide +kernel) (by simp) ?_
     refine consL rfl (fun K hK => ?_) ?_
     ·(first | (refine step_append_lies _ rfl _ _ 30 rfl B 81 j0 (.agg #[.int .i64 0, .int .i64 0, .int .i64 0, .int .i64 0]) 4 32 Tryz.underlying30 hj hj0 hj1 hj2 rfl (by decide) _ _ _ rfl (H4.out.ownD.alloc _) ⟨_, 0, none⟩ 1 1 (dmV (a, b, n, 0)) rfl rfl (cells_new _ (dmV (a, b, n, 0)) _) (by intro u hu; simp only [dmV, List.mem_cons, List.not_mem_nil, or_false] at hu; rcases hu with rfl | rfl | rfl | rfl <;> rfl) (by decide) (by have := HLM.out; unfold maxLen; omega) (by have := HLM.out; omega) (Nat.le_trans H4.out.sz (by simp)) _ rfl ?_; intro gg cap W9 ap1 ap2 ap3 ap4; obtain ⟨p1, p2, p3, p4⟩ := H4.out.pushD (x := (a, b, n, 0)) ap1 ap2 ap3 HLM.out; have P1 := Lib.hid p1; have P2 := Lib.hid p2; clear p1 p2 ap1 ap2 ap3 ap4) | (go_simp; first | done | (first | (refine step_append_lies _ rfl _ _ 30 rfl B 81 j0 (.agg #[.int .i64 0, .int .i64 0, .int .i64 0, .int .i64 0]) 4 32 Tryz.underlying30 hj hj0 hj1 hj2 rfl (by decide) _ _ _ rfl (H4.out.ownD.alloc _) ⟨_, 0, none⟩ 1 1 (dmV (a, b, n, 0)) rfl rfl (cells_new _ (dmV (a, b, n, 0)) _) (by intro u hu; simp only [dmV, List.mem_cons, List.not_mem_nil, or_false] at hu; rcases hu with rfl | rfl | rfl | rfl <;> rfl) (by decide) (by have := HLM.out; unfold maxLen; omega) (by have := HLM.out; omega) (Nat.le_trans H4.out.sz (by simp)) _ rfl ?_; intro gg cap W9 ap1 ap2 ap3 ap4; obtain ⟨p1, p2, p3, p4⟩ := H4.out.pushD (x := (a, b, n, 0)) ap1 ap2 ap3 HLM.out; have P1 := Lib.hid p1; have P2 := Lib.hid p2; clear p1 p2 ap1 ap2 ap3 ap4))) | go_simp)
      (first | (with_reducible refine hK.out _ _ ?_ ?_) | (go_wp2_with fail; refine hK.out _ _ ?_ ?_))
      (focus (exact trivial))
      clear hK K hHeld
      intro hHeld
      (try simp only [Act.put, List.setIfInBounds_toArray, List.set_cons_zero, List.set_cons_succ])
      (refine takeL (i := 9) (v := ?_) rfl (by kernel_rfl) (by decide +kernel) (by decide +kernel) (fun _ _ _ h => h) (Or.inl ⟨by rfl, ?_⟩) (by assumption) ?_; rotate_left; (focus (intro w9 hS9; (try dsimp only at hS9); go_simp; (try with_reducible rfl); done)))
      (try simp only [Act.put, List.setIfInBounds_toArray, List.set_cons_zero, List.set_cons_succ])
      (refine takeL (i := 10) (v := ?_) rfl (by kernel_rfl) (by decide +kernel) (by decide +kernel) (fun _ _ _ h => h) (Or.inl ⟨by rfl, ?_⟩) (by assumption) ?_; rotate_left; (focus (intro w9 hS9; (try dsimp only at hS9); go_simp; (try with_reducible rfl); done)))
      (try simp only [Act.put, List.setIfInBounds_toArray, List.set_cons_zero, List.set_cons_succ])
      (refine takeL (i := 11) (v := ?_) rfl (by kernel_rfl) (by decide +kernel) (by decide +kernel) (fun _ _ _ h => h) (Or.inl ⟨by rfl, ?_⟩) (by assumption) ?_; rotate_left; (focus (intro w9 hS9; (try dsimp only at hS9); go_simp; (try with_reducible rfl); done)))
      (try simp only [Act.put, List.setIfInBounds_toArray, List.set_cons_zero, List.set_cons_succ])
      refine wpAnyH_ready (rs := [12]) (by decide +kernel) (by simp) ?_
      refine consL rfl (fun K hK => ?_) ?_
      ·(first | fail | (go_simp; first | done | (first | fail)) | go_simp)
       (first | (with_reducible refine hK.out _ _ ?_ ?_) | (go_wp2_with fail; refine hK.out _ _ ?_ ?_))
       (focus (exact trivial))
       clear hK K hHeld
       intro hHeld
       (try simp only [Act.put, List.setIfInBounds_toArray, List.set_cons_zero, List.set_cons_succ])
       refine wpAnyH_done (by decide +kernel) ?_ _
       go_wp2_with fail
       go_end0
       obtain rfl := HV.out
       exact ⟨rfl, HM4.out.trans P2.out, _, _, P1.out, (fun h => by rw [HDR.out] at h; cases h), rfl⟩
      exact AllReadyH.nil
     exact AllReadyH.nil
    exact AllReadyH.nil
   refine consL rfl (fun K hK => ?_) ?_
   ·(first | fail | (go_simp; first | done | (first | fail)) | go_simp)
    (first | (with_reducible refine hK.out _ _ ?_ ?_) | (go_wp2_with fail; refine hK.out _ _ ?_ ?_))
    (focus (exact trivial))
    clear hK K hHeld
    intro hHeld
    (try simp only [Act.put, List.setIfInBounds_toArray, List.set_cons_zero, List.set_cons_succ])
    have e7 := cell_up (below_box w4 (.cells (dmV (a, b, n, 0)).toArray 81)) b7
    simp only [dmV] at e7
    refine wpAnyH_ready (rs := [5]) (by decide +kernel) (by simp) ?_
    refine consL rfl (fun K hK => ?_) ?_
    ·(first | fail | (go_simp; first | done | (first | fail)) | go_simp)
     (first | (with_reducible refine hK.out _ _ ?_ ?_) | (go_wp2_with fail; refine hK.out _ _ ?_ ?_))
     (focus (exact trivial))
     clear hK K hHeld
     intro hHeld
     (try simp only [Act.put, List.setIfInBounds_toArray, List.set_cons_zero, List.set_cons_succ])
     refine wpAnyH_ready (rs := [8]) (by decide +kernel) (by simp) ?_
     refine consL rfl (fun K hK => ?_) ?_
     ·(first | (refine step_append_lies _ rfl _ _ 30 rfl B 81 j0 (.agg #[.int .i64 0, .int .i64 0, .int .i64 0, .int .i64 0]) 4 32 Tryz.underlying30 hj hj0 hj1 hj2 rfl (by decide) _ _ _ rfl (H4.out.ownD.alloc _) ⟨_, 0, none⟩ 1 1 (dmV (a, b, n, 0)) rfl rfl (cells_new _ (dmV (a, b, n, 0)) _) (by intro u hu; simp only [dmV, List.mem_cons, List.not_mem_nil, or_false] at hu; rcases hu with rfl | rfl | rfl | rfl <;> rfl) (by decide) (by have := HLM.out; unfold maxLen; omega) (by have := HLM.out; omega) (Nat.le_trans H4.out.sz (by simp)) _ rfl ?_; intro gg cap W9 ap1 ap2 ap3 ap4; obtain ⟨p1, p2, p3, p4⟩ := H4.out.pushD (x := (a, b, n, 0)) ap1 ap2 ap3 HLM.out; have P1 := Lib.hid p1; have P2 := Lib.hid p2; clear p1 p2 ap1 ap2 ap3 ap4) | (go_simp; first | done | (first | (refine step_append_lies _ rfl _ _ 30 rfl B 81 j0 (.agg #[.int .i64 0, .int .i64 0, .int .i64 0, .int .i64 0]) 4 32 Tryz.underlying30 hj hj0 hj1 hj2 rfl (by decide) _ _ _ rfl (H4.out.ownD.alloc _) ⟨_, 0, none⟩ 1 1 (dmV (a, b, n, 0)) rfl rfl (cells_new _ (dmV (a, b, n, 0)) _) (by intro u hu; simp only [dmV, List.mem_cons, List.not_mem_nil, or_false] at hu; rcases hu with rfl | rfl | rfl | rfl <;> rfl) (by decide) (by have := HLM.out; unfold maxLen; omega) (by have := HLM.out; omega) (Nat.le_trans H4.out.sz (by simp)) _ rfl ?_; intro gg cap W9 ap1 ap2 ap3 ap4; obtain ⟨p1, p2, p3, p4⟩ := H4.out.pushD (x := (a, b, n, 0)) ap1 ap2 ap3 HLM.out; have P1 := Lib.hid p1; have P2 := Lib.hid p2; clear p1 p2 ap1 ap2 ap3 ap4))) | go_simp)
      (first | (with_reducible refine hK.out _ _ ?_ ?_) | (go_wp2_with fail; refine hK.out _ _ ?_ ?_))
      (focus (exact trivial))
      clear hK K hHeld
      intro hHeld
      (try simp only [Act.put, List.setIfInBounds_toArray, List.set_cons_zero, List.set_cons_succ])
      (refine takeL (i := 9) (v := ?_) rfl (by kernel_rfl) (by decide +kernel) (by decide +kernel) (fun _ _ _ h => h) (Or.inl ⟨by rfl, ?_⟩) (by assumption) ?_; rotate_left; (focus (intro w9 hS9; (try dsimp only at hS9); go_simp; (try with_reducible rfl); done)))
      (try simp only [Act.put, List.setIfInBounds_toArray, List.set_cons_zero, List.set_cons_succ])
      (refine takeL (i := 10) (v := ?_) rfl (by kernel_rfl) (by decide +kernel) (by decide +kernel) (fun _ _ _ h => h) (Or.inl ⟨by rfl, ?_⟩) (by assumption) ?_; rotate_left; (focus (intro w9 hS9; (try dsimp only at hS9); go_simp; (try with_reducible rfl); done)))
      (try simp only [Act.put, List.setIfInBounds_toArray, List.set_cons_zero, List.set_cons_succ])
      (refine takeL (i := 11) (v := ?_) rfl (by kernel_rfl) (by decide +kernel) (by decide +kernel) (fun _ _ _ h => h) (Or.inl ⟨by rfl, ?_⟩) (by assumption) ?_; rotate_left; (focus (intro w9 hS9; (try dsimp only at hS9); go_simp; (try with_reducible rfl); done)))
      (try simp only [Act.put, List.setIfInBounds_toArray, List.set_cons_zero, List.set_cons_succ])
      refine wpAnyH_ready (rs := [12]) (by decide +kernel) (by simp) ?_
      refine consL rfl (fun K hK => ?_) ?_
      ·(first | fail | (go_simp; first | done | (first | fail)) | go_simp)
       (first | (with_reducible refine hK.out _ _ ?_ ?_) | (go_wp2_with fail; refine hK.out _ _ ?_ ?_))
       (focus (exact trivial))
       clear hK K hHeld
       intro hHeld
       (try simp only [Act.put, List.setIfInBounds_toArray, List.set_cons_zero, List.set_cons_succ])
       refine wpAnyH_done (by decide +kernel) ?_ _
       go_wp2_with fail
       go_end0
       obtain rfl := HV.out
       exact ⟨rfl, HM4.out.trans P2.out, _, _, P1.out, (fun h => by rw [HDR.out] at h; cases h), rfl⟩
      exact AllReadyH.nil
     exact AllReadyH.nil
    exact AllReadyH.nil
   exact AllReadyH.nil
  exact AllReadyH.nil
 ·go_end0
  obtain rfl := HV.out
  exact ⟨rfl, HN.out.toM H0.out.st.sz (by simp), _, _, (H0.out.read HP.out HN.out).st, (fun _ => ⟨rfl, rfl, HN.out⟩), rfl⟩
 ·have H4 := Lib.hid ((H0.out.read HP.out HN.out).up (below_drw2 _)).st
  have HM4 : Hid (LoM B [pb, sb, xb, yb] W w4.drew) := Lib.hid ((HN.out.trans (LoN.below (below_drw2 w4))).toM H0.out.st.sz (by simp))
  have b7 : w4.cell? ⟨pb, 7, none⟩ = some (.slice r.aD c.dems.length r.cD) := HP.out.kc 7 (by decide)
  clear nf n0 n1 n2 n3
  obtain ⟨n0, n1, n2, n3⟩ := four_cells HB.out
  refine wp_region_held_drew (S := (fun _ => True)) (by kernel_rfl) ?_ (fun hHeld => ?_)
  ·exact trivial
  (refine takeL (i := 0) (v := ?_) rfl (by kernel_rfl) (by decide +kernel) (by decide +kernel) (fun _ _ _ h => h) (Or.inl ⟨by rfl, ?_⟩) (by assumption) ?_; rotate_left; (focus (intro w9 hS9; (try dsimp only at hS9); go_simp; (try with_reducible rfl); done)))
  (try simp only [Act.put, List.setIfInBounds_toArray, List.set_cons_zero, List.set_cons_succ])
  (refine takeL (i := 1) (v := ?_) rfl (by kernel_rfl) (by decide +kernel) (by decide +kernel) (fun _ _ _ h => h) (Or.inl ⟨by rfl, ?_⟩) (by assumption) ?_; rotate_left; (focus (intro w9 hS9; (try dsimp only at hS9); go_simp; (try with_reducible rfl); done)))
  (try simp only [Act.put, List.setIfInBounds_toArray, List.set_cons_zero, List.set_cons_succ])
  (refine takeL (i := 2) (v := ?_) rfl (by kernel_rfl) (by decide +kernel) (by decide +kernel) (fun _ _ _ h => h) (Or.inl ⟨by rfl, ?_⟩) (by assumption) ?_; rotate_left; (focus (intro w9 hS9; (try dsimp only at hS9); go_simp; (try with_reducible rfl); done)))
  (try simp only [Act.put, List.setIfInBounds_toArray, List.set_cons_zero, List.set_cons_succ])
  (refine takeL (i := 3) (v := ?_) rfl (by kernel_rfl) (by decide +kernel) (by decide +kernel) (fun _ _ _ h => h) (Or.inl ⟨by rfl, ?_⟩) (by assumption) ?_; rotate_left; (focus (intro w9 hS9; (try dsimp only at hS9); go_simp; (try with_reducible rfl); done)))
  (try simp only [Act.put, List.setIfInBounds_toArray, List.set_cons_zero, List.set_cons_succ])
  (refine takeL (i := 4) (v := ?_) rfl (by kernel_rfl) (by decide +kernel) (by decide +kernel) (fun _ _ _ h => h) (Or.inl ⟨by rfl, ?_⟩) (by assumption) ?_; rotate_left; (focus (intro w9 hS9; (try dsimp only at hS9); go_simp; (try with_reducible rfl); done)))
  (try simp only [Act.put, List.setIfInBounds_toArray, List.set_cons_zero, List.set_cons_succ])
  refine wpAnyH_ready (rs := [5, 6]) (by decide +kernel) (by simp) ?_
  refine consL rfl (fun K hK => ?_) ?_
  ·(first | fail | (go_simp; first | done | (first | fail)) | go_simp)
   (first | (with_reducible refine hK.out _ _ ?_ ?_) | (go_wp2_with fail; refine hK.out _ _ ?_ ?_))
   (focus (exact trivial))
   clear hK K hHeld
   intro hHeld
   (try simp only [Act.put, List.setIfInBounds_toArray, List.set_cons_zero, List.set_cons_succ])
   refine wpAnyH_ready (rs := [6]) (by decide +kernel) (by simp) ?_
   refine consL rfl (fun K hK => ?_) ?_
   ·(first | fail | (go_simp; first | done | (first | fail)) | go_simp)
    (first | (with_reducible refine hK.out _ _ ?_ ?_) | (go_wp2_with fail; refine hK.out _ _ ?_ ?_))
    (focus (exact trivial))
    clear hK K hHeld
    intro hHeld
    (try simp only [Act.put, List.setIfInBounds_toArray, List.set_cons_zero, List.set_cons_succ])
    refine wpAnyH_ready (rs := [7]) (by decide +kernel) (by simp) ?_
    refine consL rfl (fun K hK => ?_) ?_
    ·(first | fail | (go_simp; first | done | (first | fail)) | go_simp)
     (first | (with_reducible refine hK.out _ _ ?_ ?_) | (go_wp2_with fail; refine hK.out _ _ ?_ ?_))
     (focus (exact trivial))
     clear hK K hHeld
     intro hHeld
     (try simp only [Act.put, List.setIfInBounds_toArray, List.set_cons_zero, List.set_cons_succ])
     refine wpAnyH_ready (rs := [8]) (by decide +kernel) (by simp) ?_
     refine consL rfl (fun K hK => ?_) ?_
     ·(first | (refine step_append_lies _ rfl _ _ 30 rfl B 81 j0 (.agg #[.int .i64 0, .int .i64 0, .int .i64 0, .int .i64 0]) 4 32 Tryz.underlying30 hj hj0 hj1 hj2 rfl (by decide) _ _ _ rfl (H4.out.ownD.alloc _) ⟨_, 0, none⟩ 1 1 (dmV (a, b, n, p)) rfl rfl (cells_new _ (dmV (a, b, n, p)) _) (by intro u hu; simp only [dmV, List.mem_cons, List.not_mem_nil, or_false] at hu; rcases hu with rfl | rfl | rfl | rfl <;> rfl) (by decide) (by have := HLM.out; unfold maxLen; omega) (by have := HLM.out; omega) (Nat.le_trans H4.out.sz (by simp)) _ rfl ?_; intro gg cap W9 ap1 ap2 ap3 ap4; obtain ⟨p1, p2, p3, p4⟩ := H4.out.pushD (x := (a, b, n, p)) ap1 ap2 ap3 HLM.out; have P1 := Lib.hid p1; have P2 := Lib.hid p2; clear p1 p2 ap1 ap2 ap3 ap4) | (go_simp; first | done | (first | (refine step_append_lies _ rfl _ _ 30 rfl B 81 j0 (.agg #[.int .i64 0, .int .i64 0, .int .i64 0, .int .i64 0]) 4 32 Tryz.underlying30 hj hj0 hj1 hj2 rfl (by decide) _ _ _ rfl (H4.out.ownD.alloc _) ⟨_, 0, none⟩ 1 1 (dmV (a, b, n, p)) rfl rfl (cells_new _ (dmV (a, b, n, p)) _) (by intro u hu; simp only [dmV, List.mem_cons, List.not_mem_nil, or_false] at hu; rcases hu with rfl | rfl | rfl | rfl <;> rfl) (by decide) (by have := HLM.out; unfold maxLen; omega) (by have := HLM.out; omega) (Nat.le_trans H4.out.sz (by simp)) _ rfl ?_; intro gg cap W9 ap1 ap2 ap3 ap4; obtain ⟨p1, p2, p3, p4⟩ := H4.out.pushD (x := (a, b, n, p)) ap1 ap2 ap3 HLM.out; have P1 := Lib.hid p1; have P2 := Lib.hid p2; clear p1 p2 ap1 ap2 ap3 ap4))) | go_simp)
      (first | (with_reducible refine hK.out _ _ ?_ ?_) | (go_wp2_with fail; refine hK.out _ _ ?_ ?_))
      (focus (exact trivial))
      clear hK K hHeld
      intro hHeld
      (try simp only [Act.put, List.setIfInBounds_toArray, List.set_cons_zero, List.set_cons_succ])
      (refine takeL (i := 9) (v := ?_) rfl (by kernel_rfl) (by decide +kernel) (by decide +kernel) (fun _ _ _ h => h) (Or.inl ⟨by rfl, ?_⟩) (by assumption) ?_; rotate_left; (focus (intro w9 hS9; (try dsimp only at hS9); go_simp; (try with_reducible rfl); done)))
      (try simp only [Act.put, List.setIfInBounds_toArray, List.set_cons_zero, List.set_cons_succ])
      (refine takeL (i := 10) (v := ?_) rfl (by kernel_rfl) (by decide +kernel) (by decide +kernel) (fun _ _ _ h => h) (Or.inl ⟨by rfl, ?_⟩) (by assumption) ?_; rotate_left; (focus (intro w9 hS9; (try dsimp only at hS9); go_simp; (try with_reducible rfl); done)))
      (try simp only [Act.put, List.setIfInBounds_toArray, List.set_cons_zero, List.set_cons_succ])
      (refine takeL (i := 11) (v := ?_) rfl (by kernel_rfl) (by decide +kernel) (by decide +kernel) (fun _ _ _ h => h) (Or.inl ⟨by rfl, ?_⟩) (by assumption) ?_; rotate_left; (focus (intro w9 hS9; (try dsimp only at hS9); go_simp; (try with_reducible rfl); done)))
      (try simp only [Act.put, List.setIfInBounds_toArray, List.set_cons_zero, List.set_cons_succ])
      refine wpAnyH_ready (rs := [12]) (by decide +kernel) (by simp) ?_
      refine consL rfl (fun K hK => ?_) ?_
      ·(first | fail | (go_simp; first | done | (first | fail)) | go_simp)
       (first | (with_reducible refine hK.out _ _ ?_ ?_) | (go_wp2_with fail; refine hK.out _ _ ?_ ?_))
       (focus (exact trivial))
       clear hK K hHeld
       intro hHeld
       (try simp only [Act.put, List.setIfInBounds_toArray, List.set_cons_zero, List.set_cons_succ])
       refine wpAnyH_done (by decide +kernel) ?_ _
       go_wp2_with fail
       go_end0
       obtain rfl := HV.out
       exact ⟨rfl, HM4.out.trans P2.out, _, _, P1.out, (fun h => by rw [HDR.out] at h; cases h), rfl⟩
      exact AllReadyH.nil
     exact AllReadyH.nil
    exact AllReadyH.nil
   exact AllReadyH.nil
  refine consL rfl (fun K hK => ?_) ?_
  ·(first | fail | (go_simp; first | done | (first | fail)) | go_simp)
   (first | (with_reducible refine hK.out _ _ ?_ ?_) | (go_wp2_with fail; refine hK.out _ _ ?_ ?_))
   (focus (exact trivial))
   clear hK K hHeld
   intro hHeld
   (try simp only [Act.put, List.setIfInBounds_toArray, List.set_cons_zero, List.set_cons_succ])
   refine wpAnyH_ready (rs := [5, 7]) (by decide +kernel) (by simp) ?_
   refine consL rfl (fun K hK => ?_) ?_
   ·(first | fail | (go_simp; first | done | (first | fail)) | go_simp)
    (first | (with_reducible refine hK.out _ _ ?_ ?_) | (go_wp2_with fail; refine hK.out _ _ ?_ ?_))
    (focus (exact trivial))
    clear hK K hHeld
    intro hHeld
    (try simp only [Act.put, List.setIfInBounds_toArray, List.set_cons_zero, List.set_cons_succ])
    refine wpAnyH_ready (rs := [7]) (by decide +kernel) (by simp) ?_
    refine consL rfl (fun K hK => ?_) ?_
    ·(first | fail | (go_simp; first | done | (first | fail)) | go_simp)
     (first | (with_reducible refine hK.out _ _ ?_ ?_) | (go_wp2_with fail; refine hK.out _ _ ?_ ?_))
     (focus (exact trivial))
     clear hK K hHeld
     intro hHeld
     (try simp only [Act.put, List.setIfInBounds_toArray, List.set_cons_zero, List.set_cons_succ])
     refine wpAnyH_ready (rs := [8]) (by decide +kernel) (by simp) ?_
     refine consL rfl (fun K hK => ?_) ?_
     ·(first | (refine step_append_lies _ rfl _ _ 30 rfl B 81 j0 (.agg #[.int .i64 0, .int .i64 0, .int .i64 0, .int .i64 0]) 4 32 Tryz.underlying30 hj hj0 hj1 hj2 rfl (by decide) _ _ _ rfl (H4.out.ownD.alloc _) ⟨_, 0, none⟩ 1 1 (dmV (a, b, n, p)) rfl rfl (cells_new _ (dmV (a, b, n, p)) _) (by intro u hu; simp only [dmV, List.mem_cons, List.not_mem_nil, or_false] at hu; rcases hu with rfl | rfl | rfl | rfl <;> rfl) (by decide) (by have := HLM.out; unfold maxLen; omega) (by have := HLM.out; omega) (Nat.le_trans H4.out.sz (by simp)) _ rfl ?_; intro gg cap W9 ap1 ap2 ap3 ap4; obtain ⟨p1, p2, p3, p4⟩ := H4.out.pushD (x := (a, b, n, p)) ap1 ap2 ap3 HLM.out; have P1 := Lib.hid p1; have P2 := Lib.hid p2; clear p1 p2 ap1 ap2 ap3 ap4) | (go_simp; first | done | (first | (refine step_append_lies _ rfl _ _ 30 rfl B 81 j0 (.agg #[.int .i64 0, .int .i64 0, .int .i64 0, .int .i64 0]) 4 32 Tryz.underlying30 hj hj0 hj1 hj2 rfl (by decide) _ _ _ rfl (H4.out.ownD.alloc _) ⟨_, 0, none⟩ 1 1 (dmV (a, b, n, p)) rfl rfl (cells_new _ (dmV (a, b, n, p)) _) (by intro u hu; simp only [dmV, List.mem_cons, List.not_mem_nil, or_false] at hu; rcases hu with rfl | rfl | rfl | rfl <;> rfl) (by decide) (by have := HLM.out; unfold maxLen; omega) (by have := HLM.out; omega) (Nat.le_trans H4.out.sz (by simp)) _ rfl ?_; intro gg cap W9 ap1 ap2 ap3 ap4; obtain ⟨p1, p2, p3, p4⟩ := H4.out.pushD (x := (a, b, n, p)) ap1 ap2 ap3 HLM.out; have P1 := Lib.hid p1; have P2 := Lib.hid p2; clear p1 p2 ap1 ap2 ap3 ap4))) | go_simp)
      (first | (with_reducible refine hK.out _ _ ?_ ?_) | (go_wp2_with fail; refine hK.out _ _ ?_ ?_))
      (focus (exact trivial))
      clear hK K hHeld
      intro hHeld
      (try simp only [Act.put, List.setIfInBounds_toArray, List.set_cons_zero, List.set_cons_succ])
      (refine takeL (i := 9) (v := ?_) rfl (by kernel_rfl) (by decide +kernel) (by decide +kernel) (fun _ _ _ h => h) (Or.inl ⟨by rfl, ?_⟩) (by assumption) ?_; rotate_left; (focus (intro w9 hS9; (try dsimp only at hS9); go_simp; (try with_reducible rfl); done)))
      (try simp only [Act.put, List.setIfInBounds_toArray, List.set_cons_zero, List.set_cons_succ])
      (refine takeL (i := 10) (v := ?_) rfl (by kernel_rfl) (by decide +kernel) (by decide +kernel) (fun _ _ _ h => h) (Or.inl ⟨by rfl, ?_⟩) (by assumption) ?_; rotate_left; (focus (intro w9 hS9; (try dsimp only at hS9); go_simp; (try with_reducible rfl); done)))
      (try simp only [Act.put, List.setIfInBounds_toArray, List.set_cons_zero, List.set_cons_succ])
      (refine takeL (i := 11) (v := ?_) rfl (by kernel_rfl) (by decide +kernel) (by decide +kernel) (fun _ _ _ h => h) (Or.inl ⟨by rfl, ?_⟩) (by assumption) ?_; rotate_left; (focus (intro w9 hS9; (try dsimp only at hS9); go_simp; (try with_reducible rfl); done)))
      (try simp only [Act.put, List.setIfInBounds_toArray, List.set_cons_zero, List.set_cons_succ])
      refine wpAnyH_ready (rs := [12]) (by decide +kernel) (by simp) ?_
      refine consL rfl (fun K hK => ?_) ?_
      ·(first | fail | (go_simp; first | done | (first | fail)) | go_simp)
       (first | (with_reducible refine hK.out _ _ ?_ ?_) | (go_wp2_with fail; refine hK.out _ _ ?_ ?_))
       (focus (exact trivial))
       clear hK K hHeld
       intro hHeld
       (try simp only [Act.put, List.setIfInBounds_toArray, List.set_cons_zero, List.set_cons_succ])
       refine wpAnyH_done (by decide +kernel) ?_ _
       go_wp2_with fail
       go_end0
       obtain rfl := HV.out
       exact ⟨rfl, HM4.out.trans P2.out, _, _, P1.out, (fun h => by rw [HDR.out] at h; cases h), rfl⟩
      exact AllReadyH.nil
     exact AllReadyH.nil
    exact AllReadyH.nil
   refine consL rfl (fun K hK => ?_) ?_
   ·(first | fail | (go_simp; first | done | (first | fail)) | go_simp)
    (first | (with_reducible refine hK.out _ _ ?_ ?_) | (go_wp2_with fail; refine hK.out _ _ ?_ ?_))
    (focus (exact trivial))
    clear hK K hHeld
    intro hHeld
    (try simp only [Act.put, List.setIfInBounds_toArray, List.set_cons_zero, List.set_cons_succ])
    have e7 := cell_up (below_box w4 (.cells (dmV (a, b, n, p)).toArray 81)) b7
    simp only [dmV] at e7
    refine wpAnyH_ready (rs := [5]) (by decide +kernel) (by simp) ?_
    refine consL rfl (fun K hK => ?_) ?_
    ·(first | fail | (go_simp; first | done | (first | fail)) | go_simp)
     (first | (with_reducible refine hK.out _ _ ?_ ?_) | (go_wp2_with fail; refine hK.out _ _ ?_ ?_))
     (focus (exact trivial))
     clear hK K hHeld
     intro hHeld
     (try simp only [Act.put, List.setIfInBounds_toArray, List.set_cons_zero, List.set_cons_succ])
     refine wpAnyH_ready (rs := [8]) (by decide +kernel) (by simp) ?_
     refine consL rfl (fun K hK => ?_) ?_
     ·(first | (refine step_append_lies _ rfl _ _ 30 rfl B 81 j0 (.agg #[.int .i64 0, .int .i64 0, .int .i64 0, .int .i64 0]) 4 32 Tryz.underlying30 hj hj0 hj1 hj2 rfl (by decide) _ _ _ rfl (H4.out.ownD.alloc _) ⟨_, 0, none⟩ 1 1 (dmV (a, b, n, p)) rfl rfl (cells_new _ (dmV (a, b, n, p)) _) (by intro u hu; simp only [dmV, List.mem_cons, List.not_mem_nil, or_false] at hu; rcases hu with rfl | rfl | rfl | rfl <;> rfl) (by decide) (by have := HLM.out; unfold maxLen; omega) (by have := HLM.out; omega) (Nat.le_trans H4.out.sz (by simp)) _ rfl ?_; intro gg cap W9 ap1 ap2 ap3 ap4; obtain ⟨p1, p2, p3, p4⟩ := H4.out.pushD (x := (a, b, n, p)) ap1 ap2 ap3 HLM.out; have P1 := Lib.hid p1; have P2 := Lib.hid p2; clear p1 p2 ap1 ap2 ap3 ap4) | (go_simp; first | done | (first | (refine step_append_lies _ rfl _ _ 30 rfl B 81 j0 (.agg #[.int .i64 0, .int .i64 0, .int .i64 0, .int .i64 0]) 4 32 Tryz.underlying30 hj hj0 hj1 hj2 rfl (by decide) _ _ _ rfl (H4.out.ownD.alloc _) ⟨_, 0, none⟩ 1 1 (dmV (a, b, n, p)) rfl rfl (cells_new _ (dmV (a, b, n, p)) _) (by intro u hu; simp only [dmV, List.mem_cons, List.not_mem_nil, or_false] at hu; rcases hu with rfl | rfl | rfl | rfl <;> rfl) (by decide) (by have := HLM.out; unfold maxLen; omega) (by have := HLM.out; omega) (Nat.le_trans H4.out.sz (by simp)) _ rfl ?_; intro gg cap W9 ap1 ap2 ap3 ap4; obtain ⟨p1, p2, p3, p4⟩ := H4.out.pushD (x := (a, b, n, p)) ap1 ap2 ap3 HLM.out; have P1 := Lib.hid p1; have P2 := Lib.hid p2; clear p1 p2 ap1 ap2 ap3 ap4))) | go_simp)
      (first | (with_reducible refine hK.out _ _ ?_ ?_) | (go_wp2_with fail; refine hK.out _ _ ?_ ?_))
      (focus (exact trivial))
      clear hK K hHeld
      intro hHeld
      (try simp only [Act.put, List.setIfInBounds_toArray, List.set_cons_zero, List.set_cons_succ])
      (refine takeL (i := 9) (v := ?_) rfl (by kernel_rfl) (by decide +kernel) (by decide +kernel) (fun _ _ _ h => h) (Or.inl ⟨by rfl, ?_⟩) (by assumption) ?_; rotate_left; (focus (intro w9 hS9; (try dsimp only at hS9); go_simp; (try with_reducible rfl); done)))
      (try simp only [Act.put, List.setIfInBounds_toArray, List.set_cons_zero, List.set_cons_succ])
      (refine takeL (i := 10) (v := ?_) rfl (by kernel_rfl) (by decide +kernel) (by decide +kernel) (fun _ _ _ h => h) (Or.inl ⟨by rfl, ?_⟩) (by assumption) ?_; rotate_left; (focus (intro w9 hS9; (try dsimp only at hS9); go_simp; (try with_reducible rfl); done)))
      (try simp only [Act.put, List.setIfInBounds_toArray, List.set_cons_zero, List.set_cons_succ])
      (refine takeL (i := 11) (v := ?_) rfl (by kernel_rfl) (by decide +kernel) (by decide +kernel) (fun _ _ _ h => h) (Or.inl ⟨by rfl, ?_⟩) (by assumption) ?_; rotate_left; (focus (intro w9 hS9; (try dsimp only at hS9); go_simp; (try with_reducible rfl); done)))
      (try simp only [Act.put, List.setIfInBounds_toArray, List.set_cons_zero, List.set_cons_succ])
      refine wpAnyH_ready (rs := [12]) (by decide +kernel) (by simp) ?_
      refine consL rfl (fun K hK => ?_) ?_
      ·(first | fail | (go_simp; first | done | (first | fail)) | go_simp)
       (first | (with_reducible refine hK.out _ _ ?_ ?_) | (go_wp2_with fail; refine hK.out _ _ ?_ ?_))
       (focus (exact trivial))
       clear hK K hHeld
       intro hHeld
       (try simp only [Act.put, List.setIfInBounds_toArray, List.set_cons_zero, List.set_cons_succ])
       refine wpAnyH_done (by decide +kernel) ?_ _
       go_wp2_with fail
       go_end0
       obtain rfl := HV.out
       exact ⟨rfl, HM4.out.trans P2.out, _, _, P1.out, (fun h => by rw [HDR.out] at h; cases h), rfl⟩
      exact AllReadyH.nil
     exact AllReadyH.nil
    exact AllReadyH.nil
   exact AllReadyH.nil
  exact AllReadyH.nil
end
end Go.Proofs.YtfimacgmciogmaaGreatDoor
