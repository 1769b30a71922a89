/-
  config's parser: segment (printed by gen_cfgw2.py).
  Maps whose keys are prefixes, pairs of numbers.
  config's parser: policy, the list that is built.
-/
import Derived.Test.YtfimacgmciogmaaGreatDoorCfgV
import Derived.Deep.QuietTactic
import Derived.IntWalk
import Derived.DeepKeys4
namespace Go.Proofs.YtfimacgmciogmaaGreatDoor
set_option linter.unusedSimpArgs false
set_option linter.unusedVariables false
open Go.RowKit Go.Shelf Go.Sort
def secB : List (List UInt8) → Bool
 | _ :: y :: _ => decide (y = [62] ∨ y = [60])
 | _ => false
def segS (dry : Bool) (sy : SymS) (ws : List (List UInt8)) : PR (Int × Int) :=
 match acceptS kAny ws with
 | (true, q) => bindS (valueS dry sy 1 64 q) fun n r => .ok ((3, n), r)
 | (false, q) => match acceptS kBind q with
  | (true, q2) => bindS (valueS dry sy 0 65535 q2) fun n r => .ok ((4, n), r)
  | (false, q2) => if secB q2 = true then bindS (useS dry sy 2 q2) fun a r1 => bindS (nextS r1) fun w r2 => .ok ((2, if w = [60] then wrap64 (wrap64 (2 * a) + 1) else wrap64 (2 * a)), r2)
   else bindS (useS dry sy 1 q2) fun a r1 => .ok ((1, a), r1)
def encG (p : Int × Int) : Value := .agg #[.int .i64 p.1, .int .i64 p.2]
section
variable {pb : Nat} {k : List Value} {A : Option Addr} {cw : Nat} {all : List (List UInt8)} {dry : Bool} {sb : Nat} {sy : SymS} {rest : List (List UInt8)} {W : World}
theorem PS.word2 {x y : List UInt8} {t : List (List UInt8)} (h : PS pb k A cw all dry sb sy (x :: y :: t) W) : ∃ b o i, A = some ⟨b, o, none⟩ ∧ i = all.length - (t.length + 2) ∧ W.cell? ⟨b, o + (i + 1), none⟩ = some (.string ⟨y.toArray⟩) ∧ i + 1 < all.length := by
 obtain ⟨p, e⟩ := h.suf
 have hl := congrArg List.length e
 simp at hl
 have hx : all[all.length - (t.length + 2) + 1]? = some y := by
  rw [e]
  have : (p ++ x :: y :: t).length - (t.length + 2) + 1 = p.length + 1 := by simp only [List.length_append, List.length_cons]; omega
  rw [this, List.getElem?_append_right (by omega)]
  simp
 obtain ⟨b, o, h1, h2⟩ := h.rd.at_ (u := strW y) (by rw [List.getElem?_map, hx]; rfl)
 exact ⟨b, o, _, h1, rfl, h2, by omega⟩
set_option maxHeartbeats 8000000 in
set_option maxRecDepth 100000 in
theorem cfg_segment (h : PS pb k A cw all dry sb sy rest W) (hs : ∀ x ∈ sy, inI x.2.2) : Calls Tryz.prog 69 #[.pointer (some ⟨pb, 0, none⟩)] W (RetP pb k A cw all dry sb sy encG W (segS dry sy rest)) := by
 obtain ⟨V, hV⟩ : ∃ V, V = segS dry sy rest := ⟨_, rfl⟩
 rw [← hV]
 simp only [segS, kAny, kBind] at hV
 have HV := Lib.hid hV
 have H0 := Lib.hid h
 have HP := Lib.hid (h.up (below_box W (.cells #[.int .i64 0, .int .i64 0] 78)))
 have HN : Hid (LoN pb W (W.alloc (.cells #[.int .i64 0, .int .i64 0] 78))) := Lib.hid (LoN.below (below_box W _))
 have HB : Hid ((W.alloc (.cells #[.int .i64 0, .int .i64 0] 78)).heap[W.heap.size]? = some (.cells #[.int .i64 0, .int .i64 0] 78 (0, 0))) := Lib.hid (heap_alloc_new W _)
 have HSY := Lib.hid hs
 have hne1 : W.heap.size ≠ pb := Nat.ne_of_gt h.lt
 have hne2 : pb ≠ W.heap.size := Nat.ne_of_lt h.lt
 have HNE := Lib.hid hne1
 clear hV h hs
 go_enter Tryz.func69, Tryz.ntmps69
 go_wp2_with (first | (go_at_call 58; (first | ((with_reducible refine (cfg_accept HP.out _ (by decide)).mono ?_))); (first | (rintro e w1 hr)); (first | (generalize hU : acceptS _ _ = U at hr HV)); (first | (obtain ⟨o, q⟩ := U)); (first | (obtain ⟨rfl, hp1, hl1⟩ := hr)); (first | (replace HP := Lib.hid hp1)); (first | (replace HN := Lib.hid (HN.out.trans hl1))); (first | (replace HB := Lib.hid ((hl1.blk W.heap.size (lt_of_heap HB.out) (by simpa using HNE.out)).trans HB.out))); (first | (clear hp1 hl1 hU)); (first | (cases o <;> simp only [bindS] at HV))) | (go_at_call 64; (first | ((with_reducible refine (cfg_value HP.out HSY.out 1 64).mono ?_))); (first | (rintro e w1 hr)); (first | (generalize hU : valueS _ _ 1 64 _ = U at hr HV)); (first | (rcases U with c1 | ⟨n, r1⟩)); (first | (focus (obtain ⟨rfl, hl1⟩ := hr; obtain rfl := HV.out; exact ⟨rfl, rfl, HN.out.trans hl1⟩))); (first | (obtain ⟨rfl, hp1, hl1⟩ := hr)); (first | (simp only [encI])); (first | (simp only [bindS] at HV)); (first | (skip)); (first | (replace HP := Lib.hid hp1)); (first | (replace HN := Lib.hid (HN.out.trans hl1))); (first | (replace HB := Lib.hid ((hl1.blk W.heap.size (lt_of_heap HB.out) (by simpa using HNE.out)).trans HB.out))); (first | (obtain ⟨n0, n1, nf⟩ := two_cells HB.out)); (first | (clear hp1 hl1 hU))) | (go_at_call 64; (first | ((with_reducible refine (cfg_value HP.out HSY.out 0 65535).mono ?_))); (first | (rintro e w1 hr)); (first | (generalize hU : valueS _ _ 0 65535 _ = U at hr HV)); (first | (rcases U with c1 | ⟨n, r1⟩)); (first | (focus (obtain ⟨rfl, hl1⟩ := hr; obtain rfl := HV.out; exact ⟨rfl, rfl, HN.out.trans hl1⟩))); (first | (obtain ⟨rfl, hp1, hl1⟩ := hr)); (first | (simp only [encI])); (first | (simp only [bindS] at HV)); (first | (skip)); (first | (replace HP := Lib.hid hp1)); (first | (replace HN := Lib.hid (HN.out.trans hl1))); (first | (replace HB := Lib.hid ((hl1.blk W.heap.size (lt_of_heap HB.out) (by simpa using HNE.out)).trans HB.out))); (first | (obtain ⟨n0, n1, nf⟩ := two_cells HB.out)); (first | (clear hp1 hl1 hU))))
 ·have hal : all.length ≤ 10000 := HP.out.al.1
  cases q with
  | nil =>
   obtain ⟨b22, b23, _, _, bf⟩ := HP.out.cells
   simp only [List.length_nil, Nat.sub_zero] at b23
   replace HV : Hid (V = bindS (useS dry sy 1 []) fun a r1 => .ok ((1, a), r1)) := Lib.hid HV.out
   obtain ⟨i, hi⟩ : ∃ i, i = all.length := ⟨_, rfl⟩
   rw [← hi] at b23
   have hd : decide ((i : Int) + 1 < (all.length : Int)) = false := by rw [hi]; exact decide_eq_false (by omega)
   have hw : IntKind.i64.wrap ((i : Int) + 1) = (i : Int) + 1 := IntWalk.i64_in _ (by omega)
   clear hi hal
   go_quiet (fail)
   generalize hwd : World.drewN w1 _ = wd
   replace HN : Hid (LoN pb W wd) := Lib.hid (by rw [← hwd]; exact HN.out.trans (LoN.below (below_drw (Below.refl _ _) _)))
   replace HB : Hid (wd.heap[W.heap.size]? = some (.cells #[.int .i64 0, .int .i64 0] 78 (0, 0))) := Lib.hid (by rw [← hwd]; exact HB.out)
   replace HP : Hid (PS pb k _ cw all dry sb sy _ wd) := Lib.hid (by rw [← hwd]; exact HP.out.up (below_drw (Below.refl _ _) _))
   clear hwd b22 b23 bf hd hw
   go_wp2_with (first | (go_at_call 68; (first | ((with_reducible refine (cfg_use HP.out 1).mono ?_))); (first | (rintro e w1 hr)); (first | (generalize hU : useS _ _ 1 _ = U at hr HV)); (first | (rcases U with c1 | ⟨n, r1⟩)); (first | (focus (obtain ⟨rfl, hl1⟩ := hr; obtain rfl := HV.out; exact ⟨rfl, rfl, HN.out.trans hl1⟩))); (first | (obtain ⟨rfl, hp1, hl1⟩ := hr)); (first | (simp only [encI])); (first | (simp only [bindS] at HV)); (first | (skip)); (first | (replace HP := Lib.hid hp1)); (first | (replace HN := Lib.hid (HN.out.trans hl1))); (first | (replace HB := Lib.hid ((hl1.blk W.heap.size (lt_of_heap HB.out) (by simpa using HNE.out)).trans HB.out))); (first | (obtain ⟨n0, n1, nf⟩ := two_cells HB.out)); (first | (clear hp1 hl1 hU))))
   have HB2 := heap_setCell_same _ _ 0 _ _ (.int .i64 1) HB.out
   obtain rfl := HV.out
   exact bodyPost_ret (v := .agg #[.int .i64 1, .int .i64 n]) (by simp [results, Tryz.results69, go_sem, n0, n1, nf]) rfl ⟨rfl, (HP.out.setO (j := 0) H0.out (Nat.le_refl _) _).setO (j := 1) H0.out (Nat.le_refl _) _, LoP.trans (LoP.trans HN.out (LoP.setC (j := 0) HB.out (.inr (Nat.le_refl _)) HN.out.size _)) (LoP.setC (j := 1) HB2 (.inr (Nat.le_refl _)) (by simpa using HN.out.size) _)⟩
  | cons x t =>
   cases t with
   | nil =>
    obtain ⟨b22, b23, _, _, bf⟩ := HP.out.cells
    have hln := HP.out.len
    simp only [List.length_cons, List.length_nil, Nat.zero_add] at b23 hln
    replace HV : Hid (V = bindS (useS dry sy 1 [x]) fun a r1 => .ok ((1, a), r1)) := Lib.hid HV.out
    obtain ⟨i, hi⟩ : ∃ i, i = all.length - 1 := ⟨_, rfl⟩
    rw [← hi] at b23
    have hd : decide ((i : Int) + 1 < (all.length : Int)) = false := decide_eq_false (by omega)
    have hw : IntKind.i64.wrap ((i : Int) + 1) = (i : Int) + 1 := IntWalk.i64_in _ (by omega)
    clear hi hal hln
    go_quiet (fail)
    generalize hwd : World.drewN w1 _ = wd
    replace HN : Hid (LoN pb W wd) := Lib.hid (by rw [← hwd]; exact HN.out.trans (LoN.below (below_drw (Below.refl _ _) _)))
    replace HB : Hid (wd.heap[W.heap.size]? = some (.cells #[.int .i64 0, .int .i64 0] 78 (0, 0))) := Lib.hid (by rw [← hwd]; exact HB.out)
    replace HP : Hid (PS pb k _ cw all dry sb sy _ wd) := Lib.hid (by rw [← hwd]; exact HP.out.up (below_drw (Below.refl _ _) _))
    clear hwd b22 b23 bf hd hw
    go_wp2_with (first | (go_at_call 68; (first | ((with_reducible refine (cfg_use HP.out 1).mono ?_))); (first | (rintro e w1 hr)); (first | (generalize hU : useS _ _ 1 _ = U at hr HV)); (first | (rcases U with c1 | ⟨n, r1⟩)); (first | (focus (obtain ⟨rfl, hl1⟩ := hr; obtain rfl := HV.out; exact ⟨rfl, rfl, HN.out.trans hl1⟩))); (first | (obtain ⟨rfl, hp1, hl1⟩ := hr)); (first | (simp only [encI])); (first | (simp only [bindS] at HV)); (first | (skip)); (first | (replace HP := Lib.hid hp1)); (first | (replace HN := Lib.hid (HN.out.trans hl1))); (first | (replace HB := Lib.hid ((hl1.blk W.heap.size (lt_of_heap HB.out) (by simpa using HNE.out)).trans HB.out))); (first | (obtain ⟨n0, n1, nf⟩ := two_cells HB.out)); (first | (clear hp1 hl1 hU))))
    have HB2 := heap_setCell_same _ _ 0 _ _ (.int .i64 1) HB.out
    obtain rfl := HV.out
    exact bodyPost_ret (v := .agg #[.int .i64 1, .int .i64 n]) (by simp [results, Tryz.results69, go_sem, n0, n1, nf]) rfl ⟨rfl, (HP.out.setO (j := 0) H0.out (Nat.le_refl _) _).setO (j := 1) H0.out (Nat.le_refl _) _, LoP.trans (LoP.trans HN.out (LoP.setC (j := 0) HB.out (.inr (Nat.le_refl _)) HN.out.size _)) (LoP.setC (j := 1) HB2 (.inr (Nat.le_refl _)) (by simpa using HN.out.size) _)⟩
   | cons y t =>
    obtain ⟨b22, b23, _, _, bf⟩ := HP.out.cells
    obtain ⟨b, o, i, rfl, hi, b24, hlt⟩ := HP.out.word2
    simp only [List.length_cons, Nat.add_assoc] at b23
    rw [show all.length - (t.length + (1 + 1)) = i from hi.symm] at b23
    have hd : decide ((i : Int) + 1 < (all.length : Int)) = true := decide_eq_true (by omega)
    have hw : IntKind.i64.wrap ((i : Int) + 1) = (i : Int) + 1 := IntWalk.i64_in _ (by omega)
    have hi0 : 0 ≤ (i : Int) + 1 := by omega
    have hi1 : ((i : Int) + 1).toNat = i + 1 := by omega
    clear hi hal
    by_cases hy1 : y = [62]
    ·subst hy1
     replace HV : Hid (V = bindS (useS dry sy 2 (x :: [62] :: t)) fun a r1 => bindS (nextS r1) fun w r2 => .ok ((2, if w = [60] then wrap64 (wrap64 (2 * a) + 1) else wrap64 (2 * a)), r2)) := Lib.hid HV.out
     go_quiet (fail)
     generalize hwd : World.drewN w1 _ = wd
     replace HN : Hid (LoN pb W wd) := Lib.hid (by rw [← hwd]; exact HN.out.trans (LoN.below (below_drw (Below.refl _ _) _)))
     replace HB : Hid (wd.heap[W.heap.size]? = some (.cells #[.int .i64 0, .int .i64 0] 78 (0, 0))) := Lib.hid (by rw [← hwd]; exact HB.out)
     replace HP : Hid (PS pb k _ cw all dry sb sy _ wd) := Lib.hid (by rw [← hwd]; exact HP.out.up (below_drw (Below.refl _ _) _))
     clear hwd b22 b23 bf hd hw
     clear hi0 hi1 b24 hlt
     go_wp2_with (first | (go_at_call 68; (first | ((with_reducible refine (cfg_use HP.out 2).mono ?_))); (first | (rintro e w1 hr)); (first | (generalize hU : useS _ _ 2 _ = U at hr HV)); (first | (rcases U with c1 | ⟨n, r1⟩)); (first | (focus (obtain ⟨rfl, hl1⟩ := hr; obtain rfl := HV.out; exact ⟨rfl, rfl, HN.out.trans hl1⟩))); (first | (obtain ⟨rfl, hp1, hl1⟩ := hr)); (first | (simp only [encI])); (first | (simp only [bindS] at HV)); (first | (skip)); (first | (replace HP := Lib.hid hp1)); (first | (replace HN := Lib.hid (HN.out.trans hl1))); (first | (replace HB := Lib.hid ((hl1.blk W.heap.size (lt_of_heap HB.out) (by simpa using HNE.out)).trans HB.out))); (first | (clear hp1 hl1 hU))) | (go_at_call 63; (first | ((with_reducible refine (cfg_next HP.out).mono ?_))); (first | (rintro e w1 hr)); (first | (generalize hU : nextS _ = U at hr HV)); (first | (rcases U with c1 | ⟨w, r1⟩)); (first | (focus (obtain ⟨rfl, hl1⟩ := hr; obtain rfl := HV.out; exact ⟨rfl, rfl, HN.out.trans hl1⟩))); (first | (obtain ⟨rfl, hp1, hl1⟩ := hr)); (first | (simp only [encS])); (first | (simp only [bindS] at HV)); (first | (skip)); (first | (replace HP := Lib.hid hp1)); (first | (replace HN := Lib.hid (HN.out.trans hl1))); (first | (replace HB := Lib.hid ((hl1.blk W.heap.size (lt_of_heap HB.out) (by simpa using HNE.out)).trans HB.out))); (first | (obtain ⟨n0, n1, nf⟩ := two_cells HB.out)); (first | (clear hp1 hl1 hU)); (first | (cases hw5 : (w == [60])))))
     all_goals first
      | (rw [if_pos (show w = [60] by simpa using hw5)] at HV; have HB2 := heap_setCell_same _ _ 0 _ _ (.int .i64 2) HB.out; obtain rfl := HV.out; exact bodyPost_ret (v := .agg #[.int .i64 2, .int .i64 (wrap64 (wrap64 (2 * n) + 1))]) (by simp [results, Tryz.results69, go_sem, n0, n1, nf]) rfl ⟨rfl, (HP.out.setO (j := 0) H0.out (Nat.le_refl _) _).setO (j := 1) H0.out (Nat.le_refl _) _, LoP.trans (LoP.trans HN.out (LoP.setC (j := 0) HB.out (.inr (Nat.le_refl _)) HN.out.size _)) (LoP.setC (j := 1) HB2 (.inr (Nat.le_refl _)) (by simpa using HN.out.size) _)⟩)
      | (rw [if_neg (show ¬ w = [60] by simpa using hw5)] at HV; have HB2 := heap_setCell_same _ _ 0 _ _ (.int .i64 2) HB.out; obtain rfl := HV.out; exact bodyPost_ret (v := .agg #[.int .i64 2, .int .i64 (wrap64 (2 * n))]) (by simp [results, Tryz.results69, go_sem, n0, n1, nf]) rfl ⟨rfl, (HP.out.setO (j := 0) H0.out (Nat.le_refl _) _).setO (j := 1) H0.out (Nat.le_refl _) _, LoP.trans (LoP.trans HN.out (LoP.setC (j := 0) HB.out (.inr (Nat.le_refl _)) HN.out.size _)) (LoP.setC (j := 1) HB2 (.inr (Nat.le_refl _)) (by simpa using HN.out.size) _)⟩)
    by_cases hy2 : y = [60]
    ·subst hy2
     clear hy1
     replace HV : Hid (V = bindS (useS dry sy 2 (x :: [60] :: t)) fun a r1 => bindS (nextS r1) fun w r2 => .ok ((2, if w = [60] then wrap64 (wrap64 (2 * a) + 1) else wrap64 (2 * a)), r2)) := Lib.hid HV.out
     go_quiet (fail)
     generalize hwd : World.drewN w1 _ = wd
     replace HN : Hid (LoN pb W wd) := Lib.hid (by rw [← hwd]; exact HN.out.trans (LoN.below (below_drw (Below.refl _ _) _)))
     replace HB : Hid (wd.heap[W.heap.size]? = some (.cells #[.int .i64 0, .int .i64 0] 78 (0, 0))) := Lib.hid (by rw [← hwd]; exact HB.out)
     replace HP : Hid (PS pb k _ cw all dry sb sy _ wd) := Lib.hid (by rw [← hwd]; exact HP.out.up (below_drw (Below.refl _ _) _))
     clear hwd b22 b23 bf hd hw
     clear hi0 hi1 b24 hlt
     go_wp2_with (first | (go_at_call 68; (first | ((with_reducible refine (cfg_use HP.out 2).mono ?_))); (first | (rintro e w1 hr)); (first | (generalize hU : useS _ _ 2 _ = U at hr HV)); (first | (rcases U with c1 | ⟨n, r1⟩)); (first | (focus (obtain ⟨rfl, hl1⟩ := hr; obtain rfl := HV.out; exact ⟨rfl, rfl, HN.out.trans hl1⟩))); (first | (obtain ⟨rfl, hp1, hl1⟩ := hr)); (first | (simp only [encI])); (first | (simp only [bindS] at HV)); (first | (skip)); (first | (replace HP := Lib.hid hp1)); (first | (replace HN := Lib.hid (HN.out.trans hl1))); (first | (replace HB := Lib.hid ((hl1.blk W.heap.size (lt_of_heap HB.out) (by simpa using HNE.out)).trans HB.out))); (first | (clear hp1 hl1 hU))) | (go_at_call 63; (first | ((with_reducible refine (cfg_next HP.out).mono ?_))); (first | (rintro e w1 hr)); (first | (generalize hU : nextS _ = U at hr HV)); (first | (rcases U with c1 | ⟨w, r1⟩)); (first | (focus (obtain ⟨rfl, hl1⟩ := hr; obtain rfl := HV.out; exact ⟨rfl, rfl, HN.out.trans hl1⟩))); (first | (obtain ⟨rfl, hp1, hl1⟩ := hr)); (first | (simp only [encS])); (first | (simp only [bindS] at HV)); (first | (skip)); (first | (replace HP := Lib.hid hp1)); (first | (replace HN := Lib.hid (HN.out.trans hl1))); (first | (replace HB := Lib.hid ((hl1.blk W.heap.size (lt_of_heap HB.out) (by simpa using HNE.out)).trans HB.out))); (first | (obtain ⟨n0, n1, nf⟩ := two_cells HB.out)); (first | (clear hp1 hl1 hU)); (first | (cases hw5 : (w == [60])))))
     all_goals first
      | (rw [if_pos (show w = [60] by simpa using hw5)] at HV; have HB2 := heap_setCell_same _ _ 0 _ _ (.int .i64 2) HB.out; obtain rfl := HV.out; exact bodyPost_ret (v := .agg #[.int .i64 2, .int .i64 (wrap64 (wrap64 (2 * n) + 1))]) (by simp [results, Tryz.results69, go_sem, n0, n1, nf]) rfl ⟨rfl, (HP.out.setO (j := 0) H0.out (Nat.le_refl _) _).setO (j := 1) H0.out (Nat.le_refl _) _, LoP.trans (LoP.trans HN.out (LoP.setC (j := 0) HB.out (.inr (Nat.le_refl _)) HN.out.size _)) (LoP.setC (j := 1) HB2 (.inr (Nat.le_refl _)) (by simpa using HN.out.size) _)⟩)
      | (rw [if_neg (show ¬ w = [60] by simpa using hw5)] at HV; have HB2 := heap_setCell_same _ _ 0 _ _ (.int .i64 2) HB.out; obtain rfl := HV.out; exact bodyPost_ret (v := .agg #[.int .i64 2, .int .i64 (wrap64 (2 * n))]) (by simp [results, Tryz.results69, go_sem, n0, n1, nf]) rfl ⟨rfl, (HP.out.setO (j := 0) H0.out (Nat.le_refl _) _).setO (j := 1) H0.out (Nat.le_refl _) _, LoP.trans (LoP.trans HN.out (LoP.setC (j := 0) HB.out (.inr (Nat.le_refl _)) HN.out.size _)) (LoP.setC (j := 1) HB2 (.inr (Nat.le_refl _)) (by simpa using HN.out.size) _)⟩)
    have hs : secB (x :: y :: t) = false := by simp only [secB]; exact decide_eq_false (by rintro (e | e); exact hy1 e; exact hy2 e)
    replace HV : Hid (V = bindS (useS dry sy 1 (x :: y :: t)) fun a r1 => .ok ((1, a), r1)) := Lib.hid (by have := HV.out; rw [hs] at this; exact this)
    have y1 : (y == [62]) = false := by simpa using hy1
    have y2 : (y == [60]) = false := by simpa using hy2
    clear hy1 hy2 hs
    go_quiet (fail)
    generalize hwd : World.drewN w1 _ = wd
    replace HN : Hid (LoN pb W wd) := Lib.hid (by rw [← hwd]; exact HN.out.trans (LoN.below (below_drw (Below.refl _ _) _)))
    replace HB : Hid (wd.heap[W.heap.size]? = some (.cells #[.int .i64 0, .int .i64 0] 78 (0, 0))) := Lib.hid (by rw [← hwd]; exact HB.out)
    replace HP : Hid (PS pb k _ cw all dry sb sy _ wd) := Lib.hid (by rw [← hwd]; exact HP.out.up (below_drw (Below.refl _ _) _))
    clear hwd b22 b23 bf hd hw
    go_wp2_with (first | (go_at_call 68; (first | ((with_reducible refine (cfg_use HP.out 1).mono ?_))); (first | (rintro e w1 hr)); (first | (generalize hU : useS _ _ 1 _ = U at hr HV)); (first | (rcases U with c1 | ⟨n, r1⟩)); (first | (focus (obtain ⟨rfl, hl1⟩ := hr; obtain rfl := HV.out; exact ⟨rfl, rfl, HN.out.trans hl1⟩))); (first | (obtain ⟨rfl, hp1, hl1⟩ := hr)); (first | (simp only [encI])); (first | (simp only [bindS] at HV)); (first | (skip)); (first | (replace HP := Lib.hid hp1)); (first | (replace HN := Lib.hid (HN.out.trans hl1))); (first | (replace HB := Lib.hid ((hl1.blk W.heap.size (lt_of_heap HB.out) (by simpa using HNE.out)).trans HB.out))); (first | (obtain ⟨n0, n1, nf⟩ := two_cells HB.out)); (first | (clear hp1 hl1 hU))))
    have HB2 := heap_setCell_same _ _ 0 _ _ (.int .i64 1) HB.out
    obtain rfl := HV.out
    exact bodyPost_ret (v := .agg #[.int .i64 1, .int .i64 n]) (by simp [results, Tryz.results69, go_sem, n0, n1, nf]) rfl ⟨rfl, (HP.out.setO (j := 0) H0.out (Nat.le_refl _) _).setO (j := 1) H0.out (Nat.le_refl _) _, LoP.trans (LoP.trans HN.out (LoP.setC (j := 0) HB.out (.inr (Nat.le_refl _)) HN.out.size _)) (LoP.setC (j := 1) HB2 (.inr (Nat.le_refl _)) (by simpa using HN.out.size) _)⟩
 ·have HB2 := heap_setCell_same _ _ 0 _ _ (.int .i64 4) HB.out
  obtain rfl := HV.out
  exact bodyPost_ret (v := .agg #[.int .i64 4, .int .i64 n]) (by simp [results, Tryz.results69, go_sem, n0, n1, nf]) rfl ⟨rfl, (HP.out.setO (j := 0) H0.out (Nat.le_refl _) _).setO (j := 1) H0.out (Nat.le_refl _) _, LoP.trans (LoP.trans HN.out (LoP.setC (j := 0) HB.out (.inr (Nat.le_refl _)) HN.out.size _)) (LoP.setC (j := 1) HB2 (.inr (Nat.le_refl _)) (by simpa using HN.out.size) _)⟩
 ·have HB2 := heap_setCell_same _ _ 0 _ _ (.int .i64 3) HB.out
  obtain rfl := HV.out
  exact bodyPost_ret (v := .agg #[.int .i64 3, .int .i64 n]) (by simp [results, Tryz.results69, go_sem, n0, n1, nf]) rfl ⟨rfl, (HP.out.setO (j := 0) H0.out (Nat.le_refl _) _).setO (j := 1) H0.out (Nat.le_refl _) _, LoP.trans (LoP.trans HN.out (LoP.setC (j := 0) HB.out (.inr (Nat.le_refl _)) HN.out.size _)) (LoP.setC (j := 1) HB2 (.inr (Nat.le_refl _)) (by simpa using HN.out.size) _)⟩
end
end Go.Proofs.YtfimacgmciogmaaGreatDoor
namespace Go.Proofs.YtfimacgmciogmaaGreatDoor
set_option linter.unusedSimpArgs false
set_option linter.unusedVariables false
open Go.RowKit Go.Shelf Go.Sort
open Go.Maps (Keyed)
theorem laid_out : laidOutB Tryz.prog = true := by kernel_rfl
theorem key_pfx : Keyed Tryz.prog 70 := Keyed.of_law (deep_law_laid laid_out (m := 2) (by omega) (of_decide_eq_true (by kernel_rfl)) (by kernel_rfl) (by kernel_rfl))
theorem key_two : Keyed Tryz.prog 42 := Keyed.of_law (deep_law_laid laid_out (m := 2) (by omega) (of_decide_eq_true (by kernel_rfl)) (by kernel_rfl) (by kernel_rfl))
theorem lits_int {P : Program} {d : Nat} {t : TypeId} {q : IntKind} {a : Int} (ht : P.underlying t = some (.int q)) (hw : (Lit.int q a).wf = true) : P.keyLits (d + 1) t [.int q a] = some [.int q a] := by
 simp [Program.keyLits, ht, hw]
theorem wf_i64 {a : Int} (h : inI a) : (Lit.int .i64 a).wf = true := by
 have e1 : IntKind.i64.min = -9223372036854775808 := by decide
 have e2 : IntKind.i64.max = 9223372036854775807 := by decide
 unfold inI at h
 simp [Lit.wf, e1, e2]
 omega
theorem keyTwo (a b : Int) (ha : inI a) (hb : inI b) : ∃ l, keyOf Tryz.prog 42 (.agg #[.int .i64 a, .int .i64 b]) = some l := by
 have wa := wf_i64 ha
 have wb := wf_i64 hb
 have hu := Tryz.underlying42
 have hc : Tryz.prog.cellsOf 42 = 2 := by kernel_rfl
 have hi : Tryz.prog.cellsOf 3 = 1 := by kernel_rfl
 have hk : Tryz.prog.keyType 42 = true := by kernel_rfl
 obtain ⟨n, hn⟩ : ∃ n, Tryz.prog.types.size = n + 1 := ⟨Tryz.prog.types.size - 1, by have : 0 < Tryz.prog.types.size := of_decide_eq_true (by kernel_rfl); omega⟩
 refine ⟨.string (keyBytes [.int .i64 a, .int .i64 b]), ?_⟩
 have hf : (Value.agg #[.int .i64 a, .int .i64 b]).formed Tryz.prog 42 = true := by simp [Value.formed, hu, hc]
 have hl : Tryz.prog.keyLits (Tryz.prog.types.size + 1) 42 [.int .i64 a, .int .i64 b] = some [.int .i64 a, .int .i64 b] := by
  rw [hn, Program.keyLits.eq_def]
  simp only [hu, hc, hi, List.length_cons, List.length_nil, Nat.zero_add, if_true]
  have e1 := lits_int (d := n) (a := a) Tryz.underlying3 wa
  have e2 := lits_int (d := n) (a := b) Tryz.underlying3 wb
  simp [List.range, List.range.loop, e1, e2]
 unfold keyOf
 rw [hu]
 simp only [hk, hf, Bool.and_self, if_true]
 show (Tryz.prog.keyLits (Tryz.prog.types.size + 1) 42 [.int .i64 a, .int .i64 b]).map _ = _
 rw [hl]
 rfl
theorem wf_u32 {a : Int} (h : 0 ≤ a ∧ a < 4294967296) : (Lit.int .u32 a).wf = true := by
 have e1 : IntKind.u32.min = 0 := by decide
 have e2 : IntKind.u32.max = 4294967295 := by decide
 simp [Lit.wf, e1, e2]
 omega
theorem keyPfx (a b : Int) (ha : 0 ≤ a ∧ a < 4294967296) (hb : inI b) : ∃ l, keyOf Tryz.prog 70 (.agg #[.int .u32 a, .int .i64 b]) = some l := by
 have wa := wf_u32 ha
 have wb := wf_i64 hb
 have hu := Tryz.underlying70
 have hc : Tryz.prog.cellsOf 70 = 2 := by kernel_rfl
 have hi : Tryz.prog.cellsOf 3 = 1 := by kernel_rfl
 have hi2 : Tryz.prog.cellsOf 68 = 1 := by kernel_rfl
 have hk : Tryz.prog.keyType 70 = true := by kernel_rfl
 obtain ⟨n, hn⟩ : ∃ n, Tryz.prog.types.size = n + 1 := ⟨Tryz.prog.types.size - 1, by have : 0 < Tryz.prog.types.size := of_decide_eq_true (by kernel_rfl); omega⟩
 refine ⟨.string (keyBytes [.int .u32 a, .int .i64 b]), ?_⟩
 have hf : (Value.agg #[.int .u32 a, .int .i64 b]).formed Tryz.prog 70 = true := by simp [Value.formed, hu, hc]
 have hl : Tryz.prog.keyLits (Tryz.prog.types.size + 1) 70 [.int .u32 a, .int .i64 b] = some [.int .u32 a, .int .i64 b] := by
  rw [hn, Program.keyLits.eq_def]
  simp only [hu, hc, List.length_cons, List.length_nil, Nat.zero_add]
  have e1 := lits_int (d := n) (a := a) Tryz.underlying68 wa
  have e2 := lits_int (d := n) (a := b) Tryz.underlying3 wb
  simp [e1, e2, hi, hi2]
 unfold keyOf
 rw [hu]
 simp only [hk, hf, Bool.and_self, if_true]
 show (Tryz.prog.keyLits (Tryz.prog.types.size + 1) 70 [.int .u32 a, .int .i64 b]).map _ = _
 rw [hl]
 rfl
theorem pfx_look {b : Nat} {l : List (Int × Int)} {W : World} (h : MapAt Tryz.prog 70 b (pfxL l) W) (x y : Int) (hx : 0 ≤ x ∧ x < 4294967296) (hy : inI y) : (Instr.lookup 48 (.map (some b)) (.agg #[.int .u32 x, .int .i64 y]) false).run Tryz.prog W = .ok (.bool (decide ((x, y) ∈ l))) W := by
 obtain ⟨kl, hk⟩ := keyPfx x y hx hy
 by_cases hm : (x, y) ∈ l
 ·rw [decide_eq_true hm]
  exact h.hit key_pfx Tryz.underlying48 hk false (List.mem_map.2 ⟨(x, y), hm, rfl⟩)
 ·rw [decide_eq_false hm]
  refine h.miss key_pfx Tryz.underlying48 (zero_bool W) hk false (fun z hz e => hm ?_)
  obtain ⟨⟨u, v⟩, hu, rfl⟩ := List.mem_map.1 hz
  have : u = x ∧ v = y := by simpa using e
  rw [← this.1, ← this.2]; exact hu
theorem pfx_store {b : Nat} {l : List (Int × Int)} {W : World} (h : MapAt Tryz.prog 70 b (pfxL l) W) (x y : Int) (hx : 0 ≤ x ∧ x < 4294967296) (hy : inI y) (hm : (x, y) ∉ l) : ∃ W', (Instr.mapUpdate 48 (.map (some b)) (.agg #[.int .u32 x, .int .i64 y]) (.bool true)).run Tryz.prog W = .ok () W' ∧ MapAt Tryz.prog 70 b (pfxL (l ++ [(x, y)])) W' ∧ W.grownBy W' (some b) := by
 obtain ⟨kl, hk⟩ := keyPfx x y hx hy
 obtain ⟨W', h1, h2, h3⟩ := h.store key_pfx Tryz.underlying48 hk (.bool true) (fun z hz e => hm (by
  obtain ⟨⟨u, v⟩, hu, rfl⟩ := List.mem_map.1 hz
  have : u = x ∧ v = y := by simpa using e
  rw [← this.1, ← this.2]; exact hu))
 refine ⟨W', h1, ?_, h3⟩
 have e : pfxL (l ++ [(x, y)]) = pfxL l ++ [(.agg #[.int .u32 x, .int .i64 y], .bool true)] := by simp [pfxL]
 rw [e]; exact h2
theorem two_look {b : Nat} {l : List (Int × Int)} {W : World} (h : MapAt Tryz.prog 42 b (polL l) W) (x y : Int) (hx : inI x) (hy : inI y) : (Instr.lookup 49 (.map (some b)) (.agg #[.int .i64 x, .int .i64 y]) false).run Tryz.prog W = .ok (.bool (decide ((x, y) ∈ l))) W := by
 obtain ⟨kl, hk⟩ := keyTwo x y hx hy
 by_cases hm : (x, y) ∈ l
 ·rw [decide_eq_true hm]
  exact h.hit key_two Tryz.underlying49 hk false (List.mem_map.2 ⟨(x, y), hm, rfl⟩)
 ·rw [decide_eq_false hm]
  refine h.miss key_two Tryz.underlying49 (zero_bool W) hk false (fun z hz e => hm ?_)
  obtain ⟨⟨u, v⟩, hu, rfl⟩ := List.mem_map.1 hz
  have : u = x ∧ v = y := by simpa using e
  rw [← this.1, ← this.2]; exact hu
theorem two_store {b : Nat} {l : List (Int × Int)} {W : World} (h : MapAt Tryz.prog 42 b (polL l) W) (x y : Int) (hx : inI x) (hy : inI y) (hm : (x, y) ∉ l) : ∃ W', (Instr.mapUpdate 49 (.map (some b)) (.agg #[.int .i64 x, .int .i64 y]) (.bool true)).run Tryz.prog W = .ok () W' ∧ MapAt Tryz.prog 42 b (polL (l ++ [(x, y)])) W' ∧ W.grownBy W' (some b) := by
 obtain ⟨kl, hk⟩ := keyTwo x y hx hy
 obtain ⟨W', h1, h2, h3⟩ := h.store key_two Tryz.underlying49 hk (.bool true) (fun z hz e => hm (by
  obtain ⟨⟨u, v⟩, hu, rfl⟩ := List.mem_map.1 hz
  have : u = x ∧ v = y := by simpa using e
  rw [← this.1, ← this.2]; exact hu))
 refine ⟨W', h1, ?_, h3⟩
 have e : polL (l ++ [(x, y)]) = polL l ++ [(.agg #[.int .i64 x, .int .i64 y], .bool true)] := by simp [polL]
 rw [e]; exact h2
section
variable {B pb sb xb yb : Nat} {r : Rws} {c : Cf} {wv : Value} {i : Nat} {dry : Bool} {W w1 W' : World}
/-- A prefix is stored. -/
theorem St.keyX (x y : Int) (h : St B pb sb xb yb r c wv i dry W) (hx : 0 ≤ x ∧ x < 4294967296) (hy : inI y) (hm : (x, y) ∉ c.xk) :
  ∃ W', (Instr.mapUpdate 48 (.map (some xb)) (.agg #[.int .u32 x, .int .i64 y]) (.bool true)).run Tryz.prog W = .ok () W' ∧ St B pb sb xb yb r { c with xk := c.xk ++ [(x, y)] } wv i dry W' ∧ LoM B [pb, sb, xb, yb] W W' ∧ W.grownBy W' (some xb) := by
 obtain ⟨W', h1, h2, h3⟩ := pfx_store h.xm x y hx hy hm
 have hlt := h.bl.1
 have hs := h.sz
 have e : ∀ b, b ≠ xb → b < W.heap.size → W'.heap[b]? = W.heap[b]? := fun b hb hs => h3.block b hs (by simpa using hb)
 have hps : pb ≠ xb := fun e => by
  obtain ⟨es, cl, h1, _⟩ := h.xm
  rw [← e, h.blk] at h1; cases h1
 exact ⟨W', h1, ⟨(e pb hps (by omega)).trans h.blk, h.rows.keep fun g q1 q2 => e g (by omega) q2, h.sm.kept (e sb h.bl.2.1 h.sm.lt), h2, h.ym.kept (e yb h.bl.2.2.2.symm h.ym.lt), ⟨h.lim.names, h.lim.lnames, h.lim.links, h.lim.pfx, h.lim.pols, h.lim.dems, h.lim.ov, h.lim.tm, h.lim.giv, h.lim.sy⟩, h.ll, h.bl, Nat.le_trans h.sz h3.size⟩, LoM.ofMap h3 hs (by simp), h3⟩
theorem St.keyY (x y : Int) (h : St B pb sb xb yb r c wv i dry W) (hx : inI x) (hy : inI y) (hm : (x, y) ∉ c.yk) :
  ∃ W', (Instr.mapUpdate 49 (.map (some yb)) (.agg #[.int .i64 x, .int .i64 y]) (.bool true)).run Tryz.prog W = .ok () W' ∧ St B pb sb xb yb r { c with yk := c.yk ++ [(x, y)] } wv i dry W' ∧ LoM B [pb, sb, xb, yb] W W' ∧ W.grownBy W' (some yb) := by
 obtain ⟨W', h1, h2, h3⟩ := two_store h.ym x y hx hy hm
 have hlt := h.bl.1
 have hs := h.sz
 have e : ∀ b, b ≠ yb → b < W.heap.size → W'.heap[b]? = W.heap[b]? := fun b hb hs => h3.block b hs (by simpa using hb)
 have hps : pb ≠ yb := fun e => by
  obtain ⟨es, cl, h1, _⟩ := h.ym
  rw [← e, h.blk] at h1; cases h1
 exact ⟨W', h1, ⟨(e pb hps (by omega)).trans h.blk, h.rows.keep fun g q1 q2 => e g (by omega) q2, h.sm.kept (e sb h.bl.2.2.1 h.sm.lt), h.xm.kept (e xb h.bl.2.2.2 h.xm.lt), h2, ⟨h.lim.names, h.lim.lnames, h.lim.links, h.lim.pfx, h.lim.pols, h.lim.dems, h.lim.ov, h.lim.tm, h.lim.giv, h.lim.sy⟩, h.ll, h.bl, Nat.le_trans h.sz h3.size⟩, LoM.ofMap h3 hs (by simp), h3⟩
end
end Go.Proofs.YtfimacgmciogmaaGreatDoor
namespace Go.Proofs.YtfimacgmciogmaaGreatDoor
set_option linter.unusedSimpArgs false
set_option linter.unusedVariables false
open Go.RowKit Go.Shelf Go.Sort
def segsS (dry : Bool) (sy : SymS) : Nat → List (Int × Int) → List (List UInt8) → PR (List (Int × Int))
 | 0, _, _ => .error 0
 | _ + 1, l, [] => .ok (l, [])
 | f + 1, l, w :: r => bindS (segS dry sy (w :: r)) fun g q => segsS dry sy f (l ++ [g]) q
def policyS (dry : Bool) (c : Cf) (ws : List (List UInt8)) : Except Int Cf :=
 bindS (useS dry c.sym 1 ws) fun a r1 => bindS (valueS dry c.sym 0 65535 r1) fun b r2 => bindS (expectS kEq r2) fun _ r3 => bindS (segsS dry c.sym (r3.length + 1) [] r3) fun l r4 =>
  effS (finP dry (decide ((a, b) ∈ c.yk)) (decide (c.pols.length = 64) || decide (32 < l.length)) r4) c { c with yk := c.yk ++ [(a, b)], pols := c.pols ++ [(a, b, l)] }
theorem useS_len {dry : Bool} {sy : SymS} {kd v : Int} {ws r : List (List UInt8)} (e : useS dry sy kd ws = .ok (v, r)) : r.length < ws.length := by
 cases ws with
 | nil => cases e
 | cons w t =>
  simp only [useS] at e
  split at e
  ·cases hv : useOf dry kd (lookS sy w) with
   | error c => rw [hv] at e; cases e
   | ok v' =>
    rw [hv] at e
    injection e with e
    injection e with _ e
    subst e
    simp
  ·cases e
theorem seg_len {dry : Bool} {sy : SymS} {g : Int × Int} {ws r : List (List UInt8)} (e : segS dry sy ws = .ok (g, r)) : r.length < ws.length := by
 unfold segS at e
 cases h1 : acceptS kAny ws with
 | mk o1 q1 =>
  have l1 := accept_len h1
  rw [h1] at e
  cases o1 with
  | true =>
   simp only [bindS] at e
   cases h2 : valueS dry sy 1 64 q1 with
   | error c => rw [h2] at e; cases e
   | ok p =>
    obtain ⟨n, r'⟩ := p
    rw [h2] at e
    injection e with e
    injection e with _ e
    subst e
    have := valueS_len h2
    omega
  | false =>
   simp only at e
   cases h3 : acceptS kBind q1 with
   | mk o2 q2 =>
    have l2 := accept_len h3
    rw [h3] at e
    cases o2 with
    | true =>
     simp only [bindS] at e
     cases h2 : valueS dry sy 0 65535 q2 with
     | error c => rw [h2] at e; cases e
     | ok p =>
      obtain ⟨n, r'⟩ := p
      rw [h2] at e
      injection e with e
      injection e with _ e
      subst e
      have := valueS_len h2
      omega
    | false =>
     simp only [bindS] at e
     split at e
     ·cases h4 : useS dry sy 2 q2 with
      | error c => rw [h4] at e; cases e
      | ok p =>
       obtain ⟨n, r1⟩ := p
       have l4 := useS_len h4
       rw [h4] at e
       simp only at e
       cases r1 with
       | nil => simp only [nextS] at e; cases e
       | cons w t =>
        simp only [nextS] at e
        injection e with e
        injection e with _ e
        subst e
        simp at l4
        omega
     ·cases h4 : useS dry sy 1 q2 with
      | error c => rw [h4] at e; cases e
      | ok p =>
       obtain ⟨n, r1⟩ := p
       have l4 := useS_len h4
       rw [h4] at e
       injection e with e
       injection e with _ e
       subst e
       omega
theorem segInfo' : (Tryz.prog.info? 78).map (fun i => (i.zero, i.size, i.bytes)) = some (some (.agg #[.int .i64 0, .int .i64 0]), 2, 16) := by kernel_rfl
theorem polInfo' : (Tryz.prog.info? 76).map (fun i => (i.zero, i.size, i.bytes)) = some (some (.agg #[.int .i64 0, .int .i64 0, .slice none 0 0]), 3, 40) := by kernel_rfl
/-- The policy that is being read. -/
structure PP (lb n0 : Nat) (a b : Int) (l : List (Int × Int)) (Al : Option Addr) (cl : Nat) (W : World) : Prop where
 b : W.heap[lb]? = some (.cells #[.int .i64 a, .int .i64 b, .slice Al l.length cl] 76 (0, 0))
 o : W.ownsRow (lb + 1) 78 2 (.slice Al l.length cl) l.length (l.flatMap sgV)
 h : n0 ≤ lb
section
variable {lb n0 pb : Nat} {a b : Int} {l : List (Int × Int)} {Al : Option Addr} {cl g cap : Nat} {x : Int × Int} {W W' w1 : World} {tmp : Obj}
theorem PP.lt (h : PP lb n0 a b l Al cl W) : lb < W.heap.size := lt_of_heap h.b
theorem PP.lo (h : PP lb n0 a b l Al cl W) (hl : LoN pb W W') (hp : pb < n0) : PP lb n0 a b l Al cl W' :=
 ⟨(hl.blk lb h.lt (by simp; have := h.h; omega)).trans h.b, own_keepG h.o fun g e => hl.blk g (h.o.lt g e).2 (by simp; have := h.h; have := (h.o.lt g e).1; omega), h.h⟩
theorem PP.push (h : PP lb n0 a b l Al cl W) (hown : w1.ownsRow (lb + 1) 78 2 (.slice (some ⟨g, 0, none⟩) (l.length + 1) cap) (l.length + 1) (l.flatMap sgV ++ sgV x)) (hg : (W.alloc tmp).grownBy w1 (Value.slice Al l.length cl).ownBlock) :
  PP lb n0 a b (l ++ [x]) (some ⟨g, 0, none⟩) cap (w1.setCell ⟨lb, 2, none⟩ (.slice (some ⟨g, 0, none⟩) (l.length + 1) cap)) ∧ LoP n0 [] W (w1.setCell ⟨lb, 2, none⟩ (.slice (some ⟨g, 0, none⟩) (l.length + 1) cap)) ∧ w1.cell? ⟨lb, 2, none⟩ = some (.slice Al l.length cl) ∧ w1.frozen? ⟨lb, 2, none⟩ = false := by
 have hlt := h.lt
 have hh := h.h
 have hb1 : w1.heap[lb]? = W.heap[lb]? := (hg.block lb (by simp; omega) (fun e => by have := h.o.lt _ e.symm; omega)).trans (Below.heap_alloc W _ _ hlt)
 have hblk := hb1.trans h.b
 have hl : LoP n0 [] W w1 := (LoP.append h.o hg (by omega)).weak (by omega)
 refine ⟨⟨?_, ?_, h.h⟩, hl.trans (LoP.setC hblk (.inr hh) (by have := hl.size; omega) _), (Lib.cell_of_heap hblk 2).trans rfl, Lib.frozen_of_heap hblk 2⟩
 ·rw [heap_setCell_same _ _ 2 _ _ _ hblk]
  simp
 ·have := own_setT (j := 2) hown (g := lb) (fun e => by have := hown.lt _ e; omega) (.slice (some ⟨g, 0, none⟩) (l.length + 1) cap)
  simpa using this
end
section
variable {B pb sb xb yb : Nat} {r : Rws} {c : Cf} {wv : Value} {i : Nat} {dry : Bool} {W w1 W' : World}
/-- A new list of segments joins the rows. -/
theorem Rows.join {L : List Row} {R : Row} (h : Rows B L W) (ho : W.ownsRow B R.e R.s (.slice R.A R.n R.c) R.n R.xs) (hf : ∀ g, fldA R.A = some g → ∀ S ∈ L, fldA S.A ≠ some g) : Rows B (L ++ [R]) W :=
 ⟨fun S hS => by
  rcases List.mem_append.1 hS with hS | hS
  ·exact h.own S hS
  ·simp at hS; subst hS; exact ho, List.pairwise_append.2 ⟨h.apart, by simp, fun S hS T hT => by
  simp at hT; subst hT
  intro g e e'
  exact hf g e' S hS e⟩⟩
theorem St.pushQ {a b : Int} {l : List (Int × Int)} {Al : Option Addr} {cl g cap : Nat} {tmp : Obj} (h : St B pb sb xb yb r c wv i dry W) (hown : w1.ownsRow B 76 3 (.slice (some ⟨g, 0, none⟩) (c.pols.length + 1) cap) (c.pols.length + 1) ((c.pols.zip r.ls).flatMap plV ++ plV ((a, b, l), (Al, cl))))
  (hg : (W.alloc tmp).grownBy w1 (Value.slice r.aQ c.pols.length r.cQ).ownBlock) (hat : (Value.slice r.aQ c.pols.length r.cQ).ownBlock = some g ∨ g = (W.alloc tmp).heap.size) (hlim : c.pols.length < 64)
  (ho : W.ownsRow B 78 2 (.slice Al l.length cl) l.length (l.flatMap sgV)) (hf : ∀ g, fldA Al = some g → ∀ S ∈ rowsOf r c, fldA S.A ≠ some g) :
  St B pb sb xb yb { r with aQ := some ⟨g, 0, none⟩, cQ := cap, ls := r.ls ++ [(Al, cl)] } { c with pols := c.pols ++ [(a, b, l)] } wv i dry (w1.setCell ⟨pb, 6, none⟩ (.slice (some ⟨g, 0, none⟩) (c.pols.length + 1) cap)) ∧ LoM B [pb, sb, xb, yb] W (w1.setCell ⟨pb, 6, none⟩ (.slice (some ⟨g, 0, none⟩) (c.pols.length + 1) cap)) ∧ w1.cell? ⟨pb, 6, none⟩ = some (.slice r.aQ c.pols.length r.cQ) ∧ w1.frozen? ⟨pb, 6, none⟩ = false := by
 have hj := Rows.join (R := ⟨78, 2, Al, cl, l.length, l.flatMap sgV⟩) h.rows ho hf
 have hr := Rows.push (L1 := [_, _, _, _]) (R := ⟨76, 3, r.aQ, r.cQ, c.pols.length, (c.pols.zip r.ls).flatMap plV⟩) hj hown hg hat
 have hz : (c.pols ++ [(a, b, l)]).zip (r.ls ++ [(Al, cl)]) = c.pols.zip r.ls ++ [((a, b, l), (Al, cl))] := by
  rw [List.zip_append h.ll.symm]; rfl
 refine h.pushG (h.loA h.ownQ hg) (r' := { r with aQ := some ⟨g, 0, none⟩, cQ := cap, ls := r.ls ++ [(Al, cl)] }) (c' := { c with pols := c.pols ++ [(a, b, l)] }) ?_ (by decide) (by simp [kOf]) rfl rfl rfl ⟨h.lim.names, h.lim.lnames, h.lim.links, h.lim.pfx, by simp; omega, h.lim.dems, h.lim.ov, h.lim.tm, h.lim.giv, h.lim.sy⟩ (by simp [h.ll])
 simpa [rowsOf, hz] using hr
theorem St.pushP {x : Int × Int × Int} {g cap : Nat} {tmp : Obj} (h : St B pb sb xb yb r c wv i dry W) (hown : w1.ownsRow B 72 3 (.slice (some ⟨g, 0, none⟩) (c.pfx.length + 1) cap) (c.pfx.length + 1) (c.pfx.flatMap pfV ++ pfV x))
  (hg : (W.alloc tmp).grownBy w1 (Value.slice r.aP c.pfx.length r.cP).ownBlock) (hat : (Value.slice r.aP c.pfx.length r.cP).ownBlock = some g ∨ g = (W.alloc tmp).heap.size) (hlim : c.pfx.length < 100000) :
  St B pb sb xb yb { r with aP := some ⟨g, 0, none⟩, cP := cap } { c with pfx := c.pfx ++ [x] } wv i dry (w1.setCell ⟨pb, 5, none⟩ (.slice (some ⟨g, 0, none⟩) (c.pfx.length + 1) cap)) ∧ LoM B [pb, sb, xb, yb] W (w1.setCell ⟨pb, 5, none⟩ (.slice (some ⟨g, 0, none⟩) (c.pfx.length + 1) cap)) ∧ w1.cell? ⟨pb, 5, none⟩ = some (.slice r.aP c.pfx.length r.cP) ∧ w1.frozen? ⟨pb, 5, none⟩ = false := by
 have hr := Rows.push (L1 := [_, _, _]) (R := ⟨72, 3, r.aP, r.cP, c.pfx.length, c.pfx.flatMap pfV⟩) h.rows hown hg hat
 refine h.pushG (h.loA h.ownP hg) (r' := { r with aP := some ⟨g, 0, none⟩, cP := cap }) (c' := { c with pfx := c.pfx ++ [x] }) ?_ (by decide) (by simp [kOf]) rfl rfl rfl ⟨h.lim.names, h.lim.lnames, h.lim.links, by simp; omega, h.lim.pols, h.lim.dems, h.lim.ov, h.lim.tm, h.lim.giv, h.lim.sy⟩ h.ll
 simpa [rowsOf] using hr
end
end Go.Proofs.YtfimacgmciogmaaGreatDoor
