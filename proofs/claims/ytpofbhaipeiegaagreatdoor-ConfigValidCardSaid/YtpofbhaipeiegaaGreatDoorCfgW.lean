/-
  config's parser: segment (printed by gen_cfgw2.py).
-/
import Derived.Test.YtpofbhaipeiegaaGreatDoorCfgV
import Derived.Deep.QuietTactic
import Derived.IntWalk
namespace Go.Proofs.YtpofbhaipeiegaaGreatDoor
set_option linter.unusedSimpArgs false
set_option linter.unusedVariables false
open Go.RowKit Go.Shelf Go.Sort

def secB : List (List UInt8) → Bool
  | _ :: y :: _ => decide (y = [62] ∨ y = [60])
  | _ => false
def segS (dry : Bool) (sy : SymS) (ws : List (List UInt8)) : PR (Int × Int) :=
  match acceptS kAny ws with
  | (true, q) => bindS (valueS dry sy 1 64 q) fun n r => .ok ((3, n), r)
  | (false, q) => match acceptS kBind q with
    | (true, q2) => bindS (valueS dry sy 0 65535 q2) fun n r => .ok ((4, n), r)
    | (false, q2) => if secB q2 = true then bindS (useS dry sy 2 q2) fun a r1 => bindS (nextS r1) fun w r2 => .ok ((2, if w = [60] then wrap64 (wrap64 (2 * a) + 1) else wrap64 (2 * a)), r2)
      else bindS (useS dry sy 1 q2) fun a r1 => .ok ((1, a), r1)
def encG (p : Int × Int) : Value := .agg #[.int .i64 p.1, .int .i64 p.2]
section
variable {pb : Nat} {k : List Value} {A : Option Addr} {cw : Nat} {all : List (List UInt8)} {dry : Bool} {sb : Nat} {sy : SymS} {rest : List (List UInt8)} {W : World}
theorem PS.word2 {x y : List UInt8} {t : List (List UInt8)} (h : PS pb k A cw all dry sb sy (x :: y :: t) W) : ∃ b o i, A = some ⟨b, o, none⟩ ∧ i = all.length - (t.length + 2) ∧ W.cell? ⟨b, o + (i + 1), none⟩ = some (.string ⟨y.toArray⟩) ∧ i + 1 < all.length := by
  obtain ⟨p, e⟩ := h.suf
  have hl := congrArg List.length e
  simp at hl
  have hx : all[all.length - (t.length + 2) + 1]? = some y := by
    rw [e]
    have : (p ++ x :: y :: t).length - (t.length + 2) + 1 = p.length + 1 := by simp only [List.length_append, List.length_cons]; omega
    rw [this, List.getElem?_append_right (by omega)]
    simp
  obtain ⟨b, o, h1, h2⟩ := h.rd.at_ (u := strW y) (by rw [List.getElem?_map, hx]; rfl)
  exact ⟨b, o, _, h1, rfl, h2, by omega⟩
set_option maxHeartbeats 8000000 in
set_option maxRecDepth 100000 in
theorem cfg_segment (h : PS pb k A cw all dry sb sy rest W) (hs : ∀ x ∈ sy, inI x.2.2) : Calls Tryz.prog 99 #[.pointer (some ⟨pb, 0, none⟩)] W (RetP pb k A cw all dry sb sy encG W (segS dry sy rest)) := by
  obtain ⟨V, hV⟩ : ∃ V, V = segS dry sy rest := ⟨_, rfl⟩
  rw [← hV]
  simp only [segS, kAny, kBind] at hV
  have HV := Lib.hid hV
  have H0 := Lib.hid h
  have HP := Lib.hid (h.up (below_box W (.cells #[.int .i64 0, .int .i64 0] 97)))
  have HN : Hid (LoN pb W (W.alloc (.cells #[.int .i64 0, .int .i64 0] 97))) := Lib.hid (LoN.below (below_box W _))
  have HB : Hid ((W.alloc (.cells #[.int .i64 0, .int .i64 0] 97)).heap[W.heap.size]? = some (.cells #[.int .i64 0, .int .i64 0] 97 (0, 0))) := Lib.hid (heap_alloc_new W _)
  have HSY := Lib.hid hs
  have hne1 : W.heap.size ≠ pb := Nat.ne_of_gt h.lt
  have hne2 : pb ≠ W.heap.size := Nat.ne_of_lt h.lt
  have HNE := Lib.hid hne1
  clear hV h hs
  go_enter Tryz.func99, Tryz.ntmps99
  go_wp2_with (first | (go_at_call 88; (first | ((with_reducible refine (cfg_accept HP.out _ (by decide)).mono ?_))); (first | (rintro e w1 hr)); (first | (generalize hU : acceptS _ _ = U at hr HV)); (first | (obtain ⟨o, q⟩ := U)); (first | (obtain ⟨rfl, hp1, hl1⟩ := hr)); (first | (replace HP := Lib.hid hp1)); (first | (replace HN := Lib.hid (HN.out.trans hl1))); (first | (replace HB := Lib.hid ((hl1.blk W.heap.size (lt_of_heap HB.out) (by simpa using HNE.out)).trans HB.out))); (first | (clear hp1 hl1 hU)); (first | (cases o <;> simp only [bindS] at HV))) | (go_at_call 94; (first | ((with_reducible refine (cfg_value HP.out HSY.out 1 64).mono ?_))); (first | (rintro e w1 hr)); (first | (generalize hU : valueS _ _ 1 64 _ = U at hr HV)); (first | (rcases U with c1 | ⟨n, r1⟩)); (first | (focus (obtain ⟨rfl, hl1⟩ := hr; obtain rfl := HV.out; exact ⟨rfl, rfl, HN.out.trans hl1⟩))); (first | (obtain ⟨rfl, hp1, hl1⟩ := hr)); (first | (simp only [encI])); (first | (simp only [bindS] at HV)); (first | (skip)); (first | (replace HP := Lib.hid hp1)); (first | (replace HN := Lib.hid (HN.out.trans hl1))); (first | (replace HB := Lib.hid ((hl1.blk W.heap.size (lt_of_heap HB.out) (by simpa using HNE.out)).trans HB.out))); (first | (obtain ⟨n0, n1, nf⟩ := two_cells HB.out)); (first | (clear hp1 hl1 hU))) | (go_at_call 94; (first | ((with_reducible refine (cfg_value HP.out HSY.out 0 65535).mono ?_))); (first | (rintro e w1 hr)); (first | (generalize hU : valueS _ _ 0 65535 _ = U at hr HV)); (first | (rcases U with c1 | ⟨n, r1⟩)); (first | (focus (obtain ⟨rfl, hl1⟩ := hr; obtain rfl := HV.out; exact ⟨rfl, rfl, HN.out.trans hl1⟩))); (first | (obtain ⟨rfl, hp1, hl1⟩ := hr)); (first | (simp only [encI])); (first | (simp only [bindS] at HV)); (first | (skip)); (first | (replace HP := Lib.hid hp1)); (first | (replace HN := Lib.hid (HN.out.trans hl1))); (first | (replace HB := Lib.hid ((hl1.blk W.heap.size (lt_of_heap HB.out) (by simpa using HNE.out)).trans HB.out))); (first | (obtain ⟨n0, n1, nf⟩ := two_cells HB.out)); (first | (clear hp1 hl1 hU))))
  · have hal : all.length ≤ 10000 := HP.out.al.1
    cases q with
    | nil =>
      obtain ⟨b22, b23, _, _, bf⟩ := HP.out.cells
      simp only [List.length_nil, Nat.sub_zero] at b23
      replace HV : Hid (V = bindS (useS dry sy 1 []) fun a r1 => .ok ((1, a), r1)) := Lib.hid HV.out
      obtain ⟨i, hi⟩ : ∃ i, i = all.length := ⟨_, rfl⟩
      rw [← hi] at b23
      have hd : decide ((i : Int) + 1 < (all.length : Int)) = false := by rw [hi]; exact decide_eq_false (by omega)
      have hw : IntKind.i64.wrap ((i : Int) + 1) = (i : Int) + 1 := IntWalk.i64_in _ (by omega)
      clear hi hal
      go_quiet (fail)
      generalize hwd : World.drewN w1 _ = wd
      replace HN : Hid (LoN pb W wd) := Lib.hid (by rw [← hwd]; exact HN.out.trans (LoN.below (below_drw (Below.refl _ _) _)))
      replace HB : Hid (wd.heap[W.heap.size]? = some (.cells #[.int .i64 0, .int .i64 0] 97 (0, 0))) := Lib.hid (by rw [← hwd]; exact HB.out)
      replace HP : Hid (PS pb k _ cw all dry sb sy _ wd) := Lib.hid (by rw [← hwd]; exact HP.out.up (below_drw (Below.refl _ _) _))
      clear hwd b22 b23 bf hd hw
      go_wp2_with (first | (go_at_call 98; (first | ((with_reducible refine (cfg_use HP.out 1).mono ?_))); (first | (rintro e w1 hr)); (first | (generalize hU : useS _ _ 1 _ = U at hr HV)); (first | (rcases U with c1 | ⟨n, r1⟩)); (first | (focus (obtain ⟨rfl, hl1⟩ := hr; obtain rfl := HV.out; exact ⟨rfl, rfl, HN.out.trans hl1⟩))); (first | (obtain ⟨rfl, hp1, hl1⟩ := hr)); (first | (simp only [encI])); (first | (simp only [bindS] at HV)); (first | (skip)); (first | (replace HP := Lib.hid hp1)); (first | (replace HN := Lib.hid (HN.out.trans hl1))); (first | (replace HB := Lib.hid ((hl1.blk W.heap.size (lt_of_heap HB.out) (by simpa using HNE.out)).trans HB.out))); (first | (obtain ⟨n0, n1, nf⟩ := two_cells HB.out)); (first | (clear hp1 hl1 hU))))
      have HB2 := heap_setCell_same _ _ 0 _ _ (.int .i64 1) HB.out
      obtain rfl := HV.out
      exact bodyPost_ret (v := .agg #[.int .i64 1, .int .i64 n]) (by simp [results, Tryz.results99, go_sem, n0, n1, nf]) rfl ⟨rfl, (HP.out.setO (j := 0) H0.out (Nat.le_refl _) _).setO (j := 1) H0.out (Nat.le_refl _) _, LoP.trans (LoP.trans HN.out (LoP.setC (j := 0) HB.out (.inr (Nat.le_refl _)) HN.out.size _)) (LoP.setC (j := 1) HB2 (.inr (Nat.le_refl _)) (by simpa using HN.out.size) _)⟩
    | cons x t =>
      cases t with
      | nil =>
        obtain ⟨b22, b23, _, _, bf⟩ := HP.out.cells
        have hln := HP.out.len
        simp only [List.length_cons, List.length_nil, Nat.zero_add] at b23 hln
        replace HV : Hid (V = bindS (useS dry sy 1 [x]) fun a r1 => .ok ((1, a), r1)) := Lib.hid HV.out
        obtain ⟨i, hi⟩ : ∃ i, i = all.length - 1 := ⟨_, rfl⟩
        rw [← hi] at b23
        have hd : decide ((i : Int) + 1 < (all.length : Int)) = false := decide_eq_false (by omega)
        have hw : IntKind.i64.wrap ((i : Int) + 1) = (i : Int) + 1 := IntWalk.i64_in _ (by omega)
        clear hi hal hln
        go_quiet (fail)
        generalize hwd : World.drewN w1 _ = wd
        replace HN : Hid (LoN pb W wd) := Lib.hid (by rw [← hwd]; exact HN.out.trans (LoN.below (below_drw (Below.refl _ _) _)))
        replace HB : Hid (wd.heap[W.heap.size]? = some (.cells #[.int .i64 0, .int .i64 0] 97 (0, 0))) := Lib.hid (by rw [← hwd]; exact HB.out)
        replace HP : Hid (PS pb k _ cw all dry sb sy _ wd) := Lib.hid (by rw [← hwd]; exact HP.out.up (below_drw (Below.refl _ _) _))
        clear hwd b22 b23 bf hd hw
        go_wp2_with (first | (go_at_call 98; (first | ((with_reducible refine (cfg_use HP.out 1).mono ?_))); (first | (rintro e w1 hr)); (first | (generalize hU : useS _ _ 1 _ = U at hr HV)); (first | (rcases U with c1 | ⟨n, r1⟩)); (first | (focus (obtain ⟨rfl, hl1⟩ := hr; obtain rfl := HV.out; exact ⟨rfl, rfl, HN.out.trans hl1⟩))); (first | (obtain ⟨rfl, hp1, hl1⟩ := hr)); (first | (simp only [encI])); (first | (simp only [bindS] at HV)); (first | (skip)); (first | (replace HP := Lib.hid hp1)); (first | (replace HN := Lib.hid (HN.out.trans hl1))); (first | (replace HB := Lib.hid ((hl1.blk W.heap.size (lt_of_heap HB.out) (by simpa using HNE.out)).trans HB.out))); (first | (obtain ⟨n0, n1, nf⟩ := two_cells HB.out)); (first | (clear hp1 hl1 hU))))
        have HB2 := heap_setCell_same _ _ 0 _ _ (.int .i64 1) HB.out
        obtain rfl := HV.out
        exact bodyPost_ret (v := .agg #[.int .i64 1, .int .i64 n]) (by simp [results, Tryz.results99, go_sem, n0, n1, nf]) rfl ⟨rfl, (HP.out.setO (j := 0) H0.out (Nat.le_refl _) _).setO (j := 1) H0.out (Nat.le_refl _) _, LoP.trans (LoP.trans HN.out (LoP.setC (j := 0) HB.out (.inr (Nat.le_refl _)) HN.out.size _)) (LoP.setC (j := 1) HB2 (.inr (Nat.le_refl _)) (by simpa using HN.out.size) _)⟩
      | cons y t =>
        obtain ⟨b22, b23, _, _, bf⟩ := HP.out.cells
        obtain ⟨b, o, i, rfl, hi, b24, hlt⟩ := HP.out.word2
        simp only [List.length_cons, Nat.add_assoc] at b23
        rw [show all.length - (t.length + (1 + 1)) = i from hi.symm] at b23
        have hd : decide ((i : Int) + 1 < (all.length : Int)) = true := decide_eq_true (by omega)
        have hw : IntKind.i64.wrap ((i : Int) + 1) = (i : Int) + 1 := IntWalk.i64_in _ (by omega)
        have hi0 : 0 ≤ (i : Int) + 1 := by omega
        have hi1 : ((i : Int) + 1).toNat = i + 1 := by omega
        clear hi hal
        by_cases hy1 : y = [62]
        · subst hy1
          replace HV : Hid (V = bindS (useS dry sy 2 (x :: [62] :: t)) fun a r1 => bindS (nextS r1) fun w r2 => .ok ((2, if w = [60] then wrap64 (wrap64 (2 * a) + 1) else wrap64 (2 * a)), r2)) := Lib.hid HV.out
          go_quiet (fail)
          generalize hwd : World.drewN w1 _ = wd
          replace HN : Hid (LoN pb W wd) := Lib.hid (by rw [← hwd]; exact HN.out.trans (LoN.below (below_drw (Below.refl _ _) _)))
          replace HB : Hid (wd.heap[W.heap.size]? = some (.cells #[.int .i64 0, .int .i64 0] 97 (0, 0))) := Lib.hid (by rw [← hwd]; exact HB.out)
          replace HP : Hid (PS pb k _ cw all dry sb sy _ wd) := Lib.hid (by rw [← hwd]; exact HP.out.up (below_drw (Below.refl _ _) _))
          clear hwd b22 b23 bf hd hw
          clear hi0 hi1 b24 hlt
          go_wp2_with (first | (go_at_call 98; (first | ((with_reducible refine (cfg_use HP.out 2).mono ?_))); (first | (rintro e w1 hr)); (first | (generalize hU : useS _ _ 2 _ = U at hr HV)); (first | (rcases U with c1 | ⟨n, r1⟩)); (first | (focus (obtain ⟨rfl, hl1⟩ := hr; obtain rfl := HV.out; exact ⟨rfl, rfl, HN.out.trans hl1⟩))); (first | (obtain ⟨rfl, hp1, hl1⟩ := hr)); (first | (simp only [encI])); (first | (simp only [bindS] at HV)); (first | (skip)); (first | (replace HP := Lib.hid hp1)); (first | (replace HN := Lib.hid (HN.out.trans hl1))); (first | (replace HB := Lib.hid ((hl1.blk W.heap.size (lt_of_heap HB.out) (by simpa using HNE.out)).trans HB.out))); (first | (clear hp1 hl1 hU))) | (go_at_call 93; (first | ((with_reducible refine (cfg_next HP.out).mono ?_))); (first | (rintro e w1 hr)); (first | (generalize hU : nextS _ = U at hr HV)); (first | (rcases U with c1 | ⟨w, r1⟩)); (first | (focus (obtain ⟨rfl, hl1⟩ := hr; obtain rfl := HV.out; exact ⟨rfl, rfl, HN.out.trans hl1⟩))); (first | (obtain ⟨rfl, hp1, hl1⟩ := hr)); (first | (simp only [encS])); (first | (simp only [bindS] at HV)); (first | (skip)); (first | (replace HP := Lib.hid hp1)); (first | (replace HN := Lib.hid (HN.out.trans hl1))); (first | (replace HB := Lib.hid ((hl1.blk W.heap.size (lt_of_heap HB.out) (by simpa using HNE.out)).trans HB.out))); (first | (obtain ⟨n0, n1, nf⟩ := two_cells HB.out)); (first | (clear hp1 hl1 hU)); (first | (cases hw5 : (w == [60])))))
          all_goals first
            | (rw [if_pos (show w = [60] by simpa using hw5)] at HV; have HB2 := heap_setCell_same _ _ 0 _ _ (.int .i64 2) HB.out; obtain rfl := HV.out; exact bodyPost_ret (v := .agg #[.int .i64 2, .int .i64 (wrap64 (wrap64 (2 * n) + 1))]) (by simp [results, Tryz.results99, go_sem, n0, n1, nf]) rfl ⟨rfl, (HP.out.setO (j := 0) H0.out (Nat.le_refl _) _).setO (j := 1) H0.out (Nat.le_refl _) _, LoP.trans (LoP.trans HN.out (LoP.setC (j := 0) HB.out (.inr (Nat.le_refl _)) HN.out.size _)) (LoP.setC (j := 1) HB2 (.inr (Nat.le_refl _)) (by simpa using HN.out.size) _)⟩)
            | (rw [if_neg (show ¬ w = [60] by simpa using hw5)] at HV; have HB2 := heap_setCell_same _ _ 0 _ _ (.int .i64 2) HB.out; obtain rfl := HV.out; exact bodyPost_ret (v := .agg #[.int .i64 2, .int .i64 (wrap64 (2 * n))]) (by simp [results, Tryz.results99, go_sem, n0, n1, nf]) rfl ⟨rfl, (HP.out.setO (j := 0) H0.out (Nat.le_refl _) _).setO (j := 1) H0.out (Nat.le_refl _) _, LoP.trans (LoP.trans HN.out (LoP.setC (j := 0) HB.out (.inr (Nat.le_refl _)) HN.out.size _)) (LoP.setC (j := 1) HB2 (.inr (Nat.le_refl _)) (by simpa using HN.out.size) _)⟩)
        by_cases hy2 : y = [60]
        · subst hy2
          clear hy1
          replace HV : Hid (V = bindS (useS dry sy 2 (x :: [60] :: t)) fun a r1 => bindS (nextS r1) fun w r2 => .ok ((2, if w = [60] then wrap64 (wrap64 (2 * a) + 1) else wrap64 (2 * a)), r2)) := Lib.hid HV.out
          go_quiet (fail)
          generalize hwd : World.drewN w1 _ = wd
          replace HN : Hid (LoN pb W wd) := Lib.hid (by rw [← hwd]; exact HN.out.trans (LoN.below (below_drw (Below.refl _ _) _)))
          replace HB : Hid (wd.heap[W.heap.size]? = some (.cells #[.int .i64 0, .int .i64 0] 97 (0, 0))) := Lib.hid (by rw [← hwd]; exact HB.out)
          replace HP : Hid (PS pb k _ cw all dry sb sy _ wd) := Lib.hid (by rw [← hwd]; exact HP.out.up (below_drw (Below.refl _ _) _))
          clear hwd b22 b23 bf hd hw
          clear hi0 hi1 b24 hlt
          go_wp2_with (first | (go_at_call 98; (first | ((with_reducible refine (cfg_use HP.out 2).mono ?_))); (first | (rintro e w1 hr)); (first | (generalize hU : useS _ _ 2 _ = U at hr HV)); (first | (rcases U with c1 | ⟨n, r1⟩)); (first | (focus (obtain ⟨rfl, hl1⟩ := hr; obtain rfl := HV.out; exact ⟨rfl, rfl, HN.out.trans hl1⟩))); (first | (obtain ⟨rfl, hp1, hl1⟩ := hr)); (first | (simp only [encI])); (first | (simp only [bindS] at HV)); (first | (skip)); (first | (replace HP := Lib.hid hp1)); (first | (replace HN := Lib.hid (HN.out.trans hl1))); (first | (replace HB := Lib.hid ((hl1.blk W.heap.size (lt_of_heap HB.out) (by simpa using HNE.out)).trans HB.out))); (first | (clear hp1 hl1 hU))) | (go_at_call 93; (first | ((with_reducible refine (cfg_next HP.out).mono ?_))); (first | (rintro e w1 hr)); (first | (generalize hU : nextS _ = U at hr HV)); (first | (rcases U with c1 | ⟨w, r1⟩)); (first | (focus (obtain ⟨rfl, hl1⟩ := hr; obtain rfl := HV.out; exact ⟨rfl, rfl, HN.out.trans hl1⟩))); (first | (obtain ⟨rfl, hp1, hl1⟩ := hr)); (first | (simp only [encS])); (first | (simp only [bindS] at HV)); (first | (skip)); (first | (replace HP := Lib.hid hp1)); (first | (replace HN := Lib.hid (HN.out.trans hl1))); (first | (replace HB := Lib.hid ((hl1.blk W.heap.size (lt_of_heap HB.out) (by simpa using HNE.out)).trans HB.out))); (first | (obtain ⟨n0, n1, nf⟩ := two_cells HB.out)); (first | (clear hp1 hl1 hU)); (first | (cases hw5 : (w == [60])))))
          all_goals first
            | (rw [if_pos (show w = [60] by simpa using hw5)] at HV; have HB2 := heap_setCell_same _ _ 0 _ _ (.int .i64 2) HB.out; obtain rfl := HV.out; exact bodyPost_ret (v := .agg #[.int .i64 2, .int .i64 (wrap64 (wrap64 (2 * n) + 1))]) (by simp [results, Tryz.results99, go_sem, n0, n1, nf]) rfl ⟨rfl, (HP.out.setO (j := 0) H0.out (Nat.le_refl _) _).setO (j := 1) H0.out (Nat.le_refl _) _, LoP.trans (LoP.trans HN.out (LoP.setC (j := 0) HB.out (.inr (Nat.le_refl _)) HN.out.size _)) (LoP.setC (j := 1) HB2 (.inr (Nat.le_refl _)) (by simpa using HN.out.size) _)⟩)
            | (rw [if_neg (show ¬ w = [60] by simpa using hw5)] at HV; have HB2 := heap_setCell_same _ _ 0 _ _ (.int .i64 2) HB.out; obtain rfl := HV.out; exact bodyPost_ret (v := .agg #[.int .i64 2, .int .i64 (wrap64 (2 * n))]) (by simp [results, Tryz.results99, go_sem, n0, n1, nf]) rfl ⟨rfl, (HP.out.setO (j := 0) H0.out (Nat.le_refl _) _).setO (j := 1) H0.out (Nat.le_refl _) _, LoP.trans (LoP.trans HN.out (LoP.setC (j := 0) HB.out (.inr (Nat.le_refl _)) HN.out.size _)) (LoP.setC (j := 1) HB2 (.inr (Nat.le_refl _)) (by simpa using HN.out.size) _)⟩)
        have hs : secB (x :: y :: t) = false := by simp only [secB]; exact decide_eq_false (by rintro (e | e); exact hy1 e; exact hy2 e)
        replace HV : Hid (V = bindS (useS dry sy 1 (x :: y :: t)) fun a r1 => .ok ((1, a), r1)) := Lib.hid (by have := HV.out; rw [hs] at this; exact this)
        have y1 : (y == [62]) = false := by simpa using hy1
        have y2 : (y == [60]) = false := by simpa using hy2
        clear hy1 hy2 hs
        go_quiet (fail)
        generalize hwd : World.drewN w1 _ = wd
        replace HN : Hid (LoN pb W wd) := Lib.hid (by rw [← hwd]; exact HN.out.trans (LoN.below (below_drw (Below.refl _ _) _)))
        replace HB : Hid (wd.heap[W.heap.size]? = some (.cells #[.int .i64 0, .int .i64 0] 97 (0, 0))) := Lib.hid (by rw [← hwd]; exact HB.out)
        replace HP : Hid (PS pb k _ cw all dry sb sy _ wd) := Lib.hid (by rw [← hwd]; exact HP.out.up (below_drw (Below.refl _ _) _))
        clear hwd b22 b23 bf hd hw
        go_wp2_with (first | (go_at_call 98; (first | ((with_reducible refine (cfg_use HP.out 1).mono ?_))); (first | (rintro e w1 hr)); (first | (generalize hU : useS _ _ 1 _ = U at hr HV)); (first | (rcases U with c1 | ⟨n, r1⟩)); (first | (focus (obtain ⟨rfl, hl1⟩ := hr; obtain rfl := HV.out; exact ⟨rfl, rfl, HN.out.trans hl1⟩))); (first | (obtain ⟨rfl, hp1, hl1⟩ := hr)); (first | (simp only [encI])); (first | (simp only [bindS] at HV)); (first | (skip)); (first | (replace HP := Lib.hid hp1)); (first | (replace HN := Lib.hid (HN.out.trans hl1))); (first | (replace HB := Lib.hid ((hl1.blk W.heap.size (lt_of_heap HB.out) (by simpa using HNE.out)).trans HB.out))); (first | (obtain ⟨n0, n1, nf⟩ := two_cells HB.out)); (first | (clear hp1 hl1 hU))))
        have HB2 := heap_setCell_same _ _ 0 _ _ (.int .i64 1) HB.out
        obtain rfl := HV.out
        exact bodyPost_ret (v := .agg #[.int .i64 1, .int .i64 n]) (by simp [results, Tryz.results99, go_sem, n0, n1, nf]) rfl ⟨rfl, (HP.out.setO (j := 0) H0.out (Nat.le_refl _) _).setO (j := 1) H0.out (Nat.le_refl _) _, LoP.trans (LoP.trans HN.out (LoP.setC (j := 0) HB.out (.inr (Nat.le_refl _)) HN.out.size _)) (LoP.setC (j := 1) HB2 (.inr (Nat.le_refl _)) (by simpa using HN.out.size) _)⟩
  · have HB2 := heap_setCell_same _ _ 0 _ _ (.int .i64 4) HB.out
    obtain rfl := HV.out
    exact bodyPost_ret (v := .agg #[.int .i64 4, .int .i64 n]) (by simp [results, Tryz.results99, go_sem, n0, n1, nf]) rfl ⟨rfl, (HP.out.setO (j := 0) H0.out (Nat.le_refl _) _).setO (j := 1) H0.out (Nat.le_refl _) _, LoP.trans (LoP.trans HN.out (LoP.setC (j := 0) HB.out (.inr (Nat.le_refl _)) HN.out.size _)) (LoP.setC (j := 1) HB2 (.inr (Nat.le_refl _)) (by simpa using HN.out.size) _)⟩
  · have HB2 := heap_setCell_same _ _ 0 _ _ (.int .i64 3) HB.out
    obtain rfl := HV.out
    exact bodyPost_ret (v := .agg #[.int .i64 3, .int .i64 n]) (by simp [results, Tryz.results99, go_sem, n0, n1, nf]) rfl ⟨rfl, (HP.out.setO (j := 0) H0.out (Nat.le_refl _) _).setO (j := 1) H0.out (Nat.le_refl _) _, LoP.trans (LoP.trans HN.out (LoP.setC (j := 0) HB.out (.inr (Nat.le_refl _)) HN.out.size _)) (LoP.setC (j := 1) HB2 (.inr (Nat.le_refl _)) (by simpa using HN.out.size) _)⟩
end

end Go.Proofs.YtpofbhaipeiegaaGreatDoor
