/-
  config's parser: link, the walk (printed by gen_cfgv.py).
-/
import Derived.Test.YtfimacgmciogmaaGreatDoorPkCfgT
namespace Go.Proofs.YtfimacgmciogmaaGreatDoor
set_option linter.unusedSimpArgs false
set_option linter.unusedVariables false
open Go.RowKit Go.Shelf Go.Sort
section
variable {B pb sb xb yb : Nat} {r : Rws} {c : Cf} {A : Option Addr} {cw : Nat} {all : List (List UInt8)} {dry : Bool} {rest rest' : List (List UInt8)} {W W' : World}
set_option maxHeartbeats 16000000 in
set_option maxRecDepth 100000 in
theorem cfg_link (h : LS B pb sb xb yb r c A cw all dry rest W) : Calls Tryz.prog 34 #[.pointer (some ⟨pb, 0, none⟩)] W (RetS B pb sb xb yb r c A cw all dry W (linkS dry c rest)) := by
 obtain ⟨i0, hi, hz0, hz1, hz2⟩ := info_parts strInfo'
 obtain ⟨j0, hj, hj0, hj1, hj2⟩ := info_parts lnkInfo'
 obtain ⟨V, hV⟩ : ∃ V, V = linkS dry c rest := ⟨_, rfl⟩
 rw [← hV]
 simp only [linkS] at hV
 have HV := Lib.hid hV
 have H0 := Lib.hid h
 have HP := Lib.hid h.ps
 have HN := Lib.hid (LoN.refl pb W)
 have HSY := Lib.hid h.st.lim.sy
 have hmm := @run_makeMap Tryz.prog
 obtain ⟨full, hfu⟩ : ∃ full, full = decide (c.lnames.length = 256) := ⟨_, rfl⟩
 have HFU := Lib.hid hfu
 clear hfu
 clear hV h
 go_enter Tryz.func34, Tryz.ntmps34
 go_wp2_with (first | (go_at_call 57; (first | ((with_reducible refine (cfg_name HP.out).mono ?_))); (first | (rintro e w1 hr)); (first | (generalize hU : nameS _ = U at hr HV)); (first | (rcases U with c1 | ⟨x, r1⟩)); (first | (focus (obtain ⟨rfl, hl1⟩ := hr; obtain rfl := HV.out; exact ⟨rfl, rfl, (HN.out.trans hl1)⟩))); (first | (obtain ⟨rfl, hp1, hl1⟩ := hr)); (first | (simp only [encS])); (first | (simp only [bindS] at HV)); (first | (have HXL := Lib.hid (nameS_len hU))); (first | (replace HP := Lib.hid hp1)); (first | (replace HN := Lib.hid (HN.out.trans hl1))); (first | (skip)); (first | (clear hp1 hl1 hU))) | (go_at_call 61; (first | ((with_reducible refine (cfg_ends HP.out).mono ?_))); (first | (rintro e wl hr)); (first | (generalize hU : endsS _ _ _ = U at hr HV)); (first | (rcases U with c1 | ⟨⟨a, b⟩, r1⟩)); (first | (focus (obtain ⟨rfl, hl1⟩ := hr; obtain rfl := HV.out; exact ⟨rfl, rfl, (HN.out.trans hl1)⟩))); (first | (obtain ⟨rfl, hp1, hl1⟩ := hr)); (first | (simp only [encII])); (first | (simp only [bindS] at HV)); (first | (skip)); (first | (replace HP := Lib.hid hp1)); (first | (replace HN := Lib.hid (HN.out.trans hl1))); (first | (skip)); (first | (clear hp1 hl1 hU))))
 obtain ⟨a0, ha0⟩ : ∃ a0 : Lnk, a0 = ⟨a, b, 1, 1, 0, 1, 0⟩ := ⟨_, rfl⟩
 have HL0 := Lib.hid ha0
 have HPW := Lib.hid H0.out.ps.lt
 have HO : Hid (OP wl.heap.size (wl.heap.size + 1) ⟨a, b, 1, 1, 0, 1, 0⟩ [] W.heap.size ((wl.alloc (.cells #[.int .i64 a, .int .i64 b, .int .i64 1, .int .i64 1, .int .i64 0, .int .i64 1, .int .i64 0] 44)).alloc (.map #[] 0))) := Lib.hid ⟨(Below.heap_alloc _ _ _ (by simp)).trans (heap_alloc_new wl _), (by have := MapAt.made Tryz.prog 9 (wl.alloc (.cells #[.int .i64 a, .int .i64 b, .int .i64 1, .int .i64 1, .int .i64 0, .int .i64 1, .int .i64 0] 44)); simpa [seenL] using this), HN.out.size, Nat.le_succ_of_le HN.out.size⟩
 replace HN := Lib.hid ((HN.out.trans (LoN.below (below_box wl (.cells #[.int .i64 a, .int .i64 b, .int .i64 1, .int .i64 1, .int .i64 0, .int .i64 1, .int .i64 0] 44)))).trans (LoN.below (below_box _ (.map #[] 0))))
 replace HP := Lib.hid ((HP.out.up (below_box wl (.cells #[.int .i64 a, .int .i64 b, .int .i64 1, .int .i64 1, .int .i64 0, .int .i64 1, .int .i64 0] 44))).up (below_box _ (.map #[] 0)))
 clear ha0 HL0 hmm
 go_loopw [] (fun wr => ∃ (f : Nat) (seen : List (List UInt8)) (l : Lnk) (ws : List (List UInt8)), Hid (PS pb (kOf r c sb xb yb) A cw all dry sb c.sym ws wr) ∧ Hid (LoN pb W wr) ∧ Hid (OP wl.heap.size (wl.heap.size + 1) l seen W.heap.size wr) ∧ Hid (V = bindS (optsS dry c.sym f seen l ws) fun l ws => linkK dry c x l ws) ∧ Hid (ws.length < f)) (fun wr => leftOf pb all.length wr)
 case atStart => exact ⟨_, _, _, _, HP, HN, HO, Lib.hid HV.out, Lib.hid (Nat.lt_succ_self _)⟩
 case round =>
  clear HP HN HO HV
  obtain ⟨f, seen, l, ws, HP, HN, HO, HV, HLN⟩ := hrel
  obtain ⟨f, rfl⟩ : ∃ f', f = f' + 1 := ⟨f - 1, by have := HLN.out; omega⟩
  cases ws with
  | cons w r2 =>
   have hwl : w.length ≤ 10000 := HP.out.wl.2
   have hwe : (w == []) = false := by have := HP.out.wl.1; simpa using this
   have hwe2 : w.isEmpty = false := by have := HP.out.wl.1; simpa using this
   have HLQ : Hid (leftOf pb all.length wr = r2.length + 1) := Lib.hid HP.out.left
   have HLE : Hid (r2.length ≤ r2.length) := Lib.hid (Nat.le_refl _)
   by_cases hm : w ∈ seen
   ·have HSEEN : Hid (decide (w ∈ seen) = true) := Lib.hid (decide_eq_true hm)
    have HR : Hid (V = .error 3) := Lib.hid (by rw [HV.out]; simp only [optsS, if_pos hm, bindS])
    clear hm
    go_wp2_with (first | (go_at_call 62; (first | ((with_reducible refine (cfg_peek HP.out).mono ?_))); (first | (rintro e w9 ⟨rfl, hb9⟩)); (first | (replace HO := Lib.hid (HO.out.lo (HP.out.up_lo hb9) HPW.out))); (first | (replace HN := Lib.hid (HN.out.trans (HP.out.up_lo hb9)))); (first | (replace HP := Lib.hid (HP.out.up hb9))); (first | (clear hb9)); (first | (simp only [peekS, List.headD_cons]))) | (go_at_call 63; (first | ((with_reducible refine (cfg_next HP.out).mono ?_))); (first | (rintro e w2 ⟨rfl, hp1, hl1⟩)); (first | (simp only [encS])); (first | (replace HP := Lib.hid hp1)); (first | (replace HN := Lib.hid (HN.out.trans hl1))); (first | (replace HO := Lib.hid (HO.out.lo hl1 HPW.out))); (first | (have hlk := seen_look HO.out.m w hwl)); (first | (rw [HSEEN.out] at hlk)); (first | (clear hp1 hl1))) | (go_at_call 40; (first | ((with_reducible refine (cfg_grammar_no _ _).mono ?_))); (first | (rintro e w9 ⟨rfl, rfl⟩)); (first | (refine ⟨rfl, ?_⟩)); (first | (rw [HR.out])); (first | (exact ⟨rfl, HN.out⟩))))
   have HSEEN : Hid (decide (w ∈ seen) = false) := Lib.hid (decide_eq_false hm)
   have HNM := Lib.hid hm
   have HE := Lib.hid (fun (U : PR Lnk) (e : optsS dry c.sym (f + 1) seen l (w :: r2) = U) => HV.out.trans (congrArg (fun u => bindS u fun l ws => linkK dry c x l ws) e))
   clear hm HV
   by_cases e0 : w = [99, 111, 115, 116]
   ·subst e0
    have HV := Lib.hid (HE.out _ (by simp only [optsS]; rw [if_neg HNM.out, if_pos (by decide)]))
    simp only [bindS, kBack] at HV
    clear HE
    have HMK : Hid True := Lib.hid trivial
    go_wp2_with (first | (go_at_call 62; (first | ((with_reducible refine (cfg_peek HP.out).mono ?_))); (first | (rintro e w9 ⟨rfl, hb9⟩)); (first | (replace HO := Lib.hid (HO.out.lo (HP.out.up_lo hb9) HPW.out))); (first | (replace HN := Lib.hid (HN.out.trans (HP.out.up_lo hb9)))); (first | (replace HP := Lib.hid (HP.out.up hb9))); (first | (clear hb9)); (first | (simp only [peekS, List.headD_cons]))) | (go_at_call 63; (first | ((with_reducible refine (cfg_next HP.out).mono ?_))); (first | (rintro e w2 ⟨rfl, hp1, hl1⟩)); (first | (simp only [encS])); (first | (replace HP := Lib.hid hp1)); (first | (replace HN := Lib.hid (HN.out.trans hl1))); (first | (replace HO := Lib.hid (HO.out.lo hl1 HPW.out))); (first | (have hlk := seen_look HO.out.m [99, 111, 115, 116] hwl)); (first | (rw [HSEEN.out] at hlk)); (first | (clear hp1 hl1)); (first | (obtain ⟨w5, hup, hm5, hg5⟩ := seen_store HO.out.m [99, 111, 115, 116] hwl HNM.out)); (first | (replace HP := Lib.hid (HP.out.mapO H0.out.ps hg5 HO.out.h.2))); (first | (replace HN := Lib.hid (HN.out.map hg5 HO.out.h.2))); (first | (replace HO : Hid (OP wl.heap.size (wl.heap.size + 1) l (seen ++ [[99, 111, 115, 116]]) W.heap.size w5) := Lib.hid ⟨(hg5.block _ (lt_of_heap HO.out.b) (fun e => HO.out.ne (by injection e with e))).trans HO.out.b, hm5, HO.out.h⟩)); (first | (clear hm5 hg5))) | (go_at_call 40; (first | ((with_reducible refine (cfg_grammar_ok _ _).mono ?_))); (first | (rintro e w9 ⟨rfl, rfl⟩))) | (go_at_call 64; (first | (have hk0 := HMK)); (first | (clear hk0 HMK)); (first | ((with_reducible refine (cfg_value HP.out HSY.out 1 65535).mono ?_))); (first | (rintro e w1 hr)); (first | (generalize hU : valueS _ _ 1 65535 _ = U at hr HV)); (first | (rcases U with c1 | ⟨v, r1⟩)); (first | (focus (obtain ⟨rfl, hl1⟩ := hr; obtain rfl := HV.out; exact ⟨rfl, rfl, (HN.out.trans hl1)⟩))); (first | (obtain ⟨rfl, hp1, hl1⟩ := hr)); (first | (simp only [encI])); (first | (simp only [bindS] at HV)); (first | (skip)); (first | (replace HP := Lib.hid hp1)); (first | (replace HN := Lib.hid (HN.out.trans hl1))); (first | (replace HO := Lib.hid (HO.out.lo hl1 HPW.out))); (first | (replace HLE := Lib.hid (Nat.le_trans (Nat.le_of_lt (valueS_len hU)) HLE.out))); (first | (obtain ⟨q0, q1, q2, q3, q4, q5, q6, qf⟩ := lk_cells HO.out.b)); (first | (replace HP := Lib.hid (HP.out.setO (j := 2) H0.out.ps HO.out.h.1 (.int .i64 v)))); (first | (replace HN : Hid (LoN pb W _) := Lib.hid (LoP.trans HN.out (LoP.setC (j := 2) HO.out.b (.inr HO.out.h.1) HN.out.size (.int .i64 v))))); (first | (replace HO : Hid (OP wl.heap.size (wl.heap.size + 1) { l with c0 := v } (seen ++ [[99, 111, 115, 116]]) W.heap.size _) := Lib.hid (HO.out.set 2 (.int .i64 v) rfl))); (first | (replace HP := Lib.hid (HP.out.setO (j := 3) H0.out.ps HO.out.h.1 (.int .i64 v)))); (first | (replace HN : Hid (LoN pb W _) := Lib.hid (LoP.trans HN.out (LoP.setC (j := 3) HO.out.b (.inr HO.out.h.1) HN.out.size (.int .i64 v))))); (first | (replace HO : Hid (OP wl.heap.size (wl.heap.size + 1) { l with c0 := v, c1 := v } (seen ++ [[99, 111, 115, 116]]) W.heap.size _) := Lib.hid (HO.out.set 3 (.int .i64 v) rfl))); (first | (clear hp1 hl1 hU))) | (go_at_call 64; (first | ((with_reducible refine (cfg_value HP.out HSY.out 1 65535).mono ?_))); (first | (rintro e w1 hr)); (first | (generalize hU : valueS _ _ 1 65535 _ = U at hr HV)); (first | (rcases U with c1 | ⟨u, r1⟩)); (first | (focus (obtain ⟨rfl, hl1⟩ := hr; obtain rfl := HV.out; exact ⟨rfl, rfl, (HN.out.trans hl1)⟩))); (first | (obtain ⟨rfl, hp1, hl1⟩ := hr)); (first | (simp only [encI])); (first | (simp only [bindS] at HV)); (first | (skip)); (first | (replace HP := Lib.hid hp1)); (first | (replace HN := Lib.hid (HN.out.trans hl1))); (first | (replace HO := Lib.hid (HO.out.lo hl1 HPW.out))); (first | (replace HLE := Lib.hid (Nat.le_trans (Nat.le_of_lt (valueS_len hU)) HLE.out))); (first | (obtain ⟨q0, q1, q2, q3, q4, q5, q6, qf⟩ := lk_cells HO.out.b)); (first | (replace HP := Lib.hid (HP.out.setO (j := 3) H0.out.ps HO.out.h.1 (.int .i64 u)))); (first | (replace HN : Hid (LoN pb W _) := Lib.hid (LoP.trans HN.out (LoP.setC (j := 3) HO.out.b (.inr HO.out.h.1) HN.out.size (.int .i64 u))))); (first | (replace HO : Hid (OP wl.heap.size (wl.heap.size + 1) { l with c0 := v, c1 := u } (seen ++ [[99, 111, 115, 116]]) W.heap.size _) := Lib.hid (HO.out.set 3 (.int .i64 u) rfl))); (first | (clear hp1 hl1 hU))) | (go_at_call 58; (first | ((with_reducible refine (cfg_accept HP.out _ (by decide)).mono ?_))); (first | (rintro e w1 hr)); (first | (generalize hU : acceptS _ _ = U at hr HV)); (first | (obtain ⟨o, q⟩ := U)); (first | (obtain ⟨rfl, hp1, hl1⟩ := hr)); (first | (replace HP := Lib.hid hp1)); (first | (replace HN := Lib.hid (HN.out.trans hl1))); (first | (replace HO := Lib.hid (HO.out.lo hl1 HPW.out))); (first | (replace HLE := Lib.hid (Nat.le_trans (accept_len hU) HLE.out))); (first | (clear q0 q1 q2 q3 q4 q5 q6 qf)); (first | (clear hp1 hl1 hU)); (first | (cases o <;> simp only [bindS] at HV))))
    all_goals (go_roundw; (case rel => exact ⟨f, seen ++ [[99, 111, 115, 116]], _, _, HP, HN, HO, Lib.hid HV.out, Lib.hid (by have := HLN.out; have := HLE.out; simp only [List.length_cons] at *; omega)⟩); (case measure => (rw [HLQ.out]; refine Nat.lt_of_le_of_lt (Nat.le_of_eq HP.out.left) ?_; have := HLE.out; omega)))
   by_cases e1 : w = [99, 97, 112, 97, 99, 105, 116, 121]
   ·subst e1
    have HV := Lib.hid (HE.out _ (by simp only [optsS]; rw [if_neg HNM.out, if_neg (by decide), if_pos (by decide)]))
    simp only [bindS, kBack] at HV
    clear HE
    go_wp2_with (first | (go_at_call 62; (first | ((with_reducible refine (cfg_peek HP.out).mono ?_))); (first | (rintro e w9 ⟨rfl, hb9⟩)); (first | (replace HO := Lib.hid (HO.out.lo (HP.out.up_lo hb9) HPW.out))); (first | (replace HN := Lib.hid (HN.out.trans (HP.out.up_lo hb9)))); (first | (replace HP := Lib.hid (HP.out.up hb9))); (first | (clear hb9)); (first | (simp only [peekS, List.headD_cons]))) | (go_at_call 63; (first | ((with_reducible refine (cfg_next HP.out).mono ?_))); (first | (rintro e w2 ⟨rfl, hp1, hl1⟩)); (first | (simp only [encS])); (first | (replace HP := Lib.hid hp1)); (first | (replace HN := Lib.hid (HN.out.trans hl1))); (first | (replace HO := Lib.hid (HO.out.lo hl1 HPW.out))); (first | (have hlk := seen_look HO.out.m [99, 97, 112, 97, 99, 105, 116, 121] hwl)); (first | (rw [HSEEN.out] at hlk)); (first | (clear hp1 hl1)); (first | (obtain ⟨w5, hup, hm5, hg5⟩ := seen_store HO.out.m [99, 97, 112, 97, 99, 105, 116, 121] hwl HNM.out)); (first | (replace HP := Lib.hid (HP.out.mapO H0.out.ps hg5 HO.out.h.2))); (first | (replace HN := Lib.hid (HN.out.map hg5 HO.out.h.2))); (first | (replace HO : Hid (OP wl.heap.size (wl.heap.size + 1) l (seen ++ [[99, 97, 112, 97, 99, 105, 116, 121]]) W.heap.size w5) := Lib.hid ⟨(hg5.block _ (lt_of_heap HO.out.b) (fun e => HO.out.ne (by injection e with e))).trans HO.out.b, hm5, HO.out.h⟩)); (first | (clear hm5 hg5))) | (go_at_call 40; (first | ((with_reducible refine (cfg_grammar_ok _ _).mono ?_))); (first | (rintro e w9 ⟨rfl, rfl⟩))) | (go_at_call 64; (first | ((with_reducible refine (cfg_value HP.out HSY.out 0 1048576).mono ?_))); (first | (rintro e w1 hr)); (first | (generalize hU : valueS _ _ 0 1048576 _ = U at hr HV)); (first | (rcases U with c1 | ⟨v, r1⟩)); (first | (focus (obtain ⟨rfl, hl1⟩ := hr; obtain rfl := HV.out; exact ⟨rfl, rfl, (HN.out.trans hl1)⟩))); (first | (obtain ⟨rfl, hp1, hl1⟩ := hr)); (first | (simp only [encI])); (first | (simp only [bindS] at HV)); (first | (skip)); (first | (replace HP := Lib.hid hp1)); (first | (replace HN := Lib.hid (HN.out.trans hl1))); (first | (replace HO := Lib.hid (HO.out.lo hl1 HPW.out))); (first | (replace HLE := Lib.hid (Nat.le_trans (Nat.le_of_lt (valueS_len hU)) HLE.out))); (first | (obtain ⟨q0, q1, q2, q3, q4, q5, q6, qf⟩ := lk_cells HO.out.b)); (first | (replace HP := Lib.hid (HP.out.setO (j := 4) H0.out.ps HO.out.h.1 (.int .i64 v)))); (first | (replace HN : Hid (LoN pb W _) := Lib.hid (LoP.trans HN.out (LoP.setC (j := 4) HO.out.b (.inr HO.out.h.1) HN.out.size (.int .i64 v))))); (first | (replace HO : Hid (OP wl.heap.size (wl.heap.size + 1) { l with cap := v } (seen ++ [[99, 97, 112, 97, 99, 105, 116, 121]]) W.heap.size _) := Lib.hid (HO.out.set 4 (.int .i64 v) rfl))); (first | (clear hp1 hl1 hU))))
    all_goals (go_roundw; (case rel => exact ⟨f, seen ++ [[99, 97, 112, 97, 99, 105, 116, 121]], _, _, HP, HN, HO, Lib.hid HV.out, Lib.hid (by have := HLN.out; have := HLE.out; simp only [List.length_cons] at *; omega)⟩); (case measure => (rw [HLQ.out]; refine Nat.lt_of_le_of_lt (Nat.le_of_eq HP.out.left) ?_; have := HLE.out; omega)))
   by_cases e2 : w = [100, 101, 108, 97, 121]
   ·subst e2
    have HV := Lib.hid (HE.out _ (by simp only [optsS]; rw [if_neg HNM.out, if_neg (by decide), if_neg (by decide), if_pos (by decide)]))
    simp only [bindS, kBack] at HV
    clear HE
    go_wp2_with (first | (go_at_call 62; (first | ((with_reducible refine (cfg_peek HP.out).mono ?_))); (first | (rintro e w9 ⟨rfl, hb9⟩)); (first | (replace HO := Lib.hid (HO.out.lo (HP.out.up_lo hb9) HPW.out))); (first | (replace HN := Lib.hid (HN.out.trans (HP.out.up_lo hb9)))); (first | (replace HP := Lib.hid (HP.out.up hb9))); (first | (clear hb9)); (first | (simp only [peekS, List.headD_cons]))) | (go_at_call 63; (first | ((with_reducible refine (cfg_next HP.out).mono ?_))); (first | (rintro e w2 ⟨rfl, hp1, hl1⟩)); (first | (simp only [encS])); (first | (replace HP := Lib.hid hp1)); (first | (replace HN := Lib.hid (HN.out.trans hl1))); (first | (replace HO := Lib.hid (HO.out.lo hl1 HPW.out))); (first | (have hlk := seen_look HO.out.m [100, 101, 108, 97, 121] hwl)); (first | (rw [HSEEN.out] at hlk)); (first | (clear hp1 hl1)); (first | (obtain ⟨w5, hup, hm5, hg5⟩ := seen_store HO.out.m [100, 101, 108, 97, 121] hwl HNM.out)); (first | (replace HP := Lib.hid (HP.out.mapO H0.out.ps hg5 HO.out.h.2))); (first | (replace HN := Lib.hid (HN.out.map hg5 HO.out.h.2))); (first | (replace HO : Hid (OP wl.heap.size (wl.heap.size + 1) l (seen ++ [[100, 101, 108, 97, 121]]) W.heap.size w5) := Lib.hid ⟨(hg5.block _ (lt_of_heap HO.out.b) (fun e => HO.out.ne (by injection e with e))).trans HO.out.b, hm5, HO.out.h⟩)); (first | (clear hm5 hg5))) | (go_at_call 40; (first | ((with_reducible refine (cfg_grammar_ok _ _).mono ?_))); (first | (rintro e w9 ⟨rfl, rfl⟩))) | (go_at_call 64; (first | ((with_reducible refine (cfg_value HP.out HSY.out 1 65536).mono ?_))); (first | (rintro e w1 hr)); (first | (generalize hU : valueS _ _ 1 65536 _ = U at hr HV)); (first | (rcases U with c1 | ⟨v, r1⟩)); (first | (focus (obtain ⟨rfl, hl1⟩ := hr; obtain rfl := HV.out; exact ⟨rfl, rfl, (HN.out.trans hl1)⟩))); (first | (obtain ⟨rfl, hp1, hl1⟩ := hr)); (first | (simp only [encI])); (first | (simp only [bindS] at HV)); (first | (skip)); (first | (replace HP := Lib.hid hp1)); (first | (replace HN := Lib.hid (HN.out.trans hl1))); (first | (replace HO := Lib.hid (HO.out.lo hl1 HPW.out))); (first | (replace HLE := Lib.hid (Nat.le_trans (Nat.le_of_lt (valueS_len hU)) HLE.out))); (first | (obtain ⟨q0, q1, q2, q3, q4, q5, q6, qf⟩ := lk_cells HO.out.b)); (first | (replace HP := Lib.hid (HP.out.setO (j := 5) H0.out.ps HO.out.h.1 (.int .i64 v)))); (first | (replace HN : Hid (LoN pb W _) := Lib.hid (LoP.trans HN.out (LoP.setC (j := 5) HO.out.b (.inr HO.out.h.1) HN.out.size (.int .i64 v))))); (first | (replace HO : Hid (OP wl.heap.size (wl.heap.size + 1) { l with dl := v } (seen ++ [[100, 101, 108, 97, 121]]) W.heap.size _) := Lib.hid (HO.out.set 5 (.int .i64 v) rfl))); (first | (clear hp1 hl1 hU))))
    all_goals (go_roundw; (case rel => exact ⟨f, seen ++ [[100, 101, 108, 97, 121]], _, _, HP, HN, HO, Lib.hid HV.out, Lib.hid (by have := HLN.out; have := HLE.out; simp only [List.length_cons] at *; omega)⟩); (case measure => (rw [HLQ.out]; refine Nat.lt_of_le_of_lt (Nat.le_of_eq HP.out.left) ?_; have := HLE.out; omega)))
   by_cases e3 : w = [103, 114, 111, 117, 112]
   ·subst e3
    have HV := Lib.hid (HE.out _ (by simp only [optsS]; rw [if_neg HNM.out, if_neg (by decide), if_neg (by decide), if_neg (by decide), if_pos (by decide)]))
    simp only [bindS, kBack] at HV
    clear HE
    go_wp2_with (first | (go_at_call 62; (first | ((with_reducible refine (cfg_peek HP.out).mono ?_))); (first | (rintro e w9 ⟨rfl, hb9⟩)); (first | (replace HO := Lib.hid (HO.out.lo (HP.out.up_lo hb9) HPW.out))); (first | (replace HN := Lib.hid (HN.out.trans (HP.out.up_lo hb9)))); (first | (replace HP := Lib.hid (HP.out.up hb9))); (first | (clear hb9)); (first | (simp only [peekS, List.headD_cons]))) | (go_at_call 63; (first | ((with_reducible refine (cfg_next HP.out).mono ?_))); (first | (rintro e w2 ⟨rfl, hp1, hl1⟩)); (first | (simp only [encS])); (first | (replace HP := Lib.hid hp1)); (first | (replace HN := Lib.hid (HN.out.trans hl1))); (first | (replace HO := Lib.hid (HO.out.lo hl1 HPW.out))); (first | (have hlk := seen_look HO.out.m [103, 114, 111, 117, 112] hwl)); (first | (rw [HSEEN.out] at hlk)); (first | (clear hp1 hl1)); (first | (obtain ⟨w5, hup, hm5, hg5⟩ := seen_store HO.out.m [103, 114, 111, 117, 112] hwl HNM.out)); (first | (replace HP := Lib.hid (HP.out.mapO H0.out.ps hg5 HO.out.h.2))); (first | (replace HN := Lib.hid (HN.out.map hg5 HO.out.h.2))); (first | (replace HO : Hid (OP wl.heap.size (wl.heap.size + 1) l (seen ++ [[103, 114, 111, 117, 112]]) W.heap.size w5) := Lib.hid ⟨(hg5.block _ (lt_of_heap HO.out.b) (fun e => HO.out.ne (by injection e with e))).trans HO.out.b, hm5, HO.out.h⟩)); (first | (clear hm5 hg5))) | (go_at_call 40; (first | ((with_reducible refine (cfg_grammar_ok _ _).mono ?_))); (first | (rintro e w9 ⟨rfl, rfl⟩))) | (go_at_call 64; (first | ((with_reducible refine (cfg_value HP.out HSY.out 0 64).mono ?_))); (first | (rintro e w1 hr)); (first | (generalize hU : valueS _ _ 0 64 _ = U at hr HV)); (first | (rcases U with c1 | ⟨v, r1⟩)); (first | (focus (obtain ⟨rfl, hl1⟩ := hr; obtain rfl := HV.out; exact ⟨rfl, rfl, (HN.out.trans hl1)⟩))); (first | (obtain ⟨rfl, hp1, hl1⟩ := hr)); (first | (simp only [encI])); (first | (simp only [bindS] at HV)); (first | (skip)); (first | (replace HP := Lib.hid hp1)); (first | (replace HN := Lib.hid (HN.out.trans hl1))); (first | (replace HO := Lib.hid (HO.out.lo hl1 HPW.out))); (first | (replace HLE := Lib.hid (Nat.le_trans (Nat.le_of_lt (valueS_len hU)) HLE.out))); (first | (obtain ⟨q0, q1, q2, q3, q4, q5, q6, qf⟩ := lk_cells HO.out.b)); (first | (replace HP := Lib.hid (HP.out.setO (j := 6) H0.out.ps HO.out.h.1 (.int .i64 v)))); (first | (replace HN : Hid (LoN pb W _) := Lib.hid (LoP.trans HN.out (LoP.setC (j := 6) HO.out.b (.inr HO.out.h.1) HN.out.size (.int .i64 v))))); (first | (replace HO : Hid (OP wl.heap.size (wl.heap.size + 1) { l with g := v } (seen ++ [[103, 114, 111, 117, 112]]) W.heap.size _) := Lib.hid (HO.out.set 6 (.int .i64 v) rfl))); (first | (clear hp1 hl1 hU))))
    all_goals (go_roundw; (case rel => exact ⟨f, seen ++ [[103, 114, 111, 117, 112]], _, _, HP, HN, HO, Lib.hid HV.out, Lib.hid (by have := HLN.out; have := HLE.out; simp only [List.length_cons] at *; omega)⟩); (case measure => (rw [HLQ.out]; refine Nat.lt_of_le_of_lt (Nat.le_of_eq HP.out.left) ?_; have := HLE.out; omega)))
   have HR : Hid (V = .error 3) := Lib.hid (HE.out (.error 3) (by simp only [optsS]; rw [if_neg HNM.out, if_neg (show ¬ w = kCost from e0), if_neg (show ¬ w = kCapacity from e1), if_neg (show ¬ w = kDelay from e2), if_neg (show ¬ w = kGroup from e3)]))
   clear HE
   have k0 : (w == [99, 111, 115, 116]) = false := by simpa using e0
   have k1 : (w == [99, 97, 112, 97, 99, 105, 116, 121]) = false := by simpa using e1
   have k2 : (w == [100, 101, 108, 97, 121]) = false := by simpa using e2
   have k3 : (w == [103, 114, 111, 117, 112]) = false := by simpa using e3
   clear e0 e1 e2 e3
   go_wp2_with (first | (go_at_call 62; (first | ((with_reducible refine (cfg_peek HP.out).mono ?_))); (first | (rintro e w9 ⟨rfl, hb9⟩)); (first | (replace HO := Lib.hid (HO.out.lo (HP.out.up_lo hb9) HPW.out))); (first | (replace HN := Lib.hid (HN.out.trans (HP.out.up_lo hb9)))); (first | (replace HP := Lib.hid (HP.out.up hb9))); (first | (clear hb9)); (first | (simp only [peekS, List.headD_cons]))) | (go_at_call 63; (first | ((with_reducible refine (cfg_next HP.out).mono ?_))); (first | (rintro e w2 ⟨rfl, hp1, hl1⟩)); (first | (simp only [encS])); (first | (replace HP := Lib.hid hp1)); (first | (replace HN := Lib.hid (HN.out.trans hl1))); (first | (replace HO := Lib.hid (HO.out.lo hl1 HPW.out))); (first | (have hlk := seen_look HO.out.m w hwl)); (first | (rw [HSEEN.out] at hlk)); (first | (clear hp1 hl1)); (first | (obtain ⟨w5, hup, hm5, hg5⟩ := seen_store HO.out.m w hwl HNM.out)); (first | (replace HP := Lib.hid (HP.out.mapO H0.out.ps hg5 HO.out.h.2))); (first | (replace HN := Lib.hid (HN.out.map hg5 HO.out.h.2))); (first | (replace HO : Hid (OP wl.heap.size (wl.heap.size + 1) l (seen ++ [w]) W.heap.size w5) := Lib.hid ⟨(hg5.block _ (lt_of_heap HO.out.b) (fun e => HO.out.ne (by injection e with e))).trans HO.out.b, hm5, HO.out.h⟩)); (first | (clear hm5 hg5))) | (go_at_call 40; (first | ((with_reducible refine (cfg_grammar_ok _ _).mono ?_))); (first | (rintro e w9 ⟨rfl, rfl⟩))) | (go_at_call 40; (first | ((with_reducible refine (cfg_grammar_no _ _).mono ?_))); (first | (rintro e w9 ⟨rfl, rfl⟩)); (first | (refine ⟨rfl, ?_⟩)); (first | (rw [HR.out])); (first | (exact ⟨rfl, HN.out⟩))))
  | nil =>
   have HV : Hid (V = effS (finP dry (lookS c.sym x).isSome full []) c { c with sym := c.sym ++ [(x, (2, (c.lnames.length : Int)))], lnames := c.lnames ++ [x], links := c.links ++ [l] }) := Lib.hid (HV.out.trans (by rw [HFU.out]; rfl))
   have hfi : ((c.lnames.length : Int) == 256) = full := by
    rw [HFU.out]
    by_cases h : c.lnames.length = 256
    ·rw [h]; rfl
    ·rw [decide_eq_false h, beq_eq_false_iff_ne]; omega
   go_wp2_with (first | (go_at_call 62; (first | ((with_reducible refine (cfg_peek HP.out).mono ?_))); (first | (rintro e w9 ⟨rfl, hb9⟩)); (first | (replace HO := Lib.hid (HO.out.lo (HP.out.up_lo hb9) HPW.out))); (first | (replace HN := Lib.hid (HN.out.trans (HP.out.up_lo hb9)))); (first | (replace HP := Lib.hid (HP.out.up hb9))); (first | (clear hb9)); (first | (simp only [peekS, List.headD_nil])); (first | (have b1 : w9.cell? ⟨pb, 1, none⟩ = some (.slice r.aL c.lnames.length r.cL) := HP.out.kc 1 (by decide)))) | (go_at_call 60; (first | ((with_reducible refine (cfg_declared HP.out _ HXL.out).mono ?_))); (first | (rintro e w1 ⟨rfl, hb1⟩)); (first | (replace HO := Lib.hid (HO.out.lo (LoN.below hb1) HPW.out))); (first | (replace HN := Lib.hid (HN.out.trans (LoN.below hb1)))); (first | (replace HP := Lib.hid (HP.out.up hb1))); (first | (clear hb1 b1))) | (go_at_call 59; (first | ((with_reducible refine (cfg_finish HP.out _ _).mono ?_))); (first | (rintro e w4 hr)); (first | (generalize hU : finP _ _ _ _ = U at hr HV)); (first | (rcases U with c1 | ⟨eff, r1⟩)); (first | (focus (obtain ⟨rfl, hl1⟩ := hr; obtain rfl := HV.out; exact ⟨rfl, rfl, (HN.out.trans hl1)⟩))); (first | (obtain ⟨rfl, hp1, hl1⟩ := hr)); (first | (simp only [encB])); (first | (replace HP := Lib.hid hp1)); (first | (replace HN := Lib.hid (HN.out.trans hl1))); (first | (replace HO := Lib.hid (HO.out.lo hl1 HPW.out))); (first | (clear hp1 hl1)); (first | (cases eff)); (first | (focus (have HDR := Lib.hid (finP_false hU).1; clear hU))); (first | (rotate_left)); (first | ((obtain ⟨w5, hsy, hs5, hm5, hg5⟩ := (H0.out.read HP.out HN.out).st.symbolG 2 (c.lnames.length : Int) (miss_of hU) HXL.out (by have := H0.out.st.lim.lnames; unfold inI; omega); have b14 : w4.cell? ⟨pb, 14, none⟩ = some (.map (some sb)) := (H0.out.read HP.out HN.out).st.cell 14 (by decide); have H5 := Lib.hid hs5; have HM5 := Lib.hid ((HN.out.toM (Y := [pb, sb, xb, yb]) H0.out.st.sz (by simp)).trans hm5); have HDR := Lib.hid (finP_true hU).1; have HLM : Hid (c.lnames.length < 256 ∧ c.links.length ≤ c.lnames.length) := Lib.hid ⟨by have a := H0.out.st.lim.lnames; have b := HFU.out; rw [(finP_true hU).2.2.1] at b; have := of_decide_eq_false b.symm; omega, H0.out.st.lim.links⟩; have HB5 := Lib.hid ((hg5.block wl.heap.size (lt_of_heap HO.out.b) (fun e => by injection e with e; have a := H0.out.st.bl.1.2.1; have b := H0.out.st.sz; have d := HO.out.h.1; omega)).trans HO.out.b); have HO5 : Hid (w5.ownsRow B 9 1 (.slice r.aL c.lnames.length r.cL) c.lnames.length (c.lnames.map strW)) := Lib.hid hs5.ownL; have b1 : w5.cell? ⟨pb, 1, none⟩ = some (.slice r.aL c.lnames.length r.cL) := hs5.cell 1 (by decide); clear hs5 hm5 hg5 hU))); (first | (rotate_left))) | (at_builtin; (first | (refine wpList_append_lies _ rfl _ _ 23 rfl B 9 i0 (.string ⟨#[]⟩) 1 16 Tryz.underlying23 hi hz0 hz1 hz2 rfl (by decide) _ _ _ rfl (HO5.out.alloc _) ⟨_, 0, none⟩ 1 1 [.string ⟨x.toArray⟩] rfl rfl (cell_one_new _ _ _) (by intro u hu; simp at hu; subst hu; rfl) (by decide) (by have := HLM.out; unfold maxLen; omega) (by have := HLM.out; omega) (Nat.le_trans H5.out.sz (by simp)) _ rfl ?_)); (first | (intro gg cap W9 ap1 ap2 ap3 ap4)); (first | (obtain ⟨p1, p2, p3, p4⟩ := H5.out.pushL ap1 ap2 ap3 HLM.out.1)); (first | (have HB6 := Lib.hid ((Below.heap_setCell W9 ⟨pb, 1, none⟩ (.slice (some ⟨gg, 0, none⟩) (c.lnames.length + 1) cap) wl.heap.size (by have := HPW.out; have := HO.out.h.1; simp; omega)).trans ((ap2.block wl.heap.size (by have := lt_of_heap HB5.out; simp; omega) (fun e => by have a := H0.out.st.ownL.lt _ e.symm; have b := HO.out.h.1; omega)).trans ((Below.heap_alloc _ _ _ (lt_of_heap HB5.out)).trans HB5.out))))); (first | (have H6 := Lib.hid p1)); (first | (have HM6 := Lib.hid (HM5.out.trans p2))); (first | (clear p1 p2 ap1 ap2 ap3 ap4))))
   ·go_end0
    obtain rfl := HV.out
    exact ⟨rfl, HN.out.toM H0.out.st.sz (by simp), _, _, (H0.out.read HP.out HN.out).st, (fun _ => ⟨rfl, rfl, HN.out⟩), rfl⟩
   ·generalize hw6 : World.setCell _ ⟨pb, 1, none⟩ _ = w6 at H6 HM6 HB6 ⊢
    clear hw6
    have H7 := Lib.hid H6.out.drew
    have HO7 : Hid (w6.drew.ownsRow B 44 7 (.slice r.aK c.links.length r.cK) c.links.length (c.links.flatMap lkV)) := Lib.hid H7.out.ownK
    have b4 : w6.cell? ⟨pb, 4, none⟩ = some (.slice r.aK c.links.length r.cK) := H6.out.cell 4 (by decide)
    obtain ⟨q0, q1, q2, q3, q4, q5, q6, qf⟩ := lk_cells HB6.out
    refine wp_region_held_drew (S := (fun _ => True)) (by kernel_rfl) ?_ (fun hHeld => ?_)
    ·exact trivial
    (refine takeL (i := 0) (v := ?_) rfl (by kernel_rfl) (by decide +kernel) (by decide +kernel) (fun _ _ _ h => h) (Or.inl ⟨by rfl, ?_⟩) (by assumption) ?_; rotate_left; (focus (intro w9 hS9; (try dsimp only at hS9); go_simp; (try with_reducible rfl); done)))
    (try simp only [Act.put, List.setIfInBounds_toArray, List.set_cons_zero, List.set_cons_succ])
    (refine takeL (i := 1) (v := ?_) rfl (by kernel_rfl) (by decide +kernel) (by decide +kernel) (fun _ _ _ h => h) (Or.inl ⟨by rfl, ?_⟩) (by assumption) ?_; rotate_left; (focus (intro w9 hS9; (try dsimp only at hS9); go_simp; (try with_reducible rfl); done)))
    (try simp only [Act.put, List.setIfInBounds_toArray, List.set_cons_zero, List.set_cons_succ])
    (refine takeL (i := 2) (v := ?_) rfl (by kernel_rfl) (by decide +kernel) (by decide +kernel) (fun _ _ _ h => h) (Or.inl ⟨by rfl, ?_⟩) (by assumption) ?_; rotate_left; (focus (intro w9 hS9; (try dsimp only at hS9); go_simp; (try with_reducible rfl); done)))
    (try simp only [Act.put, List.setIfInBounds_toArray, List.set_cons_zero, List.set_cons_succ])
    (refine takeL (i := 3) (v := ?_) rfl (by kernel_rfl) (by decide +kernel) (by decide +kernel) (fun _ _ _ h => h) (Or.inl ⟨by rfl, ?_⟩) (by assumption) ?_; rotate_left; (focus (intro w9 hS9; (try dsimp only at hS9); go_simp; (try with_reducible rfl); done)))
    (try simp only [Act.put, List.setIfInBounds_toArray, List.set_cons_zero, List.set_cons_succ])
    (refine takeL (i := 4) (v := ?_) rfl (by kernel_rfl) (by decide +kernel) (by decide +kernel) (fun _ _ _ h => h) (Or.inl ⟨by rfl, ?_⟩) (by assumption) ?_; rotate_left; (focus (intro w9 hS9; (try dsimp only at hS9); go_simp; (try with_reducible rfl); done)))
    (try simp only [Act.put, List.setIfInBounds_toArray, List.set_cons_zero, List.set_cons_succ])
    (refine takeL (i := 5) (v := ?_) rfl (by kernel_rfl) (by decide +kernel) (by decide +kernel) (fun _ _ _ h => h) (Or.inl ⟨by rfl, ?_⟩) (by assumption) ?_; rotate_left; (focus (intro w9 hS9; (try dsimp only at hS9); go_simp; (try with_reducible rfl); done)))
    (try simp only [Act.put, List.setIfInBounds_toArray, List.set_cons_zero, List.set_cons_succ])
    refine wpAnyH_ready (rs := [6, 7]) (by decide +kernel) (by simp) ?_
    refine consL rfl (fun K hK => ?_) ?_
    ·(first | fail | (go_simp; first | done | (first | fail)) | go_simp)
     (first | (with_reducible refine hK.out _ _ ?_ ?_) | (go_wp2_with fail; refine hK.out _ _ ?_ ?_))
     (focus (exact trivial))
     clear hK K hHeld
     intro hHeld
     (try simp only [Act.put, List.setIfInBounds_toArray, List.set_cons_zero, List.set_cons_succ])
     refine wpAnyH_ready (rs := [7]) (by decide +kernel) (by simp) ?_
     refine consL rfl (fun K hK => ?_) ?_
     ·(first | fail | (go_simp; first | done | (first | fail)) | go_simp)
      (first | (with_reducible refine hK.out _ _ ?_ ?_) | (go_wp2_with fail; refine hK.out _ _ ?_ ?_))
      (focus (exact trivial))
      clear hK K hHeld
      intro hHeld
      (try simp only [Act.put, List.setIfInBounds_toArray, List.set_cons_zero, List.set_cons_succ])
      refine wpAnyH_ready (rs := [8]) (by decide +kernel) (by simp) ?_
      refine consL rfl (fun K hK => ?_) ?_
      ·(first | fail | (go_simp; first | done | (first | fail)) | go_simp)
       (first | (with_reducible refine hK.out _ _ ?_ ?_) | (go_wp2_with fail; refine hK.out _ _ ?_ ?_))
       (focus (exact trivial))
       clear hK K hHeld
       intro hHeld
       (try simp only [Act.put, List.setIfInBounds_toArray, List.set_cons_zero, List.set_cons_succ])
       refine wpAnyH_ready (rs := [9]) (by decide +kernel) (by simp) ?_
       refine consL rfl (fun K hK => ?_) ?_
       ·(first | (refine step_append_lies _ rfl _ _ 25 rfl B 44 j0 (.agg #[.int .i64 0, .int .i64 0, .int .i64 0, .int .i64 0, .int .i64 0, .int .i64 0, .int .i64 0]) 7 56 Tryz.underlying25 hj hj0 hj1 hj2 rfl (by decide) _ _ _ rfl (HO7.out.alloc _) ⟨_, 0, none⟩ 1 1 (lkV l) rfl rfl (cells_new _ (lkV l) _) (by intro u hu; simp only [lkV, List.mem_cons, List.not_mem_nil, or_false] at hu; rcases hu with rfl | rfl | rfl | rfl | rfl | rfl | rfl <;> rfl) (by decide) (by have := HLM.out; unfold maxLen; omega) (by have := HLM.out; omega) (Nat.le_trans H7.out.sz (by simp)) _ rfl ?_; intro gg cap W9 ap1 ap2 ap3 ap4; obtain ⟨p1, p2, p3, p4⟩ := H7.out.pushK (l := l) ap1 ap2 ap3 (by have := HLM.out; simp; omega); have P1 := Lib.hid p1; have P2 := Lib.hid p2; clear p1 p2 ap1 ap2 ap3 ap4) | (go_simp; first | done | (first | (refine step_append_lies _ rfl _ _ 25 rfl B 44 j0 (.agg #[.int .i64 0, .int .i64 0, .int .i64 0, .int .i64 0, .int .i64 0, .int .i64 0, .int .i64 0]) 7 56 Tryz.underlying25 hj hj0 hj1 hj2 rfl (by decide) _ _ _ rfl (HO7.out.alloc _) ⟨_, 0, none⟩ 1 1 (lkV l) rfl rfl (cells_new _ (lkV l) _) (by intro u hu; simp only [lkV, List.mem_cons, List.not_mem_nil, or_false] at hu; rcases hu with rfl | rfl | rfl | rfl | rfl | rfl | rfl <;> rfl) (by decide) (by have := HLM.out; unfold maxLen; omega) (by have := HLM.out; omega) (Nat.le_trans H7.out.sz (by simp)) _ rfl ?_; intro gg cap W9 ap1 ap2 ap3 ap4; obtain ⟨p1, p2, p3, p4⟩ := H7.out.pushK (l := l) ap1 ap2 ap3 (by have := HLM.out; simp; omega); have P1 := Lib.hid p1; have P2 := Lib.hid p2; clear p1 p2 ap1 ap2 ap3 ap4))) | go_simp)
        (first | (with_reducible refine hK.out _ _ ?_ ?_) | (go_wp2_with fail; refine hK.out _ _ ?_ ?_))
        (focus (exact trivial))
        clear hK K hHeld
        intro hHeld
        (try simp only [Act.put, List.setIfInBounds_toArray, List.set_cons_zero, List.set_cons_succ])
        (refine takeL (i := 10) (v := ?_) rfl (by kernel_rfl) (by decide +kernel) (by decide +kernel) (fun _ _ _ h => h) (Or.inl ⟨by rfl, ?_⟩) (by assumption) ?_; rotate_left; (focus (intro w9 hS9; (try dsimp only at hS9); go_simp; (try with_reducible rfl); done)))
        (try simp only [Act.put, List.setIfInBounds_toArray, List.set_cons_zero, List.set_cons_succ])
        (refine takeL (i := 11) (v := ?_) rfl (by kernel_rfl) (by decide +kernel) (by decide +kernel) (fun _ _ _ h => h) (Or.inl ⟨by rfl, ?_⟩) (by assumption) ?_; rotate_left; (focus (intro w9 hS9; (try dsimp only at hS9); go_simp; (try with_reducible rfl); done)))
        (try simp only [Act.put, List.setIfInBounds_toArray, List.set_cons_zero, List.set_cons_succ])
        (refine takeL (i := 12) (v := ?_) rfl (by kernel_rfl) (by decide +kernel) (by decide +kernel) (fun _ _ _ h => h) (Or.inl ⟨by rfl, ?_⟩) (by assumption) ?_; rotate_left; (focus (intro w9 hS9; (try dsimp only at hS9); go_simp; (try with_reducible rfl); done)))
        (try simp only [Act.put, List.setIfInBounds_toArray, List.set_cons_zero, List.set_cons_succ])
        (refine takeL (i := 13) (v := ?_) rfl (by kernel_rfl) (by decide +kernel) (by decide +kernel) (fun _ _ _ h => h) (Or.inl ⟨by rfl, ?_⟩) (by assumption) ?_; rotate_left; (focus (intro w9 hS9; (try dsimp only at hS9); go_simp; (try with_reducible rfl); done)))
        (try simp only [Act.put, List.setIfInBounds_toArray, List.set_cons_zero, List.set_cons_succ])
        refine wpAnyH_ready (rs := [14]) (by decide +kernel) (by simp) ?_
        refine consL rfl (fun K hK => ?_) ?_
        ·(first | fail | (go_simp; first | done | (first | fail)) | go_simp)
         (first | (with_reducible refine hK.out _ _ ?_ ?_) | (go_wp2_with fail; refine hK.out _ _ ?_ ?_))
         (focus (exact trivial))
         clear hK K hHeld
         intro hHeld
         (try simp only [Act.put, List.setIfInBounds_toArray, List.set_cons_zero, List.set_cons_succ])
         refine wpAnyH_done (by decide +kernel) ?_ _
         go_wp2_with fail
         go_end0
         obtain rfl := HV.out
         exact ⟨rfl, HM6.out.drew.trans P2.out, _, _, P1.out, (fun h => by rw [HDR.out] at h; cases h), rfl⟩
        exact AllReadyH.nil
       exact AllReadyH.nil
      exact AllReadyH.nil
     exact AllReadyH.nil
    refine consL rfl (fun K hK => ?_) ?_
    ·(first | fail | (go_simp; first | done | (first | fail)) | go_simp)
     (first | (with_reducible refine hK.out _ _ ?_ ?_) | (go_wp2_with fail; refine hK.out _ _ ?_ ?_))
     (focus (exact trivial))
     clear hK K hHeld
     intro hHeld
     (try simp only [Act.put, List.setIfInBounds_toArray, List.set_cons_zero, List.set_cons_succ])
     refine wpAnyH_ready (rs := [6, 8]) (by decide +kernel) (by simp) ?_
     refine consL rfl (fun K hK => ?_) ?_
     ·(first | fail | (go_simp; first | done | (first | fail)) | go_simp)
      (first | (with_reducible refine hK.out _ _ ?_ ?_) | (go_wp2_with fail; refine hK.out _ _ ?_ ?_))
      (focus (exact trivial))
      clear hK K hHeld
      intro hHeld
      (try simp only [Act.put, List.setIfInBounds_toArray, List.set_cons_zero, List.set_cons_succ])
      refine wpAnyH_ready (rs := [8]) (by decide +kernel) (by simp) ?_
      refine consL rfl (fun K hK => ?_) ?_
      ·(first | fail | (go_simp; first | done | (first | fail)) | go_simp)
       (first | (with_reducible refine hK.out _ _ ?_ ?_) | (go_wp2_with fail; refine hK.out _ _ ?_ ?_))
       (focus (exact trivial))
       clear hK K hHeld
       intro hHeld
       (try simp only [Act.put, List.setIfInBounds_toArray, List.set_cons_zero, List.set_cons_succ])
       refine wpAnyH_ready (rs := [9]) (by decide +kernel) (by simp) ?_
       refine consL rfl (fun K hK => ?_) ?_
       ·(first | (refine step_append_lies _ rfl _ _ 25 rfl B 44 j0 (.agg #[.int .i64 0, .int .i64 0, .int .i64 0, .int .i64 0, .int .i64 0, .int .i64 0, .int .i64 0]) 7 56 Tryz.underlying25 hj hj0 hj1 hj2 rfl (by decide) _ _ _ rfl (HO7.out.alloc _) ⟨_, 0, none⟩ 1 1 (lkV l) rfl rfl (cells_new _ (lkV l) _) (by intro u hu; simp only [lkV, List.mem_cons, List.not_mem_nil, or_false] at hu; rcases hu with rfl | rfl | rfl | rfl | rfl | rfl | rfl <;> rfl) (by decide) (by have := HLM.out; unfold maxLen; omega) (by have := HLM.out; omega) (Nat.le_trans H7.out.sz (by simp)) _ rfl ?_; intro gg cap W9 ap1 ap2 ap3 ap4; obtain ⟨p1, p2, p3, p4⟩ := H7.out.pushK (l := l) ap1 ap2 ap3 (by have := HLM.out; simp; omega); have P1 := Lib.hid p1; have P2 := Lib.hid p2; clear p1 p2 ap1 ap2 ap3 ap4) | (go_simp; first | done | (first | (refine step_append_lies _ rfl _ _ 25 rfl B 44 j0 (.agg #[.int .i64 0, .int .i64 0, .int .i64 0, .int .i64 0, .int .i64 0, .int .i64 0, .int .i64 0]) 7 56 Tryz.underlying25 hj hj0 hj1 hj2 rfl (by decide) _ _ _ rfl (HO7.out.alloc _) ⟨_, 0, none⟩ 1 1 (lkV l) rfl rfl (cells_new _ (lkV l) _) (by intro u hu; simp only [lkV, List.mem_cons, List.not_mem_nil, or_false] at hu; rcases hu with rfl | rfl | rfl | rfl | rfl | rfl | rfl <;> rfl) (by decide) (by have := HLM.out; unfold maxLen; omega) (by have := HLM.out; omega) (Nat.le_trans H7.out.sz (by simp)) _ rfl ?_; intro gg cap W9 ap1 ap2 ap3 ap4; obtain ⟨p1, p2, p3, p4⟩ := H7.out.pushK (l := l) ap1 ap2 ap3 (by have := HLM.out; simp; omega); have P1 := Lib.hid p1; have P2 := Lib.hid p2; clear p1 p2 ap1 ap2 ap3 ap4))) | go_simp)
        (first | (with_reducible refine hK.out _ _ ?_ ?_) | (go_wp2_with fail; refine hK.out _ _ ?_ ?_))
        (focus (exact trivial))
        clear hK K hHeld
        intro hHeld
        (try simp only [Act.put, List.setIfInBounds_toArray, List.set_cons_zero, List.set_cons_succ])
        (refine takeL (i := 10) (v := ?_) rfl (by kernel_rfl) (by decide +kernel) (by decide +kernel) (fun _ _ _ h => h) (Or.inl ⟨by rfl, ?_⟩) (by assumption) ?_; rotate_left; (focus (intro w9 hS9; (try dsimp only at hS9); go_simp; (try with_reducible rfl); done)))
        (try simp only [Act.put, List.setIfInBounds_toArray, List.set_cons_zero, List.set_cons_succ])
        (refine takeL (i := 11) (v := ?_) rfl (by kernel_rfl) (by decide +kernel) (by decide +kernel) (fun _ _ _ h => h) (Or.inl ⟨by rfl, ?_⟩) (by assumption) ?_; rotate_left; (focus (intro w9 hS9; (try dsimp only at hS9); go_simp; (try with_reducible rfl); done)))
        (try simp only [Act.put, List.setIfInBounds_toArray, List.set_cons_zero, List.set_cons_succ])
        (refine takeL (i := 12) (v := ?_) rfl (by kernel_rfl) (by decide +kernel) (by decide +kernel) (fun _ _ _ h => h) (Or.inl ⟨by rfl, ?_⟩) (by assumption) ?_; rotate_left; (focus (intro w9 hS9; (try dsimp only at hS9); go_simp; (try with_reducible rfl); done)))
        (try simp only [Act.put, List.setIfInBounds_toArray, List.set_cons_zero, List.set_cons_succ])
        (refine takeL (i := 13) (v := ?_) rfl (by kernel_rfl) (by decide +kernel) (by decide +kernel) (fun _ _ _ h => h) (Or.inl ⟨by rfl, ?_⟩) (by assumption) ?_; rotate_left; (focus (intro w9 hS9; (try dsimp only at hS9); go_simp; (try with_reducible rfl); done)))
        (try simp only [Act.put, List.setIfInBounds_toArray, List.set_cons_zero, List.set_cons_succ])
        refine wpAnyH_ready (rs := [14]) (by decide +kernel) (by simp) ?_
        refine consL rfl (fun K hK => ?_) ?_
        ·(first | fail | (go_simp; first | done | (first | fail)) | go_simp)
         (first | (with_reducible refine hK.out _ _ ?_ ?_) | (go_wp2_with fail; refine hK.out _ _ ?_ ?_))
         (focus (exact trivial))
         clear hK K hHeld
         intro hHeld
         (try simp only [Act.put, List.setIfInBounds_toArray, List.set_cons_zero, List.set_cons_succ])
         refine wpAnyH_done (by decide +kernel) ?_ _
         go_wp2_with fail
         go_end0
         obtain rfl := HV.out
         exact ⟨rfl, HM6.out.drew.trans P2.out, _, _, P1.out, (fun h => by rw [HDR.out] at h; cases h), rfl⟩
        exact AllReadyH.nil
       exact AllReadyH.nil
      exact AllReadyH.nil
     refine consL rfl (fun K hK => ?_) ?_
     ·(first | fail | (go_simp; first | done | (first | fail)) | go_simp)
      (first | (with_reducible refine hK.out _ _ ?_ ?_) | (go_wp2_with fail; refine hK.out _ _ ?_ ?_))
      (focus (exact trivial))
      clear hK K hHeld
      intro hHeld
      (try simp only [Act.put, List.setIfInBounds_toArray, List.set_cons_zero, List.set_cons_succ])
      have e7 := cell_up (below_box w6 (.cells (lkV l).toArray 44)) b4
      simp only [lkV] at e7
      refine wpAnyH_ready (rs := [6]) (by decide +kernel) (by simp) ?_
      refine consL rfl (fun K hK => ?_) ?_
      ·(first | fail | (go_simp; first | done | (first | fail)) | go_simp)
       (first | (with_reducible refine hK.out _ _ ?_ ?_) | (go_wp2_with fail; refine hK.out _ _ ?_ ?_))
       (focus (exact trivial))
       clear hK K hHeld
       intro hHeld
       (try simp only [Act.put, List.setIfInBounds_toArray, List.set_cons_zero, List.set_cons_succ])
       refine wpAnyH_ready (rs := [9]) (by decide +kernel) (by simp) ?_
       refine consL rfl (fun K hK => ?_) ?_
       ·(first | (refine step_append_lies _ rfl _ _ 25 rfl B 44 j0 (.agg #[.int .i64 0, .int .i64 0, .int .i64 0, .int .i64 0, .int .i64 0, .int .i64 0, .int .i64 0]) 7 56 Tryz.underlying25 hj hj0 hj1 hj2 rfl (by decide) _ _ _ rfl (HO7.out.alloc _) ⟨_, 0, none⟩ 1 1 (lkV l) rfl rfl (cells_new _ (lkV l) _) (by intro u hu; simp only [lkV, List.mem_cons, List.not_mem_nil, or_false] at hu; rcases hu with rfl | rfl | rfl | rfl | rfl | rfl | rfl <;> rfl) (by decide) (by have := HLM.out; unfold maxLen; omega) (by have := HLM.out; omega) (Nat.le_trans H7.out.sz (by simp)) _ rfl ?_; intro gg cap W9 ap1 ap2 ap3 ap4; obtain ⟨p1, p2, p3, p4⟩ := H7.out.pushK (l := l) ap1 ap2 ap3 (by have := HLM.out; simp; omega); have P1 := Lib.hid p1; have P2 := Lib.hid p2; clear p1 p2 ap1 ap2 ap3 ap4) | (go_simp; first | done | (first | (refine step_append_lies _ rfl _ _ 25 rfl B 44 j0 (.agg #[.int .i64 0, .int .i64 0, .int .i64 0, .int .i64 0, .int .i64 0, .int .i64 0, .int .i64 0]) 7 56 Tryz.underlying25 hj hj0 hj1 hj2 rfl (by decide) _ _ _ rfl (HO7.out.alloc _) ⟨_, 0, none⟩ 1 1 (lkV l) rfl rfl (cells_new _ (lkV l) _) (by intro u hu; simp only [lkV, List.mem_cons, List.not_mem_nil, or_false] at hu; rcases hu with rfl | rfl | rfl | rfl | rfl | rfl | rfl <;> rfl) (by decide) (by have := HLM.out; unfold maxLen; omega) (by have := HLM.out; omega) (Nat.le_trans H7.out.sz (by simp)) _ rfl ?_; intro gg cap W9 ap1 ap2 ap3 ap4; obtain ⟨p1, p2, p3, p4⟩ := H7.out.pushK (l := l) ap1 ap2 ap3 (by have := HLM.out; simp; omega); have P1 := Lib.hid p1; have P2 := Lib.hid p2; clear p1 p2 ap1 ap2 ap3 ap4))) | go_simp)
        (first | (with_reducible refine hK.out _ _ ?_ ?_) | (go_wp2_with fail; refine hK.out _ _ ?_ ?_))
        (focus (exact trivial))
        clear hK K hHeld
        intro hHeld
        (try simp only [Act.put, List.setIfInBounds_toArray, List.set_cons_zero, List.set_cons_succ])
        (refine takeL (i := 10) (v := ?_) rfl (by kernel_rfl) (by decide +kernel) (by decide +kernel) (fun _ _ _ h => h) (Or.inl ⟨by rfl, ?_⟩) (by assumption) ?_; rotate_left; (focus (intro w9 hS9; (try dsimp only at hS9); go_simp; (try with_reducible rfl); done)))
        (try simp only [Act.put, List.setIfInBounds_toArray, List.set_cons_zero, List.set_cons_succ])
        (refine takeL (i := 11) (v := ?_) rfl (by kernel_rfl) (by decide +kernel) (by decide +kernel) (fun _ _ _ h => h) (Or.inl ⟨by rfl, ?_⟩) (by assumption) ?_; rotate_left; (focus (intro w9 hS9; (try dsimp only at hS9); go_simp; (try with_reducible rfl); done)))
        (try simp only [Act.put, List.setIfInBounds_toArray, List.set_cons_zero, List.set_cons_succ])
        (refine takeL (i := 12) (v := ?_) rfl (by kernel_rfl) (by decide +kernel) (by decide +kernel) (fun _ _ _ h => h) (Or.inl ⟨by rfl, ?_⟩) (by assumption) ?_; rotate_left; (focus (intro w9 hS9; (try dsimp only at hS9); go_simp; (try with_reducible rfl); done)))
        (try simp only [Act.put, List.setIfInBounds_toArray, List.set_cons_zero, List.set_cons_succ])
        (refine takeL (i := 13) (v := ?_) rfl (by kernel_rfl) (by decide +kernel) (by decide +kernel) (fun _ _ _ h => h) (Or.inl ⟨by rfl, ?_⟩) (by assumption) ?_; rotate_left; (focus (intro w9 hS9; (try dsimp only at hS9); go_simp; (try with_reducible rfl); done)))
        (try simp only [Act.put, List.setIfInBounds_toArray, List.set_cons_zero, List.set_cons_succ])
        refine wpAnyH_ready (rs := [14]) (by decide +kernel) (by simp) ?_
        refine consL rfl (fun K hK => ?_) ?_
        ·(first | fail | (go_simp; first | done | (first | fail)) | go_simp)
         (first | (with_reducible refine hK.out _ _ ?_ ?_) | (go_wp2_with fail; refine hK.out _ _ ?_ ?_))
         (focus (exact trivial))
         clear hK K hHeld
         intro hHeld
         (try simp only [Act.put, List.setIfInBounds_toArray, List.set_cons_zero, List.set_cons_succ])
         refine wpAnyH_done (by decide +kernel) ?_ _
         go_wp2_with fail
         go_end0
         obtain rfl := HV.out
         exact ⟨rfl, HM6.out.drew.trans P2.out, _, _, P1.out, (fun h => by rw [HDR.out] at h; cases h), rfl⟩
        exact AllReadyH.nil
       exact AllReadyH.nil
      exact AllReadyH.nil
     exact AllReadyH.nil
    exact AllReadyH.nil
end
end Go.Proofs.YtfimacgmciogmaaGreatDoor
