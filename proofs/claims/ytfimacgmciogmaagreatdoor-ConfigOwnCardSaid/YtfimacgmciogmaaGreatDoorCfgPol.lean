/-
  config's parser: policy, the walk (printed by gen_cfgz2.py).
-/
import Derived.Test.YtfimacgmciogmaaGreatDoorPkCfgW
namespace Go.Proofs.YtfimacgmciogmaaGreatDoor
set_option linter.unusedSimpArgs false
set_option linter.unusedVariables false
open Go.RowKit Go.Shelf Go.Sort
theorem valueS_in {dry : Bool} {sy : SymS} {lo hi v : Int} {ws r : List (List UInt8)} (hs : ∀ x ∈ sy, inI x.2.2) (e : valueS dry sy lo hi ws = .ok (v, r)) : inI v := by
 unfold valueS at e
 cases h : exprS dry sy ws with
 | error c => rw [h] at e; cases e
 | ok p =>
  obtain ⟨v', r'⟩ := p
  rw [h] at e
  simp only at e
  split at e
  ·cases e
  ·injection e with e
   injection e with e _
   subst e
   exact exprS_in hs h
section
variable {lb n0 : Nat} {a b : Int} {l : List (Int × Int)} {Al : Option Addr} {cl : Nat} {W : World}
theorem PP.c1 (h : PP lb n0 a b l Al cl W) : W.cell? ⟨lb, 1, none⟩ = some (.int .i64 b) := (Lib.cell_of_heap h.b 1).trans rfl
theorem PP.c0 (h : PP lb n0 a b l Al cl W) : W.cell? ⟨lb, 0, none⟩ = some (.int .i64 a) := (Lib.cell_of_heap h.b 0).trans rfl
theorem PP.c2 (h : PP lb n0 a b l Al cl W) : W.cell? ⟨lb, 2, none⟩ = some (.slice Al l.length cl) := (Lib.cell_of_heap h.b 2).trans rfl
theorem PP.fz (h : PP lb n0 a b l Al cl W) : ∀ i, W.frozen? ⟨lb, i, none⟩ = false := fun i => Lib.frozen_of_heap h.b i
theorem PP.keepY {yb : Nat} {W' : World} (h : PP lb n0 a b l Al cl W) (hg : W.drew.grownBy W' (some yb)) (hy : yb < lb) : PP lb n0 a b l Al cl W' :=
 ⟨(hg.block lb h.lt (fun e => by injection e with e; omega)).trans h.b, own_keepG h.o fun g e => hg.block g (h.o.lt g e).2 (fun e2 => by injection e2 with e2; have := (h.o.lt g e).1; omega), h.h⟩
theorem own_base {e : TypeId} {s n B B' : Nat} {v : Value} {xs : List Value} (h : W.ownsRow B e s v n xs) (hb : B' ≤ B) : W.drew.ownsRow B' e s v n xs := by
 rcases h with ⟨h1, h2 | ⟨g, cap, cur, h3, h4, h5⟩⟩
 ·exact ⟨h1, .inl h2⟩
 ·exact ⟨h1, .inr ⟨g, cap, cur, h3, Nat.le_trans hb h4, h5⟩⟩
theorem PP.setB (h : PP lb n0 a b l Al cl W) (b' : Int) : PP lb n0 a b' l Al cl (W.setCell ⟨lb, 1, none⟩ (.int .i64 b')) :=
 ⟨by rw [heap_setCell_same _ _ 1 _ _ _ h.b]; simp, own_setT h.o (fun e => by have := h.o.lt _ e; omega) _, h.h⟩
end
section
variable {B pb sb xb yb : Nat} {r : Rws} {c : Cf} {A : Option Addr} {cw : Nat} {all : List (List UInt8)} {dry : Bool} {rest rest' : List (List UInt8)} {W W' : World}
set_option maxHeartbeats 16000000 in
set_option maxRecDepth 100000 in
theorem cfg_policy (h : LS B pb sb xb yb r c A cw all dry rest W) : Calls Tryz.prog 37 #[.pointer (some ⟨pb, 0, none⟩)] W (RetS B pb sb xb yb r c A cw all dry W (policyS dry c rest)) := by
 obtain ⟨j0, hj, hj0, hj1, hj2⟩ := info_parts segInfo'
 obtain ⟨k0, hk, hk0, hk1, hk2⟩ := info_parts polInfo'
 obtain ⟨V, hV⟩ : ∃ V, V = policyS dry c rest := ⟨_, rfl⟩
 rw [← hV]
 simp only [policyS, kEq] at hV
 have HV := Lib.hid hV
 have H0 := Lib.hid h
 have HP := Lib.hid h.ps
 have HN := Lib.hid (LoN.refl pb W)
 have HSY := Lib.hid h.st.lim.sy
 have HPW := Lib.hid h.ps.lt
 clear hV h
 go_enter Tryz.func37, Tryz.ntmps37
 go_wp2_with (first | (go_at_call 68; (first | ((with_reducible refine (cfg_use HP.out 1).mono ?_))); (first | (rintro e wl hr)); (first | (generalize hU : useS _ _ 1 _ = U at hr HV)); (first | (rcases U with c1 | ⟨a, r1⟩)); (first | (focus (obtain ⟨rfl, hl1⟩ := hr; obtain rfl := HV.out; exact ⟨rfl, rfl, (HN.out.trans hl1)⟩))); (first | (obtain ⟨rfl, hp1, hl1⟩ := hr)); (first | (simp only [encI])); (first | (simp only [bindS] at HV)); (first | (have HIA := Lib.hid (useS_in HSY.out hU))); (first | (replace HP := Lib.hid hp1)); (first | (replace HN := Lib.hid (HN.out.trans hl1))); (first | (have HPP : Hid (PP wl.heap.size W.heap.size a 0 [] none 0 (wl.alloc (.cells #[.int .i64 a, .int .i64 0, .slice none 0 0] 76))) := Lib.hid ⟨heap_alloc_new wl _, World.ownsRow_nil _ _ _ _, HN.out.size⟩)); (first | (replace HN := Lib.hid (HN.out.trans (LoN.below (below_box wl (.cells #[.int .i64 a, .int .i64 0, .slice none 0 0] 76)))))); (first | (replace HP := Lib.hid (HP.out.up (below_box wl (.cells #[.int .i64 a, .int .i64 0, .slice none 0 0] 76))))); (first | (clear hp1 hl1 hU))) | (go_at_call 64; (first | ((with_reducible refine (cfg_value HP.out HSY.out 0 65535).mono ?_))); (first | (rintro e w1 hr)); (first | (generalize hU : valueS _ _ 0 65535 _ = U at hr HV)); (first | (rcases U with c1 | ⟨b, r1⟩)); (first | (focus (obtain ⟨rfl, hl1⟩ := hr; obtain rfl := HV.out; exact ⟨rfl, rfl, (HN.out.trans hl1)⟩))); (first | (obtain ⟨rfl, hp1, hl1⟩ := hr)); (first | (simp only [encI])); (first | (simp only [bindS] at HV)); (first | (have HIB := Lib.hid (valueS_in HSY.out hU))); (first | (replace HP := Lib.hid hp1)); (first | (replace HN := Lib.hid (HN.out.trans hl1))); (first | (replace HPP := Lib.hid (HPP.out.lo hl1 HPW.out))); (first | (have p1 := HPP.out.c1)); (first | (have pf := HPP.out.fz)); (first | (replace HP := Lib.hid (HP.out.setO (j := 1) H0.out.ps HPP.out.h (.int .i64 b)))); (first | (replace HN : Hid (LoN pb W _) := Lib.hid (LoP.trans HN.out (LoP.setC (j := 1) HPP.out.b (.inr HPP.out.h) HN.out.size (.int .i64 b))))); (first | (replace HPP := Lib.hid (HPP.out.setB b))); (first | (clear hp1 hl1 hU))) | (go_at_call 65; (first | ((with_reducible refine (cfg_expect HP.out _ (by decide)).mono ?_))); (first | (rintro e w1 hr)); (first | (generalize hU : expectS _ _ = U at hr HV)); (first | (rcases U with c1 | ⟨v1, r1⟩)); (first | (focus (obtain ⟨rfl, hl1⟩ := hr; obtain rfl := HV.out; exact ⟨rfl, rfl, (HN.out.trans hl1)⟩))); (first | (obtain ⟨rfl, hp1, hl1⟩ := hr)); (first | (skip)); (first | (simp only [bindS] at HV)); (first | (skip)); (first | (replace HP := Lib.hid hp1)); (first | (replace HN := Lib.hid (HN.out.trans hl1))); (first | (replace HPP := Lib.hid (HPP.out.lo hl1 HPW.out))); (first | (clear hp1 hl1 hU))))
 go_loopw [] (fun wr => ∃ (f : Nat) (l : List (Int × Int)) (Al : Option Addr) (cl : Nat) (ws : List (List UInt8)), Hid (PS pb (kOf r c sb xb yb) A cw all dry sb c.sym ws wr) ∧ Hid (LoN pb W wr) ∧ Hid (PP wl.heap.size W.heap.size a b l Al cl wr) ∧ Hid (V = bindS (segsS dry c.sym f l ws) fun l r4 => effS (finP dry (decide ((a, b) ∈ c.yk)) (decide (c.pols.length = 64) || decide (32 < l.length)) r4) c { c with yk := c.yk ++ [(a, b)], pols := c.pols ++ [(a, b, l)] }) ∧ Hid (ws.length < f ∧ l.length + ws.length ≤ 10000)) (fun wr => leftOf pb all.length wr)
 case atStart => exact ⟨_, _, _, _, _, HP, HN, HPP, Lib.hid HV.out, Lib.hid ⟨Nat.lt_succ_self _, by have a := HP.out.len; have b := HP.out.al.1; simp; omega⟩⟩
 case round =>
  clear HP HN HPP HV
  obtain ⟨f, l, Al, cl, ws, HP, HN, HPP, HV, HLN⟩ := hrel
  obtain ⟨f, rfl⟩ : ∃ f', f = f' + 1 := ⟨f - 1, by have := HLN.out; omega⟩
  cases ws with
  | cons w r2 =>
   have hwe : (w == []) = false := by have := HP.out.wl.1; simpa using this
   have hwe2 : w.isEmpty = false := by have := HP.out.wl.1; simpa using this
   have HLQ : Hid (leftOf pb all.length wr = (w :: r2).length) := Lib.hid HP.out.left
   have HG := Lib.hid (fun w9 (hp : PS pb (kOf r c sb xb yb) A cw all dry sb c.sym (w :: r2) w9) => cfg_segment hp HSY.out)
   obtain ⟨U, hU⟩ : ∃ U, U = segS dry c.sym (w :: r2) := ⟨_, rfl⟩
   rw [← hU] at HG
   have HU := Lib.hid hU
   clear hU
   cases U with
   | error e1 =>
    have HR : Hid (V = .error e1) := Lib.hid (by rw [HV.out]; simp only [segsS, ← HU.out, bindS])
    clear HV
    go_wp2_with (first | (go_at_call 62; (first | ((with_reducible refine (cfg_peek HP.out).mono ?_))); (first | (rintro e w9 ⟨rfl, hb9⟩)); (first | (replace HPP := Lib.hid (HPP.out.lo (HP.out.up_lo hb9) HPW.out))); (first | (replace HN := Lib.hid (HN.out.trans (HP.out.up_lo hb9)))); (first | (replace HP := Lib.hid (HP.out.up hb9))); (first | (have p2 := HPP.out.c2)); (first | (clear hb9)); (first | (simp only [peekS, List.headD_cons]))))
    refine wp_region_held_drew (S := (fun _ => True)) (by kernel_rfl) ?_ (fun hHeld => ?_)
    ·exact trivial
    (refine takeL (i := 0) (v := ?_) rfl (by kernel_rfl) (by decide +kernel) (by decide +kernel) (fun _ _ _ h => h) (Or.inl ⟨by rfl, ?_⟩) (by assumption) ?_; rotate_left; (focus (intro w9 hS9; (try dsimp only at hS9); go_simp; (try with_reducible rfl); done)))
    (try simp only [Act.put, List.setIfInBounds_toArray, List.set_cons_zero, List.set_cons_succ])
    (refine takeL (i := 2) (v := ?_) rfl (by kernel_rfl) (by decide +kernel) (by decide +kernel) (fun _ _ _ h => h) (Or.inl ⟨by rfl, ?_⟩) (by assumption) ?_; rotate_left; (focus (intro w9 hS9; (try dsimp only at hS9); go_simp; (try with_reducible rfl); done)))
    (try simp only [Act.put, List.setIfInBounds_toArray, List.set_cons_zero, List.set_cons_succ])
    refine wpAnyH_ready (rs := [1, 3]) (by decide +kernel) (by simp) ?_
    refine consL rfl (fun K hK => ?_) ?_
    ·(first | fail | (go_simp; first | done | (first | fail)) | go_simp)
     (first | (with_reducible refine hK.out _ _ ?_ ?_) | (go_wp2_with fail; refine hK.out _ _ ?_ ?_))
     (focus (exact trivial))
     clear hK K hHeld
     intro hHeld
     (try simp only [Act.put, List.setIfInBounds_toArray, List.set_cons_zero, List.set_cons_succ])
     refine wpAnyH_ready (rs := [3]) (by decide +kernel) (by simp) ?_
     refine consL rfl (fun K hK => ?_) ?_
     ·go_simp
      go_at_call 69
      (with_reducible refine (HG.out _ (HP.out.up (below_drw2 _))).mono ?_)
      rintro e w4 ⟨rfl, hl4⟩
      refine ⟨rfl, ?_⟩
      rw [HR.out]
      exact ⟨rfl, (HN.out.trans ((HP.out.up_lo (below_drw2 _)).trans hl4))⟩
     exact AllReadyH.nil
    refine consL rfl (fun K hK => ?_) ?_
    ·go_simp
     go_at_call 69
     (with_reducible refine (HG.out _ (HP.out.up (below_drw2 _))).mono ?_)
     rintro e w4 ⟨rfl, hl4⟩
     refine ⟨rfl, ?_⟩
     rw [HR.out]
     exact ⟨rfl, (HN.out.trans ((HP.out.up_lo (below_drw2 _)).trans hl4))⟩
    exact AllReadyH.nil
   | ok p =>
    obtain ⟨⟨gk, gn⟩, q⟩ := p
    have HGL := Lib.hid (seg_len HU.out.symm)
    have HR : Hid (V = bindS (segsS dry c.sym f (l ++ [(gk, gn)]) q) fun l r4 => effS (finP dry (decide ((a, b) ∈ c.yk)) (decide (c.pols.length = 64) || decide (32 < l.length)) r4) c { c with yk := c.yk ++ [(a, b)], pols := c.pols ++ [(a, b, l)] }) := Lib.hid (by rw [HV.out]; simp only [segsS, ← HU.out, bindS])
    clear HV
    go_wp2_with (first | (go_at_call 62; (first | ((with_reducible refine (cfg_peek HP.out).mono ?_))); (first | (rintro e w9 ⟨rfl, hb9⟩)); (first | (replace HPP := Lib.hid (HPP.out.lo (HP.out.up_lo hb9) HPW.out))); (first | (replace HN := Lib.hid (HN.out.trans (HP.out.up_lo hb9)))); (first | (replace HP := Lib.hid (HP.out.up hb9))); (first | (have p2 := HPP.out.c2)); (first | (clear hb9)); (first | (simp only [peekS, List.headD_cons]))))
    refine wp_region_held_drew (S := (fun _ => True)) (by kernel_rfl) ?_ (fun hHeld => ?_)
    ·exact trivial
    (refine takeL (i := 0) (v := ?_) rfl (by kernel_rfl) (by decide +kernel) (by decide +kernel) (fun _ _ _ h => h) (Or.inl ⟨by rfl, ?_⟩) (by assumption) ?_; rotate_left; (focus (intro w9 hS9; (try dsimp only at hS9); go_simp; (try with_reducible rfl); done)))
    (try simp only [Act.put, List.setIfInBounds_toArray, List.set_cons_zero, List.set_cons_succ])
    (refine takeL (i := 2) (v := ?_) rfl (by kernel_rfl) (by decide +kernel) (by decide +kernel) (fun _ _ _ h => h) (Or.inl ⟨by rfl, ?_⟩) (by assumption) ?_; rotate_left; (focus (intro w9 hS9; (try dsimp only at hS9); go_simp; (try with_reducible rfl); done)))
    (try simp only [Act.put, List.setIfInBounds_toArray, List.set_cons_zero, List.set_cons_succ])
    refine wpAnyH_ready (rs := [1, 3]) (by decide +kernel) (by simp) ?_
    refine consL rfl (fun K hK => ?_) ?_
    ·(first | fail | (go_simp; first | done | (first | fail)) | go_simp)
     (first | (with_reducible refine hK.out _ _ ?_ ?_) | (go_wp2_with fail; refine hK.out _ _ ?_ ?_))
     (focus (exact trivial))
     clear hK K hHeld
     intro hHeld
     (try simp only [Act.put, List.setIfInBounds_toArray, List.set_cons_zero, List.set_cons_succ])
     refine wpAnyH_ready (rs := [3]) (by decide +kernel) (by simp) ?_
     refine consL rfl (fun K hK => ?_) ?_
     ·(first | (go_at_call 69; (with_reducible refine (HG.out _ (HP.out.up (below_drw2 _))).mono ?_); rintro e w4 ⟨rfl, hp4, hl4⟩; simp only [encG]; have HP4 := Lib.hid hp4; have HPP4 := Lib.hid (HPP.out.lo ((HP.out.up_lo (below_drw2 _)).trans hl4) HPW.out); have HN4 := Lib.hid (HN.out.trans ((HP.out.up_lo (below_drw2 _)).trans hl4)); have d2 := HPP4.out.c2; clear hp4 hl4) | (go_simp; first | done | (first | (go_at_call 69; (with_reducible refine (HG.out _ (HP.out.up (below_drw2 _))).mono ?_); rintro e w4 ⟨rfl, hp4, hl4⟩; simp only [encG]; have HP4 := Lib.hid hp4; have HPP4 := Lib.hid (HPP.out.lo ((HP.out.up_lo (below_drw2 _)).trans hl4) HPW.out); have HN4 := Lib.hid (HN.out.trans ((HP.out.up_lo (below_drw2 _)).trans hl4)); have d2 := HPP4.out.c2; clear hp4 hl4))) | go_simp)
      (first | (with_reducible refine hK.out _ _ ?_ ?_) | (go_wp2_with fail; refine hK.out _ _ ?_ ?_))
      (focus (exact trivial))
      clear hK K hHeld
      intro hHeld
      (try simp only [Act.put, List.setIfInBounds_toArray, List.set_cons_zero, List.set_cons_succ])
      refine wpAnyH_ready (rs := [4]) (by decide +kernel) (by simp) ?_
      refine consL rfl (fun K hK => ?_) ?_
      ·(first | fail | (go_simp; first | done | (first | fail)) | go_simp)
       (first | (with_reducible refine hK.out _ _ ?_ ?_) | (go_wp2_with fail; refine hK.out _ _ ?_ ?_))
       (focus (exact trivial))
       clear hK K hHeld
       intro hHeld
       (try simp only [Act.put, List.setIfInBounds_toArray, List.set_cons_zero, List.set_cons_succ])
       refine wpAnyH_ready (rs := [5]) (by decide +kernel) (by simp) ?_
       refine consL rfl (fun K hK => ?_) ?_
       ·(first | (refine step_append_lies _ rfl _ _ 74 rfl (wl.heap.size + 1) 78 j0 (.agg #[.int .i64 0, .int .i64 0]) 2 16 Tryz.underlying74 hj hj0 hj1 hj2 rfl (by decide) _ _ _ rfl (HPP4.out.o.alloc _) ⟨_, 0, none⟩ 1 1 (sgV (gk, gn)) rfl rfl (cells_new _ (sgV (gk, gn)) _) (by intro u hu; simp only [sgV, List.mem_cons, List.not_mem_nil, or_false] at hu; rcases hu with rfl | rfl <;> rfl) (by decide) (by have := HLN.out.2; unfold maxLen; simp only [List.length_cons] at this; omega) (by have := HLN.out.2; simp only [List.length_cons] at this; omega) (by have := HPP4.out.lt; simp; omega) _ rfl ?_; intro gg cap W9 ap1 ap2 ap3 ap4; obtain ⟨p1, p2, p3, p4⟩ := HPP4.out.push (x := (gk, gn)) ap1 ap2; have P1 := Lib.hid p1; have P2 := Lib.hid p2; clear p1 p2 ap1 ap2 ap3 ap4) | (go_simp; first | done | (first | (refine step_append_lies _ rfl _ _ 74 rfl (wl.heap.size + 1) 78 j0 (.agg #[.int .i64 0, .int .i64 0]) 2 16 Tryz.underlying74 hj hj0 hj1 hj2 rfl (by decide) _ _ _ rfl (HPP4.out.o.alloc _) ⟨_, 0, none⟩ 1 1 (sgV (gk, gn)) rfl rfl (cells_new _ (sgV (gk, gn)) _) (by intro u hu; simp only [sgV, List.mem_cons, List.not_mem_nil, or_false] at hu; rcases hu with rfl | rfl <;> rfl) (by decide) (by have := HLN.out.2; unfold maxLen; simp only [List.length_cons] at this; omega) (by have := HLN.out.2; simp only [List.length_cons] at this; omega) (by have := HPP4.out.lt; simp; omega) _ rfl ?_; intro gg cap W9 ap1 ap2 ap3 ap4; obtain ⟨p1, p2, p3, p4⟩ := HPP4.out.push (x := (gk, gn)) ap1 ap2; have P1 := Lib.hid p1; have P2 := Lib.hid p2; clear p1 p2 ap1 ap2 ap3 ap4))) | go_simp)
        (first | (with_reducible refine hK.out _ _ ?_ ?_) | (go_wp2_with fail; refine hK.out _ _ ?_ ?_))
        (focus (exact trivial))
        clear hK K hHeld
        intro hHeld
        (try simp only [Act.put, List.setIfInBounds_toArray, List.set_cons_zero, List.set_cons_succ])
        (refine takeL (i := 6) (v := ?_) rfl (by kernel_rfl) (by decide +kernel) (by decide +kernel) (fun _ _ _ h => h) (Or.inl ⟨by rfl, ?_⟩) (by assumption) ?_; rotate_left; (focus (intro w9 hS9; (try dsimp only at hS9); go_simp; (try with_reducible rfl); done)))
        (try simp only [Act.put, List.setIfInBounds_toArray, List.set_cons_zero, List.set_cons_succ])
        refine wpAnyH_ready (rs := [7]) (by decide +kernel) (by simp) ?_
        refine consL rfl (fun K hK => ?_) ?_
        ·(first | fail | (go_simp; first | done | (first | fail)) | go_simp)
         (first | (with_reducible refine hK.out _ _ ?_ ?_) | (go_wp2_with fail; refine hK.out _ _ ?_ ?_))
         (focus (exact trivial))
         clear hK K hHeld
         intro hHeld
         (try simp only [Act.put, List.setIfInBounds_toArray, List.set_cons_zero, List.set_cons_succ])
         refine wpAnyH_done (by decide +kernel) ?_ _
         go_wp2_with fail
         go_roundw
         case rel => exact ⟨f, _, _, _, _, Lib.hid (HP4.out.onB H0.out.ps.below_stacks P2.out), Lib.hid (LoP.trans HN4.out (LoP.ofZ P2.out)), P1, Lib.hid HR.out, Lib.hid (by have a := HLN.out; have b := HGL.out; simp only [List.length_cons, List.length_append, List.length_nil] at *; omega)⟩
         case measure =>
          rw [HLQ.out]
          refine Nat.lt_of_le_of_lt (Nat.le_of_eq (HP4.out.onB H0.out.ps.below_stacks P2.out).left) ?_
          have := HGL.out
          simp only [List.length_cons] at this ⊢
          omega
        exact AllReadyH.nil
       exact AllReadyH.nil
      exact AllReadyH.nil
     exact AllReadyH.nil
    refine consL rfl (fun K hK => ?_) ?_
    ·(first | (go_at_call 69; (with_reducible refine (HG.out _ (HP.out.up (below_drw2 _))).mono ?_); rintro e w4 ⟨rfl, hp4, hl4⟩; simp only [encG]; have HP4 := Lib.hid hp4; have HPP4 := Lib.hid (HPP.out.lo ((HP.out.up_lo (below_drw2 _)).trans hl4) HPW.out); have HN4 := Lib.hid (HN.out.trans ((HP.out.up_lo (below_drw2 _)).trans hl4)); have d2 := HPP4.out.c2; clear hp4 hl4) | (go_simp; first | done | (first | (go_at_call 69; (with_reducible refine (HG.out _ (HP.out.up (below_drw2 _))).mono ?_); rintro e w4 ⟨rfl, hp4, hl4⟩; simp only [encG]; have HP4 := Lib.hid hp4; have HPP4 := Lib.hid (HPP.out.lo ((HP.out.up_lo (below_drw2 _)).trans hl4) HPW.out); have HN4 := Lib.hid (HN.out.trans ((HP.out.up_lo (below_drw2 _)).trans hl4)); have d2 := HPP4.out.c2; clear hp4 hl4))) | go_simp)
     (first | (with_reducible refine hK.out _ _ ?_ ?_) | (go_wp2_with fail; refine hK.out _ _ ?_ ?_))
     (focus (exact trivial))
     clear hK K hHeld
     intro hHeld
     (try simp only [Act.put, List.setIfInBounds_toArray, List.set_cons_zero, List.set_cons_succ])
     refine wpAnyH_ready (rs := [1, 4]) (by decide +kernel) (by simp) ?_
     refine consL rfl (fun K hK => ?_) ?_
     ·(first | fail | (go_simp; first | done | (first | fail)) | go_simp)
      (first | (with_reducible refine hK.out _ _ ?_ ?_) | (go_wp2_with fail; refine hK.out _ _ ?_ ?_))
      (focus (exact trivial))
      clear hK K hHeld
      intro hHeld
      (try simp only [Act.put, List.setIfInBounds_toArray, List.set_cons_zero, List.set_cons_succ])
      refine wpAnyH_ready (rs := [4]) (by decide +kernel) (by simp) ?_
      refine consL rfl (fun K hK => ?_) ?_
      ·(first | fail | (go_simp; first | done | (first | fail)) | go_simp)
       (first | (with_reducible refine hK.out _ _ ?_ ?_) | (go_wp2_with fail; refine hK.out _ _ ?_ ?_))
       (focus (exact trivial))
       clear hK K hHeld
       intro hHeld
       (try simp only [Act.put, List.setIfInBounds_toArray, List.set_cons_zero, List.set_cons_succ])
       refine wpAnyH_ready (rs := [5]) (by decide +kernel) (by simp) ?_
       refine consL rfl (fun K hK => ?_) ?_
       ·(first | (refine step_append_lies _ rfl _ _ 74 rfl (wl.heap.size + 1) 78 j0 (.agg #[.int .i64 0, .int .i64 0]) 2 16 Tryz.underlying74 hj hj0 hj1 hj2 rfl (by decide) _ _ _ rfl (HPP4.out.o.alloc _) ⟨_, 0, none⟩ 1 1 (sgV (gk, gn)) rfl rfl (cells_new _ (sgV (gk, gn)) _) (by intro u hu; simp only [sgV, List.mem_cons, List.not_mem_nil, or_false] at hu; rcases hu with rfl | rfl <;> rfl) (by decide) (by have := HLN.out.2; unfold maxLen; simp only [List.length_cons] at this; omega) (by have := HLN.out.2; simp only [List.length_cons] at this; omega) (by have := HPP4.out.lt; simp; omega) _ rfl ?_; intro gg cap W9 ap1 ap2 ap3 ap4; obtain ⟨p1, p2, p3, p4⟩ := HPP4.out.push (x := (gk, gn)) ap1 ap2; have P1 := Lib.hid p1; have P2 := Lib.hid p2; clear p1 p2 ap1 ap2 ap3 ap4) | (go_simp; first | done | (first | (refine step_append_lies _ rfl _ _ 74 rfl (wl.heap.size + 1) 78 j0 (.agg #[.int .i64 0, .int .i64 0]) 2 16 Tryz.underlying74 hj hj0 hj1 hj2 rfl (by decide) _ _ _ rfl (HPP4.out.o.alloc _) ⟨_, 0, none⟩ 1 1 (sgV (gk, gn)) rfl rfl (cells_new _ (sgV (gk, gn)) _) (by intro u hu; simp only [sgV, List.mem_cons, List.not_mem_nil, or_false] at hu; rcases hu with rfl | rfl <;> rfl) (by decide) (by have := HLN.out.2; unfold maxLen; simp only [List.length_cons] at this; omega) (by have := HLN.out.2; simp only [List.length_cons] at this; omega) (by have := HPP4.out.lt; simp; omega) _ rfl ?_; intro gg cap W9 ap1 ap2 ap3 ap4; obtain ⟨p1, p2, p3, p4⟩ := HPP4.out.push (x := (gk, gn)) ap1 ap2; have P1 := Lib.hid p1; have P2 := Lib.hid p2; clear p1 p2 ap1 ap2 ap3 ap4))) | go_simp)
        (first | (with_reducible refine hK.out _ _ ?_ ?_) | (go_wp2_with fail; refine hK.out _ _ ?_ ?_))
        (focus (exact trivial))
        clear hK K hHeld
        intro hHeld
        (try simp only [Act.put, List.setIfInBounds_toArray, List.set_cons_zero, List.set_cons_succ])
        (refine takeL (i := 6) (v := ?_) rfl (by kernel_rfl) (by decide +kernel) (by decide +kernel) (fun _ _ _ h => h) (Or.inl ⟨by rfl, ?_⟩) (by assumption) ?_; rotate_left; (focus (intro w9 hS9; (try dsimp only at hS9); go_simp; (try with_reducible rfl); done)))
        (try simp only [Act.put, List.setIfInBounds_toArray, List.set_cons_zero, List.set_cons_succ])
        refine wpAnyH_ready (rs := [7]) (by decide +kernel) (by simp) ?_
        refine consL rfl (fun K hK => ?_) ?_
        ·(first | fail | (go_simp; first | done | (first | fail)) | go_simp)
         (first | (with_reducible refine hK.out _ _ ?_ ?_) | (go_wp2_with fail; refine hK.out _ _ ?_ ?_))
         (focus (exact trivial))
         clear hK K hHeld
         intro hHeld
         (try simp only [Act.put, List.setIfInBounds_toArray, List.set_cons_zero, List.set_cons_succ])
         refine wpAnyH_done (by decide +kernel) ?_ _
         go_wp2_with fail
         go_roundw
         case rel => exact ⟨f, _, _, _, _, Lib.hid (HP4.out.onB H0.out.ps.below_stacks P2.out), Lib.hid (LoP.trans HN4.out (LoP.ofZ P2.out)), P1, Lib.hid HR.out, Lib.hid (by have a := HLN.out; have b := HGL.out; simp only [List.length_cons, List.length_append, List.length_nil] at *; omega)⟩
         case measure =>
          rw [HLQ.out]
          refine Nat.lt_of_le_of_lt (Nat.le_of_eq (HP4.out.onB H0.out.ps.below_stacks P2.out).left) ?_
          have := HGL.out
          simp only [List.length_cons] at this ⊢
          omega
        exact AllReadyH.nil
       exact AllReadyH.nil
      exact AllReadyH.nil
     refine consL rfl (fun K hK => ?_) ?_
     ·(first | fail | (go_simp; first | done | (first | fail)) | go_simp)
      (first | (with_reducible refine hK.out _ _ ?_ ?_) | (go_wp2_with fail; refine hK.out _ _ ?_ ?_))
      (focus (exact trivial))
      clear hK K hHeld
      intro hHeld
      (try simp only [Act.put, List.setIfInBounds_toArray, List.set_cons_zero, List.set_cons_succ])
      have e2 := cell_up (below_box w4 (.cells (sgV (gk, gn)).toArray 78)) d2
      simp only [sgV] at e2
      refine wpAnyH_ready (rs := [1]) (by decide +kernel) (by simp) ?_
      refine consL rfl (fun K hK => ?_) ?_
      ·(first | fail | (go_simp; first | done | (first | fail)) | go_simp)
       (first | (with_reducible refine hK.out _ _ ?_ ?_) | (go_wp2_with fail; refine hK.out _ _ ?_ ?_))
       (focus (exact trivial))
       clear hK K hHeld
       intro hHeld
       (try simp only [Act.put, List.setIfInBounds_toArray, List.set_cons_zero, List.set_cons_succ])
       refine wpAnyH_ready (rs := [5]) (by decide +kernel) (by simp) ?_
       refine consL rfl (fun K hK => ?_) ?_
       ·(first | (refine step_append_lies _ rfl _ _ 74 rfl (wl.heap.size + 1) 78 j0 (.agg #[.int .i64 0, .int .i64 0]) 2 16 Tryz.underlying74 hj hj0 hj1 hj2 rfl (by decide) _ _ _ rfl (HPP4.out.o.alloc _) ⟨_, 0, none⟩ 1 1 (sgV (gk, gn)) rfl rfl (cells_new _ (sgV (gk, gn)) _) (by intro u hu; simp only [sgV, List.mem_cons, List.not_mem_nil, or_false] at hu; rcases hu with rfl | rfl <;> rfl) (by decide) (by have := HLN.out.2; unfold maxLen; simp only [List.length_cons] at this; omega) (by have := HLN.out.2; simp only [List.length_cons] at this; omega) (by have := HPP4.out.lt; simp; omega) _ rfl ?_; intro gg cap W9 ap1 ap2 ap3 ap4; obtain ⟨p1, p2, p3, p4⟩ := HPP4.out.push (x := (gk, gn)) ap1 ap2; have P1 := Lib.hid p1; have P2 := Lib.hid p2; clear p1 p2 ap1 ap2 ap3 ap4) | (go_simp; first | done | (first | (refine step_append_lies _ rfl _ _ 74 rfl (wl.heap.size + 1) 78 j0 (.agg #[.int .i64 0, .int .i64 0]) 2 16 Tryz.underlying74 hj hj0 hj1 hj2 rfl (by decide) _ _ _ rfl (HPP4.out.o.alloc _) ⟨_, 0, none⟩ 1 1 (sgV (gk, gn)) rfl rfl (cells_new _ (sgV (gk, gn)) _) (by intro u hu; simp only [sgV, List.mem_cons, List.not_mem_nil, or_false] at hu; rcases hu with rfl | rfl <;> rfl) (by decide) (by have := HLN.out.2; unfold maxLen; simp only [List.length_cons] at this; omega) (by have := HLN.out.2; simp only [List.length_cons] at this; omega) (by have := HPP4.out.lt; simp; omega) _ rfl ?_; intro gg cap W9 ap1 ap2 ap3 ap4; obtain ⟨p1, p2, p3, p4⟩ := HPP4.out.push (x := (gk, gn)) ap1 ap2; have P1 := Lib.hid p1; have P2 := Lib.hid p2; clear p1 p2 ap1 ap2 ap3 ap4))) | go_simp)
        (first | (with_reducible refine hK.out _ _ ?_ ?_) | (go_wp2_with fail; refine hK.out _ _ ?_ ?_))
        (focus (exact trivial))
        clear hK K hHeld
        intro hHeld
        (try simp only [Act.put, List.setIfInBounds_toArray, List.set_cons_zero, List.set_cons_succ])
        (refine takeL (i := 6) (v := ?_) rfl (by kernel_rfl) (by decide +kernel) (by decide +kernel) (fun _ _ _ h => h) (Or.inl ⟨by rfl, ?_⟩) (by assumption) ?_; rotate_left; (focus (intro w9 hS9; (try dsimp only at hS9); go_simp; (try with_reducible rfl); done)))
        (try simp only [Act.put, List.setIfInBounds_toArray, List.set_cons_zero, List.set_cons_succ])
        refine wpAnyH_ready (rs := [7]) (by decide +kernel) (by simp) ?_
        refine consL rfl (fun K hK => ?_) ?_
        ·(first | fail | (go_simp; first | done | (first | fail)) | go_simp)
         (first | (with_reducible refine hK.out _ _ ?_ ?_) | (go_wp2_with fail; refine hK.out _ _ ?_ ?_))
         (focus (exact trivial))
         clear hK K hHeld
         intro hHeld
         (try simp only [Act.put, List.setIfInBounds_toArray, List.set_cons_zero, List.set_cons_succ])
         refine wpAnyH_done (by decide +kernel) ?_ _
         go_wp2_with fail
         go_roundw
         case rel => exact ⟨f, _, _, _, _, Lib.hid (HP4.out.onB H0.out.ps.below_stacks P2.out), Lib.hid (LoP.trans HN4.out (LoP.ofZ P2.out)), P1, Lib.hid HR.out, Lib.hid (by have a := HLN.out; have b := HGL.out; simp only [List.length_cons, List.length_append, List.length_nil] at *; omega)⟩
         case measure =>
          rw [HLQ.out]
          refine Nat.lt_of_le_of_lt (Nat.le_of_eq (HP4.out.onB H0.out.ps.below_stacks P2.out).left) ?_
          have := HGL.out
          simp only [List.length_cons] at this ⊢
          omega
        exact AllReadyH.nil
       exact AllReadyH.nil
      exact AllReadyH.nil
     exact AllReadyH.nil
    exact AllReadyH.nil
  | nil =>
   obtain ⟨dup, hd⟩ : ∃ dup, dup = decide ((a, b) ∈ c.yk) := ⟨_, rfl⟩
   obtain ⟨f64, h6⟩ : ∃ f, f = decide (c.pols.length = 64) := ⟨_, rfl⟩
   obtain ⟨big, h3⟩ : ∃ f, f = decide (32 < l.length) := ⟨_, rfl⟩
   replace HV : Hid (V = effS (finP dry dup (f64 || big) []) c { c with yk := c.yk ++ [(a, b)], pols := c.pols ++ [(a, b, l)] }) := Lib.hid (HV.out.trans (by rw [hd, h6, h3]; rfl))
   have h64 : ((c.pols.length : Int) == 64) = f64 := by
    rw [h6]
    by_cases h : c.pols.length = 64
    ·rw [h]; rfl
    ·rw [decide_eq_false h, beq_eq_false_iff_ne]; omega
   have hbig : decide ((32 : Int) < (l.length : Int)) = big := by
    rw [h3]
    by_cases h : 32 < l.length
    ·rw [decide_eq_true h, decide_eq_true (by omega)]
    ·rw [decide_eq_false h, decide_eq_false (by omega)]
   have HD := Lib.hid hd
   have H6 := Lib.hid h6
   have H3 := Lib.hid h3
   clear hd h6 h3
   go_wp2_with (first | (go_at_call 62; (first | ((with_reducible refine (cfg_peek HP.out).mono ?_))); (first | (rintro e w9 ⟨rfl, hb9⟩)); (first | (replace HPP := Lib.hid (HPP.out.lo (HP.out.up_lo hb9) HPW.out))); (first | (replace HN := Lib.hid (HN.out.trans (HP.out.up_lo hb9)))); (first | (replace HP := Lib.hid (HP.out.up hb9))); (first | (have p0 := HPP.out.c0)); (first | (have p1 := HPP.out.c1)); (first | (clear hb9)); (first | (simp only [peekS, List.headD_nil]))))
   have HKN := Lib.hid (Nat.le_of_eq (rfl : w9.heap.size = w9.heap.size))
   obtain ⟨kb, hkb⟩ : ∃ kb, kb = w9.heap.size := ⟨_, rfl⟩
   have HK : Hid ((w9.alloc (.cells #[.int .i64 a, .int .i64 b] 42)).heap[kb]? = some (.cells #[.int .i64 a, .int .i64 b] 42 (0, 0))) := Lib.hid (by rw [hkb]; exact heap_alloc_new w9 _)
   have HKB : Hid (W.heap.size ≤ kb) := Lib.hid (by rw [hkb]; exact HN.out.size)
   replace HPP := Lib.hid (HPP.out.lo (LoN.below (pb := pb) (below_box w9 (.cells #[.int .i64 a, .int .i64 b] 42))) HPW.out)
   replace HN := Lib.hid (HN.out.trans (LoN.below (below_box w9 (.cells #[.int .i64 a, .int .i64 b] 42))))
   replace HP := Lib.hid (HP.out.up (below_box w9 (.cells #[.int .i64 a, .int .i64 b] 42)))
   rw [← hkb]
   generalize hw : w9.alloc (.cells #[.int .i64 a, .int .i64 b] 42) = w10 at HK HPP HN HP ⊢
   clear hw hkb p0 p1 HKN
   have HST := Lib.hid (H0.out.read HP.out HN.out).st
   have s1 : w10.cell? ⟨pb, 16, none⟩ = some (.map (some yb)) := HP.out.kc 16 (by decide)
   obtain ⟨s2, s3, sf⟩ := two_cells HK.out
   have s4 : w10.cell? ⟨pb, 6, none⟩ = some (.slice r.aQ c.pols.length r.cQ) := HP.out.kc 6 (by decide)
   have s5 := HPP.out.c2
   have s6 : (Instr.lookup 49 (.map (some yb)) (.agg #[.int .i64 a, .int .i64 b]) false).run Tryz.prog w10.drew = .ok (.bool dup) w10.drew := (two_look HST.out.drew.ym a b HIA.out HIB.out).trans (by rw [HD.out])
   have HFN := Lib.hid (fun full => cfg_finish (HP.out.up (below_drw2 _)) dup full)
   cases f64 with
   | true =>
    refine wp_region_held_drew (S := (fun w' => w'.cell? ⟨pb, 16, none⟩ = some (.map (some yb)) ∧ w'.cell? ⟨kb, 0, none⟩ = some (.int .i64 a) ∧ w'.cell? ⟨kb, 1, none⟩ = some (.int .i64 b) ∧ w'.cell? ⟨pb, 6, none⟩ = some (.slice r.aQ c.pols.length r.cQ) ∧ w'.cell? ⟨wl.heap.size, 2, none⟩ = some (.slice Al l.length cl) ∧ (Instr.lookup 49 (.map (some yb)) (.agg #[.int .i64 a, .int .i64 b]) false).run Tryz.prog w' = .ok (.bool dup) w')) (by kernel_rfl) ?_ (fun hHeld => ?_)
    ·exact ⟨s1, s2, s3, s4, s5, s6⟩
    (refine takeL (i := 0) (v := ?_) rfl (by kernel_rfl) (by decide +kernel) (by decide +kernel) (fun _ _ _ h => h) (Or.inl ⟨by rfl, ?_⟩) (by assumption) ?_; rotate_left; (focus (intro w9 hS9; (try dsimp only at hS9); go_simp; (try with_reducible rfl); done)))
    (try simp only [Act.put, List.setIfInBounds_toArray, List.set_cons_zero, List.set_cons_succ])
    (refine takeL (i := 1) (v := ?_) rfl (by kernel_rfl) (by decide +kernel) (by decide +kernel) (fun _ _ _ h => h) (Or.inl ⟨by rfl, ?_⟩) (by assumption) ?_; rotate_left; (focus (intro w9 hS9; (try dsimp only at hS9); go_simp; (try with_reducible rfl); done)))
    (try simp only [Act.put, List.setIfInBounds_toArray, List.set_cons_zero, List.set_cons_succ])
    (refine takeL (i := 2) (v := ?_) rfl (by kernel_rfl) (by decide +kernel) (by decide +kernel) (fun _ _ _ h => h) (Or.inl ⟨by rfl, ?_⟩) (by assumption) ?_; rotate_left; (focus (intro w9 hS9; (try dsimp only at hS9); go_simp; (try with_reducible rfl); done)))
    (try simp only [Act.put, List.setIfInBounds_toArray, List.set_cons_zero, List.set_cons_succ])
    (refine takeL (i := 3) (v := ?_) rfl (by kernel_rfl) (by decide +kernel) (by decide +kernel) (fun _ _ _ h => h) (Or.inl ⟨by rfl, ?_⟩) (by assumption) ?_; rotate_left; (focus (intro w9 hS9; (try dsimp only at hS9); go_simp; (try with_reducible rfl); done)))
    (try simp only [Act.put, List.setIfInBounds_toArray, List.set_cons_zero, List.set_cons_succ])
    (refine takeL (i := 4) (v := ?_) rfl (by kernel_rfl) (by decide +kernel) (by decide +kernel) (fun _ _ _ h => h) (Or.inl ⟨by rfl, ?_⟩) (by assumption) ?_; rotate_left; (focus (intro w9 hS9; (try dsimp only at hS9); go_simp; (try with_reducible rfl); done)))
    (try simp only [Act.put, List.setIfInBounds_toArray, List.set_cons_zero, List.set_cons_succ])
    (refine takeL (i := 5) (v := ?_) rfl (by kernel_rfl) (by decide +kernel) (by decide +kernel) (fun _ _ _ h => h) (Or.inl ⟨by rfl, ?_⟩) (by assumption) ?_; rotate_left; (focus (intro w9 hS9; (try dsimp only at hS9); go_simp; (try with_reducible rfl); done)))
    (try simp only [Act.put, List.setIfInBounds_toArray, List.set_cons_zero, List.set_cons_succ])
    (refine takeL (i := 6) (v := ?_) rfl (by kernel_rfl) (by decide +kernel) (by decide +kernel) (fun _ _ _ h => h) (Or.inl ⟨by rfl, ?_⟩) (by assumption) ?_; rotate_left; (focus (intro w9 hS9; (try dsimp only at hS9); go_simp; (try with_reducible rfl); done)))
    (try simp only [Act.put, List.setIfInBounds_toArray, List.set_cons_zero, List.set_cons_succ])
    (refine takeL (i := 7) (v := ?_) rfl (by kernel_rfl) (by decide +kernel) (by decide +kernel) (fun _ _ _ h => h) (Or.inl ⟨by rfl, ?_⟩) (by assumption) ?_; rotate_left; (focus (intro w9 hS9; (try dsimp only at hS9); go_simp; (try with_reducible rfl); done)))
    (try simp only [Act.put, List.setIfInBounds_toArray, List.set_cons_zero, List.set_cons_succ])
    (refine takeL (i := 8) (v := ?_) rfl (by kernel_rfl) (by decide +kernel) (by decide +kernel) (fun _ _ _ h => h) (Or.inl ⟨by rfl, ?_⟩) (by assumption) ?_; rotate_left; (focus (intro w9 hS9; (try dsimp only at hS9); go_simp; (try with_reducible rfl); done)))
    (try simp only [Act.put, List.setIfInBounds_toArray, List.set_cons_zero, List.set_cons_succ])
    (refine takeL (i := 9) (v := ?_) rfl (by kernel_rfl) (by decide +kernel) (by decide +kernel) (fun _ _ _ h => h) (Or.inl ⟨by rfl, ?_⟩) (by assumption) ?_; rotate_left; (focus (intro w9 hS9; (try dsimp only at hS9); go_simp; (try with_reducible rfl); done)))
    (try simp only [Act.put, List.setIfInBounds_toArray, List.set_cons_zero, List.set_cons_succ])
    (refine takeL (i := 10) (v := ?_) rfl (by kernel_rfl) (by decide +kernel) (by decide +kernel) (fun _ _ _ h => h) (Or.inl ⟨by rfl, ?_⟩) (by assumption) ?_; rotate_left; (focus (intro w9 hS9; (try dsimp only at hS9); go_simp; (try with_reducible rfl); done)))
    (try simp only [Act.put, List.setIfInBounds_toArray, List.set_cons_zero, List.set_cons_succ])
    (refine takeL (i := 11) (v := ?_) rfl (by kernel_rfl) (by decide +kernel) (by decide +kernel) (fun _ _ _ h => h) (Or.inl ⟨by rfl, ?_⟩) (by assumption) ?_; rotate_left; (focus (intro w9 hS9; (try dsimp only at hS9); go_simp; (try with_reducible rfl); done)))
    (try simp only [Act.put, List.setIfInBounds_toArray, List.set_cons_zero, List.set_cons_succ])
    (refine takeL (i := 12) (v := ?_) rfl (by kernel_rfl) (by decide +kernel) (by decide +kernel) (fun _ _ _ h => h) (Or.inl ⟨by rfl, ?_⟩) (by assumption) ?_; rotate_left; (focus (intro w9 hS9; (try dsimp only at hS9); go_simp; (try with_reducible rfl); done)))
    (try simp only [Act.put, List.setIfInBounds_toArray, List.set_cons_zero, List.set_cons_succ])
    (refine takeL (i := 13) (v := ?_) rfl (by kernel_rfl) (by decide +kernel) (by decide +kernel) (fun _ _ _ h => h) (Or.inl ⟨by rfl, ?_⟩) (by assumption) ?_; rotate_left; (focus (intro w9 hS9; (try dsimp only at hS9); go_simp; (try with_reducible rfl); done)))
    (try simp only [Act.put, List.setIfInBounds_toArray, List.set_cons_zero, List.set_cons_succ])
    (refine takeL (i := 14) (v := ?_) rfl (by kernel_rfl) (by decide +kernel) (by decide +kernel) (fun _ _ _ h => h) (Or.inl ⟨by rfl, ?_⟩) (by assumption) ?_; rotate_left; (focus (intro w9 hS9; (try dsimp only at hS9); go_simp; (try with_reducible rfl); done)))
    (try simp only [Act.put, List.setIfInBounds_toArray, List.set_cons_zero, List.set_cons_succ])
    (refine takeL (i := 15) (v := undef) rfl (by kernel_rfl) (by decide +kernel) (by decide +kernel) (fun _ _ _ h => h) (Or.inr ⟨by rfl, rfl⟩) (by assumption) ?_)
    (try simp only [Act.put, List.setIfInBounds_toArray, List.set_cons_zero, List.set_cons_succ])
    (refine takeL (i := 16) (v := undef) rfl (by kernel_rfl) (by decide +kernel) (by decide +kernel) (fun _ _ _ h => h) (Or.inr ⟨by rfl, rfl⟩) (by assumption) ?_)
    (try simp only [Act.put, List.setIfInBounds_toArray, List.set_cons_zero, List.set_cons_succ])
    (refine takeL (i := 17) (v := undef) rfl (by kernel_rfl) (by decide +kernel) (by decide +kernel) (fun _ _ _ h => h) (Or.inr ⟨by rfl, rfl⟩) (by assumption) ?_)
    (try simp only [Act.put, List.setIfInBounds_toArray, List.set_cons_zero, List.set_cons_succ])
    (refine takeL (i := 18) (v := undef) rfl (by kernel_rfl) (by decide +kernel) (by decide +kernel) (fun _ _ _ h => h) (Or.inr ⟨by rfl, rfl⟩) (by assumption) ?_)
    (try simp only [Act.put, List.setIfInBounds_toArray, List.set_cons_zero, List.set_cons_succ])
    (refine takeL (i := 19) (v := ?_) rfl (by kernel_rfl) (by decide +kernel) (by decide +kernel) (fun _ _ _ h => h) (Or.inl ⟨by rfl, ?_⟩) (by assumption) ?_; rotate_left; (focus (intro w9 hS9; (try dsimp only at hS9); go_simp; (try with_reducible rfl); done)))
    (try simp only [Act.put, List.setIfInBounds_toArray, List.set_cons_zero, List.set_cons_succ])
    have HF := Lib.hid (HFN.out true)
    obtain ⟨U, hU⟩ : ∃ U, U = finP dry dup true [] := ⟨_, rfl⟩
    (try simp only [Bool.true_or] at HV)
    rw [← hU] at HF HV
    have HU := Lib.hid hU
    clear hU HFN
    cases U with
    | error e1 =>
     refine wpAnyH_ready (rs := [20]) (by decide +kernel) (by simp) ?_
     refine consL rfl (fun K hK => ?_) ?_
     ·go_simp
      go_at_call 59
      (with_reducible refine HF.out.mono ?_)
      rintro e w4 ⟨rfl, hl4⟩
      obtain rfl := HV.out
      exact ⟨rfl, rfl, (HN.out.trans ((LoN.below (below_drw2 w10)).trans hl4))⟩
     exact AllReadyH.nil
    | ok p =>
     obtain ⟨eff, q⟩ := p
     cases eff with
     | false =>
      have HDR := Lib.hid (finP_false HU.out.symm).1
      refine wpAnyH_ready (rs := [20]) (by decide +kernel) (by simp) ?_
      refine consL rfl (fun K hK => ?_) ?_
      ·(first | (go_at_call 59; (with_reducible refine HF.out.mono ?_); rintro e w4 ⟨rfl, hp4, hl4⟩; simp only [encB]; have HP4 := Lib.hid hp4; have HN4 := Lib.hid (HN.out.trans ((LoN.below (below_drw2 w10)).trans hl4)); have HPP4 := Lib.hid (HPP.out.lo ((LoN.below (pb := pb) (below_drw2 w10)).trans hl4) HPW.out); have HK4 := Lib.hid ((hl4.blk kb (lt_of_heap HK.out) (by have a := HKB.out; have b := HPW.out; simp; omega)).trans (show w10.drew.heap[kb]? = _ from HK.out)); have HS4 := Lib.hid (H0.out.read HP4.out HN4.out).st; have u1 : w4.cell? ⟨pb, 16, none⟩ = some (.map (some yb)) := HP4.out.kc 16 (by decide); obtain ⟨u2, u3, uf⟩ := two_cells HK4.out; have u4 : w4.cell? ⟨pb, 6, none⟩ = some (.slice r.aQ c.pols.length r.cQ) := HP4.out.kc 6 (by decide); have u5 := HPP4.out.c2; have u6 := (two_look HS4.out.ym a b HIA.out HIB.out).trans (by rw [← HD.out]); clear hp4 hl4) | (go_simp; first | done | (first | (go_at_call 59; (with_reducible refine HF.out.mono ?_); rintro e w4 ⟨rfl, hp4, hl4⟩; simp only [encB]; have HP4 := Lib.hid hp4; have HN4 := Lib.hid (HN.out.trans ((LoN.below (below_drw2 w10)).trans hl4)); have HPP4 := Lib.hid (HPP.out.lo ((LoN.below (pb := pb) (below_drw2 w10)).trans hl4) HPW.out); have HK4 := Lib.hid ((hl4.blk kb (lt_of_heap HK.out) (by have a := HKB.out; have b := HPW.out; simp; omega)).trans (show w10.drew.heap[kb]? = _ from HK.out)); have HS4 := Lib.hid (H0.out.read HP4.out HN4.out).st; have u1 : w4.cell? ⟨pb, 16, none⟩ = some (.map (some yb)) := HP4.out.kc 16 (by decide); obtain ⟨u2, u3, uf⟩ := two_cells HK4.out; have u4 : w4.cell? ⟨pb, 6, none⟩ = some (.slice r.aQ c.pols.length r.cQ) := HP4.out.kc 6 (by decide); have u5 := HPP4.out.c2; have u6 := (two_look HS4.out.ym a b HIA.out HIB.out).trans (by rw [← HD.out]); clear hp4 hl4))) | go_simp)
       (first | (with_reducible refine hK.out _ _ ?_ ?_) | (go_wp2_with fail; refine hK.out _ _ ?_ ?_))
       (focus (exact ⟨u1, u2, u3, u4, u5, u6⟩))
       clear hK K hHeld
       intro hHeld
       (try simp only [Act.put, List.setIfInBounds_toArray, List.set_cons_zero, List.set_cons_succ])
       refine wpAnyH_done (by decide +kernel) ?_ _
       go_wp2_with fail
       go_end0
       obtain rfl := HV.out
       exact ⟨rfl, HN4.out.toM H0.out.st.sz (by simp), _, _, HS4.out, (fun _ => ⟨rfl, rfl, HN4.out⟩), rfl⟩
      exact AllReadyH.nil
     | true =>
      have HDR := Lib.hid (finP_true HU.out.symm).1
      refine wpAnyH_ready (rs := [20]) (by decide +kernel) (by simp) ?_
      refine consL rfl (fun K hK => ?_) ?_
      ·(first | (go_at_call 59; (with_reducible refine HF.out.mono ?_); rintro e w4 ⟨rfl, hp4, hl4⟩; simp only [encB]; have HP4 := Lib.hid hp4; have HN4 := Lib.hid (HN.out.trans ((LoN.below (below_drw2 w10)).trans hl4)); have HPP4 := Lib.hid (HPP.out.lo ((LoN.below (pb := pb) (below_drw2 w10)).trans hl4) HPW.out); have HK4 := Lib.hid ((hl4.blk kb (lt_of_heap HK.out) (by have a := HKB.out; have b := HPW.out; simp; omega)).trans (show w10.drew.heap[kb]? = _ from HK.out)); have HS4 := Lib.hid (H0.out.read HP4.out HN4.out).st; have u1 : w4.cell? ⟨pb, 16, none⟩ = some (.map (some yb)) := HP4.out.kc 16 (by decide); obtain ⟨u2, u3, uf⟩ := two_cells HK4.out; have u4 : w4.cell? ⟨pb, 6, none⟩ = some (.slice r.aQ c.pols.length r.cQ) := HP4.out.kc 6 (by decide); have u5 := HPP4.out.c2; have u6 := (two_look HS4.out.ym a b HIA.out HIB.out).trans (by rw [← HD.out]); clear hp4 hl4) | (go_simp; first | done | (first | (go_at_call 59; (with_reducible refine HF.out.mono ?_); rintro e w4 ⟨rfl, hp4, hl4⟩; simp only [encB]; have HP4 := Lib.hid hp4; have HN4 := Lib.hid (HN.out.trans ((LoN.below (below_drw2 w10)).trans hl4)); have HPP4 := Lib.hid (HPP.out.lo ((LoN.below (pb := pb) (below_drw2 w10)).trans hl4) HPW.out); have HK4 := Lib.hid ((hl4.blk kb (lt_of_heap HK.out) (by have a := HKB.out; have b := HPW.out; simp; omega)).trans (show w10.drew.heap[kb]? = _ from HK.out)); have HS4 := Lib.hid (H0.out.read HP4.out HN4.out).st; have u1 : w4.cell? ⟨pb, 16, none⟩ = some (.map (some yb)) := HP4.out.kc 16 (by decide); obtain ⟨u2, u3, uf⟩ := two_cells HK4.out; have u4 : w4.cell? ⟨pb, 6, none⟩ = some (.slice r.aQ c.pols.length r.cQ) := HP4.out.kc 6 (by decide); have u5 := HPP4.out.c2; have u6 := (two_look HS4.out.ym a b HIA.out HIB.out).trans (by rw [← HD.out]); clear hp4 hl4))) | go_simp)
       (first | (with_reducible refine hK.out _ _ ?_ ?_) | (go_wp2_with fail; refine hK.out _ _ ?_ ?_))
       (focus (exact ⟨u1, u2, u3, u4, u5, u6⟩))
       clear hK K hHeld
       intro hHeld
       (try simp only [Act.put, List.setIfInBounds_toArray, List.set_cons_zero, List.set_cons_succ])
       refine wpAnyH_done (by decide +kernel) ?_ _
       clear hHeld u4 u5 u6 s1 s2 s3 s4 s5 s6 sf
       go_wp2_with fail
       have HNY : Hid ((a, b) ∉ c.yk) := Lib.hid (by have h1 := (finP_true HU.out.symm).2.1; have h2 := HD.out; rw [h1] at h2; exact of_decide_eq_false h2.symm)
       have HLM : Hid (c.pols.length < 64) := Lib.hid (by have h1 := (finP_true HU.out.symm).2.2.1; have h2 := H6.out; have h3 := H0.out.st.lim.pols; first | exact absurd h1 (by decide) | (have := of_decide_eq_false h2.symm; omega))
       obtain ⟨w5, hup, hs5, hm5, hg5⟩ := HS4.out.drew.keyY a b HIA.out HIB.out HNY.out
       have HS5 := Lib.hid hs5
       have HM5 := Lib.hid hm5
       have HG5 := Lib.hid hg5
       clear hs5 hm5 hg5
       refine wp_region_held_drew (S := (fun _ => True)) (by kernel_rfl) ?_ (fun hHeld => ?_)
       ·exact trivial
       (refine takeL (i := 0) (v := ?_) rfl (by kernel_rfl) (by decide +kernel) (by decide +kernel) (fun _ _ _ h => h) (Or.inl ⟨by rfl, ?_⟩) (by assumption) ?_; rotate_left; (focus (intro w9 hS9; (try dsimp only at hS9); go_simp; (try with_reducible rfl); done)))
       (try simp only [Act.put, List.setIfInBounds_toArray, List.set_cons_zero, List.set_cons_succ])
       (refine takeL (i := 1) (v := ?_) rfl (by kernel_rfl) (by decide +kernel) (by decide +kernel) (fun _ _ _ h => h) (Or.inl ⟨by rfl, ?_⟩) (by assumption) ?_; rotate_left; (focus (intro w9 hS9; (try dsimp only at hS9); go_simp; (try with_reducible rfl); done)))
       (try simp only [Act.put, List.setIfInBounds_toArray, List.set_cons_zero, List.set_cons_succ])
       (refine takeL (i := 2) (v := ?_) rfl (by kernel_rfl) (by decide +kernel) (by decide +kernel) (fun _ _ _ h => h) (Or.inl ⟨by rfl, ?_⟩) (by assumption) ?_; rotate_left; (focus (intro w9 hS9; (try dsimp only at hS9); go_simp; (try with_reducible rfl); done)))
       (try simp only [Act.put, List.setIfInBounds_toArray, List.set_cons_zero, List.set_cons_succ])
       refine wpAnyH_ready (rs := [3, 4]) (by decide +kernel) (by simp) ?_
       refine consL rfl (fun K hK => ?_) ?_
       ·(first | fail | (go_simp; first | done | (first | fail)) | go_simp)
        (first | (with_reducible refine hK.out _ _ ?_ ?_) | (go_wp2_with fail; refine hK.out _ _ ?_ ?_))
        (focus (exact trivial))
        clear hK K hHeld
        intro hHeld
        (try simp only [Act.put, List.setIfInBounds_toArray, List.set_cons_zero, List.set_cons_succ])
        refine wpAnyH_ready (rs := [4]) (by decide +kernel) (by simp) ?_
        refine consL rfl (fun K hK => ?_) ?_
        ·(first | fail | (go_simp; first | done | (first | fail)) | go_simp)
         (first | (with_reducible refine hK.out _ _ ?_ ?_) | (go_wp2_with fail; refine hK.out _ _ ?_ ?_))
         (focus (exact trivial))
         clear hK K hHeld
         intro hHeld
         (try simp only [Act.put, List.setIfInBounds_toArray, List.set_cons_zero, List.set_cons_succ])
         refine wpAnyH_ready (rs := [5]) (by decide +kernel) (by simp) ?_
         refine consL rfl (fun K hK => ?_) ?_
         ·(first | fail | (go_simp; first | done | (first | fail)) | go_simp)
          (first | (with_reducible refine hK.out _ _ ?_ ?_) | (go_wp2_with fail; refine hK.out _ _ ?_ ?_))
          (focus (exact trivial))
          clear hK K hHeld
          intro hHeld
          (try simp only [Act.put, List.setIfInBounds_toArray, List.set_cons_zero, List.set_cons_succ])
          refine wpAnyH_done (by decide +kernel) ?_ _
          clear hHeld u1 u2 u3 uf hup
          have HPL := Lib.hid (HPP4.out.keepY HG5.out (by have := H0.out.st.bl.1.2.2.2; have := H0.out.st.sz; have := HPP4.out.h; omega))
          go_wp2_with fail
          have H8 := Lib.hid HS5.out.drew
          have HO8 : Hid (w5.drew.ownsRow B 76 3 (.slice r.aQ c.pols.length r.cQ) c.pols.length ((c.pols.zip r.ls).flatMap plV)) := Lib.hid H8.out.ownQ
          have v4 : w5.cell? ⟨pb, 6, none⟩ = some (.slice r.aQ c.pols.length r.cQ) := HS5.out.cell 6 (by decide)
          have v0 := HPL.out.c0
          have v1 := HPL.out.c1
          have v2 := HPL.out.c2
          have HLO : Hid (w5.drew.ownsRow B 78 2 (.slice Al l.length cl) l.length (l.flatMap sgV)) := Lib.hid (own_base HPL.out.o (by have := H0.out.st.sz; have := HPL.out.h; omega))
          have HLF : Hid (∀ g, fldA Al = some g → ∀ S ∈ rowsOf r { c with yk := c.yk ++ [(a, b)] }, fldA S.A ≠ some g) := Lib.hid (fun g e S hS e2 => by have q1 := (H0.out.st.rows.lt (R := S) hS e2).2; have q2 := (HPL.out.o.lt g (by rw [ownBlock_A]; exact e)).1; have q3 := HPL.out.h; omega)
          refine wp_region_held_drew (S := (fun _ => True)) (by kernel_rfl) ?_ (fun hHeld => ?_)
          ·exact trivial
          (refine takeL (i := 0) (v := ?_) rfl (by kernel_rfl) (by decide +kernel) (by decide +kernel) (fun _ _ _ h => h) (Or.inl ⟨by rfl, ?_⟩) (by assumption) ?_; rotate_left; (focus (intro w9 hS9; (try dsimp only at hS9); go_simp; (try with_reducible rfl); done)))
          (try simp only [Act.put, List.setIfInBounds_toArray, List.set_cons_zero, List.set_cons_succ])
          (refine takeL (i := 1) (v := ?_) rfl (by kernel_rfl) (by decide +kernel) (by decide +kernel) (fun _ _ _ h => h) (Or.inl ⟨by rfl, ?_⟩) (by assumption) ?_; rotate_left; (focus (intro w9 hS9; (try dsimp only at hS9); go_simp; (try with_reducible rfl); done)))
          (try simp only [Act.put, List.setIfInBounds_toArray, List.set_cons_zero, List.set_cons_succ])
          (refine takeL (i := 2) (v := ?_) rfl (by kernel_rfl) (by decide +kernel) (by decide +kernel) (fun _ _ _ h => h) (Or.inl ⟨by rfl, ?_⟩) (by assumption) ?_; rotate_left; (focus (intro w9 hS9; (try dsimp only at hS9); go_simp; (try with_reducible rfl); done)))
          (try simp only [Act.put, List.setIfInBounds_toArray, List.set_cons_zero, List.set_cons_succ])
          (refine takeL (i := 3) (v := ?_) rfl (by kernel_rfl) (by decide +kernel) (by decide +kernel) (fun _ _ _ h => h) (Or.inl ⟨by rfl, ?_⟩) (by assumption) ?_; rotate_left; (focus (intro w9 hS9; (try dsimp only at hS9); go_simp; (try with_reducible rfl); done)))
          (try simp only [Act.put, List.setIfInBounds_toArray, List.set_cons_zero, List.set_cons_succ])
          (refine takeL (i := 4) (v := ?_) rfl (by kernel_rfl) (by decide +kernel) (by decide +kernel) (fun _ _ _ h => h) (Or.inl ⟨by rfl, ?_⟩) (by assumption) ?_; rotate_left; (focus (intro w9 hS9; (try dsimp only at hS9); go_simp; (try with_reducible rfl); done)))
          (try simp only [Act.put, List.setIfInBounds_toArray, List.set_cons_zero, List.set_cons_succ])
          refine wpAnyH_ready (rs := [5, 6]) (by decide +kernel) (by simp) ?_
          refine consL rfl (fun K hK => ?_) ?_
          ·(first | fail | (go_simp; first | done | (first | fail)) | go_simp)
           (first | (with_reducible refine hK.out _ _ ?_ ?_) | (go_wp2_with fail; refine hK.out _ _ ?_ ?_))
           (focus (exact trivial))
           clear hK K hHeld
           intro hHeld
           (try simp only [Act.put, List.setIfInBounds_toArray, List.set_cons_zero, List.set_cons_succ])
           refine wpAnyH_ready (rs := [6]) (by decide +kernel) (by simp) ?_
           refine consL rfl (fun K hK => ?_) ?_
           ·(first | fail | (go_simp; first | done | (first | fail)) | go_simp)
            (first | (with_reducible refine hK.out _ _ ?_ ?_) | (go_wp2_with fail; refine hK.out _ _ ?_ ?_))
            (focus (exact trivial))
            clear hK K hHeld
            intro hHeld
            (try simp only [Act.put, List.setIfInBounds_toArray, List.set_cons_zero, List.set_cons_succ])
            refine wpAnyH_ready (rs := [7]) (by decide +kernel) (by simp) ?_
            refine consL rfl (fun K hK => ?_) ?_
            ·(first | fail | (go_simp; first | done | (first | fail)) | go_simp)
             (first | (with_reducible refine hK.out _ _ ?_ ?_) | (go_wp2_with fail; refine hK.out _ _ ?_ ?_))
             (focus (exact trivial))
             clear hK K hHeld
             intro hHeld
             (try simp only [Act.put, List.setIfInBounds_toArray, List.set_cons_zero, List.set_cons_succ])
             refine wpAnyH_ready (rs := [8]) (by decide +kernel) (by simp) ?_
             refine consL rfl (fun K hK => ?_) ?_
             ·(first | (refine step_append_lies _ rfl _ _ 29 rfl B 76 k0 (.agg #[.int .i64 0, .int .i64 0, .slice none 0 0]) 3 40 Tryz.underlying29 hk hk0 hk1 hk2 rfl (by decide) _ _ _ rfl (HO8.out.alloc _) ⟨_, 0, none⟩ 1 1 (plV ((a, b, l), (Al, cl))) rfl rfl (cells_new _ (plV ((a, b, l), (Al, cl))) _) (by intro u hu; simp only [plV, List.mem_cons, List.not_mem_nil, or_false] at hu; rcases hu with rfl | rfl | rfl <;> rfl) (by decide) (by have := HLM.out; unfold maxLen; omega) (by have := HLM.out; omega) (Nat.le_trans H8.out.sz (by simp)) _ rfl ?_; intro gg cap W9 ap1 ap2 ap3 ap4; obtain ⟨p1, p2, p3, p4⟩ := H8.out.pushQ (a := a) (b := b) (l := l) (Al := Al) (cl := cl) ap1 ap2 ap3 HLM.out HLO.out HLF.out; have P1 := Lib.hid p1; have P2 := Lib.hid p2; clear p1 p2 ap1 ap2 ap3 ap4) | (go_simp; first | done | (first | (refine step_append_lies _ rfl _ _ 29 rfl B 76 k0 (.agg #[.int .i64 0, .int .i64 0, .slice none 0 0]) 3 40 Tryz.underlying29 hk hk0 hk1 hk2 rfl (by decide) _ _ _ rfl (HO8.out.alloc _) ⟨_, 0, none⟩ 1 1 (plV ((a, b, l), (Al, cl))) rfl rfl (cells_new _ (plV ((a, b, l), (Al, cl))) _) (by intro u hu; simp only [plV, List.mem_cons, List.not_mem_nil, or_false] at hu; rcases hu with rfl | rfl | rfl <;> rfl) (by decide) (by have := HLM.out; unfold maxLen; omega) (by have := HLM.out; omega) (Nat.le_trans H8.out.sz (by simp)) _ rfl ?_; intro gg cap W9 ap1 ap2 ap3 ap4; obtain ⟨p1, p2, p3, p4⟩ := H8.out.pushQ (a := a) (b := b) (l := l) (Al := Al) (cl := cl) ap1 ap2 ap3 HLM.out HLO.out HLF.out; have P1 := Lib.hid p1; have P2 := Lib.hid p2; clear p1 p2 ap1 ap2 ap3 ap4))) | go_simp)
              (first | (with_reducible refine hK.out _ _ ?_ ?_) | (go_wp2_with fail; refine hK.out _ _ ?_ ?_))
              (focus (exact trivial))
              clear hK K hHeld
              intro hHeld
              (try simp only [Act.put, List.setIfInBounds_toArray, List.set_cons_zero, List.set_cons_succ])
              (refine takeL (i := 9) (v := ?_) rfl (by kernel_rfl) (by decide +kernel) (by decide +kernel) (fun _ _ _ h => h) (Or.inl ⟨by rfl, ?_⟩) (by assumption) ?_; rotate_left; (focus (intro w9 hS9; (try dsimp only at hS9); go_simp; (try with_reducible rfl); done)))
              (try simp only [Act.put, List.setIfInBounds_toArray, List.set_cons_zero, List.set_cons_succ])
              (refine takeL (i := 10) (v := ?_) rfl (by kernel_rfl) (by decide +kernel) (by decide +kernel) (fun _ _ _ h => h) (Or.inl ⟨by rfl, ?_⟩) (by assumption) ?_; rotate_left; (focus (intro w9 hS9; (try dsimp only at hS9); go_simp; (try with_reducible rfl); done)))
              (try simp only [Act.put, List.setIfInBounds_toArray, List.set_cons_zero, List.set_cons_succ])
              (refine takeL (i := 11) (v := ?_) rfl (by kernel_rfl) (by decide +kernel) (by decide +kernel) (fun _ _ _ h => h) (Or.inl ⟨by rfl, ?_⟩) (by assumption) ?_; rotate_left; (focus (intro w9 hS9; (try dsimp only at hS9); go_simp; (try with_reducible rfl); done)))
              (try simp only [Act.put, List.setIfInBounds_toArray, List.set_cons_zero, List.set_cons_succ])
              refine wpAnyH_ready (rs := [12]) (by decide +kernel) (by simp) ?_
              refine consL rfl (fun K hK => ?_) ?_
              ·(first | fail | (go_simp; first | done | (first | fail)) | go_simp)
               (first | (with_reducible refine hK.out _ _ ?_ ?_) | (go_wp2_with fail; refine hK.out _ _ ?_ ?_))
               (focus (exact trivial))
               clear hK K hHeld
               intro hHeld
               (try simp only [Act.put, List.setIfInBounds_toArray, List.set_cons_zero, List.set_cons_succ])
               refine wpAnyH_done (by decide +kernel) ?_ _
               go_wp2_with fail
               go_end0
               obtain rfl := HV.out
               exact ⟨rfl, ((HN4.out.toM (Y := [pb, sb, xb, yb]) H0.out.st.sz (by simp)).drew.trans HM5.out).drew.trans P2.out, _, _, P1.out, (fun h => by rw [HDR.out] at h; cases h), rfl⟩
              exact AllReadyH.nil
             exact AllReadyH.nil
            exact AllReadyH.nil
           exact AllReadyH.nil
          refine consL rfl (fun K hK => ?_) ?_
          ·(first | fail | (go_simp; first | done | (first | fail)) | go_simp)
           (first | (with_reducible refine hK.out _ _ ?_ ?_) | (go_wp2_with fail; refine hK.out _ _ ?_ ?_))
           (focus (exact trivial))
           clear hK K hHeld
           intro hHeld
           (try simp only [Act.put, List.setIfInBounds_toArray, List.set_cons_zero, List.set_cons_succ])
           refine wpAnyH_ready (rs := [5, 7]) (by decide +kernel) (by simp) ?_
           refine consL rfl (fun K hK => ?_) ?_
           ·(first | fail | (go_simp; first | done | (first | fail)) | go_simp)
            (first | (with_reducible refine hK.out _ _ ?_ ?_) | (go_wp2_with fail; refine hK.out _ _ ?_ ?_))
            (focus (exact trivial))
            clear hK K hHeld
            intro hHeld
            (try simp only [Act.put, List.setIfInBounds_toArray, List.set_cons_zero, List.set_cons_succ])
            refine wpAnyH_ready (rs := [7]) (by decide +kernel) (by simp) ?_
            refine consL rfl (fun K hK => ?_) ?_
            ·(first | fail | (go_simp; first | done | (first | fail)) | go_simp)
             (first | (with_reducible refine hK.out _ _ ?_ ?_) | (go_wp2_with fail; refine hK.out _ _ ?_ ?_))
             (focus (exact trivial))
             clear hK K hHeld
             intro hHeld
             (try simp only [Act.put, List.setIfInBounds_toArray, List.set_cons_zero, List.set_cons_succ])
             refine wpAnyH_ready (rs := [8]) (by decide +kernel) (by simp) ?_
             refine consL rfl (fun K hK => ?_) ?_
             ·(first | (refine step_append_lies _ rfl _ _ 29 rfl B 76 k0 (.agg #[.int .i64 0, .int .i64 0, .slice none 0 0]) 3 40 Tryz.underlying29 hk hk0 hk1 hk2 rfl (by decide) _ _ _ rfl (HO8.out.alloc _) ⟨_, 0, none⟩ 1 1 (plV ((a, b, l), (Al, cl))) rfl rfl (cells_new _ (plV ((a, b, l), (Al, cl))) _) (by intro u hu; simp only [plV, List.mem_cons, List.not_mem_nil, or_false] at hu; rcases hu with rfl | rfl | rfl <;> rfl) (by decide) (by have := HLM.out; unfold maxLen; omega) (by have := HLM.out; omega) (Nat.le_trans H8.out.sz (by simp)) _ rfl ?_; intro gg cap W9 ap1 ap2 ap3 ap4; obtain ⟨p1, p2, p3, p4⟩ := H8.out.pushQ (a := a) (b := b) (l := l) (Al := Al) (cl := cl) ap1 ap2 ap3 HLM.out HLO.out HLF.out; have P1 := Lib.hid p1; have P2 := Lib.hid p2; clear p1 p2 ap1 ap2 ap3 ap4) | (go_simp; first | done | (first | (refine step_append_lies _ rfl _ _ 29 rfl B 76 k0 (.agg #[.int .i64 0, .int .i64 0, .slice none 0 0]) 3 40 Tryz.underlying29 hk hk0 hk1 hk2 rfl (by decide) _ _ _ rfl (HO8.out.alloc _) ⟨_, 0, none⟩ 1 1 (plV ((a, b, l), (Al, cl))) rfl rfl (cells_new _ (plV ((a, b, l), (Al, cl))) _) (by intro u hu; simp only [plV, List.mem_cons, List.not_mem_nil, or_false] at hu; rcases hu with rfl | rfl | rfl <;> rfl) (by decide) (by have := HLM.out; unfold maxLen; omega) (by have := HLM.out; omega) (Nat.le_trans H8.out.sz (by simp)) _ rfl ?_; intro gg cap W9 ap1 ap2 ap3 ap4; obtain ⟨p1, p2, p3, p4⟩ := H8.out.pushQ (a := a) (b := b) (l := l) (Al := Al) (cl := cl) ap1 ap2 ap3 HLM.out HLO.out HLF.out; have P1 := Lib.hid p1; have P2 := Lib.hid p2; clear p1 p2 ap1 ap2 ap3 ap4))) | go_simp)
              (first | (with_reducible refine hK.out _ _ ?_ ?_) | (go_wp2_with fail; refine hK.out _ _ ?_ ?_))
              (focus (exact trivial))
              clear hK K hHeld
              intro hHeld
              (try simp only [Act.put, List.setIfInBounds_toArray, List.set_cons_zero, List.set_cons_succ])
              (refine takeL (i := 9) (v := ?_) rfl (by kernel_rfl) (by decide +kernel) (by decide +kernel) (fun _ _ _ h => h) (Or.inl ⟨by rfl, ?_⟩) (by assumption) ?_; rotate_left; (focus (intro w9 hS9; (try dsimp only at hS9); go_simp; (try with_reducible rfl); done)))
              (try simp only [Act.put, List.setIfInBounds_toArray, List.set_cons_zero, List.set_cons_succ])
              (refine takeL (i := 10) (v := ?_) rfl (by kernel_rfl) (by decide +kernel) (by decide +kernel) (fun _ _ _ h => h) (Or.inl ⟨by rfl, ?_⟩) (by assumption) ?_; rotate_left; (focus (intro w9 hS9; (try dsimp only at hS9); go_simp; (try with_reducible rfl); done)))
              (try simp only [Act.put, List.setIfInBounds_toArray, List.set_cons_zero, List.set_cons_succ])
              (refine takeL (i := 11) (v := ?_) rfl (by kernel_rfl) (by decide +kernel) (by decide +kernel) (fun _ _ _ h => h) (Or.inl ⟨by rfl, ?_⟩) (by assumption) ?_; rotate_left; (focus (intro w9 hS9; (try dsimp only at hS9); go_simp; (try with_reducible rfl); done)))
              (try simp only [Act.put, List.setIfInBounds_toArray, List.set_cons_zero, List.set_cons_succ])
              refine wpAnyH_ready (rs := [12]) (by decide +kernel) (by simp) ?_
              refine consL rfl (fun K hK => ?_) ?_
              ·(first | fail | (go_simp; first | done | (first | fail)) | go_simp)
               (first | (with_reducible refine hK.out _ _ ?_ ?_) | (go_wp2_with fail; refine hK.out _ _ ?_ ?_))
               (focus (exact trivial))
               clear hK K hHeld
               intro hHeld
               (try simp only [Act.put, List.setIfInBounds_toArray, List.set_cons_zero, List.set_cons_succ])
               refine wpAnyH_done (by decide +kernel) ?_ _
               go_wp2_with fail
               go_end0
               obtain rfl := HV.out
               exact ⟨rfl, ((HN4.out.toM (Y := [pb, sb, xb, yb]) H0.out.st.sz (by simp)).drew.trans HM5.out).drew.trans P2.out, _, _, P1.out, (fun h => by rw [HDR.out] at h; cases h), rfl⟩
              exact AllReadyH.nil
             exact AllReadyH.nil
            exact AllReadyH.nil
           refine consL rfl (fun K hK => ?_) ?_
           ·(first | fail | (go_simp; first | done | (first | fail)) | go_simp)
            (first | (with_reducible refine hK.out _ _ ?_ ?_) | (go_wp2_with fail; refine hK.out _ _ ?_ ?_))
            (focus (exact trivial))
            clear hK K hHeld
            intro hHeld
            (try simp only [Act.put, List.setIfInBounds_toArray, List.set_cons_zero, List.set_cons_succ])
            have e7 := cell_up (below_box w5 (.cells (plV ((a, b, l), (Al, cl))).toArray 76)) v4
            simp only [plV] at e7
            refine wpAnyH_ready (rs := [5]) (by decide +kernel) (by simp) ?_
            refine consL rfl (fun K hK => ?_) ?_
            ·(first | fail | (go_simp; first | done | (first | fail)) | go_simp)
             (first | (with_reducible refine hK.out _ _ ?_ ?_) | (go_wp2_with fail; refine hK.out _ _ ?_ ?_))
             (focus (exact trivial))
             clear hK K hHeld
             intro hHeld
             (try simp only [Act.put, List.setIfInBounds_toArray, List.set_cons_zero, List.set_cons_succ])
             refine wpAnyH_ready (rs := [8]) (by decide +kernel) (by simp) ?_
             refine consL rfl (fun K hK => ?_) ?_
             ·(first | (refine step_append_lies _ rfl _ _ 29 rfl B 76 k0 (.agg #[.int .i64 0, .int .i64 0, .slice none 0 0]) 3 40 Tryz.underlying29 hk hk0 hk1 hk2 rfl (by decide) _ _ _ rfl (HO8.out.alloc _) ⟨_, 0, none⟩ 1 1 (plV ((a, b, l), (Al, cl))) rfl rfl (cells_new _ (plV ((a, b, l), (Al, cl))) _) (by intro u hu; simp only [plV, List.mem_cons, List.not_mem_nil, or_false] at hu; rcases hu with rfl | rfl | rfl <;> rfl) (by decide) (by have := HLM.out; unfold maxLen; omega) (by have := HLM.out; omega) (Nat.le_trans H8.out.sz (by simp)) _ rfl ?_; intro gg cap W9 ap1 ap2 ap3 ap4; obtain ⟨p1, p2, p3, p4⟩ := H8.out.pushQ (a := a) (b := b) (l := l) (Al := Al) (cl := cl) ap1 ap2 ap3 HLM.out HLO.out HLF.out; have P1 := Lib.hid p1; have P2 := Lib.hid p2; clear p1 p2 ap1 ap2 ap3 ap4) | (go_simp; first | done | (first | (refine step_append_lies _ rfl _ _ 29 rfl B 76 k0 (.agg #[.int .i64 0, .int .i64 0, .slice none 0 0]) 3 40 Tryz.underlying29 hk hk0 hk1 hk2 rfl (by decide) _ _ _ rfl (HO8.out.alloc _) ⟨_, 0, none⟩ 1 1 (plV ((a, b, l), (Al, cl))) rfl rfl (cells_new _ (plV ((a, b, l), (Al, cl))) _) (by intro u hu; simp only [plV, List.mem_cons, List.not_mem_nil, or_false] at hu; rcases hu with rfl | rfl | rfl <;> rfl) (by decide) (by have := HLM.out; unfold maxLen; omega) (by have := HLM.out; omega) (Nat.le_trans H8.out.sz (by simp)) _ rfl ?_; intro gg cap W9 ap1 ap2 ap3 ap4; obtain ⟨p1, p2, p3, p4⟩ := H8.out.pushQ (a := a) (b := b) (l := l) (Al := Al) (cl := cl) ap1 ap2 ap3 HLM.out HLO.out HLF.out; have P1 := Lib.hid p1; have P2 := Lib.hid p2; clear p1 p2 ap1 ap2 ap3 ap4))) | go_simp)
              (first | (with_reducible refine hK.out _ _ ?_ ?_) | (go_wp2_with fail; refine hK.out _ _ ?_ ?_))
              (focus (exact trivial))
              clear hK K hHeld
              intro hHeld
              (try simp only [Act.put, List.setIfInBounds_toArray, List.set_cons_zero, List.set_cons_succ])
              (refine takeL (i := 9) (v := ?_) rfl (by kernel_rfl) (by decide +kernel) (by decide +kernel) (fun _ _ _ h => h) (Or.inl ⟨by rfl, ?_⟩) (by assumption) ?_; rotate_left; (focus (intro w9 hS9; (try dsimp only at hS9); go_simp; (try with_reducible rfl); done)))
              (try simp only [Act.put, List.setIfInBounds_toArray, List.set_cons_zero, List.set_cons_succ])
              (refine takeL (i := 10) (v := ?_) rfl (by kernel_rfl) (by decide +kernel) (by decide +kernel) (fun _ _ _ h => h) (Or.inl ⟨by rfl, ?_⟩) (by assumption) ?_; rotate_left; (focus (intro w9 hS9; (try dsimp only at hS9); go_simp; (try with_reducible rfl); done)))
              (try simp only [Act.put, List.setIfInBounds_toArray, List.set_cons_zero, List.set_cons_succ])
              (refine takeL (i := 11) (v := ?_) rfl (by kernel_rfl) (by decide +kernel) (by decide +kernel) (fun _ _ _ h => h) (Or.inl ⟨by rfl, ?_⟩) (by assumption) ?_; rotate_left; (focus (intro w9 hS9; (try dsimp only at hS9); go_simp; (try with_reducible rfl); done)))
              (try simp only [Act.put, List.setIfInBounds_toArray, List.set_cons_zero, List.set_cons_succ])
              refine wpAnyH_ready (rs := [12]) (by decide +kernel) (by simp) ?_
              refine consL rfl (fun K hK => ?_) ?_
              ·(first | fail | (go_simp; first | done | (first | fail)) | go_simp)
               (first | (with_reducible refine hK.out _ _ ?_ ?_) | (go_wp2_with fail; refine hK.out _ _ ?_ ?_))
               (focus (exact trivial))
               clear hK K hHeld
               intro hHeld
               (try simp only [Act.put, List.setIfInBounds_toArray, List.set_cons_zero, List.set_cons_succ])
               refine wpAnyH_done (by decide +kernel) ?_ _
               go_wp2_with fail
               go_end0
               obtain rfl := HV.out
               exact ⟨rfl, ((HN4.out.toM (Y := [pb, sb, xb, yb]) H0.out.st.sz (by simp)).drew.trans HM5.out).drew.trans P2.out, _, _, P1.out, (fun h => by rw [HDR.out] at h; cases h), rfl⟩
              exact AllReadyH.nil
             exact AllReadyH.nil
            exact AllReadyH.nil
           exact AllReadyH.nil
          exact AllReadyH.nil
         exact AllReadyH.nil
        exact AllReadyH.nil
       refine consL rfl (fun K hK => ?_) ?_
       ·(first | fail | (go_simp; first | done | (first | fail)) | go_simp)
        (first | (with_reducible refine hK.out _ _ ?_ ?_) | (go_wp2_with fail; refine hK.out _ _ ?_ ?_))
        (focus (exact trivial))
        clear hK K hHeld
        intro hHeld
        (try simp only [Act.put, List.setIfInBounds_toArray, List.set_cons_zero, List.set_cons_succ])
        refine wpAnyH_ready (rs := [3]) (by decide +kernel) (by simp) ?_
        refine consL rfl (fun K hK => ?_) ?_
        ·(first | fail | (go_simp; first | done | (first | fail)) | go_simp)
         (first | (with_reducible refine hK.out _ _ ?_ ?_) | (go_wp2_with fail; refine hK.out _ _ ?_ ?_))
         (focus (exact trivial))
         clear hK K hHeld
         intro hHeld
         (try simp only [Act.put, List.setIfInBounds_toArray, List.set_cons_zero, List.set_cons_succ])
         refine wpAnyH_ready (rs := [5]) (by decide +kernel) (by simp) ?_
         refine consL rfl (fun K hK => ?_) ?_
         ·(first | fail | (go_simp; first | done | (first | fail)) | go_simp)
          (first | (with_reducible refine hK.out _ _ ?_ ?_) | (go_wp2_with fail; refine hK.out _ _ ?_ ?_))
          (focus (exact trivial))
          clear hK K hHeld
          intro hHeld
          (try simp only [Act.put, List.setIfInBounds_toArray, List.set_cons_zero, List.set_cons_succ])
          refine wpAnyH_done (by decide +kernel) ?_ _
          clear hHeld u1 u2 u3 uf hup
          have HPL := Lib.hid (HPP4.out.keepY HG5.out (by have := H0.out.st.bl.1.2.2.2; have := H0.out.st.sz; have := HPP4.out.h; omega))
          go_wp2_with fail
          have H8 := Lib.hid HS5.out.drew
          have HO8 : Hid (w5.drew.ownsRow B 76 3 (.slice r.aQ c.pols.length r.cQ) c.pols.length ((c.pols.zip r.ls).flatMap plV)) := Lib.hid H8.out.ownQ
          have v4 : w5.cell? ⟨pb, 6, none⟩ = some (.slice r.aQ c.pols.length r.cQ) := HS5.out.cell 6 (by decide)
          have v0 := HPL.out.c0
          have v1 := HPL.out.c1
          have v2 := HPL.out.c2
          have HLO : Hid (w5.drew.ownsRow B 78 2 (.slice Al l.length cl) l.length (l.flatMap sgV)) := Lib.hid (own_base HPL.out.o (by have := H0.out.st.sz; have := HPL.out.h; omega))
          have HLF : Hid (∀ g, fldA Al = some g → ∀ S ∈ rowsOf r { c with yk := c.yk ++ [(a, b)] }, fldA S.A ≠ some g) := Lib.hid (fun g e S hS e2 => by have q1 := (H0.out.st.rows.lt (R := S) hS e2).2; have q2 := (HPL.out.o.lt g (by rw [ownBlock_A]; exact e)).1; have q3 := HPL.out.h; omega)
          refine wp_region_held_drew (S := (fun _ => True)) (by kernel_rfl) ?_ (fun hHeld => ?_)
          ·exact trivial
          (refine takeL (i := 0) (v := ?_) rfl (by kernel_rfl) (by decide +kernel) (by decide +kernel) (fun _ _ _ h => h) (Or.inl ⟨by rfl, ?_⟩) (by assumption) ?_; rotate_left; (focus (intro w9 hS9; (try dsimp only at hS9); go_simp; (try with_reducible rfl); done)))
          (try simp only [Act.put, List.setIfInBounds_toArray, List.set_cons_zero, List.set_cons_succ])
          (refine takeL (i := 1) (v := ?_) rfl (by kernel_rfl) (by decide +kernel) (by decide +kernel) (fun _ _ _ h => h) (Or.inl ⟨by rfl, ?_⟩) (by assumption) ?_; rotate_left; (focus (intro w9 hS9; (try dsimp only at hS9); go_simp; (try with_reducible rfl); done)))
          (try simp only [Act.put, List.setIfInBounds_toArray, List.set_cons_zero, List.set_cons_succ])
          (refine takeL (i := 2) (v := ?_) rfl (by kernel_rfl) (by decide +kernel) (by decide +kernel) (fun _ _ _ h => h) (Or.inl ⟨by rfl, ?_⟩) (by assumption) ?_; rotate_left; (focus (intro w9 hS9; (try dsimp only at hS9); go_simp; (try with_reducible rfl); done)))
          (try simp only [Act.put, List.setIfInBounds_toArray, List.set_cons_zero, List.set_cons_succ])
          (refine takeL (i := 3) (v := ?_) rfl (by kernel_rfl) (by decide +kernel) (by decide +kernel) (fun _ _ _ h => h) (Or.inl ⟨by rfl, ?_⟩) (by assumption) ?_; rotate_left; (focus (intro w9 hS9; (try dsimp only at hS9); go_simp; (try with_reducible rfl); done)))
          (try simp only [Act.put, List.setIfInBounds_toArray, List.set_cons_zero, List.set_cons_succ])
          (refine takeL (i := 4) (v := ?_) rfl (by kernel_rfl) (by decide +kernel) (by decide +kernel) (fun _ _ _ h => h) (Or.inl ⟨by rfl, ?_⟩) (by assumption) ?_; rotate_left; (focus (intro w9 hS9; (try dsimp only at hS9); go_simp; (try with_reducible rfl); done)))
          (try simp only [Act.put, List.setIfInBounds_toArray, List.set_cons_zero, List.set_cons_succ])
          refine wpAnyH_ready (rs := [5, 6]) (by decide +kernel) (by simp) ?_
          refine consL rfl (fun K hK => ?_) ?_
          ·(first | fail | (go_simp; first | done | (first | fail)) | go_simp)
           (first | (with_reducible refine hK.out _ _ ?_ ?_) | (go_wp2_with fail; refine hK.out _ _ ?_ ?_))
           (focus (exact trivial))
           clear hK K hHeld
           intro hHeld
           (try simp only [Act.put, List.setIfInBounds_toArray, List.set_cons_zero, List.set_cons_succ])
           refine wpAnyH_ready (rs := [6]) (by decide +kernel) (by simp) ?_
           refine consL rfl (fun K hK => ?_) ?_
           ·(first | fail | (go_simp; first | done | (first | fail)) | go_simp)
            (first | (with_reducible refine hK.out _ _ ?_ ?_) | (go_wp2_with fail; refine hK.out _ _ ?_ ?_))
            (focus (exact trivial))
            clear hK K hHeld
            intro hHeld
            (try simp only [Act.put, List.setIfInBounds_toArray, List.set_cons_zero, List.set_cons_succ])
            refine wpAnyH_ready (rs := [7]) (by decide +kernel) (by simp) ?_
            refine consL rfl (fun K hK => ?_) ?_
            ·(first | fail | (go_simp; first | done | (first | fail)) | go_simp)
             (first | (with_reducible refine hK.out _ _ ?_ ?_) | (go_wp2_with fail; refine hK.out _ _ ?_ ?_))
             (focus (exact trivial))
             clear hK K hHeld
             intro hHeld
             (try simp only [Act.put, List.setIfInBounds_toArray, List.set_cons_zero, List.set_cons_succ])
             refine wpAnyH_ready (rs := [8]) (by decide +kernel) (by simp) ?_
             refine consL rfl (fun K hK => ?_) ?_
             ·(first | (refine step_append_lies _ rfl _ _ 29 rfl B 76 k0 (.agg #[.int .i64 0, .int .i64 0, .slice none 0 0]) 3 40 Tryz.underlying29 hk hk0 hk1 hk2 rfl (by decide) _ _ _ rfl (HO8.out.alloc _) ⟨_, 0, none⟩ 1 1 (plV ((a, b, l), (Al, cl))) rfl rfl (cells_new _ (plV ((a, b, l), (Al, cl))) _) (by intro u hu; simp only [plV, List.mem_cons, List.not_mem_nil, or_false] at hu; rcases hu with rfl | rfl | rfl <;> rfl) (by decide) (by have := HLM.out; unfold maxLen; omega) (by have := HLM.out; omega) (Nat.le_trans H8.out.sz (by simp)) _ rfl ?_; intro gg cap W9 ap1 ap2 ap3 ap4; obtain ⟨p1, p2, p3, p4⟩ := H8.out.pushQ (a := a) (b := b) (l := l) (Al := Al) (cl := cl) ap1 ap2 ap3 HLM.out HLO.out HLF.out; have P1 := Lib.hid p1; have P2 := Lib.hid p2; clear p1 p2 ap1 ap2 ap3 ap4) | (go_simp; first | done | (first | (refine step_append_lies _ rfl _ _ 29 rfl B 76 k0 (.agg #[.int .i64 0, .int .i64 0, .slice none 0 0]) 3 40 Tryz.underlying29 hk hk0 hk1 hk2 rfl (by decide) _ _ _ rfl (HO8.out.alloc _) ⟨_, 0, none⟩ 1 1 (plV ((a, b, l), (Al, cl))) rfl rfl (cells_new _ (plV ((a, b, l), (Al, cl))) _) (by intro u hu; simp only [plV, List.mem_cons, List.not_mem_nil, or_false] at hu; rcases hu with rfl | rfl | rfl <;> rfl) (by decide) (by have := HLM.out; unfold maxLen; omega) (by have := HLM.out; omega) (Nat.le_trans H8.out.sz (by simp)) _ rfl ?_; intro gg cap W9 ap1 ap2 ap3 ap4; obtain ⟨p1, p2, p3, p4⟩ := H8.out.pushQ (a := a) (b := b) (l := l) (Al := Al) (cl := cl) ap1 ap2 ap3 HLM.out HLO.out HLF.out; have P1 := Lib.hid p1; have P2 := Lib.hid p2; clear p1 p2 ap1 ap2 ap3 ap4))) | go_simp)
              (first | (with_reducible refine hK.out _ _ ?_ ?_) | (go_wp2_with fail; refine hK.out _ _ ?_ ?_))
              (focus (exact trivial))
              clear hK K hHeld
              intro hHeld
              (try simp only [Act.put, List.setIfInBounds_toArray, List.set_cons_zero, List.set_cons_succ])
              (refine takeL (i := 9) (v := ?_) rfl (by kernel_rfl) (by decide +kernel) (by decide +kernel) (fun _ _ _ h => h) (Or.inl ⟨by rfl, ?_⟩) (by assumption) ?_; rotate_left; (focus (intro w9 hS9; (try dsimp only at hS9); go_simp; (try with_reducible rfl); done)))
              (try simp only [Act.put, List.setIfInBounds_toArray, List.set_cons_zero, List.set_cons_succ])
              (refine takeL (i := 10) (v := ?_) rfl (by kernel_rfl) (by decide +kernel) (by decide +kernel) (fun _ _ _ h => h) (Or.inl ⟨by rfl, ?_⟩) (by assumption) ?_; rotate_left; (focus (intro w9 hS9; (try dsimp only at hS9); go_simp; (try with_reducible rfl); done)))
              (try simp only [Act.put, List.setIfInBounds_toArray, List.set_cons_zero, List.set_cons_succ])
              (refine takeL (i := 11) (v := ?_) rfl (by kernel_rfl) (by decide +kernel) (by decide +kernel) (fun _ _ _ h => h) (Or.inl ⟨by rfl, ?_⟩) (by assumption) ?_; rotate_left; (focus (intro w9 hS9; (try dsimp only at hS9); go_simp; (try with_reducible rfl); done)))
              (try simp only [Act.put, List.setIfInBounds_toArray, List.set_cons_zero, List.set_cons_succ])
              refine wpAnyH_ready (rs := [12]) (by decide +kernel) (by simp) ?_
              refine consL rfl (fun K hK => ?_) ?_
              ·(first | fail | (go_simp; first | done | (first | fail)) | go_simp)
               (first | (with_reducible refine hK.out _ _ ?_ ?_) | (go_wp2_with fail; refine hK.out _ _ ?_ ?_))
               (focus (exact trivial))
               clear hK K hHeld
               intro hHeld
               (try simp only [Act.put, List.setIfInBounds_toArray, List.set_cons_zero, List.set_cons_succ])
               refine wpAnyH_done (by decide +kernel) ?_ _
               go_wp2_with fail
               go_end0
               obtain rfl := HV.out
               exact ⟨rfl, ((HN4.out.toM (Y := [pb, sb, xb, yb]) H0.out.st.sz (by simp)).drew.trans HM5.out).drew.trans P2.out, _, _, P1.out, (fun h => by rw [HDR.out] at h; cases h), rfl⟩
              exact AllReadyH.nil
             exact AllReadyH.nil
            exact AllReadyH.nil
           exact AllReadyH.nil
          refine consL rfl (fun K hK => ?_) ?_
          ·(first | fail | (go_simp; first | done | (first | fail)) | go_simp)
           (first | (with_reducible refine hK.out _ _ ?_ ?_) | (go_wp2_with fail; refine hK.out _ _ ?_ ?_))
           (focus (exact trivial))
           clear hK K hHeld
           intro hHeld
           (try simp only [Act.put, List.setIfInBounds_toArray, List.set_cons_zero, List.set_cons_succ])
           refine wpAnyH_ready (rs := [5, 7]) (by decide +kernel) (by simp) ?_
           refine consL rfl (fun K hK => ?_) ?_
           ·(first | fail | (go_simp; first | done | (first | fail)) | go_simp)
            (first | (with_reducible refine hK.out _ _ ?_ ?_) | (go_wp2_with fail; refine hK.out _ _ ?_ ?_))
            (focus (exact trivial))
            clear hK K hHeld
            intro hHeld
            (try simp only [Act.put, List.setIfInBounds_toArray, List.set_cons_zero, List.set_cons_succ])
            refine wpAnyH_ready (rs := [7]) (by decide +kernel) (by simp) ?_
            refine consL rfl (fun K hK => ?_) ?_
            ·(first | fail | (go_simp; first | done | (first | fail)) | go_simp)
             (first | (with_reducible refine hK.out _ _ ?_ ?_) | (go_wp2_with fail; refine hK.out _ _ ?_ ?_))
             (focus (exact trivial))
             clear hK K hHeld
             intro hHeld
             (try simp only [Act.put, List.setIfInBounds_toArray, List.set_cons_zero, List.set_cons_succ])
             refine wpAnyH_ready (rs := [8]) (by decide +kernel) (by simp) ?_
             refine consL rfl (fun K hK => ?_) ?_
             ·(first | (refine step_append_lies _ rfl _ _ 29 rfl B 76 k0 (.agg #[.int .i64 0, .int .i64 0, .slice none 0 0]) 3 40 Tryz.underlying29 hk hk0 hk1 hk2 rfl (by decide) _ _ _ rfl (HO8.out.alloc _) ⟨_, 0, none⟩ 1 1 (plV ((a, b, l), (Al, cl))) rfl rfl (cells_new _ (plV ((a, b, l), (Al, cl))) _) (by intro u hu; simp only [plV, List.mem_cons, List.not_mem_nil, or_false] at hu; rcases hu with rfl | rfl | rfl <;> rfl) (by decide) (by have := HLM.out; unfold maxLen; omega) (by have := HLM.out; omega) (Nat.le_trans H8.out.sz (by simp)) _ rfl ?_; intro gg cap W9 ap1 ap2 ap3 ap4; obtain ⟨p1, p2, p3, p4⟩ := H8.out.pushQ (a := a) (b := b) (l := l) (Al := Al) (cl := cl) ap1 ap2 ap3 HLM.out HLO.out HLF.out; have P1 := Lib.hid p1; have P2 := Lib.hid p2; clear p1 p2 ap1 ap2 ap3 ap4) | (go_simp; first | done | (first | (refine step_append_lies _ rfl _ _ 29 rfl B 76 k0 (.agg #[.int .i64 0, .int .i64 0, .slice none 0 0]) 3 40 Tryz.underlying29 hk hk0 hk1 hk2 rfl (by decide) _ _ _ rfl (HO8.out.alloc _) ⟨_, 0, none⟩ 1 1 (plV ((a, b, l), (Al, cl))) rfl rfl (cells_new _ (plV ((a, b, l), (Al, cl))) _) (by intro u hu; simp only [plV, List.mem_cons, List.not_mem_nil, or_false] at hu; rcases hu with rfl | rfl | rfl <;> rfl) (by decide) (by have := HLM.out; unfold maxLen; omega) (by have := HLM.out; omega) (Nat.le_trans H8.out.sz (by simp)) _ rfl ?_; intro gg cap W9 ap1 ap2 ap3 ap4; obtain ⟨p1, p2, p3, p4⟩ := H8.out.pushQ (a := a) (b := b) (l := l) (Al := Al) (cl := cl) ap1 ap2 ap3 HLM.out HLO.out HLF.out; have P1 := Lib.hid p1; have P2 := Lib.hid p2; clear p1 p2 ap1 ap2 ap3 ap4))) | go_simp)
              (first | (with_reducible refine hK.out _ _ ?_ ?_) | (go_wp2_with fail; refine hK.out _ _ ?_ ?_))
              (focus (exact trivial))
              clear hK K hHeld
              intro hHeld
              (try simp only [Act.put, List.setIfInBounds_toArray, List.set_cons_zero, List.set_cons_succ])
              (refine takeL (i := 9) (v := ?_) rfl (by kernel_rfl) (by decide +kernel) (by decide +kernel) (fun _ _ _ h => h) (Or.inl ⟨by rfl, ?_⟩) (by assumption) ?_; rotate_left; (focus (intro w9 hS9; (try dsimp only at hS9); go_simp; (try with_reducible rfl); done)))
              (try simp only [Act.put, List.setIfInBounds_toArray, List.set_cons_zero, List.set_cons_succ])
              (refine takeL (i := 10) (v := ?_) rfl (by kernel_rfl) (by decide +kernel) (by decide +kernel) (fun _ _ _ h => h) (Or.inl ⟨by rfl, ?_⟩) (by assumption) ?_; rotate_left; (focus (intro w9 hS9; (try dsimp only at hS9); go_simp; (try with_reducible rfl); done)))
              (try simp only [Act.put, List.setIfInBounds_toArray, List.set_cons_zero, List.set_cons_succ])
              (refine takeL (i := 11) (v := ?_) rfl (by kernel_rfl) (by decide +kernel) (by decide +kernel) (fun _ _ _ h => h) (Or.inl ⟨by rfl, ?_⟩) (by assumption) ?_; rotate_left; (focus (intro w9 hS9; (try dsimp only at hS9); go_simp; (try with_reducible rfl); done)))
              (try simp only [Act.put, List.setIfInBounds_toArray, List.set_cons_zero, List.set_cons_succ])
              refine wpAnyH_ready (rs := [12]) (by decide +kernel) (by simp) ?_
              refine consL rfl (fun K hK => ?_) ?_
              ·(first | fail | (go_simp; first | done | (first | fail)) | go_simp)
               (first | (with_reducible refine hK.out _ _ ?_ ?_) | (go_wp2_with fail; refine hK.out _ _ ?_ ?_))
               (focus (exact trivial))
               clear hK K hHeld
               intro hHeld
               (try simp only [Act.put, List.setIfInBounds_toArray, List.set_cons_zero, List.set_cons_succ])
               refine wpAnyH_done (by decide +kernel) ?_ _
               go_wp2_with fail
               go_end0
               obtain rfl := HV.out
               exact ⟨rfl, ((HN4.out.toM (Y := [pb, sb, xb, yb]) H0.out.st.sz (by simp)).drew.trans HM5.out).drew.trans P2.out, _, _, P1.out, (fun h => by rw [HDR.out] at h; cases h), rfl⟩
              exact AllReadyH.nil
             exact AllReadyH.nil
            exact AllReadyH.nil
           refine consL rfl (fun K hK => ?_) ?_
           ·(first | fail | (go_simp; first | done | (first | fail)) | go_simp)
            (first | (with_reducible refine hK.out _ _ ?_ ?_) | (go_wp2_with fail; refine hK.out _ _ ?_ ?_))
            (focus (exact trivial))
            clear hK K hHeld
            intro hHeld
            (try simp only [Act.put, List.setIfInBounds_toArray, List.set_cons_zero, List.set_cons_succ])
            have e7 := cell_up (below_box w5 (.cells (plV ((a, b, l), (Al, cl))).toArray 76)) v4
            simp only [plV] at e7
            refine wpAnyH_ready (rs := [5]) (by decide +kernel) (by simp) ?_
            refine consL rfl (fun K hK => ?_) ?_
            ·(first | fail | (go_simp; first | done | (first | fail)) | go_simp)
             (first | (with_reducible refine hK.out _ _ ?_ ?_) | (go_wp2_with fail; refine hK.out _ _ ?_ ?_))
             (focus (exact trivial))
             clear hK K hHeld
             intro hHeld
             (try simp only [Act.put, List.setIfInBounds_toArray, List.set_cons_zero, List.set_cons_succ])
             refine wpAnyH_ready (rs := [8]) (by decide +kernel) (by simp) ?_
             refine consL rfl (fun K hK => ?_) ?_
             ·(first | (refine step_append_lies _ rfl _ _ 29 rfl B 76 k0 (.agg #[.int .i64 0, .int .i64 0, .slice none 0 0]) 3 40 Tryz.underlying29 hk hk0 hk1 hk2 rfl (by decide) _ _ _ rfl (HO8.out.alloc _) ⟨_, 0, none⟩ 1 1 (plV ((a, b, l), (Al, cl))) rfl rfl (cells_new _ (plV ((a, b, l), (Al, cl))) _) (by intro u hu; simp only [plV, List.mem_cons, List.not_mem_nil, or_false] at hu; rcases hu with rfl | rfl | rfl <;> rfl) (by decide) (by have := HLM.out; unfold maxLen; omega) (by have := HLM.out; omega) (Nat.le_trans H8.out.sz (by simp)) _ rfl ?_; intro gg cap W9 ap1 ap2 ap3 ap4; obtain ⟨p1, p2, p3, p4⟩ := H8.out.pushQ (a := a) (b := b) (l := l) (Al := Al) (cl := cl) ap1 ap2 ap3 HLM.out HLO.out HLF.out; have P1 := Lib.hid p1; have P2 := Lib.hid p2; clear p1 p2 ap1 ap2 ap3 ap4) | (go_simp; first | done | (first | (refine step_append_lies _ rfl _ _ 29 rfl B 76 k0 (.agg #[.int .i64 0, .int .i64 0, .slice none 0 0]) 3 40 Tryz.underlying29 hk hk0 hk1 hk2 rfl (by decide) _ _ _ rfl (HO8.out.alloc _) ⟨_, 0, none⟩ 1 1 (plV ((a, b, l), (Al, cl))) rfl rfl (cells_new _ (plV ((a, b, l), (Al, cl))) _) (by intro u hu; simp only [plV, List.mem_cons, List.not_mem_nil, or_false] at hu; rcases hu with rfl | rfl | rfl <;> rfl) (by decide) (by have := HLM.out; unfold maxLen; omega) (by have := HLM.out; omega) (Nat.le_trans H8.out.sz (by simp)) _ rfl ?_; intro gg cap W9 ap1 ap2 ap3 ap4; obtain ⟨p1, p2, p3, p4⟩ := H8.out.pushQ (a := a) (b := b) (l := l) (Al := Al) (cl := cl) ap1 ap2 ap3 HLM.out HLO.out HLF.out; have P1 := Lib.hid p1; have P2 := Lib.hid p2; clear p1 p2 ap1 ap2 ap3 ap4))) | go_simp)
              (first | (with_reducible refine hK.out _ _ ?_ ?_) | (go_wp2_with fail; refine hK.out _ _ ?_ ?_))
              (focus (exact trivial))
              clear hK K hHeld
              intro hHeld
              (try simp only [Act.put, List.setIfInBounds_toArray, List.set_cons_zero, List.set_cons_succ])
              (refine takeL (i := 9) (v := ?_) rfl (by kernel_rfl) (by decide +kernel) (by decide +kernel) (fun _ _ _ h => h) (Or.inl ⟨by rfl, ?_⟩) (by assumption) ?_; rotate_left; (focus (intro w9 hS9; (try dsimp only at hS9); go_simp; (try with_reducible rfl); done)))
              (try simp only [Act.put, List.setIfInBounds_toArray, List.set_cons_zero, List.set_cons_succ])
              (refine takeL (i := 10) (v := ?_) rfl (by kernel_rfl) (by decide +kernel) (by decide +kernel) (fun _ _ _ h => h) (Or.inl ⟨by rfl, ?_⟩) (by assumption) ?_; rotate_left; (focus (intro w9 hS9; (try dsimp only at hS9); go_simp; (try with_reducible rfl); done)))
              (try simp only [Act.put, List.setIfInBounds_toArray, List.set_cons_zero, List.set_cons_succ])
              (refine takeL (i := 11) (v := ?_) rfl (by kernel_rfl) (by decide +kernel) (by decide +kernel) (fun _ _ _ h => h) (Or.inl ⟨by rfl, ?_⟩) (by assumption) ?_; rotate_left; (focus (intro w9 hS9; (try dsimp only at hS9); go_simp; (try with_reducible rfl); done)))
              (try simp only [Act.put, List.setIfInBounds_toArray, List.set_cons_zero, List.set_cons_succ])
              refine wpAnyH_ready (rs := [12]) (by decide +kernel) (by simp) ?_
              refine consL rfl (fun K hK => ?_) ?_
              ·(first | fail | (go_simp; first | done | (first | fail)) | go_simp)
               (first | (with_reducible refine hK.out _ _ ?_ ?_) | (go_wp2_with fail; refine hK.out _ _ ?_ ?_))
               (focus (exact trivial))
               clear hK K hHeld
               intro hHeld
               (try simp only [Act.put, List.setIfInBounds_toArray, List.set_cons_zero, List.set_cons_succ])
               refine wpAnyH_done (by decide +kernel) ?_ _
               go_wp2_with fail
               go_end0
               obtain rfl := HV.out
               exact ⟨rfl, ((HN4.out.toM (Y := [pb, sb, xb, yb]) H0.out.st.sz (by simp)).drew.trans HM5.out).drew.trans P2.out, _, _, P1.out, (fun h => by rw [HDR.out] at h; cases h), rfl⟩
              exact AllReadyH.nil
             exact AllReadyH.nil
            exact AllReadyH.nil
           exact AllReadyH.nil
          exact AllReadyH.nil
         exact AllReadyH.nil
        exact AllReadyH.nil
       exact AllReadyH.nil
      exact AllReadyH.nil
   | false =>
    simp only [Bool.false_or] at HV
    refine wp_region_held_drew (S := (fun w' => w'.cell? ⟨pb, 16, none⟩ = some (.map (some yb)) ∧ w'.cell? ⟨kb, 0, none⟩ = some (.int .i64 a) ∧ w'.cell? ⟨kb, 1, none⟩ = some (.int .i64 b) ∧ w'.cell? ⟨pb, 6, none⟩ = some (.slice r.aQ c.pols.length r.cQ) ∧ w'.cell? ⟨wl.heap.size, 2, none⟩ = some (.slice Al l.length cl) ∧ (Instr.lookup 49 (.map (some yb)) (.agg #[.int .i64 a, .int .i64 b]) false).run Tryz.prog w' = .ok (.bool dup) w')) (by kernel_rfl) ?_ (fun hHeld => ?_)
    ·exact ⟨s1, s2, s3, s4, s5, s6⟩
    (refine takeL (i := 0) (v := ?_) rfl (by kernel_rfl) (by decide +kernel) (by decide +kernel) (fun _ _ _ h => h) (Or.inl ⟨by rfl, ?_⟩) (by assumption) ?_; rotate_left; (focus (intro w9 hS9; (try dsimp only at hS9); go_simp; (try with_reducible rfl); done)))
    (try simp only [Act.put, List.setIfInBounds_toArray, List.set_cons_zero, List.set_cons_succ])
    (refine takeL (i := 1) (v := ?_) rfl (by kernel_rfl) (by decide +kernel) (by decide +kernel) (fun _ _ _ h => h) (Or.inl ⟨by rfl, ?_⟩) (by assumption) ?_; rotate_left; (focus (intro w9 hS9; (try dsimp only at hS9); go_simp; (try with_reducible rfl); done)))
    (try simp only [Act.put, List.setIfInBounds_toArray, List.set_cons_zero, List.set_cons_succ])
    (refine takeL (i := 2) (v := ?_) rfl (by kernel_rfl) (by decide +kernel) (by decide +kernel) (fun _ _ _ h => h) (Or.inl ⟨by rfl, ?_⟩) (by assumption) ?_; rotate_left; (focus (intro w9 hS9; (try dsimp only at hS9); go_simp; (try with_reducible rfl); done)))
    (try simp only [Act.put, List.setIfInBounds_toArray, List.set_cons_zero, List.set_cons_succ])
    (refine takeL (i := 3) (v := ?_) rfl (by kernel_rfl) (by decide +kernel) (by decide +kernel) (fun _ _ _ h => h) (Or.inl ⟨by rfl, ?_⟩) (by assumption) ?_; rotate_left; (focus (intro w9 hS9; (try dsimp only at hS9); go_simp; (try with_reducible rfl); done)))
    (try simp only [Act.put, List.setIfInBounds_toArray, List.set_cons_zero, List.set_cons_succ])
    (refine takeL (i := 4) (v := ?_) rfl (by kernel_rfl) (by decide +kernel) (by decide +kernel) (fun _ _ _ h => h) (Or.inl ⟨by rfl, ?_⟩) (by assumption) ?_; rotate_left; (focus (intro w9 hS9; (try dsimp only at hS9); go_simp; (try with_reducible rfl); done)))
    (try simp only [Act.put, List.setIfInBounds_toArray, List.set_cons_zero, List.set_cons_succ])
    (refine takeL (i := 5) (v := ?_) rfl (by kernel_rfl) (by decide +kernel) (by decide +kernel) (fun _ _ _ h => h) (Or.inl ⟨by rfl, ?_⟩) (by assumption) ?_; rotate_left; (focus (intro w9 hS9; (try dsimp only at hS9); go_simp; (try with_reducible rfl); done)))
    (try simp only [Act.put, List.setIfInBounds_toArray, List.set_cons_zero, List.set_cons_succ])
    (refine takeL (i := 6) (v := ?_) rfl (by kernel_rfl) (by decide +kernel) (by decide +kernel) (fun _ _ _ h => h) (Or.inl ⟨by rfl, ?_⟩) (by assumption) ?_; rotate_left; (focus (intro w9 hS9; (try dsimp only at hS9); go_simp; (try with_reducible rfl); done)))
    (try simp only [Act.put, List.setIfInBounds_toArray, List.set_cons_zero, List.set_cons_succ])
    (refine takeL (i := 7) (v := ?_) rfl (by kernel_rfl) (by decide +kernel) (by decide +kernel) (fun _ _ _ h => h) (Or.inl ⟨by rfl, ?_⟩) (by assumption) ?_; rotate_left; (focus (intro w9 hS9; (try dsimp only at hS9); go_simp; (try with_reducible rfl); done)))
    (try simp only [Act.put, List.setIfInBounds_toArray, List.set_cons_zero, List.set_cons_succ])
    (refine takeL (i := 8) (v := ?_) rfl (by kernel_rfl) (by decide +kernel) (by decide +kernel) (fun _ _ _ h => h) (Or.inl ⟨by rfl, ?_⟩) (by assumption) ?_; rotate_left; (focus (intro w9 hS9; (try dsimp only at hS9); go_simp; (try with_reducible rfl); done)))
    (try simp only [Act.put, List.setIfInBounds_toArray, List.set_cons_zero, List.set_cons_succ])
    (refine takeL (i := 9) (v := ?_) rfl (by kernel_rfl) (by decide +kernel) (by decide +kernel) (fun _ _ _ h => h) (Or.inl ⟨by rfl, ?_⟩) (by assumption) ?_; rotate_left; (focus (intro w9 hS9; (try dsimp only at hS9); go_simp; (try with_reducible rfl); done)))
    (try simp only [Act.put, List.setIfInBounds_toArray, List.set_cons_zero, List.set_cons_succ])
    (refine takeL (i := 10) (v := ?_) rfl (by kernel_rfl) (by decide +kernel) (by decide +kernel) (fun _ _ _ h => h) (Or.inl ⟨by rfl, ?_⟩) (by assumption) ?_; rotate_left; (focus (intro w9 hS9; (try dsimp only at hS9); go_simp; (try with_reducible rfl); done)))
    (try simp only [Act.put, List.setIfInBounds_toArray, List.set_cons_zero, List.set_cons_succ])
    (refine takeL (i := 11) (v := ?_) rfl (by kernel_rfl) (by decide +kernel) (by decide +kernel) (fun _ _ _ h => h) (Or.inl ⟨by rfl, ?_⟩) (by assumption) ?_; rotate_left; (focus (intro w9 hS9; (try dsimp only at hS9); go_simp; (try with_reducible rfl); done)))
    (try simp only [Act.put, List.setIfInBounds_toArray, List.set_cons_zero, List.set_cons_succ])
    (refine takeL (i := 12) (v := ?_) rfl (by kernel_rfl) (by decide +kernel) (by decide +kernel) (fun _ _ _ h => h) (Or.inl ⟨by rfl, ?_⟩) (by assumption) ?_; rotate_left; (focus (intro w9 hS9; (try dsimp only at hS9); go_simp; (try with_reducible rfl); done)))
    (try simp only [Act.put, List.setIfInBounds_toArray, List.set_cons_zero, List.set_cons_succ])
    (refine takeL (i := 13) (v := ?_) rfl (by kernel_rfl) (by decide +kernel) (by decide +kernel) (fun _ _ _ h => h) (Or.inl ⟨by rfl, ?_⟩) (by assumption) ?_; rotate_left; (focus (intro w9 hS9; (try dsimp only at hS9); go_simp; (try with_reducible rfl); done)))
    (try simp only [Act.put, List.setIfInBounds_toArray, List.set_cons_zero, List.set_cons_succ])
    (refine takeL (i := 14) (v := ?_) rfl (by kernel_rfl) (by decide +kernel) (by decide +kernel) (fun _ _ _ h => h) (Or.inl ⟨by rfl, ?_⟩) (by assumption) ?_; rotate_left; (focus (intro w9 hS9; (try dsimp only at hS9); go_simp; (try with_reducible rfl); done)))
    (try simp only [Act.put, List.setIfInBounds_toArray, List.set_cons_zero, List.set_cons_succ])
    (refine takeL (i := 15) (v := ?_) rfl (by kernel_rfl) (by decide +kernel) (by decide +kernel) (fun _ _ _ h => h) (Or.inl ⟨by rfl, ?_⟩) (by assumption) ?_; rotate_left; (focus (intro w9 hS9; (try dsimp only at hS9); go_simp; (try with_reducible rfl); done)))
    (try simp only [Act.put, List.setIfInBounds_toArray, List.set_cons_zero, List.set_cons_succ])
    (refine takeL (i := 16) (v := ?_) rfl (by kernel_rfl) (by decide +kernel) (by decide +kernel) (fun _ _ _ h => h) (Or.inl ⟨by rfl, ?_⟩) (by assumption) ?_; rotate_left; (focus (intro w9 hS9; (try dsimp only at hS9); go_simp; (try with_reducible rfl); done)))
    (try simp only [Act.put, List.setIfInBounds_toArray, List.set_cons_zero, List.set_cons_succ])
    (refine takeL (i := 17) (v := ?_) rfl (by kernel_rfl) (by decide +kernel) (by decide +kernel) (fun _ _ _ h => h) (Or.inl ⟨by rfl, ?_⟩) (by assumption) ?_; rotate_left; (focus (intro w9 hS9; (try dsimp only at hS9); go_simp; (try with_reducible rfl); done)))
    (try simp only [Act.put, List.setIfInBounds_toArray, List.set_cons_zero, List.set_cons_succ])
    (refine takeL (i := 18) (v := ?_) rfl (by kernel_rfl) (by decide +kernel) (by decide +kernel) (fun _ _ _ h => h) (Or.inl ⟨by rfl, ?_⟩) (by assumption) ?_; rotate_left; (focus (intro w9 hS9; (try dsimp only at hS9); go_simp; (try with_reducible rfl); done)))
    (try simp only [Act.put, List.setIfInBounds_toArray, List.set_cons_zero, List.set_cons_succ])
    (refine takeL (i := 19) (v := ?_) rfl (by kernel_rfl) (by decide +kernel) (by decide +kernel) (fun _ _ _ h => h) (Or.inl ⟨by rfl, ?_⟩) (by assumption) ?_; rotate_left; (focus (intro w9 hS9; (try dsimp only at hS9); go_simp; (try with_reducible rfl); done)))
    (try simp only [Act.put, List.setIfInBounds_toArray, List.set_cons_zero, List.set_cons_succ])
    have HF := Lib.hid (HFN.out big)
    obtain ⟨U, hU⟩ : ∃ U, U = finP dry dup big [] := ⟨_, rfl⟩
    (try simp only [Bool.true_or] at HV)
    rw [← hU] at HF HV
    have HU := Lib.hid hU
    clear hU HFN
    cases U with
    | error e1 =>
     refine wpAnyH_ready (rs := [20]) (by decide +kernel) (by simp) ?_
     refine consL rfl (fun K hK => ?_) ?_
     ·go_simp
      go_at_call 59
      (with_reducible refine HF.out.mono ?_)
      rintro e w4 ⟨rfl, hl4⟩
      obtain rfl := HV.out
      exact ⟨rfl, rfl, (HN.out.trans ((LoN.below (below_drw2 w10)).trans hl4))⟩
     exact AllReadyH.nil
    | ok p =>
     obtain ⟨eff, q⟩ := p
     cases eff with
     | false =>
      have HDR := Lib.hid (finP_false HU.out.symm).1
      refine wpAnyH_ready (rs := [20]) (by decide +kernel) (by simp) ?_
      refine consL rfl (fun K hK => ?_) ?_
      ·(first | (go_at_call 59; (with_reducible refine HF.out.mono ?_); rintro e w4 ⟨rfl, hp4, hl4⟩; simp only [encB]; have HP4 := Lib.hid hp4; have HN4 := Lib.hid (HN.out.trans ((LoN.below (below_drw2 w10)).trans hl4)); have HPP4 := Lib.hid (HPP.out.lo ((LoN.below (pb := pb) (below_drw2 w10)).trans hl4) HPW.out); have HK4 := Lib.hid ((hl4.blk kb (lt_of_heap HK.out) (by have a := HKB.out; have b := HPW.out; simp; omega)).trans (show w10.drew.heap[kb]? = _ from HK.out)); have HS4 := Lib.hid (H0.out.read HP4.out HN4.out).st; have u1 : w4.cell? ⟨pb, 16, none⟩ = some (.map (some yb)) := HP4.out.kc 16 (by decide); obtain ⟨u2, u3, uf⟩ := two_cells HK4.out; have u4 : w4.cell? ⟨pb, 6, none⟩ = some (.slice r.aQ c.pols.length r.cQ) := HP4.out.kc 6 (by decide); have u5 := HPP4.out.c2; have u6 := (two_look HS4.out.ym a b HIA.out HIB.out).trans (by rw [← HD.out]); clear hp4 hl4) | (go_simp; first | done | (first | (go_at_call 59; (with_reducible refine HF.out.mono ?_); rintro e w4 ⟨rfl, hp4, hl4⟩; simp only [encB]; have HP4 := Lib.hid hp4; have HN4 := Lib.hid (HN.out.trans ((LoN.below (below_drw2 w10)).trans hl4)); have HPP4 := Lib.hid (HPP.out.lo ((LoN.below (pb := pb) (below_drw2 w10)).trans hl4) HPW.out); have HK4 := Lib.hid ((hl4.blk kb (lt_of_heap HK.out) (by have a := HKB.out; have b := HPW.out; simp; omega)).trans (show w10.drew.heap[kb]? = _ from HK.out)); have HS4 := Lib.hid (H0.out.read HP4.out HN4.out).st; have u1 : w4.cell? ⟨pb, 16, none⟩ = some (.map (some yb)) := HP4.out.kc 16 (by decide); obtain ⟨u2, u3, uf⟩ := two_cells HK4.out; have u4 : w4.cell? ⟨pb, 6, none⟩ = some (.slice r.aQ c.pols.length r.cQ) := HP4.out.kc 6 (by decide); have u5 := HPP4.out.c2; have u6 := (two_look HS4.out.ym a b HIA.out HIB.out).trans (by rw [← HD.out]); clear hp4 hl4))) | go_simp)
       (first | (with_reducible refine hK.out _ _ ?_ ?_) | (go_wp2_with fail; refine hK.out _ _ ?_ ?_))
       (focus (exact ⟨u1, u2, u3, u4, u5, u6⟩))
       clear hK K hHeld
       intro hHeld
       (try simp only [Act.put, List.setIfInBounds_toArray, List.set_cons_zero, List.set_cons_succ])
       refine wpAnyH_done (by decide +kernel) ?_ _
       go_wp2_with fail
       go_end0
       obtain rfl := HV.out
       exact ⟨rfl, HN4.out.toM H0.out.st.sz (by simp), _, _, HS4.out, (fun _ => ⟨rfl, rfl, HN4.out⟩), rfl⟩
      exact AllReadyH.nil
     | true =>
      have HDR := Lib.hid (finP_true HU.out.symm).1
      refine wpAnyH_ready (rs := [20]) (by decide +kernel) (by simp) ?_
      refine consL rfl (fun K hK => ?_) ?_
      ·(first | (go_at_call 59; (with_reducible refine HF.out.mono ?_); rintro e w4 ⟨rfl, hp4, hl4⟩; simp only [encB]; have HP4 := Lib.hid hp4; have HN4 := Lib.hid (HN.out.trans ((LoN.below (below_drw2 w10)).trans hl4)); have HPP4 := Lib.hid (HPP.out.lo ((LoN.below (pb := pb) (below_drw2 w10)).trans hl4) HPW.out); have HK4 := Lib.hid ((hl4.blk kb (lt_of_heap HK.out) (by have a := HKB.out; have b := HPW.out; simp; omega)).trans (show w10.drew.heap[kb]? = _ from HK.out)); have HS4 := Lib.hid (H0.out.read HP4.out HN4.out).st; have u1 : w4.cell? ⟨pb, 16, none⟩ = some (.map (some yb)) := HP4.out.kc 16 (by decide); obtain ⟨u2, u3, uf⟩ := two_cells HK4.out; have u4 : w4.cell? ⟨pb, 6, none⟩ = some (.slice r.aQ c.pols.length r.cQ) := HP4.out.kc 6 (by decide); have u5 := HPP4.out.c2; have u6 := (two_look HS4.out.ym a b HIA.out HIB.out).trans (by rw [← HD.out]); clear hp4 hl4) | (go_simp; first | done | (first | (go_at_call 59; (with_reducible refine HF.out.mono ?_); rintro e w4 ⟨rfl, hp4, hl4⟩; simp only [encB]; have HP4 := Lib.hid hp4; have HN4 := Lib.hid (HN.out.trans ((LoN.below (below_drw2 w10)).trans hl4)); have HPP4 := Lib.hid (HPP.out.lo ((LoN.below (pb := pb) (below_drw2 w10)).trans hl4) HPW.out); have HK4 := Lib.hid ((hl4.blk kb (lt_of_heap HK.out) (by have a := HKB.out; have b := HPW.out; simp; omega)).trans (show w10.drew.heap[kb]? = _ from HK.out)); have HS4 := Lib.hid (H0.out.read HP4.out HN4.out).st; have u1 : w4.cell? ⟨pb, 16, none⟩ = some (.map (some yb)) := HP4.out.kc 16 (by decide); obtain ⟨u2, u3, uf⟩ := two_cells HK4.out; have u4 : w4.cell? ⟨pb, 6, none⟩ = some (.slice r.aQ c.pols.length r.cQ) := HP4.out.kc 6 (by decide); have u5 := HPP4.out.c2; have u6 := (two_look HS4.out.ym a b HIA.out HIB.out).trans (by rw [← HD.out]); clear hp4 hl4))) | go_simp)
       (first | (with_reducible refine hK.out _ _ ?_ ?_) | (go_wp2_with fail; refine hK.out _ _ ?_ ?_))
       (focus (exact ⟨u1, u2, u3, u4, u5, u6⟩))
       clear hK K hHeld
       intro hHeld
       (try simp only [Act.put, List.setIfInBounds_toArray, List.set_cons_zero, List.set_cons_succ])
       refine wpAnyH_done (by decide +kernel) ?_ _
       clear hHeld u4 u5 u6 s1 s2 s3 s4 s5 s6 sf
       go_wp2_with fail
       have HNY : Hid ((a, b) ∉ c.yk) := Lib.hid (by have h1 := (finP_true HU.out.symm).2.1; have h2 := HD.out; rw [h1] at h2; exact of_decide_eq_false h2.symm)
       have HLM : Hid (c.pols.length < 64) := Lib.hid (by have h1 := (finP_true HU.out.symm).2.2.1; have h2 := H6.out; have h3 := H0.out.st.lim.pols; first | exact absurd h1 (by decide) | (have := of_decide_eq_false h2.symm; omega))
       obtain ⟨w5, hup, hs5, hm5, hg5⟩ := HS4.out.drew.keyY a b HIA.out HIB.out HNY.out
       have HS5 := Lib.hid hs5
       have HM5 := Lib.hid hm5
       have HG5 := Lib.hid hg5
       clear hs5 hm5 hg5
       refine wp_region_held_drew (S := (fun _ => True)) (by kernel_rfl) ?_ (fun hHeld => ?_)
       ·exact trivial
       (refine takeL (i := 0) (v := ?_) rfl (by kernel_rfl) (by decide +kernel) (by decide +kernel) (fun _ _ _ h => h) (Or.inl ⟨by rfl, ?_⟩) (by assumption) ?_; rotate_left; (focus (intro w9 hS9; (try dsimp only at hS9); go_simp; (try with_reducible rfl); done)))
       (try simp only [Act.put, List.setIfInBounds_toArray, List.set_cons_zero, List.set_cons_succ])
       (refine takeL (i := 1) (v := ?_) rfl (by kernel_rfl) (by decide +kernel) (by decide +kernel) (fun _ _ _ h => h) (Or.inl ⟨by rfl, ?_⟩) (by assumption) ?_; rotate_left; (focus (intro w9 hS9; (try dsimp only at hS9); go_simp; (try with_reducible rfl); done)))
       (try simp only [Act.put, List.setIfInBounds_toArray, List.set_cons_zero, List.set_cons_succ])
       (refine takeL (i := 2) (v := ?_) rfl (by kernel_rfl) (by decide +kernel) (by decide +kernel) (fun _ _ _ h => h) (Or.inl ⟨by rfl, ?_⟩) (by assumption) ?_; rotate_left; (focus (intro w9 hS9; (try dsimp only at hS9); go_simp; (try with_reducible rfl); done)))
       (try simp only [Act.put, List.setIfInBounds_toArray, List.set_cons_zero, List.set_cons_succ])
       refine wpAnyH_ready (rs := [3, 4]) (by decide +kernel) (by simp) ?_
       refine consL rfl (fun K hK => ?_) ?_
       ·(first | fail | (go_simp; first | done | (first | fail)) | go_simp)
        (first | (with_reducible refine hK.out _ _ ?_ ?_) | (go_wp2_with fail; refine hK.out _ _ ?_ ?_))
        (focus (exact trivial))
        clear hK K hHeld
        intro hHeld
        (try simp only [Act.put, List.setIfInBounds_toArray, List.set_cons_zero, List.set_cons_succ])
        refine wpAnyH_ready (rs := [4]) (by decide +kernel) (by simp) ?_
        refine consL rfl (fun K hK => ?_) ?_
        ·(first | fail | (go_simp; first | done | (first | fail)) | go_simp)
         (first | (with_reducible refine hK.out _ _ ?_ ?_) | (go_wp2_with fail; refine hK.out _ _ ?_ ?_))
         (focus (exact trivial))
         clear hK K hHeld
         intro hHeld
         (try simp only [Act.put, List.setIfInBounds_toArray, List.set_cons_zero, List.set_cons_succ])
         refine wpAnyH_ready (rs := [5]) (by decide +kernel) (by simp) ?_
         refine consL rfl (fun K hK => ?_) ?_
         ·(first | fail | (go_simp; first | done | (first | fail)) | go_simp)
          (first | (with_reducible refine hK.out _ _ ?_ ?_) | (go_wp2_with fail; refine hK.out _ _ ?_ ?_))
          (focus (exact trivial))
          clear hK K hHeld
          intro hHeld
          (try simp only [Act.put, List.setIfInBounds_toArray, List.set_cons_zero, List.set_cons_succ])
          refine wpAnyH_done (by decide +kernel) ?_ _
          clear hHeld u1 u2 u3 uf hup
          have HPL := Lib.hid (HPP4.out.keepY HG5.out (by have := H0.out.st.bl.1.2.2.2; have := H0.out.st.sz; have := HPP4.out.h; omega))
          go_wp2_with fail
          have H8 := Lib.hid HS5.out.drew
          have HO8 : Hid (w5.drew.ownsRow B 76 3 (.slice r.aQ c.pols.length r.cQ) c.pols.length ((c.pols.zip r.ls).flatMap plV)) := Lib.hid H8.out.ownQ
          have v4 : w5.cell? ⟨pb, 6, none⟩ = some (.slice r.aQ c.pols.length r.cQ) := HS5.out.cell 6 (by decide)
          have v0 := HPL.out.c0
          have v1 := HPL.out.c1
          have v2 := HPL.out.c2
          have HLO : Hid (w5.drew.ownsRow B 78 2 (.slice Al l.length cl) l.length (l.flatMap sgV)) := Lib.hid (own_base HPL.out.o (by have := H0.out.st.sz; have := HPL.out.h; omega))
          have HLF : Hid (∀ g, fldA Al = some g → ∀ S ∈ rowsOf r { c with yk := c.yk ++ [(a, b)] }, fldA S.A ≠ some g) := Lib.hid (fun g e S hS e2 => by have q1 := (H0.out.st.rows.lt (R := S) hS e2).2; have q2 := (HPL.out.o.lt g (by rw [ownBlock_A]; exact e)).1; have q3 := HPL.out.h; omega)
          refine wp_region_held_drew (S := (fun _ => True)) (by kernel_rfl) ?_ (fun hHeld => ?_)
          ·exact trivial
          (refine takeL (i := 0) (v := ?_) rfl (by kernel_rfl) (by decide +kernel) (by decide +kernel) (fun _ _ _ h => h) (Or.inl ⟨by rfl, ?_⟩) (by assumption) ?_; rotate_left; (focus (intro w9 hS9; (try dsimp only at hS9); go_simp; (try with_reducible rfl); done)))
          (try simp only [Act.put, List.setIfInBounds_toArray, List.set_cons_zero, List.set_cons_succ])
          (refine takeL (i := 1) (v := ?_) rfl (by kernel_rfl) (by decide +kernel) (by decide +kernel) (fun _ _ _ h => h) (Or.inl ⟨by rfl, ?_⟩) (by assumption) ?_; rotate_left; (focus (intro w9 hS9; (try dsimp only at hS9); go_simp; (try with_reducible rfl); done)))
          (try simp only [Act.put, List.setIfInBounds_toArray, List.set_cons_zero, List.set_cons_succ])
          (refine takeL (i := 2) (v := ?_) rfl (by kernel_rfl) (by decide +kernel) (by decide +kernel) (fun _ _ _ h => h) (Or.inl ⟨by rfl, ?_⟩) (by assumption) ?_; rotate_left; (focus (intro w9 hS9; (try dsimp only at hS9); go_simp; (try with_reducible rfl); done)))
          (try simp only [Act.put, List.setIfInBounds_toArray, List.set_cons_zero, List.set_cons_succ])
          (refine takeL (i := 3) (v := ?_) rfl (by kernel_rfl) (by decide +kernel) (by decide +kernel) (fun _ _ _ h => h) (Or.inl ⟨by rfl, ?_⟩) (by assumption) ?_; rotate_left; (focus (intro w9 hS9; (try dsimp only at hS9); go_simp; (try with_reducible rfl); done)))
          (try simp only [Act.put, List.setIfInBounds_toArray, List.set_cons_zero, List.set_cons_succ])
          (refine takeL (i := 4) (v := ?_) rfl (by kernel_rfl) (by decide +kernel) (by decide +kernel) (fun _ _ _ h => h) (Or.inl ⟨by rfl, ?_⟩) (by assumption) ?_; rotate_left; (focus (intro w9 hS9; (try dsimp only at hS9); go_simp; (try with_reducible rfl); done)))
          (try simp only [Act.put, List.setIfInBounds_toArray, List.set_cons_zero, List.set_cons_succ])
          refine wpAnyH_ready (rs := [5, 6]) (by decide +kernel) (by simp) ?_
          refine consL rfl (fun K hK => ?_) ?_
          ·(first | fail | (go_simp; first | done | (first | fail)) | go_simp)
           (first | (with_reducible refine hK.out _ _ ?_ ?_) | (go_wp2_with fail; refine hK.out _ _ ?_ ?_))
           (focus (exact trivial))
           clear hK K hHeld
           intro hHeld
           (try simp only [Act.put, List.setIfInBounds_toArray, List.set_cons_zero, List.set_cons_succ])
           refine wpAnyH_ready (rs := [6]) (by decide +kernel) (by simp) ?_
           refine consL rfl (fun K hK => ?_) ?_
           ·(first | fail | (go_simp; first | done | (first | fail)) | go_simp)
            (first | (with_reducible refine hK.out _ _ ?_ ?_) | (go_wp2_with fail; refine hK.out _ _ ?_ ?_))
            (focus (exact trivial))
            clear hK K hHeld
            intro hHeld
            (try simp only [Act.put, List.setIfInBounds_toArray, List.set_cons_zero, List.set_cons_succ])
            refine wpAnyH_ready (rs := [7]) (by decide +kernel) (by simp) ?_
            refine consL rfl (fun K hK => ?_) ?_
            ·(first | fail | (go_simp; first | done | (first | fail)) | go_simp)
             (first | (with_reducible refine hK.out _ _ ?_ ?_) | (go_wp2_with fail; refine hK.out _ _ ?_ ?_))
             (focus (exact trivial))
             clear hK K hHeld
             intro hHeld
             (try simp only [Act.put, List.setIfInBounds_toArray, List.set_cons_zero, List.set_cons_succ])
             refine wpAnyH_ready (rs := [8]) (by decide +kernel) (by simp) ?_
             refine consL rfl (fun K hK => ?_) ?_
             ·(first | (refine step_append_lies _ rfl _ _ 29 rfl B 76 k0 (.agg #[.int .i64 0, .int .i64 0, .slice none 0 0]) 3 40 Tryz.underlying29 hk hk0 hk1 hk2 rfl (by decide) _ _ _ rfl (HO8.out.alloc _) ⟨_, 0, none⟩ 1 1 (plV ((a, b, l), (Al, cl))) rfl rfl (cells_new _ (plV ((a, b, l), (Al, cl))) _) (by intro u hu; simp only [plV, List.mem_cons, List.not_mem_nil, or_false] at hu; rcases hu with rfl | rfl | rfl <;> rfl) (by decide) (by have := HLM.out; unfold maxLen; omega) (by have := HLM.out; omega) (Nat.le_trans H8.out.sz (by simp)) _ rfl ?_; intro gg cap W9 ap1 ap2 ap3 ap4; obtain ⟨p1, p2, p3, p4⟩ := H8.out.pushQ (a := a) (b := b) (l := l) (Al := Al) (cl := cl) ap1 ap2 ap3 HLM.out HLO.out HLF.out; have P1 := Lib.hid p1; have P2 := Lib.hid p2; clear p1 p2 ap1 ap2 ap3 ap4) | (go_simp; first | done | (first | (refine step_append_lies _ rfl _ _ 29 rfl B 76 k0 (.agg #[.int .i64 0, .int .i64 0, .slice none 0 0]) 3 40 Tryz.underlying29 hk hk0 hk1 hk2 rfl (by decide) _ _ _ rfl (HO8.out.alloc _) ⟨_, 0, none⟩ 1 1 (plV ((a, b, l), (Al, cl))) rfl rfl (cells_new _ (plV ((a, b, l), (Al, cl))) _) (by intro u hu; simp only [plV, List.mem_cons, List.not_mem_nil, or_false] at hu; rcases hu with rfl | rfl | rfl <;> rfl) (by decide) (by have := HLM.out; unfold maxLen; omega) (by have := HLM.out; omega) (Nat.le_trans H8.out.sz (by simp)) _ rfl ?_; intro gg cap W9 ap1 ap2 ap3 ap4; obtain ⟨p1, p2, p3, p4⟩ := H8.out.pushQ (a := a) (b := b) (l := l) (Al := Al) (cl := cl) ap1 ap2 ap3 HLM.out HLO.out HLF.out; have P1 := Lib.hid p1; have P2 := Lib.hid p2; clear p1 p2 ap1 ap2 ap3 ap4))) | go_simp)
              (first | (with_reducible refine hK.out _ _ ?_ ?_) | (go_wp2_with fail; refine hK.out _ _ ?_ ?_))
              (focus (exact trivial))
              clear hK K hHeld
              intro hHeld
              (try simp only [Act.put, List.setIfInBounds_toArray, List.set_cons_zero, List.set_cons_succ])
              (refine takeL (i := 9) (v := ?_) rfl (by kernel_rfl) (by decide +kernel) (by decide +kernel) (fun _ _ _ h => h) (Or.inl ⟨by rfl, ?_⟩) (by assumption) ?_; rotate_left; (focus (intro w9 hS9; (try dsimp only at hS9); go_simp; (try with_reducible rfl); done)))
              (try simp only [Act.put, List.setIfInBounds_toArray, List.set_cons_zero, List.set_cons_succ])
              (refine takeL (i := 10) (v := ?_) rfl (by kernel_rfl) (by decide +kernel) (by decide +kernel) (fun _ _ _ h => h) (Or.inl ⟨by rfl, ?_⟩) (by assumption) ?_; rotate_left; (focus (intro w9 hS9; (try dsimp only at hS9); go_simp; (try with_reducible rfl); done)))
              (try simp only [Act.put, List.setIfInBounds_toArray, List.set_cons_zero, List.set_cons_succ])
              (refine takeL (i := 11) (v := ?_) rfl (by kernel_rfl) (by decide +kernel) (by decide +kernel) (fun _ _ _ h => h) (Or.inl ⟨by rfl, ?_⟩) (by assumption) ?_; rotate_left; (focus (intro w9 hS9; (try dsimp only at hS9); go_simp; (try with_reducible rfl); done)))
              (try simp only [Act.put, List.setIfInBounds_toArray, List.set_cons_zero, List.set_cons_succ])
              refine wpAnyH_ready (rs := [12]) (by decide +kernel) (by simp) ?_
              refine consL rfl (fun K hK => ?_) ?_
              ·(first | fail | (go_simp; first | done | (first | fail)) | go_simp)
               (first | (with_reducible refine hK.out _ _ ?_ ?_) | (go_wp2_with fail; refine hK.out _ _ ?_ ?_))
               (focus (exact trivial))
               clear hK K hHeld
               intro hHeld
               (try simp only [Act.put, List.setIfInBounds_toArray, List.set_cons_zero, List.set_cons_succ])
               refine wpAnyH_done (by decide +kernel) ?_ _
               go_wp2_with fail
               go_end0
               obtain rfl := HV.out
               exact ⟨rfl, ((HN4.out.toM (Y := [pb, sb, xb, yb]) H0.out.st.sz (by simp)).drew.trans HM5.out).drew.trans P2.out, _, _, P1.out, (fun h => by rw [HDR.out] at h; cases h), rfl⟩
              exact AllReadyH.nil
             exact AllReadyH.nil
            exact AllReadyH.nil
           exact AllReadyH.nil
          refine consL rfl (fun K hK => ?_) ?_
          ·(first | fail | (go_simp; first | done | (first | fail)) | go_simp)
           (first | (with_reducible refine hK.out _ _ ?_ ?_) | (go_wp2_with fail; refine hK.out _ _ ?_ ?_))
           (focus (exact trivial))
           clear hK K hHeld
           intro hHeld
           (try simp only [Act.put, List.setIfInBounds_toArray, List.set_cons_zero, List.set_cons_succ])
           refine wpAnyH_ready (rs := [5, 7]) (by decide +kernel) (by simp) ?_
           refine consL rfl (fun K hK => ?_) ?_
           ·(first | fail | (go_simp; first | done | (first | fail)) | go_simp)
            (first | (with_reducible refine hK.out _ _ ?_ ?_) | (go_wp2_with fail; refine hK.out _ _ ?_ ?_))
            (focus (exact trivial))
            clear hK K hHeld
            intro hHeld
            (try simp only [Act.put, List.setIfInBounds_toArray, List.set_cons_zero, List.set_cons_succ])
            refine wpAnyH_ready (rs := [7]) (by decide +kernel) (by simp) ?_
            refine consL rfl (fun K hK => ?_) ?_
            ·(first | fail | (go_simp; first | done | (first | fail)) | go_simp)
             (first | (with_reducible refine hK.out _ _ ?_ ?_) | (go_wp2_with fail; refine hK.out _ _ ?_ ?_))
             (focus (exact trivial))
             clear hK K hHeld
             intro hHeld
             (try simp only [Act.put, List.setIfInBounds_toArray, List.set_cons_zero, List.set_cons_succ])
             refine wpAnyH_ready (rs := [8]) (by decide +kernel) (by simp) ?_
             refine consL rfl (fun K hK => ?_) ?_
             ·(first | (refine step_append_lies _ rfl _ _ 29 rfl B 76 k0 (.agg #[.int .i64 0, .int .i64 0, .slice none 0 0]) 3 40 Tryz.underlying29 hk hk0 hk1 hk2 rfl (by decide) _ _ _ rfl (HO8.out.alloc _) ⟨_, 0, none⟩ 1 1 (plV ((a, b, l), (Al, cl))) rfl rfl (cells_new _ (plV ((a, b, l), (Al, cl))) _) (by intro u hu; simp only [plV, List.mem_cons, List.not_mem_nil, or_false] at hu; rcases hu with rfl | rfl | rfl <;> rfl) (by decide) (by have := HLM.out; unfold maxLen; omega) (by have := HLM.out; omega) (Nat.le_trans H8.out.sz (by simp)) _ rfl ?_; intro gg cap W9 ap1 ap2 ap3 ap4; obtain ⟨p1, p2, p3, p4⟩ := H8.out.pushQ (a := a) (b := b) (l := l) (Al := Al) (cl := cl) ap1 ap2 ap3 HLM.out HLO.out HLF.out; have P1 := Lib.hid p1; have P2 := Lib.hid p2; clear p1 p2 ap1 ap2 ap3 ap4) | (go_simp; first | done | (first | (refine step_append_lies _ rfl _ _ 29 rfl B 76 k0 (.agg #[.int .i64 0, .int .i64 0, .slice none 0 0]) 3 40 Tryz.underlying29 hk hk0 hk1 hk2 rfl (by decide) _ _ _ rfl (HO8.out.alloc _) ⟨_, 0, none⟩ 1 1 (plV ((a, b, l), (Al, cl))) rfl rfl (cells_new _ (plV ((a, b, l), (Al, cl))) _) (by intro u hu; simp only [plV, List.mem_cons, List.not_mem_nil, or_false] at hu; rcases hu with rfl | rfl | rfl <;> rfl) (by decide) (by have := HLM.out; unfold maxLen; omega) (by have := HLM.out; omega) (Nat.le_trans H8.out.sz (by simp)) _ rfl ?_; intro gg cap W9 ap1 ap2 ap3 ap4; obtain ⟨p1, p2, p3, p4⟩ := H8.out.pushQ (a := a) (b := b) (l := l) (Al := Al) (cl := cl) ap1 ap2 ap3 HLM.out HLO.out HLF.out; have P1 := Lib.hid p1; have P2 := Lib.hid p2; clear p1 p2 ap1 ap2 ap3 ap4))) | go_simp)
              (first | (with_reducible refine hK.out _ _ ?_ ?_) | (go_wp2_with fail; refine hK.out _ _ ?_ ?_))
              (focus (exact trivial))
              clear hK K hHeld
              intro hHeld
              (try simp only [Act.put, List.setIfInBounds_toArray, List.set_cons_zero, List.set_cons_succ])
              (refine takeL (i := 9) (v := ?_) rfl (by kernel_rfl) (by decide +kernel) (by decide +kernel) (fun _ _ _ h => h) (Or.inl ⟨by rfl, ?_⟩) (by assumption) ?_; rotate_left; (focus (intro w9 hS9; (try dsimp only at hS9); go_simp; (try with_reducible rfl); done)))
              (try simp only [Act.put, List.setIfInBounds_toArray, List.set_cons_zero, List.set_cons_succ])
              (refine takeL (i := 10) (v := ?_) rfl (by kernel_rfl) (by decide +kernel) (by decide +kernel) (fun _ _ _ h => h) (Or.inl ⟨by rfl, ?_⟩) (by assumption) ?_; rotate_left; (focus (intro w9 hS9; (try dsimp only at hS9); go_simp; (try with_reducible rfl); done)))
              (try simp only [Act.put, List.setIfInBounds_toArray, List.set_cons_zero, List.set_cons_succ])
              (refine takeL (i := 11) (v := ?_) rfl (by kernel_rfl) (by decide +kernel) (by decide +kernel) (fun _ _ _ h => h) (Or.inl ⟨by rfl, ?_⟩) (by assumption) ?_; rotate_left; (focus (intro w9 hS9; (try dsimp only at hS9); go_simp; (try with_reducible rfl); done)))
              (try simp only [Act.put, List.setIfInBounds_toArray, List.set_cons_zero, List.set_cons_succ])
              refine wpAnyH_ready (rs := [12]) (by decide +kernel) (by simp) ?_
              refine consL rfl (fun K hK => ?_) ?_
              ·(first | fail | (go_simp; first | done | (first | fail)) | go_simp)
               (first | (with_reducible refine hK.out _ _ ?_ ?_) | (go_wp2_with fail; refine hK.out _ _ ?_ ?_))
               (focus (exact trivial))
               clear hK K hHeld
               intro hHeld
               (try simp only [Act.put, List.setIfInBounds_toArray, List.set_cons_zero, List.set_cons_succ])
               refine wpAnyH_done (by decide +kernel) ?_ _
               go_wp2_with fail
               go_end0
               obtain rfl := HV.out
               exact ⟨rfl, ((HN4.out.toM (Y := [pb, sb, xb, yb]) H0.out.st.sz (by simp)).drew.trans HM5.out).drew.trans P2.out, _, _, P1.out, (fun h => by rw [HDR.out] at h; cases h), rfl⟩
              exact AllReadyH.nil
             exact AllReadyH.nil
            exact AllReadyH.nil
           refine consL rfl (fun K hK => ?_) ?_
           ·(first | fail | (go_simp; first | done | (first | fail)) | go_simp)
            (first | (with_reducible refine hK.out _ _ ?_ ?_) | (go_wp2_with fail; refine hK.out _ _ ?_ ?_))
            (focus (exact trivial))
            clear hK K hHeld
            intro hHeld
            (try simp only [Act.put, List.setIfInBounds_toArray, List.set_cons_zero, List.set_cons_succ])
            have e7 := cell_up (below_box w5 (.cells (plV ((a, b, l), (Al, cl))).toArray 76)) v4
            simp only [plV] at e7
            refine wpAnyH_ready (rs := [5]) (by decide +kernel) (by simp) ?_
            refine consL rfl (fun K hK => ?_) ?_
            ·(first | fail | (go_simp; first | done | (first | fail)) | go_simp)
             (first | (with_reducible refine hK.out _ _ ?_ ?_) | (go_wp2_with fail; refine hK.out _ _ ?_ ?_))
             (focus (exact trivial))
             clear hK K hHeld
             intro hHeld
             (try simp only [Act.put, List.setIfInBounds_toArray, List.set_cons_zero, List.set_cons_succ])
             refine wpAnyH_ready (rs := [8]) (by decide +kernel) (by simp) ?_
             refine consL rfl (fun K hK => ?_) ?_
             ·(first | (refine step_append_lies _ rfl _ _ 29 rfl B 76 k0 (.agg #[.int .i64 0, .int .i64 0, .slice none 0 0]) 3 40 Tryz.underlying29 hk hk0 hk1 hk2 rfl (by decide) _ _ _ rfl (HO8.out.alloc _) ⟨_, 0, none⟩ 1 1 (plV ((a, b, l), (Al, cl))) rfl rfl (cells_new _ (plV ((a, b, l), (Al, cl))) _) (by intro u hu; simp only [plV, List.mem_cons, List.not_mem_nil, or_false] at hu; rcases hu with rfl | rfl | rfl <;> rfl) (by decide) (by have := HLM.out; unfold maxLen; omega) (by have := HLM.out; omega) (Nat.le_trans H8.out.sz (by simp)) _ rfl ?_; intro gg cap W9 ap1 ap2 ap3 ap4; obtain ⟨p1, p2, p3, p4⟩ := H8.out.pushQ (a := a) (b := b) (l := l) (Al := Al) (cl := cl) ap1 ap2 ap3 HLM.out HLO.out HLF.out; have P1 := Lib.hid p1; have P2 := Lib.hid p2; clear p1 p2 ap1 ap2 ap3 ap4) | (go_simp; first | done | (first | (refine step_append_lies _ rfl _ _ 29 rfl B 76 k0 (.agg #[.int .i64 0, .int .i64 0, .slice none 0 0]) 3 40 Tryz.underlying29 hk hk0 hk1 hk2 rfl (by decide) _ _ _ rfl (HO8.out.alloc _) ⟨_, 0, none⟩ 1 1 (plV ((a, b, l), (Al, cl))) rfl rfl (cells_new _ (plV ((a, b, l), (Al, cl))) _) (by intro u hu; simp only [plV, List.mem_cons, List.not_mem_nil, or_false] at hu; rcases hu with rfl | rfl | rfl <;> rfl) (by decide) (by have := HLM.out; unfold maxLen; omega) (by have := HLM.out; omega) (Nat.le_trans H8.out.sz (by simp)) _ rfl ?_; intro gg cap W9 ap1 ap2 ap3 ap4; obtain ⟨p1, p2, p3, p4⟩ := H8.out.pushQ (a := a) (b := b) (l := l) (Al := Al) (cl := cl) ap1 ap2 ap3 HLM.out HLO.out HLF.out; have P1 := Lib.hid p1; have P2 := Lib.hid p2; clear p1 p2 ap1 ap2 ap3 ap4))) | go_simp)
              (first | (with_reducible refine hK.out _ _ ?_ ?_) | (go_wp2_with fail; refine hK.out _ _ ?_ ?_))
              (focus (exact trivial))
              clear hK K hHeld
              intro hHeld
              (try simp only [Act.put, List.setIfInBounds_toArray, List.set_cons_zero, List.set_cons_succ])
              (refine takeL (i := 9) (v := ?_) rfl (by kernel_rfl) (by decide +kernel) (by decide +kernel) (fun _ _ _ h => h) (Or.inl ⟨by rfl, ?_⟩) (by assumption) ?_; rotate_left; (focus (intro w9 hS9; (try dsimp only at hS9); go_simp; (try with_reducible rfl); done)))
              (try simp only [Act.put, List.setIfInBounds_toArray, List.set_cons_zero, List.set_cons_succ])
              (refine takeL (i := 10) (v := ?_) rfl (by kernel_rfl) (by decide +kernel) (by decide +kernel) (fun _ _ _ h => h) (Or.inl ⟨by rfl, ?_⟩) (by assumption) ?_; rotate_left; (focus (intro w9 hS9; (try dsimp only at hS9); go_simp; (try with_reducible rfl); done)))
              (try simp only [Act.put, List.setIfInBounds_toArray, List.set_cons_zero, List.set_cons_succ])
              (refine takeL (i := 11) (v := ?_) rfl (by kernel_rfl) (by decide +kernel) (by decide +kernel) (fun _ _ _ h => h) (Or.inl ⟨by rfl, ?_⟩) (by assumption) ?_; rotate_left; (focus (intro w9 hS9; (try dsimp only at hS9); go_simp; (try with_reducible rfl); done)))
              (try simp only [Act.put, List.setIfInBounds_toArray, List.set_cons_zero, List.set_cons_succ])
              refine wpAnyH_ready (rs := [12]) (by decide +kernel) (by simp) ?_
              refine consL rfl (fun K hK => ?_) ?_
              ·(first | fail | (go_simp; first | done | (first | fail)) | go_simp)
               (first | (with_reducible refine hK.out _ _ ?_ ?_) | (go_wp2_with fail; refine hK.out _ _ ?_ ?_))
               (focus (exact trivial))
               clear hK K hHeld
               intro hHeld
               (try simp only [Act.put, List.setIfInBounds_toArray, List.set_cons_zero, List.set_cons_succ])
               refine wpAnyH_done (by decide +kernel) ?_ _
               go_wp2_with fail
               go_end0
               obtain rfl := HV.out
               exact ⟨rfl, ((HN4.out.toM (Y := [pb, sb, xb, yb]) H0.out.st.sz (by simp)).drew.trans HM5.out).drew.trans P2.out, _, _, P1.out, (fun h => by rw [HDR.out] at h; cases h), rfl⟩
              exact AllReadyH.nil
             exact AllReadyH.nil
            exact AllReadyH.nil
           exact AllReadyH.nil
          exact AllReadyH.nil
         exact AllReadyH.nil
        exact AllReadyH.nil
       refine consL rfl (fun K hK => ?_) ?_
       ·(first | fail | (go_simp; first | done | (first | fail)) | go_simp)
        (first | (with_reducible refine hK.out _ _ ?_ ?_) | (go_wp2_with fail; refine hK.out _ _ ?_ ?_))
        (focus (exact trivial))
        clear hK K hHeld
        intro hHeld
        (try simp only [Act.put, List.setIfInBounds_toArray, List.set_cons_zero, List.set_cons_succ])
        refine wpAnyH_ready (rs := [3]) (by decide +kernel) (by simp) ?_
        refine consL rfl (fun K hK => ?_) ?_
        ·(first | fail | (go_simp; first | done | (first | fail)) | go_simp)
         (first | (with_reducible refine hK.out _ _ ?_ ?_) | (go_wp2_with fail; refine hK.out _ _ ?_ ?_))
         (focus (exact trivial))
         clear hK K hHeld
         intro hHeld
         (try simp only [Act.put, List.setIfInBounds_toArray, List.set_cons_zero, List.set_cons_succ])
         refine wpAnyH_ready (rs := [5]) (by decide +kernel) (by simp) ?_
         refine consL rfl (fun K hK => ?_) ?_
         ·(first | fail | (go_simp; first | done | (first | fail)) | go_simp)
          (first | (with_reducible refine hK.out _ _ ?_ ?_) | (go_wp2_with fail; refine hK.out _ _ ?_ ?_))
          (focus (exact trivial))
          clear hK K hHeld
          intro hHeld
          (try simp only [Act.put, List.setIfInBounds_toArray, List.set_cons_zero, List.set_cons_succ])
          refine wpAnyH_done (by decide +kernel) ?_ _
          clear hHeld u1 u2 u3 uf hup
          have HPL := Lib.hid (HPP4.out.keepY HG5.out (by have := H0.out.st.bl.1.2.2.2; have := H0.out.st.sz; have := HPP4.out.h; omega))
          go_wp2_with fail
          have H8 := Lib.hid HS5.out.drew
          have HO8 : Hid (w5.drew.ownsRow B 76 3 (.slice r.aQ c.pols.length r.cQ) c.pols.length ((c.pols.zip r.ls).flatMap plV)) := Lib.hid H8.out.ownQ
          have v4 : w5.cell? ⟨pb, 6, none⟩ = some (.slice r.aQ c.pols.length r.cQ) := HS5.out.cell 6 (by decide)
          have v0 := HPL.out.c0
          have v1 := HPL.out.c1
          have v2 := HPL.out.c2
          have HLO : Hid (w5.drew.ownsRow B 78 2 (.slice Al l.length cl) l.length (l.flatMap sgV)) := Lib.hid (own_base HPL.out.o (by have := H0.out.st.sz; have := HPL.out.h; omega))
          have HLF : Hid (∀ g, fldA Al = some g → ∀ S ∈ rowsOf r { c with yk := c.yk ++ [(a, b)] }, fldA S.A ≠ some g) := Lib.hid (fun g e S hS e2 => by have q1 := (H0.out.st.rows.lt (R := S) hS e2).2; have q2 := (HPL.out.o.lt g (by rw [ownBlock_A]; exact e)).1; have q3 := HPL.out.h; omega)
          refine wp_region_held_drew (S := (fun _ => True)) (by kernel_rfl) ?_ (fun hHeld => ?_)
          ·exact trivial
          (refine takeL (i := 0) (v := ?_) rfl (by kernel_rfl) (by decide +kernel) (by decide +kernel) (fun _ _ _ h => h) (Or.inl ⟨by rfl, ?_⟩) (by assumption) ?_; rotate_left; (focus (intro w9 hS9; (try dsimp only at hS9); go_simp; (try with_reducible rfl); done)))
          (try simp only [Act.put, List.setIfInBounds_toArray, List.set_cons_zero, List.set_cons_succ])
          (refine takeL (i := 1) (v := ?_) rfl (by kernel_rfl) (by decide +kernel) (by decide +kernel) (fun _ _ _ h => h) (Or.inl ⟨by rfl, ?_⟩) (by assumption) ?_; rotate_left; (focus (intro w9 hS9; (try dsimp only at hS9); go_simp; (try with_reducible rfl); done)))
          (try simp only [Act.put, List.setIfInBounds_toArray, List.set_cons_zero, List.set_cons_succ])
          (refine takeL (i := 2) (v := ?_) rfl (by kernel_rfl) (by decide +kernel) (by decide +kernel) (fun _ _ _ h => h) (Or.inl ⟨by rfl, ?_⟩) (by assumption) ?_; rotate_left; (focus (intro w9 hS9; (try dsimp only at hS9); go_simp; (try with_reducible rfl); done)))
          (try simp only [Act.put, List.setIfInBounds_toArray, List.set_cons_zero, List.set_cons_succ])
          (refine takeL (i := 3) (v := ?_) rfl (by kernel_rfl) (by decide +kernel) (by decide +kernel) (fun _ _ _ h => h) (Or.inl ⟨by rfl, ?_⟩) (by assumption) ?_; rotate_left; (focus (intro w9 hS9; (try dsimp only at hS9); go_simp; (try with_reducible rfl); done)))
          (try simp only [Act.put, List.setIfInBounds_toArray, List.set_cons_zero, List.set_cons_succ])
          (refine takeL (i := 4) (v := ?_) rfl (by kernel_rfl) (by decide +kernel) (by decide +kernel) (fun _ _ _ h => h) (Or.inl ⟨by rfl, ?_⟩) (by assumption) ?_; rotate_left; (focus (intro w9 hS9; (try dsimp only at hS9); go_simp; (try with_reducible rfl); done)))
          (try simp only [Act.put, List.setIfInBounds_toArray, List.set_cons_zero, List.set_cons_succ])
          refine wpAnyH_ready (rs := [5, 6]) (by decide +kernel) (by simp) ?_
          refine consL rfl (fun K hK => ?_) ?_
          ·(first | fail | (go_simp; first | done | (first | fail)) | go_simp)
           (first | (with_reducible refine hK.out _ _ ?_ ?_) | (go_wp2_with fail; refine hK.out _ _ ?_ ?_))
           (focus (exact trivial))
           clear hK K hHeld
           intro hHeld
           (try simp only [Act.put, List.setIfInBounds_toArray, List.set_cons_zero, List.set_cons_succ])
           refine wpAnyH_ready (rs := [6]) (by decide +kernel) (by simp) ?_
           refine consL rfl (fun K hK => ?_) ?_
           ·(first | fail | (go_simp; first | done | (first | fail)) | go_simp)
            (first | (with_reducible refine hK.out _ _ ?_ ?_) | (go_wp2_with fail; refine hK.out _ _ ?_ ?_))
            (focus (exact trivial))
            clear hK K hHeld
            intro hHeld
            (try simp only [Act.put, List.setIfInBounds_toArray, List.set_cons_zero, List.set_cons_succ])
            refine wpAnyH_ready (rs := [7]) (by decide +kernel) (by simp) ?_
            refine consL rfl (fun K hK => ?_) ?_
            ·(first | fail | (go_simp; first | done | (first | fail)) | go_simp)
             (first | (with_reducible refine hK.out _ _ ?_ ?_) | (go_wp2_with fail; refine hK.out _ _ ?_ ?_))
             (focus (exact trivial))
             clear hK K hHeld
             intro hHeld
             (try simp only [Act.put, List.setIfInBounds_toArray, List.set_cons_zero, List.set_cons_succ])
             refine wpAnyH_ready (rs := [8]) (by decide +kernel) (by simp) ?_
             refine consL rfl (fun K hK => ?_) ?_
             ·(first | (refine step_append_lies _ rfl _ _ 29 rfl B 76 k0 (.agg #[.int .i64 0, .int .i64 0, .slice none 0 0]) 3 40 Tryz.underlying29 hk hk0 hk1 hk2 rfl (by decide) _ _ _ rfl (HO8.out.alloc _) ⟨_, 0, none⟩ 1 1 (plV ((a, b, l), (Al, cl))) rfl rfl (cells_new _ (plV ((a, b, l), (Al, cl))) _) (by intro u hu; simp only [plV, List.mem_cons, List.not_mem_nil, or_false] at hu; rcases hu with rfl | rfl | rfl <;> rfl) (by decide) (by have := HLM.out; unfold maxLen; omega) (by have := HLM.out; omega) (Nat.le_trans H8.out.sz (by simp)) _ rfl ?_; intro gg cap W9 ap1 ap2 ap3 ap4; obtain ⟨p1, p2, p3, p4⟩ := H8.out.pushQ (a := a) (b := b) (l := l) (Al := Al) (cl := cl) ap1 ap2 ap3 HLM.out HLO.out HLF.out; have P1 := Lib.hid p1; have P2 := Lib.hid p2; clear p1 p2 ap1 ap2 ap3 ap4) | (go_simp; first | done | (first | (refine step_append_lies _ rfl _ _ 29 rfl B 76 k0 (.agg #[.int .i64 0, .int .i64 0, .slice none 0 0]) 3 40 Tryz.underlying29 hk hk0 hk1 hk2 rfl (by decide) _ _ _ rfl (HO8.out.alloc _) ⟨_, 0, none⟩ 1 1 (plV ((a, b, l), (Al, cl))) rfl rfl (cells_new _ (plV ((a, b, l), (Al, cl))) _) (by intro u hu; simp only [plV, List.mem_cons, List.not_mem_nil, or_false] at hu; rcases hu with rfl | rfl | rfl <;> rfl) (by decide) (by have := HLM.out; unfold maxLen; omega) (by have := HLM.out; omega) (Nat.le_trans H8.out.sz (by simp)) _ rfl ?_; intro gg cap W9 ap1 ap2 ap3 ap4; obtain ⟨p1, p2, p3, p4⟩ := H8.out.pushQ (a := a) (b := b) (l := l) (Al := Al) (cl := cl) ap1 ap2 ap3 HLM.out HLO.out HLF.out; have P1 := Lib.hid p1; have P2 := Lib.hid p2; clear p1 p2 ap1 ap2 ap3 ap4))) | go_simp)
              (first | (with_reducible refine hK.out _ _ ?_ ?_) | (go_wp2_with fail; refine hK.out _ _ ?_ ?_))
              (focus (exact trivial))
              clear hK K hHeld
              intro hHeld
              (try simp only [Act.put, List.setIfInBounds_toArray, List.set_cons_zero, List.set_cons_succ])
              (refine takeL (i := 9) (v := ?_) rfl (by kernel_rfl) (by decide +kernel) (by decide +kernel) (fun _ _ _ h => h) (Or.inl ⟨by rfl, ?_⟩) (by assumption) ?_; rotate_left; (focus (intro w9 hS9; (try dsimp only at hS9); go_simp; (try with_reducible rfl); done)))
              (try simp only [Act.put, List.setIfInBounds_toArray, List.set_cons_zero, List.set_cons_succ])
              (refine takeL (i := 10) (v := ?_) rfl (by kernel_rfl) (by decide +kernel) (by decide +kernel) (fun _ _ _ h => h) (Or.inl ⟨by rfl, ?_⟩) (by assumption) ?_; rotate_left; (focus (intro w9 hS9; (try dsimp only at hS9); go_simp; (try with_reducible rfl); done)))
              (try simp only [Act.put, List.setIfInBounds_toArray, List.set_cons_zero, List.set_cons_succ])
              (refine takeL (i := 11) (v := ?_) rfl (by kernel_rfl) (by decide +kernel) (by decide +kernel) (fun _ _ _ h => h) (Or.inl ⟨by rfl, ?_⟩) (by assumption) ?_; rotate_left; (focus (intro w9 hS9; (try dsimp only at hS9); go_simp; (try with_reducible rfl); done)))
              (try simp only [Act.put, List.setIfInBounds_toArray, List.set_cons_zero, List.set_cons_succ])
              refine wpAnyH_ready (rs := [12]) (by decide +kernel) (by simp) ?_
              refine consL rfl (fun K hK => ?_) ?_
              ·(first | fail | (go_simp; first | done | (first | fail)) | go_simp)
               (first | (with_reducible refine hK.out _ _ ?_ ?_) | (go_wp2_with fail; refine hK.out _ _ ?_ ?_))
               (focus (exact trivial))
               clear hK K hHeld
               intro hHeld
               (try simp only [Act.put, List.setIfInBounds_toArray, List.set_cons_zero, List.set_cons_succ])
               refine wpAnyH_done (by decide +kernel) ?_ _
               go_wp2_with fail
               go_end0
               obtain rfl := HV.out
               exact ⟨rfl, ((HN4.out.toM (Y := [pb, sb, xb, yb]) H0.out.st.sz (by simp)).drew.trans HM5.out).drew.trans P2.out, _, _, P1.out, (fun h => by rw [HDR.out] at h; cases h), rfl⟩
              exact AllReadyH.nil
             exact AllReadyH.nil
            exact AllReadyH.nil
           exact AllReadyH.nil
          refine consL rfl (fun K hK => ?_) ?_
          ·(first | fail | (go_simp; first | done | (first | fail)) | go_simp)
           (first | (with_reducible refine hK.out _ _ ?_ ?_) | (go_wp2_with fail; refine hK.out _ _ ?_ ?_))
           (focus (exact trivial))
           clear hK K hHeld
           intro hHeld
           (try simp only [Act.put, List.setIfInBounds_toArray, List.set_cons_zero, List.set_cons_succ])
           refine wpAnyH_ready (rs := [5, 7]) (by decide +kernel) (by simp) ?_
           refine consL rfl (fun K hK => ?_) ?_
           ·(first | fail | (go_simp; first | done | (first | fail)) | go_simp)
            (first | (with_reducible refine hK.out _ _ ?_ ?_) | (go_wp2_with fail; refine hK.out _ _ ?_ ?_))
            (focus (exact trivial))
            clear hK K hHeld
            intro hHeld
            (try simp only [Act.put, List.setIfInBounds_toArray, List.set_cons_zero, List.set_cons_succ])
            refine wpAnyH_ready (rs := [7]) (by decide +kernel) (by simp) ?_
            refine consL rfl (fun K hK => ?_) ?_
            ·(first | fail | (go_simp; first | done | (first | fail)) | go_simp)
             (first | (with_reducible refine hK.out _ _ ?_ ?_) | (go_wp2_with fail; refine hK.out _ _ ?_ ?_))
             (focus (exact trivial))
             clear hK K hHeld
             intro hHeld
             (try simp only [Act.put, List.setIfInBounds_toArray, List.set_cons_zero, List.set_cons_succ])
             refine wpAnyH_ready (rs := [8]) (by decide +kernel) (by simp) ?_
             refine consL rfl (fun K hK => ?_) ?_
             ·(first | (refine step_append_lies _ rfl _ _ 29 rfl B 76 k0 (.agg #[.int .i64 0, .int .i64 0, .slice none 0 0]) 3 40 Tryz.underlying29 hk hk0 hk1 hk2 rfl (by decide) _ _ _ rfl (HO8.out.alloc _) ⟨_, 0, none⟩ 1 1 (plV ((a, b, l), (Al, cl))) rfl rfl (cells_new _ (plV ((a, b, l), (Al, cl))) _) (by intro u hu; simp only [plV, List.mem_cons, List.not_mem_nil, or_false] at hu; rcases hu with rfl | rfl | rfl <;> rfl) (by decide) (by have := HLM.out; unfold maxLen; omega) (by have := HLM.out; omega) (Nat.le_trans H8.out.sz (by simp)) _ rfl ?_; intro gg cap W9 ap1 ap2 ap3 ap4; obtain ⟨p1, p2, p3, p4⟩ := H8.out.pushQ (a := a) (b := b) (l := l) (Al := Al) (cl := cl) ap1 ap2 ap3 HLM.out HLO.out HLF.out; have P1 := Lib.hid p1; have P2 := Lib.hid p2; clear p1 p2 ap1 ap2 ap3 ap4) | (go_simp; first | done | (first | (refine step_append_lies _ rfl _ _ 29 rfl B 76 k0 (.agg #[.int .i64 0, .int .i64 0, .slice none 0 0]) 3 40 Tryz.underlying29 hk hk0 hk1 hk2 rfl (by decide) _ _ _ rfl (HO8.out.alloc _) ⟨_, 0, none⟩ 1 1 (plV ((a, b, l), (Al, cl))) rfl rfl (cells_new _ (plV ((a, b, l), (Al, cl))) _) (by intro u hu; simp only [plV, List.mem_cons, List.not_mem_nil, or_false] at hu; rcases hu with rfl | rfl | rfl <;> rfl) (by decide) (by have := HLM.out; unfold maxLen; omega) (by have := HLM.out; omega) (Nat.le_trans H8.out.sz (by simp)) _ rfl ?_; intro gg cap W9 ap1 ap2 ap3 ap4; obtain ⟨p1, p2, p3, p4⟩ := H8.out.pushQ (a := a) (b := b) (l := l) (Al := Al) (cl := cl) ap1 ap2 ap3 HLM.out HLO.out HLF.out; have P1 := Lib.hid p1; have P2 := Lib.hid p2; clear p1 p2 ap1 ap2 ap3 ap4))) | go_simp)
              (first | (with_reducible refine hK.out _ _ ?_ ?_) | (go_wp2_with fail; refine hK.out _ _ ?_ ?_))
              (focus (exact trivial))
              clear hK K hHeld
              intro hHeld
              (try simp only [Act.put, List.setIfInBounds_toArray, List.set_cons_zero, List.set_cons_succ])
              (refine takeL (i := 9) (v := ?_) rfl (by kernel_rfl) (by decide +kernel) (by decide +kernel) (fun _ _ _ h => h) (Or.inl ⟨by rfl, ?_⟩) (by assumption) ?_; rotate_left; (focus (intro w9 hS9; (try dsimp only at hS9); go_simp; (try with_reducible rfl); done)))
              (try simp only [Act.put, List.setIfInBounds_toArray, List.set_cons_zero, List.set_cons_succ])
              (refine takeL (i := 10) (v := ?_) rfl (by kernel_rfl) (by decide +kernel) (by decide +kernel) (fun _ _ _ h => h) (Or.inl ⟨by rfl, ?_⟩) (by assumption) ?_; rotate_left; (focus (intro w9 hS9; (try dsimp only at hS9); go_simp; (try with_reducible rfl); done)))
              (try simp only [Act.put, List.setIfInBounds_toArray, List.set_cons_zero, List.set_cons_succ])
              (refine takeL (i := 11) (v := ?_) rfl (by kernel_rfl) (by decide +kernel) (by decide +kernel) (fun _ _ _ h => h) (Or.inl ⟨by rfl, ?_⟩) (by assumption) ?_; rotate_left; (focus (intro w9 hS9; (try dsimp only at hS9); go_simp; (try with_reducible rfl); done)))
              (try simp only [Act.put, List.setIfInBounds_toArray, List.set_cons_zero, List.set_cons_succ])
              refine wpAnyH_ready (rs := [12]) (by decide +kernel) (by simp) ?_
              refine consL rfl (fun K hK => ?_) ?_
              ·(first | fail | (go_simp; first | done | (first | fail)) | go_simp)
               (first | (with_reducible refine hK.out _ _ ?_ ?_) | (go_wp2_with fail; refine hK.out _ _ ?_ ?_))
               (focus (exact trivial))
               clear hK K hHeld
               intro hHeld
               (try simp only [Act.put, List.setIfInBounds_toArray, List.set_cons_zero, List.set_cons_succ])
               refine wpAnyH_done (by decide +kernel) ?_ _
               go_wp2_with fail
               go_end0
               obtain rfl := HV.out
               exact ⟨rfl, ((HN4.out.toM (Y := [pb, sb, xb, yb]) H0.out.st.sz (by simp)).drew.trans HM5.out).drew.trans P2.out, _, _, P1.out, (fun h => by rw [HDR.out] at h; cases h), rfl⟩
              exact AllReadyH.nil
             exact AllReadyH.nil
            exact AllReadyH.nil
           refine consL rfl (fun K hK => ?_) ?_
           ·(first | fail | (go_simp; first | done | (first | fail)) | go_simp)
            (first | (with_reducible refine hK.out _ _ ?_ ?_) | (go_wp2_with fail; refine hK.out _ _ ?_ ?_))
            (focus (exact trivial))
            clear hK K hHeld
            intro hHeld
            (try simp only [Act.put, List.setIfInBounds_toArray, List.set_cons_zero, List.set_cons_succ])
            have e7 := cell_up (below_box w5 (.cells (plV ((a, b, l), (Al, cl))).toArray 76)) v4
            simp only [plV] at e7
            refine wpAnyH_ready (rs := [5]) (by decide +kernel) (by simp) ?_
            refine consL rfl (fun K hK => ?_) ?_
            ·(first | fail | (go_simp; first | done | (first | fail)) | go_simp)
             (first | (with_reducible refine hK.out _ _ ?_ ?_) | (go_wp2_with fail; refine hK.out _ _ ?_ ?_))
             (focus (exact trivial))
             clear hK K hHeld
             intro hHeld
             (try simp only [Act.put, List.setIfInBounds_toArray, List.set_cons_zero, List.set_cons_succ])
             refine wpAnyH_ready (rs := [8]) (by decide +kernel) (by simp) ?_
             refine consL rfl (fun K hK => ?_) ?_
             ·(first | (refine step_append_lies _ rfl _ _ 29 rfl B 76 k0 (.agg #[.int .i64 0, .int .i64 0, .slice none 0 0]) 3 40 Tryz.underlying29 hk hk0 hk1 hk2 rfl (by decide) _ _ _ rfl (HO8.out.alloc _) ⟨_, 0, none⟩ 1 1 (plV ((a, b, l), (Al, cl))) rfl rfl (cells_new _ (plV ((a, b, l), (Al, cl))) _) (by intro u hu; simp only [plV, List.mem_cons, List.not_mem_nil, or_false] at hu; rcases hu with rfl | rfl | rfl <;> rfl) (by decide) (by have := HLM.out; unfold maxLen; omega) (by have := HLM.out; omega) (Nat.le_trans H8.out.sz (by simp)) _ rfl ?_; intro gg cap W9 ap1 ap2 ap3 ap4; obtain ⟨p1, p2, p3, p4⟩ := H8.out.pushQ (a := a) (b := b) (l := l) (Al := Al) (cl := cl) ap1 ap2 ap3 HLM.out HLO.out HLF.out; have P1 := Lib.hid p1; have P2 := Lib.hid p2; clear p1 p2 ap1 ap2 ap3 ap4) | (go_simp; first | done | (first | (refine step_append_lies _ rfl _ _ 29 rfl B 76 k0 (.agg #[.int .i64 0, .int .i64 0, .slice none 0 0]) 3 40 Tryz.underlying29 hk hk0 hk1 hk2 rfl (by decide) _ _ _ rfl (HO8.out.alloc _) ⟨_, 0, none⟩ 1 1 (plV ((a, b, l), (Al, cl))) rfl rfl (cells_new _ (plV ((a, b, l), (Al, cl))) _) (by intro u hu; simp only [plV, List.mem_cons, List.not_mem_nil, or_false] at hu; rcases hu with rfl | rfl | rfl <;> rfl) (by decide) (by have := HLM.out; unfold maxLen; omega) (by have := HLM.out; omega) (Nat.le_trans H8.out.sz (by simp)) _ rfl ?_; intro gg cap W9 ap1 ap2 ap3 ap4; obtain ⟨p1, p2, p3, p4⟩ := H8.out.pushQ (a := a) (b := b) (l := l) (Al := Al) (cl := cl) ap1 ap2 ap3 HLM.out HLO.out HLF.out; have P1 := Lib.hid p1; have P2 := Lib.hid p2; clear p1 p2 ap1 ap2 ap3 ap4))) | go_simp)
              (first | (with_reducible refine hK.out _ _ ?_ ?_) | (go_wp2_with fail; refine hK.out _ _ ?_ ?_))
              (focus (exact trivial))
              clear hK K hHeld
              intro hHeld
              (try simp only [Act.put, List.setIfInBounds_toArray, List.set_cons_zero, List.set_cons_succ])
              (refine takeL (i := 9) (v := ?_) rfl (by kernel_rfl) (by decide +kernel) (by decide +kernel) (fun _ _ _ h => h) (Or.inl ⟨by rfl, ?_⟩) (by assumption) ?_; rotate_left; (focus (intro w9 hS9; (try dsimp only at hS9); go_simp; (try with_reducible rfl); done)))
              (try simp only [Act.put, List.setIfInBounds_toArray, List.set_cons_zero, List.set_cons_succ])
              (refine takeL (i := 10) (v := ?_) rfl (by kernel_rfl) (by decide +kernel) (by decide +kernel) (fun _ _ _ h => h) (Or.inl ⟨by rfl, ?_⟩) (by assumption) ?_; rotate_left; (focus (intro w9 hS9; (try dsimp only at hS9); go_simp; (try with_reducible rfl); done)))
              (try simp only [Act.put, List.setIfInBounds_toArray, List.set_cons_zero, List.set_cons_succ])
              (refine takeL (i := 11) (v := ?_) rfl (by kernel_rfl) (by decide +kernel) (by decide +kernel) (fun _ _ _ h => h) (Or.inl ⟨by rfl, ?_⟩) (by assumption) ?_; rotate_left; (focus (intro w9 hS9; (try dsimp only at hS9); go_simp; (try with_reducible rfl); done)))
              (try simp only [Act.put, List.setIfInBounds_toArray, List.set_cons_zero, List.set_cons_succ])
              refine wpAnyH_ready (rs := [12]) (by decide +kernel) (by simp) ?_
              refine consL rfl (fun K hK => ?_) ?_
              ·(first | fail | (go_simp; first | done | (first | fail)) | go_simp)
               (first | (with_reducible refine hK.out _ _ ?_ ?_) | (go_wp2_with fail; refine hK.out _ _ ?_ ?_))
               (focus (exact trivial))
               clear hK K hHeld
               intro hHeld
               (try simp only [Act.put, List.setIfInBounds_toArray, List.set_cons_zero, List.set_cons_succ])
               refine wpAnyH_done (by decide +kernel) ?_ _
               go_wp2_with fail
               go_end0
               obtain rfl := HV.out
               exact ⟨rfl, ((HN4.out.toM (Y := [pb, sb, xb, yb]) H0.out.st.sz (by simp)).drew.trans HM5.out).drew.trans P2.out, _, _, P1.out, (fun h => by rw [HDR.out] at h; cases h), rfl⟩
              exact AllReadyH.nil
             exact AllReadyH.nil
            exact AllReadyH.nil
           exact AllReadyH.nil
          exact AllReadyH.nil
         exact AllReadyH.nil
        exact AllReadyH.nil
       exact AllReadyH.nil
      exact AllReadyH.nil
end
end Go.Proofs.YtfimacgmciogmaaGreatDoor
