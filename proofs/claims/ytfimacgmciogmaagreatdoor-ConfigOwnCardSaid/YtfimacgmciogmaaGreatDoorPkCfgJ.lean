/-
  config's parser: what holds of the stacks (no program).
  config's parser: expr, value, finish.
  config's parser: value, finish (printed by gen_cfgl.py).
-/
import Derived.Test.YtfimacgmciogmaaGreatDoorPkCfgG
namespace Go.Proofs.YtfimacgmciogmaaGreatDoor
set_option linter.unusedSimpArgs false
set_option linter.unusedVariables false
open Go.RowKit Go.Shelf Go.Sort
def opOk (o : List UInt8) : Prop := o = oOpen ∨ 1 ≤ rankS o
/-- What holds of the stacks: all operations are known ones, each has its operands. -/
structure Inv (ops : List (List UInt8)) (vs : List Int) : Prop where
 ok : ∀ o ∈ ops, opOk o
 ar : binS ops + 1 ≤ vs.length
theorem rank_open : rankS oOpen = 0 := rfl
theorem rank_neg : rankS oNeg = 3 := rfl
theorem combine_inv {dry : Bool} {least : Nat} (hl : 1 ≤ least) : ∀ {ops : List (List UInt8)} {vs : List Int} {os : List (List UInt8)} {us : List Int}, Inv ops vs → combineS dry least ops vs = .ok (os, us) → Inv os us ∧ os.length ≤ ops.length ∧ us.length ≤ vs.length ∧ openS os = openS ops ∧ (∀ o t, os = o :: t → rankS o < least)
 | [], vs, os, us, h, e => by
  simp only [combineS] at e
  injection e with e
  injection e with e1 e2
  subst e1 e2
  exact ⟨h, Nat.le_refl _, Nat.le_refl _, rfl, fun o t e => by cases e⟩
 | o :: ops, vs, os, us, h, e => by
  by_cases hr : rankS o < least
  ·rw [combineS_stop hr] at e
   injection e with e
   injection e with e1 e2
   subst e1 e2
   exact ⟨h, Nat.le_refl _, Nat.le_refl _, rfl, fun o t e => by injection e with e1 _; rw [← e1]; exact hr⟩
  ·have hno : o ≠ oOpen := fun e => by subst e; rw [rank_open] at hr; omega
   have hop : openS ops = openS (o :: ops) := by simp [openS, Ne.symm hno]
   cases vs with
   | nil => exact absurd h.ar (by simp)
   | cons x r =>
   by_cases hn : o = oNeg
   ·subst hn
    rw [combineS_neg hr] at e
    have h' : Inv ops (wrap64 (-x) :: r) := ⟨fun o ho => h.ok o (by simp [ho]), by have := h.ar; simp [binS] at this ⊢; omega⟩
    obtain ⟨q1, q2, q3, q4, q5⟩ := combine_inv hl h' e
    exact ⟨q1, by simp; omega, by simpa using q3, q4.trans hop, q5⟩
   ·have hb : ¬ (o = oNeg ∨ o = oOpen) := fun e => e.elim hn hno
    cases r with
    | nil => exact absurd h.ar (by simp [binS, hb])
    | cons y r =>
    rw [combineS_bin hr hn] at e
    cases hz : operateS dry o y x with
    | error c => rw [hz] at e; cases e
    | ok z =>
     rw [hz] at e
     have h' : Inv ops (z :: r) := ⟨fun o ho => h.ok o (by simp [ho]), by have := h.ar; simp [binS, hb] at this ⊢; omega⟩
     obtain ⟨q1, q2, q3, q4, q5⟩ := combine_inv hl h' e
     exact ⟨q1, by simp; omega, by simp at q3 ⊢; omega, q4.trans hop, q5⟩
theorem factor_inv {dry : Bool} {sy : SymS} : ∀ {ws ops : List (List UInt8)} {vs : List Int} {os : List (List UInt8)} {us : List Int} {r : List (List UInt8)}, (∀ o ∈ ops, opOk o) → factorS dry sy ws ops vs = .ok ((os, us), r) → (∀ o ∈ os, opOk o) ∧ binS os = binS ops ∧ us.length = vs.length + 1 ∧ r.length + 1 ≤ ws.length ∧ os.length + r.length + 1 ≤ ops.length + ws.length
 | [], _, _, _, _, _, _, e => by cases e
 | w :: t, ops, vs, os, us, r, h, e => by
  simp only [factorS] at e
  split at e
  ·obtain ⟨q1, q2, q3, q4, q5⟩ := factor_inv (fun o ho => by
    rcases List.mem_cons.1 ho with rfl | ho
    ·exact .inl rfl
    ·exact h o ho) e
   exact ⟨q1, by simpa [binS] using q2, q3, by simp; omega, by simp at q5 ⊢; omega⟩
  ·split at e
   ·obtain ⟨q1, q2, q3, q4, q5⟩ := factor_inv (fun o ho => by
     rcases List.mem_cons.1 ho with rfl | ho
     ·exact .inr (by rw [rank_neg]; omega)
     ·exact h o ho) e
    exact ⟨q1, by simpa [binS] using q2, q3, by simp; omega, by simp at q5 ⊢; omega⟩
   ·split at e
    ·injection e with e
     injection e with e1 e2
     injection e1 with e1 e3
     subst e1 e2 e3
     exact ⟨h, rfl, by simp, by simp, by simp; omega⟩
    ·cases hu : useS dry sy 3 (w :: t) with
     | error c => rw [hu] at e; cases e
     | ok p =>
      obtain ⟨v, r'⟩ := p
      rw [hu] at e
      injection e with e
      injection e with e1 e2
      injection e1 with e1 e3
      subst e1 e2 e3
      simp only [useS] at hu
      split at hu
      ·cases hv : useOf dry 3 (lookS sy w) with
       | error c => rw [hv] at hu; cases hu
       | ok v' =>
        rw [hv] at hu
        injection hu with hu
        injection hu with _ hu
        subst hu
        exact ⟨h, rfl, by simp, by simp, by simp; omega⟩
      ·cases hu
/-- What a closing parenthesis finds. -/
theorem open_head {os : List (List UInt8)} {us : List Int} (h : Inv os us) (ho : openS os = true) (hr : ∀ o t, os = o :: t → rankS o < 1) : ∃ t, os = oOpen :: t := by
 cases os with
 | nil => cases ho
 | cons o t =>
  refine ⟨t, ?_⟩
  have := hr o t rfl
  rcases h.ok o (by simp) with e | e
  ·rw [e]
  ·omega
theorem Inv.tail {t : List (List UInt8)} {us : List Int} (h : Inv (oOpen :: t) us) : Inv t us := ⟨fun o ho => h.ok o (by simp [ho]), by have := h.ar; simpa [binS] using this⟩
theorem closeS_no {dry : Bool} {ws ops : List (List UInt8)} {vs : List Int} (h : openS ops = false ∨ (peekS ws == oClose) = false) : closeS dry ws ops vs = .ok ((ops, vs), ws) := by
 cases ws with
 | nil => rfl
 | cons w r =>
  simp only [closeS]
  rw [if_neg]
  rintro ⟨h1, h2⟩
  rcases h with h | h
  ·rw [h1] at h; cases h
  ·simp [peekS] at h; exact h h2
theorem closeS_yes {dry : Bool} {r ops : List (List UInt8)} {vs : List Int} (h : openS ops = true) : closeS dry (oClose :: r) ops vs = (match combineS dry 1 ops vs with | .ok (os, vs') => closeS dry r (os.drop 1) vs' | .error e => .error e) := by
 simp only [closeS]
 rw [if_pos ⟨h, trivial⟩]
 cases combineS dry 1 ops vs <;> rfl
end Go.Proofs.YtfimacgmciogmaaGreatDoor
namespace Go.Proofs.YtfimacgmciogmaaGreatDoor
set_option linter.unusedSimpArgs false
set_option linter.unusedVariables false
open Go.RowKit Go.Shelf Go.Sort
section
variable {dry : Bool} {sy : SymS} {f : Nat} {ws ops o1 o2 o3 r1 r2 : List (List UInt8)} {vs v1 v2 v3 : List Int} {e : Int}
theorem exprF_e1 (h1 : factorS dry sy ws ops vs = .error e) : exprF dry sy (f + 1) ws ops vs = .error e := by simp only [exprF, h1]
theorem exprF_e2 (h1 : factorS dry sy ws ops vs = .ok ((o1, v1), r1)) (h2 : closeS dry r1 o1 v1 = .error e) : exprF dry sy (f + 1) ws ops vs = .error e := by simp only [exprF, h1, h2]
theorem exprF_end (h1 : factorS dry sy ws ops vs = .ok ((o1, v1), r1)) (h2 : closeS dry r1 o1 v1 = .ok ((o2, v2), r2)) (h3 : rankS (peekS r2) = 0) : exprF dry sy (f + 1) ws ops vs = (match endS dry o2 v2 with | .ok v => .ok (v, r2) | .error e => .error e) := by
 simp only [exprF, h1, h2, h3, if_true]
 cases endS dry o2 v2 <;> rfl
theorem exprF_e3 (h1 : factorS dry sy ws ops vs = .ok ((o1, v1), r1)) (h2 : closeS dry r1 o1 v1 = .ok ((o2, v2), r2)) (h3 : ¬ rankS (peekS r2) = 0) (h4 : combineS dry (rankS (peekS r2)) o2 v2 = .error e) : exprF dry sy (f + 1) ws ops vs = .error e := by
 simp only [exprF, h1, h2, if_neg h3, h4]
theorem exprF_go (h1 : factorS dry sy ws ops vs = .ok ((o1, v1), r1)) (h2 : closeS dry r1 o1 v1 = .ok ((o2, v2), r2)) (h3 : ¬ rankS (peekS r2) = 0) (h4 : combineS dry (rankS (peekS r2)) o2 v2 = .ok (o3, v3)) : exprF dry sy (f + 1) ws ops vs = exprF dry sy f (r2.drop 1) (peekS r2 :: o3) v3 := by
 simp only [exprF, h1, h2, if_neg h3, h4]
end
theorem SK.vbot {stb : Nat} {ops : List (List UInt8)} {vs : List Int} {Av Ao : Option Addr} {cv co : Nat} {W : World} (h : SK stb ops vs Av cv Ao co W) (hp : 0 < vs.length) : ∃ g, Av = some ⟨g, 0, none⟩ ∧ W.cell? ⟨g, 0, none⟩ = some (.int .i64 (vs.getLastD 0)) := by
 obtain ⟨n, hn⟩ : ∃ n, vs.length = n + 1 := ⟨vs.length - 1, by omega⟩
 have ho := h.hv
 rw [hn] at ho
 obtain ⟨g, rfl, _⟩ := own_form ho
 refine ⟨g, rfl, (h.hv.cellAt 0 (by omega)).trans ?_⟩
 rw [List.getElem?_map, List.getElem?_reverse hp, List.getLastD_eq_getLast?, List.getLast?_eq_getElem?]
 rw [Nat.sub_zero, List.getElem?_eq_getElem (show vs.length - 1 < vs.length by omega)]
 rfl
theorem PS.below_stacks {pb : Nat} {k : List Value} {A : Option Addr} {cw : Nat} {all : List (List UInt8)} {dry : Bool} {sb : Nat} {sy : SymS} {rest : List (List UInt8)} {W : World} (h : PS pb k A cw all dry sb sy rest W) : PB W.heap.size pb A sb := ⟨h.lt, h.sm.lt, fun b o s e => (h.aw b o s e).2⟩
theorem SK.made (W : World) : SK W.heap.size [] [] none 0 none 0 (W.alloc (.cells #[.slice none 0 0, .slice none 0 0] 138)) :=
 ⟨heap_alloc_new W _, World.ownsRow_nil _ _ _ _, World.ownsRow_nil _ _ _ _, (fun g e => by cases e), (fun v h => by cases h)⟩
section
variable {stb pb : Nat} {k : List Value} {A : Option Addr} {cw : Nat} {all : List (List UInt8)} {dry : Bool} {sb : Nat} {sy : SymS} {rest : List (List UInt8)} {W : World}
theorem cfg_combine1 {ops : List (List UInt8)} {vs : List Int} {Av Ao : Option Addr} {cv co : Nat} (hp : PS pb k A cw all dry sb sy rest W) (hB : PB stb pb A sb) (h : SK stb ops vs Av cv Ao co W) (ho : ops.length ≤ 100000) (hv : vs.length ≤ 100000) (hi : Inv ops vs) :
  Calls Tryz.prog 80 #[.pointer (some ⟨pb, 0, none⟩), .pointer (some ⟨stb, 0, none⟩), .int .i64 1] W (RetCmb stb (combineS dry 1 ops vs) W) := cfg_combine hp hB h (Nat.le_refl _) ho hv hi.ar
/-- What stands behind one factor. -/
def Mid (L : Nat) (ws os : List (List UInt8)) (us : List Int) : Prop := Inv os us ∧ os.length + ws.length ≤ L ∧ us.length + ws.length ≤ L
set_option maxHeartbeats 16000000 in
set_option maxRecDepth 100000 in
theorem cfg_expr (h : PS pb k A cw all dry sb sy rest W) (hs : ∀ x ∈ sy, inI x.2.2) : Calls Tryz.prog 66 #[.pointer (some ⟨pb, 0, none⟩)] W (RetP pb k A cw all dry sb sy encI W (exprS dry sy rest)) := by
 obtain ⟨V, hV⟩ : ∃ V, V = exprS dry sy rest := ⟨_, rfl⟩
 rw [← hV]
 have hrl : rest.length ≤ 10000 := Nat.le_trans h.len h.al.1
 obtain ⟨i0, hi, hz0, hz1, hz2⟩ := info_parts strInfo'
 have HV : Hid (V = exprF dry sy (rest.length + 1) rest [] []) := Lib.hid hV
 have HP0 := Lib.hid h
 have HSY := Lib.hid hs
 have HB := Lib.hid h.below_stacks
 have HP := Lib.hid (h.up (below_box W (.cells #[.slice none 0 0, .slice none 0 0] 138)))
 have HS := Lib.hid (SK.made W)
 have HL : Hid (LoP W.heap.size [pb] W (W.alloc (.cells #[.slice none 0 0, .slice none 0 0] 138))) := Lib.hid (LoN.below (below_box W _))
 have HM : Hid (rest.length < rest.length + 1 ∧ (∀ o ∈ ([] : List (List UInt8)), opOk o) ∧ binS [] ≤ ([] : List Int).length ∧ ([] : List (List UInt8)).length + rest.length ≤ 10000 ∧ ([] : List Int).length + rest.length ≤ 10000) := Lib.hid ⟨by omega, (fun o h => by cases h), by simp [binS], by simpa using hrl, by simpa using hrl⟩
 clear hV h hs hrl
 go_enter Tryz.func66, Tryz.ntmps66
 go_wp2
 go_loopw [] (fun wr => ∃ (f : Nat) (os ws : List (List UInt8)) (us : List Int) (Av1 : Option Addr) (cv1 : Nat) (Ao1 : Option Addr) (co1 : Nat), Hid (PS pb k A cw all dry sb sy ws wr) ∧ Hid (SK W.heap.size os us Av1 cv1 Ao1 co1 wr) ∧ Hid (LoP W.heap.size [pb] W wr) ∧ Hid (V = exprF dry sy f ws os us) ∧ Hid (ws.length < f ∧ (∀ o ∈ os, opOk o) ∧ binS os ≤ us.length ∧ os.length + ws.length ≤ 10000 ∧ us.length + ws.length ≤ 10000)) (fun wr => leftOf pb all.length wr)
 case atStart => exact ⟨_, _, _, _, _, _, _, _, HP, HS, HL, HV, HM⟩
 case round =>
  clear HP HS HL HV HM
  obtain ⟨f, os, ws, us, Av1, cv1, Ao1, co1, HP, HS, HL, HV, HM⟩ := hrel
  obtain ⟨f, rfl⟩ : ∃ f', f = f' + 1 := ⟨f - 1, by have := HM.out.1; omega⟩
  have HF := Lib.hid (cfg_factor HP.out HB.out HS.out HSY.out (by have := HM.out; omega))
  obtain ⟨U, hU⟩ : ∃ U, U = factorS dry sy ws os us := ⟨_, rfl⟩
  rw [← hU] at HF
  have HU := Lib.hid hU
  have HLEFT : Hid (leftOf pb all.length wr = ws.length) := Lib.hid HP.out.left
  clear hU
  cases U with
  | error c =>
   have HR : Hid (V = .error c) := Lib.hid (HV.out.trans (exprF_e1 HU.out.symm))
   go_wp2_with (go_at_call 78; (with_reducible refine HF.out.mono ?_); rintro e w1 ⟨rfl, hl1⟩)
   refine ⟨rfl, ?_⟩
   rw [HR.out]
   exact ⟨rfl, HL.out.trans hl1⟩
  | ok p =>
   obtain ⟨⟨o1, v1⟩, r1⟩ := p
   have HFI := Lib.hid (factor_inv HM.out.2.1 HU.out.symm)
   have HI1 : Hid (Mid 10000 r1 o1 v1 ∧ r1.length < ws.length) := Lib.hid (by
    have a := HFI.out
    have b := HM.out
    exact ⟨⟨⟨a.1, by omega⟩, by omega, by omega⟩, by omega⟩)
   clear HFI
   go_wp2_with (go_at_call 78; (with_reducible refine HF.out.mono ?_); rintro e w1 ⟨rfl, hp1, hl1, Av2, cv2, Ao2, co2, hs1⟩; have HP1 := Lib.hid hp1; have HS1 := Lib.hid hs1; have HL1 := Lib.hid (HL.out.trans hl1); clear hp1 hl1 hs1)
   have HF2 : Hid (r1.length < ws.length ∧ (∀ c, closeS dry r1 o1 v1 = .error c → V = .error c) ∧ (∀ c, factorS dry sy ws os us = .error c → V = .error c)) := Lib.hid ⟨HI1.out.2, fun c h => HV.out.trans (exprF_e2 HU.out.symm h), fun c h => HV.out.trans (exprF_e1 h)⟩
   obtain ⟨CL, hCL⟩ : ∃ CL, CL = closeS dry r1 o1 v1 := ⟨_, rfl⟩
   have HCL := Lib.hid hCL
   clear hCL
   go_loopw [] (fun wq => ∃ (ps qs : List (List UInt8)) (us2 : List Int) (Av2 : Option Addr) (cv2 : Nat) (Ao2 : Option Addr) (co2 : Nat), Hid (PS pb k A cw all dry sb sy qs wq) ∧ Hid (SK W.heap.size ps us2 Av2 cv2 Ao2 co2 wq) ∧ Hid (LoP W.heap.size [pb] W wq) ∧ Hid (CL = closeS dry qs ps us2) ∧ Hid (Mid 10000 qs ps us2 ∧ qs.length < ws.length)) (fun wq => leftOf pb all.length wq)
   case atStart => exact ⟨_, _, _, _, _, _, _, HP1, HS1, HL1, HCL, HI1⟩
   case round =>
    rename World => wq
    clear HP1 HS1 HL1 HI1
    obtain ⟨ps, qs, us2, Av2, cv2, Ao2, co2, HP2, HS2, HL2, HC2, HI2⟩ := hrel
    have HZ2 := Lib.hid (Nat.le_of_lt HS2.out.lt)
    have HO := Lib.hid (cfg_open HS2.out (by have := HI2.out.1.2; omega))
    by_cases hop : openS ps = true ∧ peekS qs = oClose
    ·obtain ⟨ho, hq⟩ := hop
     obtain ⟨r, rfl⟩ : ∃ r, qs = [41] :: r := by
      cases qs with
      | nil => cases hq
      | cons w r => exact ⟨r, by rw [show w = oClose from hq]; rfl⟩
     rw [ho] at HO
     have HCY := Lib.hid (HC2.out.trans (closeS_yes ho))
     have HOP := Lib.hid ho
     clear hq ho HC2
     have HLQ : Hid (leftOf pb all.length wq = r.length + 1) := Lib.hid HP2.out.left
     have HCB := Lib.hid (fun (w9 : World) (hp : PS pb k A cw all dry sb sy r w9) (h : SK W.heap.size ps us2 Av2 cv2 Ao2 co2 w9) => cfg_combine1 hp HB.out h (by have := HI2.out.1.2; omega) (by have := HI2.out.1.2; omega) HI2.out.1.1)
     obtain ⟨K, hK⟩ : ∃ K, K = combineS dry 1 ps us2 := ⟨_, rfl⟩
     rw [← hK] at HCB HCY
     have HK := Lib.hid hK
     clear hK
     cases K with
     | error c =>
      have HR : Hid (V = .error c) := Lib.hid (HF2.out.2.1 c (HCL.out.symm.trans HCY.out))
      go_wp2_with (first | (go_at_call 79; (with_reducible refine HO.out.mono ?_); rintro e w9 ⟨rfl, rfl⟩) | (go_at_call 62; (with_reducible refine (cfg_peek HP2.out).mono ?_); rintro e w2 ⟨rfl, hb2⟩; replace HS2 := Lib.hid (HS2.out.loN (HP2.out.up_lo hb2) HB.out.p); replace HL2 := Lib.hid (HL2.out.trans (LoP.ofN (HP2.out.up_lo hb2) HZ2.out)); replace HP2 := Lib.hid (HP2.out.up hb2); replace HZ2 := Lib.hid (Nat.le_of_lt HS2.out.lt); clear hb2; simp only [peekS, List.headD_cons]) | (go_at_call 63; (with_reducible refine (cfg_next HP2.out).mono ?_); rintro e w3 ⟨rfl, hp3, hl3⟩; simp only [encS]; have HP3 := Lib.hid hp3; have HS3 := Lib.hid (HS2.out.loN hl3 HB.out.p); have HL3 := Lib.hid (HL2.out.trans (LoP.ofN hl3 HZ2.out)); clear hp3 hl3) | (go_at_call 80; (with_reducible refine (HCB.out _ HP3.out HS3.out).mono ?_); rintro e w4 ⟨rfl, hl4⟩; have HL4 := Lib.hid (HL3.out.trans (LoP.ofZ hl4)); clear hl4))
      refine ⟨rfl, ?_⟩
      rw [HR.out]
      exact ⟨rfl, HL4.out⟩
     | ok p =>
      obtain ⟨os', us'⟩ := p
      obtain ⟨n1, n2, n3, n4, n5⟩ := combine_inv (Nat.le_refl 1) HI2.out.1.1 HK.out.symm
      obtain ⟨t, rfl⟩ := open_head n1 (n4.trans HOP.out) n5
      have HM' : Hid (Mid 10000 r t us' ∧ r.length < ws.length) := Lib.hid (by have a := HI2.out; unfold Mid at a ⊢; simp only [List.length_cons] at a n2; exact ⟨⟨n1.tail, by omega, by omega⟩, by omega⟩)
      have HCN : Hid (CL = closeS dry r t us') := Lib.hid HCY.out
      have htl : t.length ≤ 10000 := by have := HM'.out.1.2; omega
      clear n1 n2 n3 n4 n5 HCY HI2
      go_wp2_with (first | (go_at_call 79; (with_reducible refine HO.out.mono ?_); rintro e w9 ⟨rfl, rfl⟩) | (go_at_call 62; (with_reducible refine (cfg_peek HP2.out).mono ?_); rintro e w2 ⟨rfl, hb2⟩; replace HS2 := Lib.hid (HS2.out.loN (HP2.out.up_lo hb2) HB.out.p); replace HL2 := Lib.hid (HL2.out.trans (LoP.ofN (HP2.out.up_lo hb2) HZ2.out)); replace HP2 := Lib.hid (HP2.out.up hb2); replace HZ2 := Lib.hid (Nat.le_of_lt HS2.out.lt); clear hb2; simp only [peekS, List.headD_cons]) | (go_at_call 63; (with_reducible refine (cfg_next HP2.out).mono ?_); rintro e w3 ⟨rfl, hp3, hl3⟩; simp only [encS]; have HP3 := Lib.hid hp3; have HS3 := Lib.hid (HS2.out.loN hl3 HB.out.p); have HL3 := Lib.hid (HL2.out.trans (LoP.ofN hl3 HZ2.out)); clear hp3 hl3) | (go_at_call 80; (with_reducible refine (HCB.out _ HP3.out HS3.out).mono ?_); rintro e w4 ⟨rfl, hl4, Av4, cv4, Ao4, co4, hs4⟩; have HS4 := Lib.hid hs4; have HL4 := Lib.hid (HL3.out.trans (LoP.ofZ hl4)); have HP4 := Lib.hid (HP3.out.onB HB.out hl4); obtain ⟨go, rfl, c0, gne, q0⟩ := HS4.out.otop; obtain ⟨b0, b1, bf⟩ := HS4.out.cells; simp only [List.length_cons] at b1; clear hl4 hs4))
      go_roundw
      case rel => exact ⟨_, _, _, _, _, _, _, Lib.hid (HP4.out.onB HB.out (HS4.out.lo1 _ _)), Lib.hid HS4.out.opop, Lib.hid (HL4.out.trans (LoP.ofZ (HS4.out.lo1 _ _))), HCN, HM'⟩
      case measure =>
       rw [HLQ.out, (HP4.out.onB HB.out (HS4.out.lo1 1 (.slice (some ⟨go, 0, none⟩) t.length co4))).left]
       omega
    ·have hor : openS ps = false ∨ (openS ps = true ∧ (peekS qs == [41]) = false) := by
      cases ho : openS ps with
      | false => exact .inl rfl
      | true => exact .inr ⟨rfl, by rw [beq_eq_false_iff_ne]; exact fun e => hop ⟨ho, e⟩⟩
     have HCC := Lib.hid (HCL.out.symm.trans (HC2.out.trans (closeS_no (hor.imp id (fun h => h.2)))))
     clear hop HC2
     by_cases hr : rankS (peekS qs) = 0
     ·have HRK : Hid (∀ w9, Calls Tryz.prog 81 #[.string ⟨(peekS qs).toArray⟩] w9 fun e w' => e = .returned (.int .i64 0) ∧ w9 = w') := Lib.hid (by have := cfg_rank (peekS qs); rw [hr] at this; exact this)
      have HEN := Lib.hid (HV.out.trans (exprF_end HU.out.symm HCC.out hr))
      clear hr
      have HCB := Lib.hid (fun (w9 : World) (hp : PS pb k A cw all dry sb sy qs w9) (h : SK W.heap.size ps us2 Av2 cv2 Ao2 co2 w9) => cfg_combine1 hp HB.out h (by have := HI2.out.1.2; omega) (by have := HI2.out.1.2; omega) HI2.out.1.1)
      obtain ⟨K, hK⟩ : ∃ K, K = combineS dry 1 ps us2 := ⟨_, rfl⟩
      rw [← hK] at HCB
      have HK := Lib.hid hK
      clear hK
      cases K with
      | error c =>
       have HR : Hid (V = .error c) := Lib.hid (HEN.out.trans (by simp only [endS, ← HK.out]))
       clear HEN
       rcases hor with ho | ⟨ho, hq⟩
       all_goals
        rw [ho] at HO
        clear ho
        go_wp2_with (first | (go_at_call 79; (with_reducible refine HO.out.mono ?_); rintro e w9 ⟨rfl, rfl⟩) | (go_at_call 62; (with_reducible refine (cfg_peek HP2.out).mono ?_); rintro e w2 ⟨rfl, hb2⟩; replace HS2 := Lib.hid (HS2.out.loN (HP2.out.up_lo hb2) HB.out.p); replace HL2 := Lib.hid (HL2.out.trans (LoP.ofN (HP2.out.up_lo hb2) HZ2.out)); replace HP2 := Lib.hid (HP2.out.up hb2); replace HZ2 := Lib.hid (Nat.le_of_lt HS2.out.lt); clear hb2) | (go_at_call 81; (with_reducible refine (HRK.out _).mono ?_); rintro e w9 ⟨rfl, rfl⟩) | (go_at_call 80; (with_reducible refine (HCB.out _ HP2.out HS2.out).mono ?_); rintro e w4 ⟨rfl, hl4⟩; have HL4 := Lib.hid (HL2.out.trans (LoP.ofZ hl4)); clear hl4))
        refine ⟨rfl, ?_⟩
        rw [HR.out]
        exact ⟨rfl, HL4.out⟩
      | ok p =>
       obtain ⟨os', us'⟩ := p
       have HIV : Hid (0 < us'.length) := Lib.hid (by have := (combine_inv (Nat.le_refl 1) HI2.out.1.1 HK.out.symm).1.ar; omega)
       cases os' with
       | nil =>
        obtain ⟨z, hz⟩ : ∃ z, z = us'.getLastD 0 := ⟨_, rfl⟩
        have HZZ := Lib.hid hz
        have HR : Hid (V = .ok (z, qs)) := Lib.hid (HEN.out.trans (by simp only [endS, ← HK.out, if_true]; rw [HZZ.out]))
        clear hz
        clear HEN
        have hi0 : 0 < us'.length := HIV.out
        rcases hor with ho | ⟨ho, hq⟩
        all_goals
         rw [ho] at HO
         clear ho
         go_wp2_with (first | (go_at_call 79; (with_reducible refine HO.out.mono ?_); rintro e w9 ⟨rfl, rfl⟩) | (go_at_call 62; (with_reducible refine (cfg_peek HP2.out).mono ?_); rintro e w2 ⟨rfl, hb2⟩; replace HS2 := Lib.hid (HS2.out.loN (HP2.out.up_lo hb2) HB.out.p); replace HL2 := Lib.hid (HL2.out.trans (LoP.ofN (HP2.out.up_lo hb2) HZ2.out)); replace HP2 := Lib.hid (HP2.out.up hb2); replace HZ2 := Lib.hid (Nat.le_of_lt HS2.out.lt); clear hb2) | (go_at_call 81; (with_reducible refine (HRK.out _).mono ?_); rintro e w9 ⟨rfl, rfl⟩) | (go_at_call 80; (with_reducible refine (HCB.out _ HP2.out HS2.out).mono ?_); rintro e w4 ⟨rfl, hl4, Av4, cv4, Ao4, co4, hs4⟩; have HS4 := Lib.hid hs4; have HL4 := Lib.hid (HL2.out.trans (LoP.ofZ hl4)); have HP4 := Lib.hid (HP2.out.onB HB.out hl4); obtain ⟨b0, b1, bf⟩ := HS4.out.cells; obtain ⟨gv, rfl, q0⟩ := HS4.out.vbot HIV.out; rw [← HZZ.out] at q0; clear hl4 hs4) | (go_at_call 40; refine (cfg_grammar_ok _ _).mono ?_; rintro e w5 ⟨rfl, rfl⟩))
         go_ret
         rw [HR.out]
         exact ⟨rfl, HP4.out, HL4.out⟩
       | cons o t =>
        have HR : Hid (V = .error 3) := Lib.hid (HEN.out.trans (by simp only [endS, ← HK.out]; rw [if_neg (by simp)]))
        clear HEN
        have hcl : (((t.length + 1 : Nat) : Int) == 0) = false := by rw [beq_eq_false_iff_ne]; omega
        rcases hor with ho | ⟨ho, hq⟩
        all_goals
         rw [ho] at HO
         clear ho
         go_wp2_with (first | (go_at_call 79; (with_reducible refine HO.out.mono ?_); rintro e w9 ⟨rfl, rfl⟩) | (go_at_call 62; (with_reducible refine (cfg_peek HP2.out).mono ?_); rintro e w2 ⟨rfl, hb2⟩; replace HS2 := Lib.hid (HS2.out.loN (HP2.out.up_lo hb2) HB.out.p); replace HL2 := Lib.hid (HL2.out.trans (LoP.ofN (HP2.out.up_lo hb2) HZ2.out)); replace HP2 := Lib.hid (HP2.out.up hb2); replace HZ2 := Lib.hid (Nat.le_of_lt HS2.out.lt); clear hb2) | (go_at_call 81; (with_reducible refine (HRK.out _).mono ?_); rintro e w9 ⟨rfl, rfl⟩) | (go_at_call 80; (with_reducible refine (HCB.out _ HP2.out HS2.out).mono ?_); rintro e w4 ⟨rfl, hl4, Av4, cv4, Ao4, co4, hs4⟩; have HS4 := Lib.hid hs4; have HL4 := Lib.hid (HL2.out.trans (LoP.ofZ hl4)); have HP4 := Lib.hid (HP2.out.onB HB.out hl4); obtain ⟨b0, b1, bf⟩ := HS4.out.cells; clear hl4 hs4) | (go_at_call 40; refine (cfg_grammar_no _ _).mono ?_; rintro e w5 ⟨rfl, rfl⟩))
         refine ⟨rfl, ?_⟩
         rw [HR.out]
         exact ⟨rfl, HL4.out⟩
     ·obtain ⟨x, r, rfl⟩ : ∃ x r, qs = x :: r := by
       cases qs with
       | nil => exact absurd rfl hr
       | cons w r => exact ⟨w, r, rfl⟩
      simp only [peekS, List.headD_cons] at hor
      have hrx : ¬ rankS x = 0 := hr
      have HRX := Lib.hid hrx
      have HRK := Lib.hid (fun w9 => cfg_rank x w9)
      have hrn : ((rankS x : Int) == 0) = false := by rw [beq_eq_false_iff_ne]; omega
      have HE3 := Lib.hid (fun c (h : combineS dry (rankS x) ps us2 = .error c) => HV.out.trans (exprF_e3 HU.out.symm HCC.out hr h))
      have HGO := Lib.hid (fun os3 us3 (h : combineS dry (rankS x) ps us2 = .ok (os3, us3)) => HV.out.trans (exprF_go HU.out.symm HCC.out hr h))
      have HCB := Lib.hid (fun (w9 : World) (hp : PS pb k A cw all dry sb sy r w9) (h : SK W.heap.size ps us2 Av2 cv2 Ao2 co2 w9) => cfg_combine (least := rankS x) hp HB.out h (by omega) (by have := HI2.out.1.2; omega) (by have := HI2.out.1.2; omega) HI2.out.1.1.ar)
      clear hr hrx
      obtain ⟨K, hK⟩ : ∃ K, K = combineS dry (rankS x) ps us2 := ⟨_, rfl⟩
      rw [← hK] at HCB
      have HK := Lib.hid hK
      clear hK
      cases K with
      | error c =>
       have HR : Hid (V = .error c) := Lib.hid (HE3.out c HK.out.symm)
       clear HE3 HGO
       rcases hor with ho | ⟨ho, hq⟩
       all_goals
        rw [ho] at HO
        clear ho
        go_wp2_with (first | (go_at_call 79; (with_reducible refine HO.out.mono ?_); rintro e w9 ⟨rfl, rfl⟩) | (go_at_call 62; (with_reducible refine (cfg_peek HP2.out).mono ?_); rintro e w2 ⟨rfl, hb2⟩; replace HS2 := Lib.hid (HS2.out.loN (HP2.out.up_lo hb2) HB.out.p); replace HL2 := Lib.hid (HL2.out.trans (LoP.ofN (HP2.out.up_lo hb2) HZ2.out)); replace HP2 := Lib.hid (HP2.out.up hb2); replace HZ2 := Lib.hid (Nat.le_of_lt HS2.out.lt); clear hb2; simp only [peekS, List.headD_cons]) | (go_at_call 81; (with_reducible refine (HRK.out _).mono ?_); rintro e w9 ⟨rfl, rfl⟩) | (go_at_call 63; (with_reducible refine (cfg_next HP2.out).mono ?_); rintro e w3 ⟨rfl, hp3, hl3⟩; simp only [encS]; have HP3 := Lib.hid hp3; have HS3 := Lib.hid (HS2.out.loN hl3 HB.out.p); have HL3 := Lib.hid (HL2.out.trans (LoP.ofN hl3 HZ2.out)); clear hp3 hl3) | (go_at_call 80; (with_reducible refine (HCB.out _ HP3.out HS3.out).mono ?_); rintro e w4 ⟨rfl, hl4⟩; have HL4 := Lib.hid (HL3.out.trans (LoP.ofZ hl4)); clear hl4))
        refine ⟨rfl, ?_⟩
        rw [HR.out]
        exact ⟨rfl, HL4.out⟩
      | ok p =>
       obtain ⟨os', us'⟩ := p
       have HR : Hid (V = exprF dry sy f r (x :: os') us') := Lib.hid (HGO.out _ _ HK.out.symm)
       obtain ⟨n1, n2, n3, n4, n5⟩ := combine_inv (least := rankS x) (by have := HRX.out; omega) HI2.out.1.1 HK.out.symm
       have HM4 : Hid (os'.length + r.length + 1 ≤ 10000 ∧ us'.length + r.length + 1 ≤ 10000 ∧ r.length + 1 < ws.length) := Lib.hid (by have a := HI2.out; unfold Mid at a; simp only [List.length_cons] at a; omega)
       have HM' : Hid (r.length < f ∧ (∀ o ∈ x :: os', opOk o) ∧ binS (x :: os') ≤ us'.length ∧ (x :: os').length + r.length ≤ 10000 ∧ us'.length + r.length ≤ 10000) := Lib.hid (by
        have a := HM4.out
        have b := HM.out.1
        refine ⟨by omega, ?_, ?_, by simp only [List.length_cons]; omega, by omega⟩
        ·intro o ho
         rcases List.mem_cons.1 ho with rfl | ho
         ·exact .inr (by have := HRX.out; omega)
         ·exact n1.ok o ho
        ·have := n1.ar
         simp only [binS]
         split <;> omega)
       clear n1 n2 n3 n4 n5 HE3 HGO HI2
       rcases hor with ho | ⟨ho, hq⟩
       all_goals
        rw [ho] at HO
        clear ho
        go_wp2_with (first | (go_at_call 79; (with_reducible refine HO.out.mono ?_); rintro e w9 ⟨rfl, rfl⟩) | (go_at_call 62; (with_reducible refine (cfg_peek HP2.out).mono ?_); rintro e w2 ⟨rfl, hb2⟩; replace HS2 := Lib.hid (HS2.out.loN (HP2.out.up_lo hb2) HB.out.p); replace HL2 := Lib.hid (HL2.out.trans (LoP.ofN (HP2.out.up_lo hb2) HZ2.out)); replace HP2 := Lib.hid (HP2.out.up hb2); replace HZ2 := Lib.hid (Nat.le_of_lt HS2.out.lt); clear hb2; simp only [peekS, List.headD_cons]) | (go_at_call 81; (with_reducible refine (HRK.out _).mono ?_); rintro e w9 ⟨rfl, rfl⟩) | (go_at_call 63; (with_reducible refine (cfg_next HP2.out).mono ?_); rintro e w3 ⟨rfl, hp3, hl3⟩; simp only [encS]; have HP3 := Lib.hid hp3; have HS3 := Lib.hid (HS2.out.loN hl3 HB.out.p); have HL3 := Lib.hid (HL2.out.trans (LoP.ofN hl3 HZ2.out)); clear hp3 hl3) | (go_at_call 80; (with_reducible refine (HCB.out _ HP3.out HS3.out).mono ?_); rintro e w4 ⟨rfl, hl4, Av4, cv4, Ao4, co4, hs4⟩; have HS4 := Lib.hid hs4; have HL4 := Lib.hid (HL3.out.trans (LoP.ofZ hl4)); have HP4 := Lib.hid (HP3.out.onB HB.out hl4); obtain ⟨b0, b1, bf⟩ := HS4.out.cells; clear hl4 hs4) | (at_builtin; refine wpList_append_lies _ rfl _ _ 23 rfl (W.heap.size + 1) 9 i0 (.string ⟨#[]⟩) 1 16 Tryz.underlying23 hi hz0 hz1 hz2 rfl (by decide) _ _ _ rfl (HS4.out.ho.alloc _) ⟨_, 0, none⟩ 1 1 [.string ⟨x.toArray⟩] rfl rfl (cell_one_new _ _ _) (by intro u hu; simp at hu; subst hu; rfl) (by decide) (by have := HM4.out; unfold maxLen; omega) (by have := HM4.out; omega) (by have := HS4.out.lt; simp; omega) _ rfl ?_; intro gg cap W9 ap1 ap2 ap3 ap4; obtain ⟨p1, p2, p3, p4⟩ := HS4.out.opush ap1 ap2; have P1 := Lib.hid p1; have P2 := Lib.hid p2; clear p1 p2 ap1 ap2 ap3 ap4))
        go_roundw
        case rel => exact ⟨_, _, _, _, _, _, _, _, Lib.hid (HP4.out.onB HB.out P2.out), P1, Lib.hid (HL4.out.trans (LoP.ofZ P2.out)), HR, HM'⟩
        case measure =>
         rw [HLEFT.out, (HP4.out.onB HB.out P2.out).left]
         have := HM4.out
         omega
end
end Go.Proofs.YtfimacgmciogmaaGreatDoor
namespace Go.Proofs.YtfimacgmciogmaaGreatDoor
set_option linter.unusedSimpArgs false
set_option linter.unusedVariables false
open Go.RowKit Go.Shelf Go.Sort
def finP (dry dup full : Bool) (ws : List (List UInt8)) : PR Bool :=
 match ws with
 | _ :: _ => .error 3
 | [] => match dry, dup, full with
  | true, _, _ => .ok (false, [])
  | false, true, _ => .error 9
  | false, false, true => .error 6
  | false, false, false => .ok (true, [])
section
variable {pb : Nat} {k : List Value} {A : Option Addr} {cw : Nat} {all : List (List UInt8)} {dry : Bool} {sb : Nat} {sy : SymS} {rest : List (List UInt8)} {W : World}
def inLH (lo hi v : Int) : Bool := decide (lo ≤ v) && decide (v ≤ hi)
theorem valueS_ok {lo hi v : Int} {r : List (List UInt8)} (h : exprS dry sy rest = .ok (v, r)) (hk : dry = true ∨ inLH lo hi v = true) : valueS dry sy lo hi rest = .ok (v, r) := by
 unfold valueS
 rw [h]
 simp only
 rw [if_neg]
 rintro ⟨h1, h2⟩
 rcases hk with hk | hk
 ·rw [hk] at h1; cases h1
 ·simp [inLH] at hk; exact h2 hk
theorem valueS_no {lo hi v : Int} {r : List (List UInt8)} (h : exprS false sy rest = .ok (v, r)) (hk : inLH lo hi v = false) : valueS false sy lo hi rest = .error 2 := by
 unfold valueS
 rw [h]
 simp only
 rw [if_pos]
 refine ⟨trivial, fun h2 => ?_⟩
 have : inLH lo hi v = true := by simp [inLH]; exact h2
 rw [this] at hk; cases hk
set_option maxHeartbeats 4000000 in
set_option maxRecDepth 100000 in
theorem cfg_value (h : PS pb k A cw all dry sb sy rest W) (hs : ∀ x ∈ sy, inI x.2.2) (lo hi : Int) : Calls Tryz.prog 64 #[.pointer (some ⟨pb, 0, none⟩), .int .i64 lo, .int .i64 hi] W (RetP pb k A cw all dry sb sy encI W (valueS dry sy lo hi rest)) := by
 have HE := Lib.hid (cfg_expr h hs)
 obtain ⟨V, hV⟩ : ∃ V, V = valueS dry sy lo hi rest := ⟨_, rfl⟩
 rw [← hV]
 obtain ⟨U, hU⟩ : ∃ U, U = exprS dry sy rest := ⟨_, rfl⟩
 rw [← hU] at HE
 have HV := Lib.hid hV
 have HU := Lib.hid hU
 clear hV hU h
 cases U with
 | error c =>
  obtain rfl : V = .error c := HV.out.trans (by unfold valueS; rw [← HU.out])
  go_enter Tryz.func64, Tryz.ntmps64
  go_wp2_with (go_at_call 66; (with_reducible refine HE.out.mono ?_); rintro e w1 ⟨rfl, hl1⟩)
  exact ⟨rfl, rfl, hl1⟩
 | ok p =>
  obtain ⟨v, r⟩ := p
  have HW : Hid (∀ w, Calls Tryz.prog 23 #[.int .i64 v, .int .i64 lo, .int .i64 hi] w fun e w' => e = .returned (.bool (inLH lo hi v)) ∧ w = w') := Lib.hid fun w => cfg_within _ _ _ w
  by_cases hk : dry = true ∨ inLH lo hi v = true
  ·obtain rfl : V = .ok (v, r) := HV.out.trans (valueS_ok HU.out.symm hk)
   have HK := Lib.hid hk
   clear hk
   go_enter Tryz.func64, Tryz.ntmps64
   go_wp2_with (first | (go_at_call 66; (with_reducible refine HE.out.mono ?_); rintro e w1 ⟨rfl, hp1, hl1⟩; simp only [encI]; have HP1 := Lib.hid hp1; have HL1 := Lib.hid hl1; clear hp1 hl1) | (go_at_call 23; (with_reducible refine (HW.out _).mono ?_); rintro e w2 ⟨rfl, rfl⟩) | (go_at_call 77; (with_reducible refine (cfg_check_ok HP1.out HK.out _).mono ?_); rintro e w2 ⟨rfl, rfl⟩))
   go_ret
   exact ⟨rfl, HP1.out, HL1.out⟩
  ·cases dry with
   | true => exact absurd (.inl rfl) hk
   | false =>
    have hf : inLH lo hi v = false := by
     cases h : inLH lo hi v with
     | true => exact absurd (.inr h) hk
     | false => rfl
    obtain rfl : V = .error 2 := HV.out.trans (valueS_no HU.out.symm hf)
    rw [hf] at HW
    clear hk hf
    go_enter Tryz.func64, Tryz.ntmps64
    go_wp2_with (first | (go_at_call 66; (with_reducible refine HE.out.mono ?_); rintro e w1 ⟨rfl, hp1, hl1⟩; simp only [encI]; have HP1 := Lib.hid hp1; have HL1 := Lib.hid hl1; clear hp1 hl1) | (go_at_call 23; (with_reducible refine (HW.out _).mono ?_); rintro e w2 ⟨rfl, rfl⟩) | (go_at_call 77; (with_reducible refine (cfg_check_no HP1.out _).mono ?_); rintro e w2 ⟨rfl, rfl⟩))
    exact ⟨rfl, rfl, HL1.out⟩
set_option maxHeartbeats 4000000 in
set_option maxRecDepth 100000 in
theorem cfg_finish (h : PS pb k A cw all dry sb sy rest W) (dup full : Bool) : Calls Tryz.prog 59 #[.pointer (some ⟨pb, 0, none⟩), .bool dup, .bool full] W (RetP pb k A cw all dry sb sy encB W (finP dry dup full rest)) := by
 obtain ⟨b0, b1, _, _, bf⟩ := h.cells
 have HP := Lib.hid h
 have hal : all.length ≤ 10000 := h.al.1
 cases rest with
 | cons x r =>
  obtain ⟨_, _, _, _, hi, _, _⟩ := h.word
  simp only [List.length_cons] at b1
  generalize all.length - (r.length + 1) = i at *
  have cc : ((i : Int) == (all.length : Int)) = false := by rw [beq_eq_false_iff_ne]; omega
  clear h hi
  go_enter Tryz.func59, Tryz.ntmps59
  go_wp2
  refine wp_region_held_drew (S := (fun w' => w'.cell? ⟨pb, 23, none⟩ = some (.int .i64 (i : Int)) ∧ w'.cell? ⟨pb, 22, none⟩ = some (.slice A all.length cw))) (by kernel_rfl) ?_ (fun hHeld => ?_)
  ·exact ⟨b1, b0⟩
  (refine takeL (i := 0) (v := ?_) rfl (by kernel_rfl) (by decide +kernel) (by decide +kernel) (fun _ _ _ h => h) (Or.inl ⟨by rfl, ?_⟩) (by assumption) ?_; rotate_left; (focus (intro w9 hS9; (try dsimp only at hS9); go_simp; (try with_reducible rfl); done)))
  (try simp only [Act.put, List.setIfInBounds_toArray, List.set_cons_zero, List.set_cons_succ])
  (refine takeL (i := 1) (v := ?_) rfl (by kernel_rfl) (by decide +kernel) (by decide +kernel) (fun _ _ _ h => h) (Or.inl ⟨by rfl, ?_⟩) (by assumption) ?_; rotate_left; (focus (intro w9 hS9; (try dsimp only at hS9); go_simp; (try with_reducible rfl); done)))
  (try simp only [Act.put, List.setIfInBounds_toArray, List.set_cons_zero, List.set_cons_succ])
  (refine takeL (i := 2) (v := ?_) rfl (by kernel_rfl) (by decide +kernel) (by decide +kernel) (fun _ _ _ h => h) (Or.inl ⟨by rfl, ?_⟩) (by assumption) ?_; rotate_left; (focus (intro w9 hS9; (try dsimp only at hS9); go_simp; (try with_reducible rfl); done)))
  (try simp only [Act.put, List.setIfInBounds_toArray, List.set_cons_zero, List.set_cons_succ])
  (refine takeL (i := 3) (v := ?_) rfl (by kernel_rfl) (by decide +kernel) (by decide +kernel) (fun _ _ _ h => h) (Or.inl ⟨by rfl, ?_⟩) (by assumption) ?_; rotate_left; (focus (intro w9 hS9; (try dsimp only at hS9); go_simp; (try with_reducible rfl); done)))
  (try simp only [Act.put, List.setIfInBounds_toArray, List.set_cons_zero, List.set_cons_succ])
  (refine takeL (i := 4) (v := ?_) rfl (by kernel_rfl) (by decide +kernel) (by decide +kernel) (fun _ _ _ h => h) (Or.inl ⟨by rfl, ?_⟩) (by assumption) ?_; rotate_left; (focus (intro w9 hS9; (try dsimp only at hS9); go_simp; (try with_reducible rfl); done)))
  (try simp only [Act.put, List.setIfInBounds_toArray, List.set_cons_zero, List.set_cons_succ])
  (refine takeL (i := 5) (v := ?_) rfl (by kernel_rfl) (by decide +kernel) (by decide +kernel) (fun _ _ _ h => h) (Or.inl ⟨by rfl, ?_⟩) (by assumption) ?_; rotate_left; (focus (intro w9 hS9; (try dsimp only at hS9); go_simp; (try with_reducible rfl); done)))
  (try simp only [Act.put, List.setIfInBounds_toArray, List.set_cons_zero, List.set_cons_succ])
  (refine takeL (i := 6) (v := ?_) rfl (by kernel_rfl) (by decide +kernel) (by decide +kernel) (fun _ _ _ h => h) (Or.inl ⟨by rfl, ?_⟩) (by assumption) ?_; rotate_left; (focus (intro w9 hS9; (try dsimp only at hS9); go_simp; (try with_reducible rfl); done)))
  (try simp only [Act.put, List.setIfInBounds_toArray, List.set_cons_zero, List.set_cons_succ])
  (refine takeL (i := 7) (v := ?_) rfl (by kernel_rfl) (by decide +kernel) (by decide +kernel) (fun _ _ _ h => h) (Or.inl ⟨by rfl, ?_⟩) (by assumption) ?_; rotate_left; (focus (intro w9 hS9; (try dsimp only at hS9); go_simp; (try with_reducible rfl); done)))
  (try simp only [Act.put, List.setIfInBounds_toArray, List.set_cons_zero, List.set_cons_succ])
  (refine takeL (i := 8) (v := ?_) rfl (by kernel_rfl) (by decide +kernel) (by decide +kernel) (fun _ _ _ h => h) (Or.inl ⟨by rfl, ?_⟩) (by assumption) ?_; rotate_left; (focus (intro w9 hS9; (try dsimp only at hS9); go_simp; (try with_reducible rfl); done)))
  (try simp only [Act.put, List.setIfInBounds_toArray, List.set_cons_zero, List.set_cons_succ])
  (refine takeL (i := 9) (v := ?_) rfl (by kernel_rfl) (by decide +kernel) (by decide +kernel) (fun _ _ _ h => h) (Or.inl ⟨by rfl, ?_⟩) (by assumption) ?_; rotate_left; (focus (intro w9 hS9; (try dsimp only at hS9); go_simp; (try with_reducible rfl); done)))
  (try simp only [Act.put, List.setIfInBounds_toArray, List.set_cons_zero, List.set_cons_succ])
  (refine takeL (i := 10) (v := ?_) rfl (by kernel_rfl) (by decide +kernel) (by decide +kernel) (fun _ _ _ h => h) (Or.inl ⟨by rfl, ?_⟩) (by assumption) ?_; rotate_left; (focus (intro w9 hS9; (try dsimp only at hS9); go_simp; (try with_reducible rfl); done)))
  (try simp only [Act.put, List.setIfInBounds_toArray, List.set_cons_zero, List.set_cons_succ])
  refine wpAnyH_ready (rs := [11]) (by decide +kernel) (by simp) ?_
  refine consL rfl (fun K hK => ?_) ?_
  ·go_simp
   go_at_call 40
   (with_reducible refine (cfg_grammar_no _ _).mono ?_)
   rintro e w5 ⟨rfl, rfl⟩
   exact ⟨rfl, rfl, HP.out.up_lo (below_drw2 _)⟩
  exact AllReadyH.nil
 | nil =>
  simp only [List.length_nil, Nat.sub_zero] at b1
  obtain ⟨i, hie⟩ : ∃ i, i = all.length := ⟨_, rfl⟩
  rw [← hie] at b1
  have cc : ((i : Int) == (all.length : Int)) = true := by rw [hie]; simp
  clear h hie
  go_enter Tryz.func59, Tryz.ntmps59
  go_wp2
  refine wp_region_held_drew (S := (fun w' => w'.cell? ⟨pb, 23, none⟩ = some (.int .i64 (i : Int)) ∧ w'.cell? ⟨pb, 22, none⟩ = some (.slice A all.length cw))) (by kernel_rfl) ?_ (fun hHeld => ?_)
  ·exact ⟨b1, b0⟩
  (refine takeL (i := 0) (v := ?_) rfl (by kernel_rfl) (by decide +kernel) (by decide +kernel) (fun _ _ _ h => h) (Or.inl ⟨by rfl, ?_⟩) (by assumption) ?_; rotate_left; (focus (intro w9 hS9; (try dsimp only at hS9); go_simp; (try with_reducible rfl); done)))
  (try simp only [Act.put, List.setIfInBounds_toArray, List.set_cons_zero, List.set_cons_succ])
  (refine takeL (i := 1) (v := ?_) rfl (by kernel_rfl) (by decide +kernel) (by decide +kernel) (fun _ _ _ h => h) (Or.inl ⟨by rfl, ?_⟩) (by assumption) ?_; rotate_left; (focus (intro w9 hS9; (try dsimp only at hS9); go_simp; (try with_reducible rfl); done)))
  (try simp only [Act.put, List.setIfInBounds_toArray, List.set_cons_zero, List.set_cons_succ])
  (refine takeL (i := 2) (v := ?_) rfl (by kernel_rfl) (by decide +kernel) (by decide +kernel) (fun _ _ _ h => h) (Or.inl ⟨by rfl, ?_⟩) (by assumption) ?_; rotate_left; (focus (intro w9 hS9; (try dsimp only at hS9); go_simp; (try with_reducible rfl); done)))
  (try simp only [Act.put, List.setIfInBounds_toArray, List.set_cons_zero, List.set_cons_succ])
  (refine takeL (i := 3) (v := ?_) rfl (by kernel_rfl) (by decide +kernel) (by decide +kernel) (fun _ _ _ h => h) (Or.inl ⟨by rfl, ?_⟩) (by assumption) ?_; rotate_left; (focus (intro w9 hS9; (try dsimp only at hS9); go_simp; (try with_reducible rfl); done)))
  (try simp only [Act.put, List.setIfInBounds_toArray, List.set_cons_zero, List.set_cons_succ])
  (refine takeL (i := 4) (v := ?_) rfl (by kernel_rfl) (by decide +kernel) (by decide +kernel) (fun _ _ _ h => h) (Or.inl ⟨by rfl, ?_⟩) (by assumption) ?_; rotate_left; (focus (intro w9 hS9; (try dsimp only at hS9); go_simp; (try with_reducible rfl); done)))
  (try simp only [Act.put, List.setIfInBounds_toArray, List.set_cons_zero, List.set_cons_succ])
  (refine takeL (i := 5) (v := ?_) rfl (by kernel_rfl) (by decide +kernel) (by decide +kernel) (fun _ _ _ h => h) (Or.inl ⟨by rfl, ?_⟩) (by assumption) ?_; rotate_left; (focus (intro w9 hS9; (try dsimp only at hS9); go_simp; (try with_reducible rfl); done)))
  (try simp only [Act.put, List.setIfInBounds_toArray, List.set_cons_zero, List.set_cons_succ])
  (refine takeL (i := 6) (v := ?_) rfl (by kernel_rfl) (by decide +kernel) (by decide +kernel) (fun _ _ _ h => h) (Or.inl ⟨by rfl, ?_⟩) (by assumption) ?_; rotate_left; (focus (intro w9 hS9; (try dsimp only at hS9); go_simp; (try with_reducible rfl); done)))
  (try simp only [Act.put, List.setIfInBounds_toArray, List.set_cons_zero, List.set_cons_succ])
  (refine takeL (i := 7) (v := ?_) rfl (by kernel_rfl) (by decide +kernel) (by decide +kernel) (fun _ _ _ h => h) (Or.inl ⟨by rfl, ?_⟩) (by assumption) ?_; rotate_left; (focus (intro w9 hS9; (try dsimp only at hS9); go_simp; (try with_reducible rfl); done)))
  (try simp only [Act.put, List.setIfInBounds_toArray, List.set_cons_zero, List.set_cons_succ])
  (refine takeL (i := 8) (v := ?_) rfl (by kernel_rfl) (by decide +kernel) (by decide +kernel) (fun _ _ _ h => h) (Or.inl ⟨by rfl, ?_⟩) (by assumption) ?_; rotate_left; (focus (intro w9 hS9; (try dsimp only at hS9); go_simp; (try with_reducible rfl); done)))
  (try simp only [Act.put, List.setIfInBounds_toArray, List.set_cons_zero, List.set_cons_succ])
  (refine takeL (i := 9) (v := ?_) rfl (by kernel_rfl) (by decide +kernel) (by decide +kernel) (fun _ _ _ h => h) (Or.inl ⟨by rfl, ?_⟩) (by assumption) ?_; rotate_left; (focus (intro w9 hS9; (try dsimp only at hS9); go_simp; (try with_reducible rfl); done)))
  (try simp only [Act.put, List.setIfInBounds_toArray, List.set_cons_zero, List.set_cons_succ])
  (refine takeL (i := 10) (v := ?_) rfl (by kernel_rfl) (by decide +kernel) (by decide +kernel) (fun _ _ _ h => h) (Or.inl ⟨by rfl, ?_⟩) (by assumption) ?_; rotate_left; (focus (intro w9 hS9; (try dsimp only at hS9); go_simp; (try with_reducible rfl); done)))
  (try simp only [Act.put, List.setIfInBounds_toArray, List.set_cons_zero, List.set_cons_succ])
  refine wpAnyH_ready (rs := [11]) (by decide +kernel) (by simp) ?_
  refine consL rfl (fun K hK => ?_) ?_
  ·(first | (go_at_call 40; (with_reducible refine (cfg_grammar_ok _ _).mono ?_); rintro e w5 ⟨rfl, rfl⟩) | (go_simp; first | done | (first | (go_at_call 40; (with_reducible refine (cfg_grammar_ok _ _).mono ?_); rintro e w5 ⟨rfl, rfl⟩))) | go_simp)
   (first | (with_reducible refine hK.out _ _ ?_ ?_) | (go_wp2_with fail; refine hK.out _ _ ?_ ?_))
   (focus (exact hHeld))
   clear hK K hHeld
   intro hHeld
   (try simp only [Act.put, List.setIfInBounds_toArray, List.set_cons_zero, List.set_cons_succ])
   refine wpAnyH_done (by decide +kernel) ?_ _
   clear hHeld
   have HP1 := Lib.hid (HP.out.up (below_drw2 W))
   have HL1 := Lib.hid (HP.out.up_lo (below_drw2 W))
   have b24 := HP1.out.cells.2.2.1
   clear b0 b1
   have HC : Hid (∀ (ok : Bool) (c : Int), Calls Tryz.prog 77 #[.pointer (some ⟨pb, 0, none⟩), .bool ok, .int .i64 c] W.drew (RetC dry ok c W.drew)) := Lib.hid fun ok c => cfg_check HP1.out ok c
   cases dry with
   | true =>
    have HC9 := Lib.hid (fun b c => cfg_check_ok HP1.out (ok := b) (.inl rfl) c)
    go_wp2_with (go_at_call 77; (with_reducible refine (HC9.out _ _).mono ?_); rintro e w2 ⟨rfl, rfl⟩)
    go_ret
    exact ⟨rfl, HP1.out, HL1.out⟩
   | false =>
    cases dup with
    | true =>
     go_wp2_with (go_at_call 77; (with_reducible refine (cfg_check_no HP1.out _).mono ?_); rintro e w2 ⟨rfl, rfl⟩)
     exact ⟨rfl, rfl, HL1.out⟩
    | false =>
     cases full with
     | true =>
      go_wp2_with (first | (go_at_call 77; (with_reducible refine (cfg_check_ok HP1.out (ok := true) (.inr rfl) _).mono ?_); rintro e w2 ⟨rfl, rfl⟩) | (go_at_call 77; (with_reducible refine (cfg_check_no HP1.out _).mono ?_); rintro e w2 ⟨rfl, rfl⟩))
      exact ⟨rfl, rfl, HL1.out⟩
     | false =>
      go_wp2_with (go_at_call 77; (with_reducible refine (cfg_check_ok HP1.out (ok := true) (.inr rfl) _).mono ?_); rintro e w2 ⟨rfl, rfl⟩)
      go_ret
      exact ⟨rfl, HP1.out, HL1.out⟩
  exact AllReadyH.nil
end
end Go.Proofs.YtfimacgmciogmaaGreatDoor
