/-
  repair.assume's closures: a search under a component's mask; the two rules; the first rule that holds.
  repair.assume's last closure: the first rule that holds.
-/
import Derived.Test.YtdnjflpmbnjgeaaGreatPkPcv
import Derived.Test.YtdnjflpmbnjgeaaGreatPkCMask
set_option linter.unusedSimpArgs false
set_option linter.unusedVariables false
namespace Go.Proofs.YtdnjflpmbnjgeaaGreat
section
open Go.RowKit Go.Sort
/-- A call that returns the distances from a node under a mask. -/
def RetSR (w : World) (t : Topo) (dn : List Bool) (n : Int) (e : Ending) (w' : World) : Prop := ∃ (A : Option Addr) (c : Nat) (dist : List Int), e = .returned (.slice A dist.length c) ∧ Rd w' A (dist.map (Value.int .i64)) ∧ SR (sgFrom t dn n) dist ∧ Below w.heap.size w w'
section
variable {w : World} {A1 A2 : Option Addr} {t : Topo}
set_option maxRecDepth 100000 in
set_option maxHeartbeats 2000000 in
theorem asm_1 (c1 c2 tb nb : Nat) (k m n : Int) (hv : valid t = true) (hc : compOk t k m = true) (hn : isN t.n n = true) (hT : TAt w A1 A2 t) (hl : t.ls.length ≤ 100000)
    (b1 : Bl 25 tb #[.int .i64 t.n, .slice A1 t.ov.length c1, .slice A2 t.ls.length c2] w) (b2 : Bl 3 nb #[.int .i64 n] w) :
    Calls Tryz.prog 95 #[.agg #[.int .i64 k, .int .i64 m], .pointer (some ⟨tb, 0, none⟩), .pointer (some ⟨nb, 0, none⟩)] w (RetSR w t (mask t [(k, m)]) n) := by
 have hbx := cQ w (.cells #[.int .i64 k, .int .i64 m] 79)
 have q0 := (b1.up hbx).cell 0 rfl
 have q1 := (b1.up hbx).cell 1 rfl
 have q2 := (b1.up hbx).cell 2 rfl
 have q3 := (b2.up hbx).cell 0 rfl
 have HB1 := hU (b1.up hbx)
 have HB2 := hU (b2.up hbx)
 have HT := hU (hT.below hbx)
 have HM := hU (component_Mask (w := w.alloc (.cells #[.int .i64 k, .int .i64 m] 79)) t A1 A2 c1 c2 k m (hT.below hbx) hl)
 have HU : Hid (unionV t [(k, m)] = (mask t [(k, m)], 0)) := hU (by simp [unionV, hv, hc])
 have HBX := hU hbx
 have HV := hU hv
 have HN := hU hn
 have HL := hU (mask_length t [(k, m)])
 clear hbx b1 b2 hT hv hc hn hl
 go_enter Tryz.func95, Tryz.ntmps95
 go_wp2_with (first | (go_at_call 35; (with_reducible refine HM.out.mono ?_); rintro e w2 ⟨A, c, rfl, hr, hb, hfr⟩; clear hfr; rw [HU.out] at hr ⊢; have HR := hU hr; replace HB1 := hU (HB1.out.up hb); replace HB2 := hU (HB2.out.up hb); replace HT := hU (HT.out.below hb); replace HBX := hU (bQ HBX.out hb); clear hr hb q0 q1 q2 q3 HM; have q0 := HB1.out.cell 0 rfl; have q1 := HB1.out.cell 1 rfl; have q2 := HB1.out.cell 2 rfl; have q3 := HB2.out.cell 0 rfl; have HS := hU (spf_From (w := w2) c1 c2 c n HV.out HN.out HT.out HR.out (.inr HL.out))) | (go_at_call 66; (with_reducible refine HS.out.mono ?_); rintro e w3 ⟨Ad, cd, dist, rfl, hd, hs, hb⟩; have HD := hU hd; have HSR := hU hs; replace HBX := hU (bQ HBX.out hb); clear hd hs hb q0 q1 q2 q3 HS))
 go_ret
 exact ⟨Ad, cd, dist, rfl, HD.out, HSR.out, HBX.out⟩
/-- What a rule says. -/
def RetRule (w : World) (k m : Int) (b : Bool) (e : Ending) (w' : World) : Prop := e = .returned (.tuple #[.agg #[.int .i64 k, .int .i64 m], .bool b]) ∧ Below w.heap.size w w'
theorem below_drws {B : Nat} {w w' : World} (h : Below B w w') : Below B w w'.drew := ⟨h.os, h.tape, h.output, h.size, h.block⟩
set_option maxRecDepth 100000 in
set_option maxHeartbeats 2000000 in
theorem asm_2 (b7 b11 dc N : Nat) (g d : Int) (Ad : Option Addr) (dist : List Int) (dl : Nat) (h0 : 0 ≤ d) (h1 : d < (N : Int)) (hN : N ≤ 100000)
    (q1 : Bl 79 b7 #[.int .i64 3, .int .i64 g] w) (q2 : Bl 63 b11 #[.slice Ad dl dc] w) (hd : 0 < g → dl = N ∧ dist.length = N ∧ Rd w Ad (dist.map (Value.int .i64))) :
    Calls Tryz.prog 96 #[.int .i64 d, .pointer (some ⟨b7, 0, none⟩), .pointer (some ⟨b11, 0, none⟩)] w (RetRule w 3 g (decide (0 < g) && decide (0 ≤ dD dist d))) := by
 have hbx := cQ w (.cells #[.int .i64 0, .int .i64 0] 79)
 have hbx' := cQ w (.cells #[.int .i64 3, .int .i64 g] 79)
 have hz1 : b7 ≠ w.heap.size := Nat.ne_of_lt q1.lt
 have a0 := (q1.up hbx).cell 0 rfl
 have a1 := (q1.up hbx).cell 1 rfl
 have a2 := (q2.up hbx).cell 0 rfl
 have a0' := (q1.up hbx').cell 0 rfl
 have a1' := (q1.up hbx').cell 1 rfl
 have a2' := (q2.up hbx').cell 0 rfl
 obtain ⟨a3, a4, a5⟩ := (Bl.new w #[.int .i64 0, .int .i64 0] 79).c2
 obtain ⟨n0, n1, _⟩ := (Bl.new w #[.int .i64 3, .int .i64 g] 79).c2
 have HBX' := hU hbx'
 by_cases hg : 0 < g
 ·obtain ⟨rfl, hl, hr⟩ := hd hg
  obtain ⟨b, o, rfl, hc⟩ := dist_at hr hl h0 h1
  have hc1 := aQ hbx hc
  have hc2 := aQ hbx' hc
  have HG : Hid ((decide (0 < g) && decide (0 ≤ dD dist d)) = decide (0 ≤ dD dist d)) := hU (by simp [hg])
  clear q1 q2 hd hr hl hbx hbx'
  go_enter Tryz.func96, Tryz.ntmps96
  go_upto_region 1 with fail
  go_region
  all_goals (try go_wp2_with fail)
  all_goals refine bodyPost_ret (v := .tuple #[.agg #[.int .i64 3, .int .i64 g], .bool (decide (0 ≤ dD dist d))]) (by simp [results, Tryz.results96, go_sem, n0, n1]) rfl ?_
  all_goals exact ⟨by rw [HG.out], below_drws HBX'.out⟩
 ·have HG : Hid ((decide (0 < g) && decide (0 ≤ dD dist d)) = false) := hU (by simp [hg])
  clear q1 q2 hd hbx hbx'
  go_enter Tryz.func96, Tryz.ntmps96
  go_upto_region 1 with fail
  go_region
  all_goals (try go_wp2_with fail)
  all_goals refine bodyPost_ret (v := .tuple #[.agg #[.int .i64 3, .int .i64 g], .bool false]) (by simp [results, Tryz.results96, go_sem, n0, n1]) rfl ?_
  all_goals exact ⟨by rw [HG.out], below_drws HBX'.out⟩
set_option maxRecDepth 100000 in
set_option maxHeartbeats 2000000 in
theorem asm_3 (b8 b6 b12 dc N : Nat) (h d : Int) (Ad : Option Addr) (dist : List Int) (dl : Nat) (h0 : 0 ≤ d) (h1 : d < (N : Int)) (hN : N ≤ 100000)
    (q1 : Bl 79 b8 #[.int .i64 2, .int .i64 h] w) (q0 : Bl 3 b6 #[.int .i64 h] w) (q2 : Bl 63 b12 #[.slice Ad dl dc] w) (hd : dl = N ∧ dist.length = N ∧ Rd w Ad (dist.map (Value.int .i64))) :
    Calls Tryz.prog 97 #[.int .i64 d, .pointer (some ⟨b8, 0, none⟩), .pointer (some ⟨b6, 0, none⟩), .pointer (some ⟨b12, 0, none⟩)] w (RetRule w 2 h (decide (d ≠ h) && decide (0 ≤ dD dist d))) := by
 have hbx := cQ w (.cells #[.int .i64 0, .int .i64 0] 79)
 have hbx' := cQ w (.cells #[.int .i64 2, .int .i64 h] 79)
 have hz1 : b8 ≠ w.heap.size := Nat.ne_of_lt q1.lt
 have a0 := (q1.up hbx).cell 0 rfl
 have a1 := (q1.up hbx).cell 1 rfl
 have a2 := (q2.up hbx).cell 0 rfl
 have a6 := (q0.up hbx).cell 0 rfl
 have a0' := (q1.up hbx').cell 0 rfl
 have a1' := (q1.up hbx').cell 1 rfl
 have a2' := (q2.up hbx').cell 0 rfl
 have a6' := (q0.up hbx').cell 0 rfl
 obtain ⟨a3, a4, a5⟩ := (Bl.new w #[.int .i64 0, .int .i64 0] 79).c2
 obtain ⟨n0, n1, _⟩ := (Bl.new w #[.int .i64 2, .int .i64 h] 79).c2
 have HBX' := hU hbx'
 obtain ⟨rfl, hl, hr⟩ := hd
 obtain ⟨b, o, rfl, hc⟩ := dist_at hr hl h0 h1
 have hc1 := aQ hbx hc
 have hc2 := aQ hbx' hc
 by_cases hg : d ≠ h
 ·have HG : Hid ((decide (d ≠ h) && decide (0 ≤ dD dist d)) = decide (0 ≤ dD dist d)) := hU (by simp [hg])
  have hne : (d != h) = true := by simpa using hg
  clear q1 q2 q0 hr hl hbx hbx' hg
  go_enter Tryz.func97, Tryz.ntmps97
  go_upto_region 1 with fail
  go_region
  all_goals (try go_wp2_with fail)
  all_goals refine bodyPost_ret (v := .tuple #[.agg #[.int .i64 2, .int .i64 h], .bool (decide (0 ≤ dD dist d))]) (by simp [results, Tryz.results97, go_sem, n0, n1]) rfl ?_
  all_goals exact ⟨by rw [HG.out], below_drws HBX'.out⟩
 ·have HG : Hid ((decide (d ≠ h) && decide (0 ≤ dD dist d)) = false) := hU (by simp [hg])
  have hne : (d != h) = false := by simpa using hg
  clear q1 q2 q0 hr hl hbx hbx' hg
  go_enter Tryz.func97, Tryz.ntmps97
  go_upto_region 1 with fail
  go_region
  all_goals (try go_wp2_with fail)
  all_goals refine bodyPost_ret (v := .tuple #[.agg #[.int .i64 2, .int .i64 h], .bool false]) (by simp [results, Tryz.results97, go_sem, n0, n1]) rfl ?_
  all_goals exact ⟨by rw [HG.out], below_drws HBX'.out⟩
end
/-- What a node assumes to have failed: as assume's blocks hold it. -/
structure AsmB (t : Topo) (arc g h : Int) (b13 b9 gs b7 b11 b8 b6 b12 : Nat) (Ag An : Option Addr) (lg cg ln cn : Nat) (dg dh : List Int) (w : World) : Prop where
 r13 : Bl 140 b13 #[.slice (some ⟨gs, 0, none⟩) 2 2] w
 rgs : Bl 139 gs #[.func (.func 96) #[] #[.pointer (some ⟨b7, 0, none⟩), .pointer (some ⟨b11, 0, none⟩)], .func (.func 97) #[] #[.pointer (some ⟨b8, 0, none⟩), .pointer (some ⟨b6, 0, none⟩), .pointer (some ⟨b12, 0, none⟩)]] w
 r9 : Bl 79 b9 #[.int .i64 1, .int .i64 (arc / 2)] w
 r7 : Bl 79 b7 #[.int .i64 3, .int .i64 g] w
 r11 : Bl 63 b11 #[.slice Ag lg cg] w
 r8 : Bl 79 b8 #[.int .i64 2, .int .i64 h] w
 r6 : Bl 3 b6 #[.int .i64 h] w
 r12 : Bl 63 b12 #[.slice An ln cn] w
 hg : 0 < g → lg = t.n.toNat ∧ dg.length = t.n.toNat ∧ Rd w Ag (dg.map (Value.int .i64))
 hh : ln = t.n.toNat ∧ dh.length = t.n.toNat ∧ Rd w An (dh.map (Value.int .i64))
theorem AsmB.up {t : Topo} {arc g h : Int} {b13 b9 gs b7 b11 b8 b6 b12 : Nat} {Ag An : Option Addr} {lg cg ln cn : Nat} {dg dh : List Int} {w w' : World} (H : AsmB t arc g h b13 b9 gs b7 b11 b8 b6 b12 Ag An lg cg ln cn dg dh w) (hb : Below w.heap.size w w') : AsmB t arc g h b13 b9 gs b7 b11 b8 b6 b12 Ag An lg cg ln cn dg dh w' :=
 ⟨H.r13.up hb, H.rgs.up hb, H.r9.up hb, H.r7.up hb, H.r11.up hb, H.r8.up hb, H.r6.up hb, H.r12.up hb, fun x => ⟨(H.hg x).1, (H.hg x).2.1, (H.hg x).2.2.below hb⟩, ⟨H.hh.1, H.hh.2.1, H.hh.2.2.below hb⟩⟩
/-- What a search's rows say. -/
def asmP (t : Topo) (arc g h : Int) (dg dh : List Int) (d : Int) : Int × Int :=
 if (decide (0 < g) && decide (0 ≤ dD dg d)) = true then (3, g) else if (decide (d ≠ h) && decide (0 ≤ dD dh d)) = true then (2, h) else (1, arc / 2)
/-- A call that returns a component. -/
def RetCp (w : World) (k m : Int) (e : Ending) (w' : World) : Prop := e = .returned (.agg #[.int .i64 k, .int .i64 m]) ∧ Below w.heap.size w w'
theorem cp_set {b : Nat} {w : World} {x y : Value} (z : Bl 79 b #[x, y] w) (u v : Value) : Bl 79 b #[u, v] ((w.setCell ⟨b, 0, none⟩ u).setCell ⟨b, 1, none⟩ v) := (z.set 0 u rfl).set 1 v rfl
theorem below_cp {w w2 : World} (h : Below w.heap.size w w2) (u v : Value) : Below w.heap.size w ((w2.setCell ⟨w.heap.size, 0, none⟩ u).setCell ⟨w.heap.size, 1, none⟩ v) :=
 (h.setCell (p := ⟨w.heap.size, 0, none⟩) (Nat.le_refl _) u).setCell (p := ⟨w.heap.size, 1, none⟩) (Nat.le_refl _) v
section
variable {w : World} {t : Topo}
set_option maxRecDepth 100000 in
set_option maxHeartbeats 4000000 in
theorem asm_4 {arc g h : Int} {b13 b9 gs b7 b11 b8 b6 b12 : Nat} {Ag An : Option Addr} {lg cg ln cn : Nat} {dg dh : List Int} (d : Int) (hN : t.n ≤ 100000) (hd : isN t.n d = true) (H : AsmB t arc g h b13 b9 gs b7 b11 b8 b6 b12 Ag An lg cg ln cn dg dh w) :
    Calls Tryz.prog 98 #[.int .i64 d, .pointer (some ⟨b13, 0, none⟩), .pointer (some ⟨b9, 0, none⟩)] w (RetCp w (asmP t arc g h dg dh d).1 (asmP t arc g h dg dh d).2) := by
 obtain ⟨h0, h1⟩ := isN_true.1 hd
 have hbx := cQ w (.cells #[.int .i64 0, .int .i64 0] 79)
 have HA := hU (H.up hbx)
 have HZ := hU (Bl.new w #[.int .i64 0, .int .i64 0] 79)
 have H2 := hU (asm_2 b7 b11 cg t.n.toNat g d Ag dg lg h0 (by omega) (by omega) (H.up hbx).r7 (H.up hbx).r11 (H.up hbx).hg)
 have HB := hU hbx
 have HN := hU (show 0 ≤ d ∧ d < (t.n.toNat : Int) ∧ t.n.toNat ≤ 100000 by omega)
 have q13 := HA.out.r13.cell 0 rfl
 have q0 := HA.out.rgs.cell 0 rfl
 have q1 := HA.out.rgs.cell 1 rfl
 clear H hbx hd h0 h1 hN
 cases hc1 : (decide (0 < g) && decide (0 ≤ dD dg d)) with
 | true =>
  have HP : Hid (asmP t arc g h dg dh d = (3, g)) := hU (by simp only [asmP, hc1, if_true])
  rw [hc1] at H2
  clear hc1
  go_enter Tryz.func98, Tryz.ntmps98
  go_wp2_with fail
  refine wp_loop_rounds 2 ?_
  rw [rounds_succ]
  go_wp2_with (go_at_call 96; (with_reducible refine H2.out.mono ?_); rintro e w2 ⟨rfl, hb⟩; obtain ⟨z0, z1, z2⟩ := (HZ.out.up hb).c2; have HZ2 := hU (HZ.out.up hb); have hlt := (HZ.out.up hb).lt; have HBB := hU (bQ HB.out hb); clear q13 q0 q1 hb H2)
  have hE := cQ ((w2.setCell ⟨w.heap.size, 0, none⟩ (.int .i64 3)).setCell ⟨w.heap.size, 1, none⟩ (.int .i64 g)) (.cells #[.int .i64 3, .int .i64 g] 79)
  obtain ⟨n0, n1, _⟩ := ((cp_set HZ2.out (.int .i64 3) (.int .i64 g)).up hE).c2
  refine bodyPost_ret (v := .agg #[.int .i64 3, .int .i64 g]) (by simp [results, Tryz.results98, go_sem, n0, n1]) rfl ?_
  rw [HP.out]
  exact ⟨rfl, bQ (below_cp HBB.out _ _) hE⟩
 | false =>
  rw [hc1] at H2
  cases hc2 : (decide (d ≠ h) && decide (0 ≤ dD dh d)) with
  | true =>
   have HP : Hid (asmP t arc g h dg dh d = (2, h)) := hU (by simp only [asmP, hc1, hc2, if_true, Bool.false_eq_true, if_false])
   have HC : Hid ((decide (d ≠ h) && decide (0 ≤ dD dh d)) = true) := hU hc2
   clear hc1 hc2
   go_enter Tryz.func98, Tryz.ntmps98
   go_wp2_with fail
   refine wp_loop_rounds 3 ?_
   rw [rounds_succ]
   go_wp2_with (go_at_call 96; (with_reducible refine H2.out.mono ?_); rintro e w2 ⟨rfl, hb⟩; have hx := cQ w2 (.cells #[.int .i64 3, .int .i64 g] 79); replace HA := hU ((HA.out.up hb).up hx); replace HZ := hU ((HZ.out.up hb).up hx); have HBB := hU (bQ (bQ HB.out hb) hx); clear q13 q0 q1 hb hx H2; have q1 := HA.out.rgs.cell 1 rfl; have H3 := hU (asm_3 b8 b6 b12 cn t.n.toNat h d An dh ln HN.out.1 HN.out.2.1 HN.out.2.2 HA.out.r8 HA.out.r6 HA.out.r12 HA.out.hh); rw [HC.out] at H3)
   rw [rounds_succ]
   go_wp2_with (go_at_call 97; (with_reducible refine H3.out.mono ?_); rintro e w3 ⟨rfl, hb⟩; replace HA := hU (HA.out.up hb); obtain ⟨z0, z1, z2⟩ := (HZ.out.up hb).c2; have HZ2 := hU (HZ.out.up hb); have hlt := (HZ.out.up hb).lt; replace HBB := hU (bQ HBB.out hb); clear q1 hb H3)
   have hE := cQ ((w3.setCell ⟨w.heap.size, 0, none⟩ (.int .i64 2)).setCell ⟨w.heap.size, 1, none⟩ (.int .i64 h)) (.cells #[.int .i64 2, .int .i64 h] 79)
   obtain ⟨n0, n1, _⟩ := ((cp_set HZ2.out (.int .i64 2) (.int .i64 h)).up hE).c2
   refine bodyPost_ret (v := .agg #[.int .i64 2, .int .i64 h]) (by simp [results, Tryz.results98, go_sem, n0, n1]) rfl ?_
   rw [HP.out]
   exact ⟨rfl, bQ (below_cp HBB.out _ _) hE⟩
  | false =>
   have HP : Hid (asmP t arc g h dg dh d = (1, arc / 2)) := hU (by simp only [asmP, hc1, hc2, Bool.false_eq_true, if_false])
   have HC : Hid ((decide (d ≠ h) && decide (0 ≤ dD dh d)) = false) := hU hc2
   clear hc1 hc2
   go_enter Tryz.func98, Tryz.ntmps98
   go_wp2_with fail
   refine wp_loop_rounds 3 ?_
   rw [rounds_succ]
   go_wp2_with (go_at_call 96; (with_reducible refine H2.out.mono ?_); rintro e w2 ⟨rfl, hb⟩; have hx := cQ w2 (.cells #[.int .i64 3, .int .i64 g] 79); replace HA := hU ((HA.out.up hb).up hx); replace HZ := hU ((HZ.out.up hb).up hx); have HBB := hU (bQ (bQ HB.out hb) hx); clear q13 q0 q1 hb hx H2; have q1 := HA.out.rgs.cell 1 rfl; have H3 := hU (asm_3 b8 b6 b12 cn t.n.toNat h d An dh ln HN.out.1 HN.out.2.1 HN.out.2.2 HA.out.r8 HA.out.r6 HA.out.r12 HA.out.hh); rw [HC.out] at H3)
   rw [rounds_succ]
   go_wp2_with (go_at_call 97; (with_reducible refine H3.out.mono ?_); rintro e w3 ⟨rfl, hb⟩; have hx := cQ w3 (.cells #[.int .i64 2, .int .i64 h] 79); replace HA := hU ((HA.out.up hb).up hx); replace HZ := hU ((HZ.out.up hb).up hx); replace HBB := hU (bQ (bQ HBB.out hb) hx); clear q1 hb hx H3; obtain ⟨z0, z1, z2⟩ := HZ.out.c2; have q2 := HA.out.r9.cell 0 rfl; have q3 := HA.out.r9.cell 1 rfl; have hlt := HZ.out.lt)
   rw [rounds_succ]
   go_wp2_with fail
   obtain ⟨n0, n1, _⟩ := (cp_set HZ.out (.int .i64 1) (.int .i64 (arc / 2))).c2
   refine bodyPost_ret (v := .agg #[.int .i64 1, .int .i64 (arc / 2)]) (by simp [results, Tryz.results98, go_sem, n0, n1]) rfl ?_
   rw [HP.out]
   exact ⟨rfl, below_cp HBB.out _ _⟩
end
end
end Go.Proofs.YtdnjflpmbnjgeaaGreat
