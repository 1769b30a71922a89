/-
  waypointref11.Dist, On (printed by gen_vr2.py).
  waypointref11.Path, waypointref27.Path, Reaches (printed by gen_vr3.py).
-/
import Derived.Test.YtdnjflpmbnjgeaaGreatPkVr0
set_option linter.unusedSimpArgs false
set_option linter.unusedVariables false
namespace Go.Proofs.YtdnjflpmbnjgeaaGreat
section
open Go.RowKit Go.Sort
theorem dist_atR {W : World} {A : Option Addr} {dist : List Int} {N : Nat} (h : Rd W A (dist.map (Value.int .i64))) (hl : dist.length = N) {i : Int} (h0 : 0 ≤ i) (h1 : i < (N : Int)) : ∃ b o, A = some ⟨b, o, none⟩ ∧ W.cell? ⟨b, o + i.toNat, none⟩ = some (.int .i64 (dD dist i)) := by
 have hlt : i.toNat < dist.length := by omega
 refine h.at_ (k := i.toNat) ?_
 rw [List.getElem?_map, List.getElem?_eq_getElem hlt]
 unfold dD
 rw [List.getD_eq_getElem?_getD, List.getElem?_eq_getElem hlt]
 rfl
/-- A shortest path begins with an arc. -/
def onB (t : Topo) (dn : List Bool) (dist : List Int) (a d : Int) : Bool := upB dn a && ((tail t a != d) && (decide (0 ≤ dD dist (fZ t a)) && (((fZ t a == d) || !over t (fZ t a)) && (dD dist (tail t a) == dD dist (fZ t a) + cost t a))))
section
variable {w : World} {A1 A2 D A : Option Addr} {t : Topo} {dn : List Bool} {dist : List Int}
set_option maxRecDepth 100000 in
theorem ref11_Dist (c1 c2 dc : Nat) (d : Int) (hv : valid t = true) (hd : isN t.n d = true) (hT : TAt w A1 A2 t) (hD : Rd w D (dn.map Value.bool)) (hdl : dn.length = 0 ∨ dn.length = 2 * t.ls.length) :
    Calls Tryz.prog 82 #[.agg #[.int .i64 t.n, .slice A1 t.ov.length c1, .slice A2 t.ls.length c2], .slice D dn.length dc, .int .i64 d] w (RetDs t dn d w) := by
 have HB := hU (cQ w (.cells #[.int .i64 t.n, .slice A1 t.ov.length c1, .slice A2 t.ls.length c2] 25))
 have HX := hU (Bl.new w #[.int .i64 t.n, .slice A1 t.ov.length c1, .slice A2 t.ls.length c2] 25)
 obtain ⟨b0, b1, b2, _⟩ := HX.out.c3
 have HS := hU (ref11_search (w := w.alloc (.cells #[.int .i64 t.n, .slice A1 t.ov.length c1, .slice A2 t.ls.length c2] 25)) (D := D) (dn := dn) c1 c2 dc d hv hd (hT.below HB.out) (hD.below HB.out) hdl)
 clear hv hd hT hD hdl
 go_enter Tryz.func82, Tryz.ntmps82
 go_wp2_with (go_at_call 109; (with_reducible refine HS.out.mono ?_); intro e w2 h; obtain ⟨A, c, dist, rfl, h1, h2, h3, h4⟩ := h; have H1 := hU h1; have H2 := hU h2; have H3 := hU h3; replace HB := hU (bQ HB.out h4); clear h1 h2 h3 h4)
 go_ret2
 exact ⟨A, c, dist, rfl, H1.out, H2.out, H3.out, HB.out⟩
set_option maxRecDepth 100000 in
set_option maxHeartbeats 8000000 in
theorem ref11_On (c1 c2 dc cd : Nat) (a d : Int) (hv : valid t = true) (hT : TAt w A1 A2 t) (hD : Rd w D (dn.map Value.bool)) (hdl : dn.length = 0 ∨ dn.length = 2 * t.ls.length) (ha : isN (2 * (t.ls.length : Int)) a = true)
    (hA : Rd w A (dist.map (Value.int .i64))) (hl : (dist.length : Int) = t.n) (hbd : ∀ i, 0 ≤ i → i < t.n → -1 ≤ dD dist i ∧ dD dist i ≤ 65535 * 64) :
    Calls Tryz.prog 123 #[.agg #[.int .i64 t.n, .slice A1 t.ov.length c1, .slice A2 t.ls.length c2], .slice D dn.length dc, .slice A dist.length cd, .int .i64 a, .int .i64 d] w fun e w' => e = .returned (.bool (onB t dn dist a d)) ∧ Below w.heap.size w w' := by
 obtain ⟨R, hR⟩ : ∃ R, R = onB t dn dist a d := ⟨_, rfl⟩
 rw [← hR]
 have HR := hU hR
 have hN := iZ hv
 have hL := zQ hv
 have HAN := hU ha
 obtain ⟨a0, a1⟩ := isN_true.1 ha
 have HAE := hU (arc_ends2 hv a0 a1)
 have HCB := hU (cost_bd hv a0 a1)
 obtain ⟨x, hx⟩ : ∃ x, x = tail t a := ⟨_, rfl⟩
 obtain ⟨y, hy⟩ : ∃ y, y = fZ t a := ⟨_, rfl⟩
 obtain ⟨u, hu⟩ : ∃ u, u = upB dn a := ⟨_, rfl⟩
 obtain ⟨cst, hcst⟩ : ∃ cst, cst = cost t a := ⟨_, rfl⟩
 obtain ⟨p, hp⟩ : ∃ p, p = ((y == d) || !over t y) := ⟨_, rfl⟩
 obtain ⟨vx, hvx⟩ : ∃ vx, vx = dD dist x := ⟨_, rfl⟩
 obtain ⟨vy, hvy⟩ : ∃ vy, vy = dD dist y := ⟨_, rfl⟩
 have HXB : Hid (0 ≤ x ∧ x < t.n) := hU (by rw [hx]; exact ⟨HAE.out.2.2.1, HAE.out.2.2.2⟩)
 have HYB : Hid (0 ≤ y ∧ y < t.n) := hU (by rw [hy]; exact ⟨HAE.out.1, HAE.out.2.1⟩)
 have HRV : Hid (R = (u && ((x != d) && (decide (0 ≤ vy) && (p && (vx == vy + cst)))))) := hU (by rw [HR.out, hu, hvy, hp, hvx, hcst, hx, hy]; rfl)
 have hwc := IntWalk.wrap64_in (vy + cst) (by have h1 := hbd y HYB.out.1 HYB.out.2; rw [← hvy] at h1; have h2 := HCB.out; rw [← hcst] at h2; omega)
 obtain ⟨X, hX⟩ : ∃ X, X = w.alloc (.cells #[.int .i64 t.n, .slice A1 t.ov.length c1, .slice A2 t.ls.length c2] 25) := ⟨_, rfl⟩
 have HB := hU (cQ w (.cells #[.int .i64 t.n, .slice A1 t.ov.length c1, .slice A2 t.ls.length c2] 25))
 have HX := hU (Bl.new w #[.int .i64 t.n, .slice A1 t.ov.length c1, .slice A2 t.ls.length c2] 25)
 rw [← hX] at HB HX
 have HT := hU (hT.below HB.out)
 have HD := hU (hD.below HB.out)
 have HTL : Hid (∀ d os, Calls Tryz.prog 76 #[.agg #[.int .i64 t.n, .slice A1 t.ov.length c1, .slice A2 t.ls.length c2], .int .i64 a] (grow (redrawn X d) os) fun e w'' => e = .returned (.int .i64 x) ∧ ∃ p : Regrown, w'' = grow (redrawn X p.d) p.os) := hU fun d os => by rw [hx]; exact Calls.regrown_of (ref09_TailT t A1 A2 c1 c2 a _ (HT.out.below (below_regrown _ d os)) (by omega) hv HAN.out)
 have HHL : Hid (∀ d os, Calls Tryz.prog 105 #[.agg #[.int .i64 t.n, .slice A1 t.ov.length c1, .slice A2 t.ls.length c2], .int .i64 a] (grow (redrawn X d) os) fun e w'' => e = .returned (.int .i64 y) ∧ ∃ p : Regrown, w'' = grow (redrawn X p.d) p.os) := hU fun d os => by rw [hy]; exact Calls.regrown_of (ref09_HeadT t A1 A2 c1 c2 a _ (HT.out.below (below_regrown _ d os)) (by omega) hv HAN.out)
 have HUU : Hid (∀ W, Below X.heap.size X W → ∀ d os, Calls Tryz.prog 120 #[.slice D dn.length dc, .int .i64 a] (grow (redrawn W d) os) fun e w'' => e = .returned (.bool u) ∧ ∃ p : Regrown, w'' = grow (redrawn W p.d) p.os) := hU fun W hW d os => by rw [hu]; exact Calls.regrown_of (ref11_Up dc a ((HD.out.below hW).below (below_regrown _ d os)) (hdl.elim .inl (fun h => .inr (by omega))) (by omega))
 have HTT : Hid (∀ W, Below X.heap.size X W → ∀ e os, Calls Tryz.prog 121 #[.agg #[.int .i64 t.n, .slice A1 t.ov.length c1, .slice A2 t.ls.length c2], .int .i64 y, .int .i64 d] (grow (redrawn W e) os) fun e w'' => e = .returned (.bool p) ∧ ∃ p : Regrown, w'' = grow (redrawn W p.d) p.os) := hU fun W hW e os => by rw [hp]; exact Calls.regrown_of (ref11_transit c1 c2 y d hv ((HT.out.below hW).below (below_regrown _ e os)) HYB.out.1 HYB.out.2)
 have HCC : Hid (∀ W, Below X.heap.size X W → ∀ d os, Calls Tryz.prog 122 #[.agg #[.int .i64 t.n, .slice A1 t.ov.length c1, .slice A2 t.ls.length c2], .int .i64 a] (grow (redrawn W d) os) fun e w'' => e = .returned (.int .i64 cst) ∧ ∃ p : Regrown, w'' = grow (redrawn W p.d) p.os) := hU fun W hW d os => by rw [hcst]; exact Calls.regrown_of (ref09_CostT t A1 A2 c1 c2 a _ ((HT.out.below hW).below (below_regrown _ d os)) (by omega) hv HAN.out)
 obtain ⟨da, oa, hAz, hqx⟩ := dist_atR (hA.below HB.out) rfl HXB.out.1 (by rw [hl]; exact HXB.out.2)
 obtain ⟨db, ob, hBz, hqy⟩ := dist_atR (hA.below HB.out) rfl HYB.out.1 (by rw [hl]; exact HYB.out.2)
 rw [← hvx] at hqx
 rw [← hvy] at hqy
 obtain ⟨rfl, rfl⟩ : db = da ∧ ob = oa := by rw [hAz] at hBz; injection hBz with h; injection h with h1 h2 _; exact ⟨h1.symm, h2.symm⟩
 subst hAz
 have HXN := hU HXB.out
 have x0 := HXB.out.1
 have y0 := HYB.out.1
 have x1 : x < (dist.length : Int) := by rw [hl]; exact HXB.out.2
 have y1 : y < (dist.length : Int) := by rw [hl]; exact HYB.out.2
 obtain ⟨b0, b1, b2, _⟩ := HX.out.c3
 clear hR hv ha hx hy hu hcst hp hvx hvy hT hD hdl hA hl hbd hN hL hBz a0 a1
 go_enter Tryz.func123, Tryz.ntmps123
 go_upto_region 1 with fail
 rw [← hX]
 clear hX
 obtain ⟨P1, P2, P3, P4, P5, -⟩ := kU b0 (kU b1 (kU b2 (kU hqx (kU hqy trivial))))
 refine wp_region_quiet_below (by kernel_rfl) (by kernel_rfl) ?_
 repeat (go_big_quiet_step ((first | (with_reducible exact HTL.out _ _) | (with_reducible exact HHL.out _ _))))
 refine wpQuiet_nil ?_
 intro W2 hb
 replace hb := eQ hb
 clear P1 P2 P3 P4 P5
 have zU := uU hb b0 (uU hb b1 (uU hb b2 (uU hb hqx (uU hb hqy trivial)))); clear b0 b1 b2 hqx hqy; obtain ⟨b0, b1, b2, hqx, hqy, -⟩ := zU
 have HU2 := hU (HUU.out W2 hb)
 have HT2 := hU (HTT.out W2 hb)
 have HC2 := hU (HCC.out W2 hb)
 replace HB := hU (bQ HB.out hb)
 clear HTL HHL HUU HTT HCC hb
 go_upto_region 2 with fail
 cases u with
 | false =>
  have HRW : Hid (R = false) := hU (by rw [HRV.out]; rfl)
  obtain ⟨P1, P2, P3, P4, P5, -⟩ := kU b0 (kU b1 (kU b2 (kU hqx (kU hqy trivial))))
  refine wp_region_quiet_below (by kernel_rfl) (by kernel_rfl) ?_
  repeat (go_big_quiet_step ((first | (with_reducible exact HU2.out _ _) | (with_reducible exact HT2.out _ _) | (with_reducible exact HC2.out _ _))))
  refine wpQuiet_nil ?_
  intro W3 hb
  replace hb := eQ hb
  clear P1 P2 P3 P4 P5
  have zU := uU hb b0 (uU hb b1 (uU hb b2 (uU hb hqx (uU hb hqy trivial)))); clear b0 b1 b2 hqx hqy; obtain ⟨b0, b1, b2, hqx, hqy, -⟩ := zU
  replace HB := hU (bQ HB.out hb)
  go_wp2_with fail
  go_ret
  exact ⟨by rw [HRW.out]; rfl, HB.out⟩
 | true =>
  by_cases g1 : x = d
  ·have g1b : (x != d) = false := by simp [g1]
   have HRW : Hid (R = false) := hU (by rw [HRV.out, g1b]; rfl)
   clear g1
   obtain ⟨P1, P2, P3, P4, P5, -⟩ := kU b0 (kU b1 (kU b2 (kU hqx (kU hqy trivial))))
   refine wp_region_quiet_below (by kernel_rfl) (by kernel_rfl) ?_
   repeat (go_big_quiet_step ((first | (with_reducible exact HU2.out _ _) | (with_reducible exact HT2.out _ _) | (with_reducible exact HC2.out _ _))))
   refine wpQuiet_nil ?_
   intro W3 hb
   replace hb := eQ hb
   clear P1 P2 P3 P4 P5
   have zU := uU hb b0 (uU hb b1 (uU hb b2 (uU hb hqx (uU hb hqy trivial)))); clear b0 b1 b2 hqx hqy; obtain ⟨b0, b1, b2, hqx, hqy, -⟩ := zU
   replace HB := hU (bQ HB.out hb)
   go_wp2_with fail
   go_ret
   exact ⟨by rw [HRW.out]; rfl, HB.out⟩
  ·have g1b : (x != d) = true := by simp [g1]
   clear g1
   by_cases g2 : 0 ≤ vy
   ·have g2b : decide (vy ≥ 0) = true := by simp [g2]
    have g2c : decide (0 ≤ vy) = true := by simp [g2]
    cases p with
    | false =>
     have HRW : Hid (R = false) := hU (by rw [HRV.out, g1b, g2c]; rfl)
     clear g2 g2c
     obtain ⟨P1, P2, P3, P4, P5, -⟩ := kU b0 (kU b1 (kU b2 (kU hqx (kU hqy trivial))))
     refine wp_region_quiet_below (by kernel_rfl) (by kernel_rfl) ?_
     repeat (go_big_quiet_step ((first | (with_reducible exact HU2.out _ _) | (with_reducible exact HT2.out _ _) | (with_reducible exact HC2.out _ _))))
     refine wpQuiet_nil ?_
     intro W3 hb
     replace hb := eQ hb
     clear P1 P2 P3 P4 P5
     have zU := uU hb b0 (uU hb b1 (uU hb b2 (uU hb hqx (uU hb hqy trivial)))); clear b0 b1 b2 hqx hqy; obtain ⟨b0, b1, b2, hqx, hqy, -⟩ := zU
     replace HB := hU (bQ HB.out hb)
     go_wp2_with fail
     go_ret
     exact ⟨by rw [HRW.out]; rfl, HB.out⟩
    | true =>
     by_cases g3 : vx = vy + cst
     ·have g3b : (vx == vy + cst) = true := by simp [g3]
      have HRW : Hid (R = true) := hU (by rw [HRV.out, g1b, g2c, g3b]; rfl)
      clear g2 g2c g3
      obtain ⟨P1, P2, P3, P4, P5, -⟩ := kU b0 (kU b1 (kU b2 (kU hqx (kU hqy trivial))))
      refine wp_region_quiet_below (by kernel_rfl) (by kernel_rfl) ?_
      repeat (go_big_quiet_step ((first | (with_reducible exact HU2.out _ _) | (with_reducible exact HT2.out _ _) | (with_reducible exact HC2.out _ _))))
      refine wpQuiet_nil ?_
      intro W3 hb
      replace hb := eQ hb
      clear P1 P2 P3 P4 P5
      have zU := uU hb b0 (uU hb b1 (uU hb b2 (uU hb hqx (uU hb hqy trivial)))); clear b0 b1 b2 hqx hqy; obtain ⟨b0, b1, b2, hqx, hqy, -⟩ := zU
      replace HB := hU (bQ HB.out hb)
      go_wp2_with fail
      go_ret
      exact ⟨by rw [HRW.out]; rfl, HB.out⟩
     ·have g3b : (vx == vy + cst) = false := by simp [g3]
      have HRW : Hid (R = false) := hU (by rw [HRV.out, g1b, g2c, g3b]; rfl)
      clear g2 g2c g3
      obtain ⟨P1, P2, P3, P4, P5, -⟩ := kU b0 (kU b1 (kU b2 (kU hqx (kU hqy trivial))))
      refine wp_region_quiet_below (by kernel_rfl) (by kernel_rfl) ?_
      repeat (go_big_quiet_step ((first | (with_reducible exact HU2.out _ _) | (with_reducible exact HT2.out _ _) | (with_reducible exact HC2.out _ _))))
      refine wpQuiet_nil ?_
      intro W3 hb
      replace hb := eQ hb
      clear P1 P2 P3 P4 P5
      have zU := uU hb b0 (uU hb b1 (uU hb b2 (uU hb hqx (uU hb hqy trivial)))); clear b0 b1 b2 hqx hqy; obtain ⟨b0, b1, b2, hqx, hqy, -⟩ := zU
      replace HB := hU (bQ HB.out hb)
      go_wp2_with fail
      go_ret
      exact ⟨by rw [HRW.out]; rfl, HB.out⟩
   ·have g2b : decide (vy ≥ 0) = false := by simp; omega
    have g2c : decide (0 ≤ vy) = false := by simp; omega
    have HRW : Hid (R = false) := hU (by rw [HRV.out, g1b, g2c]; rfl)
    clear g2 g2c
    obtain ⟨P1, P2, P3, P4, P5, -⟩ := kU b0 (kU b1 (kU b2 (kU hqx (kU hqy trivial))))
    refine wp_region_quiet_below (by kernel_rfl) (by kernel_rfl) ?_
    repeat (go_big_quiet_step ((first | (with_reducible exact HU2.out _ _) | (with_reducible exact HT2.out _ _) | (with_reducible exact HC2.out _ _))))
    refine wpQuiet_nil ?_
    intro W3 hb
    replace hb := eQ hb
    clear P1 P2 P3 P4 P5
    have zU := uU hb b0 (uU hb b1 (uU hb b2 (uU hb hqx (uU hb hqy trivial)))); clear b0 b1 b2 hqx hqy; obtain ⟨b0, b1, b2, hqx, hqy, -⟩ := zU
    replace HB := hU (bQ HB.out hb)
    go_wp2_with fail
    go_ret
    exact ⟨by rw [HRW.out]; rfl, HB.out⟩
end
/-- Distances that are the least ones. -/
def Least (t : Topo) (dn : List Bool) (d : Int) (dist : List Int) : Prop := BI (sgDist t dn d) dist ∧ ∀ m, 0 ≤ m → m < ((sgDist t dn d).N : Int) → ∀ a ∈ (sgDist t dn d).arcs m, shut (sgDist t dn d) dist m a
/-- From a node that is reached and is not the end a shortest path goes on. -/
theorem Least.next {t : Topo} {dn : List Bool} {d s : Int} {dist : List Int} (hv : valid t = true) (h : Least t dn d dist) (h0 : 0 ≤ s) (h1 : s < t.n) (hr : 0 ≤ dD dist s) (hs : s ≠ d) :
    ∃ a, 0 ≤ a ∧ a < 2 * (t.ls.length : Int) ∧ tail t a = s ∧ onB t dn dist a d = true := by
 have hN := iZ hv
 have e : ((sgDist t dn d).N : Int) = t.n := by show ((t.n.toNat : Nat) : Int) = t.n; omega
 rcases h.1.td s h0 (by rw [e]; exact h1) hr with h2 | ⟨m, a, m0, m1, m2, m3, m4, m5, m6, m7⟩
 ·exact absurd h2 hs
 ·have h8 := h.2 m m0 m1 a m4 m2 m3 m5
  obtain ⟨a0, a1, a2⟩ := mem_ups.1 m4
  simp only [beq_iff_eq] at a2
  have m6' : tail t a = s := m6
  have h8' : 0 ≤ dD dist (tail t a) ∧ dD dist (tail t a) ≤ dD dist m + cost t a := h8
  have m7' : dD dist m + cost t a ≤ dD dist s := m7
  have m5' : upB dn a = true := m5
  refine ⟨a, a0, by omega, m6', ?_⟩
  unfold onB
  rw [m6', a2, m5']
  rw [m6'] at h8'
  have h9 : dD dist s = dD dist m + cost t a := by omega
  have hp : ((m == d) || !over t m) = true := by
   rcases m3 with h | h
   ·have : m = d := h
    simp [this]
   ·have : over t m = false := h
    simp [this]
  rw [hp, h9]
  simp [hs, m2]
/-- The next node is nearer. -/
theorem onB_less {t : Topo} {dn : List Bool} {d a : Int} {dist : List Int} (hv : valid t = true) (h0 : 0 ≤ a) (h1 : a < 2 * (t.ls.length : Int)) (h : onB t dn dist a d = true) : 0 ≤ dD dist (fZ t a) ∧ dD dist (fZ t a) < dD dist (tail t a) := by
 have hc := cost_bd hv h0 h1
 unfold onB at h
 simp only [Bool.and_eq_true, decide_eq_true_eq, beq_iff_eq] at h
 omega
section
variable {w : World} {A1 A2 D : Option Addr} {t : Topo} {dn : List Bool}
set_option maxRecDepth 100000 in
set_option maxHeartbeats 8000000 in
theorem ref11_Path (c1 c2 dc : Nat) (s d : Int) (hv : valid t = true) (hs : isN t.n s = true) (hd : isN t.n d = true) (hT : TAt w A1 A2 t) (hD : Rd w D (dn.map Value.bool)) (hdl : dn.length = 0 ∨ dn.length = 2 * t.ls.length) :
    Calls Tryz.prog 110 #[.agg #[.int .i64 t.n, .slice A1 t.ov.length c1, .slice A2 t.ls.length c2], .slice D dn.length dc, .int .i64 s, .int .i64 d] w fun e w' => ∃ (A : Option Addr) (n c : Nat) (x : Int), e = .returned (.tuple #[.slice A n c, .int .i64 x]) ∧ (x = 0 ↔ reach t dn s d) ∧ Below w.heap.size w w' := by
 obtain ⟨i0, hi, hz0, hz1, hz2⟩ := info_parts intInfo
 have hL := zQ hv
 have HX := hU (Bl.new w #[.int .i64 t.n, .slice A1 t.ov.length c1, .slice A2 t.ls.length c2] 25)
 have HB := hU (cQ w (.cells #[.int .i64 t.n, .slice A1 t.ov.length c1, .slice A2 t.ls.length c2] 25))
 have HV := hU hv
 have HT := hU hT
 have HD := hU hD
 have HDL := hU hdl
 have HDD := hU hd
 have HN := hU (iZ hv)
 have HSB := hU (isN_true.1 hs)
 have HDI := hU (ref11_Dist (w := w.alloc (.cells #[.int .i64 t.n, .slice A1 t.ov.length c1, .slice A2 t.ls.length c2] 25)) (D := D) (dn := dn) c1 c2 dc d hv hd (hT.below HB.out) (hD.below HB.out) hdl)
 obtain ⟨b0, b1, b2, _⟩ := HX.out.c3
 have hsn := (isN_true.1 hs).1
 have hsn1 : decide (s ≥ t.n) = false := by have := (isN_true.1 hs).2; simp; omega
 clear hv hs hd hT hD hdl
 go_enter Tryz.func110, Tryz.ntmps110
 go_upto_region 4 with (go_at_call 82; (with_reducible refine HDI.out.mono ?_); rintro e w2 ⟨A0, c0, dist, rfl, hr, hbi, hsh, hb⟩; replace HX := hU (HX.out.up hb); replace HB := hU (bQ HB.out hb); have HR := hU hr; have HLE : Hid (Least t dn d dist) := hU ⟨hbi, hsh⟩; clear hb hr hbi hsh b0 b1 b2 HDI; obtain ⟨b0, b1, b2, _⟩ := HX.out.c3)
 obtain ⟨N, hNe⟩ : ∃ N : Nat, t.n = (N : Int) := ⟨t.n.toNat, by have := HN.out; omega⟩
 have HNE := hU hNe
 have hGN : ((sgDist t dn d).N : Int) = (N : Int) := by show ((t.n.toNat : Nat) : Int) = N; omega
 have HGN := hU hGN
 have HLEN := hU (show dist.length = N by have := HLE.out.1.len; omega)
 have HOK := hU (sgDist_ok (dn := dn) HV.out HDD.out)
 have HIFF : Hid (0 ≤ dD dist s ↔ reach t dn s d) := hU (((HLE.out.1.done HOK.out HLE.out.2).iff HOK.out HSB.out.1 (by rw [HGN.out]; have := HSB.out; omega)).trans rchDist)
 have HBD : Hid (∀ i, 0 ≤ i → i < (N : Int) → -1 ≤ dD dist i ∧ dD dist i ≤ 65535 * 64) := hU (fun i h0 h1 => ⟨HLE.out.1.lo i h0 (by rw [HGN.out]; exact h1), HLE.out.1.hi HOK.out h0 (by rw [HGN.out]; exact h1)⟩)
 have hs1 : s < (N : Int) := by have := HSB.out.2; omega
 obtain ⟨db, dof, hA0, ds⟩ := dist_atR HR.out HLEN.out hsn hs1
 subst hA0
 have hln := HLEN.out
 rw [hln]
 clear hGN hNe
 by_cases hneg : dD dist s < 0
 ·go_wp2_with fail
  go_ret2
  exact ⟨none, 0, 0, 11, rfl, ⟨fun h => by omega, fun h => by have := HIFF.out.2 h; omega⟩, HB.out⟩
 ·have HRE : Hid (reach t dn s d) := hU (HIFF.out.1 (by omega))
  have HDS := hU (show 0 ≤ dD dist s ∧ dD dist s ≤ 4194240 from ⟨by omega, by have := HBD.out s hsn hs1; omega⟩)
  have HOW := hU (World.ownsRow_nil w2 w2.heap.size 3 1)
  obtain ⟨W2, hW2⟩ : ∃ W2, W2 = w2 := ⟨_, rfl⟩
  have HNEG := hU hneg
  clear hneg
  have hneg : decide (dD dist s < 0) = false := by simp; have := HDS.out; omega
  go_wp2_with fail
  go_loopg [2, 12] (dD dist s).toNat (fun g v2 v12 wx => ∃ (n : Int) (path : List Int), v2 = .int .i64 n ∧ 0 ≤ n ∧ n < (N : Int) ∧ Hid (wx.ownsRow w2.heap.size 3 1 v12 path.length (path.map (Value.int .i64))) ∧ Hid (Below w2.heap.size w2 wx) ∧ Hid (0 ≤ dD dist n ∧ (path.length : Int) + dD dist n ≤ dD dist s ∧ (g : Int) = dD dist n))
  case atStart => exact ⟨s, [], rfl, hsn, hs1, HOW, hU (Below.refl _ _), hU (by have := HDS.out; simp; omega)⟩
  case round =>
   clear HOW b0 b1 b2 ds hneg
   obtain ⟨n, path, rfl, hn0, hn1, HOW, HBW, HMS⟩ := hrel
   by_cases hnd : n = d
   ·subst hnd
    obtain ⟨Ap, cp, hpp, _⟩ := rd_of_own HOW.out
    subst hpp
    go_wp2_with fail
    go_ret2
    exact ⟨_, _, _, 0, rfl, ⟨fun _ => HRE.out, fun _ => rfl⟩, bQ HB.out HBW.out⟩
   ·have hndb : (n != d) = true := bne_iff_ne.2 hnd
    have HEX := hU (HLE.out.next HV.out hn0 (by have := HNE.out; omega) HMS.out.1 hnd)
    have HXW := hU (HX.out.up HBW.out)
    obtain ⟨g0, hg0e⟩ : ∃ g0, g0 = gk := ⟨_, rfl⟩
    have HMG : Hid ((g0 : Int) = dD dist n ∧ g0 = gk) := hU (by rw [hg0e]; exact ⟨HMS.out.2.2, rfl⟩)
    clear hnd hg0e
    go_wp2_with fail
    go_loopg [2, 12, 13] (2 * t.ls.length) (fun gk2 v2 v12 j wx => ∃ (q : Nat) (vp : Value), q + gk2 = 2 * t.ls.length ∧ j = .int .i64 q ∧ v12 = vp ∧ v2 = .int .i64 n ∧ Hid (∀ z : Int, 0 ≤ z → z < (q : Int) → ¬ (tail t z = n ∧ onB t dn dist z d = true)) ∧ Hid (wx.ownsRow w2.heap.size 3 1 vp path.length (path.map (Value.int .i64))) ∧ Hid (Below w2.heap.size w2 wx))
    case atStart => exact ⟨0, _, by omega, rfl, rfl, rfl, hU (fun z h0 h1 => by omega), HOW, HBW⟩
    case round =>
     clear HOW HBW HXW
     obtain ⟨q, vp, hqg, rfl, rfl, rfl, HNG, HOW, HBW⟩ := hrel
     have HXW := hU (HX.out.up HBW.out)
     obtain ⟨b0, b1, b2, _⟩ := HXW.out.c3
     have hw2 := IntWalk.wrap64_in (2 * (t.ls.length : Int)) (by omega)
     by_cases hlt : q < 2 * t.ls.length
     ·have hlt' : (q : Int) < 2 * (t.ls.length : Int) := by omega
      have HQ := hU (show isN (2 * (t.ls.length : Int)) (q : Int) = true from isN_true.2 ⟨by omega, hlt'⟩)
      have HQL := hU (show t.ls.length ≤ 256 from hL)
      have HTL := hU (fun (W : World) (hW : Below w2.heap.size w2 W) => ref09_TailT t A1 A2 c1 c2 (q : Int) W (HT.out.below (bQ HB.out hW)) (by have := HQL.out; omega) HV.out HQ.out)
      have HHL := hU (fun (W : World) (hW : Below w2.heap.size w2 W) => ref09_HeadT t A1 A2 c1 c2 (q : Int) W (HT.out.below (bQ HB.out hW)) (by have := HQL.out; omega) HV.out HQ.out)
      have HON := hU (fun (W : World) (hW : Below w2.heap.size w2 W) => ref11_On (w := W) c1 c2 dc c0 (q : Int) d HV.out (HT.out.below (bQ HB.out hW)) (HD.out.below (bQ HB.out hW)) HDL.out HQ.out (HR.out.below hW) (by rw [HLEN.out]; exact HNE.out.symm) (by rw [HNE.out]; exact HBD.out))
      have HSN : Hid (¬ (tail t (q : Int) = n ∧ onB t dn dist (q : Int) d = true) → ∀ z : Int, 0 ≤ z → z < ((q + 1 : Nat) : Int) → ¬ (tail t z = n ∧ onB t dn dist z d = true)) := hU (fun h z h0 h1 => by
       by_cases e : z = (q : Int)
       ·subst e; exact h
       ·exact HNG.out z h0 (by omega))
      rw [HLEN.out] at HON
      by_cases ht : tail t (q : Int) = n
      ·have htb : (tail t (q : Int) == n) = true := beq_iff_eq.2 ht
       have HTN := hU ht
       rw [ht] at HTL
       clear ht htb
       cases ho : onB t dn dist (q : Int) d with
       | false =>
        rw [ho] at HON
        have HNO : Hid (¬ (tail t (q : Int) = n ∧ onB t dn dist (q : Int) d = true)) := hU (fun h => by rw [ho] at h; cases h.2)
        clear ho
        go_wp2_with (first | (go_at_call 76; (with_reducible refine (HTL.out _ HBW.out).mono ?_); rintro e w5 ⟨rfl, hb⟩; replace HOW := hU (own_up HOW.out hb); replace HBW := hU (bQ HBW.out hb); clear hb b0 b1 b2; obtain ⟨b0, b1, b2, _⟩ := (HX.out.up HBW.out).c3) | (go_at_call 123; (with_reducible refine (HON.out _ HBW.out).mono ?_); rintro e w5 ⟨rfl, hb⟩; replace HOW := hU (own_up HOW.out hb); replace HBW := hU (bQ HBW.out hb); clear hb b0 b1 b2; obtain ⟨b0, b1, b2, _⟩ := (HX.out.up HBW.out).c3))
        go_roundg (gk - 1)
        case measure => omega
        case rel => exact ⟨q + 1, _, by omega, by go_num, rfl, rfl, hU (HSN.out HNO.out), HOW, HBW⟩
       | true =>
        rw [ho] at HON
        have HLS := hU (onB_less HV.out (by omega) hlt' ho)
        have HHB := hU (arc_ends2 HV.out (a := (q : Int)) (by omega) hlt')
        obtain ⟨m, hm⟩ : ∃ m, m = fZ t (q : Int) := ⟨_, rfl⟩
        rw [← hm] at HHL HLS
        have hm0 : 0 ≤ m := by rw [hm]; exact HHB.out.1
        have hm1 : m < (N : Int) := by rw [hm]; have := HHB.out.2.1; have := HNE.out; omega
        rw [HTN.out] at HLS
        clear ho hm
        go_wp2_with (first | (go_at_call 76; (with_reducible refine (HTL.out _ HBW.out).mono ?_); rintro e w5 ⟨rfl, hb⟩; replace HOW := hU (own_up HOW.out hb); replace HBW := hU (bQ HBW.out hb); clear hb b0 b1 b2; obtain ⟨b0, b1, b2, _⟩ := (HX.out.up HBW.out).c3) | (go_at_call 123; (with_reducible refine (HON.out _ HBW.out).mono ?_); rintro e w5 ⟨rfl, hb⟩; replace HOW := hU (own_up HOW.out hb); replace HBW := hU (bQ HBW.out hb); clear hb b0 b1 b2; obtain ⟨b0, b1, b2, _⟩ := (HX.out.up HBW.out).c3) | (at_builtin; refine wpList_append_own _ rfl _ _ 63 rfl w2.heap.size 3 i0 (.int .i64 0) 1 8 Tryz.underlying63 hi hz0 hz1 hz2 rfl (by decide) _ _ _ rfl (HOW.out.alloc _) ⟨_, 0, none⟩ 1 1 [.int .i64 (q : Int)] rfl rfl (cell_one_new _ _ _) ?c2 ?c3 ?c4 ?c5 ?_))
        case c2 => intro u hu; simp at hu; subst hu; rfl
        case c3 => have := HMS.out; have := HDS.out; unfold maxLen; omega
        case c4 => have := HMS.out; have := HDS.out; simp; omega
        case c5 => have := HBW.out.size; simp; omega
        intro v' w9 hown' hgrow _
        have R := own_next HOW.out HBW.out.size hown' hgrow
        have hb9 : Below w2.heap.size w2 w9 := HBW.out.trans R.2
        replace HOW := hU R.1
        replace HBW := hU hb9
        have hx9 := HX.out.up hb9
        clear hown' hgrow R hb9 b0 b1 b2
        obtain ⟨b0, b1, b2, _⟩ := hx9.c3
        clear hx9
        go_wp2_with (go_at_call 105; (with_reducible refine (HHL.out _ HBW.out).mono ?_); rintro e w5 ⟨rfl, hb⟩; replace HOW := hU (own_up HOW.out hb); replace HBW := hU (bQ HBW.out hb); clear hb b0 b1 b2; obtain ⟨b0, b1, b2, _⟩ := (HX.out.up HBW.out).c3)
        go_roundg (dD dist m).toNat
        case measure => have := HLS.out; have := HMG.out; omega
        case rel => exact ⟨m, path ++ [(q : Int)], rfl, hm0, hm1, hU (by simpa using HOW.out), HBW, hU (by have := HLS.out; have := HMS.out; simp; omega)⟩
      ·have htb : (tail t (q : Int) == n) = false := beq_eq_false_iff_ne.2 ht
       have HNO : Hid (¬ (tail t (q : Int) = n ∧ onB t dn dist (q : Int) d = true)) := hU (fun h => ht h.1)
       clear ht
       go_wp2_with (go_at_call 76; (with_reducible refine (HTL.out _ HBW.out).mono ?_); rintro e w5 ⟨rfl, hb⟩; replace HOW := hU (own_up HOW.out hb); replace HBW := hU (bQ HBW.out hb); clear hb b0 b1 b2; obtain ⟨b0, b1, b2, _⟩ := (HX.out.up HBW.out).c3)
       go_roundg (gk - 1)
       case measure => omega
       case rel => exact ⟨q + 1, _, by omega, by go_num, rfl, rfl, hU (HSN.out HNO.out), HOW, HBW⟩
     ·exfalso
      obtain ⟨a, a0, a1, a2, a3⟩ := HEX.out
      exact HNG.out a a0 (by omega) ⟨a2, a3⟩
end
end
end Go.Proofs.YtdnjflpmbnjgeaaGreat
