/-
  graph.Leaving, spf.From (printed by gen_spff.py).
-/
import Derived.Test.YtdnjflpmbnjgeaaGreatPkSpfD
set_option linter.unusedSimpArgs false
set_option linter.unusedVariables false
namespace Go.Proofs.YtdnjflpmbnjgeaaGreat
section
open Go.RowKit Go.Sort
theorem tail_bdO {t : Topo} (hv : valid t = true) {a : Int} (h0 : 0 ≤ a) (h1 : a < 2 * (t.ls.length : Int)) : 0 ≤ tail t a ∧ tail t a < t.n := by
 have := lnk_bd (valid_lnk hv (lnk_at h0 h1).2)
 unfold tail
 split <;> omega
def outN (t : Topo) (k : Nat) (n : Nat) : List Int := ups (outP t n) k
theorem outN_next (t : Topo) (k h : Nat) (hh : tail t k = (h : Int)) : outN t (k + 1) = addTo (outN t k) h k := by
 funext j
 unfold outN addTo
 by_cases e : j = h
 ·subst e; rw [if_pos rfl, ups_hit (by simp [outP, hh])]
 ·rw [if_neg e, ups_miss (by simp [outP, hh]; omega)]
/-- What Leaving returns. -/
def RetFanO (w : World) (t : Topo) (e : Ending) (w' : World) : Prop :=
 ∃ (g n cap : Nat) (vl : List Value), ((n : Nat) : Int) = t.n ∧ e = .returned (.slice (some ⟨g, 0, none⟩) n cap) ∧ Fan w' (w.heap.size + 1) g n cap vl (outN t (2 * t.ls.length)) ∧ Below w.heap.size w w'
set_option maxHeartbeats 1000000 in
theorem graph_Leaving (t : Topo) (A1 A2 : Option Addr) (c1 c2 : Nat) (w : World) (hT : TAt w A1 A2 t) (hn : t.ls.length ≤ 100000) (hv : valid t = true) :
    Calls Tryz.prog 91 #[.agg #[.int .i64 t.n, .slice A1 t.ov.length c1, .slice A2 t.ls.length c2]] w (RetFanO w t) := by
 obtain ⟨i0, hi, hz0, hz1, hz2⟩ := info_parts intInfo
 obtain ⟨j0, hj, hy0, hy1, hy2⟩ := info_parts sliceInfo
 have hX := TBox.start c1 c2 hT
 have HT0 := hU hT
 obtain ⟨hn1, hn2⟩ := iZ hv
 obtain ⟨m, hm⟩ : ∃ m : Nat, t.n = (m : Int) := ⟨t.n.toNat, by omega⟩
 have HM := hU hm
 have HV := hU hv
 have b0 := hX.b0
 have b1 := hX.b1
 have b2 := hX.b2
 have HX := hU hX
 rw [hm] at hn1 hn2
 clear hX hT hv hm
 go_enter Tryz.func91, Tryz.ntmps91
 go_wp2_with (first | (at_make; refine wpList_make_full _ rfl _ _ 131 rfl (w.heap.size + 1) 63 j0 (.slice none 0 0) 1 Tryz.underlying131 hj hy0 hy1 .i64 .i64 t.n t.n m rfl rfl HM.out HM.out ?d1 ?d2 ?d3 ?_))
 case d1 => rw [hy2]; omega
 case d2 => unfold maxLen; omega
 case d3 => simp
 intro w1 hown hgrow
 have F0 := Fan.start hown (toList_madeCells_one _ _)
 have hb1 : Below (w.alloc (.cells #[.int .i64 t.n, .slice A1 t.ov.length c1, .slice A2 t.ls.length c2] 25)).heap.size (w.alloc (.cells #[.int .i64 t.n, .slice A1 t.ov.length c1, .slice A2 t.ls.length c2] 25)) w1 := (Below.refl _ _).grown hgrow (Nat.le_refl _) (by simp)
 replace HX := hU (HX.out.up hb1)
 replace b0 := HX.out.b0
 replace b1 := HX.out.b1
 replace b2 := HX.out.b2
 have HF := hU F0
 clear hown hgrow F0 hb1
 go_wp2_with (go_at_call 52; refine (graph_Arcs _ _ _ _ _ _ hn).mono ?_; rintro e w2 ⟨rfl, hb2⟩)
 replace HX := hU (HX.out.up hb2)
 replace HF := hU (HF.out.up hb2)
 clear b0 b1 b2 hb2
 go_loopw [11] (fun i wr => ∃ (k : Nat) (vl : List Value), k ≤ 2 * t.ls.length ∧ i = .int .i64 k ∧ Hid (Fan wr (w.heap.size + 1) (w.heap.size + 1) m m vl (outN t k)) ∧ Hid (TBox w A1 A2 c1 c2 t wr)) (fun i _ => 2 * t.ls.length - (intOf i).toNat)
 case atStart => exact ⟨0, _, Nat.zero_le _, rfl, HF, HX⟩
 case round =>
  clear HX HF
  obtain ⟨k, vl, hk, rfl, HF, HX⟩ := hrel
  have b0 := HX.out.b0
  have b1 := HX.out.b1
  have b2 := HX.out.b2
  by_cases hlt : k < 2 * t.ls.length
  ·have hlt' : (k : Int) < 2 * (t.ls.length : Int) := by omega
   have hul := ups_le (outP t (tail t k)) k
   obtain ⟨h, hh⟩ : ∃ h : Nat, tail t k = (h : Int) := ⟨(tail t k).toNat, by have := tail_bdO HV.out (a := k) (by omega) hlt'; omega⟩
   have hhm : h < m := by have := tail_bdO HV.out (a := k) (by omega) hlt'; have := HM.out; omega
   rw [hh] at hul
   have HH := hU hh
   clear hh
   have hhm' : (h : Int) < (m : Int) := by omega
   have hul' : (outN t k h).length ≤ k := hul
   clear hul
   go_wp2_with (first | (go_at_call 55; refine (graph_Tail _ _ _ _ t _ _ HX.out.ta.ls (by omega) hlt' hn).mono ?_; rw [HH.out]; rintro e w3 ⟨rfl, hb3⟩; replace HX := hU (HX.out.up hb3); replace HF := hU (HF.out.up hb3); clear hb3 b0 b1 b2; obtain ⟨v, hv, hvc, hvo⟩ := HF.out.at_ hhm; have HVL := hU hv; have HVO := hU hvo; clear hv hvo) | (at_builtin; refine wpList_append_own_at _ rfl _ _ 63 rfl (w.heap.size + 1) 3 i0 (.int .i64 0) 1 8 Tryz.underlying63 hi hz0 hz1 hz2 rfl (by decide) v _ _ rfl (HVO.out.alloc _) ⟨_, 0, none⟩ 1 1 [.int .i64 k] rfl rfl (cell_one_new _ _ _) ?c2 ?c3 ?c4 ?c5 ?_))
   case c2 => intro u hu; simp at hu; subst hu; rfl
   case c3 => unfold maxLen; omega
   case c4 => omega
   case c5 => have := HF.out.lt; simp; omega
   intro v' w4 hown' hgrow _ hat
   have F1 := hU (HF.out.step HVL.out hown' hgrow (by simpa using hat))
   have F2 := hU (HF.out.below (v' := v') HVL.out (by have := HF.out.lt; omega) hgrow)
   have F3 := HF.out.mid HVL.out hgrow
   have q0 : w4.cell? ⟨w.heap.size + 1, h, none⟩ = some v := by
    rw [F3.cellAt h (by omega)]; exact HVL.out
   have q1 : w4.frozen? ⟨w.heap.size + 1, h, none⟩ = false := F3.frozenAt h
   have HS := hU hown'.2
   clear hown' hgrow hat F3
   obtain ⟨A', cp, rfl⟩ : ∃ A' cp, v' = .slice A' ((outN t k h).length + 1) cp := by
    rcases HS.out with ⟨_, h0⟩ | ⟨g, cp, cur, hv', _⟩
    ·omega
    ·exact ⟨_, _, hv'⟩
   go_wp2_with fail
   go_roundw
   case rel => exact ⟨k + 1, _, by omega, by go_num, hU (by rw [outN_next t k h HH.out]; exact F1.out), hU (keep_box HX.out F2.out HT0.out)⟩
   case measure => simp [intOf]; omega
  ·obtain rfl : k = 2 * t.ls.length := by omega
   go_wp2_with fail
   go_ret
   exact ⟨_, _, _, _, HM.out.symm, rfl, HF.out, HX.out.hb⟩
section
variable {w : World} {A1 A2 D : Option Addr} {t : Topo} {dn : List Bool} {c1 c2 dc : Nat} {r : Int} {cF cE : Value}
set_option maxRecDepth 100000 in
set_option maxHeartbeats 8000000 in
theorem spf_runFrom (hv : valid t = true) (hr : isN t.n r = true) (hT : TAt w A1 A2 t) (hD : Rd w D (dn.map Value.bool)) (hdl : dn.length = 0 ∨ dn.length = 2 * t.ls.length)
    (hF : ∀ n : Int, 0 ≤ n → n < t.n → ∃ A c, ∀ W, Below w.heap.size w W → Rd W A (((sgFrom t dn r).arcs n).map (Value.int .i64)) ∧ Calls Tryz.prog 92 #[.int .i64 n, cF] W fun e w' => e = .returned (.slice A ((sgFrom t dn r).arcs n).length c) ∧ Below W.heap.size W w')
    (hE : ∀ W, Below w.heap.size w W → ∀ a : Int, 0 ≤ a → a < 2 * (t.ls.length : Int) → Calls Tryz.prog 93 #[.int .i64 a, cE] W fun e w' => e = .returned (.int .i64 (fZ t a)) ∧ Below W.heap.size W w') :
    Calls Tryz.prog 94 #[.agg #[.int .i64 t.n, .slice A1 t.ov.length c1, .slice A2 t.ls.length c2, .slice D dn.length dc, .int .i64 r, .func (.func 92) #[] #[cF], .func (.func 93) #[] #[cE]]] w fun e w' => ∃ (A : Option Addr) (c : Nat) (dist : List Int), e = .returned (.slice A dist.length c) ∧ Rd w' A (dist.map (Value.int .i64)) ∧ SR (sgFrom t dn r) dist ∧ Below w.heap.size w w' := by
 have hN := iZ hv
 have hL := zQ hv
 obtain ⟨N, hNe⟩ : ∃ N, N = t.n.toNat := ⟨_, rfl⟩
 have hmk : ∀ W, (Instr.makeSlice 63 (.int .i64 t.n) (.int .i64 t.n)).run Tryz.prog W = .ok (.slice (some ⟨W.heap.size, 0, none⟩) N N) (mkI N W) := fun W => by
  have := run_mkI N (by omega) W
  rwa [show (N : Int) = t.n by omega] at this
 have HV := hU hv
 have HN := hU hN
 have HNE := hU hNe
 have HT0 := hU hT
 have HD0 := hU hD
 have HF := hU hF
 have HE := hU hE
 have HDL := hU hdl
 have HRN := hU (isN_true.1 hr)
 obtain ⟨G, hG⟩ : ∃ G, G = sgFrom t dn r := ⟨_, rfl⟩
 have HG := hU hG
 have HX := hU (Bl.new w #[.int .i64 t.n, .slice A1 t.ov.length c1, .slice A2 t.ls.length c2, .slice D dn.length dc, .int .i64 r, .func (.func 92) #[] #[cF], .func (.func 93) #[] #[cE]] 136)
 have HB := hU (cQ w (.cells #[.int .i64 t.n, .slice A1 t.ov.length c1, .slice A2 t.ls.length c2, .slice D dn.length dc, .int .i64 r, .func (.func 92) #[] #[cF], .func (.func 93) #[] #[cE]] 136))
 have hN64 : N ≤ 64 := by omega
 clear hv hN hT hD hF hE hdl hr hNe hG
 go_enter Tryz.func94, Tryz.ntmps94
 obtain ⟨x0, x1, x2, x3, x4, x5, x6, fx⟩ := HX.out.c7
 obtain ⟨cs, hcs⟩ : ∃ cs : Array Value, cs = #[.int .i64 t.n, .slice A1 t.ov.length c1, .slice A2 t.ls.length c2, .slice D dn.length dc, .int .i64 r, .func (.func 92) #[] #[cF], .func (.func 93) #[] #[cE]] := ⟨_, rfl⟩
 have HCS := hU hcs
 have HRX0 : Hid (RX w cs N (fillN N 0) (mkI N (w.alloc (.cells cs 136)))) := hU (by
  rw [hcs]
  refine ⟨HX.out.up (mkI_below _ _), ?_, bQ HB.out (mkI_below _ _)⟩
  rw [fillN_zero]
  have := mkI_own N (by omega) (w.alloc (.cells #[.int .i64 t.n, .slice A1 t.ov.length c1, .slice A2 t.ls.length c2, .slice D dn.length dc, .int .i64 r, .func (.func 92) #[] #[cF], .func (.func 93) #[] #[cE]] 136)) (w.heap.size + 1) (by simp)
  simpa using this)
 go_upto_region 2 with fail
 rw [← hcs]
 generalize mkI N (w.alloc (.cells cs 136)) = W1 at HRX0 ⊢
 rw [hcs]
 clear hcs x0 x1 x2 x3 x4 x5 x6 fx HX HB hmk
 go_wp2_with fail
 go_loopw [22] (fun i wr => ∃ k : Nat, k ≤ N ∧ i = .int .i64 k ∧ Hid (RX w cs N (fillN N k) wr)) (fun i _ => N - (intOf i).toNat)
 case atStart => exact ⟨0, Nat.zero_le _, rfl, HRX0⟩
 case round =>
  clear HRX0
  obtain ⟨k, hk, rfl, HRX⟩ := hrel
  by_cases hlt : k < N
  ·have hlt' : (k : Int) < (N : Int) := by omega
   obtain ⟨dk, fk⟩ := bZ HRX.out.d hlt
   go_wp2_with fail
   go_roundw
   case rel => exact ⟨k + 1, by omega, by go_num, hU (by rw [← fillN_set]; exact HRX.out.put k (-1))⟩
   case measure => simp [intOf]; omega
  ·obtain rfl : k = N := by omega
   have HRX2 : Hid (RX w cs k (List.replicate k (-1)) wr) := hU (by have := HRX.out; rwa [fillN_done] at this)
   have hB := HRX2.out.x
   rw [HCS.out] at hB
   obtain ⟨x0, x1, x2, x3, x4, x5, x6, fx⟩ := hB.c7
   have hnk : (k : Int) = t.n := by have := HNE.out; have := HN.out; omega
   have HNEW := hU (heap_New0 k (by omega) wr)
   rw [hnk] at HNEW
   clear hB x1 x2 x3 x5 x6 fx HRX hnk
   go_wp2_with (first | (go_at_call 112; refine HNEW.out.mono ?_; rintro e w3 ⟨hb, kb, pb, rfl, hh, hbl⟩; have HH3 := hU hh; have HBW := hU HRX2.out.lt; replace HRX2 := hU (HRX2.out.up hbl); replace x0 := aQ hbl x0; replace x4 := aQ hbl x4; have HST := hU (heap_Set r 0 (by omega) (HP.start k) hh HRN.out.1 (by have := HNE.out; have := HRN.out; have := HN.out; omega)); clear hh hbl) | (go_at_call 113; refine HST.out.mono ?_; rintro e w4 ⟨rfl, v4, ps4, os4, hk4⟩; have HK4 := hU hk4; clear hk4))
   have HGOK : Hid G.Ok := hU (by rw [HG.out]; exact sgFrom_ok HV.out (by have := HRN.out; exact isN_true.2 this))
   have HGN : Hid (G.N = k) := hU (by rw [HG.out]; exact HNE.out.symm)
   have HGR : Hid (G.r = r) := hU (by rw [HG.out]; rfl)
   obtain rfl : os4 = [r] := List.perm_singleton.1 HK4.out.m
   have HSI0 : Hid (SI G (List.replicate k (-1)) ((List.replicate k 0).set r.toNat 0) [r] (-1) []) := hU (by have := SI.start G HGOK.out; rwa [HGN.out, HGR.out] at this)
   have HRX4 : Hid (RX w cs k (List.replicate k (-1)) w4) := hU (HRX2.out.heap HK4.out.b HBW.out)
   have HC0 : Hid (cnt (List.replicate k (-1)) = 0) := hU (cnt_none k)
   obtain ⟨BB, hBB⟩ : ∃ BB, BB = wr.heap.size := ⟨_, rfl⟩
   have HBB : Hid (w.heap.size + 2 ≤ BB) := hU (by rw [hBB]; exact HBW.out)
   have HKR : Hid (HeapR BB hb k kb pb v4 ((List.replicate k 0).set r.toNat 0) ps4 [r] w4) := hU (by rw [hBB]; exact HK4.out.r)
   have HKP := hU HK4.out.p
   clear HRX2 HNEW HST HH3 x0 x4 hBB HK4 HBW
   go_loopg [7] k (fun gk _ wx => ∃ (dist ks ps os : List Int) (v : Value) (pend : Int), Hid (RX w cs k dist wx) ∧ Hid (SI G dist ks os pend []) ∧ Hid (HP k ks ps os) ∧ Hid (HeapR BB hb k kb pb v ks ps os wx) ∧ Hid (cnt dist + gk = k))
   case atStart => exact ⟨_, _, ps4, [r], v4, -1, HRX4, HSI0, HKP, HKR, hU (by rw [HC0.out]; omega)⟩
   case round =>
    clear HRX4 HSI0 HKR HKP HC0
    obtain ⟨dist, ks, ps, os, v, pend, HRX, HSI, HHP, HHR, HCN⟩ := hrel
    rcases Nat.eq_zero_or_pos os.length with hz | hpos
    ·obtain rfl := List.eq_nil_of_length_eq_zero hz
     have HPN := hU (heap_Pop_none HHR.out)
     clear hz
     go_wp2_with (go_at_call 114; refine HPN.out.mono ?_; rintro e w5 ⟨rfl, hb⟩; replace HRX := hU (HRX.out.up hb); clear hb)
     go_ret
     obtain ⟨A, c, e1, _, _, hrd⟩ := rd_of_ownK HRX.out.d
     injection e1 with e1 _ e3
     subst e1 e3
     have hlen : dist.length = k := by have := HSI.out.len; rw [HGN.out] at this; exact this
     exact ⟨_, k, dist, by rw [hlen]; rfl, hrd, by have := HSI.out.done HGOK.out; rw [HG.out] at this; exact this, HRX.out.b⟩
    ·have HPS := hU (heap_Pop_some (by omega) HHP.out HHR.out hpos)
     clear hpos
     go_upto_region 13 with (go_at_call 114; refine HPS.out.mono ?_; rintro e w5 ⟨i, him, rfl, ps5, os5, v5, hk5⟩; have HIM := hU him; have HT5 := hU hk5; have HRX5 := hU (HRX.out.heap hk5.b HBB.out); obtain ⟨i0, i1, i2⟩ := HSI.out.hm i him; rw [HGN.out] at i1; obtain ⟨key, hkey⟩ : ∃ key, key = ks.getD i.toNat 0 := ⟨_, rfl⟩; rw [← hkey]; have HKEY := hU hkey; obtain ⟨dk, fk⟩ := bZ HRX5.out.d (k := i.toNat) (by omega); clear him hk5 i2 hkey)
     refine wp_named3 (fun X => RX w cs k (dist.set i.toNat key) X ∧ HeapR BB hb k kb pb v5 (ks.set i.toNat 0) ps5 os5 X) ⟨HRX5.out.put _ _, HT5.out.r.far (by have := HBB.out; omega) _ _⟩ ?_
     rintro X ⟨hX1, hX2⟩
     have HRX6 := hU hX1
     have HHR6 := hU hX2
     have HHP6 := hU HT5.out.p
     have HPOP : Hid (∀ todo, (G.pass i → todo = G.arcs i) → SI G (dist.set i.toNat key) (ks.set i.toNat 0) os5 i todo) := hU fun todo ht => by
      have := HSI.out.pop HGOK.out HIM.out HHP.out.nodup HT5.out.m ht
      rw [← HKEY.out] at this
      exact this
     have HKB := hU (HSI.out.bk i HIM.out)
     rw [← HKEY.out] at HKB
     have HCS1 : Hid (cnt (dist.set i.toNat key) = cnt dist + 1) := hU (cnt_set dist i.toNat key (by have := HSI.out.len; rw [HGN.out] at this; omega) (by have := (HSI.out.hm i HIM.out).2.2; unfold dD at this; omega) HKB.out.1)
     have HCN1 : Hid (cnt (dist.set i.toNat key) ≤ k) := hU (by have := cnt_le (dist.set i.toNat key); rw [List.length_set] at this; have h2 := HSI.out.len; rw [HGN.out] at h2; omega)
     have HDI : Hid (dD (dist.set i.toNat key) i = key) := hU (by rw [dD_set i0 i0 (by have := HSI.out.len; rw [HGN.out] at this; omega), if_pos rfl])
     have HIX : Hid (i < t.n) := hU (by have := HNE.out; have := HN.out; omega)
     clear hX1 hX2 dk fk HPS HT5 HRX5 HRX HHR HHP HSI HIM
     have hcx := HRX6.out.x
     rw [HCS.out] at hcx
     obtain ⟨x0, x1, x2, x3, x4, x5, x6, fx⟩ := hcx.c7
     clear hcx x3 x5 x6 fx
     go_cut [62] from 40 to 110 (fun x wx => x = .bool (!(i == r) && over t i) ∧ Hid (RX w cs k (dist.set i.toNat key) wx) ∧ Hid (HeapR BB hb k kb pb v5 (ks.set i.toNat 0) ps5 os5 wx))
     case first =>
      by_cases e : i = r
      ·have hne : (i != r) = false := by simp [e]
       have HEQ : Hid ((!(i == r) && over t i) = false) := hU (by simp [e])
       clear e
       go_wp2_with fail
       go_meet
       exact ⟨by rw [HEQ.out], HRX6, HHR6⟩
      ·have hne : (i != r) = true := by simp [e]
       have HEQ : Hid ((!(i == r) && over t i) = over t i) := hU (by simp [e])
       have hov : t.ov.length = 0 ∨ i < (t.ov.length : Int) := by have := HIX.out; rcases valid_ov HV.out with h | h; exact .inl h; exact .inr (by omega)
       clear e
       go_wp2_with (go_at_call 115; refine (graph_Over _ _ _ _ t _ _ (HT0.out.ov.below HRX6.out.b) i0 hov).mono ?_; rintro e w7 ⟨rfl, hb⟩; replace HRX6 := hU (HRX6.out.up hb); replace HHR6 := hU (HHR6.out.up hb); clear hb)
       go_meet
       exact ⟨by rw [HEQ.out], HRX6, HHR6⟩
     case rest =>
      clear HRX6 HHR6 x0 x1 x2 x4
      obtain ⟨rfl, HRX6, HHR6⟩ := hcut
      cases hc : (!(i == r) && over t i) with
      | true =>
       have HNP : Hid (¬ G.pass i) := hU (by
        simp only [Bool.and_eq_true, Bool.not_eq_true', beq_eq_false_iff_ne] at hc
        rintro (h | h)
        ·exact hc.1 (by rw [HG.out] at h; exact h)
        ·rw [HG.out] at h; exact Bool.noConfusion (hc.2.symm.trans h))
       clear hc
       go_wp2_with fail
       go_roundg (gk - 1)
       case measure => have := HCN.out; have := HCS1.out; have := HCN1.out; omega
       case rel => exact ⟨_, _, _, _, _, i, HRX6, hU (HPOP.out [] (fun h => absurd h HNP.out)), HHP6, HHR6, hU (by have := HCN.out; have := HCS1.out; have := HCN1.out; omega)⟩
      | false =>
       have HPI : Hid (G.pass i) := hU (by
        simp only [Bool.and_eq_false_iff, Bool.not_eq_false', beq_iff_eq] at hc
        rcases hc with h | h
        ·exact .inl (by rw [HG.out]; exact h)
        ·exact .inr (by rw [HG.out]; exact h))
       clear hc
       obtain ⟨g0, hg0⟩ : ∃ g0, g0 = gk := ⟨_, rfl⟩
       have HG0 := hU hg0
       have HCN0 : Hid (cnt dist + g0 = k) := hU (by rw [hg0]; exact HCN.out)
       clear hg0 HCN
       generalize dist.set i.toNat key = ds at *
       have hcx := HRX6.out.x
       rw [HCS.out] at hcx
       obtain ⟨x0, x1, x2, x3, x4, x5, x6, fx⟩ := hcx.c7
       obtain ⟨Al, cl, hfl⟩ := HF.out i i0 HIX.out
       obtain ⟨l, hl⟩ : ∃ l, l = (sgFrom t dn r).arcs i := ⟨_, rfl⟩
       rw [← hl] at hfl
       have hll : l.length ≤ 512 := by rw [hl]; exact Nat.le_trans (ups_le _ _) (by omega)
       have HFL := hU hfl
       have HLE := hU hl
       have HLG : Hid (l = G.arcs i) := hU (by rw [HG.out]; exact hl)
       clear hcx x0 x1 x2 x3 x4 x6 fx hfl hl
       go_wp2_with (go_at_call 92; refine (HFL.out _ HRX6.out.b).2.mono ?_; rintro e w8 ⟨rfl, hb⟩; replace HRX6 := hU (HRX6.out.up hb); replace HHR6 := hU (HHR6.out.up hb); clear hb x5)
       go_loopg [68] l.length (fun g j wx => ∃ (q : Nat) (ks' ps' os' : List Int) (v' : Value), q + g = l.length ∧ j = .int .i64 q ∧ Hid (RX w cs k ds wx) ∧ Hid (SI G ds ks' os' i (l.drop q)) ∧ Hid (HP k ks' ps' os') ∧ Hid (HeapR BB hb k kb pb v' ks' ps' os' wx))
       case atStart => exact ⟨0, _, _, _, _, by omega, rfl, HRX6, hU (HPOP.out _ (fun _ => HLG.out)), HHP6, HHR6⟩
       case round =>
        clear HRX6 HHP6 HHR6
        obtain ⟨q, ks', ps', os', v', hqg, rfl, HRX, HSI, HHP, HHR⟩ := hrel
        by_cases hlt : q < l.length
        ·have hlt' : (q : Int) < (l.length : Int) := by omega
         obtain ⟨bz, oz, a, rfl, haz, caz⟩ := ints_at (HFL.out _ HRX.out.b).1 hlt
         have HDR : Hid (l.drop q = a :: l.drop (q + 1)) := hU (by rw [List.drop_eq_getElem_cons hlt]; congr 1; rw [List.getElem?_eq_getElem hlt] at haz; injection haz)
         have HAM : Hid (a ∈ G.arcs i) := hU (by rw [← HLG.out]; exact List.mem_of_getElem? haz)
         have hab : 0 ≤ a ∧ a < 2 * (t.ls.length : Int) := by
          have h1 := List.mem_of_getElem? haz
          rw [HLE.out] at h1
          have h2 := mem_ups.1 h1
          omega
         obtain ⟨ha0, ha1⟩ := hab
         have hends := arc_ends2 HV.out ha0 ha1
         obtain ⟨m, hm⟩ : ∃ m, m = fZ t a := ⟨_, rfl⟩
         have HME := hU hm
         have HMG : Hid (G.en a = m) := hU (by rw [HG.out]; exact hm.symm)
         have hm0 : 0 ≤ m := by rw [hm]; exact hends.1
         have hm1 : m < (k : Int) := by have : m < t.n := by rw [hm]; exact hends.2.1
                                        have := HNE.out; have := HN.out; omega
         have hco := cost_bd HV.out ha0 ha1
         obtain ⟨dm, fm⟩ := bZ HRX.out.d (k := m.toNat) (by omega)
         have HDD : Hid (dD ds m = ds.getD m.toNat 0) := hU (by
          unfold dD
          have h1 := HRX.out.d.1
          rw [List.length_map, Nat.mul_one] at h1
          rw [List.getD_eq_getElem?_getD, List.getD_eq_getElem?_getD, List.getElem?_eq_getElem (by omega)]; rfl)
         generalize ds.getD m.toNat 0 = dmv at dm HDD
         have hcx := HRX.out.x
         rw [HCS.out] at hcx
         obtain ⟨x0, x1, x2, x3, x4, x5, x6, fx⟩ := hcx.c7
         have HDW : Hid (∀ W, Below w.heap.size w W → Calls Tryz.prog 116 #[.slice D dn.length dc, .int .i64 a] W fun e w' => e = .returned (.bool (!upB dn a)) ∧ Below W.heap.size W w') := hU fun W hW => graph_Down D dc dn a W (HD0.out.below hW) ha0 (by rcases HDL.out with h | h; exact .inl h; exact .inr (by omega))
         have HEW : Hid (∀ W, Below w.heap.size w W → Calls Tryz.prog 93 #[.int .i64 a, cE] W fun e w' => e = .returned (.int .i64 m) ∧ Below W.heap.size W w') := hU fun W hW => by rw [hm]; exact HE.out W hW a ha0 ha1
         clear hcx x4 x5 fx hends haz hm
         cases hu : upB dn a with
         | false =>
          have HUG : Hid (G.up a = false) := hU (by rw [HG.out]; exact hu)
          rw [hu] at HDW
          go_wp2_with (first | (go_at_call 93; refine (HEW.out _ HRX.out.b).mono ?_; rintro e w9 ⟨rfl, hb⟩; replace HRX := hU (HRX.out.up hb); replace HHR := hU (HHR.out.up hb); replace x3 := aQ hb x3; clear hb caz x6 dm fm x0 x1 x2) | (go_at_call 116; refine (HDW.out _ HRX.out.b).mono ?_; rintro e w10 ⟨rfl, hb⟩; replace HRX := hU (HRX.out.up hb); replace HHR := hU (HHR.out.up hb); clear hb x3))
          go_roundg (gk - 1)
          case measure => omega
          case rel => exact ⟨q + 1, ks', ps', os', v', by omega, by go_num, HRX, hU (SI.skip (by rw [← HDR.out]; exact HSI.out) (fun h => by rw [HUG.out] at h; cases h)), HHP, HHR⟩
         | true =>
          have HUG : Hid (G.up a = true) := hU (by rw [HG.out]; exact hu)
          rw [hu] at HDW
          by_cases hd0 : 0 ≤ dmv
          ·have HDP : Hid (0 ≤ dD ds (G.en a)) := hU (by rw [HMG.out, HDD.out]; exact hd0)
           go_wp2_with (first | (go_at_call 93; refine (HEW.out _ HRX.out.b).mono ?_; rintro e w9 ⟨rfl, hb⟩; replace HRX := hU (HRX.out.up hb); replace HHR := hU (HHR.out.up hb); have zU := uU hb x0 (uU hb x1 (uU hb x2 (uU hb x3 (uU hb dm trivial)))); clear x0 x1 x2 x3 dm; obtain ⟨x0, x1, x2, x3, dm, -⟩ := zU; clear hb caz x6 fm) | (go_at_call 116; refine (HDW.out _ HRX.out.b).mono ?_; rintro e w10 ⟨rfl, hb⟩; replace HRX := hU (HRX.out.up hb); replace HHR := hU (HHR.out.up hb); have zU := uU hb x0 (uU hb x1 (uU hb x2 (uU hb dm trivial))); clear x0 x1 x2 dm; obtain ⟨x0, x1, x2, dm, -⟩ := zU; clear hb x3))
           go_roundg (gk - 1)
           case measure => omega
           case rel => exact ⟨q + 1, ks', ps', os', v', by omega, by go_num, HRX, hU (SI.skip (by rw [← HDR.out]; exact HSI.out) (fun _ => .inl HDP.out)), HHP, HHR⟩
          ·have hkb : 0 ≤ key ∧ key ≤ 65535 * 64 := by have := HKB.out; have := HCS1.out; have := HCN1.out; omega
           obtain ⟨hk0, hk1⟩ := hkb
           obtain ⟨hc0, hc1⟩ := hco
           have HPUT : Hid (∀ os2 : List Int, os2.Perm (if m ∈ os' then os' else os' ++ [m]) → Hid (SI G ds (ks'.set m.toNat (key + cost t a)) os2 i (l.drop (q + 1)))) := hU fun os2 h2 => hU (by
            have h3 := SI.put HGOK.out (os' := os2) (by rw [← HDR.out]; exact HSI.out) HAM.out i0 (by rw [HGN.out]; exact i1) (by rw [HDI.out]; exact hk0) HPI.out HUG.out (by rw [HMG.out, HDD.out]; omega) (by rw [HDI.out, HCS1.out]; have := HKB.out; omega) (by rw [HMG.out]; exact h2)
            rw [HMG.out, HDI.out, show G.cost a = cost t a by rw [HG.out]; rfl] at h3
            exact h3)
           by_cases hmem : m ∈ os'
           ·have HIN := hU hmem
            obtain ⟨km, hkm⟩ : ∃ km, km = ks'.getD m.toNat 0 := ⟨_, rfl⟩
            have e1 : (if m ∈ os' then ks'.getD m.toNat 0 else 0) = km := by rw [if_pos hmem, hkm]
            have e2 : decide (m ∈ os') = true := decide_eq_true hmem
            have HE1 := hU e1
            have HE2 := hU e2
            clear hmem e1 e2 hkm
            by_cases hlk : key + cost t a < km
            ·go_wp2_with (first | (go_at_call 93; refine (HEW.out _ HRX.out.b).mono ?_; rintro e w9 ⟨rfl, hb⟩; replace HRX := hU (HRX.out.up hb); replace HHR := hU (HHR.out.up hb); have zU := uU hb x0 (uU hb x1 (uU hb x2 (uU hb x3 (uU hb dm trivial)))); clear x0 x1 x2 x3 dm; obtain ⟨x0, x1, x2, x3, dm, -⟩ := zU; clear hb caz x6 fm) | (go_at_call 116; refine (HDW.out _ HRX.out.b).mono ?_; rintro e w10 ⟨rfl, hb⟩; replace HRX := hU (HRX.out.up hb); replace HHR := hU (HHR.out.up hb); have zU := uU hb x0 (uU hb x1 (uU hb x2 (uU hb dm trivial))); clear x0 x1 x2 dm; obtain ⟨x0, x1, x2, dm, -⟩ := zU; clear hb x3) | (go_at_call 117; refine (graph_Cost _ _ _ _ t _ _ (HT0.out.ls.below HRX.out.b) ha0 ha1 (by omega)).mono ?_; rintro e w11 ⟨rfl, hb⟩; replace HRX := hU (HRX.out.up hb); replace HHR := hU (HHR.out.up hb); have HKY := hU (heap_Key m (by omega) HHP.out HHR.out hm0 hm1); clear hb x0 x1 x2) | (go_at_call 118; refine HKY.out.mono ?_; rw [HE1.out, HE2.out]; rintro e w12 ⟨rfl, hb⟩; replace HRX := hU (HRX.out.up hb); replace HHR := hU (HHR.out.up hb); have HSET := hU (heap_Set m (key + cost t a) (by omega) HHP.out HHR.out hm0 hm1); clear hb) | (go_at_call 113; refine HSET.out.mono ?_; rintro e w13 ⟨rfl, v3, ps3, os3, hk3⟩; have HK3 := hU hk3; clear hk3))
             go_roundg (gk - 1)
             case measure => omega
             case rel => exact ⟨q + 1, _, ps3, os3, v3, by omega, by go_num, hU (HRX.out.heap HK3.out.b HBB.out), HPUT.out _ HK3.out.m, hU HK3.out.p, hU HK3.out.r⟩
            ·go_wp2_with (first | (go_at_call 93; refine (HEW.out _ HRX.out.b).mono ?_; rintro e w9 ⟨rfl, hb⟩; replace HRX := hU (HRX.out.up hb); replace HHR := hU (HHR.out.up hb); have zU := uU hb x0 (uU hb x1 (uU hb x2 (uU hb x3 (uU hb dm trivial)))); clear x0 x1 x2 x3 dm; obtain ⟨x0, x1, x2, x3, dm, -⟩ := zU; clear hb caz x6 fm) | (go_at_call 116; refine (HDW.out _ HRX.out.b).mono ?_; rintro e w10 ⟨rfl, hb⟩; replace HRX := hU (HRX.out.up hb); replace HHR := hU (HHR.out.up hb); have zU := uU hb x0 (uU hb x1 (uU hb x2 (uU hb dm trivial))); clear x0 x1 x2 dm; obtain ⟨x0, x1, x2, dm, -⟩ := zU; clear hb x3) | (go_at_call 117; refine (graph_Cost _ _ _ _ t _ _ (HT0.out.ls.below HRX.out.b) ha0 ha1 (by omega)).mono ?_; rintro e w11 ⟨rfl, hb⟩; replace HRX := hU (HRX.out.up hb); replace HHR := hU (HHR.out.up hb); have HKY := hU (heap_Key m (by omega) HHP.out HHR.out hm0 hm1); clear hb x0 x1 x2) | (go_at_call 118; refine HKY.out.mono ?_; rw [HE1.out, HE2.out]; rintro e w12 ⟨rfl, hb⟩; replace HRX := hU (HRX.out.up hb); replace HHR := hU (HHR.out.up hb); have HSET := hU (heap_Set m (key + cost t a) (by omega) HHP.out HHR.out hm0 hm1); clear hb) | (go_at_call 113; refine HSET.out.mono ?_; rintro e w13 ⟨rfl, v3, ps3, os3, hk3⟩; have HK3 := hU hk3; clear hk3))
             go_roundg (gk - 1)
             case measure => omega
             case rel => exact ⟨q + 1, ks', ps', os', v', by omega, by go_num, HRX, hU (SI.skip (by rw [← HDR.out]; exact HSI.out) (fun _ => .inr (by rw [HMG.out]; exact HIN.out))), HHP, HHR⟩
           ·have e1 : (if m ∈ os' then ks'.getD m.toNat 0 else 0) = 0 := if_neg hmem
            have e2 : decide (m ∈ os') = false := decide_eq_false hmem
            have HE1 := hU e1
            have HE2 := hU e2
            clear hmem e1 e2
            go_wp2_with (first | (go_at_call 93; refine (HEW.out _ HRX.out.b).mono ?_; rintro e w9 ⟨rfl, hb⟩; replace HRX := hU (HRX.out.up hb); replace HHR := hU (HHR.out.up hb); have zU := uU hb x0 (uU hb x1 (uU hb x2 (uU hb x3 (uU hb dm trivial)))); clear x0 x1 x2 x3 dm; obtain ⟨x0, x1, x2, x3, dm, -⟩ := zU; clear hb caz x6 fm) | (go_at_call 116; refine (HDW.out _ HRX.out.b).mono ?_; rintro e w10 ⟨rfl, hb⟩; replace HRX := hU (HRX.out.up hb); replace HHR := hU (HHR.out.up hb); have zU := uU hb x0 (uU hb x1 (uU hb x2 (uU hb dm trivial))); clear x0 x1 x2 dm; obtain ⟨x0, x1, x2, dm, -⟩ := zU; clear hb x3) | (go_at_call 117; refine (graph_Cost _ _ _ _ t _ _ (HT0.out.ls.below HRX.out.b) ha0 ha1 (by omega)).mono ?_; rintro e w11 ⟨rfl, hb⟩; replace HRX := hU (HRX.out.up hb); replace HHR := hU (HHR.out.up hb); have HKY := hU (heap_Key m (by omega) HHP.out HHR.out hm0 hm1); clear hb x0 x1 x2) | (go_at_call 118; refine HKY.out.mono ?_; rw [HE1.out, HE2.out]; rintro e w12 ⟨rfl, hb⟩; replace HRX := hU (HRX.out.up hb); replace HHR := hU (HHR.out.up hb); have HSET := hU (heap_Set m (key + cost t a) (by omega) HHP.out HHR.out hm0 hm1); clear hb) | (go_at_call 113; refine HSET.out.mono ?_; rintro e w13 ⟨rfl, v3, ps3, os3, hk3⟩; have HK3 := hU hk3; clear hk3))
            go_roundg (gk - 1)
            case measure => omega
            case rel => exact ⟨q + 1, _, ps3, os3, v3, by omega, by go_num, hU (HRX.out.heap HK3.out.b HBB.out), HPUT.out _ HK3.out.m, hU HK3.out.p, hU HK3.out.r⟩
        ·obtain rfl : q = l.length := by omega
         go_wp2_with fail
         go_roundg (g0 - 1)
         case measure => have := HG0.out; have := HCN0.out; have := HCS1.out; have := HCN1.out; omega
         case rel => exact ⟨ds, ks', ps', os', v', i, HRX, hU (by have := HSI.out; rwa [List.drop_length] at this), HHP, HHR, hU (by have := HCN0.out; have := HCS1.out; have := HCN1.out; omega)⟩
end
section
variable {w : World} {A1 A2 D : Option Addr} {t : Topo} {dn : List Bool}
theorem From_follow (ab g n cap : Nat) (vl : List Value) (L : Nat → List Int) (B : Nat) (w : World) (hb : Bl 131 ab #[.slice (some ⟨g, 0, none⟩) n cap] w) (F : Fan w B g n cap vl L) (i : Int) (h0 : 0 ≤ i) (h1 : i < (n : Int)) : ∃ A c, ∀ W, Below w.heap.size w W → Rd W A ((L i.toNat).map (Value.int .i64)) ∧ Calls Tryz.prog 92 #[.int .i64 i, .pointer (some ⟨ab, 0, none⟩)] W fun e w' => e = .returned (.slice A (L i.toNat).length c) ∧ Below W.heap.size W w' := by
 obtain ⟨v, hv, hc, ho⟩ := F.at_ (show i.toNat < n by omega)
 obtain ⟨A, c, rfl, _, _, hr⟩ := rd_of_own ho
 refine ⟨A, c, fun W hW => ⟨hr.below hW, ?_⟩⟩
 have q0 := aQ hW (hb.cell 0 rfl)
 have q1 := aQ hW hc
 clear hb F hv hc ho hr hW
 go_enter Tryz.func92, Tryz.ntmps92
 go_wp2_with fail
 go_ret
 exact ⟨rfl, Below.refl _ _⟩
theorem From_end (tb c1 c2 : Nat) (w : World) (hv : valid t = true) (hT : TAt w A1 A2 t) (hb : Bl 25 tb #[.int .i64 t.n, .slice A1 t.ov.length c1, .slice A2 t.ls.length c2] w) (a : Int) (h0 : 0 ≤ a) (h1 : a < 2 * (t.ls.length : Int)) : ∀ W, Below w.heap.size w W → Calls Tryz.prog 93 #[.int .i64 a, .pointer (some ⟨tb, 0, none⟩)] W fun e w' => e = .returned (.int .i64 (fZ t a)) ∧ Below W.heap.size W w' := by
 intro W hW
 have hL := zQ hv
 obtain ⟨q0, q1, q2, _⟩ := (hb.up hW).c3
 have HT := hU (hT.below hW)
 clear hb hT hv hW
 go_enter Tryz.func93, Tryz.ntmps93
 go_wp2_with (go_at_call 59; refine (graph_Head _ _ _ _ t _ _ HT.out.ls h0 h1 (by omega)).mono ?_; rintro e w1 ⟨rfl, hb⟩)
 go_ret
 exact ⟨rfl, hb⟩
set_option maxRecDepth 100000 in
set_option maxHeartbeats 4000000 in
theorem spf_From (c1 c2 dc : Nat) (d : Int) (hv : valid t = true) (hd : isN t.n d = true) (hT : TAt w A1 A2 t) (hD : Rd w D (dn.map Value.bool)) (hdl : dn.length = 0 ∨ dn.length = 2 * t.ls.length) :
    Calls Tryz.prog 66 #[.agg #[.int .i64 t.n, .slice A1 t.ov.length c1, .slice A2 t.ls.length c2], .slice D dn.length dc, .int .i64 d] w fun e w' => ∃ (A : Option Addr) (c : Nat) (dist : List Int), e = .returned (.tuple #[.slice A dist.length c, .int .i64 0]) ∧ Rd w' A (dist.map (Value.int .i64)) ∧ SR (sgFrom t dn d) dist ∧ Below w.heap.size w w' := by
 have hL := zQ hv
 have hX := TBox.start c1 c2 hT
 obtain ⟨b0, b1, b2⟩ := hX.cells
 have HX := hU hX
 have HV := hU hv
 have HD := hU hD
 have HDL := hU hdl
 have HI := hU hd
 have HBX := hU (Bl.new w #[.int .i64 t.n, .slice A1 t.ov.length c1, .slice A2 t.ls.length c2] 25)
 clear hX hT hv hd hD hdl
 go_enter Tryz.func66, Tryz.ntmps66
 have hsz : (w.alloc (.cells #[.int .i64 t.n, .slice A1 t.ov.length c1, .slice A2 t.ls.length c2] 25)).heap.size = w.heap.size + 1 := by simp
 have HR1 := hU (rd_new1 (w.alloc (.cells #[.int .i64 t.n, .slice A1 t.ov.length c1, .slice A2 t.ls.length c2] 25)) (.int .i64 d) 3)
 rw [hsz] at HR1
 clear hsz
 go_upto_region 5 with (first | (go_at_call 90; (with_reducible refine (spf_check1 _ _ _ _ _ _ d HV.out (HX.out.ta.below (cQ _ _)) HDL.out HR1.out HI.out).mono ?_); rintro e w2 ⟨rfl, hb⟩; replace HX := hU ((HX.out.up (cQ _ _)).up hb); replace HBX := hU ((HBX.out.up (cQ _ _)).up hb); clear hb b0 b1 b2; obtain ⟨b0, b1, b2⟩ := HX.out.cells) | (go_at_call 91; refine (graph_Leaving t _ _ _ _ _ HX.out.ta (by omega) HV.out).mono ?_; rintro e w3 ⟨g, n, cap, vl, hn, rfl, hF, hb⟩; replace HX := hU (HX.out.up hb); replace HBX := hU (HBX.out.up hb); have HF := hU hF; have HNN := hU hn; clear hF hb hn b0 b1 b2))
 obtain ⟨ab, hab⟩ : ∃ ab, ab = w3.heap.size := ⟨_, rfl⟩
 refine wp_named3 (fun X => TBox w A1 A2 c1 c2 t X ∧ Bl 25 w.heap.size #[.int .i64 t.n, .slice A1 t.ov.length c1, .slice A2 t.ls.length c2] X ∧ Bl 131 w3.heap.size #[.slice (some ⟨g, 0, none⟩) n cap] X ∧ (∃ B, Fan X B g n cap vl (outN t (2 * t.ls.length)))) ⟨HX.out.up (cQ _ _), HBX.out.up (cQ _ _), Bl.new w3 _ _, ⟨_, HF.out.up (cQ _ _)⟩⟩ ?_
 rintro X ⟨hx1, hx2, hx3, ⟨B, hx4⟩⟩
 rw [← hab] at hx3 ⊢
 clear hab HF HX HBX
 have HX := hU hx1
 have HBX := hU hx2
 have HAB := hU hx3
 have HFN := hU hx4
 obtain ⟨b0, b1, b2⟩ := HX.out.cells
 clear hx1 hx2 hx3 hx4
 have HRUN := hU (fun W (hW : Below X.heap.size X W) => spf_runFrom (w := W) (A1 := A1) (A2 := A2) (D := D) (t := t) (dn := dn) (c1 := c1) (c2 := c2) (dc := dc) (r := d) (cF := .pointer (some ⟨ab, 0, none⟩)) (cE := .pointer (some ⟨w.heap.size, 0, none⟩)) HV.out HI.out (HX.out.ta.below hW) (HD.out.below (HX.out.hb.trans (hW.mono HX.out.hb.size))) HDL.out
  (fun i h0 h1 => by
   have := From_follow ab g n cap vl _ B W (HAB.out.up hW) (HFN.out.up hW) i h0 (by have := HNN.out; omega)
   rw [show outN t (2 * t.ls.length) i.toNat = (sgFrom t dn d).arcs i by unfold outN sgFrom; simp only; congr 1; funext a; unfold outP; rw [show ((i.toNat : Nat) : Int) = i by omega]] at this
   exact this)
  (fun W' hW' a h0 h1 => From_end w.heap.size c1 c2 W HV.out (HX.out.ta.below hW) (HBX.out.up hW) a h0 h1 W' hW'))
 go_upto_region 6 with fail
 have HX6 := hU (cQ X (.cells #[.int .i64 t.n, .slice A1 t.ov.length c1, .slice A2 t.ls.length c2, .slice D dn.length dc, .int .i64 d, .func (.func 92) #[] #[.pointer (some ⟨ab, 0, none⟩)], .func (.func 93) #[] #[.pointer (some ⟨w.heap.size, 0, none⟩)]] 136))
 clear b0 b1 b2
 go_wp2_with (go_at_call 94; (with_reducible refine (HRUN.out _ HX6.out).mono ?_); rintro e w9 ⟨A, c, dist, rfl, hr, hsr, hb⟩)
 go_ret2
 exact ⟨A, c, dist, rfl, hr, hsr, bQ HX.out.hb (HX6.out.trans (hb.mono HX6.out.size))⟩
end
end
end Go.Proofs.YtdnjflpmbnjgeaaGreat
