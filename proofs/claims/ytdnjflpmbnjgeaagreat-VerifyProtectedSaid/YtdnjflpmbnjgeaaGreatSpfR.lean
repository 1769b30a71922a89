/-
  graph.Down, graph.Fits; a search runs to its end (printed by gen_spf.py).
-/
import Derived.Test.YtdnjflpmbnjgeaaGreatPkHeapN
import Derived.Deep.LoopGhost
set_option linter.unusedSimpArgs false
set_option linter.unusedVariables false
namespace Go.Proofs.YtdnjflpmbnjgeaaGreat
section
open Go.RowKit Go.Sort
/-- An arc is up under a mask that may be empty. -/
def upB (dn : List Bool) (a : Int) : Bool := !(dn.getD a.toNat false)
theorem graph_Down (D : Option Addr) (dc : Nat) (dn : List Bool) (x : Int) (w : World) (hD : Rd w D (dn.map Value.bool)) (h0 : 0 ≤ x) (h1 : dn.length = 0 ∨ x < (dn.length : Int)) :
    Calls Tryz.prog 116 #[.slice D dn.length dc, .int .i64 x] w fun e w' => e = .returned (.bool (!upB dn x)) ∧ Below w.heap.size w w' := by
 by_cases he : dn.length = 0
 ·have HF : Hid ((!upB dn x) = false) := hU (by simp [upB, List.eq_nil_of_length_eq_zero he])
  rw [he]
  clear hD h1 he
  go_enter Tryz.func116, Tryz.ntmps116
  go_wp2_with fail
  go_ret
  exact ⟨by rw [HF.out]; rfl, Below.refl _ _⟩
 ·have hn : x < (dn.length : Int) := by omega
  have hl : x.toNat < dn.length := by omega
  have hu : (dn.map Value.bool)[x.toNat]? = some (.bool (!upB dn x)) := by
   simp [upB, List.getElem?_eq_getElem hl, List.getD_eq_getElem?_getD]
  obtain ⟨b, o, rfl, q0⟩ := hD.at_ hu
  have hp : decide ((0 : Int) < (dn.length : Int)) = true := by simp; omega
  generalize (!upB dn x) = y at *
  generalize dn.length = m at *
  clear hD hu h1 he
  go_enter Tryz.func116, Tryz.ntmps116
  go_wp2_with fail
  go_ret
  exact ⟨rfl, Below.refl _ _⟩
theorem graph_Fits (t : Topo) (A1 A2 D : Option Addr) (c1 c2 dl dc : Nat) (w : World) (hn : t.ls.length ≤ 100000) :
    Calls Tryz.prog 69 #[.agg #[.int .i64 t.n, .slice A1 t.ov.length c1, .slice A2 t.ls.length c2], .slice D dl dc] w fun e w' => e = .returned (.bool (decide (dl = 0) || decide (dl = 2 * t.ls.length))) ∧ Below w.heap.size w w' := by
 have b0 := box0 w (.int .i64 t.n) (.slice A1 t.ov.length c1) (.slice A2 t.ls.length c2) 25
 have b1 := box1 w (.int .i64 t.n) (.slice A1 t.ov.length c1) (.slice A2 t.ls.length c2) 25
 have b2 := box2 w (.int .i64 t.n) (.slice A1 t.ov.length c1) (.slice A2 t.ls.length c2) 25
 have hb := cQ w (.cells #[.int .i64 t.n, .slice A1 t.ov.length c1, .slice A2 t.ls.length c2] 25)
 by_cases he : dl = 0
 ·subst he
  go_enter Tryz.func69, Tryz.ntmps69
  go_wp2_with fail
  go_ret
  exact ⟨rfl, hb⟩
 ·have hz : ((dl : Int) == 0) = false := beq_eq_false_iff_ne.2 (by omega)
  have HR : Hid ((decide (dl = 0) || decide (dl = 2 * t.ls.length)) = ((dl : Int) == 2 * (t.ls.length : Int))) := hU (by
   rw [decide_eq_false he, Bool.false_or]
   by_cases e : dl = 2 * t.ls.length
   ·rw [decide_eq_true e]; symm; rw [beq_iff_eq]; omega
   ·rw [decide_eq_false e]; symm; exact beq_eq_false_iff_ne.2 (by omega))
  go_enter Tryz.func69, Tryz.ntmps69
  go_wp2_with (go_at_call 52; refine (graph_Arcs _ _ _ _ _ _ hn).mono ?_; rintro e w1 ⟨rfl, hb1⟩)
  go_ret
  exact ⟨by rw [HR.out]; rfl, hb.trans (hb1.mono (by simp))⟩
/-- What a search keeps of its own: its struct, its row of distances. -/
structure RX (w : World) (cs : Array Value) (N : Nat) (dist : List Int) (W : World) : Prop where
 x : Bl 136 w.heap.size cs W
 d : W.ownsRow (w.heap.size + 1) 3 1 (.slice (some ⟨w.heap.size + 1, 0, none⟩) N N) N (dist.map (Value.int .i64))
 b : Below w.heap.size w W
theorem RX.up {w W W' : World} {cs : Array Value} {N : Nat} {dist : List Int} (h : RX w cs N dist W) (hb : Below W.heap.size W W') : RX w cs N dist W' := ⟨h.x.up hb, own_up h.d hb, bQ h.b hb⟩
theorem RX.put {w W : World} {cs : Array Value} {N : Nat} {dist : List Int} (h : RX w cs N dist W) (k : Nat) (x : Int) : RX w cs N (dist.set k x) (W.setCell ⟨w.heap.size + 1, k, none⟩ (.int .i64 x)) :=
 ⟨h.x.other (by omega) _, own_put h.d x, Bset h.b (by omega)⟩
theorem RX.lt {w W : World} {cs : Array Value} {N : Nat} {dist : List Int} (h : RX w cs N dist W) : w.heap.size + 2 ≤ W.heap.size := (h.d.lt _ rfl).2
theorem RX.heap {w W W' : World} {cs : Array Value} {N B : Nat} {dist : List Int} (h : RX w cs N dist W) (hb : Below B W W') (hB : w.heap.size + 2 ≤ B) : RX w cs N dist W' := by
 refine ⟨(hb.block _ (by omega)).trans h.x, ?_, h.b.trans (hb.mono (by omega))⟩
 rcases h.d with ⟨hl, ⟨h0, h1⟩ | ⟨g, cap, cur, hv, hB', hg, rest⟩⟩
 ·exact ⟨hl, .inl ⟨h0, h1⟩⟩
 ·have hge : g = w.heap.size + 1 := by injection hv with e; injection e with e; injection e with e; exact e.symm
  subst hge
  exact ⟨hl, .inr ⟨_, cap, cur, hv, hB', (hb.block _ (by omega)).trans hg, rest⟩⟩
theorem arc_ends2 {t : Topo} (hv : valid t = true) {a : Int} (h0 : 0 ≤ a) (h1 : a < 2 * (t.ls.length : Int)) : 0 ≤ fZ t a ∧ fZ t a < t.n ∧ 0 ≤ tail t a ∧ tail t a < t.n := by
 have hb := lnk_bd (valid_lnk hv (lnk_at h0 h1).2)
 unfold fZ tail
 split <;> omega
theorem cost_bd {t : Topo} (hv : valid t = true) {a : Int} (h0 : 0 ≤ a) (h1 : a < 2 * (t.ls.length : Int)) : 1 ≤ cost t a ∧ cost t a ≤ 65535 := by
 have hb := lnk_bd (valid_lnk hv (lnk_at h0 h1).2)
 unfold cost
 split <;> omega
/-- A row that is filled with -1. -/
def fillN (N k : Nat) : List Int := (List.range N).map fun i => if i < k then -1 else 0
theorem fillN_zero (N : Nat) : fillN N 0 = List.replicate N 0 := by
 refine List.ext_getElem (by simp [fillN]) fun i h1 h2 => by simp [fillN]
theorem fillN_set {N k : Nat} : (fillN N k).set k (-1) = fillN N (k + 1) := by
 refine List.ext_getElem (by simp [fillN]) fun i h1 h2 => ?_
 rw [List.getElem_set]
 simp only [fillN, List.getElem_map, List.getElem_range]
 by_cases e : k = i
 ·subst e; simp
 ·rw [if_neg e]
  by_cases e2 : i < k
  ·rw [if_pos e2, if_pos (by omega)]
  ·rw [if_neg e2, if_neg (by omega)]
theorem fillN_done (N : Nat) : fillN N N = List.replicate N (-1) := by
 refine List.ext_getElem (by simp [fillN]) fun i h1 h2 => ?_
 simp [fillN] at h1 ⊢
 omega
/-- The graph of a search to or from a node. -/
def sgDist (t : Topo) (dn : List Bool) (r : Int) : SG := ⟨t.n.toNat, r, fun n => ups (fun a => fZ t a == n) (2 * t.ls.length), fun a => tail t a, upB dn, fun a => cost t a, fun n => over t n⟩
theorem sgDist_ok {t : Topo} {dn : List Bool} {r : Int} (hv : valid t = true) (hr : isN t.n r = true) : (sgDist t dn r).Ok := by
 have hN := iZ hv
 have h := isN_true.1 hr
 refine ⟨?_, h.1, ?_, fun n h0 h1 a ha => ?_⟩
 ·show t.n.toNat ≤ 64
  omega
 ·show r < ((t.n.toNat : Nat) : Int)
  omega
 ·obtain ⟨a0, a1, _⟩ := mem_ups.1 ha
  have a1' : a < 2 * (t.ls.length : Int) := by omega
  have hb := lnk_bd (valid_lnk hv (lnk_at a0 a1').2)
  show 0 ≤ tail t a ∧ tail t a < ((t.n.toNat : Nat) : Int) ∧ 1 ≤ cost t a ∧ cost t a ≤ 65535
  unfold tail cost
  split <;> omega
section
variable {w : World} {A1 A2 D : Option Addr} {t : Topo} {dn : List Bool} {c1 c2 dc : Nat} {r : Int} {cF cE : Value}
set_option maxRecDepth 100000 in
set_option maxHeartbeats 8000000 in
theorem spf_runDist (hv : valid t = true) (hr : isN t.n r = true) (hT : TAt w A1 A2 t) (hD : Rd w D (dn.map Value.bool)) (hdl : dn.length = 0 ∨ dn.length = 2 * t.ls.length)
    (hF : ∀ n : Int, 0 ≤ n → n < t.n → ∃ A c, ∀ W, Below w.heap.size w W → Rd W A (((sgDist t dn r).arcs n).map (Value.int .i64)) ∧ Calls Tryz.prog 100 #[.int .i64 n, cF] W fun e w' => e = .returned (.slice A ((sgDist t dn r).arcs n).length c) ∧ Below W.heap.size W w')
    (hE : ∀ W, Below w.heap.size w W → ∀ a : Int, 0 ≤ a → a < 2 * (t.ls.length : Int) → Calls Tryz.prog 101 #[.int .i64 a, cE] W fun e w' => e = .returned (.int .i64 (tail t a)) ∧ Below W.heap.size W w') :
    Calls Tryz.prog 94 #[.agg #[.int .i64 t.n, .slice A1 t.ov.length c1, .slice A2 t.ls.length c2, .slice D dn.length dc, .int .i64 r, .func (.func 100) #[] #[cF], .func (.func 101) #[] #[cE]]] w fun e w' => ∃ (A : Option Addr) (c : Nat) (dist : List Int), e = .returned (.slice A dist.length c) ∧ Rd w' A (dist.map (Value.int .i64)) ∧ SR (sgDist t dn r) dist ∧ Below w.heap.size w w' := by
 have hN := iZ hv
 have hL := zQ hv
 obtain ⟨N, hNe⟩ : ∃ N, N = t.n.toNat := ⟨_, rfl⟩
 have hmk : ∀ W, (Instr.makeSlice 63 (.int .i64 t.n) (.int .i64 t.n)).run Tryz.prog W = .ok (.slice (some ⟨W.heap.size, 0, none⟩) N N) (mkI N W) := fun W => by
  have := run_mkI N (by omega) W
  rwa [show (N : Int) = t.n by omega] at this
 have HV := hU hv
 have HN := hU hN
 have HNE := hU hNe
 have HT0 := hU hT
 have HD0 := hU hD
 have HF := hU hF
 have HE := hU hE
 have HDL := hU hdl
 have HRN := hU (isN_true.1 hr)
 obtain ⟨G, hG⟩ : ∃ G, G = sgDist t dn r := ⟨_, rfl⟩
 have HG := hU hG
 have HX := hU (Bl.new w #[.int .i64 t.n, .slice A1 t.ov.length c1, .slice A2 t.ls.length c2, .slice D dn.length dc, .int .i64 r, .func (.func 100) #[] #[cF], .func (.func 101) #[] #[cE]] 136)
 have HB := hU (cQ w (.cells #[.int .i64 t.n, .slice A1 t.ov.length c1, .slice A2 t.ls.length c2, .slice D dn.length dc, .int .i64 r, .func (.func 100) #[] #[cF], .func (.func 101) #[] #[cE]] 136))
 have hN64 : N ≤ 64 := by omega
 clear hv hN hT hD hF hE hdl hr hNe hG
 go_enter Tryz.func94, Tryz.ntmps94
 obtain ⟨x0, x1, x2, x3, x4, x5, x6, fx⟩ := HX.out.c7
 obtain ⟨cs, hcs⟩ : ∃ cs : Array Value, cs = #[.int .i64 t.n, .slice A1 t.ov.length c1, .slice A2 t.ls.length c2, .slice D dn.length dc, .int .i64 r, .func (.func 100) #[] #[cF], .func (.func 101) #[] #[cE]] := ⟨_, rfl⟩
 have HCS := hU hcs
 have HRX0 : Hid (RX w cs N (fillN N 0) (mkI N (w.alloc (.cells cs 136)))) := hU (by
  rw [hcs]
  refine ⟨HX.out.up (mkI_below _ _), ?_, bQ HB.out (mkI_below _ _)⟩
  rw [fillN_zero]
  have := mkI_own N (by omega) (w.alloc (.cells #[.int .i64 t.n, .slice A1 t.ov.length c1, .slice A2 t.ls.length c2, .slice D dn.length dc, .int .i64 r, .func (.func 100) #[] #[cF], .func (.func 101) #[] #[cE]] 136)) (w.heap.size + 1) (by simp)
  simpa using this)
 go_upto_region 2 with fail
 rw [← hcs]
 generalize mkI N (w.alloc (.cells cs 136)) = W1 at HRX0 ⊢
 rw [hcs]
 clear hcs x0 x1 x2 x3 x4 x5 x6 fx HX HB hmk
 go_wp2_with fail
 go_loopw [22] (fun i wr => ∃ k : Nat, k ≤ N ∧ i = .int .i64 k ∧ Hid (RX w cs N (fillN N k) wr)) (fun i _ => N - (intOf i).toNat)
 case atStart => exact ⟨0, Nat.zero_le _, rfl, HRX0⟩
 case round =>
  clear HRX0
  obtain ⟨k, hk, rfl, HRX⟩ := hrel
  by_cases hlt : k < N
  ·have hlt' : (k : Int) < (N : Int) := by omega
   obtain ⟨dk, fk⟩ := bZ HRX.out.d hlt
   go_wp2_with fail
   go_roundw
   case rel => exact ⟨k + 1, by omega, by go_num, hU (by rw [← fillN_set]; exact HRX.out.put k (-1))⟩
   case measure => simp [intOf]; omega
  ·obtain rfl : k = N := by omega
   have HRX2 : Hid (RX w cs k (List.replicate k (-1)) wr) := hU (by have := HRX.out; rwa [fillN_done] at this)
   have hB := HRX2.out.x
   rw [HCS.out] at hB
   obtain ⟨x0, x1, x2, x3, x4, x5, x6, fx⟩ := hB.c7
   have hnk : (k : Int) = t.n := by have := HNE.out; have := HN.out; omega
   have HNEW := hU (heap_New0 k (by omega) wr)
   rw [hnk] at HNEW
   clear hB x1 x2 x3 x5 x6 fx HRX hnk
   go_wp2_with (first | (go_at_call 112; refine HNEW.out.mono ?_; rintro e w3 ⟨hb, kb, pb, rfl, hh, hbl⟩; have HH3 := hU hh; have HBW := hU HRX2.out.lt; replace HRX2 := hU (HRX2.out.up hbl); replace x0 := aQ hbl x0; replace x4 := aQ hbl x4; have HST := hU (heap_Set r 0 (by omega) (HP.start k) hh HRN.out.1 (by have := HNE.out; have := HRN.out; have := HN.out; omega)); clear hh hbl) | (go_at_call 113; refine HST.out.mono ?_; rintro e w4 ⟨rfl, v4, ps4, os4, hk4⟩; have HK4 := hU hk4; clear hk4))
   have HGOK : Hid G.Ok := hU (by rw [HG.out]; exact sgDist_ok HV.out (by have := HRN.out; exact isN_true.2 this))
   have HGN : Hid (G.N = k) := hU (by rw [HG.out]; exact HNE.out.symm)
   have HGR : Hid (G.r = r) := hU (by rw [HG.out]; rfl)
   obtain rfl : os4 = [r] := List.perm_singleton.1 HK4.out.m
   have HSI0 : Hid (SI G (List.replicate k (-1)) ((List.replicate k 0).set r.toNat 0) [r] (-1) []) := hU (by have := SI.start G HGOK.out; rwa [HGN.out, HGR.out] at this)
   have HRX4 : Hid (RX w cs k (List.replicate k (-1)) w4) := hU (HRX2.out.heap HK4.out.b HBW.out)
   have HC0 : Hid (cnt (List.replicate k (-1)) = 0) := hU (cnt_none k)
   obtain ⟨BB, hBB⟩ : ∃ BB, BB = wr.heap.size := ⟨_, rfl⟩
   have HBB : Hid (w.heap.size + 2 ≤ BB) := hU (by rw [hBB]; exact HBW.out)
   have HKR : Hid (HeapR BB hb k kb pb v4 ((List.replicate k 0).set r.toNat 0) ps4 [r] w4) := hU (by rw [hBB]; exact HK4.out.r)
   have HKP := hU HK4.out.p
   clear HRX2 HNEW HST HH3 x0 x4 hBB HK4 HBW
   go_loopg [7] k (fun gk _ wx => ∃ (dist ks ps os : List Int) (v : Value) (pend : Int), Hid (RX w cs k dist wx) ∧ Hid (SI G dist ks os pend []) ∧ Hid (HP k ks ps os) ∧ Hid (HeapR BB hb k kb pb v ks ps os wx) ∧ Hid (cnt dist + gk = k))
   case atStart => exact ⟨_, _, ps4, [r], v4, -1, HRX4, HSI0, HKP, HKR, hU (by rw [HC0.out]; omega)⟩
   case round =>
    clear HRX4 HSI0 HKR HKP HC0
    obtain ⟨dist, ks, ps, os, v, pend, HRX, HSI, HHP, HHR, HCN⟩ := hrel
    rcases Nat.eq_zero_or_pos os.length with hz | hpos
    ·obtain rfl := List.eq_nil_of_length_eq_zero hz
     have HPN := hU (heap_Pop_none HHR.out)
     clear hz
     go_wp2_with (go_at_call 114; refine HPN.out.mono ?_; rintro e w5 ⟨rfl, hb⟩; replace HRX := hU (HRX.out.up hb); clear hb)
     go_ret
     obtain ⟨A, c, e1, _, _, hrd⟩ := rd_of_ownK HRX.out.d
     injection e1 with e1 _ e3
     subst e1 e3
     have hlen : dist.length = k := by have := HSI.out.len; rw [HGN.out] at this; exact this
     exact ⟨_, k, dist, by rw [hlen]; rfl, hrd, by have := HSI.out.done HGOK.out; rw [HG.out] at this; exact this, HRX.out.b⟩
    ·have HPS := hU (heap_Pop_some (by omega) HHP.out HHR.out hpos)
     clear hpos
     go_upto_region 13 with (go_at_call 114; refine HPS.out.mono ?_; rintro e w5 ⟨i, him, rfl, ps5, os5, v5, hk5⟩; have HIM := hU him; have HT5 := hU hk5; have HRX5 := hU (HRX.out.heap hk5.b HBB.out); obtain ⟨i0, i1, i2⟩ := HSI.out.hm i him; rw [HGN.out] at i1; obtain ⟨key, hkey⟩ : ∃ key, key = ks.getD i.toNat 0 := ⟨_, rfl⟩; rw [← hkey]; have HKEY := hU hkey; obtain ⟨dk, fk⟩ := bZ HRX5.out.d (k := i.toNat) (by omega); clear him hk5 i2 hkey)
     refine wp_named3 (fun X => RX w cs k (dist.set i.toNat key) X ∧ HeapR BB hb k kb pb v5 (ks.set i.toNat 0) ps5 os5 X) ⟨HRX5.out.put _ _, HT5.out.r.far (by have := HBB.out; omega) _ _⟩ ?_
     rintro X ⟨hX1, hX2⟩
     have HRX6 := hU hX1
     have HHR6 := hU hX2
     have HHP6 := hU HT5.out.p
     have HPOP : Hid (∀ todo, (G.pass i → todo = G.arcs i) → SI G (dist.set i.toNat key) (ks.set i.toNat 0) os5 i todo) := hU fun todo ht => by
      have := HSI.out.pop HGOK.out HIM.out HHP.out.nodup HT5.out.m ht
      rw [← HKEY.out] at this
      exact this
     have HKB := hU (HSI.out.bk i HIM.out)
     rw [← HKEY.out] at HKB
     have HCS1 : Hid (cnt (dist.set i.toNat key) = cnt dist + 1) := hU (cnt_set dist i.toNat key (by have := HSI.out.len; rw [HGN.out] at this; omega) (by have := (HSI.out.hm i HIM.out).2.2; unfold dD at this; omega) HKB.out.1)
     have HCN1 : Hid (cnt (dist.set i.toNat key) ≤ k) := hU (by have := cnt_le (dist.set i.toNat key); rw [List.length_set] at this; have h2 := HSI.out.len; rw [HGN.out] at h2; omega)
     have HDI : Hid (dD (dist.set i.toNat key) i = key) := hU (by rw [dD_set i0 i0 (by have := HSI.out.len; rw [HGN.out] at this; omega), if_pos rfl])
     have HIX : Hid (i < t.n) := hU (by have := HNE.out; have := HN.out; omega)
     clear hX1 hX2 dk fk HPS HT5 HRX5 HRX HHR HHP HSI HIM
     have hcx := HRX6.out.x
     rw [HCS.out] at hcx
     obtain ⟨x0, x1, x2, x3, x4, x5, x6, fx⟩ := hcx.c7
     clear hcx x3 x5 x6 fx
     go_cut [62] from 40 to 110 (fun x wx => x = .bool (!(i == r) && over t i) ∧ Hid (RX w cs k (dist.set i.toNat key) wx) ∧ Hid (HeapR BB hb k kb pb v5 (ks.set i.toNat 0) ps5 os5 wx))
     case first =>
      by_cases e : i = r
      ·have hne : (i != r) = false := by simp [e]
       have HEQ : Hid ((!(i == r) && over t i) = false) := hU (by simp [e])
       clear e
       go_wp2_with fail
       go_meet
       exact ⟨by rw [HEQ.out], HRX6, HHR6⟩
      ·have hne : (i != r) = true := by simp [e]
       have HEQ : Hid ((!(i == r) && over t i) = over t i) := hU (by simp [e])
       have hov : t.ov.length = 0 ∨ i < (t.ov.length : Int) := by have := HIX.out; rcases valid_ov HV.out with h | h; exact .inl h; exact .inr (by omega)
       clear e
       go_wp2_with (go_at_call 115; refine (graph_Over _ _ _ _ t _ _ (HT0.out.ov.below HRX6.out.b) i0 hov).mono ?_; rintro e w7 ⟨rfl, hb⟩; replace HRX6 := hU (HRX6.out.up hb); replace HHR6 := hU (HHR6.out.up hb); clear hb)
       go_meet
       exact ⟨by rw [HEQ.out], HRX6, HHR6⟩
     case rest =>
      clear HRX6 HHR6 x0 x1 x2 x4
      obtain ⟨rfl, HRX6, HHR6⟩ := hcut
      cases hc : (!(i == r) && over t i) with
      | true =>
       have HNP : Hid (¬ G.pass i) := hU (by
        simp only [Bool.and_eq_true, Bool.not_eq_true', beq_eq_false_iff_ne] at hc
        rintro (h | h)
        ·exact hc.1 (by rw [HG.out] at h; exact h)
        ·rw [HG.out] at h; exact Bool.noConfusion (hc.2.symm.trans h))
       clear hc
       go_wp2_with fail
       go_roundg (gk - 1)
       case measure => have := HCN.out; have := HCS1.out; have := HCN1.out; omega
       case rel => exact ⟨_, _, _, _, _, i, HRX6, hU (HPOP.out [] (fun h => absurd h HNP.out)), HHP6, HHR6, hU (by have := HCN.out; have := HCS1.out; have := HCN1.out; omega)⟩
      | false =>
       have HPI : Hid (G.pass i) := hU (by
        simp only [Bool.and_eq_false_iff, Bool.not_eq_false', beq_iff_eq] at hc
        rcases hc with h | h
        ·exact .inl (by rw [HG.out]; exact h)
        ·exact .inr (by rw [HG.out]; exact h))
       clear hc
       obtain ⟨g0, hg0⟩ : ∃ g0, g0 = gk := ⟨_, rfl⟩
       have HG0 := hU hg0
       have HCN0 : Hid (cnt dist + g0 = k) := hU (by rw [hg0]; exact HCN.out)
       clear hg0 HCN
       generalize dist.set i.toNat key = ds at *
       have hcx := HRX6.out.x
       rw [HCS.out] at hcx
       obtain ⟨x0, x1, x2, x3, x4, x5, x6, fx⟩ := hcx.c7
       obtain ⟨Al, cl, hfl⟩ := HF.out i i0 HIX.out
       obtain ⟨l, hl⟩ : ∃ l, l = (sgDist t dn r).arcs i := ⟨_, rfl⟩
       rw [← hl] at hfl
       have hll : l.length ≤ 512 := by rw [hl]; exact Nat.le_trans (ups_le _ _) (by omega)
       have HFL := hU hfl
       have HLE := hU hl
       have HLG : Hid (l = G.arcs i) := hU (by rw [HG.out]; exact hl)
       clear hcx x0 x1 x2 x3 x4 x6 fx hfl hl
       go_wp2_with (go_at_call 100; refine (HFL.out _ HRX6.out.b).2.mono ?_; rintro e w8 ⟨rfl, hb⟩; replace HRX6 := hU (HRX6.out.up hb); replace HHR6 := hU (HHR6.out.up hb); clear hb x5)
       go_loopg [68] l.length (fun g j wx => ∃ (q : Nat) (ks' ps' os' : List Int) (v' : Value), q + g = l.length ∧ j = .int .i64 q ∧ Hid (RX w cs k ds wx) ∧ Hid (SI G ds ks' os' i (l.drop q)) ∧ Hid (HP k ks' ps' os') ∧ Hid (HeapR BB hb k kb pb v' ks' ps' os' wx))
       case atStart => exact ⟨0, _, _, _, _, by omega, rfl, HRX6, hU (HPOP.out _ (fun _ => HLG.out)), HHP6, HHR6⟩
       case round =>
        clear HRX6 HHP6 HHR6
        obtain ⟨q, ks', ps', os', v', hqg, rfl, HRX, HSI, HHP, HHR⟩ := hrel
        by_cases hlt : q < l.length
        ·have hlt' : (q : Int) < (l.length : Int) := by omega
         obtain ⟨bz, oz, a, rfl, haz, caz⟩ := ints_at (HFL.out _ HRX.out.b).1 hlt
         have HDR : Hid (l.drop q = a :: l.drop (q + 1)) := hU (by rw [List.drop_eq_getElem_cons hlt]; congr 1; rw [List.getElem?_eq_getElem hlt] at haz; injection haz)
         have HAM : Hid (a ∈ G.arcs i) := hU (by rw [← HLG.out]; exact List.mem_of_getElem? haz)
         have hab : 0 ≤ a ∧ a < 2 * (t.ls.length : Int) := by
          have h1 := List.mem_of_getElem? haz
          rw [HLE.out] at h1
          have h2 := mem_ups.1 h1
          omega
         obtain ⟨ha0, ha1⟩ := hab
         have hends := arc_ends2 HV.out ha0 ha1
         obtain ⟨m, hm⟩ : ∃ m, m = tail t a := ⟨_, rfl⟩
         have HME := hU hm
         have HMG : Hid (G.en a = m) := hU (by rw [HG.out]; exact hm.symm)
         have hm0 : 0 ≤ m := by rw [hm]; exact hends.2.2.1
         have hm1 : m < (k : Int) := by have : m < t.n := by rw [hm]; exact hends.2.2.2
                                        have := HNE.out; have := HN.out; omega
         have hco := cost_bd HV.out ha0 ha1
         obtain ⟨dm, fm⟩ := bZ HRX.out.d (k := m.toNat) (by omega)
         have HDD : Hid (dD ds m = ds.getD m.toNat 0) := hU (by
          unfold dD
          have h1 := HRX.out.d.1
          rw [List.length_map, Nat.mul_one] at h1
          rw [List.getD_eq_getElem?_getD, List.getD_eq_getElem?_getD, List.getElem?_eq_getElem (by omega)]; rfl)
         generalize ds.getD m.toNat 0 = dmv at dm HDD
         have hcx := HRX.out.x
         rw [HCS.out] at hcx
         obtain ⟨x0, x1, x2, x3, x4, x5, x6, fx⟩ := hcx.c7
         have HDW : Hid (∀ W, Below w.heap.size w W → Calls Tryz.prog 116 #[.slice D dn.length dc, .int .i64 a] W fun e w' => e = .returned (.bool (!upB dn a)) ∧ Below W.heap.size W w') := hU fun W hW => graph_Down D dc dn a W (HD0.out.below hW) ha0 (by rcases HDL.out with h | h; exact .inl h; exact .inr (by omega))
         have HEW : Hid (∀ W, Below w.heap.size w W → Calls Tryz.prog 101 #[.int .i64 a, cE] W fun e w' => e = .returned (.int .i64 m) ∧ Below W.heap.size W w') := hU fun W hW => by rw [hm]; exact HE.out W hW a ha0 ha1
         clear hcx x4 x5 fx hends haz hm
         cases hu : upB dn a with
         | false =>
          have HUG : Hid (G.up a = false) := hU (by rw [HG.out]; exact hu)
          rw [hu] at HDW
          go_wp2_with (first | (go_at_call 101; refine (HEW.out _ HRX.out.b).mono ?_; rintro e w9 ⟨rfl, hb⟩; replace HRX := hU (HRX.out.up hb); replace HHR := hU (HHR.out.up hb); replace x3 := aQ hb x3; clear hb caz x6 dm fm x0 x1 x2) | (go_at_call 116; refine (HDW.out _ HRX.out.b).mono ?_; rintro e w10 ⟨rfl, hb⟩; replace HRX := hU (HRX.out.up hb); replace HHR := hU (HHR.out.up hb); clear hb x3))
          go_roundg (gk - 1)
          case measure => omega
          case rel => exact ⟨q + 1, ks', ps', os', v', by omega, by go_num, HRX, hU (SI.skip (by rw [← HDR.out]; exact HSI.out) (fun h => by rw [HUG.out] at h; cases h)), HHP, HHR⟩
         | true =>
          have HUG : Hid (G.up a = true) := hU (by rw [HG.out]; exact hu)
          rw [hu] at HDW
          by_cases hd0 : 0 ≤ dmv
          ·have HDP : Hid (0 ≤ dD ds (G.en a)) := hU (by rw [HMG.out, HDD.out]; exact hd0)
           go_wp2_with (first | (go_at_call 101; refine (HEW.out _ HRX.out.b).mono ?_; rintro e w9 ⟨rfl, hb⟩; replace HRX := hU (HRX.out.up hb); replace HHR := hU (HHR.out.up hb); have zU := uU hb x0 (uU hb x1 (uU hb x2 (uU hb x3 (uU hb dm trivial)))); clear x0 x1 x2 x3 dm; obtain ⟨x0, x1, x2, x3, dm, -⟩ := zU; clear hb caz x6 fm) | (go_at_call 116; refine (HDW.out _ HRX.out.b).mono ?_; rintro e w10 ⟨rfl, hb⟩; replace HRX := hU (HRX.out.up hb); replace HHR := hU (HHR.out.up hb); have zU := uU hb x0 (uU hb x1 (uU hb x2 (uU hb dm trivial))); clear x0 x1 x2 dm; obtain ⟨x0, x1, x2, dm, -⟩ := zU; clear hb x3))
           go_roundg (gk - 1)
           case measure => omega
           case rel => exact ⟨q + 1, ks', ps', os', v', by omega, by go_num, HRX, hU (SI.skip (by rw [← HDR.out]; exact HSI.out) (fun _ => .inl HDP.out)), HHP, HHR⟩
          ·have hkb : 0 ≤ key ∧ key ≤ 65535 * 64 := by have := HKB.out; have := HCS1.out; have := HCN1.out; omega
           obtain ⟨hk0, hk1⟩ := hkb
           obtain ⟨hc0, hc1⟩ := hco
           have HPUT : Hid (∀ os2 : List Int, os2.Perm (if m ∈ os' then os' else os' ++ [m]) → Hid (SI G ds (ks'.set m.toNat (key + cost t a)) os2 i (l.drop (q + 1)))) := hU fun os2 h2 => hU (by
            have h3 := SI.put HGOK.out (os' := os2) (by rw [← HDR.out]; exact HSI.out) HAM.out i0 (by rw [HGN.out]; exact i1) (by rw [HDI.out]; exact hk0) HPI.out HUG.out (by rw [HMG.out, HDD.out]; omega) (by rw [HDI.out, HCS1.out]; have := HKB.out; omega) (by rw [HMG.out]; exact h2)
            rw [HMG.out, HDI.out, show G.cost a = cost t a by rw [HG.out]; rfl] at h3
            exact h3)
           by_cases hmem : m ∈ os'
           ·have HIN := hU hmem
            obtain ⟨km, hkm⟩ : ∃ km, km = ks'.getD m.toNat 0 := ⟨_, rfl⟩
            have e1 : (if m ∈ os' then ks'.getD m.toNat 0 else 0) = km := by rw [if_pos hmem, hkm]
            have e2 : decide (m ∈ os') = true := decide_eq_true hmem
            have HE1 := hU e1
            have HE2 := hU e2
            clear hmem e1 e2 hkm
            by_cases hlk : key + cost t a < km
            ·go_wp2_with (first | (go_at_call 101; refine (HEW.out _ HRX.out.b).mono ?_; rintro e w9 ⟨rfl, hb⟩; replace HRX := hU (HRX.out.up hb); replace HHR := hU (HHR.out.up hb); have zU := uU hb x0 (uU hb x1 (uU hb x2 (uU hb x3 (uU hb dm trivial)))); clear x0 x1 x2 x3 dm; obtain ⟨x0, x1, x2, x3, dm, -⟩ := zU; clear hb caz x6 fm) | (go_at_call 116; refine (HDW.out _ HRX.out.b).mono ?_; rintro e w10 ⟨rfl, hb⟩; replace HRX := hU (HRX.out.up hb); replace HHR := hU (HHR.out.up hb); have zU := uU hb x0 (uU hb x1 (uU hb x2 (uU hb dm trivial))); clear x0 x1 x2 dm; obtain ⟨x0, x1, x2, dm, -⟩ := zU; clear hb x3) | (go_at_call 117; refine (graph_Cost _ _ _ _ t _ _ (HT0.out.ls.below HRX.out.b) ha0 ha1 (by omega)).mono ?_; rintro e w11 ⟨rfl, hb⟩; replace HRX := hU (HRX.out.up hb); replace HHR := hU (HHR.out.up hb); have HKY := hU (heap_Key m (by omega) HHP.out HHR.out hm0 hm1); clear hb x0 x1 x2) | (go_at_call 118; refine HKY.out.mono ?_; rw [HE1.out, HE2.out]; rintro e w12 ⟨rfl, hb⟩; replace HRX := hU (HRX.out.up hb); replace HHR := hU (HHR.out.up hb); have HSET := hU (heap_Set m (key + cost t a) (by omega) HHP.out HHR.out hm0 hm1); clear hb) | (go_at_call 113; refine HSET.out.mono ?_; rintro e w13 ⟨rfl, v3, ps3, os3, hk3⟩; have HK3 := hU hk3; clear hk3))
             go_roundg (gk - 1)
             case measure => omega
             case rel => exact ⟨q + 1, _, ps3, os3, v3, by omega, by go_num, hU (HRX.out.heap HK3.out.b HBB.out), HPUT.out _ HK3.out.m, hU HK3.out.p, hU HK3.out.r⟩
            ·go_wp2_with (first | (go_at_call 101; refine (HEW.out _ HRX.out.b).mono ?_; rintro e w9 ⟨rfl, hb⟩; replace HRX := hU (HRX.out.up hb); replace HHR := hU (HHR.out.up hb); have zU := uU hb x0 (uU hb x1 (uU hb x2 (uU hb x3 (uU hb dm trivial)))); clear x0 x1 x2 x3 dm; obtain ⟨x0, x1, x2, x3, dm, -⟩ := zU; clear hb caz x6 fm) | (go_at_call 116; refine (HDW.out _ HRX.out.b).mono ?_; rintro e w10 ⟨rfl, hb⟩; replace HRX := hU (HRX.out.up hb); replace HHR := hU (HHR.out.up hb); have zU := uU hb x0 (uU hb x1 (uU hb x2 (uU hb dm trivial))); clear x0 x1 x2 dm; obtain ⟨x0, x1, x2, dm, -⟩ := zU; clear hb x3) | (go_at_call 117; refine (graph_Cost _ _ _ _ t _ _ (HT0.out.ls.below HRX.out.b) ha0 ha1 (by omega)).mono ?_; rintro e w11 ⟨rfl, hb⟩; replace HRX := hU (HRX.out.up hb); replace HHR := hU (HHR.out.up hb); have HKY := hU (heap_Key m (by omega) HHP.out HHR.out hm0 hm1); clear hb x0 x1 x2) | (go_at_call 118; refine HKY.out.mono ?_; rw [HE1.out, HE2.out]; rintro e w12 ⟨rfl, hb⟩; replace HRX := hU (HRX.out.up hb); replace HHR := hU (HHR.out.up hb); have HSET := hU (heap_Set m (key + cost t a) (by omega) HHP.out HHR.out hm0 hm1); clear hb) | (go_at_call 113; refine HSET.out.mono ?_; rintro e w13 ⟨rfl, v3, ps3, os3, hk3⟩; have HK3 := hU hk3; clear hk3))
             go_roundg (gk - 1)
             case measure => omega
             case rel => exact ⟨q + 1, ks', ps', os', v', by omega, by go_num, HRX, hU (SI.skip (by rw [← HDR.out]; exact HSI.out) (fun _ => .inr (by rw [HMG.out]; exact HIN.out))), HHP, HHR⟩
           ·have e1 : (if m ∈ os' then ks'.getD m.toNat 0 else 0) = 0 := if_neg hmem
            have e2 : decide (m ∈ os') = false := decide_eq_false hmem
            have HE1 := hU e1
            have HE2 := hU e2
            clear hmem e1 e2
            go_wp2_with (first | (go_at_call 101; refine (HEW.out _ HRX.out.b).mono ?_; rintro e w9 ⟨rfl, hb⟩; replace HRX := hU (HRX.out.up hb); replace HHR := hU (HHR.out.up hb); have zU := uU hb x0 (uU hb x1 (uU hb x2 (uU hb x3 (uU hb dm trivial)))); clear x0 x1 x2 x3 dm; obtain ⟨x0, x1, x2, x3, dm, -⟩ := zU; clear hb caz x6 fm) | (go_at_call 116; refine (HDW.out _ HRX.out.b).mono ?_; rintro e w10 ⟨rfl, hb⟩; replace HRX := hU (HRX.out.up hb); replace HHR := hU (HHR.out.up hb); have zU := uU hb x0 (uU hb x1 (uU hb x2 (uU hb dm trivial))); clear x0 x1 x2 dm; obtain ⟨x0, x1, x2, dm, -⟩ := zU; clear hb x3) | (go_at_call 117; refine (graph_Cost _ _ _ _ t _ _ (HT0.out.ls.below HRX.out.b) ha0 ha1 (by omega)).mono ?_; rintro e w11 ⟨rfl, hb⟩; replace HRX := hU (HRX.out.up hb); replace HHR := hU (HHR.out.up hb); have HKY := hU (heap_Key m (by omega) HHP.out HHR.out hm0 hm1); clear hb x0 x1 x2) | (go_at_call 118; refine HKY.out.mono ?_; rw [HE1.out, HE2.out]; rintro e w12 ⟨rfl, hb⟩; replace HRX := hU (HRX.out.up hb); replace HHR := hU (HHR.out.up hb); have HSET := hU (heap_Set m (key + cost t a) (by omega) HHP.out HHR.out hm0 hm1); clear hb) | (go_at_call 113; refine HSET.out.mono ?_; rintro e w13 ⟨rfl, v3, ps3, os3, hk3⟩; have HK3 := hU hk3; clear hk3))
            go_roundg (gk - 1)
            case measure => omega
            case rel => exact ⟨q + 1, _, ps3, os3, v3, by omega, by go_num, hU (HRX.out.heap HK3.out.b HBB.out), HPUT.out _ HK3.out.m, hU HK3.out.p, hU HK3.out.r⟩
        ·obtain rfl : q = l.length := by omega
         go_wp2_with fail
         go_roundg (g0 - 1)
         case measure => have := HG0.out; have := HCN0.out; have := HCS1.out; have := HCN1.out; omega
         case rel => exact ⟨ds, ks', ps', os', v', i, HRX, hU (by have := HSI.out; rwa [List.drop_length] at this), HHP, HHR, hU (by have := HCN0.out; have := HCS1.out; have := HCN1.out; omega)⟩
end
end
end Go.Proofs.YtdnjflpmbnjgeaaGreat
