/-
  waypointref11: Fits, Up, transit, search, Dist.
  waypointref11.search, Dist (printed by gen_vr1.py).
-/
import Derived.Test.YtdnjflpmbnjgeaaGreatSpfR
import Derived.Test.YtdnjflpmbnjgeaaGreatPkVs4
import Derived.Test.YtdnjflpmbnjgeaaGreatPkSpfD
import Derived.Test.YtdnjflpmbnjgeaaGreatPkRef
set_option linter.unusedSimpArgs false
set_option linter.unusedVariables false
namespace Go.Proofs.YtdnjflpmbnjgeaaGreat
section
open Go.RowKit Go.Sort
section
variable {w : World} {A1 A2 D : Option Addr} {t : Topo} {dn : List Bool}
set_option maxRecDepth 100000 in
theorem ref11_Fits (c1 c2 dc : Nat) (hv : valid t = true) (hT : TAt w A1 A2 t) (hdl : dn.length = 0 ∨ dn.length = 2 * t.ls.length) :
    Calls Tryz.prog 119 #[.agg #[.int .i64 t.n, .slice A1 t.ov.length c1, .slice A2 t.ls.length c2], .slice D dn.length dc] w fun e w' => e = .returned (.bool true) ∧ Below w.heap.size w w' := by
 have hL := zQ hv
 have HX := hU (Bl.new w #[.int .i64 t.n, .slice A1 t.ov.length c1, .slice A2 t.ls.length c2] 25)
 have HB := hU (cQ w (.cells #[.int .i64 t.n, .slice A1 t.ov.length c1, .slice A2 t.ls.length c2] 25))
 have HRV := hU (dZ t A1 A2 c1 c2 _ (hT.below HB.out).ls)
 rw [hv] at HRV
 obtain ⟨b0, b1, b2, _⟩ := HX.out.c3
 clear hT hv
 by_cases hz : dn.length = 0
 ·rw [hz]
  clear hdl hz
  go_enter Tryz.func119, Tryz.ntmps119
  go_wp2_with (go_at_call 73; (with_reducible refine HRV.out.mono ?_); rintro e w2 ⟨rfl, hb⟩; replace HB := hU (bQ HB.out hb); have c2' := aQ hb b2; clear hb)
  go_ret
  exact ⟨rfl, HB.out⟩
 ·have hz1 : ((dn.length : Int) == 0) = false := by rw [beq_eq_false_iff_ne]; omega
  have hz2 : ((dn.length : Int) == 2 * (t.ls.length : Int)) = true := by rw [beq_iff_eq]; omega
  have hw := IntWalk.wrap64_in (2 * (t.ls.length : Int)) (by omega)
  clear hdl hz
  go_enter Tryz.func119, Tryz.ntmps119
  go_wp2_with (go_at_call 73; (with_reducible refine HRV.out.mono ?_); rintro e w2 ⟨rfl, hb⟩; replace HB := hU (bQ HB.out hb); have c2' := aQ hb b2; clear hb)
  go_ret
  exact ⟨rfl, HB.out⟩
set_option maxRecDepth 100000 in
theorem ref11_Up (dc : Nat) (a : Int) (hD : Rd w D (dn.map Value.bool)) (hdl : dn.length = 0 ∨ (0 ≤ a ∧ a < (dn.length : Int))) (hl : dn.length ≤ 100000) :
    Calls Tryz.prog 120 #[.slice D dn.length dc, .int .i64 a] w fun e w' => e = .returned (.bool (upB dn a)) ∧ Below w.heap.size w w' := by
 by_cases hz : dn.length = 0
 ·have hR : upB dn a = true := by
   have : dn = [] := List.eq_nil_of_length_eq_zero hz
   subst this
   rfl
  rw [hR, hz]
  clear hD hdl hz hR
  go_enter Tryz.func120, Tryz.ntmps120
  go_wp2_with fail
  go_ret
  exact ⟨rfl, by (repeat' (first | (with_reducible exact (Below.refl _ _)) | (with_reducible refine Bset ?_ ?_) | (with_reducible refine Bdrw ?_) | (with_reducible refine Bbox ?_ ?_) | omega | (simp; done) | (simp; omega)))⟩
 ·have hz1 : ((dn.length : Int) == 0) = false := by rw [beq_eq_false_iff_ne]; omega
  obtain ⟨h0, h1⟩ : 0 ≤ a ∧ a < (dn.length : Int) := hdl.resolve_left hz
  obtain ⟨y, hy⟩ : ∃ y, y = dn.getD a.toNat false := ⟨_, rfl⟩
  obtain ⟨b, o, hA, hc⟩ := hD.at_ (k := a.toNat) (u := .bool y) (by rw [hy, List.getElem?_map, List.getD_eq_getElem?_getD, List.getElem?_eq_getElem (show a.toNat < dn.length by omega)]; rfl)
  have hR : upB dn a = !y := by rw [hy]; rfl
  rw [hR]
  subst hA
  clear hD hdl hz hR hy
  go_enter Tryz.func120, Tryz.ntmps120
  go_wp2_with fail
  go_ret
  exact ⟨by cases y <;> rfl, by (repeat' (first | (with_reducible exact (Below.refl _ _)) | (with_reducible refine Bset ?_ ?_) | (with_reducible refine Bdrw ?_) | (with_reducible refine Bbox ?_ ?_) | omega | (simp; done) | (simp; omega)))⟩
set_option maxRecDepth 100000 in
theorem ref11_transit (c1 c2 : Nat) (n d : Int) (hv : valid t = true) (hT : TAt w A1 A2 t) (h0 : 0 ≤ n) (h1 : n < t.n) :
    Calls Tryz.prog 121 #[.agg #[.int .i64 t.n, .slice A1 t.ov.length c1, .slice A2 t.ls.length c2], .int .i64 n, .int .i64 d] w fun e w' => e = .returned (.bool ((n == d) || !over t n)) ∧ Below w.heap.size w w' := by
 have HX := hU (Bl.new w #[.int .i64 t.n, .slice A1 t.ov.length c1, .slice A2 t.ls.length c2] 25)
 have HB := hU (cQ w (.cells #[.int .i64 t.n, .slice A1 t.ov.length c1, .slice A2 t.ls.length c2] 25))
 obtain ⟨y, hy⟩ : ∃ y, y = over t n := ⟨_, rfl⟩
 have HO := hU (ref09_OverloadedT t A1 A2 c1 c2 n _ (hT.below HB.out) hv h0 h1)
 rw [← hy] at HO ⊢
 obtain ⟨b0, b1, b2, _⟩ := HX.out.c3
 clear hT hv hy h0 h1
 by_cases he : n = d
 ·have hE : (n == d) = true := by simp [he]
  rw [hE]
  clear he
  go_enter Tryz.func121, Tryz.ntmps121
  go_wp2_with fail
  go_ret
  exact ⟨rfl, HB.out⟩
 ·have hE : (n == d) = false := by simp [he]
  rw [hE]
  clear he
  go_enter Tryz.func121, Tryz.ntmps121
  go_wp2_with (go_at_call 126; (with_reducible refine HO.out.mono ?_); rintro e w2 ⟨rfl, hb⟩; replace HB := hU (bQ HB.out hb); clear hb)
  go_ret
  exact ⟨by cases y <;> rfl, HB.out⟩
end
theorem wp_namedR {P : Program} {c : Code} {Q : Exit → Act → World → Prop} {a : Act} {W : World} (R : World → Prop) (h : R W) (k : ∀ W', R W' → c.wp P Q a W') : c.wp P Q a W := k W h
/-- What the search keeps. -/
structure RZ (w : World) (A1 A2 : Option Addr) (c1 c2 : Nat) (t : Topo) (N db : Nat) (dist : List Int) (W : World) : Prop where
 x : Bl 25 w.heap.size #[.int .i64 t.n, .slice A1 t.ov.length c1, .slice A2 t.ls.length c2] W
 d : W.ownsRow (w.heap.size + 1) 3 1 (.slice (some ⟨db, 0, none⟩) N N) N (dist.map (Value.int .i64))
 b : Below w.heap.size w W
 g : w.heap.size < db
theorem RZ.up {w W W' : World} {A1 A2 : Option Addr} {c1 c2 : Nat} {t : Topo} {N db : Nat} {dist : List Int} (h : RZ w A1 A2 c1 c2 t N db dist W) (hb : Below W.heap.size W W') : RZ w A1 A2 c1 c2 t N db dist W' := ⟨h.x.up hb, own_up h.d hb, bQ h.b hb, h.g⟩
theorem RZ.put {w W : World} {A1 A2 : Option Addr} {c1 c2 : Nat} {t : Topo} {N db : Nat} {dist : List Int} (h : RZ w A1 A2 c1 c2 t N db dist W) (k : Nat) (x : Int) : RZ w A1 A2 c1 c2 t N db (dist.set k x) (W.setCell ⟨db, k, none⟩ (.int .i64 x)) :=
 ⟨h.x.other (by have := h.g; omega) _, own_put h.d x, Bset h.b (Nat.le_of_lt h.g), h.g⟩
/-- A call that returns distances that are the least ones. -/
def RetDs (t : Topo) (dn : List Bool) (d : Int) (w : World) (e : Ending) (w' : World) : Prop :=
 ∃ (A : Option Addr) (c : Nat) (dist : List Int), e = .returned (.tuple #[.slice A dist.length c, .int .i64 0]) ∧ Rd w' A (dist.map (Value.int .i64)) ∧ BI (sgDist t dn d) dist ∧ (∀ m, 0 ≤ m → m < ((sgDist t dn d).N : Int) → ∀ a ∈ (sgDist t dn d).arcs m, shut (sgDist t dn d) dist m a) ∧ Below w.heap.size w w'
/-- The arcs below k change nothing. -/
def shutTo (t : Topo) (dn : List Bool) (d : Int) (dist : List Int) (k : Nat) : Prop := ∀ a : Int, 0 ≤ a → a < (k : Int) → shut (sgDist t dn d) dist (fZ t a) a
theorem shutTo.snoc {t : Topo} {dn : List Bool} {d : Int} {dist : List Int} {k : Nat} (h : shutTo t dn d dist k) (h1 : shut (sgDist t dn d) dist (fZ t (k : Int)) (k : Int)) : shutTo t dn d dist (k + 1) := fun a a0 a1 => by
 by_cases e : a = (k : Int)
 ·subst e; exact h1
 ·exact h a a0 (by omega)
theorem RZ.cell {w W : World} {A1 A2 : Option Addr} {c1 c2 : Nat} {t : Topo} {N db : Nat} {dist : List Int} (h : RZ w A1 A2 c1 c2 t N db dist W) {i : Int} (h0 : 0 ≤ i) (h1 : i < (N : Int)) : W.cell? ⟨db, i.toNat, none⟩ = some (.int .i64 (dD dist i)) ∧ W.frozen? ⟨db, i.toNat, none⟩ = false := by
 obtain ⟨q, f⟩ := bZ (k := i.toNat) h.d (by omega)
 have hl : dist.length = N := by have := h.d.1; simpa using this
 refine ⟨?_, f⟩
 rw [q]
 unfold dD
 rw [List.getD_eq_getElem?_getD, List.getD_eq_getElem?_getD, List.getElem?_eq_getElem (by omega)]
 rfl
section
variable {w : World} {A1 A2 D : Option Addr} {t : Topo} {dn : List Bool}
set_option maxRecDepth 100000 in
set_option maxHeartbeats 16000000 in
theorem ref11_search (c1 c2 dc : Nat) (d : Int) (hv : valid t = true) (hd : isN t.n d = true) (hT : TAt w A1 A2 t) (hD : Rd w D (dn.map Value.bool)) (hdl : dn.length = 0 ∨ dn.length = 2 * t.ls.length) :
    Calls Tryz.prog 109 #[.agg #[.int .i64 t.n, .slice A1 t.ov.length c1, .slice A2 t.ls.length c2], .slice D dn.length dc, .int .i64 d, .bool false] w (RetDs t dn d w) := by
 have hN := iZ hv
 have hL := zQ hv
 obtain ⟨N, hNe⟩ : ∃ N, N = t.n.toNat := ⟨_, rfl⟩
 have hmk : ∀ W, (Instr.makeSlice 63 (.int .i64 t.n) (.int .i64 t.n)).run Tryz.prog W = .ok (.slice (some ⟨W.heap.size, 0, none⟩) N N) (mkI N W) := fun W => by
  have := run_mkI N (by omega) W
  rwa [show (N : Int) = t.n by omega] at this
 have HX := hU (Bl.new w #[.int .i64 t.n, .slice A1 t.ov.length c1, .slice A2 t.ls.length c2] 25)
 have HB := hU (cQ w (.cells #[.int .i64 t.n, .slice A1 t.ov.length c1, .slice A2 t.ls.length c2] 25))
 have HV := hU hv
 have HN := hU hN
 have HLL := hU hL
 have HNE := hU hNe
 have HT := hU hT
 have HD := hU hD
 have HDL := hU hdl
 have HDN := hU (isN_true.1 hd)
 have HDD := hU hd
 have hN64 : N ≤ 64 := by omega
 have hll := hL
 obtain ⟨b0, b1, b2, _⟩ := HX.out.c3
 have HFT := hU (ref11_Fits (w := w.alloc (.cells #[.int .i64 t.n, .slice A1 t.ov.length c1, .slice A2 t.ls.length c2] 25)) (D := D) (dn := dn) c1 c2 dc hv (hT.below HB.out) hdl)
 have hd0 := HDN.out.1
 have hd1 : decide (d ≥ t.n) = false := by simp; exact HDN.out.2
 have hd2 : decide (d < 0) = false := by simp; exact HDN.out.1
 clear hv hN hT hD hdl hd hNe hL
 go_enter Tryz.func109, Tryz.ntmps109
 go_upto_region 6 with (go_at_call 119; (with_reducible refine HFT.out.mono ?_); rintro e w1 ⟨rfl, hb⟩; have HB1 := hU hb; clear b0 b1 b2 hb; obtain ⟨b0, b1, b2, _⟩ := (HX.out.up HB1.out).c3)
 obtain ⟨db, hdb⟩ : ∃ db, db = w1.heap.size := ⟨_, rfl⟩
 refine wp_namedR (fun Y => RZ w A1 A2 c1 c2 t N db (fillN N 0) Y) ⟨(HX.out.up HB1.out).up (mkI_below _ _), by
  rw [fillN_zero, hdb]
  exact mkI_own N (by omega) w1 (w.heap.size + 1) (by have := HB1.out.size; rw [World.size_alloc] at this; exact this), bQ (bQ HB.out HB1.out) (mkI_below _ _), by rw [hdb]; have := HB1.out.size; rw [World.size_alloc] at this; omega⟩ ?_
 rw [← hdb]
 clear hdb HX HB HB1 HFT b0 b1 b2 hmk
 intro Y hY
 have HRZ := hU hY
 clear hY
 have hgd := HRZ.out.g
 go_wp2_with fail
 go_loopw [11] (fun i wr => ∃ k : Nat, k ≤ N ∧ i = .int .i64 k ∧ Hid (RZ w A1 A2 c1 c2 t N db (fillN N k) wr)) (fun i _ => N - (intOf i).toNat)
 case atStart => exact ⟨0, Nat.zero_le _, rfl, HRZ⟩
 case round =>
  clear HRZ
  obtain ⟨k, hk, rfl, HRZ⟩ := hrel
  obtain ⟨b0, b1, b2, _⟩ := HRZ.out.x.c3
  by_cases hlt : k < N
  ·have hlt' : (k : Int) < (N : Int) := by omega
   obtain ⟨dk, fk⟩ := bZ HRZ.out.d hlt
   go_wp2_with fail
   go_roundw
   case rel => exact ⟨k + 1, by omega, by go_num, hU (by rw [← fillN_set]; exact HRZ.out.put k (-1))⟩
   case measure => simp [intOf]; omega
  ·obtain rfl : k = N := by omega
   have hNT := HNE.out
   have hNN := HN.out
   have hdN := HDN.out.2
   obtain ⟨dk, fk⟩ := bZ (k := d.toNat) HRZ.out.d (by omega)
   obtain ⟨G, hG⟩ : ∃ G, G = sgDist t dn d := ⟨_, rfl⟩
   have HGOK : Hid G.Ok := hU (by rw [hG]; exact sgDist_ok HV.out HDD.out)
   have HGN : Hid (G.N = k) := hU (by rw [hG]; exact HNE.out.symm)
   have HG := hU hG
   have HST : Hid (BI G ((List.replicate k (-1)).set d.toNat 0)) := hU (by
    have := BI.start G HGOK.out
    rw [HGN.out, show G.r = d by rw [hG]; rfl] at this
    exact this)
   have HRZ2 : Hid (RZ w A1 A2 c1 c2 t k db ((List.replicate k (-1)).set d.toNat 0) (wr.setCell ⟨db, d.toNat, none⟩ (.int .i64 0))) := hU (by have := HRZ.out.put d.toNat 0; rwa [fillN_done] at this)
   have hdk : d < (k : Int) := by omega
   clear hNT hNN hdN hG
   go_upto_region 11 with fail
   generalize wr.setCell ⟨db, d.toNat, none⟩ (.int .i64 0) = Z at HRZ2 ⊢
   generalize (List.replicate k (-1)).set d.toNat 0 = dist0 at HST HRZ2
   clear HRZ b0 b1 b2 dk fk hlt
   go_wp2_with fail
   go_loopg [12] (wsum dist0 + 1) (fun gg ch wr => ∃ (c : Bool) (dist : List Int), ch = .bool c ∧ Hid (RZ w A1 A2 c1 c2 t k db dist wr) ∧ Hid (BI G dist) ∧ Hid (c = false → shutTo t dn d dist (2 * t.ls.length)) ∧ Hid ((if c = true then wsum dist + 1 else 0) ≤ gg))
   case atStart => exact ⟨true, dist0, rfl, HRZ2, HST, hU (fun h => by cases h), hU (Nat.le_refl _)⟩
   case round =>
    clear HRZ2 HST
    obtain ⟨c, dist, rfl, HRZ, HBI, HSH, HGG⟩ := hrel
    cases c with
    | false =>
     have HLEN : Hid (dist.length = k) := hU (by rw [HBI.out.len, HGN.out])
     have HDR : Hid (Rd wr (some ⟨db, 0, none⟩) (dist.map (Value.int .i64))) := hU (by obtain ⟨A, c, h1, h2⟩ := rd_of_own HRZ.out.d; injection h1 with h1 _ _; rw [h1]; exact h2.2.2)
     have HALL : Hid (∀ m, 0 ≤ m → m < ((sgDist t dn d).N : Int) → ∀ a ∈ (sgDist t dn d).arcs m, shut (sgDist t dn d) dist m a) := hU (fun m h0 h1 a ha => by
      obtain ⟨a0, a1, a2⟩ := mem_ups.1 ha
      have h2 := HSH.out rfl a a0 (by omega)
      simp only [beq_iff_eq] at a2
      rwa [a2] at h2)
     go_wp2_with fail
     go_ret2
     exact ⟨some ⟨db, 0, none⟩, k, dist, by rw [HLEN.out]; rfl, HDR.out, by rw [← HG.out]; exact HBI.out, HALL.out, HRZ.out.b⟩
    | true =>
     have hgk : wsum dist + 1 ≤ gk := by have := HGG.out; simpa using this
     have hw2 := IntWalk.wrap64_in (2 * (t.ls.length : Int)) (by omega)
     obtain ⟨b0, b1, b2, _⟩ := HRZ.out.x.c3
     go_wp2_with fail
     go_loopw [12, 13] (fun ch i wr => ∃ (j : Nat) (c : Bool) (dist' : List Int), j ≤ 2 * t.ls.length ∧ i = .int .i64 j ∧ ch = .bool c ∧ Hid (RZ w A1 A2 c1 c2 t k db dist' wr) ∧ Hid (BI G dist') ∧ Hid (c = false → dist' = dist ∧ shutTo t dn d dist' j) ∧ Hid (c = true → wsum dist' < wsum dist)) (fun _ i _ => 2 * t.ls.length - (intOf i).toNat)
     case atStart => exact ⟨0, false, dist, Nat.zero_le _, rfl, rfl, HRZ, HBI, hU (fun _ => ⟨rfl, fun a h0 h1 => by omega⟩), hU (fun h => by cases h)⟩
     case round =>
      clear HRZ HBI HSH HGG b0 b1 b2
      obtain ⟨j, c, dist', hj, rfl, rfl, HRZ, HBI, HSH, HDN⟩ := hrel
      obtain ⟨b0, b1, b2, _⟩ := HRZ.out.x.c3
      by_cases hjl : j < 2 * t.ls.length
      ·have hjl' : (j : Int) < 2 * (t.ls.length : Int) := by omega
       have HJL := hU hjl'
       have HAE := hU (arc_ends2 HV.out (a := (j : Int)) (by omega) hjl')
       have HCB := hU (cost_bd HV.out (a := (j : Int)) (by omega) hjl')
       obtain ⟨x, hx⟩ : ∃ x, x = tail t (j : Int) := ⟨_, rfl⟩
       obtain ⟨y, hy⟩ : ∃ y, y = fZ t (j : Int) := ⟨_, rfl⟩
       obtain ⟨u, hu⟩ : ∃ u, u = upB dn (j : Int) := ⟨_, rfl⟩
       obtain ⟨cst, hcst⟩ : ∃ cst, cst = cost t (j : Int) := ⟨_, rfl⟩
       obtain ⟨p, hp⟩ : ∃ p, p = ((y == d) || !over t y) := ⟨_, rfl⟩
       obtain ⟨vx, hvx⟩ : ∃ vx, vx = dD dist' x := ⟨_, rfl⟩
       obtain ⟨vy, hvy⟩ : ∃ vy, vy = dD dist' y := ⟨_, rfl⟩
       have HNK : Hid ((k : Int) = t.n) := hU (by have := HNE.out; have := HN.out; omega)
       have HXB : Hid (0 ≤ x ∧ x < (k : Int)) := hU (by rw [hx, HNK.out]; exact ⟨HAE.out.2.2.1, HAE.out.2.2.2⟩)
       have HYB : Hid (0 ≤ y ∧ y < (k : Int)) := hU (by rw [hy, HNK.out]; exact ⟨HAE.out.1, HAE.out.2.1⟩)
       have HYT : Hid (0 ≤ y ∧ y < t.n) := hU (by have := HYB.out; have := HNK.out; omega)
       have x0 := HXB.out.1
       have x1 := HXB.out.2
       have y0 := HYB.out.1
       have y1 := HYB.out.2
       have HU := hU hu.symm
       have HP := hU hp.symm
       have HVX := hU hvx.symm
       have HVY := hU hvy.symm
       have HXE := hU hx
       have HYE := hU hy
       have HCE := hU hcst
       have HDM : Hid (dn.length ≤ 100000) := hU (by have := HDL.out; have := HLL.out; omega)
       have HDJ : Hid (dn.length = 0 ∨ (0 ≤ (j : Int) ∧ (j : Int) < (dn.length : Int))) := hU (HDL.out.elim .inl (fun h => .inr (by omega)))
       have hajN : isN (2 * (t.ls.length : Int)) (j : Int) = true := isN_true.2 (by omega)
       have HAJ := hU hajN
       have HTL : Hid (∀ d os, Calls Tryz.prog 76 #[.agg #[.int .i64 t.n, .slice A1 t.ov.length c1, .slice A2 t.ls.length c2], .int .i64 (j : Int)] (grow (redrawn wr d) os) fun e w'' => e = .returned (.int .i64 x) ∧ ∃ p : Regrown, w'' = grow (redrawn wr p.d) p.os) := hU fun d os => by rw [hx]; exact Calls.regrown_of (ref09_TailT t A1 A2 c1 c2 (j : Int) _ ((HT.out.below HRZ.out.b).below (below_regrown _ d os)) (by have := HLL.out; omega) HV.out HAJ.out)
       have HHL : Hid (∀ d os, Calls Tryz.prog 105 #[.agg #[.int .i64 t.n, .slice A1 t.ov.length c1, .slice A2 t.ls.length c2], .int .i64 (j : Int)] (grow (redrawn wr d) os) fun e w'' => e = .returned (.int .i64 y) ∧ ∃ p : Regrown, w'' = grow (redrawn wr p.d) p.os) := hU fun d os => by rw [hy]; exact Calls.regrown_of (ref09_HeadT t A1 A2 c1 c2 (j : Int) _ ((HT.out.below HRZ.out.b).below (below_regrown _ d os)) (by have := HLL.out; omega) HV.out HAJ.out)
       have HGP : Hid (G.pass y ↔ p = true) := hU (by rw [HG.out, hp]; unfold SG.pass; simp [sgDist])
       have HGU : Hid (G.up (j : Int) = u) := hU (by rw [HG.out, hu]; rfl)
       have HGE : Hid (G.en (j : Int) = x) := hU (by rw [HG.out, hx]; rfl)
       have HGC : Hid (G.cost (j : Int) = cst) := hU (by rw [HG.out, hcst]; rfl)
       have HGA : Hid ((j : Int) ∈ G.arcs y) := hU (by rw [HG.out, hy]; exact mem_ups.2 ⟨by omega, by have := HJL.out; omega, by simp⟩)
       have HSN : Hid (shut G dist' y (j : Int) → c = false → dist' = dist ∧ shutTo t dn d dist' (j + 1)) := hU (fun h1 h2 => ⟨(HSH.out h2).1, (HSH.out h2).2.snoc (by rw [← HG.out, ← HYE.out]; exact h1)⟩)
       have HBX : Hid (-1 ≤ vx ∧ vx ≤ 65535 * 64 ∧ -1 ≤ vy ∧ vy ≤ 65535 * 64) := hU (by
        rw [hvx, hvy]
        exact ⟨HBI.out.lo x HXB.out.1 (by rw [HGN.out]; exact HXB.out.2), HBI.out.hi HGOK.out HXB.out.1 (by rw [HGN.out]; exact HXB.out.2), HBI.out.lo y HYB.out.1 (by rw [HGN.out]; exact HYB.out.2), HBI.out.hi HGOK.out HYB.out.1 (by rw [HGN.out]; exact HYB.out.2)⟩)
       clear hx hy hu hcst hp hvx hvy hajN
       go_upto_region 17 with fail
       obtain ⟨P1, P2, P3, -⟩ := kU b0 (kU b1 (kU b2 trivial))
       refine wp_region_quiet_below (by kernel_rfl) (by kernel_rfl) ?_
       repeat (go_big_quiet_step ((first | (with_reducible exact HTL.out _ _) | (with_reducible exact HHL.out _ _))))
       refine wpQuiet_nil ?_
       intro W2 hb
       replace hb := eQ hb
       clear P1 P2 P3
       have zU := uU hb b0 (uU hb b1 (uU hb b2 trivial)); clear b0 b1 b2; obtain ⟨b0, b1, b2, -⟩ := zU
       replace HRZ := hU (HRZ.out.up hb)
       clear hb b0 b1 b2 HTL HHL
       obtain ⟨b0, b1, b2, _⟩ := HRZ.out.x.c3
       obtain ⟨qx, fx⟩ := HRZ.out.cell HXB.out.1 HXB.out.2
       obtain ⟨qy, fy⟩ := HRZ.out.cell HYB.out.1 HYB.out.2
       rw [HVX.out] at qx
       rw [HVY.out] at qy
       cases u with
       | false =>
        have HS1 : Hid (shut G dist' y (j : Int)) := hU (fun _ _ h => by rw [HGU.out] at h; cases h)
        go_wp2_with (go_at_call 120; (with_reducible refine (ref11_Up dc (j : Int) (HD.out.below HRZ.out.b) HDJ.out HDM.out).mono ?_); rw [HU.out]; rintro e w3 ⟨rfl, hb⟩; replace HRZ := hU (HRZ.out.up hb); clear hb b0 b1 b2 qx fx qy fy; obtain ⟨b0, b1, b2, _⟩ := HRZ.out.x.c3; obtain ⟨qx, fx⟩ := HRZ.out.cell HXB.out.1 HXB.out.2; obtain ⟨qy, fy⟩ := HRZ.out.cell HYB.out.1 HYB.out.2; rw [HVX.out] at qx; rw [HVY.out] at qy)
        go_roundw
        case rel => exact ⟨j + 1, c, dist', by omega, by go_num, rfl, HRZ, HBI, hU (HSN.out HS1.out), HDN⟩
        case measure => simp [intOf]; omega
       | true =>
        by_cases g1 : vy < 0
        ·have g1b : decide (vy < 0) = true := by simp [g1]
         have HS1 : Hid (shut G dist' y (j : Int)) := hU (fun h _ _ => by rw [HVY.out] at h; omega)
         clear g1
         go_wp2_with (go_at_call 120; (with_reducible refine (ref11_Up dc (j : Int) (HD.out.below HRZ.out.b) HDJ.out HDM.out).mono ?_); rw [HU.out]; rintro e w3 ⟨rfl, hb⟩; replace HRZ := hU (HRZ.out.up hb); clear hb b0 b1 b2 qx fx qy fy; obtain ⟨b0, b1, b2, _⟩ := HRZ.out.x.c3; obtain ⟨qx, fx⟩ := HRZ.out.cell HXB.out.1 HXB.out.2; obtain ⟨qy, fy⟩ := HRZ.out.cell HYB.out.1 HYB.out.2; rw [HVX.out] at qx; rw [HVY.out] at qy)
         go_roundw
         case rel => exact ⟨j + 1, c, dist', by omega, by go_num, rfl, HRZ, HBI, hU (HSN.out HS1.out), HDN⟩
         case measure => simp [intOf]; omega
        ·have g1b : decide (vy < 0) = false := by simp; omega
         have HY0 : Hid (0 ≤ vy) := hU (by omega)
         clear g1
         cases p with
         | false =>
          have HS1 : Hid (shut G dist' y (j : Int)) := hU (fun _ h _ => by have := HGP.out.1 h; cases this)
          go_wp2_with (first | (go_at_call 120; (with_reducible refine (ref11_Up dc (j : Int) (HD.out.below HRZ.out.b) HDJ.out HDM.out).mono ?_); rw [HU.out]; rintro e w3 ⟨rfl, hb⟩; replace HRZ := hU (HRZ.out.up hb); clear hb b0 b1 b2 qx fx qy fy; obtain ⟨b0, b1, b2, _⟩ := HRZ.out.x.c3; obtain ⟨qx, fx⟩ := HRZ.out.cell HXB.out.1 HXB.out.2; obtain ⟨qy, fy⟩ := HRZ.out.cell HYB.out.1 HYB.out.2; rw [HVX.out] at qx; rw [HVY.out] at qy) | (go_at_call 121; (with_reducible refine (ref11_transit c1 c2 y d HV.out (HT.out.below HRZ.out.b) HYT.out.1 HYT.out.2).mono ?_); rw [HP.out]; rintro e w4 ⟨rfl, hb⟩; replace HRZ := hU (HRZ.out.up hb); clear hb b0 b1 b2 qx fx qy fy; obtain ⟨b0, b1, b2, _⟩ := HRZ.out.x.c3; obtain ⟨qx, fx⟩ := HRZ.out.cell HXB.out.1 HXB.out.2; obtain ⟨qy, fy⟩ := HRZ.out.cell HYB.out.1 HYB.out.2; rw [HVX.out] at qx; rw [HVY.out] at qy))
          go_roundw
          case rel => exact ⟨j + 1, c, dist', by omega, by go_num, rfl, HRZ, HBI, hU (HSN.out HS1.out), HDN⟩
          case measure => simp [intOf]; omega
         | true =>
          go_upto_region 21 with (first | (go_at_call 120; (with_reducible refine (ref11_Up dc (j : Int) (HD.out.below HRZ.out.b) HDJ.out HDM.out).mono ?_); rw [HU.out]; rintro e w3 ⟨rfl, hb⟩; replace HRZ := hU (HRZ.out.up hb); clear hb b0 b1 b2 qx fx qy fy; obtain ⟨b0, b1, b2, _⟩ := HRZ.out.x.c3; obtain ⟨qx, fx⟩ := HRZ.out.cell HXB.out.1 HXB.out.2; obtain ⟨qy, fy⟩ := HRZ.out.cell HYB.out.1 HYB.out.2; rw [HVX.out] at qx; rw [HVY.out] at qy) | (go_at_call 121; (with_reducible refine (ref11_transit c1 c2 y d HV.out (HT.out.below HRZ.out.b) HYT.out.1 HYT.out.2).mono ?_); rw [HP.out]; rintro e w4 ⟨rfl, hb⟩; replace HRZ := hU (HRZ.out.up hb); clear hb b0 b1 b2 qx fx qy fy; obtain ⟨b0, b1, b2, _⟩ := HRZ.out.x.c3; obtain ⟨qx, fx⟩ := HRZ.out.cell HXB.out.1 HXB.out.2; obtain ⟨qy, fy⟩ := HRZ.out.cell HYB.out.1 HYB.out.2; rw [HVX.out] at qx; rw [HVY.out] at qy))
          have HCO : Hid (∀ d os, Calls Tryz.prog 122 #[.agg #[.int .i64 t.n, .slice A1 t.ov.length c1, .slice A2 t.ls.length c2], .int .i64 (j : Int)] (grow (redrawn w4 d) os) fun e w'' => e = .returned (.int .i64 cst) ∧ ∃ p : Regrown, w'' = grow (redrawn w4 p.d) p.os) := hU fun d os => by rw [HCE.out]; exact Calls.regrown_of (ref09_CostT t A1 A2 c1 c2 (j : Int) _ ((HT.out.below HRZ.out.b).below (below_regrown _ d os)) (by have := HLL.out; omega) HV.out HAJ.out)
          have hwc := IntWalk.wrap64_in (vy + cst) (by have := HBX.out; have := HCB.out; have := HCE.out; omega)
          obtain ⟨P1, P2, P3, P4, P5, -⟩ := kU b0 (kU b1 (kU b2 (kU qx (kU qy trivial))))
          refine wp_region_quiet_below (by kernel_rfl) (by kernel_rfl) ?_
          repeat (go_big_quiet_step ((with_reducible exact HCO.out _ _)))
          refine wpQuiet_nil ?_
          intro W5 hb
          replace hb := eQ hb
          clear P1 P2 P3 P4 P5
          have zU := uU hb b0 (uU hb b1 (uU hb b2 (uU hb qx (uU hb qy trivial)))); clear b0 b1 b2 qx qy; obtain ⟨b0, b1, b2, qx, qy, -⟩ := zU
          clear HCO
          replace HRZ := hU (HRZ.out.up hb)
          clear hb b0 b1 b2 qx fx qy fy
          obtain ⟨b0, b1, b2, _⟩ := HRZ.out.x.c3
          obtain ⟨qx, fx⟩ := HRZ.out.cell HXB.out.1 HXB.out.2
          obtain ⟨qy, fy⟩ := HRZ.out.cell HYB.out.1 HYB.out.2
          rw [HVX.out] at qx
          rw [HVY.out] at qy
          obtain ⟨z, hz⟩ : ∃ z, z = vy + cst := ⟨_, rfl⟩
          rw [← hz]
          have HZ := hU hz
          rw [← hz] at hwc
          clear hz
          by_cases g2 : vx < 0
          ·have g2b : decide (vx < 0) = true := by simp [g2]
           have HPT := hU (HBI.out.put HGOK.out HYB.out.1 (by rw [HGN.out]; exact HYB.out.2) HGA.out (by rw [HVY.out]; exact HY0.out) (HGP.out.2 (by first | rfl | trivial)) HGU.out (.inl (by rw [HGE.out, HVX.out]; exact g2)))
           rw [HGE.out, HGC.out, HVY.out, ← HZ.out] at HPT
           clear g2
           go_wp2_with fail
           go_roundw
           case rel => exact ⟨j + 1, true, dist'.set x.toNat z, by omega, by go_num, rfl, hU (HRZ.out.put x.toNat z), hU HPT.out.1, hU (fun h => by cases h), hU (fun _ => by cases c with | false => (have h1 := (HSH.out rfl).1; have h2 := HPT.out.2; rw [h1] at h2 ⊢; exact h2) | true => exact Nat.lt_trans HPT.out.2 (HDN.out rfl))⟩
           case measure => simp [intOf]; omega
          ·have g2b : decide (vx < 0) = false := by simp; omega
           by_cases g3 : z < vx
           ·have g3b : decide (z < vx) = true := by simp [g3]
            have HPT := hU (HBI.out.put HGOK.out HYB.out.1 (by rw [HGN.out]; exact HYB.out.2) HGA.out (by rw [HVY.out]; exact HY0.out) (HGP.out.2 (by first | rfl | trivial)) HGU.out (.inr (by rw [HGE.out, HGC.out, HVX.out, HVY.out, ← HZ.out]; exact g3)))
            rw [HGE.out, HGC.out, HVY.out, ← HZ.out] at HPT
            clear g2 g3
            go_wp2_with fail
            go_roundw
            case rel => exact ⟨j + 1, true, dist'.set x.toNat z, by omega, by go_num, rfl, hU (HRZ.out.put x.toNat z), hU HPT.out.1, hU (fun h => by cases h), hU (fun _ => by cases c with | false => (have h1 := (HSH.out rfl).1; have h2 := HPT.out.2; rw [h1] at h2 ⊢; exact h2) | true => exact Nat.lt_trans HPT.out.2 (HDN.out rfl))⟩
            case measure => simp [intOf]; omega
           ·have g3b : decide (z < vx) = false := by simp; omega
            have HS1 : Hid (shut G dist' y (j : Int)) := hU (fun _ _ _ => by rw [HGE.out, HGC.out, HVX.out, HVY.out, ← HZ.out]; omega)
            clear g2 g3
            go_wp2_with fail
            go_roundw
            case rel => exact ⟨j + 1, c, dist', by omega, by go_num, rfl, HRZ, HBI, hU (HSN.out HS1.out), HDN⟩
            case measure => simp [intOf]; omega
      ·obtain rfl : j = 2 * t.ls.length := by omega
       go_wp2_with fail
       cases c with
       | false =>
        go_roundg 0
        case measure => omega
        case rel => exact ⟨false, dist', rfl, HRZ, HBI, hU (fun _ => by have h := HSH.out rfl; exact h.2), hU (Nat.le_refl _)⟩
       | true =>
        have h := HDN.out rfl
        go_roundg (wsum dist' + 1)
        case measure => omega
        case rel => exact ⟨true, dist', rfl, HRZ, HBI, hU (fun h => by cases h), hU (Nat.le_refl _)⟩
end
end
end Go.Proofs.YtdnjflpmbnjgeaaGreat
